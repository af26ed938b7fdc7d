/- Rows of numbers: those that came in; those that a call has built: append. -/
import Derived.Test.YtngaofoedkankaaDoorStrs
import Derived.Test.YtngaofoedkankaaDoorFrame
import Derived.Laws.AppendOwn
import Derived.Laws.AppendOwnNone
import Derived.Lib.AppendIntMem
namespace Go.Proofs.YtngaofoedkankaaDoor
open Go.RowKit
set_option linter.unusedVariables false

theorem infoInt : (Tryd.prog.info? 3).map (fun i => (i.zero, i.size, i.bytes)) = some (some (.int .i64 0), 1, 8) := by kernel_rfl
/-- The slice v, made by the call (its block is B or later), holds these numbers. -/
def OwnsI (W : World) (B : Nat) (v : Value) (L : List Int) : Prop := W.ownsRow B 3 1 v L.length (L.map fun x => .int .i64 x)
def ReadsI (W : World) (v : Value) (L : List Int) : Prop :=
  ∃ ao cap, v = .slice ao L.length cap ∧ L.length ≤ cap ∧ cap ≤ maxLen ∧ (ao = none → cap = 0) ∧ (0 < L.length → ∃ b off, ao = some ⟨b, off, none⟩ ∧ b < W.heap.size ∧ ∀ j (h : j < L.length), W.cell? ⟨b, off + j, none⟩ = some (.int .i64 L[j]))
theorem ReadsI.below {W W' : World} {v : Value} {L : List Int} (h : ReadsI W v L) (hb : Below W.heap.size W W') : ReadsI W' v L := by
  obtain ⟨ao, cap, h1, h2, h3, h3', h4⟩ := h
  refine ⟨ao, cap, h1, h2, h3, h3', fun h0 => ?_⟩
  obtain ⟨b, off, e1, e2, e3⟩ := h4 h0
  exact ⟨b, off, e1, Nat.lt_of_lt_of_le e2 hb.size, fun j hj => by rw [hb.cell (p := ⟨b, off + j, none⟩) e2]; exact e3 j hj⟩
theorem ReadsI.take {W : World} {ao : Option Addr} {cap : Nat} {L : List Int} (h : ReadsI W (.slice ao L.length cap) L) {n : Nat} (hn : n ≤ L.length) : ReadsI W (.slice ao n cap) (L.take n) := by
  obtain ⟨ao', cap', e1, e2, e3, e3', e4⟩ := h
  injection e1 with e5 e6 e7
  subst e5
  subst e7
  have hl : (L.take n).length = n := by simp; omega
  refine ⟨ao, cap, by rw [hl], by omega, e3, e3', fun h0 => ?_⟩
  obtain ⟨b, off, f1, f2, f3⟩ := e4 (by omega)
  exact ⟨b, off, f1, f2, fun j hj => by rw [List.getElem_take]; exact f3 j (by omega)⟩
theorem reads_inI {w : World} {v : Value} {L : List (List Value)} (hv : RowsIn w 1 v L ∧ ∀ c ∈ L, AllSh [.int .i64] c) : ∃ xs, ReadsI w v xs := by
  obtain ⟨hrow, hsh⟩ := hv
  obtain ⟨xs, rfl, _⟩ := decode (fun x : Int => [Value.int .i64 x]) (R := fun _ => True) (fun c h => by
    obtain ⟨_, _, rfl, ⟨s, rfl, hs⟩, rfl⟩ := h
    exact ⟨s, rfl, trivial⟩) L hsh
  obtain ⟨a, len, cap, rfl, hl, hm, hlen, ⟨_, hnone⟩, hcell⟩ := hrow
  rw [List.length_map] at hlen
  subst hlen
  refine ⟨xs, ⟨a, cap, rfl, hl, hm, hnone, fun h0 => ?_⟩⟩
  obtain ⟨b, off, e1, e2, e3⟩ := hcell h0 (by omega)
  refine ⟨b, off, e1, e2, fun j hj => ?_⟩
  have := e3 j 0 hj (by omega)
  rw [Nat.mul_one, Nat.add_zero] at this
  rw [this]
  simp [List.getD, hj]
theorem OwnsI.at {W : World} {B : Nat} {v : Value} {L : List Int} (h : OwnsI W B v L) (k : Nat) (hk : k < L.length) : ∃ g cap, v = .slice (some ⟨g, 0, none⟩) L.length cap ∧ L.length ≤ cap ∧ cap ≤ maxLen ∧ g < W.heap.size ∧ B ≤ g ∧ ∀ j (hj : j < L.length), W.cell? ⟨g, j, none⟩ = some (.int .i64 L[j]) := by
  obtain ⟨h1, h2⟩ := h
  rcases h2 with ⟨h2, h3⟩ | ⟨g, cap, cur, h3, h4, h5, h6, h7, h8, h9⟩
  · omega
  · refine ⟨g, cap, h3, h6, h7, ?_, h4, fun j hj => ?_⟩
    · rcases Nat.lt_or_ge g W.heap.size with h | h
      · exact h
      · rw [Array.getElem?_eq_none h] at h5; cases h5
    · rw [Joins.cell_of_block h5]
      have e := congrArg (fun l => l[j]?) h9
      simp only [List.getElem?_take] at e
      rw [if_pos (by omega)] at e
      simp only [Array.getElem?_toList] at e
      rw [e]
      simp [hj]
theorem OwnsI.made (W : World) (B : Nat) (hB : B ≤ W.heap.size) : OwnsI (W.alloc (.cells #[] 3)) B (.slice (some ⟨W.heap.size, 0, none⟩) 0 0) [] :=
  ⟨rfl, .inr ⟨W.heap.size, 0, #[], rfl, hB, by show (W.heap.push _)[W.heap.size]? = _; rw [Array.getElem?_push_size], Nat.le_refl _, by decide, rfl, rfl⟩⟩
/-- 'out = append(out, l...)', l a row of numbers. -/
theorem wp_append_ints {ops : Array Oper} {rest : List Oper} {o : Oper} {a : Act} {Q : Exit → Act → World → Prop} (hgd : o.guard = none) (s x : Operand)
    (ho : o.op = .call { callee := .builtin .append, args := #[s, x], argTypes := #[24, 24] })
    (W : World) (B : Nat) (v : Value) (L0 : List Int) (hown : OwnsI W B v L0) (hs : a.eval s = v) (ao : Option Addr) (n cap : Nat) (L : List Int) (hr : ReadsI W (.slice ao n cap) L) (hx : a.eval x = .slice ao n cap)
    (hn : L0.length + L.length ≤ 1099511627776) (hB : B ≤ W.heap.size)
    (h : ∀ v' w', OwnsI w' B v' (L0 ++ L) → Below B W w' → wpList Tryd.prog ops Q rest (a.put o.dst v') w') : wpList Tryd.prog ops Q (o :: rest) a W := by
  obtain ⟨i0, hi, hz0, hz1, hz2⟩ := info_parts infoInt
  obtain ⟨ao', cap', e1, e2, e3, e4, e5⟩ := hr
  injection e1 with e6 e7 e8
  subst e6
  subst e7
  subst e8
  have hown' : W.ownsRow B 3 1 v L0.length (L0.map fun x => .int .i64 x) := hown
  cases ao with
  | none =>
    have hc0 := e4 rfl
    have hz : L.length = 0 := by omega
    obtain rfl : L = [] := List.length_eq_zero_iff.1 hz
    subst hc0
    refine wpList_append_own_none hgd s x 24 ho B 3 i0 1 Tryd.underlying24 hi v L0.length _ hs hown' hx ?_
    subst hs
    exact h _ _ (by rw [List.append_nil]; exact hown) (Below.refl _ _)
  | some ad =>
    refine wpList_append_own _ hgd s x 24 ho B 3 i0 (.int .i64 0) 1 8 Tryd.underlying24 hi hz0 hz1 hz2 rfl (by decide) v L0.length _ hs hown' ad L.length cap (L.map fun x => .int .i64 x) hx (by simp) ?_ ?_ ?_ ?_ hB ?_
    · intro j u hj
      have hjl : j < L.length := by
        rcases Nat.lt_or_ge j L.length with h' | h'
        · exact h'
        · rw [List.getElem?_eq_none (by rw [List.length_map]; exact h')] at hj; cases hj
      rw [List.getElem?_map, List.getElem?_eq_getElem hjl] at hj
      simp only [Option.map_some, Option.some.injEq] at hj
      subst hj
      obtain ⟨b, off, f1, f2, f3⟩ := e5 (by omega)
      cases f1
      have hadd : ((⟨b, off, none⟩ : Addr).add j) = ⟨b, off + j, none⟩ := by
        unfold Addr.add; split
        · rename_i e; subst e; rfl
        · rfl
      rw [hadd]
      exact f3 j hjl
    · intro u hu
      obtain ⟨x, _, rfl⟩ := List.mem_map.1 hu
      rfl
    · unfold maxLen; omega
    · omega
    · intro v' w' h1 h2 h3
      exact h v' w' (by unfold OwnsI; simpa using h1) (Below.grown (Below.refl _ _) h2 hB (fun k hk => (World.ownsRow.lt hown' k hk).1))
theorem OwnsI.below {W W' : World} {B : Nat} {v : Value} {L : List Int} (h : OwnsI W B v L) (hb : Below W.heap.size W W') : OwnsI W' B v L := by
  obtain ⟨h1, h2⟩ := h
  refine ⟨h1, ?_⟩
  rcases h2 with h2 | ⟨g, cap, cur, h3, h4, h5, h6⟩
  · exact .inl h2
  · refine .inr ⟨g, cap, cur, h3, h4, ?_, h6⟩
    have hg : g < W.heap.size := by
      rcases Nat.lt_or_ge g W.heap.size with h | h
      · exact h
      · rw [Array.getElem?_eq_none h] at h5; cases h5
    rw [hb.block g hg]
    exact h5
theorem OwnsI.made_at (W : World) (B g : Nat) (hg : g = W.heap.size) (hB : B ≤ g) : OwnsI (W.alloc (.cells #[] 3)) B (.slice (some ⟨g, 0, none⟩) 0 0) [] := by
  subst hg; exact OwnsI.made W B hB
/-- One number, just laid. -/
theorem reads_one_at {W : World} (x : Int) (g : Nat) (hg : g = W.heap.size) : ReadsI (W.alloc (.cells #[.int .i64 x] 3)) (.slice (some ⟨g, 0, none⟩) 1 1) [x] := by
  subst hg
  exact ⟨_, 1, rfl, Nat.le_refl _, by decide, (fun h => by cases h), fun _ => ⟨W.heap.size, 0, rfl, by simp, fun j hj => by
    obtain rfl : j = 0 := by simpa using hj
    rw [World.cell?_alloc_new]; rfl⟩⟩
end Go.Proofs.YtngaofoedkankaaDoor
