/- Rows of fields: a field found by its name, all values of a name, joined: the walks, and the document's. Printed by tools/vvrow.py. -/
import Derived.Test.YtenflcaalckdfaaGreatDoorVv8
import Derived.Test.YtenflcaalckdfaaGreatDoorVv7
import Derived.Test.YtenflcaalckdfaaGreatDoorVv15
import Derived.Test.YtenflcaalckdfaaGreatDoorVv11
import Derived.Test.YtenflcaalckdfaaGreatDoorVv42
import Derived.Test.YtenflcaalckdfaaGreatDoorVv28
import Derived.ArgAppend
import Derived.Laws.AppendOwnNone
import Derived.Laws.EntriesVeiled
namespace Go.Proofs.YtenflcaalckdfaaGreatDoor
open Go.RowKit Go.Sort Go.Shelf
set_option linter.unusedVariables false
set_option linter.unusedSimpArgs false


abbrev FldT := List UInt8 × List UInt8
def fcellsT (f : FldT) : List Value := [.string (S f.1), .string (S f.2)]
theorem flat_lenT : ∀ L : List FldT, (L.flatMap fcellsT).length = L.length * 2
  | [] => rfl
  | f :: L => by rw [List.flatMap_cons, List.length_append, flat_lenT L]; simp [fcellsT]; omega
theorem flat_atT : ∀ (L : List FldT) (j : Nat) (h : j < L.length), (L.flatMap fcellsT)[j * 2]? = some (.string (S L[j].1)) ∧ (L.flatMap fcellsT)[j * 2 + 1]? = some (.string (S L[j].2))
  | [], j, h => by simp at h
  | f :: L, 0, h => by simp [fcellsT]
  | f :: L, j + 1, h => by
    obtain ⟨h1, h2⟩ := flat_atT L j (by simpa using h)
    rw [List.flatMap_cons]
    refine ⟨?_, ?_⟩
    · rw [List.getElem?_append_right (by simp [fcellsT]; omega), show (j + 1) * 2 - (fcellsT f).length = j * 2 by simp [fcellsT]; omega, h1]; rfl
    · rw [List.getElem?_append_right (by simp [fcellsT]; omega), show (j + 1) * 2 + 1 - (fcellsT f).length = j * 2 + 1 by simp [fcellsT]; omega, h2]; rfl
theorem flat_oneT (L : List FldT) : ∀ u ∈ L.flatMap fcellsT, u.oneCell' = true := by
  intro u hu
  obtain ⟨f, _, hf⟩ := List.mem_flatMap.1 hu
  simp [fcellsT] at hf
  rcases hf with rfl | rfl <;> rfl

theorem infoFldT : (Tryz.prog.info? 94).map (fun i => (i.zero, i.size, i.bytes)) = some (some (.agg #[.string ⟨#[]⟩, .string ⟨#[]⟩]), 2, 32) := by kernel_rfl

def OwnsFT (W : World) (B : Nat) (v : Value) (L : List FldT) : Prop := W.ownsRow B 94 2 v L.length (L.flatMap fcellsT)
def ReadsFT (W : World) (v : Value) (L : List FldT) : Prop :=
  ∃ ao cap, v = .slice ao L.length cap ∧ L.length ≤ cap ∧ cap ≤ maxLen ∧ (ao = none → cap = 0) ∧ (0 < L.length → ∃ b off, ao = some ⟨b, off, none⟩ ∧ b < W.heap.size ∧
    ∀ j (h : j < L.length), W.cell? ⟨b, off + j * 2, none⟩ = some (.string (S L[j].1)) ∧ W.cell? ⟨b, off + j * 2 + 1, none⟩ = some (.string (S L[j].2)))
theorem OwnsFT.nil (W : World) (B : Nat) : OwnsFT W B (.slice none 0 0) [] := World.ownsRow_nil _ _ _ _
theorem ReadsFT.nil (W : World) : ReadsFT W (.slice none 0 0) [] := ⟨none, 0, rfl, Nat.le_refl _, by decide, fun _ => rfl, fun h => by simp at h⟩
theorem OwnsFT.made (W : World) (B : Nat) (hB : B ≤ W.heap.size) : OwnsFT (W.alloc (.cells #[] 94)) B (.slice (some ⟨W.heap.size, 0, none⟩) 0 0) [] :=
  ⟨rfl, .inr ⟨W.heap.size, 0, #[], rfl, hB, by show (W.heap.push _)[W.heap.size]? = _; rw [Array.getElem?_push_size], Nat.le_refl _, by decide, rfl, rfl⟩⟩
theorem OwnsFT.below {W W' : World} {B : Nat} {v : Value} {L : List FldT} (h : OwnsFT W B v L) (hb : Below W.heap.size W W') : OwnsFT W' B v L := by
  obtain ⟨h1, h2⟩ := h
  refine ⟨h1, ?_⟩
  rcases h2 with h2 | ⟨g, cap, cur, h3, h4, h5, h6⟩
  · exact .inl h2
  · refine .inr ⟨g, cap, cur, h3, h4, ?_, h6⟩
    have hg : g < W.heap.size := by
      rcases Nat.lt_or_ge g W.heap.size with h | h
      · exact h
      · rw [Array.getElem?_eq_none h] at h5; cases h5
    rw [hb.block g hg]
    exact h5
theorem OwnsFT.base {W : World} {B B' : Nat} {v : Value} {L : List FldT} (h : OwnsFT W B v L) (hb : B' ≤ B) : OwnsFT W B' v L := by
  obtain ⟨h1, h2⟩ := h
  refine ⟨h1, ?_⟩
  rcases h2 with h2 | ⟨g, cap, cur, h3, h4, h5⟩
  · exact .inl h2
  · exact .inr ⟨g, cap, cur, h3, Nat.le_trans hb h4, h5⟩
theorem OwnsFT.reads {W : World} {B : Nat} {v : Value} {L : List FldT} (h : OwnsFT W B v L) : ReadsFT W v L := by
  obtain ⟨h1, h2⟩ := h
  rcases h2 with ⟨h2, h3⟩ | ⟨g, cap, cur, h3, h4, h5, h6, h7, h8, h9⟩
  · have : L = [] := List.length_eq_zero_iff.1 h3
    subst this; rw [h2]; exact ReadsFT.nil W
  · have hg : g < W.heap.size := by
      rcases Nat.lt_or_ge g W.heap.size with h | h
      · exact h
      · rw [Array.getElem?_eq_none h] at h5; cases h5
    refine ⟨_, cap, h3, h6, h7, (fun h => by cases h), fun h0 => ⟨g, 0, rfl, hg, fun j hj => ?_⟩⟩
    have hcell : ∀ q, q < L.length * 2 → W.cell? ⟨g, q, none⟩ = (L.flatMap fcellsT)[q]? := fun q hq => by
      rw [Joins.cell_of_block h5, ← h9, List.getElem?_take, if_pos hq, Array.getElem?_toList]
    obtain ⟨e1, e2⟩ := flat_atT L j hj
    rw [Nat.zero_add]
    exact ⟨(hcell _ (by omega)).trans e1, (hcell _ (by omega)).trans e2⟩
theorem ReadsFT.below {W W' : World} {v : Value} {L : List FldT} (h : ReadsFT W v L) (hb : Below W.heap.size W W') : ReadsFT W' v L := by
  obtain ⟨ao, cap, h1, h2, h3, h3', h4⟩ := h
  refine ⟨ao, cap, h1, h2, h3, h3', fun h0 => ?_⟩
  obtain ⟨b, off, e1, e2, e3⟩ := h4 h0
  refine ⟨b, off, e1, Nat.lt_of_lt_of_le e2 hb.size, fun j hj => ?_⟩
  rw [hb.cell (p := ⟨b, off + j * 2, none⟩) e2, hb.cell (p := ⟨b, off + j * 2 + 1, none⟩) e2]
  exact e3 j hj

theorem two_cellsT (W : World) (f : FldT) : ∀ j u, (fcellsT f)[j]? = some u → (W.alloc (.cells #[.string (S f.1), .string (S f.2)] 94)).cell? ((⟨W.heap.size, 0, none⟩ : Addr).add j) = some u := by
  intro j u hj
  match j, hj with
  | 0, hj => simp [fcellsT] at hj; subst hj; simp [Addr.add]
  | 1, hj => simp [fcellsT] at hj; subst hj; simp [Addr.add]

theorem OwnsFT.apart {W W0 w' : World} {B B0 : Nat} {v1 v2 : Value} {L1 L2 : List FldT} (h1 : OwnsFT W B v1 L1) (h2 : OwnsFT W0 B0 v2 L2) (hB : W0.heap.size ≤ B) (hg : W.grownBy w' v2.ownBlock) : OwnsFT w' B v1 L1 := by
  refine World.ownsRow.kept h1 hg ?_
  cases hv : v1.ownBlock with
  | none => exact .inl rfl
  | some k =>
    refine .inr fun e => ?_
    have a := World.ownsRow.lt h1 k hv
    have b := World.ownsRow.lt h2 k e.symm
    omega

theorem wp_append_fldT {ops : Array Oper} {rest : List Oper} {o : Oper} {a : Act} {Q : Exit → Act → World → Prop} (hgd : o.guard = none) (s x : Operand)
    (ho : o.op = .call { callee := .builtin .append, args := #[s, x], argTypes := #[33, 33] })
    (W : World) (B : Nat) (v : Value) (L : List FldT) (f : FldT) (hown : OwnsFT W B v L) (hs : a.eval s = v) (g : Nat) (hx : a.eval x = .slice (some ⟨g, 0, none⟩) 1 1) (hg : g = W.heap.size)
    (hn : L.length ≤ 2199023255552) (hB : B ≤ W.heap.size)
    (h : ∀ v' w', OwnsFT w' B v' (L ++ [f]) → Below B W w' → (W.alloc (.cells #[.string (S f.1), .string (S f.2)] 94)).grownBy w' v.ownBlock → wpList Tryz.prog ops Q rest (a.put o.dst v') w') : wpList Tryz.prog ops Q (o :: rest) a (W.alloc (.cells #[.string (S f.1), .string (S f.2)] 94)) := by
  subst hg
  obtain ⟨i0, hi, hz0, hz1, hz2⟩ := info_parts infoFldT
  have hown' : (W.alloc (.cells #[.string (S f.1), .string (S f.2)] 94)).ownsRow B 94 2 v L.length (L.flatMap fcellsT) := World.ownsRow.alloc hown _
  refine wpList_append_own _ hgd s x 33 ho B 94 i0 (.agg #[.string ⟨#[]⟩, .string ⟨#[]⟩]) 2 32 Tryz.underlying33 hi hz0 hz1 hz2 rfl (by decide) v L.length _ hs hown' ⟨W.heap.size, 0, none⟩ 1 1 (fcellsT f) hx rfl (two_cellsT W f) ?_ ?_ ?_ ?_ ?_
  · intro u hu; simp [fcellsT] at hu; rcases hu with rfl | rfl <;> rfl
  · unfold maxLen; omega
  · omega
  · simp; omega
  · intro v' w' h1 h2 h3
    refine h v' w' (by unfold OwnsFT; simpa using h1) ?_ ?_
    · refine Below.grown (w := W.alloc (.cells #[.string (S f.1), .string (S f.2)] 94)) ((Below.refl _ _).alloc hB _) h2 (by simp; omega) ?_
      intro k hk
      exact (World.ownsRow.lt hown' k hk).1
    · exact h2

theorem wp_append_clipT {ops : Array Oper} {rest : List Oper} {o : Oper} {a : Act} {Q : Exit → Act → World → Prop} (hgd : o.guard = none) (s x : Operand)
    (ho : o.op = .call { callee := .builtin .append, args := #[s, x], argTypes := #[33, 33] })
    (W : World) (ao : Option Addr) (cap : Nat) (L : List FldT) (f : FldT) (hr : ReadsFT W (.slice ao L.length cap) L) (hs : a.eval s = .slice ao L.length L.length) (g : Nat) (hx : a.eval x = .slice (some ⟨g, 0, none⟩) 1 1) (hg : g = W.heap.size)
    (hn : L.length ≤ 2199023255552)
    (h : ∀ v' w', OwnsFT w' W.heap.size v' (L ++ [f]) → Below W.heap.size W w' → wpList Tryz.prog ops Q rest (a.put o.dst v') w') : wpList Tryz.prog ops Q (o :: rest) a (W.alloc (.cells #[.string (S f.1), .string (S f.2)] 94)) := by
  subst hg
  obtain ⟨i0, hi, hz0, hz1, hz2⟩ := info_parts infoFldT
  obtain ⟨ao', cap', e1, e2, e3, e4, e5⟩ := hr
  injection e1 with e6 e7 e8
  subst e6
  refine wpList_append_grows _ hgd s x 33 ho 94 i0 (.agg #[.string ⟨#[]⟩, .string ⟨#[]⟩]) 2 32 Tryz.underlying33 hi hz0 hz1 hz2 rfl (by decide) ao L.length L.length (L.flatMap fcellsT) hs (fun hno => ?_) (flat_lenT L) ?_ ⟨W.heap.size, 0, none⟩ 1 1 (fcellsT f) hx rfl (two_cellsT W f) ?_ (by omega) ?_ ?_ ?_
  · have := e4 hno; omega
  · intro b hb j u hj
    have hlen := flat_lenT L
    have hj2 : j < L.length * 2 := by
      rcases Nat.lt_or_ge j (L.length * 2) with h' | h'
      · exact h'
      · rw [List.getElem?_eq_none (by omega)] at hj; cases hj
    obtain ⟨b0, off, e9, e10, e11⟩ := e5 (by omega)
    rw [hb] at e9
    cases e9
    have hal := Below.alloc (Below.refl W.heap.size W) (Nat.le_refl _) (.cells #[.string (S f.1), .string (S f.2)] 94)
    obtain ⟨c1, c2⟩ := e11 (j / 2) (by omega)
    obtain ⟨d1, d2⟩ := flat_atT L (j / 2) (by omega)
    have hadd : ((⟨b0, off, none⟩ : Addr).add j) = ⟨b0, off + j, none⟩ := by
      unfold Addr.add; split
      · rename_i e; subst e; rfl
      · rfl
    rw [hadd, hal.cell (p := ⟨b0, off + j, none⟩) e10]
    rcases Nat.mod_two_eq_zero_or_one j with hm | hm
    · have : j = j / 2 * 2 := by omega
      rw [← this] at c1 d1
      rw [c1, ← d1]; exact hj
    · have : j = j / 2 * 2 + 1 := by omega
      rw [Nat.add_assoc, ← this] at c2
      rw [← this] at d2
      rw [c2, ← d2]; exact hj
  · intro u hu; simp [fcellsT] at hu; rcases hu with rfl | rfl <;> rfl
  · unfold maxLen; omega
  · omega
  · intro v' w' h1 h2
    refine h v' w' ?_ ?_
    · refine OwnsFT.base (B := (W.alloc (.cells #[.string (S f.1), .string (S f.2)] 94)).heap.size) ?_ (by simp)
      unfold OwnsFT
      simpa using h1
    · exact Below.grown (w := W.alloc (.cells #[.string (S f.1), .string (S f.2)] 94)) ((Below.refl _ _).alloc (Nat.le_refl _) _) h2 (by simp) (fun k hk => by cases hk)

def fvT (f : FldT) : Value := .agg #[.string (S f.1), .string (S f.2)]

def SmallT (f : FldT) : Prop := f.1.length ≤ 4611686018427387903 ∧ f.2.length ≤ 4611686018427387903



def IdxIsT (p : FldT → Bool) (L : List FldT) (r : Int) : Prop :=
  (r = -1 ∧ ∀ j (h : j < L.length), p L[j] = false) ∨ ∃ i : Nat, r = i ∧ ∃ h : i < L.length, p L[i] = true ∧ ∀ j (h : j < L.length), j < i → p L[j] = false
theorem IdxIsT.any {p : FldT → Bool} {L : List FldT} {r : Int} (h : IdxIsT p L r) : decide (0 ≤ r) = L.any p := by
  rcases h with ⟨rfl, h⟩ | ⟨i, rfl, hi, h1, _⟩
  · symm
    simp only [Int.reduceNeg, Int.reduceLE, decide_false]
    rw [List.any_eq_false]
    intro f hf
    obtain ⟨j, hj, rfl⟩ := List.getElem_of_mem hf
    simp [h j hj]
  · rw [List.any_eq_true.2 ⟨_, List.getElem_mem hi, h1⟩]
    simp

set_option maxHeartbeats 1600000 in
theorem idxFldT (fn : Nat) (lb : Array Value) (p : FldT → Bool) (eg : ∀ args w, (callFunc fn args).run Tryz.prog w = .ok (.enter fn args) w) (v : Value) (L : List FldT) (W : World) (hr : ReadsFT W v L)
    (hcl : ∀ f, f ∈ L → ∀ W', Below W.heap.size W W' → Calls Tryz.prog fn (#[fvT f] ++ lb) W' fun e w' => e = .returned (.bool (p f)) ∧ Below W'.heap.size W' w') :
    Calls Tryz.prog 76 #[v, .func (.func fn) #[] lb] W fun e w' => ∃ r, e = .returned (.int .i64 r) ∧ IdxIsT p L r ∧ Below W.heap.size W w' := by
  obtain ⟨ao, cap, rfl, hc1, hc2, hc3, hcell⟩ := hr
  have hm : maxLen = 9223372036854775807 := rfl
  rw [hm] at hc2
  have HC := Lib.hid hcell
  have HF := Lib.hid hcl
  clear hm hcell hcl hc3
  go_enter Tryz.func76, Tryz.ntmps76
  go_wp2
  go_loopw [8] (fun iv wr => ∃ i : Nat, iv = .int .i64 i ∧ i ≤ L.length ∧ (∀ j (h : j < L.length), j < i → p L[j] = false) ∧ Below W.heap.size W wr) (fun iv _ => L.length - (intOf iv).toNat)
  case atStart => exact ⟨0, rfl, Nat.zero_le _, fun j _ h => by omega, by (repeat (first | with_reducible exact Below.refl _ _ | with_reducible assumption | with_reducible refine Below.drew ?_ | (with_reducible refine Below.setCell ?_ ?_ _; rotate_left; (first | omega | (simp <;> omega))) | (with_reducible refine Below.alloc ?_ ?_ _; rotate_left; (first | omega | (simp <;> omega))) | exact Below.refl _ _ | assumption))⟩
  case round =>
    obtain ⟨i, rfl, hi, hall, hB⟩ := hrel
    have HA := Lib.hid hall
    have hz := hB.size
    clear hall
    by_cases hlt : i < L.length
    · obtain ⟨b, off, rfl, hb, hcl⟩ := HC.out (by omega)
      obtain ⟨e1, e2⟩ := hcl i hlt
      rw [← hB.cell (p := ⟨b, off + i * 2, none⟩) hb] at e1
      rw [← hB.cell (p := ⟨b, off + i * 2 + 1, none⟩) hb] at e2
      have hcall := HF.out L[i] (List.getElem_mem hlt) wr hB
      have HYES := Lib.hid (show p L[i] = true → IdxIsT p L i from fun h => .inr ⟨i, rfl, hlt, h, HA.out⟩)
      have HNO := Lib.hid (show p L[i] = false → ∀ j (h : j < L.length), j < i + 1 → p L[j] = false from fun h j hj hji => by
        by_cases e : j = i
        · subst e; exact h
        · exact HA.out j hj (by omega))
      obtain ⟨⟨n, x⟩, hf⟩ : ∃ f, L[i] = f := ⟨_, rfl⟩
      rw [hf] at e1 e2 hcall HYES HNO
      obtain ⟨y, hy⟩ : ∃ y, p (n, x) = y := ⟨_, rfl⟩
      rw [hy] at hcall HYES HNO
      have hcall : Calls Tryz.prog fn (#[.agg #[.string (S n), .string (S x)]] ++ lb) wr fun e w' => e = .returned (.bool y) ∧ Below wr.heap.size wr w' := hcall
      simp only at e1 e2
      clear hcl hf hy
      cases y with
      | true =>
        go_wp2_with (go_at_fn fn; refine hcall.mono ?_; rintro e w' ⟨rfl, hb1⟩)
        go_ret
        exact ⟨_, rfl, HYES.out trivial, hB.trans (hb1.mono hz)⟩
      | false =>
        go_wp2_with (go_at_fn fn; refine hcall.mono ?_; rintro e w' ⟨rfl, hb1⟩)
        go_roundw
        case rel => exact ⟨i + 1, by go_num, by omega, HNO.out trivial, hB.trans (hb1.mono hz)⟩
        case measure => simp [intOf]; omega
    · have H := Lib.hid (show IdxIsT p L (-1) from .inl ⟨rfl, fun j hj => HA.out j hj (by omega)⟩)
      go_wp2
      go_ret
      exact ⟨_, rfl, H.out, hB⟩



theorem IdxIsT.find {p : FldT → Bool} {L : List FldT} {r : Int} (h : IdxIsT p L r) : (r = -1 ∧ L.find? p = none) ∨ ∃ i : Nat, r = i ∧ ∃ h : i < L.length, L.find? p = some L[i] := by
  rcases h with ⟨rfl, h⟩ | ⟨i, rfl, hi, h1, h2⟩
  · refine .inl ⟨rfl, List.find?_eq_none.2 fun f hf => ?_⟩
    obtain ⟨j, hj, rfl⟩ := List.getElem_of_mem hf
    simp [h j hj]
  · refine .inr ⟨i, rfl, hi, ?_⟩
    rw [List.find?_eq_some_iff_getElem]
    exact ⟨h1, i, hi, rfl, fun j hj => by simp [h2 j (by omega) hj]⟩

def isNamedT (g : Nat) : Value := .func (.func 112) #[] #[.pointer (some ⟨g, 0, none⟩)]

theorem namedT (m : List UInt8) (w : World) : Calls Tryz.prog 77 #[.string (S m)] w fun e w' =>
    e = .returned (isNamedT w.heap.size) ∧ w'.cell? ⟨w.heap.size, 0, none⟩ = some (.string (S m)) ∧ w.heap.size < w'.heap.size ∧ Below w.heap.size w w' := by
  unfold isNamedT
  go_enter Tryz.func77, Tryz.ntmps77
  go_wp2
  go_ret
  exact ⟨rfl, by simp, by simp, by (repeat (first | with_reducible exact Below.refl _ _ | with_reducible assumption | with_reducible refine Below.drew ?_ | (with_reducible refine Below.setCell ?_ ?_ _; rotate_left; (first | omega | (simp <;> omega))) | (with_reducible refine Below.alloc ?_ ?_ _; rotate_left; (first | omega | (simp <;> omega))) | exact Below.refl _ _ | assumption))⟩

theorem named1T (f : FldT) (hf : SmallT f) (g : Nat) (m : List UInt8) (hm : m.length ≤ 4611686018427387903) (w : World) (hc : w.cell? ⟨g, 0, none⟩ = some (.string (S m))) (hg : g < w.heap.size) :
    Calls Tryz.prog 112 #[fvT f, .pointer (some ⟨g, 0, none⟩)] w fun e w' => e = .returned (.bool (sameN f.1 m)) ∧ Below w.heap.size w w' := by
  obtain ⟨n, v⟩ := f
  have C := Lib.hid (fun W => textSame n m (by have := hf.1; simp only at this; omega) (by omega) W)
  unfold fvT sameN
  simp only
  have hfar := far hg
  obtain ⟨b, hb⟩ : ∃ b, (lower n == lower m) = b := ⟨_, rfl⟩
  rw [hb] at C ⊢
  clear hb hf hm
  go_enter Tryz.func112, Tryz.ntmps112
  go_wp2_with (go_at_call 113; refine (C.out _).mono ?_; rintro e w1 ⟨rfl, hb⟩; have hbw := Below.trans (show Below w.heap.size w _ by (repeat (first | with_reducible exact Below.refl _ _ | with_reducible assumption | with_reducible refine Below.drew ?_ | (with_reducible refine Below.setCell ?_ ?_ _; rotate_left; (first | omega | (simp <;> omega))) | (with_reducible refine Below.alloc ?_ ?_ _; rotate_left; (first | omega | (simp <;> omega))) | exact Below.refl _ _ | assumption))) (hb.mono (by (first | omega | (simp <;> omega)))))
  go_ret
  exact ⟨rfl, hbw⟩

theorem idxNamedT (v : Value) (L : List FldT) (g : Nat) (m : List UInt8) (hm : m.length ≤ 4611686018427387903) (W : World) (hr : ReadsFT W v L) (hs : ∀ f ∈ L, SmallT f) (hc : W.cell? ⟨g, 0, none⟩ = some (.string (S m))) (hg : g < W.heap.size) :
    Calls Tryz.prog 76 #[v, isNamedT g] W fun e w' => ∃ r, e = .returned (.int .i64 r) ∧ IdxIsT (fun f => sameN f.1 m) L r ∧ Below W.heap.size W w' :=
  idxFldT 112 #[.pointer (some ⟨g, 0, none⟩)] (fun f => sameN f.1 m) (enters_of Tryz.func112 (by kernel_rfl) rfl) v L W hr
    (fun f hf W' hb => named1T f (hs f hf) g m hm W' (by rw [hb.cell (p := ⟨g, 0, none⟩) hg]; exact hc) (Nat.lt_of_lt_of_le hg hb.size))

def getVT (L : List FldT) (m : List UInt8) : List UInt8 × Bool := match L.find? (fun f => sameN f.1 m) with
  | some f => (f.2, true)
  | none => ([], false)

set_option maxHeartbeats 1600000 in
set_option maxRecDepth 100000 in
theorem tableGetT (v : Value) (L : List FldT) (m : List UInt8) (hm : m.length ≤ 4611686018427387903) (w : World) (hr : ReadsFT w v L) (hs : ∀ f ∈ L, SmallT f) :
    Calls Tryz.prog 39 #[v, .string (S m)] w fun e w' => e = .returned (.tuple #[.string (S (getVT L m).1), .bool (getVT L m).2]) ∧ Below w.heap.size w w' := by
  have C := Lib.hid (fun W (hb : Below w.heap.size w W) g hc hg => idxNamedT v L g m hm W (hr.below hb) hs hc hg)
  have HR := Lib.hid hr
  obtain ⟨ao, cap, rfl, hc1, hc2, _, _⟩ := hr
  have hm' : maxLen = 9223372036854775807 := rfl
  rw [hm'] at hc2
  clear hm' hs hm
  have h0 := Below.refl w.heap.size w
  go_enter Tryz.func39, Tryz.ntmps39
  go_wp2_with fail
  refine (namedT m w).mono ?_
  rintro e w1 ⟨rfl, hcell, hlt, hb1⟩
  go_wp2_with fail
  refine (C.out w1 hb1 w.heap.size hcell hlt).mono ?_
  rintro e w2 ⟨r, rfl, hr, hb2⟩
  have hb := hb1.trans (hb2.mono (Nat.le_of_lt hlt))
  rcases hr.find with ⟨rfl, hf⟩ | ⟨i, rfl, hi, hf⟩
  · have e : getVT L m = ([], false) := by unfold getVT; rw [hf]
    have E := Lib.hid e
    clear e hf hr
    go_wp2
    go_ret2
    exact ⟨by rw [E.out]; rfl, hb⟩
  · have e : getVT L m = (L[i].2, true) := by unfold getVT; rw [hf]
    have E := Lib.hid e
    obtain ⟨ao', cap', e1, _, _, _, hcl⟩ := HR.out.below hb
    injection e1 with e2 e3 e4
    subst e2
    obtain ⟨b, off, rfl, hbb, hcc⟩ := hcl (by omega)
    obtain ⟨f1, f2⟩ := hcc i hi
    clear e hf hr hcc hcl
    go_wp2
    go_ret2
    exact ⟨by rw [E.out]; rfl, hb⟩




set_option maxHeartbeats 1600000 in
set_option maxRecDepth 100000 in
theorem keepFldT (fn : Nat) (lb : Array Value) (p : FldT → Bool) (eg : ∀ args w, (callFunc fn args).run Tryz.prog w = .ok (.enter fn args) w) (v : Value) (L : List FldT) (W : World) (hr : ReadsFT W v L) (hlen : L.length ≤ 1099511627776)
    (hcl : ∀ f, f ∈ L → ∀ W', Below W.heap.size W W' → Calls Tryz.prog fn (#[fvT f] ++ lb) W' fun e w' => e = .returned (.bool (p f)) ∧ Below W'.heap.size W' w') :
    Calls Tryz.prog 114 #[v, .func (.func fn) #[] lb] W fun e w' => ∃ v', e = .returned v' ∧ OwnsFT w' W.heap.size v' (L.filter p) ∧ Below W.heap.size W w' := by
  obtain ⟨ao, cap, rfl, hc1, hc2, hc3, hcell⟩ := hr
  have hm : maxLen = 9223372036854775807 := rfl
  rw [hm] at hc2
  have HC := Lib.hid hcell
  have HF := Lib.hid hcl
  clear hm hcell hcl hc3
  go_enter Tryz.func114, Tryz.ntmps114
  go_wp2
  go_loopw [5, 10] (fun ov iv wr => ∃ i : Nat, iv = .int .i64 i ∧ i ≤ L.length ∧ OwnsFT wr W.heap.size ov ((L.take i).filter p) ∧ Below W.heap.size W wr) (fun _ iv _ => L.length - (intOf iv).toNat)
  case atStart => exact ⟨0, rfl, Nat.zero_le _, OwnsFT.nil _ _, by (repeat (first | with_reducible exact Below.refl _ _ | with_reducible assumption | with_reducible refine Below.drew ?_ | (with_reducible refine Below.setCell ?_ ?_ _; rotate_left; (first | omega | (simp <;> omega))) | (with_reducible refine Below.alloc ?_ ?_ _; rotate_left; (first | omega | (simp <;> omega))) | exact Below.refl _ _ | assumption))⟩
  case round =>
    obtain ⟨i, rfl, hi, hown, hB⟩ := hrel
    have HO := Lib.hid hown
    have hz := hB.size
    clear hown
    by_cases hlt : i < L.length
    · obtain ⟨b, off, rfl, hb, hcl⟩ := HC.out (by omega)
      obtain ⟨e1, e2⟩ := hcl i hlt
      rw [← hB.cell (p := ⟨b, off + i * 2, none⟩) hb] at e1
      rw [← hB.cell (p := ⟨b, off + i * 2 + 1, none⟩) hb] at e2
      have hcall := HF.out L[i] (List.getElem_mem hlt)
      have htk : (L.take (i + 1)).filter p = (L.take i).filter p ++ (if p L[i] = true then [L[i]] else []) := by
        rw [List.take_succ_eq_append_getElem hlt, List.filter_append]
        cases hp : p L[i] <;> simp [hp]
      have hfl : ((L.take i).filter p).length ≤ 1099511627776 := by
        have := List.length_filter_le p (L.take i)
        simp at this; omega
      obtain ⟨⟨n, x⟩, hf⟩ : ∃ f, L[i] = f := ⟨_, rfl⟩
      rw [hf] at e1 e2 hcall htk
      obtain ⟨y, hy⟩ : ∃ y, p (n, x) = y := ⟨_, rfl⟩
      rw [hy] at hcall htk
      have HCL := Lib.hid (show ∀ W', Below W.heap.size W W' → Calls Tryz.prog fn (#[.agg #[.string (S n), .string (S x)]] ++ lb) W' fun e w' => e = .returned (.bool y) ∧ Below W'.heap.size W' w' from hcall)
      have HT := Lib.hid htk
      simp only at e1 e2
      clear hcl hf hy hcall htk
      cases y with
      | true =>
        go_wp2_with (first
          | (go_at_fn fn; refine (HCL.out _ (by (repeat (first | with_reducible exact Below.refl _ _ | with_reducible assumption | with_reducible refine Below.drew ?_ | (with_reducible refine Below.setCell ?_ ?_ _; rotate_left; (first | omega | (simp <;> omega))) | (with_reducible refine Below.alloc ?_ ?_ _; rotate_left; (first | omega | (simp <;> omega))) | exact Below.refl _ _ | assumption)))).mono ?_; rintro e w1 ⟨rfl, hb1⟩; obtain ⟨hcc, hff⟩ := bk hb1 wr.heap.size (by simp); have hbw := Below.trans (show Below wr.heap.size wr _ by (repeat (first | with_reducible exact Below.refl _ _ | with_reducible assumption | with_reducible refine Below.drew ?_ | (with_reducible refine Below.setCell ?_ ?_ _; rotate_left; (first | omega | (simp <;> omega))) | (with_reducible refine Below.alloc ?_ ?_ _; rotate_left; (first | omega | (simp <;> omega))) | exact Below.refl _ _ | assumption))) (hb1.mono (by simp)); have hz1 := hb1.size; simp at hz1)
          | (at_builtin; refine wp_append_fldT rfl _ _ rfl _ W.heap.size _ _ (n, x) (HO.out.below hbw) rfl _ rfl rfl (by omega) (by omega) ?_; intro v4 w4 hown4 hb4 _; have HO4 := Lib.hid hown4; have hbw4 := Below.trans (hB.trans (hbw.mono hz)) hb4; clear hown4))
        go_roundw
        case rel => exact ⟨i + 1, by go_num, by omega, by rw [HT.out]; exact HO4.out, hbw4⟩
        case measure => simp [intOf]; omega
      | false =>
        go_wp2_with (go_at_fn fn; refine (HCL.out _ (by (repeat (first | with_reducible exact Below.refl _ _ | with_reducible assumption | with_reducible refine Below.drew ?_ | (with_reducible refine Below.setCell ?_ ?_ _; rotate_left; (first | omega | (simp <;> omega))) | (with_reducible refine Below.alloc ?_ ?_ _; rotate_left; (first | omega | (simp <;> omega))) | exact Below.refl _ _ | assumption)))).mono ?_; rintro e w1 ⟨rfl, hb1⟩; have hbw := Below.trans (show Below wr.heap.size wr _ by (repeat (first | with_reducible exact Below.refl _ _ | with_reducible assumption | with_reducible refine Below.drew ?_ | (with_reducible refine Below.setCell ?_ ?_ _; rotate_left; (first | omega | (simp <;> omega))) | (with_reducible refine Below.alloc ?_ ?_ _; rotate_left; (first | omega | (simp <;> omega))) | exact Below.refl _ _ | assumption))) (hb1.mono (by simp)))
        go_roundw
        case rel => exact ⟨i + 1, by go_num, by omega, by rw [HT.out]; simpa using HO.out.below hbw, hB.trans (hbw.mono hz)⟩
        case measure => simp [intOf]; omega
    · obtain rfl : i = L.length := by omega
      have HO2 := Lib.hid (show OwnsFT wr W.heap.size _ (L.filter p) from by have := HO.out; rw [List.take_length] at this; exact this)
      go_wp2
      go_ret
      exact ⟨_, rfl, HO2.out, hB⟩




set_option maxHeartbeats 1600000 in
set_option maxRecDepth 100000 in
theorem tableAllT (v : Value) (L : List FldT) (m : List UInt8) (hm : m.length ≤ 4611686018427387903) (w : World) (hr : ReadsFT w v L) (hs : ∀ f ∈ L, SmallT f) (hlen : L.length ≤ 1099511627776) :
    Calls Tryz.prog 78 #[v, .string (S m)] w fun e w' => ∃ v', e = .returned v' ∧ Owns w' w.heap.size v' ((namedL L m).map (·.2)) ∧ Below w.heap.size w w' := by
  have HK := Lib.hid (show ∀ W g, Below w.heap.size w W → W.cell? ⟨g, 0, none⟩ = some (.string (S m)) → g < W.heap.size →
      Calls Tryz.prog 114 #[v, isNamedT g] W fun e w' => ∃ v', e = .returned v' ∧ OwnsFT w' W.heap.size v' (namedL L m) ∧ Below W.heap.size W w' from fun W g hb hc hg =>
    keepFldT 112 #[.pointer (some ⟨g, 0, none⟩)] (fun f => sameN f.1 m) (enters_of Tryz.func112 (by kernel_rfl) rfl) v L W (hr.below hb) hlen
      (fun f hf W' hb' => named1T f (hs f hf) g m hm W' (by rw [hb'.cell (p := ⟨g, 0, none⟩) hg]; exact hc) (Nat.lt_of_lt_of_le hg hb'.size)))
  have hnl : (namedL L m).length ≤ 1099511627776 := Nat.le_trans (List.length_filter_le _ _) hlen
  obtain ⟨K, hK⟩ : ∃ K, namedL L m = K := ⟨_, rfl⟩
  rw [hK] at HK hnl ⊢
  have HN := Lib.hid (fun W => namedT m W)
  clear hr hs hm hlen hK
  go_enter Tryz.func78, Tryz.ntmps78
  go_wp2_with fail
  refine (HN.out _).mono ?_
  rintro e w1 ⟨rfl, hcell, hlt, hb1⟩
  go_wp2_with fail
  refine (HK.out w1 w.heap.size hb1 hcell hlt).mono ?_
  rintro e w2 ⟨v', rfl, hown, hb2⟩
  have hbw := hb1.trans (hb2.mono hb1.size)
  have HBW := Lib.hid hbw
  have hz := hbw.size
  obtain ⟨ao, cap, rfl, hc1, hc2, hc3, hcl⟩ := hown.reads
  have hm : maxLen = 9223372036854775807 := rfl
  rw [hm] at hc2
  have HC := Lib.hid hcl
  clear hown hcl hm hc3 hbw hb1 hb2 hcell
  go_wp2
  go_loopw [5, 13] (fun ov iv wr => ∃ i : Nat, iv = .int .i64 i ∧ i ≤ K.length ∧ Owns wr w2.heap.size ov ((K.take i).map (·.2)) ∧ Below w2.heap.size w2 wr) (fun _ iv _ => K.length - (intOf iv).toNat)
  case atStart => exact ⟨0, rfl, Nat.zero_le _, Owns.nil _ _, by (repeat (first | with_reducible exact Below.refl _ _ | with_reducible assumption | with_reducible refine Below.drew ?_ | (with_reducible refine Below.setCell ?_ ?_ _; rotate_left; (first | omega | (simp <;> omega))) | (with_reducible refine Below.alloc ?_ ?_ _; rotate_left; (first | omega | (simp <;> omega))) | exact Below.refl _ _ | assumption))⟩
  case round =>
    obtain ⟨i, rfl, hi, hown, hB⟩ := hrel
    have HO := Lib.hid hown
    have hzr := hB.size
    clear hown
    by_cases hlt : i < K.length
    · obtain ⟨b, off, rfl, hb, hcl⟩ := HC.out (by omega)
      obtain ⟨e1, e2⟩ := hcl i hlt
      rw [← hB.cell (p := ⟨b, off + i * 2, none⟩) hb] at e1
      rw [← hB.cell (p := ⟨b, off + i * 2 + 1, none⟩) hb] at e2
      have HT := Lib.hid (show (K.take (i + 1)).map (·.2) = (K.take i).map (·.2) ++ [K[i].2] from by rw [List.take_succ_eq_append_getElem hlt, List.map_append]; rfl)
      obtain ⟨⟨n, x⟩, hf⟩ : ∃ f, K[i] = f := ⟨_, rfl⟩
      rw [hf] at e1 e2 HT
      simp only at e1 e2 HT
      clear hcl hf
      go_wp2_with (at_builtin; refine wp_append_text' rfl _ _ rfl _ w2.heap.size _ _ x (Owns.below HO.out (by (repeat (first | with_reducible exact Below.refl _ _ | with_reducible assumption | with_reducible refine Below.drew ?_ | (with_reducible refine Below.setCell ?_ ?_ _; rotate_left; (first | omega | (simp <;> omega))) | (with_reducible refine Below.alloc ?_ ?_ _; rotate_left; (first | omega | (simp <;> omega))) | exact Below.refl _ _ | assumption)))) rfl _ rfl (by simp) (by (first | omega | (simp <;> omega))) (by (first | omega | (simp <;> omega))) ?_; intro v4 w4 hown4 hb4; have HO4 := Lib.hid hown4; have hbw4 := Below.trans (show Below w2.heap.size w2 _ by (repeat (first | with_reducible exact Below.refl _ _ | with_reducible assumption | with_reducible refine Below.drew ?_ | (with_reducible refine Below.setCell ?_ ?_ _; rotate_left; (first | omega | (simp <;> omega))) | (with_reducible refine Below.alloc ?_ ?_ _; rotate_left; (first | omega | (simp <;> omega))) | exact Below.refl _ _ | assumption))) hb4; clear hown4)
      go_roundw
      case rel => exact ⟨i + 1, by go_num, by omega, by rw [HT.out]; exact HO4.out, hbw4⟩
      case measure => simp [intOf]; omega
    · obtain rfl : i = K.length := by omega
      have h := HO.out
      rw [List.take_length] at h
      have HO2 := Lib.hid h
      clear h
      go_wp2
      go_ret
      refine ⟨_, rfl, ?_, HBW.out.trans (hB.mono hz)⟩
      obtain ⟨h1, h2⟩ := HO2.out
      refine ⟨h1, ?_⟩
      rcases h2 with h2 | ⟨g, cap, cur, h3, h4, h5⟩
      · exact .inl h2
      · exact .inr ⟨g, cap, cur, h3, Nat.le_trans hz h4, h5⟩



theorem lens_leT {K : Nat} : ∀ xs : List (List UInt8), (∀ x ∈ xs, x.length ≤ K) → Lib.lens xs ≤ K * xs.length
  | [], _ => by simp [Lib.lens]
  | x :: r, h => by
    have h1 := lens_leT r fun y hy => h y (by simp [hy])
    have h2 := h x (by simp)
    simp only [Lib.lens, List.map_cons, List.sum_cons, List.length_cons] at *
    rw [Nat.mul_add]
    omega
theorem join_leT {K : Nat} (xs : List (List UInt8)) (h : ∀ x ∈ xs, x.length ≤ K) : (Lib.join xs [44, 32]).length ≤ 2 * xs.length + K * xs.length := by
  cases xs with
  | nil => simp [Lib.join, List.intercalate]
  | cons x r =>
    rw [Lib.join_length]
    have := lens_leT (x :: r) h
    simp only [List.length_cons, List.length_nil] at *
    omega
def joinedLT (L : List FldT) (m : List UInt8) : List UInt8 := Lib.join ((namedL L m).map (·.2)) [44, 32]

set_option maxHeartbeats 1600000 in
set_option maxRecDepth 100000 in
theorem tableJoinedT (v : Value) (L : List FldT) (m : List UInt8) (hm : m.length ≤ 4611686018427387903) (w : World) (hr : ReadsFT w v L) (hs : ∀ f ∈ L, SmallT f) (hv : ∀ f ∈ L, f.2.length ≤ 1048576) (hlen : L.length ≤ 1000) :
    Calls Tryz.prog 41 #[v, .string (S m)] w fun e w' => e = .returned (.tuple #[.string (S (joinedLT L m)), .bool (decide (0 < (namedL L m).length))]) ∧ Below w.heap.size w w' := by
  have C := Lib.hid (tableAllT v L m hm w hr hs (by omega))
  have hnl : (namedL L m).length ≤ 1000 := Nat.le_trans (List.length_filter_le _ _) hlen
  have hvl : ∀ x ∈ (namedL L m).map (·.2), x.length ≤ 1048576 := fun x hx => by
    obtain ⟨f, hf, rfl⟩ := List.mem_map.1 hx
    exact hv f (List.mem_filter.1 hf).1
  have hj := join_leT ((namedL L m).map (·.2)) hvl
  unfold joinedLT
  have hlm : ((namedL L m).map (·.2)).length = (namedL L m).length := by simp
  rw [← hlm] at hnl ⊢
  have hj : (Lib.join ((namedL L m).map (·.2)) [44, 32]).length ≤ 2000000000 := Nat.le_trans hj (Nat.le_trans (Nat.add_le_add (Nat.mul_le_mul_left 2 hnl) (Nat.mul_le_mul_left 1048576 hnl)) (by decide))
  obtain ⟨xs, hxs⟩ : ∃ xs, (namedL L m).map (·.2) = xs := ⟨_, rfl⟩
  rw [hxs] at C hnl hj ⊢
  clear hr hs hv hm hlen hvl hxs hlm
  go_enter Tryz.func41, Tryz.ntmps41
  go_wp2_with fail
  refine C.out.mono ?_
  rintro e w1 ⟨v', rfl, hown, hb1⟩
  cases xs with
  | nil =>
    obtain ⟨ao, cap, rfl, k1, k2, _⟩ := hown.shape
    have hjn := fun W => Tryz.strings_Join_none ao cap (S [44, 32]) W
    clear hown hj
    go_wp2_with (go_at_call 79; refine (hjn _).mono ?_; rintro e w' ⟨rfl, rfl⟩)
    go_ret2
    exact ⟨rfl, hb1⟩
  | cons x r =>
    obtain ⟨g, cap, rfl, k1, k2, k3, k4⟩ := hown.at 0 (by simp)
    have hmx : maxLen = 9223372036854775807 := rfl
    rw [hmx] at k2
    have hjn := Tryz.strings_Join g 0 cap ((x :: r).map S) (S [44, 32]) w1 (fun j y hy => by
      rw [List.getElem?_map] at hy
      cases hj : (x :: r)[j]? with
      | none => rw [hj] at hy; cases hy
      | some z =>
        rw [hj] at hy
        cases hy
        have hjl : j < (x :: r).length := by
          rcases Nat.lt_or_ge j (x :: r).length with h | h
          · exact h
          · rw [List.getElem?_eq_none h] at hj; cases hj
        rw [List.getElem?_eq_getElem hjl] at hj
        cases hj
        rw [Nat.zero_add]
        exact k4 j hjl) k3 (by rw [List.length_map]; omega) (by rw [List.length_map]; exact k1) (by
      rw [List.map_map, S_data]
      have e : (x :: r).map ((fun s : ByteArray => s.data.toList) ∘ S) = x :: r := by
        conv => rhs; rw [← List.map_id (x :: r)]
        apply List.map_congr_left; intro a _; exact S_data a
      rw [e]; omega)
    rw [List.length_map, List.map_map, S_data] at hjn
    have e : (x :: r).map ((fun s : ByteArray => s.data.toList) ∘ S) = x :: r := by
      conv => rhs; rw [← List.map_id (x :: r)]
      apply List.map_congr_left; intro a _; exact S_data a
    rw [e] at hjn
    have HJ := Lib.hid hjn
    clear hown hj hjn k4 e hmx
    go_wp2_with (go_at_call 79; refine HJ.out.mono ?_; rintro e w' ⟨rfl, hb2⟩; have hb3 := hb1.trans (hb2.mono hb1.size))
    go_ret2
    exact ⟨by simp [S], hb3⟩


set_option maxHeartbeats 400000 in
theorem refSameNT (l m : List UInt8) (hl : l.length ≤ 4611686018427387903) (hm : m.length ≤ 4611686018427387903) (w : World) : Calls Tryz.prog 80 #[.string (S l), .string (S m)] w fun e w' => e = .returned (.bool (sameN l m)) ∧ Below w.heap.size w w' := by
  have C1 := Lib.hid (fun W => refLower l hl W)
  have C2 := Lib.hid (fun W => refLower m hm W)
  unfold sameN
  go_enter Tryz.func80, Tryz.ntmps80
  go_wp2_with fail
  refine (C1.out _).mono ?_
  rintro e w1 ⟨rfl, hb1⟩
  go_wp2_with fail
  refine (C2.out _).mono ?_
  rintro e w2 ⟨rfl, hb2⟩
  have hb := hb1.trans (hb2.mono hb1.size)
  go_wp2
  go_ret
  exact ⟨by rfl, hb⟩



theorem clipCellsT {W' : World} {ao : Option Addr} {cap : Nat} {L : List FldT} (hr : ReadsFT W' (.slice ao L.length cap) L) : ∀ b, ao = some b → ∀ j u, (L.flatMap fcellsT)[j]? = some u → W'.cell? (b.add j) = some u := by
  obtain ⟨ao', cap', e1, e2, e3, e4, e5⟩ := hr
  injection e1 with e6 e7 e8
  subst e6
  intro b hb j u hj
  have hlen := flat_lenT L
  have hj2 : j < L.length * 2 := by
    rcases Nat.lt_or_ge j (L.length * 2) with h' | h'
    · exact h'
    · rw [List.getElem?_eq_none (by omega)] at hj; cases hj
  obtain ⟨b0, off, e9, e10, e11⟩ := e5 (by omega)
  rw [hb] at e9
  cases e9
  obtain ⟨c1, c2⟩ := e11 (j / 2) (by omega)
  obtain ⟨d1, d2⟩ := flat_atT L (j / 2) (by omega)
  have hadd : ((⟨b0, off, none⟩ : Addr).add j) = ⟨b0, off + j, none⟩ := by
    unfold Addr.add; split
    · rename_i e; subst e; rfl
    · rfl
  rw [hadd]
  rcases Nat.mod_two_eq_zero_or_one j with hm | hm
  · have : j = j / 2 * 2 := by omega
    rw [← this] at c1 d1
    rw [c1, ← d1]; exact hj
  · have : j = j / 2 * 2 + 1 := by omega
    rw [Nat.add_assoc, ← this] at c2
    rw [← this] at d2
    rw [c2, ← d2]; exact hj


theorem wp_append_rowT {ops : Array Oper} {rest : List Oper} {o : Oper} {a : Act} {Q : Exit → Act → World → Prop} (hgd : o.guard = none) (s x : Operand)
    (ho : o.op = .call { callee := .builtin .append, args := #[s, x], argTypes := #[33, 33] })
    (W : World) (B : Nat) (v : Value) (L0 : List FldT) (hown : OwnsFT W B v L0) (hs : a.eval s = v) (ao : Option Addr) (cap : Nat) (L : List FldT) (hr : ReadsFT W (.slice ao L.length cap) L) (hx : a.eval x = .slice ao L.length cap)
    (hn : L0.length + L.length ≤ 2199023255552) (hB : B ≤ W.heap.size)
    (h : ∀ v' w', OwnsFT w' B v' (L0 ++ L) → Below B W w' → wpList Tryz.prog ops Q rest (a.put o.dst v') w') : wpList Tryz.prog ops Q (o :: rest) a W := by
  obtain ⟨i0, hi, hz0, hz1, hz2⟩ := info_parts infoFldT
  have hcells := clipCellsT hr
  obtain ⟨ao', cap', e1, e2, e3, e4, e5⟩ := hr
  injection e1 with e6 e7 e8
  subst e6
  subst e8
  have hown' : W.ownsRow B 94 2 v L0.length (L0.flatMap fcellsT) := hown
  cases ao with
  | none =>
    have hc0 := e4 rfl
    have hz : L.length = 0 := by omega
    obtain rfl : L = [] := List.length_eq_zero_iff.1 hz
    subst hc0
    refine wpList_append_own_none hgd s x 33 ho B 94 i0 2 Tryz.underlying33 hi v L0.length _ hs hown' hx ?_
    subst hs
    exact h _ _ (by rw [List.append_nil]; exact hown) (Below.refl _ _)
  | some ad =>
    refine wpList_append_own _ hgd s x 33 ho B 94 i0 (.agg #[.string ⟨#[]⟩, .string ⟨#[]⟩]) 2 32 Tryz.underlying33 hi hz0 hz1 hz2 rfl (by decide) v L0.length _ hs hown' ad L.length cap (L.flatMap fcellsT) hx (flat_lenT L) (hcells ad rfl) (flat_oneT L) ?_ ?_ hB ?_
    · unfold maxLen; omega
    · omega
    · intro v' w' h1 h2 h3
      refine h v' w' (by unfold OwnsFT; simpa using h1) ?_
      exact Below.grown (Below.refl _ _) h2 hB (fun k hk => (World.ownsRow.lt hown' k hk).1)


theorem ownsMadeT (W : World) (B : Nat) (hB : B ≤ W.heap.size) : Owns (W.alloc (.cells #[] 9)) B (.slice (some ⟨W.heap.size, 0, none⟩) 0 0) [] := Owns.made W B hB



set_option maxHeartbeats 1600000 in
set_option maxRecDepth 100000 in
theorem refAllT (v : Value) (L : List FldT) (m : List UInt8) (hm : m.length ≤ 4611686018427387903) (W : World) (hr : ReadsFT W v L) (hs : ∀ f ∈ L, SmallT f) (hlen : L.length ≤ 1099511627776) :
    Calls Tryz.prog 44 #[v, .string (S m)] W fun e w' => ∃ v', e = .returned v' ∧ Owns w' W.heap.size v' ((namedL L m).map (·.2)) ∧ Below W.heap.size W w' := by
  obtain ⟨ao, cap, rfl, hc1, hc2, hc3, hcell⟩ := hr
  have hmx : maxLen = 9223372036854775807 := rfl
  rw [hmx] at hc2
  have HC := Lib.hid hcell
  have HS := Lib.hid hs
  clear hmx hcell hs hc3
  go_enter Tryz.func44, Tryz.ntmps44
  go_wp2
  go_loopw [5, 11] (fun ov iv wr => ∃ i : Nat, iv = .int .i64 i ∧ i ≤ L.length ∧ Owns wr W.heap.size ov ((namedL (L.take i) m).map (·.2)) ∧ Below W.heap.size W wr) (fun _ iv _ => L.length - (intOf iv).toNat)
  case atStart => exact ⟨0, rfl, Nat.zero_le _, ownsMadeT _ _ (Nat.le_refl _), by (repeat (first | with_reducible exact Below.refl _ _ | with_reducible assumption | with_reducible refine Below.drew ?_ | (with_reducible refine Below.setCell ?_ ?_ _; rotate_left; (first | omega | (simp <;> omega))) | (with_reducible refine Below.alloc ?_ ?_ _; rotate_left; (first | omega | (simp <;> omega))) | exact Below.refl _ _ | assumption))⟩
  case round =>
    obtain ⟨i, rfl, hi, hown, hB⟩ := hrel
    have HO := Lib.hid hown
    have hz := hB.size
    clear hown
    by_cases hlt : i < L.length
    · obtain ⟨b, off, rfl, hb, hcl⟩ := HC.out (by omega)
      obtain ⟨e1, e2⟩ := hcl i hlt
      rw [← hB.cell (p := ⟨b, off + i * 2, none⟩) hb] at e1
      rw [← hB.cell (p := ⟨b, off + i * 2 + 1, none⟩) hb] at e2
      have hsm := HS.out _ (List.getElem_mem hlt)
      have htk : (namedL (L.take (i + 1)) m).map (·.2) = (namedL (L.take i) m).map (·.2) ++ (if sameN L[i].1 m = true then [L[i].2] else []) := by
        unfold namedL
        rw [List.take_succ_eq_append_getElem hlt, List.filter_append]
        cases hp : sameN L[i].1 m <;> simp [hp]
      have hfl : ((namedL (L.take i) m).map (·.2)).length ≤ 1099511627776 := by
        have := List.length_filter_le (fun f => sameN f.1 m) (L.take i)
        have h2 : (L.take i).length ≤ L.length := by simp; omega
        rw [List.length_map]
        exact Nat.le_trans (Nat.le_trans this h2) hlen
      obtain ⟨⟨n, x⟩, hf⟩ : ∃ f, L[i] = f := ⟨_, rfl⟩
      rw [hf] at e1 e2 hsm htk
      have C := Lib.hid (fun W => refSameNT n m hsm.1 hm W)
      obtain ⟨y, hy⟩ : ∃ y, sameN n m = y := ⟨_, rfl⟩
      simp only at htk
      rw [hy] at C htk
      have HT := Lib.hid htk
      simp only at e1 e2
      clear hcl hf hy htk hsm
      cases y with
      | true =>
        go_wp2_with (first
          | (go_at_call 80; refine (C.out _).mono ?_; rintro e w1 ⟨rfl, hb1⟩; obtain ⟨hcc, hff⟩ := bk hb1 wr.heap.size (by simp); have hbw := Below.trans (show Below wr.heap.size wr _ by (repeat (first | with_reducible exact Below.refl _ _ | with_reducible assumption | with_reducible refine Below.drew ?_ | (with_reducible refine Below.setCell ?_ ?_ _; rotate_left; (first | omega | (simp <;> omega))) | (with_reducible refine Below.alloc ?_ ?_ _; rotate_left; (first | omega | (simp <;> omega))) | exact Below.refl _ _ | assumption))) (hb1.mono (by simp)); have hz1 := hb1.size; simp at hz1)
          | (at_builtin; refine wp_append_text' rfl _ _ rfl _ W.heap.size _ _ x (Owns.below HO.out hbw) rfl _ rfl rfl (by omega) (by omega) ?_; intro v4 w4 hown4 hb4; have HO4 := Lib.hid hown4; have hbw4 := Below.trans (hB.trans (hbw.mono hz)) hb4; clear hown4))
        go_roundw
        case rel => exact ⟨i + 1, by go_num, by omega, by rw [HT.out]; exact HO4.out, hbw4⟩
        case measure => simp [intOf]; omega
      | false =>
        go_wp2_with (go_at_call 80; refine (C.out _).mono ?_; rintro e w1 ⟨rfl, hb1⟩; have hbw := Below.trans (show Below wr.heap.size wr _ by (repeat (first | with_reducible exact Below.refl _ _ | with_reducible assumption | with_reducible refine Below.drew ?_ | (with_reducible refine Below.setCell ?_ ?_ _; rotate_left; (first | omega | (simp <;> omega))) | (with_reducible refine Below.alloc ?_ ?_ _; rotate_left; (first | omega | (simp <;> omega))) | exact Below.refl _ _ | assumption))) (hb1.mono (by simp)))
        go_roundw
        case rel => exact ⟨i + 1, by go_num, by omega, by rw [HT.out]; simpa using Owns.below HO.out hbw, hB.trans (hbw.mono hz)⟩
        case measure => simp [intOf]; omega
    · obtain rfl : i = L.length := by omega
      have HO2 := Lib.hid (show Owns wr W.heap.size _ ((namedL L m).map (·.2)) from by have := HO.out; rw [List.take_length] at this; exact this)
      go_wp2
      go_ret
      exact ⟨_, rfl, HO2.out, hB⟩

theorem join_nextT (xs : List (List UInt8)) (sep : List UInt8) (k : Nat) (hk : k < xs.length) : Lib.join (xs.take (k + 1)) sep = Lib.join (xs.take k) sep ++ (if 0 < k then sep else []) ++ xs[k] := by
  cases xs with
  | nil => simp at hk
  | cons x r =>
    cases k with
    | zero => simp [Lib.join_nil, Lib.join_one]
    | succ k =>
      have hk' : k < r.length := by simpa using hk
      rw [List.take_succ_cons, List.take_succ_cons, Lib.join_cons, Lib.join_cons, Lib.joinTail_take_succ sep r k r[k] (List.getElem?_eq_getElem hk')]
      simp

set_option maxHeartbeats 1600000 in
theorem refJoinedT (v : Value) (xs : List (List UInt8)) (W : World) (hr : Reads W v xs) (hx : ∀ x ∈ xs, x.length ≤ 1048576) (hl : xs.length ≤ 1000) :
    Calls Tryz.prog 43 #[v] W fun e w' => e = .returned (.string (S (Lib.join xs [44, 32]))) ∧ w' = W := by
  obtain ⟨ao, cap, rfl, hc1, hc2, hcell⟩ := hr
  have hmx : maxLen = 9223372036854775807 := rfl
  rw [hmx] at hc2
  have HC := Lib.hid hcell
  have HX := Lib.hid hx
  clear hmx hcell hx
  go_enter Tryz.func43, Tryz.ntmps43
  go_wp2
  simp only [mk_S]
  go_loop [3, 8] (fun ov iv => ∃ i : Nat, iv = .int .i64 i ∧ i ≤ xs.length ∧ ov = .string (S (Lib.join (xs.take i) [44, 32]))) (fun _ iv => xs.length - (intOf iv).toNat)
  case atStart => exact ⟨0, rfl, Nat.zero_le _, rfl⟩
  case round =>
    obtain ⟨i, rfl, hi, rfl⟩ := hrel
    have hj := join_leT (K := 1048576) (xs.take i) (fun x hx => HX.out x (List.mem_of_mem_take hx))
    have hjl : (xs.take i).length ≤ 1000 := by simp; omega
    have hj2 : (Lib.join (xs.take i) [44, 32]).length ≤ 2000000000 := Nat.le_trans hj (Nat.le_trans (Nat.add_le_add (Nat.mul_le_mul_left 2 hjl) (Nat.mul_le_mul_left 1048576 hjl)) (by decide))
    clear hj hjl
    by_cases hlt : i < xs.length
    · obtain ⟨b, off, rfl, hb, hcl⟩ := HC.out (by omega)
      have e1 := hcl i hlt
      have hxl := HX.out _ (List.getElem_mem hlt)
      have HN := Lib.hid (join_nextT xs [44, 32] i hlt)
      obtain ⟨x, hx⟩ : ∃ x, xs[i] = x := ⟨_, rfl⟩
      obtain ⟨js, hjs⟩ : ∃ js, Lib.join (xs.take i) [44, 32] = js := ⟨_, rfl⟩
      rw [hx] at e1 hxl HN
      rw [hjs] at hj2 HN ⊢
      clear hcl hx hjs
      rcases Nat.eq_zero_or_pos i with rfl | hi0
      · rw [Nat.add_zero] at e1
        go_wp2
        go_round
        case rel => exact ⟨1, by go_num, by omega, by rw [HN.out]; simp⟩
        case measure => simp [intOf]; omega
      · go_wp2
        go_round
        case rel => exact ⟨i + 1, by go_num, by omega, by rw [HN.out, if_pos hi0]; simp⟩
        case measure => simp [intOf]; omega
    · obtain rfl : i = xs.length := by omega
      rw [List.take_length]
      go_wp2
      go_ret
      exact ⟨rfl, rfl⟩
end Go.Proofs.YtenflcaalckdfaaGreatDoor
