/- Rows of texts that a call has built: what they hold, append of one text. Rows of pairs (two texts each): read, built by the call, appended to. -/
import Derived.Test.YtenflcaalckdfaaGreatDoorVv4
import Derived.Laws.AppendOwn
import Derived.ArgAppend
namespace Go.Proofs.YtenflcaalckdfaaGreatDoor
open Go.RowKit
set_option linter.unusedVariables false

theorem infoStr : (Tryz.prog.info? 9).map (fun i => (i.zero, i.size, i.bytes)) = some (some (.string ⟨#[]⟩), 1, 16) := by kernel_rfl

def Owns (W : World) (B : Nat) (v : Value) (L : List (List UInt8)) : Prop := W.ownsRow B 9 1 v L.length (L.map fun x => .string (S x))

theorem Owns.nil (W : World) (B : Nat) : Owns W B (.slice none 0 0) [] := World.ownsRow_nil _ _ _ _
theorem Owns.below {W W' : World} {B : Nat} {v : Value} {L : List (List UInt8)} (h : Owns W B v L) (hb : Below W.heap.size W W') : Owns W' B v L := by
  obtain ⟨h1, h2⟩ := h
  refine ⟨h1, ?_⟩
  rcases h2 with h2 | ⟨g, cap, cur, h3, h4, h5, h6⟩
  · exact .inl h2
  · refine .inr ⟨g, cap, cur, h3, h4, ?_, h6⟩
    have hg : g < W.heap.size := by
      rcases Nat.lt_or_ge g W.heap.size with h | h
      · exact h
      · rw [Array.getElem?_eq_none h] at h5; cases h5
    rw [hb.block g hg]
    exact h5
theorem Owns.shape {W : World} {B : Nat} {v : Value} {L : List (List UInt8)} (h : Owns W B v L) : ∃ ao cap, v = .slice ao L.length cap ∧ L.length ≤ cap ∧ cap ≤ maxLen ∧ (∀ a, ao = some a → ∃ g, a = ⟨g, 0, none⟩ ∧ B ≤ g ∧ g < W.heap.size) ∧ (ao = none → L = []) := by
  obtain ⟨h1, h2⟩ := h
  rcases h2 with ⟨h2, h3⟩ | ⟨g, cap, cur, h3, h4, h5, h6, h7, h8⟩
  · refine ⟨none, 0, by rw [h2, h3], by omega, by decide, (fun a ha => by cases ha), fun _ => by
      cases L with
      | nil => rfl
      | cons a t => simp at h3⟩
  · refine ⟨_, cap, h3, h6, h7, (fun a ha => ⟨g, by cases ha; rfl, h4, ?_⟩), (fun h => by cases h)⟩
    rcases Nat.lt_or_ge g W.heap.size with h | h
    · exact h
    · rw [Array.getElem?_eq_none h] at h5; cases h5
theorem Owns.at {W : World} {B : Nat} {v : Value} {L : List (List UInt8)} (h : Owns W B v L) (k : Nat) (hk : k < L.length) : ∃ g cap, v = .slice (some ⟨g, 0, none⟩) L.length cap ∧ L.length ≤ cap ∧ cap ≤ maxLen ∧ g < W.heap.size ∧ ∀ j (hj : j < L.length), W.cell? ⟨g, j, none⟩ = some (.string (S L[j])) := by
  obtain ⟨h1, h2⟩ := h
  rcases h2 with ⟨h2, h3⟩ | ⟨g, cap, cur, h3, h4, h5, h6, h7, h8, h9⟩
  · omega
  · refine ⟨g, cap, h3, h6, h7, ?_, fun j hj => ?_⟩
    · rcases Nat.lt_or_ge g W.heap.size with h | h
      · exact h
      · rw [Array.getElem?_eq_none h] at h5; cases h5
    · rw [Joins.cell_of_block h5]
      have e := congrArg (fun l => l[j]?) h9
      simp only [List.getElem?_take] at e
      rw [if_pos (by omega)] at e
      simp only [Array.getElem?_toList] at e
      rw [e]
      simp [hj]

theorem Owns.made (W : World) (B : Nat) (hB : B ≤ W.heap.size) : Owns (W.alloc (.cells #[] 9)) B (.slice (some ⟨W.heap.size, 0, none⟩) 0 0) [] :=
  ⟨rfl, .inr ⟨W.heap.size, 0, #[], rfl, hB, by show (W.heap.push _)[W.heap.size]? = _; rw [Array.getElem?_push_size], Nat.le_refl _, by decide, rfl, rfl⟩⟩

theorem wp_append_text' {ops : Array Oper} {rest : List Oper} {o : Oper} {a : Act} {Q : Exit → Act → World → Prop} (hgd : o.guard = none) (s x : Operand)
    (ho : o.op = .call { callee := .builtin .append, args := #[s, x], argTypes := #[68, 68] })
    (W : World) (B : Nat) (v : Value) (L : List (List UInt8)) (l : List UInt8) (hown : Owns W B v L) (hs : a.eval s = v) (g : Nat) (hx : a.eval x = .slice (some ⟨g, 0, none⟩) 1 1) (hg : g = W.heap.size)
    (hn : L.length ≤ 4398046511104) (hB : B ≤ W.heap.size)
    (h : ∀ v' w', Owns w' B v' (L ++ [l]) → Below B W w' → wpList Tryz.prog ops Q rest (a.put o.dst v') w') : wpList Tryz.prog ops Q (o :: rest) a (W.alloc (.cells #[.string (S l)] 9)) := by
  subst hg
  obtain ⟨i0, hi, hz0, hz1, hz2⟩ := info_parts infoStr
  have hown' : (W.alloc (.cells #[.string (S l)] 9)).ownsRow B 9 1 v L.length (L.map fun x => .string (S x)) := World.ownsRow.alloc hown _
  refine wpList_append_own _ hgd s x 68 ho B 9 i0 (.string ⟨#[]⟩) 1 16 Tryz.underlying68 hi hz0 hz1 hz2 rfl (by decide) v L.length _ hs hown' ⟨W.heap.size, 0, none⟩ 1 1 [.string (S l)] hx rfl ?_ ?_ ?_ ?_ ?_ ?_
  · intro j u hj
    match j, hj with
    | 0, hj => simp at hj; subst hj; simp [Addr.add]
  · intro u hu; simp at hu; subst hu; rfl
  · unfold maxLen; omega
  · omega
  · simp; omega
  · intro v' w' h1 h2 h3
    refine h v' w' (by unfold Owns; simpa using h1) ?_
    refine Below.grown (w := W.alloc (.cells #[.string (S l)] 9)) ((Below.refl _ _).alloc hB _) h2 (by simp; omega) ?_
    intro k hk
    have := World.ownsRow.lt hown' k hk
    exact this.1
theorem wp_append_text {ops : Array Oper} {rest : List Oper} {o : Oper} {a : Act} {Q : Exit → Act → World → Prop} (hgd : o.guard = none) (s x : Operand)
    (ho : o.op = .call { callee := .builtin .append, args := #[s, x], argTypes := #[68, 68] })
    (W : World) (B : Nat) (v : Value) (L : List (List UInt8)) (l : List UInt8) (hown : Owns W B v L) (hs : a.eval s = v) (hx : a.eval x = .slice (some ⟨W.heap.size, 0, none⟩) 1 1)
    (hn : L.length ≤ 4398046511104) (hB : B ≤ W.heap.size)
    (h : ∀ v' w', Owns w' B v' (L ++ [l]) → Below B W w' → wpList Tryz.prog ops Q rest (a.put o.dst v') w') : wpList Tryz.prog ops Q (o :: rest) a (W.alloc (.cells #[.string (S l)] 9)) :=
  wp_append_text' hgd s x ho W B v L l hown hs W.heap.size hx rfl hn hB h
end Go.Proofs.YtenflcaalckdfaaGreatDoor
namespace Go.Proofs.YtenflcaalckdfaaGreatDoor
open Go.RowKit
set_option linter.unusedVariables false

abbrev Fld := List UInt8 × List UInt8
def fcells (f : Fld) : List Value := [.string (S f.1), .string (S f.2)]
theorem flat_len : ∀ L : List Fld, (L.flatMap fcells).length = L.length * 2
  | [] => rfl
  | f :: L => by rw [List.flatMap_cons, List.length_append, flat_len L]; simp [fcells]; omega
theorem flat_at : ∀ (L : List Fld) (j : Nat) (h : j < L.length), (L.flatMap fcells)[j * 2]? = some (.string (S L[j].1)) ∧ (L.flatMap fcells)[j * 2 + 1]? = some (.string (S L[j].2))
  | [], j, h => by simp at h
  | f :: L, 0, h => by simp [fcells]
  | f :: L, j + 1, h => by
    obtain ⟨h1, h2⟩ := flat_at L j (by simpa using h)
    rw [List.flatMap_cons]
    refine ⟨?_, ?_⟩
    · rw [List.getElem?_append_right (by simp [fcells]; omega), show (j + 1) * 2 - (fcells f).length = j * 2 by simp [fcells]; omega, h1]; rfl
    · rw [List.getElem?_append_right (by simp [fcells]; omega), show (j + 1) * 2 + 1 - (fcells f).length = j * 2 + 1 by simp [fcells]; omega, h2]; rfl
theorem flat_one (L : List Fld) : ∀ u ∈ L.flatMap fcells, u.oneCell' = true := by
  intro u hu
  obtain ⟨f, _, hf⟩ := List.mem_flatMap.1 hu
  simp [fcells] at hf
  rcases hf with rfl | rfl <;> rfl

theorem infoFld : (Tryz.prog.info? 87).map (fun i => (i.zero, i.size, i.bytes)) = some (some (.agg #[.string ⟨#[]⟩, .string ⟨#[]⟩]), 2, 32) := by kernel_rfl

def OwnsF (W : World) (B : Nat) (v : Value) (L : List Fld) : Prop := W.ownsRow B 87 2 v L.length (L.flatMap fcells)
def ReadsF (W : World) (v : Value) (L : List Fld) : Prop :=
  ∃ ao cap, v = .slice ao L.length cap ∧ L.length ≤ cap ∧ cap ≤ maxLen ∧ (ao = none → cap = 0) ∧ (0 < L.length → ∃ b off, ao = some ⟨b, off, none⟩ ∧ b < W.heap.size ∧
    ∀ j (h : j < L.length), W.cell? ⟨b, off + j * 2, none⟩ = some (.string (S L[j].1)) ∧ W.cell? ⟨b, off + j * 2 + 1, none⟩ = some (.string (S L[j].2)))
theorem OwnsF.nil (W : World) (B : Nat) : OwnsF W B (.slice none 0 0) [] := World.ownsRow_nil _ _ _ _
theorem ReadsF.nil (W : World) : ReadsF W (.slice none 0 0) [] := ⟨none, 0, rfl, Nat.le_refl _, by decide, fun _ => rfl, fun h => by simp at h⟩
theorem OwnsF.made (W : World) (B : Nat) (hB : B ≤ W.heap.size) : OwnsF (W.alloc (.cells #[] 87)) B (.slice (some ⟨W.heap.size, 0, none⟩) 0 0) [] :=
  ⟨rfl, .inr ⟨W.heap.size, 0, #[], rfl, hB, by show (W.heap.push _)[W.heap.size]? = _; rw [Array.getElem?_push_size], Nat.le_refl _, by decide, rfl, rfl⟩⟩
theorem OwnsF.below {W W' : World} {B : Nat} {v : Value} {L : List Fld} (h : OwnsF W B v L) (hb : Below W.heap.size W W') : OwnsF W' B v L := by
  obtain ⟨h1, h2⟩ := h
  refine ⟨h1, ?_⟩
  rcases h2 with h2 | ⟨g, cap, cur, h3, h4, h5, h6⟩
  · exact .inl h2
  · refine .inr ⟨g, cap, cur, h3, h4, ?_, h6⟩
    have hg : g < W.heap.size := by
      rcases Nat.lt_or_ge g W.heap.size with h | h
      · exact h
      · rw [Array.getElem?_eq_none h] at h5; cases h5
    rw [hb.block g hg]
    exact h5
theorem OwnsF.base {W : World} {B B' : Nat} {v : Value} {L : List Fld} (h : OwnsF W B v L) (hb : B' ≤ B) : OwnsF W B' v L := by
  obtain ⟨h1, h2⟩ := h
  refine ⟨h1, ?_⟩
  rcases h2 with h2 | ⟨g, cap, cur, h3, h4, h5⟩
  · exact .inl h2
  · exact .inr ⟨g, cap, cur, h3, Nat.le_trans hb h4, h5⟩
theorem OwnsF.reads {W : World} {B : Nat} {v : Value} {L : List Fld} (h : OwnsF W B v L) : ReadsF W v L := by
  obtain ⟨h1, h2⟩ := h
  rcases h2 with ⟨h2, h3⟩ | ⟨g, cap, cur, h3, h4, h5, h6, h7, h8, h9⟩
  · have : L = [] := List.length_eq_zero_iff.1 h3
    subst this; rw [h2]; exact ReadsF.nil W
  · have hg : g < W.heap.size := by
      rcases Nat.lt_or_ge g W.heap.size with h | h
      · exact h
      · rw [Array.getElem?_eq_none h] at h5; cases h5
    refine ⟨_, cap, h3, h6, h7, (fun h => by cases h), fun h0 => ⟨g, 0, rfl, hg, fun j hj => ?_⟩⟩
    have hcell : ∀ q, q < L.length * 2 → W.cell? ⟨g, q, none⟩ = (L.flatMap fcells)[q]? := fun q hq => by
      rw [Joins.cell_of_block h5, ← h9, List.getElem?_take, if_pos hq, Array.getElem?_toList]
    obtain ⟨e1, e2⟩ := flat_at L j hj
    rw [Nat.zero_add]
    exact ⟨(hcell _ (by omega)).trans e1, (hcell _ (by omega)).trans e2⟩
theorem ReadsF.below {W W' : World} {v : Value} {L : List Fld} (h : ReadsF W v L) (hb : Below W.heap.size W W') : ReadsF W' v L := by
  obtain ⟨ao, cap, h1, h2, h3, h3', h4⟩ := h
  refine ⟨ao, cap, h1, h2, h3, h3', fun h0 => ?_⟩
  obtain ⟨b, off, e1, e2, e3⟩ := h4 h0
  refine ⟨b, off, e1, Nat.lt_of_lt_of_le e2 hb.size, fun j hj => ?_⟩
  rw [hb.cell (p := ⟨b, off + j * 2, none⟩) e2, hb.cell (p := ⟨b, off + j * 2 + 1, none⟩) e2]
  exact e3 j hj

theorem two_cells (W : World) (f : Fld) : ∀ j u, (fcells f)[j]? = some u → (W.alloc (.cells #[.string (S f.1), .string (S f.2)] 87)).cell? ((⟨W.heap.size, 0, none⟩ : Addr).add j) = some u := by
  intro j u hj
  match j, hj with
  | 0, hj => simp [fcells] at hj; subst hj; simp [Addr.add]
  | 1, hj => simp [fcells] at hj; subst hj; simp [Addr.add]

theorem OwnsF.apart {W W0 w' : World} {B B0 : Nat} {v1 v2 : Value} {L1 L2 : List Fld} (h1 : OwnsF W B v1 L1) (h2 : OwnsF W0 B0 v2 L2) (hB : W0.heap.size ≤ B) (hg : W.grownBy w' v2.ownBlock) : OwnsF w' B v1 L1 := by
  refine World.ownsRow.kept h1 hg ?_
  cases hv : v1.ownBlock with
  | none => exact .inl rfl
  | some k =>
    refine .inr fun e => ?_
    have a := World.ownsRow.lt h1 k hv
    have b := World.ownsRow.lt h2 k e.symm
    omega

theorem wp_append_fld {ops : Array Oper} {rest : List Oper} {o : Oper} {a : Act} {Q : Exit → Act → World → Prop} (hgd : o.guard = none) (s x : Operand)
    (ho : o.op = .call { callee := .builtin .append, args := #[s, x], argTypes := #[66, 66] })
    (W : World) (B : Nat) (v : Value) (L : List Fld) (f : Fld) (hown : OwnsF W B v L) (hs : a.eval s = v) (g : Nat) (hx : a.eval x = .slice (some ⟨g, 0, none⟩) 1 1) (hg : g = W.heap.size)
    (hn : L.length ≤ 2199023255552) (hB : B ≤ W.heap.size)
    (h : ∀ v' w', OwnsF w' B v' (L ++ [f]) → Below B W w' → (W.alloc (.cells #[.string (S f.1), .string (S f.2)] 87)).grownBy w' v.ownBlock → wpList Tryz.prog ops Q rest (a.put o.dst v') w') : wpList Tryz.prog ops Q (o :: rest) a (W.alloc (.cells #[.string (S f.1), .string (S f.2)] 87)) := by
  subst hg
  obtain ⟨i0, hi, hz0, hz1, hz2⟩ := info_parts infoFld
  have hown' : (W.alloc (.cells #[.string (S f.1), .string (S f.2)] 87)).ownsRow B 87 2 v L.length (L.flatMap fcells) := World.ownsRow.alloc hown _
  refine wpList_append_own _ hgd s x 66 ho B 87 i0 (.agg #[.string ⟨#[]⟩, .string ⟨#[]⟩]) 2 32 Tryz.underlying66 hi hz0 hz1 hz2 rfl (by decide) v L.length _ hs hown' ⟨W.heap.size, 0, none⟩ 1 1 (fcells f) hx rfl (two_cells W f) ?_ ?_ ?_ ?_ ?_
  · intro u hu; simp [fcells] at hu; rcases hu with rfl | rfl <;> rfl
  · unfold maxLen; omega
  · omega
  · simp; omega
  · intro v' w' h1 h2 h3
    refine h v' w' (by unfold OwnsF; simpa using h1) ?_ ?_
    · refine Below.grown (w := W.alloc (.cells #[.string (S f.1), .string (S f.2)] 87)) ((Below.refl _ _).alloc hB _) h2 (by simp; omega) ?_
      intro k hk
      exact (World.ownsRow.lt hown' k hk).1
    · exact h2

theorem wp_append_clip {ops : Array Oper} {rest : List Oper} {o : Oper} {a : Act} {Q : Exit → Act → World → Prop} (hgd : o.guard = none) (s x : Operand)
    (ho : o.op = .call { callee := .builtin .append, args := #[s, x], argTypes := #[66, 66] })
    (W : World) (ao : Option Addr) (cap : Nat) (L : List Fld) (f : Fld) (hr : ReadsF W (.slice ao L.length cap) L) (hs : a.eval s = .slice ao L.length L.length) (g : Nat) (hx : a.eval x = .slice (some ⟨g, 0, none⟩) 1 1) (hg : g = W.heap.size)
    (hn : L.length ≤ 2199023255552)
    (h : ∀ v' w', OwnsF w' W.heap.size v' (L ++ [f]) → Below W.heap.size W w' → wpList Tryz.prog ops Q rest (a.put o.dst v') w') : wpList Tryz.prog ops Q (o :: rest) a (W.alloc (.cells #[.string (S f.1), .string (S f.2)] 87)) := by
  subst hg
  obtain ⟨i0, hi, hz0, hz1, hz2⟩ := info_parts infoFld
  obtain ⟨ao', cap', e1, e2, e3, e4, e5⟩ := hr
  injection e1 with e6 e7 e8
  subst e6
  refine wpList_append_grows _ hgd s x 66 ho 87 i0 (.agg #[.string ⟨#[]⟩, .string ⟨#[]⟩]) 2 32 Tryz.underlying66 hi hz0 hz1 hz2 rfl (by decide) ao L.length L.length (L.flatMap fcells) hs (fun hno => ?_) (flat_len L) ?_ ⟨W.heap.size, 0, none⟩ 1 1 (fcells f) hx rfl (two_cells W f) ?_ (by omega) ?_ ?_ ?_
  · have := e4 hno; omega
  · intro b hb j u hj
    have hlen := flat_len L
    have hj2 : j < L.length * 2 := by
      rcases Nat.lt_or_ge j (L.length * 2) with h' | h'
      · exact h'
      · rw [List.getElem?_eq_none (by omega)] at hj; cases hj
    obtain ⟨b0, off, e9, e10, e11⟩ := e5 (by omega)
    rw [hb] at e9
    cases e9
    have hal := Below.alloc (Below.refl W.heap.size W) (Nat.le_refl _) (.cells #[.string (S f.1), .string (S f.2)] 87)
    obtain ⟨c1, c2⟩ := e11 (j / 2) (by omega)
    obtain ⟨d1, d2⟩ := flat_at L (j / 2) (by omega)
    have hadd : ((⟨b0, off, none⟩ : Addr).add j) = ⟨b0, off + j, none⟩ := by
      unfold Addr.add; split
      · rename_i e; subst e; rfl
      · rfl
    rw [hadd, hal.cell (p := ⟨b0, off + j, none⟩) e10]
    rcases Nat.mod_two_eq_zero_or_one j with hm | hm
    · have : j = j / 2 * 2 := by omega
      rw [← this] at c1 d1
      rw [c1, ← d1]; exact hj
    · have : j = j / 2 * 2 + 1 := by omega
      rw [Nat.add_assoc, ← this] at c2
      rw [← this] at d2
      rw [c2, ← d2]; exact hj
  · intro u hu; simp [fcells] at hu; rcases hu with rfl | rfl <;> rfl
  · unfold maxLen; omega
  · omega
  · intro v' w' h1 h2
    refine h v' w' ?_ ?_
    · refine OwnsF.base (B := (W.alloc (.cells #[.string (S f.1), .string (S f.2)] 87)).heap.size) ?_ (by simp)
      unfold OwnsF
      simpa using h1
    · exact Below.grown (w := W.alloc (.cells #[.string (S f.1), .string (S f.2)] 87)) ((Below.refl _ _).alloc (Nat.le_refl _) _) h2 (by simp) (fun k hk => by cases hk)
end Go.Proofs.YtenflcaalckdfaaGreatDoor
