/- strings.Contains and strings.Cut at one byte. strings.Split at one byte: its parts. -/
import Derived.Test.YtcfihoniocamaaaGreatDoorPk3
import Derived.Lib.SplitLaws
namespace Go.Proofs.YtcfihoniocamaaaGreatDoor
open Go.RowKit Go.Sort Go.Shelf
set_option linter.unusedVariables false

def cut1 (l : List UInt8) (c : UInt8) : List UInt8 × List UInt8 × Bool :=
  if 0 ≤ Lib.indexByte l c then (l.take (Lib.indexByte l c).toNat, l.drop ((Lib.indexByte l c).toNat + 1), true) else (l, [], false)

theorem index1_S (l : List UInt8) (c : UInt8) (w : World) : Calls Tryz.prog 119 #[.string (S l), .string (S [c])] w fun e w' => e = .returned (.int .i64 (Lib.indexByte l c)) ∧ w' = w :=
  (Tryz.stringslite_Index_one (S l) c w).mono fun e w' ⟨h1, h2⟩ => ⟨h1.trans (by rw [S_data]), h2⟩

theorem indexByte_lt (l : List UInt8) (c : UInt8) : Lib.indexByte l c < l.length := by
  have := Lib.indexByte_ge l c
  by_cases h : Lib.indexByte l c = -1
  · omega
  · obtain ⟨i, hi⟩ : ∃ i : Nat, Lib.indexByte l c = i := ⟨(Lib.indexByte l c).toNat, by omega⟩
    obtain ⟨h1, _⟩ := Lib.indexByte_some hi
    have := (List.getElem?_eq_some_iff.1 h1).1
    omega


end Go.Proofs.YtcfihoniocamaaaGreatDoor
namespace Go.Proofs.YtcfihoniocamaaaGreatDoor
open Go.RowKit Go.Sort Go.Shelf
set_option linter.unusedVariables false

theorem index_at (a r : List UInt8) (c : UInt8) (h : c ∉ a) : Lib.indexByte (a ++ c :: r) c = a.length := by
  have h0 := Lib.indexByte_ge (a ++ c :: r) c
  have hne : Lib.indexByte (a ++ c :: r) c ≠ -1 := fun e => Lib.indexByte_none e a.length (by simp)
  obtain ⟨i, hi⟩ : ∃ i : Nat, Lib.indexByte (a ++ c :: r) c = i := ⟨(Lib.indexByte (a ++ c :: r) c).toNat, by omega⟩
  obtain ⟨h1, h2⟩ := Lib.indexByte_some hi
  rw [hi]
  rcases Nat.lt_trichotomy i a.length with h3 | h3 | h3
  · rw [List.getElem?_append_left h3] at h1
    exact absurd (List.mem_of_getElem? h1) h
  · rw [h3]
  · exact absurd (by simp) (h2 a.length h3)
theorem index_no (a : List UInt8) (c : UInt8) (h : c ∉ a) : Lib.indexByte a c = -1 := by
  have h0 := Lib.indexByte_ge a c
  refine Decidable.byContradiction fun hne => ?_
  obtain ⟨i, hi⟩ : ∃ i : Nat, Lib.indexByte a c = i := ⟨(Lib.indexByte a c).toNat, by omega⟩
  exact h (List.mem_of_getElem? (Lib.indexByte_some hi).1)
theorem split_none (a : List UInt8) (c : UInt8) (h : c ∉ a) : Lib.split a [c] = [a] := by
  have h1 : Lib.index a [c] = -1 := by rw [Lib.index_one]; exact index_no _ _ h
  unfold Lib.split
  rw [Lib.count_miss h1]
  rfl
theorem split_at (a r : List UInt8) (c : UInt8) (h : c ∉ a) : Lib.split (a ++ c :: r) [c] = a :: Lib.split r [c] := by
  have h1 : Lib.index (a ++ c :: r) [c] = (a.length : Nat) := by rw [Lib.index_one]; exact index_at _ _ _ h
  have h2 : (a ++ c :: r).drop (a.length + 1) = r := by rw [List.drop_append]; simp
  unfold Lib.split
  rw [Lib.count_hit (by simp) h1, show ([c] : List UInt8).length = 1 from rfl, h2, Nat.add_comm]
  conv => lhs; unfold Lib.splitK
  have hm : ¬ (Lib.index (a ++ c :: r) [c] == -1) = true := by rw [h1]; simp
  rw [if_neg hm, h1, Int.toNat_natCast, Nat.add_zero, show ([c] : List UInt8).length = 1 from rfl, h2, List.take_left]
/-- A text is one part, or one part, the byte, and the rest. -/
theorem first_part (s : List UInt8) (c : UInt8) : c ∉ s ∨ ∃ a r, c ∉ a ∧ s = a ++ c :: r := by
  induction s with
  | nil => left; simp
  | cons d t ih =>
    by_cases h : d = c
    · right; exact ⟨[], t, by simp, by simp [h]⟩
    · rcases ih with h1 | ⟨a, r, h1, h2⟩
      · left; simp [h1, Ne.symm h]
      · right; exact ⟨d :: a, r, by simp [h1, Ne.symm h], by simp [h2]⟩
/-- Two texts with the byte between: the parts of both. -/
theorem split_join (s t : List UInt8) (c : UInt8) : Lib.split (s ++ c :: t) [c] = Lib.split s [c] ++ Lib.split t [c] := by
  obtain ⟨n, hn⟩ : ∃ n, s.length = n := ⟨_, rfl⟩
  induction n using Nat.strongRecOn generalizing s with
  | ind n ih =>
    rcases first_part s c with h | ⟨a, r, h1, h2⟩
    · rw [split_at _ _ _ h, split_none _ _ h]; rfl
    · subst h2
      rw [List.append_assoc, List.cons_append, split_at _ _ _ h1, split_at _ _ _ h1, ih r.length (by rw [← hn]; simp; omega) r rfl]
      rfl
theorem split_len (s : List UInt8) (c : UInt8) : ∀ x ∈ Lib.split s [c], x.length ≤ s.length := by
  obtain ⟨n, hn⟩ : ∃ n, s.length = n := ⟨_, rfl⟩
  induction n using Nat.strongRecOn generalizing s with
  | ind n ih =>
    intro x hx
    rcases first_part s c with h | ⟨a, r, h1, h2⟩
    · rw [split_none _ _ h] at hx
      obtain rfl : x = s := by simpa using hx
      exact Nat.le_refl _
    · subst h2
      rw [split_at _ _ _ h1] at hx
      simp only [List.length_append, List.length_cons] at hn ⊢
      rcases List.mem_cons.1 hx with rfl | hx
      · omega
      · have := ih r.length (by omega) r rfl x hx
        omega
theorem S_data' (b : ByteArray) : S b.data.toList = b := by
  obtain ⟨l, rfl⟩ := S_of b
  rw [S_data]
theorem split_cells (l : List UInt8) (c : UInt8) : Lib.splitB (S [c]) 0 (Lib.countB (S l) (S [c])) (S l) = (Lib.split l [c]).map S ∧ (Lib.split l [c]).length = Lib.countB (S l) (S [c]) + 1 := by
  have h1 := Lib.splitB_data (S [c]) 0 (Lib.countB (S l) (S [c])) (S l)
  have h2 := Lib.splitB_all (S [c]) (by rw [S_size]; simp) 0 _ (S l) rfl
  rw [show Lib.splitK (S [c]).data.toList 0 (Lib.countB (S l) (S [c])) (S l).data.toList = Lib.split l [c] by unfold Lib.split Lib.countB; rw [S_data, S_data]] at h1
  refine ⟨?_, by rw [← h1, List.length_map, h2]⟩
  rw [← h1, List.map_map]
  conv => lhs; rw [← List.map_id (Lib.splitB (S [c]) 0 (Lib.countB (S l) (S [c])) (S l))]
  exact List.map_congr_left fun b _ => (S_data' b).symm

theorem split1_S (l : List UInt8) (c : UInt8) (hl : l.length ≤ 1000000) (w : World) (hM : ∃ m, w.cell? ⟨0, 0, none⟩ = some (.int .i64 m)) : Calls Tryz.prog 52 #[.string (S l), .string (S [c])] w fun e w' =>
    e = .returned (.slice (some ⟨w.heap.size, 0, none⟩) (Lib.split l [c]).length (Lib.split l [c]).length) ∧ Below w.heap.size w w' ∧ w.heap.size < w'.heap.size ∧ ∀ j (hj : j < (Lib.split l [c]).length), w'.cell? ⟨w.heap.size, j, none⟩ = some (.string (S (Lib.split l [c])[j])) := by
  obtain ⟨m, hm⟩ := hM
  obtain ⟨h1, h2⟩ := split_cells l c
  refine (Tryz.strings_Split (S l) (S [c]) m w (by rw [S_size]; omega) hm (by rw [S_size]; simp)).mono fun e w' ⟨he, hw⟩ => ?_
  subst hw
  refine ⟨by rw [he, h2], (Below.refl _ _).alloc (Nat.le_refl _) _, by simp, fun j hj => ?_⟩
  rw [h1]
  simp [hj]
end Go.Proofs.YtcfihoniocamaaaGreatDoor
