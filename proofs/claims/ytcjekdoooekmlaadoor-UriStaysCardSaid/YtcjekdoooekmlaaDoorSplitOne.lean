/- strings.Split at one byte. -/
import Derived.Test.YtcjekdoooekmlaaDoorCutOne
import Derived.Test.YtcjekdoooekmlaaDoorSegMath
import Derived.Lib.SplitLaws
namespace Go.Proofs.YtcjekdoooekmlaaDoor
open Go.RowKit Go.Sort Go.Shelf
set_option linter.unusedVariables false

theorem indexByte_at (a r : List UInt8) (c : UInt8) (h : c ∉ a) : Lib.indexByte (a ++ c :: r) c = a.length := by
  have h0 := Lib.indexByte_ge (a ++ c :: r) c
  have hne : Lib.indexByte (a ++ c :: r) c ≠ -1 := fun e => Lib.indexByte_none e a.length (by simp)
  obtain ⟨i, hi⟩ : ∃ i : Nat, Lib.indexByte (a ++ c :: r) c = i := ⟨(Lib.indexByte (a ++ c :: r) c).toNat, by omega⟩
  obtain ⟨h1, h2⟩ := Lib.indexByte_some hi
  rw [hi]
  rcases Nat.lt_trichotomy i a.length with h3 | h3 | h3
  · rw [List.getElem?_append_left h3] at h1
    exact absurd (List.mem_of_getElem? h1) h
  · rw [h3]
  · exact absurd (by simp) (h2 a.length h3)
theorem indexByte_no (a : List UInt8) (c : UInt8) (h : c ∉ a) : Lib.indexByte a c = -1 := by
  have h0 := Lib.indexByte_ge a c
  refine Decidable.byContradiction fun hne => ?_
  obtain ⟨i, hi⟩ : ∃ i : Nat, Lib.indexByte a c = i := ⟨(Lib.indexByte a c).toNat, by omega⟩
  exact h (List.mem_of_getElem? (Lib.indexByte_some hi).1)

theorem split_parts (ss : List (List UInt8)) : ∀ a : List UInt8, (47 : UInt8) ∉ a → (∀ s ∈ ss, (47 : UInt8) ∉ s) → Lib.split (a ++ flat ss) [47] = a :: ss := by
  induction ss with
  | nil =>
    intro a ha _
    have h1 : Lib.index a [47] = -1 := by rw [Lib.index_one]; exact indexByte_no _ _ ha
    rw [flat_nil, List.append_nil]
    unfold Lib.split
    rw [Lib.count_miss h1]
    rfl
  | cons s ss ih =>
    intro a ha hs
    have h1 : Lib.index (a ++ flat (s :: ss)) [47] = (a.length : Nat) := by rw [Lib.index_one, flat_cons]; exact indexByte_at _ _ _ ha
    have h2 : (a ++ flat (s :: ss)).drop (a.length + 1) = s ++ flat ss := by
      rw [flat_cons, List.drop_append]; simp
    have h3 := ih s (hs s (by simp)) (fun t ht => hs t (by simp [ht]))
    unfold Lib.split at h3 ⊢
    rw [Lib.count_hit (by simp) h1, show ([47] : List UInt8).length = 1 from rfl, h2, Nat.add_comm]
    unfold Lib.splitK
    have hm : ¬ (Lib.index (a ++ flat (s :: ss)) [47] == -1) = true := by rw [h1]; simp
    rw [if_neg hm, h1, Int.toNat_natCast, Nat.add_zero, show ([47] : List UInt8).length = 1 from rfl, h2, h3, List.take_left]
theorem split_flat (ss : List (List UInt8)) (h : ∀ s ∈ ss, (47 : UInt8) ∉ s) : Lib.split (flat ss) [47] = [] :: ss := by
  simpa using split_parts ss [] (by simp) h

theorem S_data' (b : ByteArray) : S b.data.toList = b := by
  obtain ⟨l, rfl⟩ := S_of b
  rw [S_data]
theorem split_cells (l : List UInt8) (c : UInt8) : Lib.splitB (S [c]) 0 (Lib.countB (S l) (S [c])) (S l) = (Lib.split l [c]).map S ∧ (Lib.split l [c]).length = Lib.countB (S l) (S [c]) + 1 := by
  have h1 := Lib.splitB_data (S [c]) 0 (Lib.countB (S l) (S [c])) (S l)
  have h2 := Lib.splitB_all (S [c]) (by rw [S_size]; simp) 0 _ (S l) rfl
  rw [show Lib.splitK (S [c]).data.toList 0 (Lib.countB (S l) (S [c])) (S l).data.toList = Lib.split l [c] by unfold Lib.split Lib.countB; rw [S_data, S_data]] at h1
  refine ⟨?_, by rw [← h1, List.length_map, h2]⟩
  rw [← h1, List.map_map]
  conv => lhs; rw [← List.map_id (Lib.splitB (S [c]) 0 (Lib.countB (S l) (S [c])) (S l))]
  exact List.map_congr_left fun b _ => (S_data' b).symm

theorem split1_S (l : List UInt8) (c : UInt8) (hl : l.length ≤ 1000000) (w : World) (hM : ∃ m, w.cell? ⟨0, 0, none⟩ = some (.int .i64 m)) : Calls Tryd.prog 12 #[.string (S l), .string (S [c])] w fun e w' =>
    e = .returned (.slice (some ⟨w.heap.size, 0, none⟩) (Lib.split l [c]).length (Lib.split l [c]).length) ∧ Below w.heap.size w w' ∧ w.heap.size < w'.heap.size ∧ ∀ j (hj : j < (Lib.split l [c]).length), w'.cell? ⟨w.heap.size, j, none⟩ = some (.string (S (Lib.split l [c])[j])) := by
  obtain ⟨m, hm⟩ := hM
  obtain ⟨h1, h2⟩ := split_cells l c
  refine (Tryd.strings_Split (S l) (S [c]) m w (by rw [S_size]; omega) hm (by rw [S_size]; simp)).mono fun e w' ⟨he, hw⟩ => ?_
  subst hw
  refine ⟨by rw [he, h2], (Below.refl _ _).alloc (Nat.le_refl _) _, by simp, fun j hj => ?_⟩
  rw [h1]
  simp [hj]
end Go.Proofs.YtcjekdoooekmlaaDoor
