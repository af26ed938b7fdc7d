/- strings.ReplaceAll of one byte by another: the byte is gone, the length stays. No program in sight. -/
import Derived.Test.YtenflcaalckdfaaDoorVr4
import Derived.Lib.Replace
namespace Go.Proofs.YtenflcaalckdfaaDoor
open Go.RowKit Go.Shelf
set_option linter.unusedVariables false

theorem occ_one {s : List UInt8} {c : UInt8} {j : Nat} (h : Lib.occAt s [c] j = false) : s[j]? ≠ some c := by
  intro hs
  obtain ⟨hj, e⟩ := List.getElem?_eq_some_iff.1 hs
  have : Lib.occAt s [c] j = true := by
    unfold Lib.occAt
    rw [List.drop_eq_getElem_cons hj, e]
    simp [List.isPrefixOf]
  rw [this] at h; cases h
theorem replK_one {c d : UInt8} (hcd : c ≠ d) : ∀ (k : Nat) (s : List UInt8), s.count c = k → c ∉ Lib.replaceK [c] [d] k s ∧ (Lib.replaceK [c] [d] k s).length = s.length
  | 0, s, h => ⟨List.count_eq_zero.1 h, rfl⟩
  | k + 1, s, h => by
    rcases Lib.index_spec s [c] with ⟨h1, h2⟩ | ⟨i, h1, h2, h3, h4⟩
    · have : c ∉ s := fun hm => by
        obtain ⟨j, hj, e⟩ := List.getElem_of_mem hm
        exact occ_one (h2 j (by omega)) (by rw [List.getElem?_eq_getElem hj, e])
      rw [List.count_eq_zero.2 this] at h; omega
    · have hi := Lib.occAt_head rfl h3
      obtain ⟨hil, e⟩ := List.getElem?_eq_some_iff.1 hi
      have hs : s = s.take i ++ c :: s.drop (i + 1) := by
        conv => lhs; rw [← List.take_append_drop i s, List.drop_eq_getElem_cons hil, e]
      have hnt : c ∉ s.take i := fun hm => by
        obtain ⟨j, hj, e'⟩ := List.getElem_of_mem hm
        rw [List.length_take] at hj
        rw [List.getElem_take] at e'
        exact occ_one (h4 j (by omega)) (by rw [List.getElem?_eq_getElem (by omega), e'])
      have hc : (s.drop (i + 1)).count c = k := by
        have := h
        rw [hs, List.count_append, List.count_eq_zero.2 hnt, List.count_cons_self] at this
        omega
      obtain ⟨g1, g2⟩ := replK_one hcd k (s.drop (i + 1)) hc
      rw [Lib.replaceK_hit [c] [d] k s i h1]
      simp only [List.length_cons, List.length_nil, Nat.zero_add]
      refine ⟨fun hm => ?_, ?_⟩
      · rcases List.mem_append.1 hm with hm | hm
        · rcases List.mem_append.1 hm with hm | hm
          · exact hnt hm
          · exact hcd (List.mem_singleton.1 hm)
        · exact g1 hm
      · simp only [List.length_append, List.length_take, List.length_cons, List.length_nil, g2, List.length_drop]
        omega
theorem replAll_one {c d : UInt8} (hcd : c ≠ d) (s : List UInt8) : c ∉ Lib.replaceAll s [c] [d] ∧ (Lib.replaceAll s [c] [d]).length = s.length := by
  have hne : (([c] : List UInt8) == [d]) = false := by simp [hcd]
  unfold Lib.replaceAll Lib.replace Lib.replaceNum
  rw [hne, if_neg (by simp), if_pos (.inl (by omega)), Lib.count_one]
  exact replK_one hcd _ s rfl
end Go.Proofs.YtenflcaalckdfaaDoor
