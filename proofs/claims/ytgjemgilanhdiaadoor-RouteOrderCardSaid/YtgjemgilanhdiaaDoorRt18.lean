/- What is written is read again: plain words (first part). -/
import Derived.Test.YtgjemgilanhdiaaDoorRt16
import Derived.Test.YtgjemgilanhdiaaDoorRt17
namespace Go.Proofs.YtgjemgilanhdiaaDoor
set_option linter.unusedVariables false

theorem parse_bad (s : List UInt8) (h : (parseL s).2 ≠ 0) : (parseL s).1 = UU.nil := by
  unfold parseL at h ⊢
  split
  · rfl
  · rename_i h1
    rw [if_neg h1] at h
    split
    · rename_i h2
      rw [if_pos h2] at h
      split
      · rename_i h3; rw [if_pos h3] at h; exact absurd rfl h
      · rfl
    · rename_i h2
      rw [if_neg h2] at h
      split
      · rename_i h3; rw [if_pos h3] at h; exact absurd rfl h
      · rfl
theorem parse_good (s : List UInt8) (h : (parseL s).2 = 0) : (parseL s).1.ok = true := by
  unfold parseL at h ⊢
  split at h
  · cases h
  · rename_i h1
    rw [if_neg h1]
    split at h
    · rename_i h2
      rw [if_pos h2]
      split at h
      · rename_i h3
        rw [if_pos h3]
        simp only [Bool.and_eq_true] at h3
        exact h3.2
      · cases h
    · rename_i h2
      rw [if_neg h2]
      split at h
      · rename_i h3; rw [if_pos h3]; exact h3
      · cases h

theorem idx_at (a r : List UInt8) (c : UInt8) (h : c ∉ a) : Lib.indexByte (a ++ c :: r) c = a.length := by
  have h0 := Lib.indexByte_ge (a ++ c :: r) c
  have hne : Lib.indexByte (a ++ c :: r) c ≠ -1 := fun e => Lib.indexByte_none e a.length (by simp)
  obtain ⟨i, hi⟩ : ∃ i : Nat, Lib.indexByte (a ++ c :: r) c = i := ⟨(Lib.indexByte (a ++ c :: r) c).toNat, by omega⟩
  obtain ⟨h1, h2⟩ := Lib.indexByte_some hi
  rw [hi]
  rcases Nat.lt_trichotomy i a.length with h3 | h3 | h3
  · rw [List.getElem?_append_left h3] at h1
    exact absurd (List.mem_of_getElem? h1) h
  · rw [h3]
  · exact absurd (by simp) (h2 a.length h3)
/-- A path with its query, parted again. -/
theorem cut_back (p y : List UInt8) (q : Bool) (hp : (63 : UInt8) ∉ p) (hq : q = true ∨ y = []) : cut1 (p ++ (if q then 63 :: y else [])) 63 = (p, y, q) := by
  cases q with
  | true =>
    simp only [if_true]
    unfold cut1
    rw [idx_at p y 63 hp, if_pos (by omega), Int.toNat_natCast, List.take_left, List.drop_append]
    simp
  | false =>
    have hy : y = [] := by simpa using hq
    subst hy
    simp only [Bool.false_eq_true, if_false, List.append_nil]
    unfold cut1
    rw [if_neg (by have := idx_neg.2 hp; omega)]

/-- Where the host ends, if none of its bytes is a slash or an ask. -/
theorem endOf_at (a r : List UInt8) (h : ∀ c ∈ a, slashAsk c = false) : endOf (a ++ 47 :: r) = a.length := by
  have key : Lib.indexAny (a ++ 47 :: r) [47, 63] = a.length := by
    induction a with
    | nil => rfl
    | cons b a ih =>
      rw [List.cons_append]
      unfold Lib.indexAny
      show (if slashAsk b = true then _ else _) = _
      rw [if_neg (by rw [h b (by simp)]; simp), ih (fun c hc => h c (by simp [hc])), if_neg (by simp)]
      simp
  unfold endOf
  rw [key, if_neg (by omega), Int.toNat_natCast]
end Go.Proofs.YtgjemgilanhdiaaDoor
