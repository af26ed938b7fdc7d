/- The library's functions on texts, over lists of bytes. -/
import Derived.Test.YtngaofoedkankaaDoorStr
import Derived.Test.YtngaofoedkankaaDoorShelf
import Derived.Lib.LastIndexByte
namespace Go.Proofs.YtngaofoedkankaaDoor
open Go.RowKit
set_option linter.unusedVariables false

theorem hasPrefix_S {s p : List UInt8} {b : Bool} (h : Lib.hasPrefix s p = b) (w : World) : Calls Tryd.prog 30 #[.string (S s), .string (S p)] w fun e w' => e = .returned (.bool b) ∧ w' = w :=
  (Tryd.strings_HasPrefix (S s) (S p) w).mono fun e w' ⟨h1, h2⟩ => ⟨h1.trans (by rw [S_data, S_data, h]), h2⟩
theorem indexByte_S {s : List UInt8} {c : Int} {i : Int} (h : Lib.indexByte s c.toNat.toUInt8 = i) (w : World) : Calls Tryd.prog 38 #[.string (S s), .int .u8 c] w fun e w' => e = .returned (.int .i64 i) ∧ w' = w :=
  (Tryd.strings_IndexByte (S s) c w).mono fun e w' ⟨h1, h2⟩ => ⟨h1.trans (by rw [S_data, h]), h2⟩

/-- Where a byte stands last; -1: nowhere. -/
def lastR : List UInt8 → UInt8 → Int
  | [], _ => -1
  | b :: r, c => if b = c then (r.length : Int) else lastR r c
def lastL (l : List UInt8) (c : UInt8) : Int := lastR l.reverse c
theorem lastL_nil (c : UInt8) : lastL [] c = -1 := rfl
theorem lastL_snoc (l : List UInt8) (b c : UInt8) : lastL (l ++ [b]) c = if b = c then (l.length : Int) else lastL l c := by
  simp [lastL, lastR]
theorem lastL_spec (c : UInt8) (r : List UInt8) : (lastL r.reverse c = -1 ∧ c ∉ r) ∨ ∃ i : Nat, lastL r.reverse c = i ∧ i < r.length ∧ r.reverse[i]? = some c ∧ ∀ j, i < j → r.reverse[j]? ≠ some c := by
  induction r with
  | nil => exact .inl ⟨rfl, by simp⟩
  | cons b r ih =>
    rw [List.reverse_cons, lastL_snoc]
    by_cases h : b = c
    · right
      refine ⟨r.length, by simp [h], by simp, by simp [h], fun j hj => ?_⟩
      rw [List.getElem?_eq_none (by simp; omega)]; simp
    · rw [if_neg h]
      rcases ih with ⟨h1, h2⟩ | ⟨i, h1, h2, h3, h4⟩
      · exact .inl ⟨h1, by simp; exact ⟨fun e => h e.symm, h2⟩⟩
      · refine .inr ⟨i, h1, by simp; omega, ?_, fun j hj => ?_⟩
        · rw [List.getElem?_append_left (by simpa using h2)]; exact h3
        · by_cases hj2 : j < r.length
          · rw [List.getElem?_append_left (by simpa using hj2)]; exact h4 j hj
          · by_cases hj3 : j = r.length
            · subst hj3; simp [h]
            · rw [List.getElem?_eq_none (by simp; omega)]; simp
theorem lastL_lo (l : List UInt8) (c : UInt8) : -1 ≤ lastL l c := by
  have := lastL_spec c l.reverse
  rw [List.reverse_reverse] at this
  rcases this with ⟨h, _⟩ | ⟨i, h, _⟩ <;> omega
theorem lastL_hi (l : List UInt8) (c : UInt8) : lastL l c < l.length := by
  have := lastL_spec c l.reverse
  rw [List.reverse_reverse] at this
  rcases this with ⟨h, _⟩ | ⟨i, h, h2, _⟩
  · omega
  · simp at h2; omega
theorem lastIdx_eq (l : List UInt8) (c : UInt8) : ∀ k, k ≤ l.length → Lib.lastIdx (S l) (c.toNat : Int) k = lastL (l.take k) c
  | 0, _ => by rw [List.take_zero]; rfl
  | k + 1, h => by
    have hk : k < l.length := by omega
    have e : (S l).data[k]! = l[k] := by simp [S, hk]
    rw [List.take_succ_eq_append_getElem hk, lastL_snoc]
    by_cases hc : l[k] = c
    · rw [if_pos hc, Lib.lastIdx_hit _ _ _ (by rw [e, hc])]
      simp; omega
    · rw [if_neg hc, Lib.lastIdx_miss _ _ _ (by rw [e]; intro h'; exact hc (UInt8.toNat.inj (by omega)))]
      exact lastIdx_eq l c k (by omega)
theorem lastIndex_S {l : List UInt8} {c : UInt8} {ci i : Int} (hci : (c.toNat : Int) = ci) (hl : l.length ≤ 4611686018427387903) (h : lastL l c = i) (w : World) : Calls Tryd.prog 98 #[.string (S l), .int .u8 ci] w fun e w' => e = .returned (.int .i64 i) ∧ w' = w :=
  hci ▸ (Tryd.strings_LastIndexByte (S l) (c.toNat : Int) (by rw [S_size]; omega) w).mono fun e w' ⟨h1, h2⟩ => ⟨h1.trans (by
    rw [← h]; unfold Lib.lastIndexByte; rw [S_size, lastIdx_eq l c l.length (Nat.le_refl _), List.take_length]), h2⟩
end Go.Proofs.YtngaofoedkankaaDoor
