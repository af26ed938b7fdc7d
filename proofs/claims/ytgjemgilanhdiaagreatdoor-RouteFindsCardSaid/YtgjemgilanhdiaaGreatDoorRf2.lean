/- Small letters; the bytes of words: the plain law. No program in sight. The library's functions on texts, over lists of bytes. -/
import Derived.Test.YtgjemgilanhdiaaGreatDoorRf1
import Derived.Test.YtgjemgilanhdiaaGreatDoorShelf
import Derived.Lib.LastIndexByte
namespace Go.Proofs.YtgjemgilanhdiaaGreatDoor
set_option linter.unusedVariables false

def lowN (n : Nat) : Nat := if 65 ≤ n ∧ n ≤ 90 then n + 32 else n
def lowB (c : UInt8) : UInt8 := UInt8.ofNat (lowN c.toNat)
def lower (l : List UInt8) : List UInt8 := l.map lowB
theorem lowN_lt {n : Nat} (h : n < 256) : lowN n < 256 := by unfold lowN; split <;> omega
theorem lowB_toNat (c : UInt8) : (lowB c).toNat = lowN c.toNat := by
  unfold lowB
  have := lowN_lt c.toNat_lt
  simp; omega
theorem lowB_great {c : UInt8} (h : 65 ≤ c.toNat ∧ c.toNat ≤ 90) : ((lowB c).toNat : Int) = (c.toNat : Int) + 32 := by
  rw [lowB_toNat]; unfold lowN; rw [if_pos h]; rfl
theorem lowB_other {c : UInt8} (h : ¬ (65 ≤ c.toNat ∧ c.toNat ≤ 90)) : lowB c = c := by
  apply UInt8.toNat.inj; rw [lowB_toNat]; unfold lowN; rw [if_neg h]
theorem lowB_idem (c : UInt8) : lowB (lowB c) = lowB c := by
  apply UInt8.toNat.inj; rw [lowB_toNat, lowB_toNat]; unfold lowN; repeat' split
  all_goals omega
theorem lower_idem (l : List UInt8) : lower (lower l) = lower l := by
  unfold lower; rw [List.map_map]; apply List.map_congr_left; intro c _; exact lowB_idem c
theorem lower_len (l : List UInt8) : (lower l).length = l.length := by simp [lower]

def signs : List UInt8 := [33, 35, 36, 37, 38, 39, 42, 43, 45, 46, 94, 95, 124, 126, 96]
def wordB (c : UInt8) : Bool := (decide (97 ≤ c.toNat) && decide (c.toNat ≤ 122)) || (decide (65 ≤ c.toNat) && decide (c.toNat ≤ 90)) || (decide (48 ≤ c.toNat) && decide (c.toNat ≤ 57)) || signs.contains c
def tokenL (l : List UInt8) : Bool := !l.isEmpty && l.all wordB
theorem all_bytes {p : UInt8 → Prop} (h : ∀ n : Fin 256, p (UInt8.ofNat n.val)) (c : UInt8) : p c := by
  have := h ⟨c.toNat, c.toNat_lt⟩
  simpa using this
set_option maxRecDepth 100000 in
theorem wordB_low (c : UInt8) : wordB (lowB c) = wordB c :=
  all_bytes (p := fun c => wordB (lowB c) = wordB c) (by decide +kernel) c
theorem token_lower (l : List UInt8) : tokenL (lower l) = tokenL l := by
  unfold tokenL lower
  rw [List.all_map]
  congr 1
  · cases l <;> rfl
  · congr 1; funext c; exact wordB_low c
theorem token_append {s t : List UInt8} (h : tokenL s = true) (h' : tokenL t = true) : tokenL (s ++ t) = true := by
  unfold tokenL at *
  simp only [Bool.and_eq_true, List.all_append, Bool.not_eq_true'] at *
  exact ⟨by cases s <;> simp_all, h.2, h'.2⟩
theorem token_dash {s t : List UInt8} (h : tokenL s = true) (h' : tokenL t = true) : tokenL (s ++ 45 :: t) = true := by
  have : tokenL ([45] ++ t) = true := token_append (by decide) h'
  exact token_append h this
end Go.Proofs.YtgjemgilanhdiaaGreatDoor
namespace Go.Proofs.YtgjemgilanhdiaaGreatDoor
open Go.RowKit
set_option linter.unusedVariables false

theorem hasPrefix_S {s p : List UInt8} {b : Bool} (h : Lib.hasPrefix s p = b) (w : World) : Calls Tryz.prog 16 #[.string (S s), .string (S p)] w fun e w' => e = .returned (.bool b) ∧ w' = w :=
  (Tryz.strings_HasPrefix (S s) (S p) w).mono fun e w' ⟨h1, h2⟩ => ⟨h1.trans (by rw [S_data, S_data, h]), h2⟩
theorem indexByte_S {s : List UInt8} {c : Int} {i : Int} (h : Lib.indexByte s c.toNat.toUInt8 = i) (w : World) : Calls Tryz.prog 61 #[.string (S s), .int .u8 c] w fun e w' => e = .returned (.int .i64 i) ∧ w' = w :=
  (Tryz.strings_IndexByte (S s) c w).mono fun e w' ⟨h1, h2⟩ => ⟨h1.trans (by rw [S_data, h]), h2⟩

def lastR : List UInt8 → UInt8 → Int
  | [], _ => -1
  | b :: r, c => if b = c then (r.length : Int) else lastR r c
def lastL (l : List UInt8) (c : UInt8) : Int := lastR l.reverse c
theorem lastL_nil (c : UInt8) : lastL [] c = -1 := rfl
theorem lastL_snoc (l : List UInt8) (b c : UInt8) : lastL (l ++ [b]) c = if b = c then (l.length : Int) else lastL l c := by
  simp [lastL, lastR]
theorem lastL_spec (c : UInt8) (r : List UInt8) : (lastL r.reverse c = -1 ∧ c ∉ r) ∨ ∃ i : Nat, lastL r.reverse c = i ∧ i < r.length ∧ r.reverse[i]? = some c ∧ ∀ j, i < j → r.reverse[j]? ≠ some c := by
  induction r with
  | nil => exact .inl ⟨rfl, by simp⟩
  | cons b r ih =>
    rw [List.reverse_cons, lastL_snoc]
    by_cases h : b = c
    · right
      refine ⟨r.length, by simp [h], by simp, by simp [h], fun j hj => ?_⟩
      rw [List.getElem?_eq_none (by simp; omega)]; simp
    · rw [if_neg h]
      rcases ih with ⟨h1, h2⟩ | ⟨i, h1, h2, h3, h4⟩
      · exact .inl ⟨h1, by simp; exact ⟨fun e => h e.symm, h2⟩⟩
      · refine .inr ⟨i, h1, by simp; omega, ?_, fun j hj => ?_⟩
        · rw [List.getElem?_append_left (by simpa using h2)]; exact h3
        · by_cases hj2 : j < r.length
          · rw [List.getElem?_append_left (by simpa using hj2)]; exact h4 j hj
          · by_cases hj3 : j = r.length
            · subst hj3; simp [h]
            · rw [List.getElem?_eq_none (by simp; omega)]; simp
theorem lastL_lo (l : List UInt8) (c : UInt8) : -1 ≤ lastL l c := by
  have := lastL_spec c l.reverse
  rw [List.reverse_reverse] at this
  rcases this with ⟨h, _⟩ | ⟨i, h, _⟩ <;> omega
theorem lastL_hi (l : List UInt8) (c : UInt8) : lastL l c < l.length := by
  have := lastL_spec c l.reverse
  rw [List.reverse_reverse] at this
  rcases this with ⟨h, _⟩ | ⟨i, h, h2, _⟩
  · omega
  · simp at h2; omega
theorem lastIdx_eq (l : List UInt8) (c : UInt8) : ∀ k, k ≤ l.length → Lib.lastIdx (S l) (c.toNat : Int) k = lastL (l.take k) c
  | 0, _ => by rw [List.take_zero]; rfl
  | k + 1, h => by
    have hk : k < l.length := by omega
    have e : (S l).data[k]! = l[k] := by simp [S, hk]
    rw [List.take_succ_eq_append_getElem hk, lastL_snoc]
    by_cases hc : l[k] = c
    · rw [if_pos hc, Lib.lastIdx_hit _ _ _ (by rw [e, hc])]
      simp; omega
    · rw [if_neg hc, Lib.lastIdx_miss _ _ _ (by rw [e]; intro h'; exact hc (UInt8.toNat.inj (by omega)))]
      exact lastIdx_eq l c k (by omega)
theorem lastIndex_S {l : List UInt8} {c : UInt8} {ci i : Int} (hci : (c.toNat : Int) = ci) (hl : l.length ≤ 4611686018427387903) (h : lastL l c = i) (w : World) : Calls Tryz.prog 70 #[.string (S l), .int .u8 ci] w fun e w' => e = .returned (.int .i64 i) ∧ w' = w :=
  hci ▸ (Tryz.strings_LastIndexByte (S l) (c.toNat : Int) (by rw [S_size]; omega) w).mono fun e w' ⟨h1, h2⟩ => ⟨h1.trans (by
    rw [← h]; unfold Lib.lastIndexByte; rw [S_size, lastIdx_eq l c l.length (Nat.le_refl _), List.take_length]), h2⟩
end Go.Proofs.YtgjemgilanhdiaaGreatDoor
