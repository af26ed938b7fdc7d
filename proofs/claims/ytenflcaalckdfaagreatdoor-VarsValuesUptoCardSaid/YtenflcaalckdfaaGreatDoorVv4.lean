/- Parts of a query as they are meant: plain words. No program in sight. The library's functions on texts, over lists of bytes. -/
import Derived.Test.YtenflcaalckdfaaGreatDoorVv3
import Derived.Lib.Strings
import Derived.Lib.Bytealg
import Derived.Test.YtenflcaalckdfaaGreatDoorVv2
import Derived.Test.YtenflcaalckdfaaGreatDoorShelf
import Derived.Lib.LastIndexByte
namespace Go.Proofs.YtenflcaalckdfaaGreatDoor
set_option linter.unusedVariables false

def hexd : List UInt8 := [48, 49, 50, 51, 52, 53, 54, 55, 56, 57, 97, 98, 99, 100, 101, 102]
def hexV (c : UInt8) : Int := Lib.indexByte hexd (lowB c)
def codeB (a b : UInt8) : UInt8 := UInt8.ofNat (16 * (hexV a).toNat + (hexV b).toNat)
def codeOk : List UInt8 → Bool
  | a :: b :: _ => decide (0 ≤ hexV a) && decide (0 ≤ hexV b)
  | _ => false
def codeOf : List UInt8 → UInt8
  | a :: b :: _ => codeB a b
  | _ => 0
def plainG : Nat → List UInt8 → List UInt8
  | _, [] => []
  | k + 1, _ :: t => plainG k t
  | 0, c :: t => if c = 43 then 32 :: plainG 0 t else if c = 37 ∧ codeOk t = true then codeOf t :: plainG 2 t else c :: plainG 0 t
def plainL (l : List UInt8) : List UInt8 := plainG 0 l

theorem plainG_len (l : List UInt8) : ∀ k, (plainG k l).length ≤ l.length := by
  induction l with
  | nil => intro k; cases k <;> simp [plainG]
  | cons c t ih =>
    intro k
    cases k with
    | succ k => unfold plainG; have := ih k; simp only [List.length_cons]; omega
    | zero =>
      unfold plainG
      split
      · have := ih 0; simp only [List.length_cons]; omega
      · split
        · have := ih 2; simp only [List.length_cons]; omega
        · have := ih 0; simp only [List.length_cons]; omega
theorem plainG_skip (l : List UInt8) : ∀ k, plainG k l = plainG 0 (l.drop k) := by
  induction l with
  | nil => intro k; cases k <;> simp [plainG]
  | cons c t ih =>
    intro k
    cases k with
    | zero => rw [List.drop_zero]
    | succ k => rw [List.drop_succ_cons, ← ih k]; rfl
theorem hexV_range (c : UInt8) : hexV c = -1 ∨ (0 ≤ hexV c ∧ hexV c ≤ 15) := by
  have := all_bytes (p := fun c => hexV c = -1 ∨ (0 ≤ hexV c ∧ hexV c ≤ 15)) (by decide +kernel) c
  exact this
def valR (c : UInt8) : Int := if 48 ≤ c.toNat ∧ c.toNat ≤ 57 then (c.toNat : Int) - 48 else if 97 ≤ c.toNat ∧ c.toNat ≤ 102 then (c.toNat : Int) - 87 else if 65 ≤ c.toNat ∧ c.toNat ≤ 70 then (c.toNat : Int) - 55 else 99
theorem valR_eq (c : UInt8) : valR c = if 0 ≤ hexV c then hexV c else 99 := by
  have := all_bytes (p := fun c => valR c = if 0 ≤ hexV c then hexV c else 99) (by decide +kernel) c
  exact this
theorem plain_same (l : List UInt8) (h : ∀ c ∈ l, c ≠ 43 ∧ c ≠ 37) : plainL l = l := by
  unfold plainL
  induction l with
  | nil => rfl
  | cons c t ih =>
    unfold plainG
    obtain ⟨h1, h2⟩ := h c (by simp)
    rw [if_neg h1, if_neg (fun e => h2 e.1), ih (fun d hd => h d (by simp [hd]))]

/-! Each byte by its number. -/
def HEXD : List UInt8 := [48, 49, 50, 51, 52, 53, 54, 55, 56, 57, 65, 66, 67, 68, 69, 70]
def encB (c : UInt8) : List UInt8 := [37, HEXD.getD (c.toNat / 16) 0, hexd.getD (c.toNat % 16) 0]
theorem enc_code (c : UInt8) : 0 ≤ hexV (HEXD.getD (c.toNat / 16) 0) ∧ 0 ≤ hexV (hexd.getD (c.toNat % 16) 0) ∧ codeB (HEXD.getD (c.toNat / 16) 0) (hexd.getD (c.toNat % 16) 0) = c := by
  have := all_bytes (p := fun c => 0 ≤ hexV (HEXD.getD (c.toNat / 16) 0) ∧ 0 ≤ hexV (hexd.getD (c.toNat % 16) 0) ∧ codeB (HEXD.getD (c.toNat / 16) 0) (hexd.getD (c.toNat % 16) 0) = c) (by decide +kernel) c
  exact this
theorem plain_enc (l : List UInt8) : plainL (l.flatMap encB) = l := by
  unfold plainL
  induction l with
  | nil => rfl
  | cons c t ih =>
    obtain ⟨h1, h2, h3⟩ := enc_code c
    rw [List.flatMap_cons]
    unfold encB
    simp only [List.cons_append, List.nil_append]
    conv => lhs; unfold plainG
    rw [if_neg (by decide), if_pos ⟨rfl, by show (decide (0 ≤ hexV _) && decide (0 ≤ hexV _)) = true; rw [decide_eq_true h1, decide_eq_true h2]; rfl⟩]
    show codeB _ _ :: plainG 0 (t.flatMap encB) = _
    rw [h3, ih]
end Go.Proofs.YtenflcaalckdfaaGreatDoor
namespace Go.Proofs.YtenflcaalckdfaaGreatDoor
open Go.RowKit
set_option linter.unusedVariables false

theorem hasPrefix_S {s p : List UInt8} {b : Bool} (h : Lib.hasPrefix s p = b) (w : World) : Calls Tryz.prog 23 #[.string (S s), .string (S p)] w fun e w' => e = .returned (.bool b) ∧ w' = w :=
  (Tryz.strings_HasPrefix (S s) (S p) w).mono fun e w' ⟨h1, h2⟩ => ⟨h1.trans (by rw [S_data, S_data, h]), h2⟩
theorem cutPrefix_S {s p r : List UInt8} {b : Bool} (h : Lib.hasPrefix s p = b) (hr : Lib.trimPrefix s p = r) (w : World) : Calls Tryz.prog 20 #[.string (S s), .string (S p)] w fun e w' => e = .returned (.tuple #[.string (S r), .bool b]) ∧ w' = w :=
  (Tryz.strings_CutPrefix (S s) (S p) w).mono fun e w' ⟨h1, h2⟩ => ⟨h1.trans (by rw [S_data, S_data, h, hr]; rfl), h2⟩
theorem indexByte_S {s : List UInt8} {c : Int} {i : Int} (h : Lib.indexByte s c.toNat.toUInt8 = i) (w : World) : Calls Tryz.prog 52 #[.string (S s), .int .u8 c] w fun e w' => e = .returned (.int .i64 i) ∧ w' = w :=
  (Tryz.strings_IndexByte (S s) c w).mono fun e w' ⟨h1, h2⟩ => ⟨h1.trans (by rw [S_data, h]), h2⟩

def lastR : List UInt8 → UInt8 → Int
  | [], _ => -1
  | b :: r, c => if b = c then (r.length : Int) else lastR r c
def lastL (l : List UInt8) (c : UInt8) : Int := lastR l.reverse c
theorem lastL_nil (c : UInt8) : lastL [] c = -1 := rfl
theorem lastL_snoc (l : List UInt8) (b c : UInt8) : lastL (l ++ [b]) c = if b = c then (l.length : Int) else lastL l c := by
  simp [lastL, lastR]
theorem lastL_spec (c : UInt8) (r : List UInt8) : (lastL r.reverse c = -1 ∧ c ∉ r) ∨ ∃ i : Nat, lastL r.reverse c = i ∧ i < r.length ∧ r.reverse[i]? = some c ∧ ∀ j, i < j → r.reverse[j]? ≠ some c := by
  induction r with
  | nil => exact .inl ⟨rfl, by simp⟩
  | cons b r ih =>
    rw [List.reverse_cons, lastL_snoc]
    by_cases h : b = c
    · right
      refine ⟨r.length, by simp [h], by simp, by simp [h], fun j hj => ?_⟩
      rw [List.getElem?_eq_none (by simp; omega)]; simp
    · rw [if_neg h]
      rcases ih with ⟨h1, h2⟩ | ⟨i, h1, h2, h3, h4⟩
      · exact .inl ⟨h1, by simp; exact ⟨fun e => h e.symm, h2⟩⟩
      · refine .inr ⟨i, h1, by simp; omega, ?_, fun j hj => ?_⟩
        · rw [List.getElem?_append_left (by simpa using h2)]; exact h3
        · by_cases hj2 : j < r.length
          · rw [List.getElem?_append_left (by simpa using hj2)]; exact h4 j hj
          · by_cases hj3 : j = r.length
            · subst hj3; simp [h]
            · rw [List.getElem?_eq_none (by simp; omega)]; simp
theorem lastL_lo (l : List UInt8) (c : UInt8) : -1 ≤ lastL l c := by
  have := lastL_spec c l.reverse
  rw [List.reverse_reverse] at this
  rcases this with ⟨h, _⟩ | ⟨i, h, _⟩ <;> omega
theorem lastL_hi (l : List UInt8) (c : UInt8) : lastL l c < l.length := by
  have := lastL_spec c l.reverse
  rw [List.reverse_reverse] at this
  rcases this with ⟨h, _⟩ | ⟨i, h, h2, _⟩
  · omega
  · simp at h2; omega
end Go.Proofs.YtenflcaalckdfaaGreatDoor
