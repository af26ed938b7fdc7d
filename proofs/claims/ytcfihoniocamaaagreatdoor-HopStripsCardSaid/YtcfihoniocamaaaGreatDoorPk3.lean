/- Rows of fields: which may be, added, found, taken out: the plain law. No program in sight. The library's functions on texts, over lists of bytes. -/
import Derived.Test.YtcfihoniocamaaaGreatDoorPk2
import Derived.Test.YtcfihoniocamaaaGreatDoorPk1
import Derived.Test.YtcfihoniocamaaaGreatDoorShelf
import Derived.Lib.LastIndexByte
namespace Go.Proofs.YtcfihoniocamaaaGreatDoor
set_option linter.unusedVariables false

/-- A byte that no text has. -/
def ctlB (c : UInt8) : Bool := (decide (c.toNat < 32) && !decide (c.toNat = 9)) || decide (c.toNat = 127)
def mayL (f : List UInt8 × List UInt8) : Bool := tokenL f.1 && (trim f.2 == f.2) && decide (f.2.length ≤ 1000) && !f.2.any ctlB
def rightL (L : List (List UInt8 × List UInt8)) : Bool := decide (L.length ≤ 40) && L.all mayL
def sameN (a b : List UInt8) : Bool := lower a == lower b
/-- What adding gives: the row, or why not. -/
def addE (L : List (List UInt8 × List UInt8)) (f : List UInt8 × List UInt8) : Int := if rightL L = true ∧ mayL f = true then (if L.length < 40 then 0 else 4) else 1
def addL (L : List (List UInt8 × List UInt8)) (f : List UInt8 × List UInt8) : List (List UInt8 × List UInt8) := if addE L f = 0 then L ++ [f] else []
def removeL (L : List (List UInt8 × List UInt8)) (n : List UInt8) : List (List UInt8 × List UInt8) := L.filter fun f => !sameN f.1 n
def namedL (L : List (List UInt8 × List UInt8)) (n : List UInt8) : List (List UInt8 × List UInt8) := L.filter fun f => sameN f.1 n
end Go.Proofs.YtcfihoniocamaaaGreatDoor
namespace Go.Proofs.YtcfihoniocamaaaGreatDoor
open Go.RowKit
set_option linter.unusedVariables false

theorem hasPrefix_S {s p : List UInt8} {b : Bool} (h : Lib.hasPrefix s p = b) (w : World) : Calls Tryz.prog 152 #[.string (S s), .string (S p)] w fun e w' => e = .returned (.bool b) ∧ w' = w :=
  (Tryz.strings_HasPrefix (S s) (S p) w).mono fun e w' ⟨h1, h2⟩ => ⟨h1.trans (by rw [S_data, S_data, h]), h2⟩
theorem indexByte_S {s : List UInt8} {c : Int} {i : Int} (h : Lib.indexByte s c.toNat.toUInt8 = i) (w : World) : Calls Tryz.prog 91 #[.string (S s), .int .u8 c] w fun e w' => e = .returned (.int .i64 i) ∧ w' = w :=
  (Tryz.strings_IndexByte (S s) c w).mono fun e w' ⟨h1, h2⟩ => ⟨h1.trans (by rw [S_data, h]), h2⟩

/-- Where a byte stands last; -1: nowhere. -/
def lastR : List UInt8 → UInt8 → Int
  | [], _ => -1
  | b :: r, c => if b = c then (r.length : Int) else lastR r c
def lastL (l : List UInt8) (c : UInt8) : Int := lastR l.reverse c
theorem lastL_nil (c : UInt8) : lastL [] c = -1 := rfl
theorem lastL_snoc (l : List UInt8) (b c : UInt8) : lastL (l ++ [b]) c = if b = c then (l.length : Int) else lastL l c := by
  simp [lastL, lastR]
theorem lastL_spec (c : UInt8) (r : List UInt8) : (lastL r.reverse c = -1 ∧ c ∉ r) ∨ ∃ i : Nat, lastL r.reverse c = i ∧ i < r.length ∧ r.reverse[i]? = some c ∧ ∀ j, i < j → r.reverse[j]? ≠ some c := by
  induction r with
  | nil => exact .inl ⟨rfl, by simp⟩
  | cons b r ih =>
    rw [List.reverse_cons, lastL_snoc]
    by_cases h : b = c
    · right
      refine ⟨r.length, by simp [h], by simp, by simp [h], fun j hj => ?_⟩
      rw [List.getElem?_eq_none (by simp; omega)]; simp
    · rw [if_neg h]
      rcases ih with ⟨h1, h2⟩ | ⟨i, h1, h2, h3, h4⟩
      · exact .inl ⟨h1, by simp; exact ⟨fun e => h e.symm, h2⟩⟩
      · refine .inr ⟨i, h1, by simp; omega, ?_, fun j hj => ?_⟩
        · rw [List.getElem?_append_left (by simpa using h2)]; exact h3
        · by_cases hj2 : j < r.length
          · rw [List.getElem?_append_left (by simpa using hj2)]; exact h4 j hj
          · by_cases hj3 : j = r.length
            · subst hj3; simp [h]
            · rw [List.getElem?_eq_none (by simp; omega)]; simp
theorem lastL_lo (l : List UInt8) (c : UInt8) : -1 ≤ lastL l c := by
  have := lastL_spec c l.reverse
  rw [List.reverse_reverse] at this
  rcases this with ⟨h, _⟩ | ⟨i, h, _⟩ <;> omega
theorem lastL_hi (l : List UInt8) (c : UInt8) : lastL l c < l.length := by
  have := lastL_spec c l.reverse
  rw [List.reverse_reverse] at this
  rcases this with ⟨h, _⟩ | ⟨i, h, h2, _⟩
  · omega
  · simp at h2; omega
end Go.Proofs.YtcfihoniocamaaaGreatDoor
