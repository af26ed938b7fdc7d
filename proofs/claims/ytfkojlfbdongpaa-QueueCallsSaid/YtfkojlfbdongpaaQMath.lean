/- The queue, in plain words. -/
import Derived.Lib.Strings
import Derived.Lib.Bytealg
import Derived.Lib.IndexLaws
namespace Go.Proofs.Ytfkojlfbdongpaa

def rightL (l : List UInt8) (c : Int) : Bool := decide (1 ≤ c ∧ c ≤ 65536 ∧ l.length ≤ c)
theorem rightL_true {l : List UInt8} {c : Int} (h : rightL l c = true) : 1 ≤ c ∧ c ≤ 65536 ∧ l.length ≤ c := by simpa [rightL] using h
/-- How much has room. -/
def roomL (l : List UInt8) (c : Int) : Int := if rightL l c then c - l.length else 0
/-- How many of a text are put behind. -/
def putN (l : List UInt8) (c : Int) (t : List UInt8) : Nat := min t.length (c - l.length).toNat
/-- How many are taken off. -/
def takeN (l : List UInt8) (n : Int) : Nat := min n.toNat l.length
/-- A line without its byte 13 at the end. -/
def cut13 (l : List UInt8) : List UInt8 := Lib.trimSuffix l [13]

theorem idx_none {l : List UInt8} (h : Lib.indexByte l 10 = -1) (k : Nat) (hk : k < l.length) : l[k] ≠ 10 := by
  have := Lib.indexByte_none h k
  rw [List.getElem?_eq_getElem hk] at this
  exact fun e => this (by rw [e])
theorem idx_some {l : List UInt8} {i : Nat} (h : Lib.indexByte l 10 = i) : ∃ hi : i < l.length, l[i] = 10 ∧ ∀ k (hk : k < i), l[k]'(by omega) ≠ 10 := by
  obtain ⟨h1, h2⟩ := Lib.indexByte_some h
  obtain ⟨hi, e⟩ := List.getElem?_eq_some_iff.1 h1
  refine ⟨hi, e, fun k hk hh => ?_⟩
  exact h2 k hk (by rw [List.getElem?_eq_getElem (by omega), hh])
theorem suffix_one (x : List UInt8) (a : UInt8) : Lib.hasSuffix x [a] = true ↔ x.getLast? = some a := by
  unfold Lib.hasSuffix
  rw [List.isSuffixOf_iff_suffix, List.getLast?_eq_some_iff]
  constructor
  · rintro ⟨t, h⟩; exact ⟨t, h.symm⟩
  · rintro ⟨t, h⟩; exact ⟨t, h.symm⟩
theorem last_take {l : List UInt8} {i : Nat} (hi : 0 < i) (hl : i ≤ l.length) : (l.take i).getLast? = some (l[i - 1]'(by omega)) := by
  rw [List.getLast?_eq_getElem?, List.length_take, Nat.min_eq_left hl, List.getElem?_take_of_lt (by omega), List.getElem?_eq_getElem]
theorem cut13_yes {l : List UInt8} {i : Nat} (hi : 0 < i) (hl : i ≤ l.length) (h : l[i - 1]'(by omega) = 13) : cut13 (l.take i) = l.take (i - 1) := by
  unfold cut13 Lib.trimSuffix
  rw [if_pos ((suffix_one _ _).2 (by rw [last_take hi hl, h]))]
  rw [List.length_take, Nat.min_eq_left hl, List.take_take]
  congr 1
  simp
theorem cut13_no {l : List UInt8} {i : Nat} (hi : 0 < i) (hl : i ≤ l.length) (h : l[i - 1]'(by omega) ≠ 13) : cut13 (l.take i) = l.take i := by
  unfold cut13 Lib.trimSuffix
  rw [if_neg (fun e => h (by have := (suffix_one _ _).1 e; rw [last_take hi hl] at this; simpa using this))]
theorem cut13_nil : cut13 [] = [] := by rfl
theorem cut13_len (l : List UInt8) : (cut13 l).length ≤ l.length := by
  unfold cut13 Lib.trimSuffix; split <;> simp
theorem idx_le (l : List UInt8) : -1 ≤ Lib.indexByte l 10 := Lib.indexByte_ge l 10
end Go.Proofs.Ytfkojlfbdongpaa
