/- What any text is as an address: in plain words. -/
import Derived.Test.YtpglgembgpoeiaaDoorUriPlace
import Derived.Test.YtpglgembgpoeiaaDoorUriResMath
import Derived.Test.YtpglgembgpoeiaaDoorIndexAny2
namespace Go.Proofs.YtpglgembgpoeiaaDoor
open Go.RowKit
set_option linter.unusedVariables false

theorem indexAny_lt (l chars : List UInt8) : Lib.indexAny l chars < (l.length : Int) := by
  induction l with
  | nil => show (-1 : Int) < _; simp
  | cons b l ih =>
    unfold Lib.indexAny
    split
    · simp
    · split
      · simp; omega
      · simp; omega
theorem cut1_len (l : List UInt8) (c : UInt8) : (cut1 l c).1.length ≤ l.length ∧ (cut1 l c).2.1.length ≤ l.length := by
  unfold cut1
  split
  · simp; omega
  · simp
theorem lower_http : lower httpL = httpL := by decide

/-- It begins as an address with its host. -/
def httpB (s : List UInt8) : Bool := decide (7 ≤ s.length) && (lower (s.take 7) == httpL)
/-- Where the host with its port ends. -/
def endOf (t : List UInt8) : Nat := if Lib.indexAny t [47, 63] < 0 then t.length else (Lib.indexAny t [47, 63]).toNat
/-- What stands behind it; a slash, if no path is there. -/
def tailOf (t : List UInt8) : List UInt8 := if t.drop (endOf t) = [] ∨ bAt (t.drop (endOf t)) 0 = 63 then 47 :: t.drop (endOf t) else t.drop (endOf t)
def absOf (t : List UInt8) : UU := ⟨true, placeH (t.take (endOf t)), placeN (t.take (endOf t)), (cut1 (tailOf t) 63).1, (cut1 (tailOf t) 63).2.2, (cut1 (tailOf t) 63).2.1⟩
def relOf (s : List UInt8) : UU := ⟨false, [], 0, (cut1 s 63).1, (cut1 s 63).2.2, (cut1 s 63).2.1⟩
def parseL (s : List UInt8) : UU × Int :=
  if 500 < s.length then (UU.nil, 2)
  else if httpB s then (if placeB ((s.drop 7).take (endOf (s.drop 7))) && (absOf (s.drop 7)).ok then (absOf (s.drop 7), 0) else (UU.nil, 20))
  else if (relOf s).ok then (relOf s, 0) else (UU.nil, 20)

theorem endOf_le (t : List UInt8) : endOf t ≤ t.length := by
  unfold endOf
  have := indexAny_lt t [47, 63]
  split <;> omega
theorem tailOf_len (t : List UInt8) : (tailOf t).length ≤ t.length + 1 := by
  unfold tailOf
  split <;> simp <;> omega
theorem placeH_len (s : List UInt8) : (placeH s).length ≤ s.length := by
  unfold placeH
  have := lower_len s
  split
  · omega
  · rw [List.length_take]; omega
theorem absOf_mid (t : List UInt8) (h : t.length ≤ 500) : (absOf t).mid := by
  have h1 := tailOf_len t
  obtain ⟨h2, h3⟩ := cut1_len (tailOf t) 63
  have h4 := placeH_len (t.take (endOf t))
  rw [List.length_take] at h4
  exact ⟨by show (placeH _).length ≤ _; omega, by show (cut1 _ _).1.length ≤ _; omega, by show (cut1 _ _).2.1.length ≤ _; omega⟩
theorem relOf_mid (s : List UInt8) (h : s.length ≤ 500) : (relOf s).mid := by
  obtain ⟨h2, h3⟩ := cut1_len s 63
  exact ⟨by show (0 : Nat) ≤ _; omega, by show (cut1 _ _).1.length ≤ _; omega, by show (cut1 _ _).2.1.length ≤ _; omega⟩
end Go.Proofs.YtpglgembgpoeiaaDoor
