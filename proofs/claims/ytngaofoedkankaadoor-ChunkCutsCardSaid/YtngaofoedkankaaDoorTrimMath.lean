/- Blanks taken off a text's ends: the plain law. No program in sight. -/
import Derived.Test.YtngaofoedkankaaDoorStr
namespace Go.Proofs.YtngaofoedkankaaDoor
set_option linter.unusedVariables false

def blankB (c : UInt8) : Bool := c == 32 || c == 9
def trimL (l : List UInt8) : List UInt8 := l.dropWhile blankB
def trimR (l : List UInt8) : List UInt8 := (l.reverse.dropWhile blankB).reverse
def trim (l : List UInt8) : List UInt8 := trimL (trimR l)

theorem trimL_nil : trimL [] = [] := rfl
theorem trimR_nil : trimR [] = [] := rfl
theorem trimL_blank {c : UInt8} {l : List UInt8} (h : blankB c = true) : trimL (c :: l) = trimL l := by simp [trimL, h]
theorem trimL_stay {c : UInt8} {l : List UInt8} (h : blankB c = false) : trimL (c :: l) = c :: l := by simp [trimL, h]
theorem trimR_blank {c : UInt8} {l : List UInt8} (h : blankB c = true) : trimR (l ++ [c]) = trimR l := by simp [trimR, h]
theorem trimR_stay {c : UInt8} {l : List UInt8} (h : blankB c = false) : trimR (l ++ [c]) = l ++ [c] := by simp [trimR, h]
theorem trimR_cons (c : UInt8) (l : List UInt8) : trimR (c :: l) = if trimR l = [] ∧ blankB c = true then [] else c :: trimR l := by
  unfold trimR
  rw [List.reverse_cons, List.dropWhile_append]
  by_cases h : l.reverse.dropWhile blankB = []
  · rw [h]
    cases hc : blankB c <;> simp [hc]
  · have h2 : (l.reverse.dropWhile blankB).isEmpty = false := by
      cases hx : l.reverse.dropWhile blankB with
      | nil => exact absurd hx h
      | cons a t => rfl
    simp [h, h2]
theorem trim_swap (l : List UInt8) : trimR (trimL l) = trimL (trimR l) := by
  induction l with
  | nil => rfl
  | cons c l ih =>
    cases hc : blankB c with
    | true =>
      rw [trimL_blank hc, ih, trimR_cons]
      by_cases h : trimR l = []
      · simp [h, hc]
      · rw [if_neg (by simp [h]), trimL_blank hc]
    | false =>
      rw [trimL_stay hc, trimR_cons, if_neg (by simp [hc]), trimL_stay hc]
end Go.Proofs.YtngaofoedkankaaDoor
