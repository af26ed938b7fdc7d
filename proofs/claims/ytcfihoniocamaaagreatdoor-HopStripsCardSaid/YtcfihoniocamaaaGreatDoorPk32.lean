/- A text within quotes: plain words. No program in sight. -/
import Derived.Test.YtcfihoniocamaaaGreatDoorPk31
namespace Go.Proofs.YtcfihoniocamaaaGreatDoor
set_option linter.unusedVariables false

def escB (c : UInt8) : List UInt8 := if c = 34 ∨ c = 92 then [92, c] else [c]
def quoteT (s : List UInt8) : List UInt8 := 34 :: (s.flatMap escB ++ [34])
theorem unq_esc (s : List UInt8) : unqG false (s.flatMap escB) = some s := by
  induction s with
  | nil => rfl
  | cons c s ih =>
    rw [List.flatMap_cons]
    by_cases h : c = 34 ∨ c = 92
    · have hb : unqG false (92 :: c :: s.flatMap escB) = (unqG false (s.flatMap escB)).map (c :: ·) := rfl
      rw [show escB c = [92, c] by unfold escB; rw [if_pos h]]
      exact hb.trans (by rw [ih]; rfl)
    · rw [show escB c = [c] by unfold escB; rw [if_neg h]]
      simp only [not_or] at h
      have hb : unqG false (c :: s.flatMap escB) = (unqG false (s.flatMap escB)).map (c :: ·) := by
        conv => lhs; unfold unqG
        rw [if_neg h.1, if_neg h.2]
      exact hb.trans (by rw [ih]; rfl)
theorem esc_any (s : List UInt8) : (s.flatMap escB).any ctlB = s.any ctlB := by
  induction s with
  | nil => rfl
  | cons c s ih =>
    rw [List.flatMap_cons, List.any_append, ih, List.any_cons]
    congr 1
    unfold escB
    split
    · simp [show ctlB 92 = false by decide]
    · simp
theorem unq_quote {s : List UInt8} (h : s.any ctlB = false) : unqR (quoteT s) = some s := by
  have hl : (quoteT s).length = (s.flatMap escB).length + 2 := by simp [quoteT]
  have h0 : bAt (quoteT s) 0 = 34 := rfl
  have h1 : bAt (quoteT s) ((quoteT s).length - 1) = 34 := by
    rw [hl, show (s.flatMap escB).length + 2 - 1 = (s.flatMap escB).length + 1 by omega]
    unfold quoteT
    rw [bAt_eq (by simp)]
    have : ((34 : UInt8) :: (s.flatMap escB ++ [34]))[(s.flatMap escB).length + 1]'(by simp) = 34 := by
      rw [List.getElem_cons_succ, List.getElem_append_right (by omega)]; simp
    rw [this]; rfl
  have h2 : (quoteT s).any ctlB = false := by
    unfold quoteT
    rw [List.any_cons, List.any_append, esc_any, h]; decide
  unfold unqR
  rw [if_neg]
  · rw [hl]
    have e : ((quoteT s).take ((s.flatMap escB).length + 2 - 1)).drop 1 = s.flatMap escB := by
      unfold quoteT
      rw [show (s.flatMap escB).length + 2 - 1 = (s.flatMap escB).length + 1 by omega, List.take_succ_cons, List.drop_succ_cons, List.drop_zero, List.take_left]
    rw [e]
    exact unq_esc s
  · rw [h0, h1, h2]
    simp only [hl]
    simp
theorem quote_len (s : List UInt8) : (quoteT s).length ≤ 2 * s.length + 2 := by
  have h : (s.flatMap escB).length ≤ 2 * s.length := by
    induction s with
    | nil => simp
    | cons c s ih =>
      rw [List.flatMap_cons, List.length_append, List.length_cons]
      have : (escB c).length ≤ 2 := by unfold escB; split <;> simp
      omega
  simp only [quoteT, List.length_cons, List.length_append, List.length_nil]; omega
end Go.Proofs.YtcfihoniocamaaaGreatDoor
