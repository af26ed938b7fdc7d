/- Bytes written by their numbers, and within quotes: plain words. No program in sight. -/
import Derived.Test.YtpapefegfghakaaDoorBackPMath
import Derived.Test.YtpapefegfghakaaDoorUnqMath
namespace Go.Proofs.YtpapefegfghakaaDoor
set_option linter.unusedVariables false

theorem enc_no (c : UInt8) : (38 : UInt8) ∉ encB c ∧ (61 : UInt8) ∉ encB c := by
  have := all_bytes (p := fun c => (38 : UInt8) ∉ encB c ∧ (61 : UInt8) ∉ encB c) (by decide +kernel) c
  exact this
theorem enc_len (s : List UInt8) : (s.flatMap encB).length = 3 * s.length := by
  induction s with
  | nil => rfl
  | cons c s ih => rw [List.flatMap_cons, List.length_append, ih, List.length_cons]; show 3 + _ = _; omega
theorem query_codes (s : List UInt8) : queryL ([107, 61] ++ s.flatMap encB) = [([107], s)] := by
  have h38 : (38 : UInt8) ∉ [107, 61] ++ s.flatMap encB := by
    intro h
    rcases List.mem_append.1 h with h | h
    · revert h; decide
    · obtain ⟨c, _, hc⟩ := List.mem_flatMap.1 h
      exact (enc_no c).1 hc
  unfold queryL
  rw [split_none _ _ h38]
  have e : cut1 ([107, 61] ++ s.flatMap encB) 61 = ([107], s.flatMap encB, true) := by
    rw [show ([107, 61] ++ s.flatMap encB : List UInt8) = [107] ++ 61 :: s.flatMap encB from rfl]
    exact cut1_at (by decide)
  show [pairOf ([107, 61] ++ s.flatMap encB)] = _
  unfold pairOf
  rw [e]
  simp only
  rw [plain_enc, plain_same _ (by decide)]

def escB (c : UInt8) : List UInt8 := if c = 34 ∨ c = 92 then [92, c] else [c]
def quoteT (s : List UInt8) : List UInt8 := 34 :: (s.flatMap escB ++ [34])
theorem unq_esc (s : List UInt8) : unqG false (s.flatMap escB) = some s := by
  induction s with
  | nil => rfl
  | cons c s ih =>
    rw [List.flatMap_cons]
    by_cases h : c = 34 ∨ c = 92
    · have hb : unqG false (92 :: c :: s.flatMap escB) = (unqG false (s.flatMap escB)).map (c :: ·) := rfl
      rw [show escB c = [92, c] by unfold escB; rw [if_pos h]]
      exact hb.trans (by rw [ih]; rfl)
    · rw [show escB c = [c] by unfold escB; rw [if_neg h]]
      simp only [not_or] at h
      have hb : unqG false (c :: s.flatMap escB) = (unqG false (s.flatMap escB)).map (c :: ·) := by
        conv => lhs; unfold unqG
        rw [if_neg h.1, if_neg h.2]
      exact hb.trans (by rw [ih]; rfl)
theorem esc_any (s : List UInt8) : (s.flatMap escB).any ctlB = s.any ctlB := by
  induction s with
  | nil => rfl
  | cons c s ih =>
    rw [List.flatMap_cons, List.any_append, ih, List.any_cons]
    congr 1
    unfold escB
    split
    · simp [show ctlB 92 = false by decide]
    · simp
theorem unq_quote {s : List UInt8} (h : s.any ctlB = false) : unqR (quoteT s) = some s := by
  have hl : (quoteT s).length = (s.flatMap escB).length + 2 := by simp [quoteT]
  have h0 : bAt (quoteT s) 0 = 34 := rfl
  have h1 : bAt (quoteT s) ((quoteT s).length - 1) = 34 := by
    rw [hl, show (s.flatMap escB).length + 2 - 1 = (s.flatMap escB).length + 1 by omega]
    unfold quoteT
    rw [bAt_eq (by simp)]
    have : ((34 : UInt8) :: (s.flatMap escB ++ [34]))[(s.flatMap escB).length + 1]'(by simp) = 34 := by
      rw [List.getElem_cons_succ, List.getElem_append_right (by omega)]; simp
    rw [this]; rfl
  have h2 : (quoteT s).any ctlB = false := by
    unfold quoteT
    rw [List.any_cons, List.any_append, esc_any, h]; decide
  unfold unqR
  rw [if_neg]
  · rw [hl]
    have e : ((quoteT s).take ((s.flatMap escB).length + 2 - 1)).drop 1 = s.flatMap escB := by
      unfold quoteT
      rw [show (s.flatMap escB).length + 2 - 1 = (s.flatMap escB).length + 1 by omega, List.take_succ_cons, List.drop_succ_cons, List.drop_zero, List.take_left]
    rw [e]
    exact unq_esc s
  · rw [h0, h1, h2]
    simp only [hl]
    simp
theorem quote_len (s : List UInt8) : (quoteT s).length ≤ 2 * s.length + 2 := by
  have h : (s.flatMap escB).length ≤ 2 * s.length := by
    induction s with
    | nil => simp
    | cons c s ih =>
      rw [List.flatMap_cons, List.length_append, List.length_cons]
      have : (escB c).length ≤ 2 := by unfold escB; split <;> simp
      omega
  simp only [quoteT, List.length_cons, List.length_append, List.length_nil]; omega
def okB (c : UInt8) : Bool := c != 59 && !ctlB c
theorem cookie_codes (s : List UInt8) (h : s.all okB = true) : cookiesL ([32, 107, 61] ++ (quoteT s ++ [32, 59])) = [([107], s)] := by
  have hok : ∀ c ∈ s, c ≠ 59 ∧ ctlB c = false := fun c hc => by
    have := List.all_eq_true.1 h c hc
    unfold okB at this
    simpa using this
  have hctl : s.any ctlB = false := by
    rw [List.any_eq_false]
    intro c hc
    simp [(hok c hc).2]
  have h59 : (59 : UInt8) ∉ [32, 107, 61] ++ (quoteT s ++ [32]) := by
    intro hm
    rcases List.mem_append.1 hm with hm | hm
    · revert hm; decide
    · rcases List.mem_append.1 hm with hm | hm
      · unfold quoteT at hm
        rcases List.mem_cons.1 hm with hm | hm
        · revert hm; decide
        · rcases List.mem_append.1 hm with hm | hm
          · obtain ⟨c, hc, hm⟩ := List.mem_flatMap.1 hm
            unfold escB at hm
            split at hm
            · rcases List.mem_cons.1 hm with hm | hm
              · revert hm; decide
              · exact (hok c hc).1 (List.mem_singleton.1 hm).symm
            · exact (hok c hc).1 (List.mem_singleton.1 hm).symm
          · revert hm; decide
      · revert hm; decide
  have e1 : [32, 107, 61] ++ (quoteT s ++ [32, 59]) = ([32, 107, 61] ++ (quoteT s ++ [32])) ++ 59 :: [] := by simp
  rw [cookiesR, e1, split_at _ _ _ h59, split_none [] 59 (by simp), List.flatMap_cons, List.flatMap_cons, List.flatMap_nil]
  have e2 : [32, 107, 61] ++ (quoteT s ++ [32]) = [32, 107] ++ 61 :: ([] ++ quoteT s ++ [32]) := by simp
  have e3 : cookieR [] = [] := by decide
  have hq : trim (quoteT s) = quoteT s := by
    have h34 : blankB 34 = false := by decide
    have : trimR (quoteT s) = quoteT s := by
      unfold quoteT
      rw [show (34 :: (s.flatMap escB ++ [34]) : List UInt8) = (34 :: s.flatMap escB) ++ [34] from rfl]
      exact trimR_stay h34
    unfold trim
    rw [this]
    exact trimL_stay h34
  have b32 : ∀ c ∈ ([32] : List UInt8), blankB c = true := by
    intro c hc
    obtain rfl : c = 32 := by simpa using hc
    decide
  have hb : bareV (quoteT s) = s := by
    unfold bareV unqE unqL
    rw [unq_quote hctl]; rfl
  rw [e3, e2]
  unfold cookieR
  rw [cut1_at (by decide)]
  simp only
  rw [trim_around [] (quoteT s) [32] (by simp) b32, hq, hb, show trim [32, 107] = [107] by decide]
  rfl
end Go.Proofs.YtpapefegfghakaaDoor
