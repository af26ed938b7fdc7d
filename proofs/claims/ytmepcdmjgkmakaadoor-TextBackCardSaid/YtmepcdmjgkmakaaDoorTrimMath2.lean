/- Blanks taken off twice, or off a padded text; what stands at the ends: the plain law. No program in sight. -/
import Derived.Test.YtmepcdmjgkmakaaDoorTrimMath
namespace Go.Proofs.YtmepcdmjgkmakaaDoor
set_option linter.unusedVariables false

theorem dropW_idem (p : UInt8 → Bool) : ∀ l : List UInt8, (l.dropWhile p).dropWhile p = l.dropWhile p
  | [] => rfl
  | c :: l => by
    cases h : p c with
    | true => simp only [List.dropWhile_cons, h, if_true]; exact dropW_idem p l
    | false => simp [h]
theorem trimL_idem (l : List UInt8) : trimL (trimL l) = trimL l := dropW_idem _ _
theorem trimR_idem (l : List UInt8) : trimR (trimR l) = trimR l := by
  unfold trimR; rw [List.reverse_reverse, dropW_idem]
theorem trim_idem (l : List UInt8) : trim (trim l) = trim l := by
  unfold trim; rw [trim_swap, trimR_idem, trimL_idem]
theorem trim_pad (l : List UInt8) : trim (32 :: (l ++ [9])) = trim l := by
  have h1 : blankB 9 = true := by decide
  have h2 : blankB 32 = true := by decide
  unfold trim
  rw [← trim_swap, trimL_blank h2, trim_swap, trimR_blank h1]
theorem dropW_head {p : UInt8 → Bool} : ∀ {l : List UInt8} {c : UInt8} {t : List UInt8}, l.dropWhile p = c :: t → p c = false
  | [], c, t, h => by cases h
  | a :: l, c, t, h => by
    cases ha : p a with
    | true => rw [List.dropWhile_cons, if_pos ha] at h; exact dropW_head h
    | false => rw [List.dropWhile_cons, if_neg (by rw [ha]; simp)] at h; cases h; exact ha
theorem trim_head {l t : List UInt8} {c : UInt8} (h : trim l = c :: t) : blankB c = false := dropW_head h
theorem trim_last {l t : List UInt8} {c : UInt8} (h : trim l = t ++ [c]) : blankB c = false := by
  have h2 : trimR (trimL l) = t ++ [c] := by rw [trim_swap]; exact h
  unfold trimR at h2
  have h3 := congrArg List.reverse h2
  rw [List.reverse_reverse, List.reverse_append] at h3
  exact dropW_head h3
theorem trim_len (l : List UInt8) : (trim l).length ≤ l.length := by
  unfold trim trimL trimR
  have h1 := (List.dropWhile_sublist (p := blankB) (l := (l.reverse.dropWhile blankB).reverse)).length_le
  have h2 := (List.dropWhile_sublist (p := blankB) (l := l.reverse)).length_le
  simp at h1 h2
  omega
theorem trim_keeps {l : List UInt8} (h : ∀ c t, l = c :: t → blankB c = false) (h2 : ∀ c t, l = t ++ [c] → blankB c = false) : trim l = l := by
  have e1 : trimR l = l := by
    unfold trimR
    rcases List.eq_nil_or_concat l with rfl | ⟨t, c, rfl⟩
    · rfl
    · have hc := h2 c t (by simp)
      simp [hc]
  unfold trim
  rw [e1]
  unfold trimL
  cases l with
  | nil => rfl
  | cons c t => simp [h c t rfl]
end Go.Proofs.YtmepcdmjgkmakaaDoor
