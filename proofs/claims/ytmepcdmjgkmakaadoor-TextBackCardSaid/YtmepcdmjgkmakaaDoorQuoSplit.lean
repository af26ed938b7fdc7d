/- A text within quotes is one part: plain words. -/
import Derived.Test.YtmepcdmjgkmakaaDoorQuoMath
import Derived.Test.YtmepcdmjgkmakaaDoorSplitMath
import Derived.Test.YtmepcdmjgkmakaaDoorTextSplit
import Derived.Test.YtmepcdmjgkmakaaDoorTrimMath2
namespace Go.Proofs.YtmepcdmjgkmakaaDoor
set_option linter.unusedVariables false

theorem parts_esc {b : UInt8} (v rest : List UInt8) : ∀ part, parts b true part (v.flatMap escB ++ 34 :: rest) = parts b false (part ++ (v.flatMap escB ++ [34])) rest := by
  induction v with
  | nil => intro part; exact parts_quote b part rest
  | cons c v ih =>
    intro part
    rw [List.flatMap_cons]
    by_cases h : c = 34 ∨ c = 92
    · have e : escB c = [92, c] := by unfold escB; rw [if_pos h]
      rw [e]
      have e2 : parts b true part ([92, c] ++ v.flatMap escB ++ 34 :: rest) = parts b true (part ++ [92, c]) (v.flatMap escB ++ 34 :: rest) := by
        show parts b true part (92 :: c :: (v.flatMap escB ++ 34 :: rest)) = _
        rw [parts, if_neg (by decide), if_pos rfl]
      rw [e2, ih]
      simp
    · have e : escB c = [c] := by unfold escB; rw [if_neg h]
      simp only [not_or] at h
      rw [e]
      show parts b true part (c :: (v.flatMap escB ++ 34 :: rest)) = _
      rw [parts_plain h.1 h.2, ih]
      simp
theorem parts_quoted {b : UInt8} (v rest part : List UInt8) : parts b false part (quoteT v ++ rest) = parts b false (part ++ quoteT v) rest := by
  unfold quoteT
  show parts b false part (34 :: (v.flatMap escB ++ [34] ++ rest)) = _
  rw [parts, if_pos rfl, List.append_assoc, List.singleton_append, parts_esc]
  simp
theorem quote_trim (v : List UInt8) : trim (quoteT v) = quoteT v := by
  apply trim_keeps
  · intro c t h
    unfold quoteT at h
    injection h with h3 _
    subst h3
    decide
  · intro c t h
    have e : quoteT v = (34 :: v.flatMap escB) ++ [34] := by simp [quoteT]
    rw [e] at h
    have := (List.append_inj' h rfl).2
    injection this with h3 _
    subst h3
    decide
theorem split_quoted {b : UInt8} (h : ¬ (b = 34 ∨ b = 92)) (v : List UInt8) : splitL b (quoteT v) = some [quoteT v] := by
  unfold splitL
  rw [if_neg h]
  have := parts_quoted (b := b) v [] []
  rw [List.append_nil] at this
  rw [this]
  simp [parts, quote_trim]
end Go.Proofs.YtmepcdmjgkmakaaDoor
