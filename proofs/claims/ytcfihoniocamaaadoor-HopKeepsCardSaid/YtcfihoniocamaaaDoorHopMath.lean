/- What fields are for the next one alone: plain words. -/
import Derived.Test.YtcfihoniocamaaaDoorTableJoin
import Derived.Test.YtcfihoniocamaaaDoorSplitGen
namespace Go.Proofs.YtcfihoniocamaaaDoor
set_option linter.unusedVariables false

def connL : List UInt8 := [99, 111, 110, 110, 101, 99, 116, 105, 111, 110]
def fixed8 : List (List UInt8) := [[99, 111, 110, 110, 101, 99, 116, 105, 111, 110], [107, 101, 101, 112, 45, 97, 108, 105, 118, 101], [112, 114, 111, 120, 121, 45, 99, 111, 110, 110, 101, 99, 116, 105, 111, 110], [116, 101], [116, 114, 97, 105, 108, 101, 114], [116, 114, 97, 110, 115, 102, 101, 114, 45, 101, 110, 99, 111, 100, 105, 110, 103], [117, 112, 103, 114, 97, 100, 101], [99, 111, 110, 116, 101, 110, 116, 45, 108, 101, 110, 103, 116, 104]]
def wordsOf (s : List UInt8) : List (List UInt8) := (Lib.split s [44]).map fun p => lower (trim p)
def hopWords (L : List Fld) : List (List UInt8) := wordsOf (joinedL L connL)
def aloneB (W : List (List UInt8)) (n : List UInt8) : Bool := decide (lower n ∈ fixed8) || decide (lower n ∈ W)
def stripL (L : List Fld) : List Fld := L.filter fun f => !aloneB (hopWords L) f.1
theorem joined_named {L : List Fld} {a b : List UInt8} (h : sameN a b = true) : joinedL L a = joinedL L b := by
  unfold joinedL namedL
  have e : lower a = lower b := by unfold sameN at h; simpa using h
  congr 2
  apply List.filter_congr
  intro f _
  unfold sameN
  rw [e]
theorem strip_right {L : List Fld} (h : rightL L = true) : rightL (stripL L) = true := by
  unfold rightL at *
  simp only [Bool.and_eq_true, decide_eq_true_eq, List.all_eq_true] at h ⊢
  refine ⟨Nat.le_trans (List.length_filter_le _ _) h.1, fun f hf => h.2 f (List.mem_filter.1 hf).1⟩
theorem words_nil : wordsOf [] = [[]] := by decide
theorem strip_words {L : List Fld} : hopWords (stripL L) = [[]] := by
  have h : namedL (stripL L) connL = [] := by
    unfold namedL
    rw [List.filter_eq_nil_iff]
    intro f hf hs
    have h1 := (List.mem_filter.1 hf).2
    unfold aloneB at h1
    have h2 : lower f.1 = connL := by
      unfold sameN at hs
      have : lower f.1 = lower connL := by simpa using hs
      rw [this]; decide
    rw [h2] at h1
    revert h1
    simp [fixed8, connL]
  unfold hopWords joinedL
  rw [h]
  exact words_nil
theorem strip_strip {L : List Fld} (h : rightL L = true) : stripL (stripL L) = stripL L := by
  have e : stripL (stripL L) = (stripL L).filter (fun f => !aloneB (hopWords (stripL L)) f.1) := rfl
  rw [e, strip_words, List.filter_eq_self]
  intro f hf
  have h1 := (List.mem_filter.1 hf).2
  have hr := strip_right h
  unfold rightL at hr
  simp only [Bool.and_eq_true, decide_eq_true_eq, List.all_eq_true] at hr
  have hm := hr.2 f hf
  unfold mayL at hm
  simp only [Bool.and_eq_true] at hm
  have ht := hm.1.1.1
  unfold tokenL at ht
  simp only [Bool.and_eq_true] at ht
  have hne : f.1 ≠ [] := by intro e; rw [e] at ht; simp at ht
  have hlo : lower f.1 ≠ [] := by
    intro e
    have := lower_len f.1
    rw [e] at this
    exact hne (List.length_eq_zero_iff.1 this.symm)
  unfold aloneB at h1 ⊢
  simp only [Bool.not_or, Bool.and_eq_true, Bool.not_eq_true', decide_eq_false_iff_not] at h1 ⊢
  exact ⟨h1.1, by simpa using hlo⟩
/-- What a connection's words say. -/
def keepsW (minor : Int) (W : List (List UInt8)) : Bool := if [99, 108, 111, 115, 101] ∈ W then false else decide (minor = 1) || decide ([107, 101, 101, 112, 45, 97, 108, 105, 118, 101] ∈ W)
theorem words_join (a b : List UInt8) : wordsOf (a ++ 44 :: b) = wordsOf a ++ wordsOf b := by
  unfold wordsOf; rw [split_join, List.map_append]
theorem wordsOf_32 (b : List UInt8) : wordsOf (32 :: b) = wordsOf b := by
  unfold wordsOf
  rcases first_part b 44 with h | ⟨a, r, h1, rfl⟩
  · have h2 : (44 : UInt8) ∉ 32 :: b := by simp [h]
    rw [split_none _ _ h, split_none _ _ h2]
    have : trim (32 :: b) = trim b := by
      unfold trim
      rw [← trim_swap, trimL_blank (by decide), trim_swap]
    simp [this]
  · have h2 : (44 : UInt8) ∉ 32 :: a := by simp [h1]
    rw [split_at _ _ _ h1, show (32 :: (a ++ 44 :: r) : List UInt8) = (32 :: a) ++ 44 :: r from rfl, split_at _ _ _ h2]
    have : trim (32 :: a) = trim a := by
      unfold trim
      rw [← trim_swap, trimL_blank (by decide), trim_swap]
    simp [this]
theorem join_snoc (xs : List (List UInt8)) (x : List UInt8) : Lib.join (xs ++ [x]) [44, 32] = if xs = [] then x else Lib.join xs [44, 32] ++ 44 :: 32 :: x := by
  induction xs with
  | nil => simp [Lib.join]
  | cons a t ih =>
    cases t with
    | nil => simp [Lib.join]
    | cons b t =>
      have e : Lib.join (a :: b :: t ++ [x]) [44, 32] = a ++ ([44, 32] ++ Lib.join (b :: t ++ [x]) [44, 32]) := by simp [Lib.join]
      have e2 : Lib.join (a :: b :: t) [44, 32] = a ++ ([44, 32] ++ Lib.join (b :: t) [44, 32]) := by simp [Lib.join]
      rw [e, ih, if_neg (by simp), if_neg (by simp), e2]
      simp
/-- One more connection field: its words are behind the others. -/
theorem words_snoc (L : List Fld) (n x : List UInt8) (h : sameN n connL = true) : hopWords (L ++ [(n, x)]) = (if namedL L connL = [] then [] else hopWords L) ++ wordsOf x := by
  have e : namedL (L ++ [(n, x)]) connL = namedL L connL ++ [(n, x)] := by
    unfold namedL
    rw [List.filter_append, List.filter_cons_of_pos (by simpa using h), List.filter_nil]
  unfold hopWords joinedL
  rw [e, List.map_append, List.map_cons, List.map_nil, join_snoc]
  by_cases hn : namedL L connL = []
  · rw [if_pos hn, hn]; rfl
  · rw [if_neg hn, if_neg (by simpa using hn), words_join, wordsOf_32]
theorem words_none {L : List Fld} (h : namedL L connL = []) : hopWords L = [[]] := by
  unfold hopWords joinedL
  rw [h]; exact words_nil
theorem removed_none (L : List Fld) : namedL (removeL L connL) connL = [] := by
  unfold namedL removeL
  rw [List.filter_eq_nil_iff]
  intro f hf
  have := (List.mem_filter.1 hf).2
  simpa using this
theorem keeps_closed (minor : Int) (L : List Fld) : keepsW minor (hopWords (L ++ [(connL, [120, 44, 32, 67, 76, 79, 83, 69])])) = false := by
  rw [words_snoc _ _ _ (by decide)]
  unfold keepsW
  rw [if_pos]
  exact List.mem_append_right _ (by decide)
theorem keeps_without (minor : Int) (L : List Fld) : keepsW minor (hopWords (removeL L connL)) = decide (minor = 1) := by
  rw [words_none (removed_none L)]
  unfold keepsW
  rw [if_neg (by decide)]
  simp
theorem keeps_kept (minor : Int) (L : List Fld) : keepsW minor (hopWords (L ++ [([67, 111, 110, 110, 101, 99, 116, 105, 111, 110], [75, 101, 101, 112, 45, 65, 108, 105, 118, 101])])) = keepsW 1 (hopWords L) := by
  rw [words_snoc _ _ _ (by decide)]
  have hw : wordsOf [75, 101, 101, 112, 45, 65, 108, 105, 118, 101] = [[107, 101, 101, 112, 45, 97, 108, 105, 118, 101]] := by decide
  rw [hw]
  unfold keepsW
  by_cases hn : namedL L connL = []
  · rw [if_pos hn, words_none hn, if_neg (by decide), if_neg (by decide)]
    simp
  · rw [if_neg hn]
    by_cases hc : [99, 108, 111, 115, 101] ∈ hopWords L
    · rw [if_pos (List.mem_append_left _ hc), if_pos hc]
    · rw [if_neg hc, if_neg]
      · simp
      · rw [List.mem_append]; simp [hc]
end Go.Proofs.YtcfihoniocamaaaDoor
