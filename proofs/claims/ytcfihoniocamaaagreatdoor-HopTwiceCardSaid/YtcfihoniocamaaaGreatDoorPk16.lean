/- What fields are for the next one alone: plain words. A set of texts, kept as a map to truths that the call has made. -/
import Derived.Test.YtcfihoniocamaaaGreatDoorPk14
import Derived.Test.YtcfihoniocamaaaGreatDoorPk15
import Derived.Test.YtcfihoniocamaaaGreatDoorPk3
import Derived.Maps.OwnOps
import Derived.Maps.Views
import Derived.StringKeys
namespace Go.Proofs.YtcfihoniocamaaaGreatDoor
set_option linter.unusedVariables false

def connL : List UInt8 := [99, 111, 110, 110, 101, 99, 116, 105, 111, 110]
def fixed8 : List (List UInt8) := [[99, 111, 110, 110, 101, 99, 116, 105, 111, 110], [107, 101, 101, 112, 45, 97, 108, 105, 118, 101], [112, 114, 111, 120, 121, 45, 99, 111, 110, 110, 101, 99, 116, 105, 111, 110], [116, 101], [116, 114, 97, 105, 108, 101, 114], [116, 114, 97, 110, 115, 102, 101, 114, 45, 101, 110, 99, 111, 100, 105, 110, 103], [117, 112, 103, 114, 97, 100, 101], [99, 111, 110, 116, 101, 110, 116, 45, 108, 101, 110, 103, 116, 104]]
def wordsOf (s : List UInt8) : List (List UInt8) := (Lib.split s [44]).map fun p => lower (trim p)
def hopWords (L : List Fld) : List (List UInt8) := wordsOf (joinedL L connL)
def aloneB (W : List (List UInt8)) (n : List UInt8) : Bool := decide (lower n ∈ fixed8) || decide (lower n ∈ W)
def stripL (L : List Fld) : List Fld := L.filter fun f => !aloneB (hopWords L) f.1
theorem joined_named {L : List Fld} {a b : List UInt8} (h : sameN a b = true) : joinedL L a = joinedL L b := by
  unfold joinedL namedL
  have e : lower a = lower b := by unfold sameN at h; simpa using h
  congr 2
  apply List.filter_congr
  intro f _
  unfold sameN
  rw [e]
theorem strip_right {L : List Fld} (h : rightL L = true) : rightL (stripL L) = true := by
  unfold rightL at *
  simp only [Bool.and_eq_true, decide_eq_true_eq, List.all_eq_true] at h ⊢
  refine ⟨Nat.le_trans (List.length_filter_le _ _) h.1, fun f hf => h.2 f (List.mem_filter.1 hf).1⟩
theorem words_nil : wordsOf [] = [[]] := by decide
theorem strip_words {L : List Fld} : hopWords (stripL L) = [[]] := by
  have h : namedL (stripL L) connL = [] := by
    unfold namedL
    rw [List.filter_eq_nil_iff]
    intro f hf hs
    have h1 := (List.mem_filter.1 hf).2
    unfold aloneB at h1
    have h2 : lower f.1 = connL := by
      unfold sameN at hs
      have : lower f.1 = lower connL := by simpa using hs
      rw [this]; decide
    rw [h2] at h1
    revert h1
    simp [fixed8, connL]
  unfold hopWords joinedL
  rw [h]
  exact words_nil
theorem strip_strip {L : List Fld} (h : rightL L = true) : stripL (stripL L) = stripL L := by
  have e : stripL (stripL L) = (stripL L).filter (fun f => !aloneB (hopWords (stripL L)) f.1) := rfl
  rw [e, strip_words, List.filter_eq_self]
  intro f hf
  have h1 := (List.mem_filter.1 hf).2
  have hr := strip_right h
  unfold rightL at hr
  simp only [Bool.and_eq_true, decide_eq_true_eq, List.all_eq_true] at hr
  have hm := hr.2 f hf
  unfold mayL at hm
  simp only [Bool.and_eq_true] at hm
  have ht := hm.1.1.1
  unfold tokenL at ht
  simp only [Bool.and_eq_true] at ht
  have hne : f.1 ≠ [] := by intro e; rw [e] at ht; simp at ht
  have hlo : lower f.1 ≠ [] := by
    intro e
    have := lower_len f.1
    rw [e] at this
    exact hne (List.length_eq_zero_iff.1 this.symm)
  unfold aloneB at h1 ⊢
  simp only [Bool.not_or, Bool.and_eq_true, Bool.not_eq_true', decide_eq_false_iff_not] at h1 ⊢
  exact ⟨h1.1, by simpa using hlo⟩
/-- What a connection's words say. -/
def keepsW (minor : Int) (W : List (List UInt8)) : Bool := if [99, 108, 111, 115, 101] ∈ W then false else decide (minor = 1) || decide ([107, 101, 101, 112, 45, 97, 108, 105, 118, 101] ∈ W)
theorem words_join (a b : List UInt8) : wordsOf (a ++ 44 :: b) = wordsOf a ++ wordsOf b := by
  unfold wordsOf; rw [split_join, List.map_append]
theorem wordsOf_32 (b : List UInt8) : wordsOf (32 :: b) = wordsOf b := by
  unfold wordsOf
  rcases first_part b 44 with h | ⟨a, r, h1, rfl⟩
  · have h2 : (44 : UInt8) ∉ 32 :: b := by simp [h]
    rw [split_none _ _ h, split_none _ _ h2]
    have : trim (32 :: b) = trim b := by
      unfold trim
      rw [← trim_swap, trimL_blank (by decide), trim_swap]
    simp [this]
  · have h2 : (44 : UInt8) ∉ 32 :: a := by simp [h1]
    rw [split_at _ _ _ h1, show (32 :: (a ++ 44 :: r) : List UInt8) = (32 :: a) ++ 44 :: r from rfl, split_at _ _ _ h2]
    have : trim (32 :: a) = trim a := by
      unfold trim
      rw [← trim_swap, trimL_blank (by decide), trim_swap]
    simp [this]
theorem join_snoc (xs : List (List UInt8)) (x : List UInt8) : Lib.join (xs ++ [x]) [44, 32] = if xs = [] then x else Lib.join xs [44, 32] ++ 44 :: 32 :: x := by
  induction xs with
  | nil => simp [Lib.join]
  | cons a t ih =>
    cases t with
    | nil => simp [Lib.join]
    | cons b t =>
      have e : Lib.join (a :: b :: t ++ [x]) [44, 32] = a ++ ([44, 32] ++ Lib.join (b :: t ++ [x]) [44, 32]) := by simp [Lib.join]
      have e2 : Lib.join (a :: b :: t) [44, 32] = a ++ ([44, 32] ++ Lib.join (b :: t) [44, 32]) := by simp [Lib.join]
      rw [e, ih, if_neg (by simp), if_neg (by simp), e2]
      simp
/-- One more connection field: its words are behind the others. -/
theorem words_snoc (L : List Fld) (n x : List UInt8) (h : sameN n connL = true) : hopWords (L ++ [(n, x)]) = (if namedL L connL = [] then [] else hopWords L) ++ wordsOf x := by
  have e : namedL (L ++ [(n, x)]) connL = namedL L connL ++ [(n, x)] := by
    unfold namedL
    rw [List.filter_append, List.filter_cons_of_pos (by simpa using h), List.filter_nil]
  unfold hopWords joinedL
  rw [e, List.map_append, List.map_cons, List.map_nil, join_snoc]
  by_cases hn : namedL L connL = []
  · rw [if_pos hn, hn]; rfl
  · rw [if_neg hn, if_neg (by simpa using hn), words_join, wordsOf_32]
theorem words_none {L : List Fld} (h : namedL L connL = []) : hopWords L = [[]] := by
  unfold hopWords joinedL
  rw [h]; exact words_nil
theorem removed_none (L : List Fld) : namedL (removeL L connL) connL = [] := by
  unfold namedL removeL
  rw [List.filter_eq_nil_iff]
  intro f hf
  have := (List.mem_filter.1 hf).2
  simpa using this
theorem keeps_closed (minor : Int) (L : List Fld) : keepsW minor (hopWords (L ++ [(connL, [120, 44, 32, 67, 76, 79, 83, 69])])) = false := by
  rw [words_snoc _ _ _ (by decide)]
  unfold keepsW
  rw [if_pos]
  exact List.mem_append_right _ (by decide)
theorem keeps_without (minor : Int) (L : List Fld) : keepsW minor (hopWords (removeL L connL)) = decide (minor = 1) := by
  rw [words_none (removed_none L)]
  unfold keepsW
  rw [if_neg (by decide)]
  simp
theorem keeps_kept (minor : Int) (L : List Fld) : keepsW minor (hopWords (L ++ [([67, 111, 110, 110, 101, 99, 116, 105, 111, 110], [75, 101, 101, 112, 45, 65, 108, 105, 118, 101])])) = keepsW 1 (hopWords L) := by
  rw [words_snoc _ _ _ (by decide)]
  have hw : wordsOf [75, 101, 101, 112, 45, 65, 108, 105, 118, 101] = [[107, 101, 101, 112, 45, 97, 108, 105, 118, 101]] := by decide
  rw [hw]
  unfold keepsW
  by_cases hn : namedL L connL = []
  · rw [if_pos hn, words_none hn, if_neg (by decide), if_neg (by decide)]
    simp
  · rw [if_neg hn]
    by_cases hc : [99, 108, 111, 115, 101] ∈ hopWords L
    · rw [if_pos (List.mem_append_left _ hc), if_pos hc]
    · rw [if_neg hc, if_neg]
      · simp
      · rw [List.mem_append]; simp [hc]
end Go.Proofs.YtcfihoniocamaaaGreatDoor
namespace Go.Proofs.YtcfihoniocamaaaGreatDoor
open Go Go.RowKit
set_option linter.unusedVariables false

/-- Block b is a map of at most n entries; a text's truth is whether it is among L. -/
def SetIs (W : World) (b n : Nat) (L : List (List UInt8)) : Prop :=
  ∃ D : DataW Unit, W.ownsMap Tryz.prog 9 (plainElem Tryz.prog 4) b n D ∧ Maps.IsMap D ∧ ∀ k, D.atKey (.string k) (.lit (.bool false)) = .lit (.bool (decide (k ∈ L)))
theorem setKeyed : Maps.Keyed Tryz.prog 9 := Maps.string_keyed Tryz.underlying9
theorem SetIs.made (W : World) : SetIs (W.alloc (.map #[] 0)) W.heap.size 0 [] :=
  ⟨_, World.ownsMap_made W _ _ _, Maps.isMap_empty, fun k => by simp [DataW.atKey]⟩
theorem SetIs.kept {W w' : World} {b n : Nat} {L : List (List UInt8)} {row : Option Nat} (h : SetIs W b n L) (hg : W.grownBy w' row) (hne : some b ≠ row) : SetIs w' b n L := by
  obtain ⟨D, h1, h2, h3⟩ := h
  exact ⟨D, h1.kept hg hne, h2, h3⟩
theorem SetIs.lt {W : World} {b n : Nat} {L : List (List UInt8)} (h : SetIs W b n L) : b < W.heap.size := by
  obtain ⟨D, h1, _⟩ := h
  exact h1.lt
theorem SetIs.below {W w' : World} {b n : Nat} {L : List (List UInt8)} (h : SetIs W b n L) (hb : Below W.heap.size W w') : SetIs w' b n L := by
  have hlt := h.lt
  obtain ⟨D, ⟨es, clock, h0, h1⟩, h2, h3⟩ := h
  exact ⟨D, ⟨es, clock, by rw [hb.block b hlt]; exact h0, h1⟩, h2, h3⟩
theorem plain_bool_inv {P : Program} {e : TypeId} (he : P.underlying e = some .bool) {v : Value} {z : DataW Unit × List MemPlace} (h : plainElem (H := Unit) P e v = some z) : ∃ x, v = .bool x ∧ z = (.lit (.bool x), []) := by
  unfold plainElem at h
  rw [he] at h
  cases v <;> simp at h
  exact ⟨_, rfl, h.symm⟩
set_option maxRecDepth 100000 in
/-- 'm[x]'. -/
theorem SetIs.look {W : World} {b n : Nat} {L : List (List UInt8)} (h : SetIs W b n L) (x : List UInt8) (hx : x.length ≤ 9223372036854775807) :
    (Instr.lookup 57 (.map (some b)) (.string (S x)) false).run Tryz.prog W = .ok (.bool (decide (x ∈ L))) W := by
  obtain ⟨D, h1, h2, h3⟩ := h
  obtain ⟨v, ps, hrun, hv⟩ := h1.lookup (t := 57) (e := 4) setKeyed Tryz.underlying57 (z := .bool false) (by kernel_rfl) (plainElem_bool Tryz.underlying4 false) (WideMaps.keyOf_string_mk Tryz.underlying9 (s := S x) (by rw [S_size]; exact hx))
  rw [S_data, h3] at hv
  obtain ⟨y, rfl, hz⟩ := plain_bool_inv Tryz.underlying4 hv
  injection hz with hz1 hz2
  injection hz1 with hz3
  injection hz3 with hz4
  exact hz4 ▸ hrun
set_option maxRecDepth 100000 in
/-- 'm[x] = true' at the operation. -/
theorem wp_set_add {ops : Array Oper} {rest : List Oper} {o : Oper} {a : Act} {Q : Exit → Act → World → Prop} (hg : o.guard = none) (m x v : Operand) (hop : o.op = Op.mapUpdate 57 m x v)
    (W : World) (b n : Nat) (L : List (List UInt8)) (h : SetIs W b n L) (hn : n < 1099511627776) (l : List UInt8) (hl : l.length ≤ 9223372036854775807) (hm : a.eval m = .map (some b)) (hx : a.eval x = .string (S l)) (hv : a.eval v = .bool true)
    (hK : ∀ w', SetIs w' b (n + 1) (L ++ [l]) → W.grownBy w' (some b) → wpList Tryz.prog ops Q rest (a.put o.dst undef) w') : wpList Tryz.prog ops Q (o :: rest) a W := by
  obtain ⟨D, h1, h2, h3⟩ := h
  refine wpList_mapUpdate_own W hg m x v 57 hop 9 4 setKeyed Tryz.underlying57 _ b n D hm h1 (by unfold maxLen; omega) _ _ (.string l) hx hv (by rw [WideMaps.keyOf_string_mk Tryz.underlying9 (s := S l) (by rw [S_size]; exact hl), S_data]) (.lit (.bool true)) [] (plainElem_bool Tryz.underlying4 true) ?_
  intro w' h4 h5
  refine hK w' ⟨_, h4, h2.put _ _, fun k => ?_⟩ h5
  by_cases e : k = l
  · subst e
    rw [Maps.atKey_put_same h2 (by simp [WideAt.IsKeyLit])]
    simp
  · rw [Maps.atKey_put_other (by simpa using e), h3]
    congr 2
    simp [e]
end Go.Proofs.YtcfihoniocamaaaGreatDoor
