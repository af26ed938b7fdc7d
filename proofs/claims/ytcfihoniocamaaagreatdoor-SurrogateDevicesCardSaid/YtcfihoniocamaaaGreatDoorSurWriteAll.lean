/- Parts put together by a byte are parted into them again: the plain law. No program in sight. Blanks taken off twice, or off a padded text; what stands at the ends: the plain law. No program in sight. Words that are written are read as they are: plain words. The document's bytes that no text has: the walk. The document's text with quotes: the walk. How a word is written: the walk. -/
import Derived.Test.YtcfihoniocamaaaGreatDoorSplitMath
import Derived.Test.YtcfihoniocamaaaGreatDoorTrimMath
import Derived.Test.YtcfihoniocamaaaGreatDoorSurMath
import Derived.Test.YtcfihoniocamaaaGreatDoorQuoMath
import Derived.Test.YtcfihoniocamaaaGreatDoorTextUnq2
import Derived.Test.YtcfihoniocamaaaGreatDoorSurAll
/-! JoinMath -/
namespace Go.Proofs.YtcfihoniocamaaaGreatDoor
set_option linter.unusedVariables false

def joinB (b : UInt8) : List (List UInt8) → List UInt8
  | [] => []
  | x :: r => x ++ r.flatMap fun y => b :: y
theorem joinB_snoc {b : UInt8} {x : List UInt8} {r : List (List UInt8)} (y : List UInt8) : joinB b ((x :: r) ++ [y]) = joinB b (x :: r) ++ [b] ++ y := by
  simp [joinB]
theorem joinB_one (b : UInt8) (y : List UInt8) : joinB b [y] = y := by simp [joinB]
theorem parts_skip {b : UInt8} : ∀ (x part rest : List UInt8), (34 : UInt8) ∉ x → b ∉ x → parts b false part (x ++ rest) = parts b false (part ++ x) rest
  | [], part, rest, _, _ => by simp
  | c :: x, part, rest, h1, h2 => by
    have e1 : c ≠ 34 := fun e => h1 (by simp [e])
    have e2 : c ≠ b := fun e => h2 (by simp [e])
    rw [List.cons_append, parts, if_neg e1, if_neg e2, parts_skip x (part ++ [c]) rest (fun h => h1 (by simp [h])) (fun h => h2 (by simp [h]))]
    simp
theorem parts_join {b : UInt8} (hb : b ≠ 34) : ∀ (r : List (List UInt8)) (x part : List UInt8), (∀ y ∈ x :: r, (34 : UInt8) ∉ y ∧ b ∉ y) → parts b false part (x ++ r.flatMap fun y => b :: y) = some ((part ++ x) :: r)
  | [], x, part, h => by
    rw [parts_skip x part _ (h x (by simp)).1 (h x (by simp)).2]; rfl
  | y :: r, x, part, h => by
    rw [parts_skip x part _ (h x (by simp)).1 (h x (by simp)).2, List.flatMap_cons, List.cons_append, parts, if_neg hb, if_pos rfl, parts_join hb r y [] (fun z hz => h z (List.mem_cons_of_mem _ hz))]
    simp
def cleanOf (b : UInt8) (x : List UInt8) : List UInt8 := (x.take 40).filter fun c => c != b && c != 34
theorem cleanOf_no (b : UInt8) (x : List UInt8) : (34 : UInt8) ∉ cleanOf b x ∧ b ∉ cleanOf b x := by
  unfold cleanOf
  constructor <;> · intro h; have := (List.mem_filter.1 h).2; simp at this
theorem cleanOf_len (b : UInt8) (x : List UInt8) : (cleanOf b x).length ≤ 40 := by
  unfold cleanOf
  have := List.length_filter_le (fun c => c != b && c != 34) (x.take 40)
  simp at this ⊢
  omega
def cleanTo (b : UInt8) (x : List UInt8) (j : Nat) : List UInt8 := (x.take j).filter fun c => c != b && c != 34
theorem cleanTo_yes {b : UInt8} {x : List UInt8} {j : Nat} (h : j < x.length) (h1 : x[j] ≠ b) (h2 : x[j] ≠ 34) : cleanTo b x (j + 1) = cleanTo b x j ++ (x.take (j + 1)).drop j := by
  unfold cleanTo
  rw [List.take_succ_eq_append_getElem h, List.filter_append, List.drop_append_of_le_length (by simp; omega), List.drop_eq_nil_of_le (by simp; omega : (x.take j).length ≤ j)]
  simp [h1, h2]
theorem cleanTo_no {b : UInt8} {x : List UInt8} {j : Nat} (h : j < x.length) (h1 : x[j] = b ∨ x[j] = 34) : cleanTo b x (j + 1) = cleanTo b x j := by
  unfold cleanTo
  rw [List.take_succ_eq_append_getElem h, List.filter_append]
  rcases h1 with h1 | h1 <;> simp [h1]
theorem cleanTo_end {b : UInt8} {x : List UInt8} {m : Nat} (hm : min x.length 40 = m) : cleanTo b x m = cleanOf b x := by
  unfold cleanTo cleanOf
  subst hm
  by_cases h : x.length ≤ 40
  · rw [Nat.min_eq_left h, List.take_length, List.take_of_length_le h]
  · rw [Nat.min_eq_right (by omega)]
theorem cleanTo_len (b : UInt8) (x : List UInt8) (j : Nat) : (cleanTo b x j).length ≤ j := by
  unfold cleanTo
  have := List.length_filter_le (fun c => c != b && c != 34) (x.take j)
  simp at this ⊢
  omega
theorem joinB_next (b : UInt8) (ys : List (List UInt8)) (k : Nat) (hk : k < ys.length) : joinB b (ys.take (k + 1)) = joinB b (ys.take k) ++ (if 0 < k then [b] else []) ++ ys[k] := by
  rw [List.take_succ_eq_append_getElem hk]
  cases k with
  | zero => simp [joinB]
  | succ k =>
    cases ys with
    | nil => simp at hk
    | cons y r =>
      rw [List.take_succ_cons, joinB_snoc]
      simp
end Go.Proofs.YtcfihoniocamaaaGreatDoor
/-! TrimMath2 -/
namespace Go.Proofs.YtcfihoniocamaaaGreatDoor
set_option linter.unusedVariables false

theorem dropW_idem (p : UInt8 → Bool) : ∀ l : List UInt8, (l.dropWhile p).dropWhile p = l.dropWhile p
  | [] => rfl
  | c :: l => by
    cases h : p c with
    | true => simp only [List.dropWhile_cons, h, if_true]; exact dropW_idem p l
    | false => simp [h]
theorem trimL_idem (l : List UInt8) : trimL (trimL l) = trimL l := dropW_idem _ _
theorem trimR_idem (l : List UInt8) : trimR (trimR l) = trimR l := by
  unfold trimR; rw [List.reverse_reverse, dropW_idem]
theorem trim_idem (l : List UInt8) : trim (trim l) = trim l := by
  unfold trim; rw [trim_swap, trimR_idem, trimL_idem]
theorem trim_pad (l : List UInt8) : trim (32 :: (l ++ [9])) = trim l := by
  have h1 : blankB 9 = true := by decide
  have h2 : blankB 32 = true := by decide
  unfold trim
  rw [← trim_swap, trimL_blank h2, trim_swap, trimR_blank h1]
theorem dropW_head {p : UInt8 → Bool} : ∀ {l : List UInt8} {c : UInt8} {t : List UInt8}, l.dropWhile p = c :: t → p c = false
  | [], c, t, h => by cases h
  | a :: l, c, t, h => by
    cases ha : p a with
    | true => rw [List.dropWhile_cons, if_pos ha] at h; exact dropW_head h
    | false => rw [List.dropWhile_cons, if_neg (by rw [ha]; simp)] at h; cases h; exact ha
theorem trim_head {l t : List UInt8} {c : UInt8} (h : trim l = c :: t) : blankB c = false := dropW_head h
theorem trim_last {l t : List UInt8} {c : UInt8} (h : trim l = t ++ [c]) : blankB c = false := by
  have h2 : trimR (trimL l) = t ++ [c] := by rw [trim_swap]; exact h
  unfold trimR at h2
  have h3 := congrArg List.reverse h2
  rw [List.reverse_reverse, List.reverse_append] at h3
  exact dropW_head h3
theorem trim_len (l : List UInt8) : (trim l).length ≤ l.length := by
  unfold trim trimL trimR
  have h1 := (List.dropWhile_sublist (p := blankB) (l := (l.reverse.dropWhile blankB).reverse)).length_le
  have h2 := (List.dropWhile_sublist (p := blankB) (l := l.reverse)).length_le
  simp at h1 h2
  omega
theorem trim_keeps {l : List UInt8} (h : ∀ c t, l = c :: t → blankB c = false) (h2 : ∀ c t, l = t ++ [c] → blankB c = false) : trim l = l := by
  have e1 : trimR l = l := by
    unfold trimR
    rcases List.eq_nil_or_concat l with rfl | ⟨t, c, rfl⟩
    · rfl
    · have hc := h2 c t (by simp)
      simp [hc]
  unfold trim
  rw [e1]
  unfold trimL
  cases l with
  | nil => rfl
  | cons c t => simp [h c t rfl]
end Go.Proofs.YtcfihoniocamaaaGreatDoor
/-! SurBackMath -/
namespace Go.Proofs.YtcfihoniocamaaaGreatDoor
set_option linter.unusedVariables false

theorem word_not {c : UInt8} (h : wordB c = true) : c ≠ 34 ∧ c ≠ 44 ∧ c ≠ 59 ∧ c ≠ 61 ∧ c ≠ 92 ∧ blankB c = false := by
  have := all_bytes (p := fun c => wordB c = true → c ≠ 34 ∧ c ≠ 44 ∧ c ≠ 59 ∧ c ≠ 61 ∧ c ≠ 92 ∧ blankB c = false) (by decide +kernel) c
  exact this h
theorem token_parts {l : List UInt8} (h : tokenL l = true) : l ≠ [] ∧ ∀ c ∈ l, wordB c = true := by
  unfold tokenL at h
  simp only [Bool.and_eq_true, Bool.not_eq_true', List.all_eq_true] at h
  exact ⟨by intro e; rw [e] at h; simp at h, h.2⟩
theorem parts_esc {b : UInt8} (v rest : List UInt8) : ∀ part, parts b true part (v.flatMap escB ++ 34 :: rest) = parts b false (part ++ (v.flatMap escB ++ [34])) rest := by
  induction v with
  | nil => intro part; exact parts_quote b part rest
  | cons c v ih =>
    intro part
    rw [List.flatMap_cons]
    by_cases h : c = 34 ∨ c = 92
    · have e : escB c = [92, c] := by unfold escB; rw [if_pos h]
      rw [e]
      have e2 : parts b true part ([92, c] ++ v.flatMap escB ++ 34 :: rest) = parts b true (part ++ [92, c]) (v.flatMap escB ++ 34 :: rest) := by
        show parts b true part (92 :: c :: (v.flatMap escB ++ 34 :: rest)) = _
        rw [parts, if_neg (by decide), if_pos rfl]
      rw [e2, ih]
      simp
    · have e : escB c = [c] := by unfold escB; rw [if_neg h]
      simp only [not_or] at h
      rw [e]
      show parts b true part (c :: (v.flatMap escB ++ 34 :: rest)) = _
      rw [parts_plain h.1 h.2, ih]
      simp
theorem parts_quoted {b : UInt8} (v rest part : List UInt8) : parts b false part (quoteT v ++ rest) = parts b false (part ++ quoteT v) rest := by
  unfold quoteT
  show parts b false part (34 :: (v.flatMap escB ++ [34] ++ rest)) = _
  rw [parts, if_pos rfl, List.append_assoc, List.singleton_append, parts_esc]
  simp
/-- A name, with its value. -/
def nameV (n v : List UInt8) : List UInt8 := n ++ (if v = [] then [] else 61 :: quoteT v)
def writeL (w : Wrd) : List UInt8 := nameV w.1 w.2.1 ++ (if w.2.2 = [] then [] else 32 :: 59 :: 32 :: w.2.2)
theorem nameV_skip {b : UInt8} (h34 : b ≠ 34) (h61 : b ≠ 61) {n : List UInt8} (hn : ∀ c ∈ n, wordB c = true) (hb : wordB b = false) (v rest part : List UInt8) : parts b false part (nameV n v ++ rest) = parts b false (part ++ nameV n v) rest := by
  have h1 : (34 : UInt8) ∉ n := fun h => (word_not (hn _ h)).1 rfl
  have h2 : b ∉ n := fun h => by rw [hn _ h] at hb; cases hb
  unfold nameV
  by_cases hv : v = []
  · rw [if_pos hv, List.append_nil]
    exact parts_skip n part rest h1 h2
  · rw [if_neg hv, List.append_assoc, parts_skip n part _ h1 h2]
    show parts b false (part ++ n) (61 :: (quoteT v ++ rest)) = _
    rw [parts, if_neg (by decide), if_neg (Ne.symm h61), parts_quoted]
    simp
theorem nameV_trim {n : List UInt8} (hn : tokenL n = true) (v : List UInt8) : trim (nameV n v) = nameV n v := by
  obtain ⟨h1, h2⟩ := token_parts hn
  apply trim_keeps
  · intro c t h
    unfold nameV at h
    obtain ⟨a, r, rfl⟩ := List.exists_cons_of_ne_nil h1
    rw [List.cons_append] at h
    injection h with h3 _
    subst h3
    exact (word_not (h2 _ (by simp))).2.2.2.2.2
  · intro c t h
    unfold nameV at h
    by_cases hv : v = []
    · rw [if_pos hv, List.append_nil] at h
      exact (word_not (h2 c (by rw [h]; simp))).2.2.2.2.2
    · rw [if_neg hv] at h
      have e : n ++ 61 :: quoteT v = (n ++ 61 :: 34 :: v.flatMap escB) ++ [34] := by simp [quoteT]
      rw [e] at h
      have := (List.append_inj' h rfl).2
      injection this with h3 _
      subst h3
      decide
theorem token_trim {n : List UInt8} (hn : tokenL n = true) : trim n = n := by
  have := nameV_trim hn []
  unfold nameV at this
  simpa using this
theorem quote_trim (v : List UInt8) : trim (quoteT v) = quoteT v := by
  apply trim_keeps
  · intro c t h
    unfold quoteT at h
    injection h with h3 _
    subst h3
    decide
  · intro c t h
    have e : quoteT v = (34 :: v.flatMap escB) ++ [34] := by simp [quoteT]
    rw [e] at h
    have := (List.append_inj' h rfl).2
    injection this with h3 _
    subst h3
    decide
/-- A word that may be written. -/
structure MayW (w : Wrd) : Prop where
  name : tokenL w.1 = true
  val : w.2.1.any ctlB = false
  dev : w.2.2 = [] ∨ tokenL w.2.2 = true
theorem split59 {w : Wrd} (h : MayW w) : splitL 59 (writeL w) = some (if w.2.2 = [] then [nameV w.1 w.2.1] else [nameV w.1 w.2.1, w.2.2]) := by
  obtain ⟨n, v, d⟩ := w
  obtain ⟨hn, hv, hd⟩ := h
  simp only at hn hv hd
  obtain ⟨h1, h2⟩ := token_parts hn
  unfold splitL writeL
  rw [if_neg (by decide)]
  simp only
  rw [nameV_skip (by decide) (by decide) h2 (by decide)]
  by_cases hd0 : d = []
  · subst hd0
    rw [if_pos rfl, if_pos rfl]
    simp [parts, nameV_trim hn]
  · have hdt : tokenL d = true := by
      rcases hd with h | h
      · exact absurd h hd0
      · exact h
    obtain ⟨_, h3⟩ := token_parts hdt
    rw [if_neg hd0, if_neg hd0]
    have e : parts 59 false ([] ++ nameV n v) (32 :: 59 :: 32 :: d) = some [nameV n v ++ [32], 32 :: d] := by
      rw [List.nil_append, parts, if_neg (by decide), if_neg (by decide), parts, if_neg (by decide), if_pos rfl,
        parts_one (32 :: d) [] (by intro hm; rcases List.mem_cons.1 hm with hm | hm; · cases hm
                                   · exact (word_not (h3 _ hm)).1 rfl) (by intro hm; rcases List.mem_cons.1 hm with hm | hm; · cases hm
                                                                           · exact (word_not (h3 _ hm)).2.2.1 rfl)]
      rfl
    rw [e]
    simp only [Option.map_some, List.map_cons, List.map_nil]
    have e1 : trim (nameV n v ++ [32]) = nameV n v := by
      have : trim (nameV n v ++ [32]) = trim (nameV n v) := by unfold trim; rw [trimR_blank (by decide)]
      rw [this, nameV_trim hn]
    rw [e1, trim_lead, token_trim hdt]
theorem split61 {n v : List UInt8} (hn : tokenL n = true) : splitL 61 (nameV n v) = some (if v = [] then [n] else [n, quoteT v]) := by
  obtain ⟨h1, h2⟩ := token_parts hn
  have h34 : (34 : UInt8) ∉ n := fun h => (word_not (h2 _ h)).1 rfl
  have h61 : (61 : UInt8) ∉ n := fun h => (word_not (h2 _ h)).2.2.2.1 rfl
  unfold splitL nameV
  rw [if_neg (by decide)]
  by_cases hv : v = []
  · rw [if_pos hv, if_pos hv, List.append_nil, parts_one n [] h34 h61]
    simp [token_trim hn]
  · rw [if_neg hv, if_neg hv, parts_skip n [] _ h34 h61, parts, if_neg (by decide), if_pos rfl]
    have e : parts 61 false [] (quoteT v) = some [quoteT v] := by
      have := parts_quoted (b := 61) v [] []
      rw [List.append_nil] at this
      rw [this]; rfl
    rw [e]
    simp [token_trim hn, quote_trim]
theorem word_back {w : Wrd} (h : MayW w) : wordW (writeL w) = some (lower w.1, w.2.1, w.2.2) := by
  have hs := split59 h
  obtain ⟨n, v, d⟩ := w
  obtain ⟨hn, hv, hd⟩ := h
  simp only at hn hv hd hs ⊢
  unfold wordW
  rw [hs]
  have hl : ¬ (2 < (if d = [] then [nameV n v] else [nameV n v, d]).length ∨ ((if d = [] then [nameV n v] else [nameV n v, d]).length = 2 ∧ tokenL ((if d = [] then [nameV n v] else [nameV n v, d]).getD 1 []) = false)) := by
    by_cases hd0 : d = []
    · rw [if_pos hd0]; simp
    · rw [if_neg hd0]
      rcases hd with h | h
      · exact absurd h hd0
      · simp [h]
  have h0 : (if d = [] then [nameV n v] else [nameV n v, d]).getD 0 [] = nameV n v := by split <;> rfl
  have hdv : (if (if d = [] then [nameV n v] else [nameV n v, d]).length = 2 then (if d = [] then [nameV n v] else [nameV n v, d]).getD 1 [] else []) = d := by
    by_cases hd0 : d = []
    · rw [if_pos hd0]; simp [hd0]
    · rw [if_neg hd0]; simp
  simp only
  rw [if_neg hl, h0, split61 hn, hdv]
  simp only
  by_cases hv0 : v = []
  · rw [if_pos hv0]
    simp [hn, hv0]
  · rw [if_neg hv0]
    have hval : valueW (quoteT v) = some v := by
      unfold valueW unqE unqL
      rw [unq_quote hv]; rfl
    simp [hn, hval]
theorem write_ne {w : Wrd} (h : MayW w) : writeL w ≠ [] := by
  have := (token_parts h.name).1
  unfold writeL nameV
  intro e
  simp at e
  exact this e.1
theorem write_whole {w : Wrd} (h : MayW w) : splitL 44 (writeL w) = some [writeL w] := by
  obtain ⟨n, v, d⟩ := w
  obtain ⟨hn, hv, hd⟩ := h
  simp only at hn hv hd
  obtain ⟨h1, h2⟩ := token_parts hn
  unfold splitL
  rw [if_neg (by decide)]
  have e : parts 44 false [] (writeL (n, v, d)) = some [writeL (n, v, d)] := by
    unfold writeL
    simp only
    rw [nameV_skip (by decide) (by decide) h2 (by decide), List.nil_append]
    by_cases hd0 : d = []
    · rw [if_pos hd0]; simp [parts]
    · rw [if_neg hd0]
      have hdt : tokenL d = true := by
        rcases hd with h | h
        · exact absurd h hd0
        · exact h
      obtain ⟨_, h3⟩ := token_parts hdt
      rw [parts_one]
      · intro hm
        simp only [List.mem_cons] at hm
        rcases hm with hm | hm | hm | hm
        · cases hm
        · cases hm
        · cases hm
        · exact (word_not (h3 _ hm)).1 rfl
      · intro hm
        simp only [List.mem_cons] at hm
        rcases hm with hm | hm | hm | hm
        · cases hm
        · cases hm
        · cases hm
        · exact (word_not (h3 _ hm)).2.1 rfl
  rw [e]
  simp only [Option.map_some, List.map_cons, List.map_nil]
  congr 2
  unfold writeL
  simp only
  by_cases hd0 : d = []
  · rw [if_pos hd0, List.append_nil]; exact nameV_trim hn v
  · rw [if_neg hd0]
    have hdt : tokenL d = true := by
      rcases hd with h | h
      · exact absurd h hd0
      · exact h
    obtain ⟨h4, h3⟩ := token_parts hdt
    apply trim_keeps
    · intro c t h
      unfold nameV at h
      obtain ⟨a, r, rfl⟩ := List.exists_cons_of_ne_nil h1
      simp only [List.cons_append] at h
      injection h with h5 _
      subst h5
      exact (word_not (h2 _ (by simp))).2.2.2.2.2
    · intro c t h
      rcases List.eq_nil_or_concat d with rfl | ⟨d0, x, rfl⟩
      · exact absurd rfl h4
      · rw [List.concat_eq_append] at h h3
        have e2 : nameV n v ++ 32 :: 59 :: 32 :: (d0 ++ [x]) = (nameV n v ++ 32 :: 59 :: 32 :: d0) ++ [x] := by simp
        rw [e2] at h
        have := (List.append_inj' h rfl).2
        injection this with h5 _
        subst h5
        exact (word_not (h3 _ (by simp))).2.2.2.2.2
theorem read_one {w : Wrd} (h : MayW w) : readL (writeL w) = some [(lower w.1, w.2.1, w.2.2)] := by
  unfold readL
  rw [write_whole h]
  simp only
  unfold readParts
  have hne : (writeL w).isEmpty = false := by
    cases hq : writeL w with
    | nil => exact absurd hq (write_ne h)
    | cons a t => rfl
  rw [hne, word_back h]
  simp [readParts]
theorem read_nil : readL [] = some [] := by decide
theorem read_more {s : List UInt8} {x : List Wrd} (h1 : readL s = some x) {w : Wrd} (h : MayW w) : readL (s ++ ([32, 44, 44, 32] ++ writeL w)) = some (x ++ [(lower w.1, w.2.1, w.2.2)]) := by
  have h2 : readL (44 :: 32 :: writeL w) = some [(lower w.1, w.2.1, w.2.2)] := by
    have hr := read_one h
    have hl := split_lead (b := 44) (by decide) (writeL w)
    unfold readL at hr ⊢
    rw [write_whole h] at hr hl
    have e : splitL 44 (44 :: 32 :: writeL w) = some ([] :: [writeL w]) := by
      unfold splitL at hl ⊢
      rw [if_neg (by decide)] at hl ⊢
      rw [parts, if_neg (by decide), if_pos rfl]
      obtain ⟨ps, hp, he⟩ := Option.map_eq_some_iff.1 hl
      rw [hp]
      simp only [Option.map_some, List.map_cons, he]
      rfl
    rw [e]
    simp only at hr ⊢
    have e2 : readParts ([] :: [writeL w]) = readParts [writeL w] := rfl
    rw [e2]
    exact hr
  have e : s ++ ([32, 44, 44, 32] ++ writeL w) = s ++ 32 :: 44 :: (44 :: 32 :: writeL w) := by simp
  rw [e]
  unfold readL at h1 h2 ⊢
  cases hs : splitL 44 s with
  | none => rw [hs] at h1; cases h1
  | some xs =>
    rw [hs] at h1
    cases ht : splitL 44 (44 :: 32 :: writeL w) with
    | none => rw [ht] at h2; cases h2
    | some ys =>
      rw [ht] at h2
      rw [split_mid (by decide) (by decide) (by decide) hs, ht]
      simp only [Option.map_some] at h1 h2 ⊢
      rw [readParts_append, h1, h2]
      rfl
end Go.Proofs.YtcfihoniocamaaaGreatDoor
/-! RefCtl -/
namespace Go.Proofs.YtcfihoniocamaaaGreatDoor
open Go.RowKit Go.Sort Go.Shelf
set_option linter.unusedVariables false

set_option maxHeartbeats 800000 in
theorem refControl (c : UInt8) (w : World) : Calls Tryz.prog 61 #[.int .u8 (c.toNat : Int)] w fun e w' => e = .returned (.bool (ctlB c)) ∧ w' = w := by
  have hc256 := c.toNat_lt
  unfold ctlB
  obtain ⟨n, hn⟩ : ∃ n, c.toNat = n := ⟨_, rfl⟩
  rw [hn] at hc256 ⊢
  clear hn
  by_cases h1 : n < 32
  · by_cases h2 : n = 9
    · subst h2
      go_enter Tryz.func61, Tryz.ntmps61
      go_wp2
      go_ret
      exact ⟨rfl, rfl⟩
    · have e : ((decide (n < 32) && !decide (n = 9)) || decide (n = 127)) = true := by simp [h1, h2]
      rw [e]
      have h3 : ((n : Int) != 9) = true := by simp; omega
      clear e
      go_enter Tryz.func61, Tryz.ntmps61
      go_wp2
      go_ret
      exact ⟨rfl, rfl⟩
  · have e : ((decide (n < 32) && !decide (n = 9)) || decide (n = 127)) = decide (n = 127) := by simp [h1]
    rw [e]
    clear e
    have h1i : (32 : Int) ≤ n := by omega
    by_cases h2 : n = 127
    · subst h2
      go_enter Tryz.func61, Tryz.ntmps61
      go_wp2
      go_ret
      exact ⟨rfl, rfl⟩
    · have h3 : ((n : Int) == 127) = false := by simp; omega
      rw [decide_eq_false h2]
      go_enter Tryz.func61, Tryz.ntmps61
      go_wp2
      go_ret
      exact ⟨rfl, rfl⟩
end Go.Proofs.YtcfihoniocamaaaGreatDoor
/-! RefQuote -/
namespace Go.Proofs.YtcfihoniocamaaaGreatDoor
open Go.RowKit Go.Sort Go.Shelf
set_option linter.unusedVariables false

set_option maxHeartbeats 1600000 in
set_option maxRecDepth 100000 in
theorem refQuote (s : List UInt8) (hs : s.length ≤ 1000000) (w : World) : Calls Tryz.prog 47 #[.string (S s)] w fun e w' => e = .returned (.tuple #[.string (S (if s.any ctlB = true then [] else quoteT s)), .int .i64 (if s.any ctlB = true then 11 else 0)]) ∧ w' = w := by
  have hs1 : (s.length : Int) ≤ 1000000 := by omega
  have QY := Lib.hid (fun (h : s.any ctlB = true) => (show (if s.any ctlB = true then ([] : List UInt8) else quoteT s) = [] ∧ (if s.any ctlB = true then (11 : Int) else 0) = 11 from ⟨if_pos h, if_pos h⟩))
  have QN := Lib.hid (fun (h : s.any ctlB = false) => (show (if s.any ctlB = true then ([] : List UInt8) else quoteT s) = quoteT s ∧ (if s.any ctlB = true then (11 : Int) else 0) = 0 from ⟨if_neg (by rw [h]; simp), if_neg (by rw [h]; simp)⟩))
  obtain ⟨qq, hqq⟩ : ∃ q, (if s.any ctlB = true then ([] : List UInt8) else quoteT s) = q := ⟨_, rfl⟩
  obtain ⟨qe, hqe⟩ : ∃ q, (if s.any ctlB = true then (11 : Int) else 0) = q := ⟨_, rfl⟩
  rw [hqq, hqe] at QY QN ⊢
  clear hqq hqe
  have CT := Lib.hid (fun c W => refControl c W)
  go_enter Tryz.func47, Tryz.ntmps47
  go_wp2
  simp only [mk_S]
  go_loop [4, 5] (fun ov iv => ∃ (k : Nat) (out : List UInt8), iv = .int .i64 k ∧ k ≤ s.length ∧ ov = .string (S out) ∧ out = 34 :: (s.take k).flatMap escB ∧ out.length ≤ 2 * k + 1 ∧ (s.take k).any ctlB = false) (fun _ iv => s.length - (intOf iv).toNat)
  case atStart => exact ⟨0, _, rfl, Nat.zero_le _, rfl, rfl, by simp, rfl⟩
  case round =>
    obtain ⟨k, out, rfl, hk, rfl, hout, hol, hall⟩ := hrel
    have HO := Lib.hid hout
    have HA := Lib.hid hall
    clear hout hall
    by_cases hlt : k < s.length
    · have hbk : bAt s k = (s[k].toNat : Int) := bAt_eq hlt
      have hsl : (s.take (k + 1)).drop k = [s[k]] := by
        rw [List.take_succ_eq_append_getElem hlt, List.drop_append]
        simp [Nat.le_of_lt hlt]
      have htk : 34 :: (s.take (k + 1)).flatMap escB = out ++ escB s[k] := by
        rw [List.take_succ_eq_append_getElem hlt, List.flatMap_append, HO.out]; simp
      have hany : (s.take (k + 1)).any ctlB = ctlB s[k] := by
        rw [List.take_succ_eq_append_getElem hlt, List.any_append, HA.out]; simp
      have hyes : ctlB s[k] = true → s.any ctlB = true := fun h => List.any_eq_true.2 ⟨_, List.getElem_mem hlt, h⟩
      obtain ⟨c, hc⟩ : ∃ c, s[k] = c := ⟨_, rfl⟩
      rw [hc] at hbk hsl htk hany hyes
      have C := fun W => CT.out c W
      obtain ⟨z, hz⟩ : ∃ z, ctlB c = z := ⟨_, rfl⟩
      rw [hz] at C hany hyes
      have C := Lib.hid C
      have HT := Lib.hid htk
      have HAN := Lib.hid hany
      have HY := Lib.hid hyes
      clear hc hz htk hany hyes
      cases z with
      | true =>
        go_wp2_with (go_at_call 61; refine (C.out _).mono ?_; rintro e w' ⟨rfl, hw'⟩; obtain rfl := hw'.symm)
        obtain ⟨rfl, rfl⟩ := QY.out (HY.out trivial)
        go_ret2
        exact ⟨rfl, rfl⟩
      | false =>
        by_cases h34 : c = 34
        · subst h34
          have hb : bAt s k = 34 := hbk
          clear hbk
          go_wp2_with (go_at_call 61; refine (C.out _).mono ?_; rintro e w' ⟨rfl, hw'⟩; obtain rfl := hw'.symm)
          go_round
          case rel => exact ⟨k + 1, out ++ [92, 34], by go_num, by omega, by simp, by rw [HT.out]; rfl, by simp; omega, HAN.out⟩
          case measure => simp [intOf]; omega
        · have hn34 : ((c.toNat : Int) == 34) = false := by
            simp only [beq_eq_false_iff_ne, ne_eq]; intro e; exact h34 (UInt8.toNat.inj (Int.ofNat.inj e))
          by_cases h92 : c = 92
          · subst h92
            have hb : bAt s k = 92 := hbk
            clear hbk
            go_wp2_with (go_at_call 61; refine (C.out _).mono ?_; rintro e w' ⟨rfl, hw'⟩; obtain rfl := hw'.symm)
            go_round
            case rel => exact ⟨k + 1, out ++ [92, 92], by go_num, by omega, by simp, by rw [HT.out]; rfl, by simp; omega, HAN.out⟩
            case measure => simp [intOf]; omega
          · have hn92 : ((c.toNat : Int) == 92) = false := by
              simp only [beq_eq_false_iff_ne, ne_eq]; intro e; exact h92 (UInt8.toNat.inj (Int.ofNat.inj e))
            have HE := Lib.hid (show escB c = [c] by unfold escB; rw [if_neg (by simp [h34, h92])])
            clear h34 h92
            go_wp2_with (go_at_call 61; refine (C.out _).mono ?_; rintro e w' ⟨rfl, hw'⟩; obtain rfl := hw'.symm)
            go_round
            case rel => exact ⟨k + 1, out ++ [c], by go_num, by omega, by simp, by rw [HT.out, HE.out], by simp; omega, HAN.out⟩
            case measure => simp [intOf]; omega
    · obtain rfl : k = s.length := by omega
      have h := HA.out
      rw [List.take_length] at h
      have h2 := HO.out
      rw [List.take_length] at h2
      have H := Lib.hid h
      have H2 := Lib.hid h2
      clear h h2
      go_wp2
      go_ret2
      obtain ⟨rfl, rfl⟩ := QN.out H.out
      exact ⟨by rw [H2.out]; simp [quoteT], rfl⟩

end Go.Proofs.YtcfihoniocamaaaGreatDoor
/-! SurWrite -/
namespace Go.Proofs.YtcfihoniocamaaaGreatDoor
open Go.RowKit Go.Sort Go.Shelf
set_option linter.unusedVariables false
set_option linter.unusedSimpArgs false

def mayB (w : Wrd) : Bool := !(w.2.1.any ctlB) && (tokenL w.1 && (w.2.2.isEmpty || tokenL w.2.2))
theorem mayB_iff {w : Wrd} : mayB w = true ↔ MayW w := by
  obtain ⟨n, v, d⟩ := w
  unfold mayB
  simp only [Bool.and_eq_true, Bool.not_eq_true', Bool.or_eq_true, List.isEmpty_iff]
  exact ⟨fun ⟨h1, h2, h3⟩ => ⟨h2, h1, h3⟩, fun ⟨h1, h2, h3⟩ => ⟨h2, h1, h3⟩⟩
theorem nameV_nil (n : List UInt8) : nameV n [] = n := by simp [nameV]
theorem nameV_cons {v : List UInt8} (n : List UInt8) (h : v.isEmpty = false) : nameV n v = n ++ (61 :: quoteT v) := by
  cases v with
  | nil => cases h
  | cons a t => simp [nameV]
theorem writeL_nil (n v : List UInt8) : writeL (n, v, []) = nameV n v := by simp [writeL]
theorem writeL_cons {d : List UInt8} (n v : List UInt8) (h : d.isEmpty = false) : writeL (n, v, d) = nameV n v ++ 32 :: 59 :: 32 :: d := by
  cases d with
  | nil => cases h
  | cons a t => simp [writeL]
theorem quoteT_len (v : List UInt8) : (quoteT v).length ≤ 2 * v.length + 2 := by
  unfold quoteT
  have h2 : (v.flatMap escB).length ≤ 2 * v.length := by
    induction v with
    | nil => simp
    | cons c v ih =>
      rw [List.flatMap_cons, List.length_append, List.length_cons]
      have : (escB c).length ≤ 2 := by unfold escB; split <;> simp
      omega
  simp only [List.length_cons, List.length_append, List.length_nil]
  omega
theorem nameV_len (n v : List UInt8) : (nameV n v).length ≤ n.length + 2 * v.length + 3 := by
  unfold nameV
  have := quoteT_len v
  split
  · simp; omega
  · simp; omega
theorem writeL_len (w : Wrd) : (writeL w).length ≤ w.1.length + 2 * w.2.1.length + w.2.2.length + 6 := by
  unfold writeL
  have := nameV_len w.1 w.2.1
  split
  · simp; omega
  · simp; omega

set_option maxHeartbeats 1600000 in
set_option maxRecDepth 100000 in
theorem surWrite_bad (n v d : List UInt8) (hn : n.length ≤ 400) (hv : v.length ≤ 400) (hd : d.length ≤ 400) (hc : v.any ctlB = true) (w : World) :
    Calls Tryz.prog 25 #[.agg #[.string (S n), .string (S v), .string (S d)]] w fun e w' => e = .returned (.tuple #[.string (S []), .bool false]) ∧ Below w.heap.size w w' := by
  have QU := Lib.hid (fun W => refQuote v (by omega) W)
  rw [hc, if_pos rfl, if_pos rfl] at QU
  have hve : v.isEmpty = false := by cases v with
    | nil => cases hc
    | cons a t => rfl
  clear hc
  go_enter Tryz.func25, Tryz.ntmps25
  go_wp2_with (first | (go_at_call 47; refine Calls.mono (QU.out _) ?_; rintro e w' ⟨rfl, hw'⟩; obtain rfl := hw'.symm) | fail)
  go_ret2
  exact ⟨rfl, by (repeat (first | (with_reducible exact Below.refl _ _) | (with_reducible assumption) | (with_reducible refine Below.drew ?_) | (focus ((with_reducible refine Below.setCell ?_ ?_ _); rotate_left; (first | omega | (simp <;> omega)))) | (focus ((with_reducible refine Below.alloc ?_ ?_ _); rotate_left; (first | omega | (simp <;> omega)))) | exact Below.refl _ _ | assumption | refine Below.drew ?_ | refine Below.alloc ?_ (by first | omega | (simp <;> omega)) _ | refine Below.setCell ?_ (by first | omega | (simp <;> omega)) _))⟩
set_option maxHeartbeats 1600000 in
set_option maxRecDepth 100000 in
theorem surWrite_VD (n v d : List UInt8) (hn : n.length ≤ 400) (hv : v.length ≤ 400) (hve : v.isEmpty = false) (hc : v.any ctlB = false) (hd : d.length ≤ 400) (hde : d.isEmpty = false) (w : World) :
    Calls Tryz.prog 25 #[.agg #[.string (S n), .string (S v), .string (S d)]] w fun e w' => e = .returned (.tuple #[.string (S (writeL (n, v, d))), .bool (tokenL n && ((d : List UInt8).isEmpty || tokenL d))]) ∧ Below w.heap.size w w' := by
  have TN := Lib.hid (fun W => refToken n (by omega) W)
  have TD := Lib.hid (fun W => refToken d (by first | omega | simp) W)
  obtain ⟨tn, htn⟩ : ∃ t, tokenL n = t := ⟨_, rfl⟩
  rw [htn] at TN ⊢
  have QU := Lib.hid (fun W => refQuote v (by omega) W); rw [hc, if_neg (by simp), if_neg (by simp)] at QU
  rw [writeL_cons n v hde, nameV_cons n hve]
  have hni : (n.length : Int) ≤ 400 := by omega
  have hdi : (d.length : Int) ≤ 400 := by omega
  have hql := quoteT_len v; obtain ⟨qv, hqv⟩ : ∃ q, quoteT v = q := ⟨_, rfl⟩; rw [hqv] at hql QU ⊢; have hqi : (qv.length : Int) ≤ 802 := (by omega); clear hqv hql
  clear htn
  go_enter Tryz.func25, Tryz.ntmps25
  cases tn with
  | true =>
    go_wp2_with (first
      | (go_at_call 47; refine Calls.mono (QU.out _) ?_; rintro e w' ⟨rfl, hw'⟩; obtain rfl := hw'.symm)
      | (go_at_call 22; (with_reducible refine Calls.mono (TN.out _) ?_); rintro e w' ⟨rfl, hw'⟩; obtain rfl := hw'.symm)
      | (go_at_call 22; (with_reducible refine Calls.mono (TD.out _) ?_); rintro e w' ⟨rfl, hw'⟩; obtain rfl := hw'.symm)
      | fail)
    go_ret2
    refine ⟨by rw [show (d : List UInt8).isEmpty = false from hde]; simp, by (repeat (first | (with_reducible exact Below.refl _ _) | (with_reducible assumption) | (with_reducible refine Below.drew ?_) | (focus ((with_reducible refine Below.setCell ?_ ?_ _); rotate_left; (first | omega | (simp <;> omega)))) | (focus ((with_reducible refine Below.alloc ?_ ?_ _); rotate_left; (first | omega | (simp <;> omega)))) | exact Below.refl _ _ | assumption | refine Below.drew ?_ | refine Below.alloc ?_ (by first | omega | (simp <;> omega)) _ | refine Below.setCell ?_ (by first | omega | (simp <;> omega)) _))⟩
  | false =>
    go_wp2_with (first
      | (go_at_call 47; refine Calls.mono (QU.out _) ?_; rintro e w' ⟨rfl, hw'⟩; obtain rfl := hw'.symm)
      | (go_at_call 22; (with_reducible refine Calls.mono (TN.out _) ?_); rintro e w' ⟨rfl, hw'⟩; obtain rfl := hw'.symm)
      | fail)
    go_ret2
    refine ⟨by simp, by (repeat (first | (with_reducible exact Below.refl _ _) | (with_reducible assumption) | (with_reducible refine Below.drew ?_) | (focus ((with_reducible refine Below.setCell ?_ ?_ _); rotate_left; (first | omega | (simp <;> omega)))) | (focus ((with_reducible refine Below.alloc ?_ ?_ _); rotate_left; (first | omega | (simp <;> omega)))) | exact Below.refl _ _ | assumption | refine Below.drew ?_ | refine Below.alloc ?_ (by first | omega | (simp <;> omega)) _ | refine Below.setCell ?_ (by first | omega | (simp <;> omega)) _))⟩
set_option maxHeartbeats 1600000 in
set_option maxRecDepth 100000 in
theorem surWrite_VN (n v d : List UInt8) (hn : n.length ≤ 400) (hv : v.length ≤ 400) (hve : v.isEmpty = false) (hc : v.any ctlB = false)  (w : World) :
    Calls Tryz.prog 25 #[.agg #[.string (S n), .string (S v), .string (S [])]] w fun e w' => e = .returned (.tuple #[.string (S (writeL (n, v, []))), .bool (tokenL n && (([] : List UInt8).isEmpty || tokenL []))]) ∧ Below w.heap.size w w' := by
  have TN := Lib.hid (fun W => refToken n (by omega) W)
  have TD := Lib.hid (fun W => refToken [] (by first | omega | simp) W)
  obtain ⟨tn, htn⟩ : ∃ t, tokenL n = t := ⟨_, rfl⟩
  rw [htn] at TN ⊢
  have QU := Lib.hid (fun W => refQuote v (by omega) W); rw [hc, if_neg (by simp), if_neg (by simp)] at QU
  rw [writeL_nil, nameV_cons n hve]
  have hni : (n.length : Int) ≤ 400 := by omega
  skip
  have hql := quoteT_len v; obtain ⟨qv, hqv⟩ : ∃ q, quoteT v = q := ⟨_, rfl⟩; rw [hqv] at hql QU ⊢; have hqi : (qv.length : Int) ≤ 802 := (by omega); clear hqv hql
  clear htn
  go_enter Tryz.func25, Tryz.ntmps25
  cases tn with
  | true =>
    go_wp2_with (first
      | (go_at_call 47; refine Calls.mono (QU.out _) ?_; rintro e w' ⟨rfl, hw'⟩; obtain rfl := hw'.symm)
      | (go_at_call 22; (with_reducible refine Calls.mono (TN.out _) ?_); rintro e w' ⟨rfl, hw'⟩; obtain rfl := hw'.symm)
      | (go_at_call 22; (with_reducible refine Calls.mono (TD.out _) ?_); rintro e w' ⟨rfl, hw'⟩; obtain rfl := hw'.symm)
      | fail)
    go_ret2
    refine ⟨by rw [show ([] : List UInt8).isEmpty = true from rfl]; simp, by (repeat (first | (with_reducible exact Below.refl _ _) | (with_reducible assumption) | (with_reducible refine Below.drew ?_) | (focus ((with_reducible refine Below.setCell ?_ ?_ _); rotate_left; (first | omega | (simp <;> omega)))) | (focus ((with_reducible refine Below.alloc ?_ ?_ _); rotate_left; (first | omega | (simp <;> omega)))) | exact Below.refl _ _ | assumption | refine Below.drew ?_ | refine Below.alloc ?_ (by first | omega | (simp <;> omega)) _ | refine Below.setCell ?_ (by first | omega | (simp <;> omega)) _))⟩
  | false =>
    go_wp2_with (first
      | (go_at_call 47; refine Calls.mono (QU.out _) ?_; rintro e w' ⟨rfl, hw'⟩; obtain rfl := hw'.symm)
      | (go_at_call 22; (with_reducible refine Calls.mono (TN.out _) ?_); rintro e w' ⟨rfl, hw'⟩; obtain rfl := hw'.symm)
      | fail)
    go_ret2
    refine ⟨by simp, by (repeat (first | (with_reducible exact Below.refl _ _) | (with_reducible assumption) | (with_reducible refine Below.drew ?_) | (focus ((with_reducible refine Below.setCell ?_ ?_ _); rotate_left; (first | omega | (simp <;> omega)))) | (focus ((with_reducible refine Below.alloc ?_ ?_ _); rotate_left; (first | omega | (simp <;> omega)))) | exact Below.refl _ _ | assumption | refine Below.drew ?_ | refine Below.alloc ?_ (by first | omega | (simp <;> omega)) _ | refine Below.setCell ?_ (by first | omega | (simp <;> omega)) _))⟩
set_option maxHeartbeats 1600000 in
set_option maxRecDepth 100000 in
theorem surWrite_ND (n v d : List UInt8) (hn : n.length ≤ 400)  (hd : d.length ≤ 400) (hde : d.isEmpty = false) (w : World) :
    Calls Tryz.prog 25 #[.agg #[.string (S n), .string (S []), .string (S d)]] w fun e w' => e = .returned (.tuple #[.string (S (writeL (n, [], d))), .bool (tokenL n && ((d : List UInt8).isEmpty || tokenL d))]) ∧ Below w.heap.size w w' := by
  have TN := Lib.hid (fun W => refToken n (by omega) W)
  have TD := Lib.hid (fun W => refToken d (by first | omega | simp) W)
  obtain ⟨tn, htn⟩ : ∃ t, tokenL n = t := ⟨_, rfl⟩
  rw [htn] at TN ⊢
  skip
  rw [writeL_cons n [] hde, nameV_nil]
  have hni : (n.length : Int) ≤ 400 := by omega
  have hdi : (d.length : Int) ≤ 400 := by omega
  skip
  clear htn
  go_enter Tryz.func25, Tryz.ntmps25
  cases tn with
  | true =>
    go_wp2_with (first
      | (go_at_call 47; refine Calls.mono (QU.out _) ?_; rintro e w' ⟨rfl, hw'⟩; obtain rfl := hw'.symm)
      | (go_at_call 22; (with_reducible refine Calls.mono (TN.out _) ?_); rintro e w' ⟨rfl, hw'⟩; obtain rfl := hw'.symm)
      | (go_at_call 22; (with_reducible refine Calls.mono (TD.out _) ?_); rintro e w' ⟨rfl, hw'⟩; obtain rfl := hw'.symm)
      | fail)
    go_ret2
    refine ⟨by rw [show (d : List UInt8).isEmpty = false from hde]; simp, by (repeat (first | (with_reducible exact Below.refl _ _) | (with_reducible assumption) | (with_reducible refine Below.drew ?_) | (focus ((with_reducible refine Below.setCell ?_ ?_ _); rotate_left; (first | omega | (simp <;> omega)))) | (focus ((with_reducible refine Below.alloc ?_ ?_ _); rotate_left; (first | omega | (simp <;> omega)))) | exact Below.refl _ _ | assumption | refine Below.drew ?_ | refine Below.alloc ?_ (by first | omega | (simp <;> omega)) _ | refine Below.setCell ?_ (by first | omega | (simp <;> omega)) _))⟩
  | false =>
    go_wp2_with (first
      | (go_at_call 47; refine Calls.mono (QU.out _) ?_; rintro e w' ⟨rfl, hw'⟩; obtain rfl := hw'.symm)
      | (go_at_call 22; (with_reducible refine Calls.mono (TN.out _) ?_); rintro e w' ⟨rfl, hw'⟩; obtain rfl := hw'.symm)
      | fail)
    go_ret2
    refine ⟨by simp, by (repeat (first | (with_reducible exact Below.refl _ _) | (with_reducible assumption) | (with_reducible refine Below.drew ?_) | (focus ((with_reducible refine Below.setCell ?_ ?_ _); rotate_left; (first | omega | (simp <;> omega)))) | (focus ((with_reducible refine Below.alloc ?_ ?_ _); rotate_left; (first | omega | (simp <;> omega)))) | exact Below.refl _ _ | assumption | refine Below.drew ?_ | refine Below.alloc ?_ (by first | omega | (simp <;> omega)) _ | refine Below.setCell ?_ (by first | omega | (simp <;> omega)) _))⟩
set_option maxHeartbeats 1600000 in
set_option maxRecDepth 100000 in
theorem surWrite_NN (n v d : List UInt8) (hn : n.length ≤ 400)   (w : World) :
    Calls Tryz.prog 25 #[.agg #[.string (S n), .string (S []), .string (S [])]] w fun e w' => e = .returned (.tuple #[.string (S (writeL (n, [], []))), .bool (tokenL n && (([] : List UInt8).isEmpty || tokenL []))]) ∧ Below w.heap.size w w' := by
  have TN := Lib.hid (fun W => refToken n (by omega) W)
  have TD := Lib.hid (fun W => refToken [] (by first | omega | simp) W)
  obtain ⟨tn, htn⟩ : ∃ t, tokenL n = t := ⟨_, rfl⟩
  rw [htn] at TN ⊢
  skip
  rw [writeL_nil, nameV_nil]
  have hni : (n.length : Int) ≤ 400 := by omega
  skip
  skip
  clear htn
  go_enter Tryz.func25, Tryz.ntmps25
  cases tn with
  | true =>
    go_wp2_with (first
      | (go_at_call 47; refine Calls.mono (QU.out _) ?_; rintro e w' ⟨rfl, hw'⟩; obtain rfl := hw'.symm)
      | (go_at_call 22; (with_reducible refine Calls.mono (TN.out _) ?_); rintro e w' ⟨rfl, hw'⟩; obtain rfl := hw'.symm)
      | (go_at_call 22; (with_reducible refine Calls.mono (TD.out _) ?_); rintro e w' ⟨rfl, hw'⟩; obtain rfl := hw'.symm)
      | fail)
    go_ret2
    refine ⟨by rw [show ([] : List UInt8).isEmpty = true from rfl]; simp, by (repeat (first | (with_reducible exact Below.refl _ _) | (with_reducible assumption) | (with_reducible refine Below.drew ?_) | (focus ((with_reducible refine Below.setCell ?_ ?_ _); rotate_left; (first | omega | (simp <;> omega)))) | (focus ((with_reducible refine Below.alloc ?_ ?_ _); rotate_left; (first | omega | (simp <;> omega)))) | exact Below.refl _ _ | assumption | refine Below.drew ?_ | refine Below.alloc ?_ (by first | omega | (simp <;> omega)) _ | refine Below.setCell ?_ (by first | omega | (simp <;> omega)) _))⟩
  | false =>
    go_wp2_with (first
      | (go_at_call 47; refine Calls.mono (QU.out _) ?_; rintro e w' ⟨rfl, hw'⟩; obtain rfl := hw'.symm)
      | (go_at_call 22; (with_reducible refine Calls.mono (TN.out _) ?_); rintro e w' ⟨rfl, hw'⟩; obtain rfl := hw'.symm)
      | fail)
    go_ret2
    refine ⟨by simp, by (repeat (first | (with_reducible exact Below.refl _ _) | (with_reducible assumption) | (with_reducible refine Below.drew ?_) | (focus ((with_reducible refine Below.setCell ?_ ?_ _); rotate_left; (first | omega | (simp <;> omega)))) | (focus ((with_reducible refine Below.alloc ?_ ?_ _); rotate_left; (first | omega | (simp <;> omega)))) | exact Below.refl _ _ | assumption | refine Below.drew ?_ | refine Below.alloc ?_ (by first | omega | (simp <;> omega)) _ | refine Below.setCell ?_ (by first | omega | (simp <;> omega)) _))⟩
theorem surWrite (x : Wrd) (hn : x.1.length ≤ 400) (hv : x.2.1.length ≤ 400) (hd : x.2.2.length ≤ 400) (w : World) :
    Calls Tryz.prog 25 #[.agg #[.string (S x.1), .string (S x.2.1), .string (S x.2.2)]] w fun e w' => (∃ s, e = .returned (.tuple #[.string (S s), .bool (mayB x)]) ∧ (mayB x = true → s = writeL x)) ∧ Below w.heap.size w w' := by
  obtain ⟨n, v, d⟩ := x
  simp only at hn hv hd ⊢
  unfold mayB
  simp only
  cases hc : v.any ctlB with
  | true => exact (surWrite_bad n v d hn hv hd hc w).mono fun e w' ⟨h1, h2⟩ => ⟨⟨[], h1.trans (by simp), by simp⟩, h2⟩
  | false =>
    simp only [Bool.not_false, Bool.true_and]
    match v, d, hv, hd, hc with
    | [], [], hv, hd, hc => exact (surWrite_NN n [] [] hn w).mono fun e w' ⟨h1, h2⟩ => ⟨⟨_, h1, fun _ => rfl⟩, h2⟩
    | [], a :: t, hv, hd, hc => exact (surWrite_ND n [] (a :: t) hn hd rfl w).mono fun e w' ⟨h1, h2⟩ => ⟨⟨_, h1, fun _ => rfl⟩, h2⟩
    | a :: t, [], hv, hd, hc => exact (surWrite_VN n (a :: t) [] hn hv rfl hc w).mono fun e w' ⟨h1, h2⟩ => ⟨⟨_, h1, fun _ => rfl⟩, h2⟩
    | a :: t, b :: u, hv, hd, hc => exact (surWrite_VD n (a :: t) (b :: u) hn hv rfl hc hd rfl w).mono fun e w' ⟨h1, h2⟩ => ⟨⟨_, h1, fun _ => rfl⟩, h2⟩
end Go.Proofs.YtcfihoniocamaaaGreatDoor
