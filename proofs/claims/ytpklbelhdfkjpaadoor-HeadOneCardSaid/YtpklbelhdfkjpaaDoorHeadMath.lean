/- Heads: their lines and fields, in plain words. -/
import Derived.Test.YtpklbelhdfkjpaaDoorTableMath
import Derived.Test.YtpklbelhdfkjpaaDoorCutOne
namespace Go.Proofs.YtpklbelhdfkjpaaDoor
set_option linter.unusedVariables false

/-- A line without a byte 13 at its end. -/
def bare (l : List UInt8) : List UInt8 := Lib.trimSuffix l [13]
/-- A text's lines, and where each one's end stands behind; n bytes stand ahead, cur of the line has come. -/
def linesG (n : Nat) (cur : List UInt8) : List UInt8 → List (List UInt8 × Nat)
  | [] => []
  | c :: t => if c = 10 then (bare cur, n + 1) :: linesG (n + 1) [] t else linesG (n + 1) (cur ++ [c]) t
theorem linesG_none (t : List UInt8) : ∀ (n : Nat) (cur : List UInt8), (10 : UInt8) ∉ t → linesG n cur t = [] := by
  induction t with
  | nil => intros; rfl
  | cons c t ih =>
    intro n cur h
    unfold linesG
    rw [if_neg (by rintro rfl; exact h (by simp))]
    exact ih _ _ (fun hm => h (by simp [hm]))
theorem linesG_app (a : List UInt8) : ∀ (n : Nat) (cur t : List UInt8), (10 : UInt8) ∉ a → linesG n cur (a ++ 10 :: t) = (bare (cur ++ a), n + a.length + 1) :: linesG (n + a.length + 1) [] t := by
  induction a with
  | nil => intro n cur t _; simp [linesG]
  | cons c a ih =>
    intro n cur t h
    rw [List.cons_append]
    conv => lhs; unfold linesG
    rw [if_neg (by rintro rfl; exact h (by simp)), ih _ _ _ (fun hm => h (by simp [hm]))]
    simp only [List.append_assoc, List.cons_append, List.nil_append, List.length_cons]
    rw [show n + 1 + a.length + 1 = n + (a.length + 1) + 1 by omega]
theorem idx10_none {t : List UInt8} (h : Lib.indexByte t 10 = -1) : (10 : UInt8) ∉ t := by
  intro hm
  obtain ⟨i, hi, hi2⟩ := List.getElem_of_mem hm
  exact Lib.indexByte_none h i (by rw [List.getElem?_eq_getElem hi, hi2])
theorem idx10_parts {t : List UInt8} {i : Nat} (h : Lib.indexByte t 10 = i) : i < t.length ∧ t = t.take i ++ 10 :: t.drop (i + 1) ∧ (10 : UInt8) ∉ t.take i := by
  obtain ⟨h1, h2⟩ := Lib.indexByte_some h
  obtain ⟨hi, e⟩ := List.getElem?_eq_some_iff.1 h1
  refine ⟨hi, ?_, fun hm => ?_⟩
  · conv => lhs; rw [← List.take_append_drop i t]
    rw [List.drop_eq_getElem_cons hi, e]
  · obtain ⟨k, hk, hk2⟩ := List.getElem_of_mem hm
    rw [List.length_take] at hk
    rw [List.getElem_take] at hk2
    exact h2 k (by omega) (by rw [List.getElem?_eq_getElem (by omega), hk2])
theorem linesG_some {t : List UInt8} {i : Nat} (h : Lib.indexByte t 10 = i) (n : Nat) (cur : List UInt8) : linesG n cur t = (bare (cur ++ t.take i), n + i + 1) :: linesG (n + i + 1) [] (t.drop (i + 1)) := by
  obtain ⟨h1, h2, h3⟩ := idx10_parts h
  conv => lhs; rw [h2, linesG_app _ _ _ _ h3]
  rw [List.length_take, Nat.min_eq_left (by omega)]
theorem bare_len (l : List UInt8) : (bare l).length ≤ l.length := by
  unfold bare Lib.trimSuffix; split <;> simp

abbrev Fl := List UInt8 × List UInt8
/-- A line's field. -/
def fieldOf (l : List UInt8) : Fl := ((cut1 l 58).1, trim (cut1 l 58).2.1)
/-- What a line answers, behind these fields. -/
def stepH (out : List Fl) (l : List UInt8) : Int := if (cut1 l 58).2.2 = true ∧ mayL (fieldOf l) = true then (if out.length < 40 then 0 else 4) else 31
def parseH : List Fl → List (List UInt8) → List Fl × Int
  | out, [] => (out, 0)
  | out, x :: r => if stepH out x = 0 then parseH (out ++ [fieldOf x]) r else ([], stepH out x)
/-- What any bytes are as a head. -/
def headParse (s : List UInt8) : List Fl × Int :=
  if 4000 < s.length then ([], 2)
  else if s ≠ [] ∧ s.getLast? ≠ some 10 then ([], 31)
  else parseH [] ((linesG 0 [] s).map Prod.fst)
def writeE (e : List UInt8) (L : List Fl) : List UInt8 := L.flatMap fun f => f.1 ++ ([58, 32] ++ (f.2 ++ e))
def headPrint (L : List Fl) : List UInt8 × Int :=
  if rightL L = true then (if 4000 < (writeE [13, 10] L).length then ([], 2) else (writeE [13, 10] L, 0)) else ([], 1)
def endH (len : Nat) : List (List UInt8 × Nat) → Nat × Int
  | [] => if 4000 < len then (0, 2) else (0, 3)
  | x :: r => if 4000 < x.2 then (0, 2) else if x.1 = [] then (x.2, 0) else endH len r
/-- Where a head ends. -/
def headEnd (s : List UInt8) : Nat × Int := endH s.length (linesG 0 [] s)

theorem parseH_cons (out : List Fl) (x : List UInt8) (r : List (List UInt8)) : parseH out (x :: r) = if stepH out x = 0 then parseH (out ++ [fieldOf x]) r else ([], stepH out x) := rfl
/-- The lines that have come say what all give: none has been refused. -/
theorem parseH_snoc (xs : List (List UInt8)) : ∀ (L : List Fl) (x : List UInt8) (r : List (List UInt8)), (parseH L (xs ++ x :: r)) = (if (parseH L xs).2 = 0 then parseH (parseH L xs).1 (x :: r) else parseH L xs) := by
  induction xs with
  | nil => intro L x r; rw [List.nil_append]; exact (if_pos (rfl : (parseH L []).2 = 0)).symm
  | cons y xs ih =>
    intro L x r
    rw [List.cons_append, parseH_cons L y, parseH_cons L y]
    by_cases h : stepH L y = 0
    · rw [if_pos h, if_pos h, ih]
    · rw [if_neg h, if_neg h, if_neg h]
theorem right_nil : rightL ([] : List Fl) = true := by decide
theorem right_snoc {out : List Fl} {f : Fl} (h : rightL out = true) (hf : mayL f = true) (hl : out.length < 40) : rightL (out ++ [f]) = true := by
  unfold rightL at *
  simp only [Bool.and_eq_true, decide_eq_true_eq, List.all_append] at *
  exact ⟨by simp; omega, h.2, by simp [hf]⟩
theorem step_ok {out : List Fl} {l : List UInt8} (h : stepH out l = 0) : (cut1 l 58).2.2 = true ∧ mayL (fieldOf l) = true ∧ out.length < 40 := by
  unfold stepH at h
  split at h
  · rename_i h1
    split at h
    · exact ⟨h1.1, h1.2, by assumption⟩
    · cases h
  · cases h
theorem parseH_right (xs : List (List UInt8)) : ∀ (out : List Fl), rightL out = true → ((parseH out xs).2 = 0 → rightL (parseH out xs).1 = true) ∧ ((parseH out xs).2 ≠ 0 → (parseH out xs).1 = []) := by
  induction xs with
  | nil => intro out h; exact ⟨fun _ => h, fun hn => absurd rfl hn⟩
  | cons x xs ih =>
    intro out h
    unfold parseH
    by_cases h0 : stepH out x = 0
    · rw [if_pos h0]
      obtain ⟨h1, h2, h3⟩ := step_ok h0
      exact ih _ (right_snoc h h2 h3)
    · rw [if_neg h0]
      exact ⟨fun e => absurd e h0, fun _ => rfl⟩
theorem headParse_right (s : List UInt8) : ((headParse s).2 = 0 → rightL (headParse s).1 = true) ∧ ((headParse s).2 ≠ 0 → (headParse s).1 = []) := by
  unfold headParse
  split
  · exact ⟨fun h => absurd h (by decide), fun _ => rfl⟩
  · split
    · exact ⟨fun h => absurd h (by decide), fun _ => rfl⟩
    · exact parseH_right _ _ right_nil

/-! What is written is read again. -/
theorem may_parts {f : Fl} (h : mayL f = true) : tokenL f.1 = true ∧ trim f.2 = f.2 ∧ f.2.length ≤ 1000 ∧ ∀ c ∈ f.2, ctlB c = false := by
  unfold mayL at h
  simp only [Bool.and_eq_true, beq_iff_eq, decide_eq_true_eq, Bool.not_eq_true', List.any_eq_false] at h
  exact ⟨h.1.1.1, h.1.1.2, h.1.2, fun c hc => by simpa using h.2 c hc⟩
theorem ctl_facts (c : UInt8) (h : ctlB c = false) : c ≠ 10 ∧ c ≠ 13 := by
  constructor <;> (rintro rfl; exact absurd h (by decide))
theorem word_facts (c : UInt8) (h : wordB c = true) : c ≠ 10 ∧ c ≠ 13 ∧ c ≠ 58 := by
  refine ⟨?_, ?_, ?_⟩ <;> (rintro rfl; exact absurd h (by decide))
def lineOf (f : Fl) : List UInt8 := f.1 ++ ([58, 32] ++ f.2)
theorem line_bytes {f : Fl} (h : mayL f = true) : (10 : UInt8) ∉ lineOf f ∧ (13 : UInt8) ∉ lineOf f ∧ lineOf f ≠ [] := by
  obtain ⟨h1, h2, h3, h4⟩ := may_parts h
  unfold tokenL at h1
  simp only [Bool.and_eq_true, List.all_eq_true] at h1
  unfold lineOf
  refine ⟨?_, ?_, by simp⟩
  · intro hm
    rcases List.mem_append.1 hm with hm | hm
    · exact (word_facts _ (h1.2 _ hm)).1 rfl
    · rcases List.mem_append.1 hm with hm | hm
      · exact absurd hm (by decide)
      · exact (ctl_facts _ (h4 _ hm)).1 rfl
  · intro hm
    rcases List.mem_append.1 hm with hm | hm
    · exact (word_facts _ (h1.2 _ hm)).2.1 rfl
    · rcases List.mem_append.1 hm with hm | hm
      · exact absurd hm (by decide)
      · exact (ctl_facts _ (h4 _ hm)).2 rfl
theorem suffix13 (x : List UInt8) : Lib.hasSuffix x [13] = true ↔ x.getLast? = some 13 := by
  unfold Lib.hasSuffix
  rw [List.isSuffixOf_iff_suffix, List.getLast?_eq_some_iff]
  constructor
  · rintro ⟨t, h⟩; exact ⟨t, h.symm⟩
  · rintro ⟨t, h⟩; exact ⟨t, h.symm⟩
theorem bare_same {l : List UInt8} (h : (13 : UInt8) ∉ l) : bare l = l := by
  unfold bare Lib.trimSuffix
  rw [if_neg]
  intro e
  exact h (List.mem_of_getLast? ((suffix13 l).1 e))
theorem bare_cut (l : List UInt8) : bare (l ++ [13]) = l := by
  unfold bare Lib.trimSuffix
  rw [if_pos ((suffix13 _).2 (by simp))]
  simp
theorem trim_blank (l : List UInt8) : trim (32 :: l) = trim l := by
  show trimL (trimR (32 :: l)) = trimL (trimR l)
  rw [← trim_swap, ← trim_swap, trimL_blank (by decide)]
theorem idx58 (a r : List UInt8) (h : (58 : UInt8) ∉ a) : Lib.indexByte (a ++ 58 :: r) 58 = a.length := by
  have h0 := Lib.indexByte_ge (a ++ 58 :: r) 58
  have hne : Lib.indexByte (a ++ 58 :: r) 58 ≠ -1 := fun e => Lib.indexByte_none e a.length (by simp)
  obtain ⟨i, hi⟩ : ∃ i : Nat, Lib.indexByte (a ++ 58 :: r) 58 = i := ⟨(Lib.indexByte (a ++ 58 :: r) 58).toNat, by omega⟩
  obtain ⟨h1, h2⟩ := Lib.indexByte_some hi
  rw [hi]
  rcases Nat.lt_trichotomy i a.length with h3 | h3 | h3
  · rw [List.getElem?_append_left h3] at h1
    exact absurd (List.mem_of_getElem? h1) h
  · rw [h3]
  · exact absurd (by simp) (h2 a.length h3)
theorem field_line {f : Fl} (h : mayL f = true) : (cut1 (lineOf f) 58).2.2 = true ∧ fieldOf (lineOf f) = f := by
  obtain ⟨h1, h2, h3, h4⟩ := may_parts h
  have hno : (58 : UInt8) ∉ f.1 := by
    unfold tokenL at h1
    simp only [Bool.and_eq_true, List.all_eq_true] at h1
    exact fun hm => (word_facts _ (h1.2 _ hm)).2.2 rfl
  have hidx : Lib.indexByte (lineOf f) 58 = f.1.length := idx58 f.1 (32 :: f.2) hno
  have hc : cut1 (lineOf f) 58 = (f.1, 32 :: f.2, true) := by
    unfold cut1
    rw [hidx, if_pos (by omega), Int.toNat_natCast]
    unfold lineOf
    rw [List.take_left, List.drop_append]
    simp
  refine ⟨by rw [hc], ?_⟩
  unfold fieldOf
  rw [hc]
  show (f.1, trim (32 :: f.2)) = f
  rw [trim_blank, h2]
theorem step_line {out : List Fl} {f : Fl} (h : mayL f = true) (hl : out.length < 40) : stepH out (lineOf f) = 0 := by
  obtain ⟨h1, h2⟩ := field_line h
  unfold stepH
  rw [h1, h2, h, if_pos ⟨rfl, rfl⟩, if_pos hl]
theorem parse_lines (L : List Fl) : ∀ (out : List Fl) (r : List (List UInt8)), (∀ f ∈ L, mayL f = true) → out.length + L.length ≤ 40 → parseH out (L.map lineOf ++ r) = parseH (out ++ L) r := by
  induction L with
  | nil => intro out r _ _; simp
  | cons f L ih =>
    intro out r hm hl
    rw [List.length_cons] at hl
    rw [List.map_cons, List.cons_append]
    conv => lhs; unfold parseH
    rw [if_pos (step_line (hm f (by simp)) (by omega)), (field_line (hm f (by simp))).2, ih _ _ (fun g hg => hm g (by simp [hg])) (by simp; omega)]
    simp
/-- The two ends of lines. -/
def EndB (e : List UInt8) : Prop := e = [13, 10] ∨ e = [10]
theorem writeE_cons (e : List UInt8) (f : Fl) (L : List Fl) : writeE e (f :: L) = lineOf f ++ (e ++ writeE e L) := by
  unfold writeE lineOf
  rw [List.flatMap_cons]
  simp
theorem one_line {e : List UInt8} (he : EndB e) {f : Fl} (h : mayL f = true) (n : Nat) (t : List UInt8) : linesG n [] (lineOf f ++ (e ++ t)) = (lineOf f, n + (lineOf f).length + e.length) :: linesG (n + (lineOf f).length + e.length) [] t := by
  obtain ⟨h1, h2, h3⟩ := line_bytes h
  rcases he with rfl | rfl
  · have : lineOf f ++ ([13, 10] ++ t) = (lineOf f ++ [13]) ++ 10 :: t := by simp
    rw [this, linesG_app _ _ _ _ (by simp [h1])]
    rw [List.nil_append, bare_cut, List.length_append]
    rfl
  · have : lineOf f ++ ([10] ++ t) = lineOf f ++ 10 :: t := by simp
    rw [this, linesG_app _ _ _ _ h1, List.nil_append, bare_same h2]
    rfl
theorem write_lines {e : List UInt8} (he : EndB e) (L : List Fl) : ∀ (n : Nat) (t : List UInt8), (∀ f ∈ L, mayL f = true) → (linesG n [] (writeE e L ++ t)).map Prod.fst = L.map lineOf ++ (linesG (n + (writeE e L).length) [] t).map Prod.fst := by
  induction L with
  | nil => intro n t _; simp [writeE]
  | cons f L ih =>
    intro n t hm
    rw [writeE_cons, List.append_assoc, List.append_assoc, one_line he (hm f (by simp)), List.map_cons, ih _ _ (fun g hg => hm g (by simp [hg]))]
    rw [List.length_append, List.length_append, List.map_cons, List.cons_append]
    rw [show n + (lineOf f).length + e.length + (writeE e L).length = n + ((lineOf f).length + (e.length + (writeE e L).length)) by omega]
theorem end_lines {e : List UInt8} (he : EndB e) (len : Nat) (L : List Fl) : ∀ (n : Nat) (t : List UInt8), (∀ f ∈ L, mayL f = true) → n + (writeE e L).length ≤ 4000 → endH len (linesG n [] (writeE e L ++ t)) = endH len (linesG (n + (writeE e L).length) [] t) := by
  induction L with
  | nil => intro n t _ _; simp [writeE]
  | cons f L ih =>
    intro n t hm hl
    rw [writeE_cons, List.length_append, List.length_append] at hl
    rw [writeE_cons, List.append_assoc, List.append_assoc, one_line he (hm f (by simp))]
    conv => lhs; unfold endH
    simp only
    rw [if_neg (by omega), if_neg (line_bytes (hm f (by simp))).2.2, ih _ _ (fun g hg => hm g (by simp [hg])) (by omega)]
    rw [List.length_append, List.length_append]
    rw [show n + (lineOf f).length + e.length + (writeE e L).length = n + ((lineOf f).length + (e.length + (writeE e L).length)) by omega]
theorem right_parts {L : List Fl} (h : rightL L = true) : L.length ≤ 40 ∧ ∀ f ∈ L, mayL f = true := by
  unfold rightL at h
  simp only [Bool.and_eq_true, decide_eq_true_eq, List.all_eq_true] at h
  exact h
theorem write_end {e : List UInt8} (he : EndB e) (L : List Fl) : writeE e L = [] ∨ (writeE e L).getLast? = some 10 := by
  rcases List.eq_nil_or_concat L with rfl | ⟨L, f, rfl⟩
  · left; rfl
  · right
    unfold writeE
    rw [List.concat_eq_append, List.flatMap_append]
    have h1 : ∀ e : List UInt8, e.getLast? = some 10 → (List.flatMap (fun f : Fl => f.1 ++ ([58, 32] ++ (f.2 ++ e))) [f]).getLast? = some 10 := by
      intro e h
      rw [List.flatMap_cons, List.flatMap_nil, List.append_nil, List.getLast?_append, List.getLast?_append, List.getLast?_append, h]
      rfl
    rw [List.getLast?_append, h1 e (by rcases he with rfl | rfl <;> rfl)]
    rfl
theorem last_app {a b : List UInt8} (ha : a = [] ∨ a.getLast? = some 10) (hb : b = [] ∨ b.getLast? = some 10) : ¬ (a ++ b ≠ [] ∧ (a ++ b).getLast? ≠ some 10) := by
  rintro ⟨h1, h2⟩
  apply h2
  rw [List.getLast?_append]
  rcases hb with rfl | hb
  · rcases ha with rfl | ha
    · exact absurd rfl h1
    · simp [ha]
  · simp [hb]
theorem print_ok {L : List Fl} (h : (headPrint L).2 = 0) : rightL L = true ∧ (writeE [13, 10] L).length ≤ 4000 ∧ (headPrint L).1 = writeE [13, 10] L := by
  unfold headPrint at h ⊢
  split at h
  · rename_i h1
    rw [if_pos h1]
    split at h
    · cases h
    · rename_i h2
      rw [if_neg h2]
      exact ⟨h1, by omega, rfl⟩
  · cases h
/-- Two rows' lines, one behind the other, with whatever lines of both kinds. -/
theorem parse_two {e e' : List UInt8} (he : EndB e) (he' : EndB e') {A B : List Fl} (hA : rightL A = true) (hB : rightL B = true) (h40 : A.length + B.length ≤ 40) (hl : (writeE e A ++ writeE e' B).length ≤ 4000) :
    headParse (writeE e A ++ writeE e' B) = (A ++ B, 0) := by
  have h1 := (right_parts hA).2
  have h2 := (right_parts hB).2
  unfold headParse
  rw [if_neg (by omega), if_neg (last_app (write_end he A) (write_end he' B)), write_lines he A 0 _ h1]
  have := write_lines he' B (0 + (writeE e A).length) [] h2
  rw [List.append_nil] at this
  rw [this, parse_lines A [] _ h1 (by simp; omega), parse_lines B _ _ h2 (by simp; omega)]
  simp [linesG, parseH]
/-- What is written is read again. -/
theorem head_back {L : List Fl} (h : (headPrint L).2 = 0) : headParse (headPrint L).1 = (L, 0) := by
  obtain ⟨h1, h2, h3⟩ := print_ok h
  rw [h3]
  have := parse_two (e := [13, 10]) (e' := [13, 10]) (.inl rfl) (.inl rfl) h1 right_nil (by have := (right_parts h1).1; simp; omega) (by rw [show writeE [13, 10] ([] : List Fl) = [] from rfl, List.append_nil]; exact h2)
  rw [show writeE [13, 10] ([] : List Fl) = [] from rfl, List.append_nil, List.append_nil] at this
  exact this
/-- A line that is none, behind a row's. -/
theorem parse_bad_line {L : List Fl} (h : rightL L = true) (x : List UInt8) (hx : (10 : UInt8) ∉ x) (e : List UInt8) (he : EndB e) (hbad : ∀ out, stepH out (bare (x ++ e.dropLast)) = 31) :
    (headParse (writeE [13, 10] L ++ (x ++ e))).2 = 31 ∨ (4000 < (writeE [13, 10] L ++ (x ++ e)).length ∧ (headParse (writeE [13, 10] L ++ (x ++ e))).2 = 2) := by
  obtain ⟨h1, h2⟩ := right_parts h
  by_cases hl : 4000 < (writeE [13, 10] L ++ (x ++ e)).length
  · right
    refine ⟨hl, ?_⟩
    unfold headParse
    rw [if_pos hl]
  · left
    have hxe : (x ++ e) = [] ∨ (x ++ e).getLast? = some 10 := by right; rcases he with rfl | rfl <;> simp [List.getLast?_append]
    have hlin : (linesG (0 + (writeE [13, 10] L).length) [] (x ++ e)).map Prod.fst = [bare (x ++ e.dropLast)] := by
      rcases he with rfl | rfl
      · have : x ++ [13, 10] = (x ++ [13]) ++ 10 :: [] := by simp
        rw [this, linesG_app _ _ _ _ (by simp [hx])]
        rfl
      · rw [linesG_app _ _ _ _ hx]
        simp [linesG]
    unfold headParse
    rw [if_neg hl, if_neg (last_app (write_end (.inl rfl) L) hxe), write_lines (.inl rfl) L 0 _ h2, parse_lines L [] _ h2 (by simp; omega), hlin]
    unfold parseH
    rw [if_neg (by rw [hbad]; decide), hbad]
/-- Behind fields that are written, and an empty line, the head ends. -/
theorem head_end {L : List Fl} (h : rightL L = true) (hl : (writeE [13, 10] L).length ≤ 3998) (e t : List UInt8) (he : EndB e) : headEnd (writeE [13, 10] L ++ (e ++ t)) = ((writeE [13, 10] L).length + e.length, 0) := by
  obtain ⟨h1, h2⟩ := right_parts h
  unfold headEnd
  rw [end_lines (.inl rfl) _ L 0 _ h2 (by omega), Nat.zero_add]
  have hlin : linesG (writeE [13, 10] L).length [] (e ++ t) = ([], (writeE [13, 10] L).length + e.length) :: linesG ((writeE [13, 10] L).length + e.length) [] t := by
    rcases he with rfl | rfl
    · have : [13, 10] ++ t = [13] ++ 10 :: t := by simp
      rw [this, linesG_app _ _ _ _ (by decide)]
      rfl
    · show linesG _ [] ([] ++ 10 :: t) = _
      rw [linesG_app _ _ _ _ (by simp)]
      rfl
  rw [hlin]
  unfold endH
  have hel : e.length ≤ 2 := by rcases he with rfl | rfl <;> simp
  rw [if_neg (by show ¬ 4000 < (writeE [13, 10] L).length + e.length; omega)]
  rfl
theorem head_short {L : List Fl} (h : rightL L = true) (hl : (writeE [13, 10] L).length ≤ 3998) : headEnd (writeE [13, 10] L) = (0, 3) := by
  obtain ⟨h1, h2⟩ := right_parts h
  unfold headEnd
  have := end_lines (.inl rfl) (writeE [13, 10] L).length L 0 [] h2 (by omega)
  rw [List.append_nil] at this
  rw [this]
  unfold linesG endH
  rw [if_neg (by omega)]
/-- The lines without their bytes 13. -/
theorem no13 {L : List Fl} (h : ∀ f ∈ L, mayL f = true) : (writeE [13, 10] L).filter (fun c => c != 13) = writeE [10] L := by
  induction L with
  | nil => rfl
  | cons f L ih =>
    have hl : (lineOf f).filter (fun c => c != 13) = lineOf f := List.filter_eq_self.2 fun c hc => by
      have := (line_bytes (h f (by simp))).2.1
      simp only [bne_iff_ne, ne_eq]
      rintro rfl
      exact this hc
    rw [writeE_cons, writeE_cons, List.filter_append, List.filter_append, hl, ih (fun g hg => h g (by simp [hg]))]
    rfl
theorem write_snoc (L : List Fl) (f : Fl) : writeE [13, 10] (L ++ [f]) = writeE [13, 10] L ++ (f.1 ++ ([58, 32] ++ (f.2 ++ [13, 10]))) := by
  unfold writeE
  rw [List.flatMap_append]
  simp
theorem bad_no_line (out : List Fl) : stepH out (bare ([110, 111, 32, 108, 105, 110, 101] ++ [13])) = 31 := by
  rw [bare_cut]
  rfl
theorem bad_none (out : List Fl) : stepH out (bare ([58, 32, 110, 111, 110, 101] ++ [])) = 31 := by
  rw [List.append_nil, bare_same (by decide)]
  rfl
end Go.Proofs.YtpklbelhdfkjpaaDoor
