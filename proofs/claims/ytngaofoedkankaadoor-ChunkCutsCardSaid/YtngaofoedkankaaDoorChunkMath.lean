/- Bodies in chunks: plain words. -/
import Derived.Test.YtngaofoedkankaaDoorNumRead
import Derived.Test.YtngaofoedkankaaDoorCutOne
import Derived.Test.YtngaofoedkankaaDoorTrimMath
namespace Go.Proofs.YtngaofoedkankaaDoor
set_option linter.unusedVariables false
set_option linter.unusedSimpArgs false

/-- What was read so far: the stage, the line, how much is left, how much there was. -/
structure Ck where
  st : Nat
  ln : List UInt8
  lf : Nat
  sz : Nat
/-- Which may be. -/
structure Ck.Ok (c : Ck) : Prop where
  st : c.st ≤ 4
  sz : c.sz ≤ 20000
  ln : c.ln.length ≤ 200
  no : (10 : UInt8) ∉ c.ln
  data : c.st = 1 → 1 ≤ c.lf ∧ c.lf + c.sz ≤ 20000 ∧ c.ln = []
  lf : c.st ≠ 1 → c.lf = 0
  done : c.st = 4 → c.ln = []
def bareC (l : List UInt8) : List UInt8 := Lib.trimSuffix l [13]
/-- A size's line. -/
def sizeR (l : List UInt8) : Nat × Nat := readN hexV 16 (trim (cut1 l 59).1)
/-- What a whole line makes of it (or an error). -/
def lineC (c : Ck) (l : List UInt8) : Nat ⊕ Ck :=
  if c.st = 2 then (if l = [] then .inr { c with st := 0 } else .inl 33)
  else if c.st = 3 then (if l = [] then .inr { c with st := 4 } else .inr c)
  else if (sizeR l).2 = 10 then .inl 33
  else if (sizeR l).2 ≠ 0 ∨ 20000 - c.sz < (sizeR l).1 then .inl 2
  else if (sizeR l).1 = 0 then .inr { c with st := 3 }
  else .inr { c with st := 1, lf := (sizeR l).1 }
/-- What one byte makes of it: an error, or the next state and the data. -/
def byteC (c : Ck) (b : UInt8) : Nat ⊕ (Ck × List UInt8) :=
  if c.st = 1 then .inr ({ c with sz := c.sz + 1, lf := c.lf - 1, st := if c.lf = 1 then 2 else 1 }, [b])
  else if b = 10 then (match lineC { c with ln := [] } (bareC c.ln) with | .inl e => .inl e | .inr c' => .inr (c', []))
  else if 200 ≤ c.ln.length then .inl 33
  else .inr ({ c with ln := c.ln ++ [b] }, [])
/-- An answer behind n more bytes and d more data. -/
def thenC (d : List UInt8) (n : Nat) : Nat ⊕ (Ck × List UInt8 × Nat) → Nat ⊕ (Ck × List UInt8 × Nat)
  | .inl e => .inl e
  | .inr (c, d', n') => .inr (c, d ++ d', n + n')
def runC : Ck → List UInt8 → Nat ⊕ (Ck × List UInt8 × Nat)
  | c, [] => .inr (c, [], 0)
  | c, b :: t => if c.st = 4 then .inr (c, [], 0) else match byteC c b with
    | .inl e => .inl e
    | .inr (c', d) => thenC d 1 (runC c' t)

theorem thenC_nil (r : Nat ⊕ (Ck × List UInt8 × Nat)) : thenC [] 0 r = r := by
  rcases r with e | ⟨c, d, n⟩ <;> simp [thenC]
theorem thenC_thenC (d d' : List UInt8) (n n' : Nat) (r : Nat ⊕ (Ck × List UInt8 × Nat)) : thenC d n (thenC d' n' r) = thenC (d ++ d') (n + n') r := by
  rcases r with e | ⟨c, x, k⟩ <;> simp [thenC, Nat.add_assoc]
theorem run_nil (c : Ck) : runC c [] = .inr (c, [], 0) := rfl
theorem run_done {c : Ck} (h : c.st = 4) (t : List UInt8) : runC c t = .inr (c, [], 0) := by
  cases t with
  | nil => rfl
  | cons b t => unfold runC; rw [if_pos h]
theorem run_cons {c : Ck} (h : c.st ≠ 4) (b : UInt8) (t : List UInt8) : runC c (b :: t) = match byteC c b with | .inl e => .inl e | .inr (c', d) => thenC d 1 (runC c' t) := by
  conv => lhs; unfold runC
  rw [if_neg h]
theorem run_append (a : List UInt8) : ∀ (c : Ck) (b : List UInt8), runC c (a ++ b) = match runC c a with
    | .inl e => .inl e
    | .inr (c', d, n) => if c'.st = 4 then .inr (c', d, n) else thenC d n (runC c' b) := by
  induction a with
  | nil =>
    intro c b
    rw [List.nil_append, run_nil]
    by_cases h : c.st = 4
    · simp only [if_pos h]; exact run_done h b
    · simp only [if_neg h]; exact (thenC_nil _).symm
  | cons x a ih =>
    intro c b
    by_cases h : c.st = 4
    · rw [run_done h, run_done h]; simp only [if_pos h]
    · rw [List.cons_append, run_cons h, run_cons h]
      cases hb : byteC c x with
      | inl e => rfl
      | inr p =>
        obtain ⟨c', d⟩ := p
        simp only
        rw [ih]
        cases hr : runC c' a with
        | inl e => rfl
        | inr q =>
          obtain ⟨c2, d2, n2⟩ := q
          simp only [thenC]
          by_cases h2 : c2.st = 4
          · rw [if_pos h2, if_pos h2]
          · rw [if_neg h2, if_neg h2]; exact thenC_thenC _ _ _ _ _
theorem run_len (a : List UInt8) : ∀ (c c' : Ck) (d : List UInt8) (n : Nat), runC c a = .inr (c', d, n) → n ≤ a.length ∧ (c'.st ≠ 4 → n = a.length) := by
  induction a with
  | nil =>
    intro c c' d n h
    rw [run_nil] at h
    injection h with h
    injection h with h1 h2
    injection h2 with h2 h3
    subst h3
    simp
  | cons x a ih =>
    intro c c' d n h
    by_cases hc : c.st = 4
    · rw [run_done hc] at h
      injection h with h
      injection h with h1 h2
      injection h2 with h2 h3
      subst h3; subst h1
      exact ⟨Nat.zero_le _, fun h => absurd hc h⟩
    · rw [run_cons hc] at h
      cases hb : byteC c x with
      | inl e => rw [hb] at h; cases h
      | inr p =>
        obtain ⟨c1, d1⟩ := p
        rw [hb] at h
        simp only at h
        cases hr : runC c1 a with
        | inl e => rw [hr] at h; cases h
        | inr q =>
          obtain ⟨c2, d2, n2⟩ := q
          rw [hr] at h
          injection h with h
          injection h with h1 h2
          injection h2 with h2 h3
          obtain ⟨i1, i2⟩ := ih _ _ _ _ hr
          subst h1
          subst h3
          exact ⟨by simp; omega, fun h => by rw [i2 h]; simp; omega⟩
/-- Data, as much as is left or less. -/
theorem run_data (d : List UInt8) : ∀ (c : Ck) (r : List UInt8), c.st = 1 → d.length < c.lf → runC c (d ++ r) = thenC d d.length (runC { c with lf := c.lf - d.length, sz := c.sz + d.length } r) := by
  induction d with
  | nil => intro c r h1 h2; rw [List.nil_append]; simp only [List.length_nil, Nat.sub_zero, Nat.add_zero]; exact (thenC_nil _).symm
  | cons x d ih =>
    intro c r h1 h2
    simp only [List.length_cons] at h2
    rw [List.cons_append, run_cons (by omega)]
    have hb : byteC c x = .inr ({ c with sz := c.sz + 1, lf := c.lf - 1 }, [x]) := by
      unfold byteC
      rw [if_pos h1, if_neg (by omega)]
      congr 3
      exact h1.symm
    rw [hb]
    simp only
    rw [ih _ _ (show ({ c with sz := c.sz + 1, lf := c.lf - 1 } : Ck).st = 1 from h1) (by show d.length < c.lf - 1; omega), thenC_thenC]
    simp only [List.length_cons, List.singleton_append]
    rw [show 1 + d.length = d.length + 1 by omega]
    congr 3
    · omega
    · omega
theorem run_data_all (d : List UInt8) (c : Ck) (r : List UInt8) (h1 : c.st = 1) (h2 : d.length = c.lf) (h3 : d ≠ []) : runC c (d ++ r) = thenC d d.length (runC { c with st := 2, lf := 0, sz := c.sz + d.length } r) := by
  obtain ⟨a, x, rfl⟩ : ∃ a x, d = a ++ [x] := ⟨d.dropLast, d.getLast h3, (List.dropLast_concat_getLast h3).symm⟩
  simp only [List.length_append, List.length_cons, List.length_nil, Nat.zero_add] at h2 ⊢
  rw [List.append_assoc, run_data a c _ h1 (by omega), List.singleton_append, run_cons (by show c.st ≠ 4; omega)]
  have hb : byteC { c with lf := c.lf - a.length, sz := c.sz + a.length } x = .inr ({ c with st := 2, lf := 0, sz := c.sz + (a.length + 1) }, [x]) := by
    unfold byteC
    rw [if_pos h1, if_pos (by show c.lf - a.length = 1; omega)]
    congr 3
    show c.lf - a.length - 1 = 0
    omega
  rw [hb]
  simp only
  rw [thenC_thenC]
/-- Bytes of a line. -/
theorem run_part (p : List UInt8) : ∀ (c : Ck) (r : List UInt8), c.st ≠ 1 → c.st ≠ 4 → (10 : UInt8) ∉ p → c.ln.length + p.length ≤ 200 → runC c (p ++ r) = thenC [] p.length (runC { c with ln := c.ln ++ p } r) := by
  induction p with
  | nil => intro c r h1 h4 hn hl; rw [List.nil_append, List.append_nil]; exact (thenC_nil _).symm
  | cons x p ih =>
    intro c r h1 h4 hn hl
    simp only [List.length_cons] at hl
    have hx : x ≠ 10 := fun e => hn (by rw [e]; exact List.mem_cons_self ..)
    have hp : (10 : UInt8) ∉ p := fun h => hn (List.mem_cons_of_mem _ h)
    rw [List.cons_append, run_cons h4]
    have hb : byteC c x = .inr ({ c with ln := c.ln ++ [x] }, []) := by
      unfold byteC
      rw [if_neg h1, if_neg hx, if_neg (by omega)]
    rw [hb]
    simp only
    rw [ih _ _ (show ({ c with ln := c.ln ++ [x] } : Ck).st ≠ 1 from h1) h4 hp (by simp only [List.length_append, List.length_cons, List.length_nil]; omega), thenC_thenC]
    simp only [List.append_assoc, List.singleton_append, List.nil_append, List.length_cons]
    rw [Nat.add_comm]
theorem run_part_long (p : List UInt8) : ∀ (c : Ck) (r : List UInt8), c.st ≠ 1 → c.st ≠ 4 → (10 : UInt8) ∉ p → c.ln.length ≤ 200 → 200 < c.ln.length + p.length → runC c (p ++ r) = .inl 33 := by
  induction p with
  | nil => intro c r h1 h4 hn hc hl; simp only [List.length_nil] at hl; omega
  | cons x p ih =>
    intro c r h1 h4 hn hc hl
    simp only [List.length_cons] at hl
    have hx : x ≠ 10 := fun e => hn (by rw [e]; exact List.mem_cons_self ..)
    have hp : (10 : UInt8) ∉ p := fun h => hn (List.mem_cons_of_mem _ h)
    rw [List.cons_append, run_cons h4]
    by_cases h200 : 200 ≤ c.ln.length
    · have hb : byteC c x = .inl 33 := by
        unfold byteC
        rw [if_neg h1, if_neg hx, if_pos h200]
      rw [hb]
    · have hb : byteC c x = .inr ({ c with ln := c.ln ++ [x] }, []) := by
        unfold byteC
        rw [if_neg h1, if_neg hx, if_neg h200]
      rw [hb]
      simp only
      rw [ih _ _ (show ({ c with ln := c.ln ++ [x] } : Ck).st ≠ 1 from h1) h4 hp (by simp only [List.length_append, List.length_cons, List.length_nil]; omega) (by simp only [List.length_append, List.length_cons, List.length_nil]; omega)]
      rfl
theorem run_line {c : Ck} (h1 : c.st ≠ 1) (h4 : c.st ≠ 4) (r : List UInt8) : runC c (10 :: r) = match lineC { c with ln := [] } (bareC c.ln) with | .inl e => .inl e | .inr c' => thenC [] 1 (runC c' r) := by
  rw [run_cons h4]
  unfold byteC
  rw [if_neg h1, if_pos rfl]
  cases lineC { c with ln := [] } (bareC c.ln) with
  | inl e => rfl
  | inr c' => rfl
/-- A whole line that began before. -/
theorem run_whole {c : Ck} (h1 : c.st ≠ 1) (h4 : c.st ≠ 4) (p : List UInt8) (hp : (10 : UInt8) ∉ p) (hl : c.ln.length + p.length ≤ 200) (r : List UInt8) :
    runC c (p ++ 10 :: r) = match lineC { c with ln := [] } (bareC (c.ln ++ p)) with | .inl e => .inl e | .inr c' => thenC [] (p.length + 1) (runC c' r) := by
  rw [run_part p c _ h1 h4 hp hl, run_line (c := { c with ln := c.ln ++ p }) h1 h4]
  cases lineC { c with ln := [] } (bareC (c.ln ++ p)) with
  | inl e => rfl
  | inr c' => simp only; rw [thenC_thenC]; rfl

theorem trimC_le (l : List UInt8) : (trim l).length ≤ l.length := by
  unfold trim trimL trimR
  refine Nat.le_trans (List.dropWhile_sublist _).length_le ?_
  rw [List.length_reverse]
  refine Nat.le_trans (List.dropWhile_sublist _).length_le ?_
  rw [List.length_reverse]
  exact Nat.le_refl _

/-! What may be stays so. -/
theorem sizeR_le (l : List UInt8) : (sizeR l).1 ≤ 1099511627776 := by
  unfold sizeR readN
  split
  · exact Nat.zero_le _
  · split
    · exact Nat.zero_le _
    · show valN _ _ _ ≤ _; omega
theorem line_ok {c c' : Ck} {l : List UInt8} (h : c.Ok) (hn : c.ln = []) (h1 : c.st ≠ 1) (h4 : c.st ≠ 4) (hl : lineC c l = .inr c') : c'.Ok := by
  have hlf := h.lf h1
  have hs := h.sz
  have hst := h.st
  unfold lineC at hl
  split at hl
  · split at hl
    · injection hl with hl; subst hl
      exact ⟨by simp, hs, h.ln, h.no, (fun e => by simp at e), (fun _ => hlf), (fun e => by simp at e)⟩
    · cases hl
  · split at hl
    · split at hl
      · injection hl with hl; subst hl
        exact ⟨by simp, hs, h.ln, h.no, (fun e => by simp at e), (fun _ => hlf), (fun _ => hn)⟩
      · injection hl with hl; subst hl; exact h
    · split at hl
      · cases hl
      · split at hl
        · cases hl
        · split at hl
          · injection hl with hl; subst hl
            exact ⟨by simp, hs, h.ln, h.no, (fun e => by simp at e), (fun _ => hlf), (fun e => by simp at e)⟩
          · rename_i h5 h6
            injection hl with hl; subst hl
            exact ⟨by simp, hs, h.ln, h.no, (fun _ => ⟨by show 1 ≤ (sizeR l).1; omega, by show (sizeR l).1 + c.sz ≤ 20000; omega, hn⟩), (fun e => by simp at e), (fun e => by simp at e)⟩
theorem Ck.Ok.bare {c : Ck} (h : c.Ok) (h1 : c.st ≠ 1) : ({ c with ln := [] } : Ck).Ok := ⟨h.st, h.sz, by simp, by simp, fun e => absurd e h1, h.lf, fun _ => rfl⟩
theorem byte_ok {c c' : Ck} {b : UInt8} {d : List UInt8} (h : c.Ok) (h4 : c.st ≠ 4) (hb : byteC c b = .inr (c', d)) : c'.Ok := by
  unfold byteC at hb
  split at hb
  · rename_i h1
    obtain ⟨d1, d2, d3⟩ := h.data h1
    injection hb with hb
    injection hb with hb _
    subst hb
    refine ⟨?_, ?_, h.ln, h.no, ?_, ?_, ?_⟩
    · show (if c.lf = 1 then 2 else 1) ≤ 4; split <;> omega
    · show c.sz + 1 ≤ 20000; omega
    · intro e
      have e : (if c.lf = 1 then 2 else 1) = 1 := e
      refine ⟨?_, ?_, d3⟩
      · show 1 ≤ c.lf - 1; split at e <;> omega
      · show c.lf - 1 + (c.sz + 1) ≤ 20000; omega
    · intro e
      have e : (if c.lf = 1 then 2 else 1) ≠ 1 := e
      show c.lf - 1 = 0
      split at e <;> omega
    · exact fun _ => d3
  · rename_i h1
    split at hb
    · cases hl : lineC { c with ln := [] } (bareC c.ln) with
      | inl e => rw [hl] at hb; cases hb
      | inr c2 =>
        rw [hl] at hb
        injection hb with hb
        injection hb with hb _
        subst hb
        exact line_ok (h.bare h1) rfl h1 h4 hl
    · rename_i h10
      split at hb
      · cases hb
      · rename_i h200
        injection hb with hb
        injection hb with hb _
        subst hb
        refine ⟨h.st, h.sz, ?_, ?_, fun e => absurd e h1, h.lf, fun e => absurd e h4⟩
        · show (c.ln ++ [b]).length ≤ 200
          simp only [List.length_append, List.length_cons, List.length_nil]; omega
        · show (10 : UInt8) ∉ c.ln ++ [b]
          intro hm
          rcases List.mem_append.1 hm with hm | hm
          · exact h.no hm
          · exact h10 (List.mem_singleton.1 hm).symm
theorem run_ok (a : List UInt8) : ∀ (c c' : Ck) (d : List UInt8) (n : Nat), c.Ok → runC c a = .inr (c', d, n) → c'.Ok := by
  induction a with
  | nil =>
    intro c c' d n h hr
    rw [run_nil] at hr
    injection hr with hr
    injection hr with hr _
    subst hr; exact h
  | cons x a ih =>
    intro c c' d n h hr
    by_cases hc : c.st = 4
    · rw [run_done hc] at hr
      injection hr with hr
      injection hr with hr _
      subst hr; exact h
    · rw [run_cons hc] at hr
      cases hb : byteC c x with
      | inl e => rw [hb] at hr; cases hr
      | inr p =>
        obtain ⟨c1, d1⟩ := p
        rw [hb] at hr
        simp only at hr
        cases hr2 : runC c1 a with
        | inl e => rw [hr2] at hr; cases hr
        | inr q =>
          obtain ⟨c2, d2, n2⟩ := q
          rw [hr2] at hr
          injection hr with hr
          injection hr with hr _
          subst hr
          exact ih _ _ _ _ (byte_ok h hc hb) hr2
/-- How the errors are told. -/
theorem line_err {c : Ck} {l : List UInt8} {e : Nat} (h : lineC c l = .inl e) : e = 33 ∨ e = 2 := by
  unfold lineC at h
  repeat (first | (injection h with h; omega) | cases h | split at h)
end Go.Proofs.YtngaofoedkankaaDoor
