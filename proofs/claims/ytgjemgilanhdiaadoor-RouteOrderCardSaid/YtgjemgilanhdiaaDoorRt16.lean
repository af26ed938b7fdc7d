/- Where the host ends; what stands behind it: plain words. A path that begins with a slash, cleaned: slashes with steps behind them, none of which stays or goes back; cleaned again it is the same. Plain words. -/
import Derived.Test.YtgjemgilanhdiaaDoorRt15
import Derived.Test.YtgjemgilanhdiaaDoorRt7
import Derived.Test.YtgjemgilanhdiaaDoorRt11
namespace Go.Proofs.YtgjemgilanhdiaaDoor
open Go.RowKit
set_option linter.unusedVariables false

theorem indexAny_spec (l : List UInt8) : (Lib.indexAny l [47, 63] = -1 ∧ ∀ k (hk : k < l.length), slashAsk l[k] = false) ∨ ∃ i : Nat, Lib.indexAny l [47, 63] = i ∧ ∃ hi : i < l.length, slashAsk l[i] = true ∧ ∀ k (hk : k < i), slashAsk (l[k]'(by omega)) = false := by
  induction l with
  | nil => exact .inl ⟨rfl, fun k hk => by simp at hk⟩
  | cons b l ih =>
    by_cases hb : slashAsk b = true
    · refine .inr ⟨0, ?_, by simp, hb, fun k hk => by omega⟩
      unfold Lib.indexAny
      show (if slashAsk b = true then _ else _) = _
      rw [if_pos hb]; rfl
    · have hb2 : slashAsk b = false := by simpa using hb
      rcases ih with ⟨h1, h2⟩ | ⟨i, h1, hi, h2, h3⟩
      · refine .inl ⟨?_, fun k hk => ?_⟩
        · unfold Lib.indexAny
          show (if slashAsk b = true then _ else _) = _
          rw [if_neg hb, if_pos (by rw [h1]; rfl)]
        · cases k with
          | zero => exact hb2
          | succ k => exact h2 k (by simpa using hk)
      · refine .inr ⟨i + 1, ?_, by simp; omega, h2, fun k hk => ?_⟩
        · unfold Lib.indexAny
          show (if slashAsk b = true then _ else _) = _
          rw [if_neg hb, if_neg (by rw [h1]; simp), h1]
          simp
        · cases k with
          | zero => exact hb2
          | succ k => exact h3 k (by omega)

theorem ask_no (c : UInt8) (h : slashAsk c = false) : ((c.toNat : Int) != 47) = true ∧ ((c.toNat : Int) != 63) = true := by
  have h := all_bytes (p := fun c => slashAsk c = false → ((c.toNat : Int) != 47) = true ∧ ((c.toNat : Int) != 63) = true) (by decide +kernel) c h
  exact h
theorem ask_yes (c : UInt8) (h : slashAsk c = true) : (c.toNat : Int) = 47 ∨ (c.toNat : Int) = 63 := by
  have h := all_bytes (p := fun c => slashAsk c = true → (c.toNat : Int) = 47 ∨ (c.toNat : Int) = 63) (by decide +kernel) c h
  exact h
theorem endOf_spec (t : List UInt8) : (∀ k, k < endOf t → (bAt t k != 47) = true ∧ (bAt t k != 63) = true) ∧ (endOf t < t.length → bAt t (endOf t) = 47 ∨ bAt t (endOf t) = 63) := by
  unfold endOf
  rcases indexAny_spec t with ⟨h1, h2⟩ | ⟨i, h1, hi, h2, h3⟩
  · rw [h1, if_pos (by omega)]
    exact ⟨fun k hk => by rw [bAt_eq hk]; exact ask_no _ (h2 k hk), fun h => by omega⟩
  · rw [h1, if_neg (by omega), Int.toNat_natCast]
    exact ⟨fun k hk => by rw [bAt_eq (by omega)]; exact ask_no _ (h3 k hk), fun _ => by rw [bAt_eq hi]; exact ask_yes _ h2⟩
/-- What stands behind begins with a slash, or one is put there. -/
theorem tailOf_ref (t : List UInt8) : tailOf t = if Lib.hasPrefix (t.drop (endOf t)) [47] = true then t.drop (endOf t) else 47 :: t.drop (endOf t) := by
  obtain ⟨_, h2⟩ := endOf_spec t
  unfold tailOf
  by_cases h : endOf t < t.length
  · have hc := List.drop_eq_getElem_cons h
    have hb := h2 h
    rw [bAt_eq h] at hb
    have e : bAt (t.drop (endOf t)) 0 = ((t[endOf t]).toNat : Int) := by rw [hc]; rfl
    have hne : ¬ t.drop (endOf t) = [] := by rw [hc]; exact List.cons_ne_nil _ _
    have hp : Lib.hasPrefix (t.drop (endOf t)) [47] = (47 == t[endOf t]) := by rw [hc]; unfold Lib.hasPrefix; simp [List.isPrefixOf]
    rw [hp, e]
    rcases hb with hb | hb
    · have hx : t[endOf t] = 47 := UInt8.toNat.inj (by show (t[endOf t]).toNat = 47; omega)
      rw [if_neg (fun h9 => by rcases h9 with h9 | h9; exact hne h9; omega), if_pos (by rw [hx]; rfl)]
    · have hx : t[endOf t] = 63 := UInt8.toNat.inj (by show (t[endOf t]).toNat = 63; omega)
      rw [if_pos (.inr hb), if_neg (by rw [hx]; decide)]
  · have hn : t.drop (endOf t) = [] := List.drop_of_length_le (by omega)
    rw [hn, if_pos (.inl rfl), if_neg (by decide)]
/-- It begins with the scheme: the document's words. -/
theorem httpB_ref (s : List UInt8) : Lib.hasPrefix (lower s) httpL = httpB s := by
  have := @hasPrefix_take (lower s) httpL
  rw [Bool.eq_iff_iff, this]
  unfold httpB
  rw [lower_len, show httpL.length = 7 from rfl, ← lower_take]
  simp
theorem neg_port (a : Bool) (h : List UInt8) (p : List UInt8) (q : Bool) (y : List UInt8) : rightU a h (-1) p q y = false := by
  unfold rightU
  simp
end Go.Proofs.YtgjemgilanhdiaaDoor
namespace Go.Proofs.YtgjemgilanhdiaaDoor

/-- A step that goes on: no slash in it, and it is neither "." nor "..". -/
def StepOK (s : List UInt8) : Prop := (47 : UInt8) ∉ s ∧ s ≠ [46] ∧ s ≠ [46, 46]
def flat (ss : List (List UInt8)) : List UInt8 := ss.flatMap fun s => 47 :: s
theorem flat_nil : flat [] = [] := rfl
theorem flat_cons (s : List UInt8) (ss : List (List UInt8)) : flat (s :: ss) = 47 :: s ++ flat ss := rfl
theorem flat_snoc (ss : List (List UInt8)) (s : List UInt8) : flat (ss ++ [s]) = flat ss ++ 47 :: s := by simp [flat]

theorem lastL_miss (a b : List UInt8) (c : UInt8) (h : c ∉ b) : lastL (a ++ b) c = lastL a c := by
  obtain ⟨r, rfl⟩ : ∃ r : List UInt8, b = r.reverse := ⟨b.reverse, by simp⟩
  induction r with
  | nil => simp
  | cons x r ih =>
    rw [List.reverse_cons, ← List.append_assoc, lastL_snoc, if_neg (fun e => h (by simp [e])), ih (fun e => h (by simp at e ⊢; simp [e]))]
theorem lastL_at (a b : List UInt8) (c : UInt8) (h : c ∉ b) : lastL (a ++ c :: b) c = a.length := by
  rw [show a ++ c :: b = (a ++ [c]) ++ b by simp, lastL_miss _ _ _ h, lastL_snoc, if_pos rfl]

/-- The last step is taken off. -/
theorem flat_pop (ss : List (List UInt8)) (h : ∀ s ∈ ss, StepOK s) : ∃ ts, (flat ss).take (max (lastL (flat ss) 47) 0).toNat = flat ts ∧ (∀ s ∈ ts, StepOK s) := by
  rcases List.eq_nil_or_concat ss with rfl | ⟨ts, s, rfl⟩
  · exact ⟨[], by simp [flat], by simp⟩
  · rw [List.concat_eq_append] at h ⊢
    rw [flat_snoc, lastL_at _ _ _ (h s (by simp)).1]
    refine ⟨ts, ?_, fun t ht => h t (by simp [ht])⟩
    rw [show (max ((flat ts).length : Int) 0).toNat = (flat ts).length by omega, List.take_left]

/-- How far the cleaning has come. -/
structure Inv (p out : List UInt8) : Prop where
  head : p = [] ∨ ∃ t, p = 47 :: t
  segs : ∃ ss, out = flat ss ∧ (∀ s ∈ ss, StepOK s) ∧ (p = [] → ss ≠ [])

theorem cut_parts (t : List UInt8) : ∃ s r, (47 :: t) = 47 :: s ++ r ∧ (47 : UInt8) ∉ s ∧ (r = [] ∨ ∃ r', r = 47 :: r') ∧ (47 :: t).take (cStep.cutAt (47 :: t)) = 47 :: s ∧ (47 :: t).drop (cStep.cutAt (47 :: t)) = r := by
  have hne : (47 :: t) ≠ [] := by simp
  obtain ⟨h1, h2⟩ := cutAt_spec hne
  obtain ⟨h3, h4⟩ := cutAt_lo hne
  obtain ⟨m, hm⟩ : ∃ m, cStep.cutAt (47 :: t) = m := ⟨_, rfl⟩
  rw [hm] at h1 h2 h3 h4 ⊢
  obtain ⟨k, rfl⟩ : ∃ k, m = k + 1 := ⟨m - 1, by omega⟩
  simp only [List.length_cons] at h2 h4
  refine ⟨t.take k, t.drop k, by simp, ?_, ?_, by simp, by simp⟩
  · intro hmem
    obtain ⟨i, hi, hi2⟩ := List.getElem_of_mem hmem
    rw [List.length_take] at hi
    have h5 := h1 (i + 1) (by omega) (by omega)
    rw [bAt_eq (by simp; omega)] at h5
    rw [List.getElem_take] at hi2
    apply h5
    simp only [List.getElem_cons_succ, hi2]
    rfl
  · rcases Nat.lt_or_ge k t.length with h | h
    · have h5 := h2 (by omega)
      rw [bAt_eq (by simp; omega)] at h5
      right
      refine ⟨t.drop (k + 1), ?_⟩
      rw [List.drop_eq_getElem_cons h]
      congr 1
      simp only [List.getElem_cons_succ] at h5
      apply UInt8.toNat.inj
      show (t[k]).toNat = 47
      omega
    · left; exact List.drop_of_length_le h

theorem pre3' {p : List UInt8} (h : Lib.hasPrefix p [47, 46, 47] = true) : p.drop 2 = 47 :: p.drop 3 := by
  unfold Lib.hasPrefix at h
  rw [List.isPrefixOf_iff_prefix] at h
  obtain ⟨t, rfl⟩ := h
  rfl

theorem cStep_inv {p out : List UInt8} (hp : p ≠ []) (h : Inv p out) : Inv (cStep p out).1 (cStep p out).2 := by
  obtain ⟨rfl | ⟨t, rfl⟩, ss, rfl, hss, hne⟩ := h
  · exact absurd rfl hp
  clear hne
  unfold cStep
  rw [if_neg (by simp [Lib.hasPrefix, List.isPrefixOf]), if_neg (by simp [Lib.hasPrefix, List.isPrefixOf])]
  split
  · rename_i h3
    rw [pre3' h3]
    exact ⟨.inr ⟨_, rfl⟩, ss, rfl, hss, fun h => by simp at h⟩
  rename_i h3
  split
  · exact ⟨.inr ⟨_, rfl⟩, ss, rfl, hss, fun h => by simp at h⟩
  rename_i h4
  split
  · obtain ⟨ts, h1, h2⟩ := flat_pop ss hss
    exact ⟨.inr ⟨_, rfl⟩, ts, h1, h2, fun h => by simp at h⟩
  rename_i h5
  rw [if_neg (by simp)]
  obtain ⟨s, r, e1, e2, e3, e4, e5⟩ := cut_parts t
  rw [e4, e5]
  refine ⟨e3, ss ++ [s], by rw [flat_snoc], ?_, fun _ => by simp⟩
  intro x hx
  rcases List.mem_append.1 hx with hx | hx
  · exact hss x hx
  · obtain rfl : x = s := by simpa using hx
    refine ⟨e2, ?_, ?_⟩
    · rintro rfl
      rcases e3 with rfl | ⟨r', rfl⟩
      · apply h4; rw [e1]; rfl
      · apply h3; rw [e1]; simp [Lib.hasPrefix, List.isPrefixOf]
    · rintro rfl
      rcases e3 with rfl | ⟨r', rfl⟩
      · apply h5; rw [e1]; simp
      · apply h5; rw [e1]; simp [Lib.hasPrefix, List.isPrefixOf]

theorem cFuel_inv (n : Nat) : ∀ (p out : List UInt8), p.length ≤ n → Inv p out → Inv [] (cFuel n p out) := by
  induction n with
  | zero => intro p out hn h; obtain rfl : p = [] := by simpa using hn
            exact h
  | succ n ih =>
    intro p out hn h
    unfold cFuel
    split
    · rename_i hp; subst hp; exact h
    · rename_i hp
      have := cStep_lt p out hp
      exact ih _ _ (by omega) (cStep_inv hp h)
theorem clean_flat (t : List UInt8) : ∃ ss, cleanL (47 :: t) = flat ss ∧ (∀ s ∈ ss, StepOK s) ∧ ss ≠ [] := by
  obtain ⟨_, ss, h1, h2, h3⟩ := cFuel_inv _ (47 :: t) [] (Nat.le_refl _) ⟨.inr ⟨_, rfl⟩, [], rfl, by simp, fun h => by simp at h⟩
  exact ⟨ss, h1, h2, h3 rfl⟩

theorem parts_one : ∀ (s s' r r' : List UInt8), (47 : UInt8) ∉ s → (47 : UInt8) ∉ s' → (r = [] ∨ ∃ x, r = 47 :: x) → (r' = [] ∨ ∃ x, r' = 47 :: x) → s ++ r = s' ++ r' → s = s' ∧ r = r'
  | [], [], r, r', _, _, _, _, h => ⟨rfl, by simpa using h⟩
  | [], y :: s', r, r', _, h2, h3, _, h => by
    rcases h3 with rfl | ⟨x, rfl⟩
    · simp at h
    · simp at h; exact absurd h.1 (by intro e; exact h2 (by simp [e]))
  | y :: s, [], r, r', h1, _, _, h4, h => by
    rcases h4 with rfl | ⟨x, rfl⟩
    · simp at h
    · simp at h; exact absurd h.1 (by intro e; exact h1 (by simp [e]))
  | y :: s, z :: s', r, r', h1, h2, h3, h4, h => by
    simp at h
    obtain ⟨rfl, h⟩ := h
    obtain ⟨e1, e2⟩ := parts_one s s' r r' (fun e => h1 (by simp [e])) (fun e => h2 (by simp [e])) h3 h4 h
    exact ⟨by rw [e1], e2⟩

/-- What is flat is left as it is. -/
theorem step_flat (s r out : List UInt8) (hs : StepOK s) (hr : r = [] ∨ ∃ r', r = 47 :: r') : cStep (47 :: s ++ r) out = (r, out ++ 47 :: s) := by
  obtain ⟨s', r2, e1, e2, e3, e4, e5⟩ := cut_parts (s ++ r)
  obtain ⟨rfl, rfl⟩ := parts_one s s' r r2 hs.1 e2 hr e3 (by simpa using e1)
  have no1 : ∀ x, (x = [] ∨ ∃ y, x = 47 :: y) → s ++ r = [46] ++ x → False := fun x hx h => hs.2.1 (parts_one s [46] r x hs.1 (by decide) hr hx h).1
  have no2 : ∀ x, (x = [] ∨ ∃ y, x = 47 :: y) → s ++ r = [46, 46] ++ x → False := fun x hx h => hs.2.2 (parts_one s [46, 46] r x hs.1 (by decide) hr hx h).1
  rw [List.cons_append]
  unfold cStep
  rw [if_neg (by simp [Lib.hasPrefix, List.isPrefixOf]), if_neg (by simp [Lib.hasPrefix, List.isPrefixOf])]
  rw [if_neg, if_neg, if_neg, if_neg (by simp), e4, e5]
  · intro h
    simp only [Bool.or_eq_true] at h
    rcases h with h | h
    · unfold Lib.hasPrefix at h
      rw [List.isPrefixOf_iff_prefix] at h
      obtain ⟨x, hx⟩ := h
      exact no2 (47 :: x) (.inr ⟨x, rfl⟩) (by simpa using hx.symm)
    · exact no2 [] (.inl rfl) (by simpa using h)
  · intro h; exact no1 [] (.inl rfl) (by simpa using h)
  · intro h
    unfold Lib.hasPrefix at h
    rw [List.isPrefixOf_iff_prefix] at h
    obtain ⟨x, hx⟩ := h
    exact no1 (47 :: x) (.inr ⟨x, rfl⟩) (by simpa using hx.symm)

theorem flat_head (ss : List (List UInt8)) : flat ss = [] ∨ ∃ x, flat ss = 47 :: x := by
  cases ss with
  | nil => exact .inl rfl
  | cons s ss => exact .inr ⟨_, rfl⟩
theorem cleanFrom_flat (ss : List (List UInt8)) (h : ∀ s ∈ ss, StepOK s) : ∀ out, cleanFrom (flat ss) out = out ++ flat ss := by
  induction ss with
  | nil => intro out; rw [flat_nil, cleanFrom_nil, List.append_nil]
  | cons s ss ih =>
    intro out
    rw [cleanFrom_step (p := flat (s :: ss)) (p' := flat ss) (out' := out ++ 47 :: s) (by rw [flat_cons]; simp) (by rw [flat_cons]; exact step_flat s _ out (h s (by simp)) (flat_head ss)), ih (fun t ht => h t (by simp [ht])), flat_cons]
    simp
theorem clean_twice (t : List UInt8) : cleanL (cleanL (47 :: t)) = cleanL (47 :: t) := by
  obtain ⟨ss, h1, h2, _⟩ := clean_flat t
  rw [h1]
  exact (cleanFrom_flat ss h2 []).trans (by simp)
theorem clean_head (t : List UInt8) : ∃ x, cleanL (47 :: t) = 47 :: x := by
  obtain ⟨ss, h1, _, h3⟩ := clean_flat t
  rw [h1]
  rcases flat_head ss with h | h
  · cases ss with
    | nil => exact absurd rfl h3
    | cons s ss => rw [flat_cons] at h; simp at h
  · exact h

/-- Which bytes are left. -/
theorem cStep_mem {p out : List UInt8} {c : UInt8} : (c ∈ (cStep p out).1 → c ∈ p ∨ c = 47) ∧ (c ∈ (cStep p out).2 → c ∈ p ∨ c ∈ out) := by
  have hd : ∀ n, c ∈ p.drop n → c ∈ p ∨ c = 47 := fun n h => .inl (List.mem_of_mem_drop h)
  unfold cStep
  split
  · exact ⟨hd _, .inr⟩
  split
  · exact ⟨hd _, .inr⟩
  split
  · exact ⟨hd _, .inr⟩
  split
  · exact ⟨fun h => .inr (by simpa using h), .inr⟩
  split
  · refine ⟨fun h => ?_, fun h => .inr (List.mem_of_mem_take h)⟩
    rcases List.mem_cons.1 h with h | h
    · exact .inr h
    · unfold Lib.trimPrefix at h
      split at h
      · exact .inl (List.mem_of_mem_drop (List.mem_of_mem_drop h))
      · exact .inl (List.mem_of_mem_drop h)
  split
  · exact ⟨fun h => absurd h (by simp), .inr⟩
  · refine ⟨hd _, fun h => ?_⟩
    rcases List.mem_append.1 h with h | h
    · exact .inr h
    · exact .inl (List.mem_of_mem_take h)
theorem cFuel_mem {c : UInt8} (n : Nat) : ∀ (p out : List UInt8), c ∈ cFuel n p out → c ∈ p ∨ c ∈ out ∨ c = 47 := by
  induction n with
  | zero => intro p out h; exact .inr (.inl h)
  | succ n ih =>
    intro p out h
    unfold cFuel at h
    split at h
    · exact .inr (.inl h)
    · rcases ih _ _ h with h1 | h1 | h1
      · rcases cStep_mem.1 h1 with h2 | h2
        · exact .inl h2
        · exact .inr (.inr h2)
      · rcases cStep_mem.2 h1 with h2 | h2
        · exact .inl h2
        · exact .inr (.inl h2)
      · exact .inr (.inr h1)
theorem cleanL_mem {p : List UInt8} {c : UInt8} (h : c ∈ cleanL p) : c ∈ p ∨ c = 47 := by
  rcases cFuel_mem _ _ _ h with h | h | h
  · exact .inl h
  · cases h
  · exact .inr h
end Go.Proofs.YtgjemgilanhdiaaDoor
