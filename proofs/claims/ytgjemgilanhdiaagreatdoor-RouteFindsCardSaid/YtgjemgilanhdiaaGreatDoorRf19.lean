/- A path that begins with a slash, cleaned: slashes with steps behind them, none of which stays or goes back; cleaned again it is the same. Plain words. Laws of what a reference tells: plain words. -/
import Derived.Test.YtgjemgilanhdiaaGreatDoorRf14
import Derived.Test.YtgjemgilanhdiaaGreatDoorRf15
namespace Go.Proofs.YtgjemgilanhdiaaGreatDoor

def StepOK (s : List UInt8) : Prop := (47 : UInt8) ∉ s ∧ s ≠ [46] ∧ s ≠ [46, 46]
def flat (ss : List (List UInt8)) : List UInt8 := ss.flatMap fun s => 47 :: s
theorem flat_nil : flat [] = [] := rfl
theorem flat_cons (s : List UInt8) (ss : List (List UInt8)) : flat (s :: ss) = 47 :: s ++ flat ss := rfl
theorem flat_snoc (ss : List (List UInt8)) (s : List UInt8) : flat (ss ++ [s]) = flat ss ++ 47 :: s := by simp [flat]

theorem lastL_miss (a b : List UInt8) (c : UInt8) (h : c ∉ b) : lastL (a ++ b) c = lastL a c := by
  obtain ⟨r, rfl⟩ : ∃ r : List UInt8, b = r.reverse := ⟨b.reverse, by simp⟩
  induction r with
  | nil => simp
  | cons x r ih =>
    rw [List.reverse_cons, ← List.append_assoc, lastL_snoc, if_neg (fun e => h (by simp [e])), ih (fun e => h (by simp at e ⊢; simp [e]))]
theorem lastL_at (a b : List UInt8) (c : UInt8) (h : c ∉ b) : lastL (a ++ c :: b) c = a.length := by
  rw [show a ++ c :: b = (a ++ [c]) ++ b by simp, lastL_miss _ _ _ h, lastL_snoc, if_pos rfl]

theorem flat_pop (ss : List (List UInt8)) (h : ∀ s ∈ ss, StepOK s) : ∃ ts, (flat ss).take (max (lastL (flat ss) 47) 0).toNat = flat ts ∧ (∀ s ∈ ts, StepOK s) := by
  rcases List.eq_nil_or_concat ss with rfl | ⟨ts, s, rfl⟩
  · exact ⟨[], by simp [flat], by simp⟩
  · rw [List.concat_eq_append] at h ⊢
    rw [flat_snoc, lastL_at _ _ _ (h s (by simp)).1]
    refine ⟨ts, ?_, fun t ht => h t (by simp [ht])⟩
    rw [show (max ((flat ts).length : Int) 0).toNat = (flat ts).length by omega, List.take_left]

structure Inv (p out : List UInt8) : Prop where
  head : p = [] ∨ ∃ t, p = 47 :: t
  segs : ∃ ss, out = flat ss ∧ (∀ s ∈ ss, StepOK s) ∧ (p = [] → ss ≠ [])

theorem cut_parts (t : List UInt8) : ∃ s r, (47 :: t) = 47 :: s ++ r ∧ (47 : UInt8) ∉ s ∧ (r = [] ∨ ∃ r', r = 47 :: r') ∧ (47 :: t).take (cStep.cutAt (47 :: t)) = 47 :: s ∧ (47 :: t).drop (cStep.cutAt (47 :: t)) = r := by
  have hne : (47 :: t) ≠ [] := by simp
  obtain ⟨h1, h2⟩ := cutAt_spec hne
  obtain ⟨h3, h4⟩ := cutAt_lo hne
  obtain ⟨m, hm⟩ : ∃ m, cStep.cutAt (47 :: t) = m := ⟨_, rfl⟩
  rw [hm] at h1 h2 h3 h4 ⊢
  obtain ⟨k, rfl⟩ : ∃ k, m = k + 1 := ⟨m - 1, by omega⟩
  simp only [List.length_cons] at h2 h4
  refine ⟨t.take k, t.drop k, by simp, ?_, ?_, by simp, by simp⟩
  · intro hmem
    obtain ⟨i, hi, hi2⟩ := List.getElem_of_mem hmem
    rw [List.length_take] at hi
    have h5 := h1 (i + 1) (by omega) (by omega)
    rw [bAt_eq (by simp; omega)] at h5
    rw [List.getElem_take] at hi2
    apply h5
    simp only [List.getElem_cons_succ, hi2]
    rfl
  · rcases Nat.lt_or_ge k t.length with h | h
    · have h5 := h2 (by omega)
      rw [bAt_eq (by simp; omega)] at h5
      right
      refine ⟨t.drop (k + 1), ?_⟩
      rw [List.drop_eq_getElem_cons h]
      congr 1
      simp only [List.getElem_cons_succ] at h5
      apply UInt8.toNat.inj
      show (t[k]).toNat = 47
      omega
    · left; exact List.drop_of_length_le h

theorem pre3' {p : List UInt8} (h : Lib.hasPrefix p [47, 46, 47] = true) : p.drop 2 = 47 :: p.drop 3 := by
  unfold Lib.hasPrefix at h
  rw [List.isPrefixOf_iff_prefix] at h
  obtain ⟨t, rfl⟩ := h
  rfl

theorem cStep_inv {p out : List UInt8} (hp : p ≠ []) (h : Inv p out) : Inv (cStep p out).1 (cStep p out).2 := by
  obtain ⟨rfl | ⟨t, rfl⟩, ss, rfl, hss, hne⟩ := h
  · exact absurd rfl hp
  clear hne
  unfold cStep
  rw [if_neg (by simp [Lib.hasPrefix, List.isPrefixOf]), if_neg (by simp [Lib.hasPrefix, List.isPrefixOf])]
  split
  · rename_i h3
    rw [pre3' h3]
    exact ⟨.inr ⟨_, rfl⟩, ss, rfl, hss, fun h => by simp at h⟩
  rename_i h3
  split
  · exact ⟨.inr ⟨_, rfl⟩, ss, rfl, hss, fun h => by simp at h⟩
  rename_i h4
  split
  · obtain ⟨ts, h1, h2⟩ := flat_pop ss hss
    exact ⟨.inr ⟨_, rfl⟩, ts, h1, h2, fun h => by simp at h⟩
  rename_i h5
  rw [if_neg (by simp)]
  obtain ⟨s, r, e1, e2, e3, e4, e5⟩ := cut_parts t
  rw [e4, e5]
  refine ⟨e3, ss ++ [s], by rw [flat_snoc], ?_, fun _ => by simp⟩
  intro x hx
  rcases List.mem_append.1 hx with hx | hx
  · exact hss x hx
  · obtain rfl : x = s := by simpa using hx
    refine ⟨e2, ?_, ?_⟩
    · rintro rfl
      rcases e3 with rfl | ⟨r', rfl⟩
      · apply h4; rw [e1]; rfl
      · apply h3; rw [e1]; simp [Lib.hasPrefix, List.isPrefixOf]
    · rintro rfl
      rcases e3 with rfl | ⟨r', rfl⟩
      · apply h5; rw [e1]; simp
      · apply h5; rw [e1]; simp [Lib.hasPrefix, List.isPrefixOf]

theorem cFuel_inv (n : Nat) : ∀ (p out : List UInt8), p.length ≤ n → Inv p out → Inv [] (cFuel n p out) := by
  induction n with
  | zero => intro p out hn h; obtain rfl : p = [] := by simpa using hn
            exact h
  | succ n ih =>
    intro p out hn h
    unfold cFuel
    split
    · rename_i hp; subst hp; exact h
    · rename_i hp
      have := cStep_lt p out hp
      exact ih _ _ (by omega) (cStep_inv hp h)
theorem clean_flat (t : List UInt8) : ∃ ss, cleanL (47 :: t) = flat ss ∧ (∀ s ∈ ss, StepOK s) ∧ ss ≠ [] := by
  obtain ⟨_, ss, h1, h2, h3⟩ := cFuel_inv _ (47 :: t) [] (Nat.le_refl _) ⟨.inr ⟨_, rfl⟩, [], rfl, by simp, fun h => by simp at h⟩
  exact ⟨ss, h1, h2, h3 rfl⟩

theorem parts_one : ∀ (s s' r r' : List UInt8), (47 : UInt8) ∉ s → (47 : UInt8) ∉ s' → (r = [] ∨ ∃ x, r = 47 :: x) → (r' = [] ∨ ∃ x, r' = 47 :: x) → s ++ r = s' ++ r' → s = s' ∧ r = r'
  | [], [], r, r', _, _, _, _, h => ⟨rfl, by simpa using h⟩
  | [], y :: s', r, r', _, h2, h3, _, h => by
    rcases h3 with rfl | ⟨x, rfl⟩
    · simp at h
    · simp at h; exact absurd h.1 (by intro e; exact h2 (by simp [e]))
  | y :: s, [], r, r', h1, _, _, h4, h => by
    rcases h4 with rfl | ⟨x, rfl⟩
    · simp at h
    · simp at h; exact absurd h.1 (by intro e; exact h1 (by simp [e]))
  | y :: s, z :: s', r, r', h1, h2, h3, h4, h => by
    simp at h
    obtain ⟨rfl, h⟩ := h
    obtain ⟨e1, e2⟩ := parts_one s s' r r' (fun e => h1 (by simp [e])) (fun e => h2 (by simp [e])) h3 h4 h
    exact ⟨by rw [e1], e2⟩

theorem step_flat (s r out : List UInt8) (hs : StepOK s) (hr : r = [] ∨ ∃ r', r = 47 :: r') : cStep (47 :: s ++ r) out = (r, out ++ 47 :: s) := by
  obtain ⟨s', r2, e1, e2, e3, e4, e5⟩ := cut_parts (s ++ r)
  obtain ⟨rfl, rfl⟩ := parts_one s s' r r2 hs.1 e2 hr e3 (by simpa using e1)
  have no1 : ∀ x, (x = [] ∨ ∃ y, x = 47 :: y) → s ++ r = [46] ++ x → False := fun x hx h => hs.2.1 (parts_one s [46] r x hs.1 (by decide) hr hx h).1
  have no2 : ∀ x, (x = [] ∨ ∃ y, x = 47 :: y) → s ++ r = [46, 46] ++ x → False := fun x hx h => hs.2.2 (parts_one s [46, 46] r x hs.1 (by decide) hr hx h).1
  rw [List.cons_append]
  unfold cStep
  rw [if_neg (by simp [Lib.hasPrefix, List.isPrefixOf]), if_neg (by simp [Lib.hasPrefix, List.isPrefixOf])]
  rw [if_neg, if_neg, if_neg, if_neg (by simp), e4, e5]
  · intro h
    simp only [Bool.or_eq_true] at h
    rcases h with h | h
    · unfold Lib.hasPrefix at h
      rw [List.isPrefixOf_iff_prefix] at h
      obtain ⟨x, hx⟩ := h
      exact no2 (47 :: x) (.inr ⟨x, rfl⟩) (by simpa using hx.symm)
    · exact no2 [] (.inl rfl) (by simpa using h)
  · intro h; exact no1 [] (.inl rfl) (by simpa using h)
  · intro h
    unfold Lib.hasPrefix at h
    rw [List.isPrefixOf_iff_prefix] at h
    obtain ⟨x, hx⟩ := h
    exact no1 (47 :: x) (.inr ⟨x, rfl⟩) (by simpa using hx.symm)

theorem flat_head (ss : List (List UInt8)) : flat ss = [] ∨ ∃ x, flat ss = 47 :: x := by
  cases ss with
  | nil => exact .inl rfl
  | cons s ss => exact .inr ⟨_, rfl⟩
theorem cleanFrom_flat (ss : List (List UInt8)) (h : ∀ s ∈ ss, StepOK s) : ∀ out, cleanFrom (flat ss) out = out ++ flat ss := by
  induction ss with
  | nil => intro out; rw [flat_nil, cleanFrom_nil, List.append_nil]
  | cons s ss ih =>
    intro out
    rw [cleanFrom_step (p := flat (s :: ss)) (p' := flat ss) (out' := out ++ 47 :: s) (by rw [flat_cons]; simp) (by rw [flat_cons]; exact step_flat s _ out (h s (by simp)) (flat_head ss)), ih (fun t ht => h t (by simp [ht])), flat_cons]
    simp
theorem clean_twice (t : List UInt8) : cleanL (cleanL (47 :: t)) = cleanL (47 :: t) := by
  obtain ⟨ss, h1, h2, _⟩ := clean_flat t
  rw [h1]
  exact (cleanFrom_flat ss h2 []).trans (by simp)
theorem clean_head (t : List UInt8) : ∃ x, cleanL (47 :: t) = 47 :: x := by
  obtain ⟨ss, h1, _, h3⟩ := clean_flat t
  rw [h1]
  rcases flat_head ss with h | h
  · cases ss with
    | nil => exact absurd rfl h3
    | cons s ss => rw [flat_cons] at h; simp at h
  · exact h

theorem cStep_mem {p out : List UInt8} {c : UInt8} : (c ∈ (cStep p out).1 → c ∈ p ∨ c = 47) ∧ (c ∈ (cStep p out).2 → c ∈ p ∨ c ∈ out) := by
  have hd : ∀ n, c ∈ p.drop n → c ∈ p ∨ c = 47 := fun n h => .inl (List.mem_of_mem_drop h)
  unfold cStep
  split
  · exact ⟨hd _, .inr⟩
  split
  · exact ⟨hd _, .inr⟩
  split
  · exact ⟨hd _, .inr⟩
  split
  · exact ⟨fun h => .inr (by simpa using h), .inr⟩
  split
  · refine ⟨fun h => ?_, fun h => .inr (List.mem_of_mem_take h)⟩
    rcases List.mem_cons.1 h with h | h
    · exact .inr h
    · unfold Lib.trimPrefix at h
      split at h
      · exact .inl (List.mem_of_mem_drop (List.mem_of_mem_drop h))
      · exact .inl (List.mem_of_mem_drop h)
  split
  · exact ⟨fun h => absurd h (by simp), .inr⟩
  · refine ⟨hd _, fun h => ?_⟩
    rcases List.mem_append.1 h with h | h
    · exact .inr h
    · exact .inl (List.mem_of_mem_take h)
theorem cFuel_mem {c : UInt8} (n : Nat) : ∀ (p out : List UInt8), c ∈ cFuel n p out → c ∈ p ∨ c ∈ out ∨ c = 47 := by
  induction n with
  | zero => intro p out h; exact .inr (.inl h)
  | succ n ih =>
    intro p out h
    unfold cFuel at h
    split at h
    · exact .inr (.inl h)
    · rcases ih _ _ h with h1 | h1 | h1
      · rcases cStep_mem.1 h1 with h2 | h2
        · exact .inl h2
        · exact .inr (.inr h2)
      · rcases cStep_mem.2 h1 with h2 | h2
        · exact .inl h2
        · exact .inr (.inl h2)
      · exact .inr (.inr h1)
theorem cleanL_mem {p : List UInt8} {c : UInt8} (h : c ∈ cleanL p) : c ∈ p ∨ c = 47 := by
  rcases cFuel_mem _ _ _ h with h | h | h
  · exact .inl h
  · cases h
  · exact .inr h
end Go.Proofs.YtgjemgilanhdiaaGreatDoor
namespace Go.Proofs.YtgjemgilanhdiaaGreatDoor
set_option linter.unusedVariables false

theorem head_of {p : List UInt8} (h : Lib.hasPrefix p [47] = true) : ∃ t, p = 47 :: t := by
  unfold Lib.hasPrefix at h
  rw [List.isPrefixOf_iff_prefix] at h
  obtain ⟨t, rfl⟩ := h
  exact ⟨t, rfl⟩
theorem head_to (t : List UInt8) : Lib.hasPrefix (47 :: t) [47] = true := by simp [Lib.hasPrefix, List.isPrefixOf]
theorem idx_neg {p : List UInt8} {c : UInt8} : Lib.indexByte p c < 0 ↔ c ∉ p := by
  have h0 := Lib.indexByte_ge p c
  constructor
  · intro h hm
    obtain ⟨i, hi, hi2⟩ := List.getElem_of_mem hm
    exact Lib.indexByte_none (by omega : Lib.indexByte p c = -1) i (by rw [List.getElem?_eq_getElem hi, hi2])
  · intro h
    refine Int.lt_of_not_ge fun hge => ?_
    obtain ⟨n, hn⟩ : ∃ n : Nat, Lib.indexByte p c = n := ⟨(Lib.indexByte p c).toNat, by omega⟩
    exact h (List.mem_of_getElem? (Lib.indexByte_some hn).1)

structure RightF (a : Bool) (h : List UInt8) (n : Int) (p : List UInt8) (q : Bool) (y : List UInt8) : Prop where
  pb : ∀ c ∈ p, badU c = false
  yb : ∀ c ∈ y, badU c = false
  pq : (63 : UInt8) ∉ p
  qy : q = true ∨ y = []
  n0 : 0 ≤ n
  n1 : n ≤ 65535
  len : (writeL a h n.toNat p q y).length ≤ 500
  host : (if a then hostL h && Lib.hasPrefix p [47] else h.isEmpty && decide (n = 0) && !Lib.hasPrefix p [47, 47] && !decide (0 ≤ Lib.indexByte (cut1 p 47).1 58)) = true
theorem right_iff (a : Bool) (h : List UInt8) (n : Int) (p : List UInt8) (q : Bool) (y : List UInt8) : rightU a h n p q y = true ↔ RightF a h n p q y := by
  unfold rightU
  simp only [Bool.and_eq_true, Bool.not_eq_true', decide_eq_true_eq, decide_eq_false_iff_not]
  constructor
  · rintro ⟨⟨⟨⟨⟨⟨⟨h1, h2⟩, h3⟩, h4⟩, h5⟩, h6⟩, h7⟩, h8⟩
    refine ⟨?_, ?_, idx_neg.1 (by omega), ?_, h5, h6, h7, h8⟩
    · simpa using h1
    · simpa using h2
    · simpa using h4
  · rintro ⟨h1, h2, h3, h4, h5, h6, h7, h8⟩
    refine ⟨⟨⟨⟨⟨⟨⟨?_, ?_⟩, ?_⟩, ?_⟩, h5⟩, h6⟩, h7⟩, h8⟩
    · simpa using h1
    · simpa using h2
    · have := idx_neg.2 h3; omega
    · simpa using h4
theorem ok_iff (u : UU) : u.ok = true ↔ RightF u.a u.h u.n u.p u.q u.y := right_iff ..

theorem writeL_le {a : Bool} {h : List UInt8} {n : Nat} {p p' : List UInt8} {q : Bool} {y : List UInt8} (hp : p'.length ≤ p.length) : (writeL a h n p' q y).length ≤ (writeL a h n p q y).length := by
  unfold writeL
  simp only [List.length_append]
  omega
theorem not_bad_slash : badU 47 = false := by rfl
theorem clean_right {h : List UInt8} {n : Int} {p : List UInt8} {q : Bool} {y : List UInt8} (hr : RightF true h n p q y) : RightF true h n (cleanL p) q y := by
  have hh := hr.host
  simp only [if_true, Bool.and_eq_true] at hh
  obtain ⟨t, rfl⟩ := head_of hh.2
  obtain ⟨x, hx⟩ := clean_head t
  refine ⟨fun c hc => ?_, hr.yb, fun hc => ?_, hr.qy, hr.n0, hr.n1, Nat.le_trans (writeL_le (cleanL_len _)) hr.len, ?_⟩
  · rcases cleanL_mem hc with h | rfl
    · exact hr.pb c h
    · exact not_bad_slash
  · rcases cleanL_mem hc with h | h
    · exact hr.pq h
    · cases h
  · rw [hx]; simp only [if_true, head_to, Bool.and_true]; exact hh.1
theorem nil_ok : UU.nil.ok = true := by rfl

theorem resolve_nil (u : UU) (h1 : u.ok = true) (h2 : u.a = true) : resolve u UU.nil = (u, 0) := by
  obtain ⟨a, h, n, p, q, y⟩ := u
  obtain rfl : a = true := h2
  have ho : resOut ⟨true, h, n, p, q, y⟩ UU.nil = ⟨true, h, n, p, q, y⟩ := by simp [resOut, UU.nil, resPath]
  unfold resolve
  rw [h1, nil_ok, ho]
  simp [h1]
theorem abs_path (u : UU) (h1 : u.ok = true) (h2 : u.a = true) : ∃ t, u.p = 47 :: t := by
  have := ((ok_iff u).1 h1).host
  rw [h2] at this
  simp only [if_true, Bool.and_eq_true] at this
  exact head_of this.2
theorem bAt_head (t : List UInt8) : bAt (47 :: t) 0 = 47 := rfl
theorem resolve_self (u : UU) (h1 : u.ok = true) (h2 : u.a = true) : resolve u u = (⟨true, u.h, u.n, cleanL u.p, u.q, u.y⟩, 0) := by
  obtain ⟨t, ht⟩ := abs_path u h1 h2
  obtain ⟨a, h, n, p, q, y⟩ := u
  obtain rfl : a = true := h2
  obtain rfl : p = 47 :: t := ht
  have ho : resOut ⟨true, h, n, 47 :: t, q, y⟩ ⟨true, h, n, 47 :: t, q, y⟩ = ⟨true, h, n, cleanL (47 :: t), q, y⟩ := by simp [resOut, resPath, bAt_head]
  have hk : UU.ok ⟨true, h, n, cleanL (47 :: t), q, y⟩ = true := (ok_iff _).2 (clean_right ((ok_iff _).1 h1))
  unfold resolve
  rw [h1, ho]
  simp only [hk, Bool.and_true, if_true]
theorem resolve_query (u : UU) (h1 : u.ok = true) (h2 : u.a = true) (l : List UInt8) :
    resolve u ⟨false, [], 0, [], true, l⟩ = if UU.ok ⟨false, [], 0, [], true, l⟩ then (if UU.ok ⟨true, u.h, u.n, u.p, true, l⟩ then (⟨true, u.h, u.n, u.p, true, l⟩, 0) else (UU.nil, 2)) else (UU.nil, 1) := by
  have ho : resOut u ⟨false, [], 0, [], true, l⟩ = ⟨true, u.h, u.n, u.p, true, l⟩ := by simp [resOut, resPath]
  unfold resolve
  rw [h1, h2, ho]
  simp
end Go.Proofs.YtgjemgilanhdiaaGreatDoor
