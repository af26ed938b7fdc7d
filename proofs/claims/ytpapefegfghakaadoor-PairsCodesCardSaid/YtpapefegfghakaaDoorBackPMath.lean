/- Pairs of letters and digits in a query and in a cookie field: plain words. No program in sight. -/
import Derived.Test.YtpapefegfghakaaDoorCookieMath
namespace Go.Proofs.YtpapefegfghakaaDoor
set_option linter.unusedVariables false

def alnumB (c : UInt8) : Bool := (decide (97 ≤ c.toNat) && decide (c.toNat ≤ 122)) || (decide (65 ≤ c.toNat) && decide (c.toNat ≤ 90)) || (decide (48 ≤ c.toNat) && decide (c.toNat ≤ 57))
def cleanL (s : List UInt8) : List UInt8 := (s.take 30).filter alnumB
theorem alnum_not {c : UInt8} (h : alnumB c = true) : c ≠ 43 ∧ c ≠ 37 ∧ c ≠ 38 ∧ c ≠ 61 ∧ c ≠ 59 ∧ c ≠ 34 ∧ blankB c = false := by
  have := all_bytes (p := fun c => alnumB c = true → c ≠ 43 ∧ c ≠ 37 ∧ c ≠ 38 ∧ c ≠ 61 ∧ c ≠ 59 ∧ c ≠ 34 ∧ blankB c = false) (by decide +kernel) c
  exact this h
theorem clean_alnum (s : List UInt8) : ∀ c ∈ cleanL s, alnumB c = true := fun c hc => (List.mem_filter.1 hc).2
theorem clean_len (s : List UInt8) : (cleanL s).length ≤ 30 := Nat.le_trans (List.length_filter_le _ _) (by rw [List.length_take]; omega)
def Clean (f : Fld) : Prop := (∀ c ∈ f.1, alnumB c = true) ∧ (∀ c ∈ f.2, alnumB c = true) ∧ f.1 ≠ []
def cleanP (f : Fld) : Fld := (cleanL f.1 ++ [110], cleanL f.2)
theorem cleanP_clean (f : Fld) : Clean (cleanP f) := by
  refine ⟨fun c hc => ?_, clean_alnum _, by simp [cleanP]⟩
  rcases List.mem_append.1 hc with hc | hc
  · exact clean_alnum _ c hc
  · obtain rfl : c = 110 := by simpa using hc
    decide
def enc1 (f : Fld) : List UInt8 := f.1 ++ 61 :: f.2
def queryT (W : List Fld) : List UInt8 := W.flatMap fun f => 38 :: enc1 f
def cookieT (W : List Fld) : List UInt8 := W.flatMap fun f => f.1 ++ ([32, 61, 32] ++ (f.2 ++ [59, 32]))
theorem no38 {f : Fld} (h : Clean f) : (38 : UInt8) ∉ enc1 f := by
  intro hm
  rcases List.mem_append.1 hm with hm | hm
  · exact (alnum_not (h.1 _ hm)).2.2.1 rfl
  · rcases List.mem_cons.1 hm with hm | hm
    · cases hm
    · exact (alnum_not (h.2.1 _ hm)).2.2.1 rfl
theorem split_query (W : List Fld) : ∀ x, (38 : UInt8) ∉ x → (∀ f ∈ W, Clean f) → Lib.split (x ++ queryT W) [38] = x :: W.map enc1 := by
  induction W with
  | nil => intro x hx _; simp [queryT, split_none _ _ hx]
  | cons f W ih =>
    intro x hx hW
    have e : x ++ queryT (f :: W) = x ++ 38 :: (enc1 f ++ queryT W) := by simp [queryT]
    rw [e, split_at _ _ _ hx, ih _ (no38 (hW f (by simp))) (fun g hg => hW g (by simp [hg]))]
    rfl
theorem cut_enc {f : Fld} (h : Clean f) : cut1 (enc1 f) 61 = (f.1, f.2, true) := cut1_at fun hm => (alnum_not (h.1 _ hm)).2.2.2.1 rfl
theorem query_back (W : List Fld) (h : ∀ f ∈ W, Clean f) : queryL (queryT W) = W := by
  unfold queryL
  rw [show queryT W = [] ++ queryT W from rfl, split_query W [] (by simp) h]
  have e : someL ([] :: W.map enc1) = W.map enc1 := by
    unfold someL
    rw [List.filter_cons_of_neg (by simp), List.filter_eq_self]
    intro p hp
    obtain ⟨f, _, rfl⟩ := List.mem_map.1 hp
    simp [enc1]
  rw [e, List.map_map]
  conv => rhs; rw [← List.map_id W]
  refine List.map_congr_left fun f hf => ?_
  have hc := h f hf
  show pairOf (enc1 f) = f
  unfold pairOf
  rw [cut_enc hc]
  simp only
  rw [plain_same _ (fun c hm => ⟨(alnum_not (hc.1 c hm)).1, (alnum_not (hc.1 c hm)).2.1⟩), plain_same _ (fun c hm => ⟨(alnum_not (hc.2.1 c hm)).1, (alnum_not (hc.2.1 c hm)).2.1⟩)]

def cookieParts (x : List UInt8) : List Fld → List (List UInt8)
  | [] => [x]
  | f :: W => (x ++ f.1 ++ [32, 61, 32] ++ f.2) :: cookieParts [32] W
theorem split_cookie (W : List Fld) : ∀ x, (59 : UInt8) ∉ x → (∀ f ∈ W, Clean f) → Lib.split (x ++ cookieT W) [59] = cookieParts x W := by
  induction W with
  | nil => intro x hx _; simp [cookieT, cookieParts, split_none _ _ hx]
  | cons f W ih =>
    intro x hx hW
    have hf := hW f (by simp)
    have e : x ++ cookieT (f :: W) = (x ++ f.1 ++ [32, 61, 32] ++ f.2) ++ 59 :: ([32] ++ cookieT W) := by simp [cookieT]
    have h1 : (59 : UInt8) ∉ x ++ f.1 ++ [32, 61, 32] ++ f.2 := by
      intro hm
      rcases List.mem_append.1 hm with hm | hm
      · rcases List.mem_append.1 hm with hm | hm
        · rcases List.mem_append.1 hm with hm | hm
          · exact hx hm
          · exact (alnum_not (hf.1 _ hm)).2.2.2.2.1 rfl
        · simp at hm
      · exact (alnum_not (hf.2.1 _ hm)).2.2.2.2.1 rfl
    rw [e, split_at _ _ _ h1, ih _ (by simp) (fun g hg => hW g (by simp [hg]))]
    rfl
theorem trimR_blanks (l : List UInt8) : ∀ b : List UInt8, (∀ c ∈ b, blankB c = true) → trimR (l ++ b) = trimR l := by
  intro b
  obtain ⟨n, hn⟩ : ∃ n, b.length = n := ⟨_, rfl⟩
  induction n generalizing b with
  | zero => intro _; obtain rfl := List.length_eq_zero_iff.1 hn; simp
  | succ n ih =>
    intro h
    rcases List.eq_nil_or_concat b with rfl | ⟨t, c, rfl⟩
    · simp at hn
    · rw [List.concat_eq_append] at h hn ⊢
      rw [← List.append_assoc, trimR_blank (h c (by simp)), ih t (by simpa using hn) (fun d hd => h d (by simp [hd]))]
theorem trimL_blanks (l : List UInt8) : ∀ b : List UInt8, (∀ c ∈ b, blankB c = true) → trimL (b ++ l) = trimL l := by
  intro b
  induction b with
  | nil => intro _; rfl
  | cons d b ih => intro h; rw [List.cons_append, trimL_blank (h d (by simp)), ih (fun c hc => h c (by simp [hc]))]
theorem trim_none (l : List UInt8) (h : ∀ c ∈ l, blankB c = false) : trim l = l := by
  have e1 : trimR l = l := by
    rcases List.eq_nil_or_concat l with rfl | ⟨t, c, rfl⟩
    · rfl
    · rw [List.concat_eq_append] at h ⊢
      exact trimR_stay (h c (by simp))
  unfold trim
  rw [e1]
  cases l with
  | nil => rfl
  | cons c t => exact trimL_stay (h c (by simp))
theorem trim_around (a l b : List UInt8) (ha : ∀ c ∈ a, blankB c = true) (hb : ∀ c ∈ b, blankB c = true) : trim (a ++ l ++ b) = trim l := by
  unfold trim
  rw [trimR_blanks _ b hb, ← trim_swap, trimL_blanks _ a ha, trim_swap]
theorem bare_clean {v : List UInt8} (h : ∀ c ∈ v, c ≠ 34) : bareV v = v := by
  have hR : unqR v = none := by
    unfold unqR
    by_cases h2 : v.length < 2
    · rw [if_pos (.inl h2)]
    · have h0 : 0 < v.length := by omega
      have hne : bAt v 0 ≠ 34 := by
        rw [show bAt v 0 = ((v[0]'h0).toNat : Int) from bAt_eq h0]
        intro e
        exact h _ (List.getElem_mem h0) (UInt8.toNat.inj (by have h2 : (34 : UInt8).toNat = 34 := rfl; omega))
      rw [if_pos (.inr (.inl hne))]
  unfold bareV unqE
  rw [hR]
  rfl
theorem cookiesR (s : List UInt8) : cookiesL s = (Lib.split s [59]).flatMap cookieR := by
  unfold cookiesL
  induction Lib.split s [59] with
  | nil => rfl
  | cons p l ih =>
    rw [List.flatMap_cons, ← ih, ← cookie_same]
    unfold someL
    cases he : p.isEmpty with
    | true =>
      rw [List.filter_cons_of_neg (by simp [he])]
      obtain rfl : p = [] := by simpa using he
      rfl
    | false => rw [List.filter_cons_of_pos (by simp [he]), List.flatMap_cons]
theorem parts_back (W : List Fld) (h : ∀ f ∈ W, Clean f) : ∀ x, (∀ c ∈ x, blankB c = true) → (cookieParts x W).flatMap cookieR = W := by
  induction W with
  | nil =>
    intro x hx
    have h61 : (61 : UInt8) ∉ x := fun hm => by have := hx _ hm; revert this; decide
    simp only [cookieParts, List.flatMap_cons, List.flatMap_nil, List.append_nil]
    unfold cookieR
    rw [cut1_no h61]
    simp
  | cons f W ih =>
    intro x hx
    have hf := h f (by simp)
    have b32 : ∀ c ∈ ([32] : List UInt8), blankB c = true := by
      intro c hc
      obtain rfl : c = 32 := by simpa using hc
      decide
    rw [cookieParts, List.flatMap_cons, ih (fun g hg => h g (by simp [hg])) [32] b32]
    have e : x ++ f.1 ++ [32, 61, 32] ++ f.2 = (x ++ f.1 ++ [32]) ++ 61 :: ([32] ++ f.2 ++ []) := by simp
    have h61 : (61 : UInt8) ∉ x ++ f.1 ++ [32] := by
      intro hm
      rcases List.mem_append.1 hm with hm | hm
      · rcases List.mem_append.1 hm with hm | hm
        · have := hx _ hm; revert this; decide
        · exact (alnum_not (hf.1 _ hm)).2.2.2.1 rfl
      · simp at hm
    unfold cookieR
    rw [e, cut1_at h61]
    simp only
    rw [trim_around x f.1 [32] hx b32, trim_around [32] f.2 [] b32 (by simp), trim_none _ (fun c hc => (alnum_not (hf.1 c hc)).2.2.2.2.2.2), trim_none _ (fun c hc => (alnum_not (hf.2.1 c hc)).2.2.2.2.2.2), bare_clean (fun c hc => (alnum_not (hf.2.1 c hc)).2.2.2.2.2.1)]
    have hne : f.1.isEmpty = false := by
      cases hq : f.1 with
      | nil => exact absurd hq hf.2.2
      | cons a t => rfl
    rw [hne]
    simp
theorem cookie_back (W : List Fld) (h : ∀ f ∈ W, Clean f) : cookiesL (cookieT W) = W := by
  rw [cookiesR, show cookieT W = [] ++ cookieT W from rfl, split_cookie W [] (by simp) h]
  exact parts_back W h [] (by simp)
theorem queryT_len (W : List Fld) (h : ∀ f ∈ W, f.1.length ≤ 31 ∧ f.2.length ≤ 30) : (queryT W).length ≤ 100 * W.length ∧ (cookieT W).length ≤ 100 * W.length := by
  induction W with
  | nil => simp [queryT, cookieT]
  | cons f W ih =>
    obtain ⟨h1, h2⟩ := ih (fun g hg => h g (by simp [hg]))
    obtain ⟨h3, h4⟩ := h f (by simp)
    have e1 : (queryT (f :: W)).length = 1 + (enc1 f).length + (queryT W).length := by simp [queryT]; omega
    have e2 : (cookieT (f :: W)).length = f.1.length + f.2.length + 5 + (cookieT W).length := by simp [cookieT]; omega
    have e3 : (enc1 f).length = f.1.length + f.2.length + 1 := by simp [enc1]; omega
    rw [e1, e2, e3, List.length_cons]
    constructor <;> omega
end Go.Proofs.YtpapefegfghakaaDoor
