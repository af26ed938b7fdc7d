/- What is written is read again: references. Plain words. Where requests go: plain words. -/
import Derived.Test.YtgjemgilanhdiaaGreatDoorRf20
namespace Go.Proofs.YtgjemgilanhdiaaGreatDoor
set_option linter.unusedVariables false

theorem low58 (c : UInt8) (h : lowB c = 58) : c = 58 := by
  have := all_bytes (p := fun c => lowB c = 58 → c = 58) (by decide +kernel) c h
  exact this
theorem http_at {W : List UInt8} (h : httpB W = true) : 7 ≤ W.length ∧ ∀ i, i < 7 → (W[i]?).map lowB = httpL[i]? := by
  unfold httpB at h
  simp only [Bool.and_eq_true, decide_eq_true_eq, beq_iff_eq] at h
  refine ⟨h.1, fun i hi => ?_⟩
  have := congrArg (fun l : List UInt8 => l[i]?) h.2
  simp only [lower, List.getElem?_map, List.getElem?_take_of_lt hi] at this
  exact this
theorem write_back_rel (u : UU) (hok : u.ok = true) (ha : u.a = false) : parseL (writeL u.a u.h u.n.toNat u.p u.q u.y) = (u, 0) := by
  have hr := (ok_iff u).1 hok
  obtain ⟨a, h, n, p, q, y⟩ := u
  obtain rfl : a = false := ha
  have hc := hr.host
  simp only [Bool.false_eq_true, if_false, Bool.and_eq_true, decide_eq_true_eq, Bool.not_eq_true'] at hc
  obtain ⟨⟨⟨c1, c2⟩, c3⟩, c4⟩ := hc
  obtain rfl : h = [] := by simpa using c1
  obtain rfl : n = 0 := c2
  rw [colon_eq, decide_eq_false_iff_not] at c4
  have hcut := cut_back p y q hr.pq hr.qy
  have hlen := hr.len
  have hW : writeL false [] (0 : Int).toNat p q y = p ++ (if q then 63 :: y else []) := by unfold writeL; simp
  simp only at hlen ⊢
  rw [hW] at hlen ⊢
  have hno : httpB (p ++ (if q then 63 :: y else [])) = false := by
    cases hb : httpB (p ++ (if q then 63 :: y else [])) with
    | false => rfl
    | true =>
      exfalso
      obtain ⟨h7, hat⟩ := http_at hb
      by_cases h5 : 5 ≤ p.length
      · have e4 := hat 4 (by omega)
        rw [List.getElem?_append_left (by omega), List.getElem?_eq_getElem (by omega)] at e4
        have hp4 : p[4] = 58 := low58 _ (Option.some.inj e4)
        have g58 := Lib.indexByte_ge p 58
        have n58 : Lib.indexByte p 58 ≠ -1 := fun e => Lib.indexByte_none e 4 (by rw [List.getElem?_eq_getElem (by omega), hp4])
        obtain ⟨i, hi⟩ : ∃ i : Nat, Lib.indexByte p 58 = i := ⟨(Lib.indexByte p 58).toNat, by omega⟩
        have hi4 : i ≤ 4 := Nat.le_of_not_lt fun hlt => (Lib.indexByte_some hi).2 4 hlt (by rw [List.getElem?_eq_getElem (by omega), hp4])
        apply c4
        refine ⟨by omega, ?_⟩
        by_cases h47 : Lib.indexByte p 47 < 0
        · exact .inl h47
        · right
          obtain ⟨j, hj⟩ : ∃ j : Nat, Lib.indexByte p 47 = j := ⟨(Lib.indexByte p 47).toNat, by omega⟩
          rw [hi, hj]
          refine Int.lt_of_not_ge fun hle => ?_
          have hj4 : j ≤ 4 := by omega
          have ej := hat j (by omega)
          rw [List.getElem?_append_left (by omega), (Lib.indexByte_some hj).1] at ej
          rcases (by omega : j = 0 ∨ j = 1 ∨ j = 2 ∨ j = 3 ∨ j = 4) with rfl | rfl | rfl | rfl | rfl <;> exact absurd ej (by decide)
      · cases q with
        | false => simp at h7; omega
        | true =>
          have e := hat p.length (by omega)
          rw [List.getElem?_append_right (Nat.le_refl _), Nat.sub_self] at e
          simp only [if_true, List.getElem?_cons_zero, Option.map_some] at e
          rcases (by omega : p.length = 0 ∨ p.length = 1 ∨ p.length = 2 ∨ p.length = 3 ∨ p.length = 4) with h | h | h | h | h <;> (rw [h] at e; exact absurd e (by decide))
  have hrel : relOf (p ++ (if q then 63 :: y else [])) = ⟨false, [], 0, p, q, y⟩ := by unfold relOf; rw [hcut]
  unfold parseL
  rw [if_neg (by omega), hno, if_neg (by simp), hrel, hok]
  rfl
theorem write_back (u : UU) (hok : u.ok = true) : parseL (writeL u.a u.h u.n.toNat u.p u.q u.y) = (u, 0) := by
  cases ha : u.a with
  | true => rw [← ha]; exact write_back_abs u hok ha
  | false => rw [← ha]; exact write_back_rel u hok ha
end Go.Proofs.YtgjemgilanhdiaaGreatDoor
namespace Go.Proofs.YtgjemgilanhdiaaGreatDoor
set_option linter.unusedVariables false

abbrev Rt := List UInt8 × List UInt8 × List UInt8
def hostOk (s : List UInt8) : Bool := rightU true s 0 [47] false []
def preOk (p : List UInt8) : Bool := rightU true [104] 0 p false []
def routeOk (r : Rt) : Bool := (r.1.isEmpty || hostOk r.1) && hostOk r.2.2 && preOk r.2.1 && decide (r.2.1.length ≤ 100)
def keyR (r : Rt) : List UInt8 × List UInt8 := (r.1, r.2.1)
def rightRt (L : List Rt) : Bool := L.all routeOk && decide (L.length ≤ 16) && decide ((L.map keyR).Nodup)
def fitB (host path : List UInt8) (r : Rt) : Bool := (r.1.isEmpty || r.1 == host) && Lib.hasPrefix path r.2.1
def cmpR (a b : Rt) : Int := if (a.2.1.length : Int) - b.2.1.length ≠ 0 then (a.2.1.length : Int) - b.2.1.length else Lib.compareBytes a.1 b.1
def bestG (m : Rt) : List Rt → Rt
  | [] => m
  | y :: t => bestG (if 0 < cmpR y m then y else m) t
def bestO : List Rt → Option Rt
  | [] => none
  | x :: t => some (bestG x t)
def findR (L : List Rt) (host path : List UInt8) : List UInt8 × Int :=
  if rightRt L = true then (match bestO (L.filter (fitB host path)) with | none => ([], 61) | some b => (b.2.2, 0)) else ([], 1)
def refStep (host path : List UInt8) (b r : Rt) : Rt := if fitB host path r && (decide (b.2.1.length < r.2.1.length) || (decide (r.2.1.length = b.2.1.length) && b.1.isEmpty)) then r else b
def refBest (L : List Rt) (host path : List UInt8) : Rt := L.foldl (refStep host path) ([], [], [])
def refFindR (L : List Rt) (host path : List UInt8) : List UInt8 × Int := if (refBest L host path).2.1.isEmpty then ([], 61) else ((refBest L host path).2.2, 0)

theorem right_rt {L : List Rt} (h : rightRt L = true) : (∀ r ∈ L, routeOk r = true) ∧ L.length ≤ 16 ∧ (L.map keyR).Nodup := by
  unfold rightRt at h
  simp only [Bool.and_eq_true, List.all_eq_true, decide_eq_true_eq] at h
  exact ⟨h.1.1, h.1.2, h.2⟩
theorem right_rt_of {L : List Rt} (h : (∀ r ∈ L, routeOk r = true) ∧ L.length ≤ 16 ∧ (L.map keyR).Nodup) : rightRt L = true := by
  unfold rightRt
  simp only [Bool.and_eq_true, List.all_eq_true, decide_eq_true_eq]
  exact ⟨⟨h.1, h.2.1⟩, h.2.2⟩
theorem route_pre {r : Rt} (h : routeOk r = true) : Lib.hasPrefix r.2.1 [47] = true ∧ r.2.1 ≠ [] := by
  unfold routeOk preOk rightU at h
  simp only [Bool.and_eq_true, if_true] at h
  have h1 : Lib.hasPrefix r.2.1 [47] = true := h.1.2.2.2
  refine ⟨h1, fun e => ?_⟩
  rw [e] at h1; cases h1
theorem pre_len {path p : List UInt8} (h : Lib.hasPrefix path p = true) : p.length ≤ path.length ∧ path.take p.length = p := by
  unfold Lib.hasPrefix at h
  have := List.isPrefixOf_iff_prefix.1 h
  exact ⟨this.length_le, (List.prefix_iff_eq_take.1 this).symm⟩
theorem pre_same {path p q : List UInt8} (hp : Lib.hasPrefix path p = true) (hq : Lib.hasPrefix path q = true) (h : p.length = q.length) : p = q := by
  rw [← (pre_len hp).2, ← (pre_len hq).2, h]
def better (a b : Rt) : Prop := b.2.1.length < a.2.1.length ∨ (b.2.1.length = a.2.1.length ∧ b.1 = [] ∧ a.1 ≠ [])
theorem better_trans {a b c : Rt} (h1 : better a b) (h2 : better b c) : better a c := by
  unfold better at *
  rcases h1 with h1 | ⟨h1, h3, h4⟩ <;> rcases h2 with h2 | ⟨h2, h5, h6⟩
  · exact .inl (by omega)
  · exact .inl (by omega)
  · exact .inl (by omega)
  · exact absurd h3 h6
theorem better_irr {a : Rt} : ¬ better a a := by
  unfold better
  rintro (h | ⟨_, h1, h2⟩)
  · omega
  · exact h2 h1
structure Fits (host path : List UInt8) (F : List Rt) : Prop where
  fit : ∀ r ∈ F, fitB host path r = true
  keys : (F.map keyR).Nodup
theorem fit_parts {host path : List UInt8} {r : Rt} (h : fitB host path r = true) : (r.1 = [] ∨ r.1 = host) ∧ Lib.hasPrefix path r.2.1 = true := by
  unfold fitB at h
  simp only [Bool.and_eq_true, Bool.or_eq_true, List.isEmpty_iff, beq_iff_eq] at h
  exact h
theorem fit_cmp {host path : List UInt8} {a b : Rt} (ha : fitB host path a = true) (hb : fitB host path b = true) : (0 < cmpR a b ↔ better a b) ∧ (keyR a ≠ keyR b → better a b ∨ better b a) := by
  obtain ⟨a1, a2⟩ := fit_parts ha
  obtain ⟨b1, b2⟩ := fit_parts hb
  unfold cmpR better
  rcases Nat.lt_trichotomy a.2.1.length b.2.1.length with h | h | h
  · refine ⟨?_, fun _ => .inr (.inl h)⟩
    rw [if_pos (by omega)]
    constructor
    · intro h2; omega
    · rintro (h2 | ⟨h2, _⟩) <;> omega
  · have hp : a.2.1 = b.2.1 := pre_same a2 b2 h
    rw [if_neg (by omega)]
    cases ha1 : a.1 with
    | nil =>
      cases hb1 : b.1 with
      | nil =>
        refine ⟨⟨fun h2 => by simp [Lib.compareBytes] at h2, fun h2 => by rcases h2 with h2 | ⟨_, _, h3⟩; omega; exact absurd rfl h3⟩, fun hk => absurd (by unfold keyR; rw [ha1, hb1, hp]) hk⟩
      | cons y t =>
        refine ⟨⟨fun h2 => by simp [Lib.compareBytes] at h2, fun h2 => by rcases h2 with h2 | ⟨_, h3, _⟩; omega; cases h3⟩, fun _ => .inr (.inr ⟨h, rfl, by simp⟩)⟩
    | cons x s =>
      cases hb1 : b.1 with
      | nil =>
        refine ⟨⟨fun _ => .inr ⟨h.symm, rfl, by simp⟩, fun _ => by simp [Lib.compareBytes]⟩, fun _ => .inl (.inr ⟨h.symm, rfl, by simp⟩)⟩
      | cons y t =>
        have e1 : a.1 = host := a1.resolve_left (by rw [ha1]; simp)
        have e2 : b.1 = host := b1.resolve_left (by rw [hb1]; simp)
        have e3 : (y :: t : List UInt8) = x :: s := by rw [← ha1, ← hb1, e1, e2]
        have hself : ∀ l : List UInt8, Lib.compareBytes l l = 0 := fun l => by
          induction l with
          | nil => rfl
          | cons z l ih => simp [Lib.compareBytes, ih]
        rw [e3]
        refine ⟨⟨fun h2 => by rw [hself] at h2; omega, fun h2 => by rcases h2 with h2 | ⟨_, h3, _⟩; omega; cases h3⟩, fun hk => absurd (by unfold keyR; rw [e1, e2, hp]) hk⟩
  · refine ⟨?_, fun _ => .inl (.inl h)⟩
    rw [if_pos (by omega)]
    exact ⟨fun _ => .inl h, fun _ => by omega⟩
def IsTop (F : List Rt) (x : Rt) : Prop := x ∈ F ∧ ∀ y ∈ F, y = x ∨ better x y
theorem top_one {F : List Rt} {x y : Rt} (h1 : IsTop F x) (h2 : IsTop F y) : x = y := by
  rcases h1.2 y h2.1 with h | h
  · exact h.symm
  · rcases h2.2 x h1.1 with h3 | h3
    · exact h3
    · exact absurd (better_trans h h3) better_irr
theorem top_congr {F G : List Rt} {x : Rt} (h : ∀ y, y ∈ F ↔ y ∈ G) (hx : IsTop F x) : IsTop G x := ⟨(h x).1 hx.1, fun y hy => hx.2 y ((h y).2 hy)⟩
theorem key_eq {F : List Rt} (h : (F.map keyR).Nodup) {a b : Rt} (ha : a ∈ F) (hb : b ∈ F) (hk : keyR a = keyR b) : a = b := by
  induction F with
  | nil => cases ha
  | cons x F ih =>
    rw [List.map_cons, List.nodup_cons] at h
    rcases List.mem_cons.1 ha with e | ha2 <;> rcases List.mem_cons.1 hb with e2 | hb2
    · rw [e, e2]
    · exact absurd (List.mem_map.2 ⟨b, hb2, by rw [← hk, e]⟩) h.1
    · exact absurd (List.mem_map.2 ⟨a, ha2, by rw [hk, e2]⟩) h.1
    · exact ih h.2 ha2 hb2
theorem best_top {host path : List UInt8} {G : List Rt} (hG : Fits host path G) : ∀ (t F : List Rt) (m : Rt), G = F ++ t → IsTop F m → IsTop G (bestG m t) := by
  intro t
  induction t with
  | nil => intro F m hF hm; rw [hF, List.append_nil]; exact hm
  | cons y t ih =>
    intro F m hF hm
    have hGy : y ∈ G := by rw [hF]; simp
    have hGm : m ∈ G := by rw [hF]; exact List.mem_append_left _ hm.1
    have hc := fit_cmp (hG.fit y hGy) (hG.fit m hGm)
    unfold bestG
    refine ih (F ++ [y]) _ (by rw [hF]; simp) ?_
    by_cases h : 0 < cmpR y m
    · rw [if_pos h]
      have hb := hc.1.1 h
      refine ⟨by simp, fun z hz => ?_⟩
      rcases List.mem_append.1 hz with hz | hz
      · rcases hm.2 z hz with rfl | h2
        · exact .inr hb
        · exact .inr (better_trans hb h2)
      · exact .inl (List.mem_singleton.1 hz)
    · rw [if_neg h]
      refine ⟨List.mem_append_left _ hm.1, fun z hz => ?_⟩
      rcases List.mem_append.1 hz with hz | hz
      · exact hm.2 z hz
      · rw [List.mem_singleton.1 hz]
        by_cases hk : keyR y = keyR m
        · exact .inl (key_eq hG.keys hGy hGm hk)
        · rcases hc.2 hk with h2 | h2
          · exact absurd (hc.1.2 h2) h
          · exact .inr h2
theorem bestO_top {host path : List UInt8} {G : List Rt} (hG : Fits host path G) {b : Rt} (h : bestO G = some b) : IsTop G b := by
  cases G with
  | nil => cases h
  | cons x t =>
    injection h with h
    subst h
    exact best_top hG t [x] x rfl ⟨by simp, fun y hy => .inl (List.mem_singleton.1 hy)⟩
theorem fits_of {L : List Rt} (h : (L.map keyR).Nodup) (host path : List UInt8) : Fits host path (L.filter (fitB host path)) :=
  ⟨fun r hr => (List.mem_filter.1 hr).2, List.Nodup.sublist (List.Sublist.map keyR List.filter_sublist) h⟩
theorem bestO_none {G : List Rt} : bestO G = none ↔ G = [] := by
  cases G with
  | nil => exact ⟨fun _ => rfl, fun _ => rfl⟩
  | cons x t => exact ⟨(by intro h; cases h), (by intro h; cases h)⟩
theorem ref_top {L : List Rt} {host path : List UInt8} (hk : (L.map keyR).Nodup) (hne : ∀ r ∈ L, r.2.1 ≠ []) : ∀ (t F : List Rt) (m : Rt), L = F ++ t →
    ((m = ([], [], []) ∧ F.filter (fitB host path) = []) ∨ IsTop (F.filter (fitB host path)) m) →
    (t.foldl (refStep host path) m = ([], [], []) ∧ L.filter (fitB host path) = []) ∨ IsTop (L.filter (fitB host path)) (t.foldl (refStep host path) m) := by
  intro t
  induction t with
  | nil => intro F m hF hm; rw [hF, List.append_nil]; exact hm
  | cons y t ih =>
    intro F m hF hm
    rw [List.foldl_cons]
    refine ih (F ++ [y]) _ (by rw [hF]; simp) ?_
    have hLy : y ∈ L := by rw [hF]; simp
    rw [List.filter_append]
    unfold refStep
    by_cases hf : fitB host path y = true
    · rw [show [y].filter (fitB host path) = [y] by simp [hf], hf, Bool.true_and]
      rcases hm with ⟨rfl, h0⟩ | hm
      · have hp : 0 < y.2.1.length := List.length_pos_iff.2 (hne y hLy)
        rw [h0, if_pos (by simp [hp])]
        exact .inr ⟨by simp, fun z hz => .inl (by simpa using hz)⟩
      · have hmF := List.mem_filter.1 hm.1
        have hLm : m ∈ L := by rw [hF]; exact List.mem_append_left _ hmF.1
        have hc := fit_cmp hf hmF.2
        by_cases hb : better y m
        · rw [if_pos (by
            rcases hb with h | ⟨h1, h2, _⟩
            · simp [h]
            · simp [h1, h2])]
          refine .inr ⟨by simp, fun z hz => ?_⟩
          rcases List.mem_append.1 hz with hz | hz
          · rcases hm.2 z hz with rfl | h2
            · exact .inr hb
            · exact .inr (better_trans hb h2)
          · exact .inl (List.mem_singleton.1 hz)
        · by_cases hkk : keyR y = keyR m
          · have e := key_eq hk hLy hLm hkk
            rw [e]
            have : (if (decide (m.2.1.length < m.2.1.length) || (decide (m.2.1.length = m.2.1.length) && m.1.isEmpty)) = true then m else m) = m := by split <;> rfl
            rw [this]
            refine .inr ⟨List.mem_append_left _ hm.1, fun z hz => ?_⟩
            rcases List.mem_append.1 hz with hz | hz
            · exact hm.2 z hz
            · exact .inl (List.mem_singleton.1 hz)
          · have hbm : better m y := (hc.2 hkk).resolve_left hb
            rw [if_neg (by
              intro h
              simp only [Bool.or_eq_true, Bool.and_eq_true, decide_eq_true_eq, List.isEmpty_iff] at h
              rcases hbm with h1 | ⟨h1, h2, h3⟩
              · rcases h with h | ⟨h, _⟩ <;> omega
              · rcases h with h | ⟨_, h⟩
                · omega
                · exact h3 h)]
            refine .inr ⟨List.mem_append_left _ hm.1, fun z hz => ?_⟩
            rcases List.mem_append.1 hz with hz | hz
            · exact hm.2 z hz
            · rw [List.mem_singleton.1 hz]; exact .inr hbm
    · have hf' : fitB host path y = false := by simpa using hf
      rw [show [y].filter (fitB host path) = [] by simp [hf'], hf', Bool.false_and, if_neg (by simp), List.append_nil]
      exact hm
theorem find_ref {L : List Rt} (h : rightRt L = true) (host path : List UInt8) : findR L host path = refFindR L host path := by
  obtain ⟨h1, h2, h3⟩ := right_rt h
  have hne : ∀ r ∈ L, r.2.1 ≠ [] := fun r hr => (route_pre (h1 r hr)).2
  unfold findR refFindR refBest
  rw [if_pos h]
  rcases ref_top (host := host) (path := path) h3 hne L [] ([], [], []) rfl (.inl ⟨rfl, rfl⟩) with ⟨e1, e2⟩ | ht
  · rw [e1, e2]; rfl
  · cases hb : bestO (L.filter (fitB host path)) with
    | none =>
      rw [bestO_none.1 hb] at ht
      exact absurd ht.1 (by simp)
    | some b =>
      have e := top_one (bestO_top (fits_of h3 host path) hb) ht
      rw [← e]
      have hb2 := (bestO_top (fits_of h3 host path) hb).1
      rw [if_neg (by
        have := hne b (List.mem_filter.1 hb2).1
        simpa using this)]
theorem write_host (s : List UInt8) : writeL true s 0 [47] false [] = httpL ++ (s ++ [47]) := by unfold writeL; simp
theorem host_parse (s : List UInt8) : hostOk s = true ↔ (parseL (httpL ++ (s ++ [47]))).2 = 0 ∧ (parseL (httpL ++ (s ++ [47]))).1 = ⟨true, s, 0, [47], false, []⟩ := by
  constructor
  · intro h
    have := write_back ⟨true, s, 0, [47], false, []⟩ h
    simp only [Int.toNat_zero] at this
    rw [write_host] at this
    rw [this]
    exact ⟨rfl, rfl⟩
  · rintro ⟨h1, h2⟩
    have := parse_good _ h1
    rw [h2] at this
    exact this
theorem write_pre (p : List UInt8) : writeL true [104] 0 p false [] = httpL ++ (104 :: p) := by unfold writeL; simp
theorem pre_parse (p : List UInt8) : preOk p = true ↔ (parseL (httpL ++ (104 :: p))).2 = 0 ∧ (parseL (httpL ++ (104 :: p))).1 = ⟨true, [104], 0, p, false, []⟩ := by
  constructor
  · intro h
    have := write_back ⟨true, [104], 0, p, false, []⟩ h
    simp only [Int.toNat_zero] at this
    rw [write_pre] at this
    rw [this]
    exact ⟨rfl, rfl⟩
  · rintro ⟨h1, h2⟩
    have := parse_good _ h1
    rw [h2] at this
    exact this

/-! The laws. -/
theorem find_order {L M : List Rt} (hL : rightRt L = true) (h : ∀ y, y ∈ L ↔ y ∈ M) (hM : rightRt M = true) (host path : List UInt8) : findR M host path = findR L host path := by
  obtain ⟨_, _, h3⟩ := right_rt hL
  obtain ⟨_, _, h4⟩ := right_rt hM
  have hm : ∀ y, y ∈ L.filter (fitB host path) ↔ y ∈ M.filter (fitB host path) := fun y => by rw [List.mem_filter, List.mem_filter, h]
  unfold findR
  rw [if_pos hL, if_pos hM]
  cases hb : bestO (L.filter (fitB host path)) with
  | none =>
    have e : M.filter (fitB host path) = [] := by
      rw [List.eq_nil_iff_forall_not_mem]
      intro y hy
      have := (hm y).2 hy
      rw [bestO_none.1 hb] at this; cases this
    rw [e]; rfl
  | some b =>
    have ht := top_congr hm (bestO_top (fits_of h3 host path) hb)
    cases hc : bestO (M.filter (fitB host path)) with
    | none => rw [bestO_none.1 hc] at ht; exact absurd ht.1 (by simp)
    | some c =>
      rw [top_one (bestO_top (fits_of h4 host path) hc) ht]
theorem right_rot {L : List Rt} (h : rightRt L = true) (k : Nat) : rightRt (L.drop k ++ L.take k) = true := by
  obtain ⟨h1, h2, h3⟩ := right_rt h
  refine right_rt_of ⟨fun r hr => ?_, ?_, ?_⟩
  · rcases List.mem_append.1 hr with hr | hr
    · exact h1 r (List.mem_of_mem_drop hr)
    · exact h1 r (List.mem_of_mem_take hr)
  · rw [List.length_append, List.length_drop, List.length_take]; omega
  · have hp : List.Perm (L.drop k ++ L.take k) L := by
      have := List.perm_append_comm (l₁ := L.drop k) (l₂ := L.take k)
      rwa [List.take_append_drop] at this
    exact (hp.map keyR).nodup_iff.2 h3
theorem find_rot {L : List Rt} (h : rightRt L = true) (k : Nat) (host path : List UInt8) : findR (L.drop k ++ L.take k) host path = findR L host path :=
  find_order h (fun y => by
    have hp : List.Perm (L.drop k ++ L.take k) L := by
      have := List.perm_append_comm (l₁ := L.drop k) (l₂ := L.take k)
      rwa [List.take_append_drop] at this
    exact hp.mem_iff.symm) (right_rot h k) host path
def lastRt : Rt := ([], [47], [108, 97, 115, 116])
theorem find_last {L : List Rt} (h : rightRt L = true) (hA : rightRt (L ++ [lastRt]) = true) (host path : List UInt8) :
    ((findR L host path).2 = 0 ∧ findR (L ++ [lastRt]) host path = findR L host path) ∨
    ((findR L host path).2 ≠ 0 ∧ ((Lib.hasPrefix path [47] = true ∧ findR (L ++ [lastRt]) host path = ([108, 97, 115, 116], 0)) ∨ findR (L ++ [lastRt]) host path = ([], 61))) := by
  obtain ⟨h1, h2, h3⟩ := right_rt h
  obtain ⟨a1, a2, a3⟩ := right_rt hA
  unfold findR
  rw [if_pos h, if_pos hA, List.filter_append]
  have hfl : fitB host path lastRt = Lib.hasPrefix path [47] := by unfold fitB lastRt; simp
  cases hb : bestO (L.filter (fitB host path)) with
  | none =>
    right
    refine ⟨by simp, ?_⟩
    rw [bestO_none.1 hb, List.nil_append]
    cases hp : Lib.hasPrefix path [47] with
    | true =>
      left
      rw [show [lastRt].filter (fitB host path) = [lastRt] by simp [hfl, hp]]
      exact ⟨rfl, rfl⟩
    | false =>
      right
      rw [show [lastRt].filter (fitB host path) = [] by simp [hfl, hp]]
      rfl
  | some b =>
    left
    refine ⟨rfl, ?_⟩
    have ht := bestO_top (fits_of h3 host path) hb
    have hbF := List.mem_filter.1 ht.1
    obtain ⟨hb0, hb1⟩ := route_pre (h1 b hbF.1)
    have hFA := fits_of a3 host path
    rw [List.filter_append] at hFA
    have ht2 : IsTop (L.filter (fitB host path) ++ [lastRt].filter (fitB host path)) b := by
      refine ⟨List.mem_append_left _ ht.1, fun y hy => ?_⟩
      rcases List.mem_append.1 hy with hy | hy
      · exact ht.2 y hy
      · obtain ⟨hy1, hy2⟩ := List.mem_filter.1 hy
        obtain rfl := List.mem_singleton.1 hy1
        right
        have hne : keyR b ≠ keyR lastRt := fun e => by
          have hbm : b ∈ L ++ [lastRt] := List.mem_append_left _ hbF.1
          rw [List.map_append, List.nodup_append] at a3
          exact a3.2.2 (keyR b) (List.mem_map.2 ⟨b, hbF.1, rfl⟩) (keyR lastRt) (by simp) e
        rcases (fit_cmp hbF.2 hy2).2 hne with h4 | h4
        · exact h4
        · exfalso
          rcases h4 with h4 | ⟨_, _, h5⟩
          · have : (lastRt : Rt).2.1.length = 1 := rfl
            have := List.length_pos_iff.2 hb1
            omega
          · exact h5 rfl
    cases hc : bestO (L.filter (fitB host path) ++ [lastRt].filter (fitB host path)) with
    | none => rw [bestO_none.1 hc] at ht2; exact absurd ht2.1 (by simp)
    | some c =>
      have := top_one (bestO_top hFA hc) ht2
      rw [this]
def longestR (L : List Rt) (host path : List UInt8) : Nat := (L.filter (fitB host path)).foldl (fun n r => max n r.2.1.length) 0
theorem longest_ge (F : List Rt) : ∀ n : Nat, n ≤ F.foldl (fun n r => max n r.2.1.length) n ∧ ∀ r ∈ F, r.2.1.length ≤ F.foldl (fun n r => max n r.2.1.length) n := by
  induction F with
  | nil => intro n; exact ⟨Nat.le_refl _, fun r hr => by cases hr⟩
  | cons x F ih =>
    intro n
    rw [List.foldl_cons]
    obtain ⟨i1, i2⟩ := ih (max n x.2.1.length)
    refine ⟨by omega, fun r hr => ?_⟩
    rcases List.mem_cons.1 hr with rfl | hr
    · omega
    · exact i2 r hr
theorem longest_at (F : List Rt) : ∀ n m : Nat, n ≤ m → (∀ r ∈ F, r.2.1.length ≤ m) → F.foldl (fun n r => max n r.2.1.length) n ≤ m := by
  induction F with
  | nil => intro n m h _; exact h
  | cons x F ih =>
    intro n m h h2
    rw [List.foldl_cons]
    exact ih _ _ (by have := h2 x (by simp); omega) (fun r hr => h2 r (by simp [hr]))
theorem find_best {L : List Rt} {host path : List UInt8} (h : (findR L host path).2 = 0) : ∃ b ∈ L, fitB host path b = true ∧ b.2.1.length = longestR L host path ∧ b.2.2 = (findR L host path).1 := by
  unfold findR at h ⊢
  by_cases hr : rightRt L = true
  · rw [if_pos hr] at h ⊢
    cases hb : bestO (L.filter (fitB host path)) with
    | none => rw [hb] at h; cases h
    | some b =>
      have ht := bestO_top (fits_of (right_rt hr).2.2 host path) hb
      obtain ⟨m1, m2⟩ := List.mem_filter.1 ht.1
      refine ⟨b, m1, m2, ?_, rfl⟩
      unfold longestR
      refine Nat.le_antisymm ((longest_ge _ 0).2 b ht.1) (longest_at _ _ _ (Nat.zero_le _) fun r hr => ?_)
      rcases ht.2 r hr with rfl | h2
      · exact Nat.le_refl _
      · rcases h2 with h2 | ⟨h2, _⟩ <;> omega
  · rw [if_neg hr] at h; cases h
theorem find_bad {L : List Rt} {host path : List UInt8} (h : (findR L host path).2 ≠ 0) : (findR L host path).1 = [] ∧ ((findR L host path).2 = 61 ∨ rightRt L = false) := by
  unfold findR at h ⊢
  by_cases hr : rightRt L = true
  · rw [if_pos hr] at h ⊢
    cases hb : bestO (L.filter (fitB host path)) with
    | none => exact ⟨rfl, .inl rfl⟩
    | some b => rw [hb] at h; exact absurd rfl h
  · rw [if_neg hr]
    exact ⟨rfl, .inr (by simpa using hr)⟩
end Go.Proofs.YtgjemgilanhdiaaGreatDoor
