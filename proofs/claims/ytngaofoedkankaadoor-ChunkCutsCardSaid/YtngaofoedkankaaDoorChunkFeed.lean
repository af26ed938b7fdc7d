/- A body in chunks: the walks of its lines, of chunk.Right and of chunk.Feed. -/
import Derived.Test.YtngaofoedkankaaDoorChunkWalk
import Derived.Test.YtngaofoedkankaaDoorBuilderLay
import Derived.Deep.DeepCutAuto
import Derived.Deep.RegionWith
namespace Go.Proofs.YtngaofoedkankaaDoor
open Go.RowKit Go.Sort Go.Shelf
set_option linter.unusedVariables false
set_option linter.unusedSimpArgs false

theorem trimC13 {l x : List UInt8} (hl : l.length ≤ 4611686018427387903) (h : bareC l = x) (w : World) : Calls Tryd.prog 39 #[.string (S l), .string (S [13])] w fun e w' => e = .returned (.string (S x)) ∧ w' = w :=
  (Tryd.strings_TrimSuffix (S l) ⟨#[13]⟩ w (by rw [S_size]; omega)).mono fun e w' ⟨h1, h2⟩ => ⟨h1.trans (by rw [← h, S_data]; rfl), h2⟩
theorem bareC_len (l : List UInt8) : (bareC l).length ≤ l.length := by
  unfold bareC Lib.trimSuffix; split <;> simp
theorem idxC_none' {t : List UInt8} (h : Lib.indexByte t 10 = -1) : (10 : UInt8) ∉ t := by
  intro hm
  obtain ⟨i, hi, hi2⟩ := List.getElem_of_mem hm
  exact Lib.indexByte_none h i (by rw [List.getElem?_eq_getElem hi, hi2])
theorem idxC_parts {t : List UInt8} {i : Nat} (h : Lib.indexByte t 10 = i) : i < t.length ∧ t = t.take i ++ 10 :: t.drop (i + 1) ∧ (10 : UInt8) ∉ t.take i := by
  obtain ⟨h1, h2⟩ := Lib.indexByte_some h
  obtain ⟨hi, e⟩ := List.getElem?_eq_some_iff.1 h1
  refine ⟨hi, ?_, fun hm => ?_⟩
  · conv => lhs; rw [← List.take_append_drop i t]
    rw [List.drop_eq_getElem_cons hi, e]
  · obtain ⟨k, hk, hk2⟩ := List.getElem_of_mem hm
    rw [List.length_take] at hk
    rw [List.getElem_take] at hk2
    exact h2 k (by omega) (by rw [List.getElem?_eq_getElem (by omega), hk2])
/-- What a call of 'line' makes of it, and how many bytes that took. -/
def lineR (c : Ck) (t : List UInt8) : Nat ⊕ (Ck × Nat) :=
  if Lib.indexByte t 10 = -1 then (if 200 < c.ln.length + t.length then .inl 33 else .inr ({ c with ln := c.ln ++ t }, t.length))
  else if 200 < c.ln.length + (Lib.indexByte t 10).toNat then .inl 33
  else match lineC { c with ln := [] } (bareC (c.ln ++ t.take (Lib.indexByte t 10).toNat)) with
    | .inl e => .inl e
    | .inr c' => .inr (c', (Lib.indexByte t 10).toNat + 1)
theorem lineR_run {c : Ck} (h : c.Ok) (h1 : c.st ≠ 1) (h4 : c.st ≠ 4) (t : List UInt8) : runC c t = match lineR c t with | .inl e => .inl e | .inr (c', n) => thenC [] n (runC c' (t.drop n)) := by
  unfold lineR
  by_cases hi : Lib.indexByte t 10 = -1
  · rw [if_pos hi]
    have hn := idxC_none' hi
    by_cases hl : 200 < c.ln.length + t.length
    · rw [if_pos hl]
      have := run_part_long t c [] h1 h4 hn h.ln hl
      rw [List.append_nil] at this
      exact this
    · rw [if_neg hl]
      have := run_part t c [] h1 h4 hn (by omega)
      rw [List.append_nil] at this
      simp only
      rw [this, List.drop_length]
  · rw [if_neg hi]
    have h0 := Lib.indexByte_ge t 10
    obtain ⟨i, he⟩ : ∃ i : Nat, Lib.indexByte t 10 = i := ⟨(Lib.indexByte t 10).toNat, by omega⟩
    obtain ⟨p1, p2, p3⟩ := idxC_parts he
    rw [he, Int.toNat_natCast]
    have hti : (t.take i).length = i := by simp; omega
    by_cases hl : 200 < c.ln.length + i
    · rw [if_pos hl]
      conv => lhs; rw [p2]
      exact run_part_long (t.take i) c _ h1 h4 p3 h.ln (by omega)
    · rw [if_neg hl]
      conv => lhs; rw [p2]
      rw [run_whole h1 h4 _ p3 (by omega), hti]
      cases lineC { c with ln := [] } (bareC (c.ln ++ t.take i)) <;> rfl
theorem lineR_pos {c c' : Ck} {t : List UInt8} {n : Nat} (ht : t ≠ []) (h : lineR c t = .inr (c', n)) : 0 < n ∧ n ≤ t.length := by
  unfold lineR at h
  split at h
  · split at h
    · cases h
    · injection h with h
      injection h with _ h
      subst h
      exact ⟨List.length_pos_iff.2 ht, Nat.le_refl _⟩
  · rename_i hi
    have h0 := Lib.indexByte_ge t 10
    obtain ⟨i, he⟩ : ∃ i : Nat, Lib.indexByte t 10 = i := ⟨(Lib.indexByte t 10).toNat, by omega⟩
    obtain ⟨p1, p2, p3⟩ := idxC_parts he
    rw [he, Int.toNat_natCast] at h
    split at h
    · cases h
    · split at h
      · cases h
      · injection h with h
        injection h with _ h
        subst h
        exact ⟨Nat.succ_pos _, p1⟩
theorem lineR_ok {c c' : Ck} {t : List UInt8} {n : Nat} (hc : c.Ok) (h1 : c.st ≠ 1) (h4 : c.st ≠ 4) (h : lineR c t = .inr (c', n)) : c'.Ok := by
  unfold lineR at h
  split at h
  · rename_i hi
    split at h
    · cases h
    · rename_i hl
      injection h with h
      injection h with h _
      subst h
      refine ⟨hc.st, hc.sz, by show (c.ln ++ t).length ≤ 200; rw [List.length_append]; omega, fun hm => ?_, fun e => absurd e h1, hc.lf, fun e => absurd e h4⟩
      rcases List.mem_append.1 hm with hm | hm
      · exact hc.no hm
      · exact idxC_none' hi hm
  · split at h
    · cases h
    · split at h
      · cases h
      · rename_i hl
        injection h with h
        injection h with h _
        subst h
        exact line_ok (hc.bare h1) rfl h1 h4 hl
/-- What a call of 'line' left in the state. -/
def LineRes (w' : World) (b : Nat) (e : Ending) : Nat ⊕ (Ck × Nat) → Prop
  | .inl er => (∃ k : Nat, e = .returned (.int .i64 k) ∧ k ≤ 1000000) ∧ (er ≠ 0 ∧ er ≤ 100) ∧ w'.cell? ⟨b, 4, none⟩ = some (.int .i64 er) ∧ b < w'.heap.size ∧ ∀ o, w'.frozen? ⟨b, o, none⟩ = false
  | .inr (c, n) => e = .returned (.int .i64 n) ∧ StAt w' b c

theorem ckMeth (W : World) (fn : Fn) (first cap : Array Value) : (Instr.makeFunc fn first cap).run Tryd.prog W = .ok (.func fn first cap) W := rfl

set_option maxHeartbeats 3200000 in
set_option maxRecDepth 100000 in
theorem ckLine (b : Nat) (c : Ck) (t : List UInt8) (W : World) (h : StAt W b c) (hc : c.Ok) (h1 : c.st ≠ 1) (h4 : c.st ≠ 4) (ht : t.length ≤ 100000) :
    Calls Tryd.prog 20 #[.pointer (some ⟨b, 0, none⟩), .string (S t)] W fun e w' => LineRes w' b e (lineR c t) ∧ W.grownBy w' (some b) := by
  have hmf := ckMeth
  have hlt := h.lt
  have k0 := h.c0
  have k1 := h.c1
  have k2 := h.c2
  have k3 := h.c3
  have k4 := h.c4
  have fz := h.fz
  have HCK := Lib.hid hc
  have HST := Lib.hid h
  have hcl := hc.ln
  have hclI : (c.ln.length : Int) ≤ 200 := by omega
  have htI : (t.length : Int) ≤ 100000 := by omega
  obtain ⟨ix, hix⟩ : ∃ i, Lib.indexByte t 10 = i := ⟨_, rfl⟩
  have IB := Lib.hid (fun W => indexByte_S (s := t) (c := 10) (i := ix) hix W)
  have h0 := Lib.indexByte_ge t 10
  have hst : c.st = 0 ∨ c.st = 2 ∨ c.st = 3 := by have := hc.st; omega
  rw [hix] at h0
  have HR := Lib.hid (show lineR c t = if ix = -1 then (if 200 < c.ln.length + t.length then .inl 33 else .inr ({ c with ln := c.ln ++ t }, t.length))
  else if 200 < c.ln.length + ix.toNat then .inl 33
  else match lineC { c with ln := [] } (bareC (c.ln ++ t.take ix.toNat)) with
    | .inl e => .inl e
    | .inr c' => .inr (c', ix.toNat + 1) by unfold lineR; rw [hix])
  obtain ⟨R, hR⟩ : ∃ R, lineR c t = R := ⟨_, rfl⟩
  rw [hR] at HR ⊢
  clear hR h hc
  by_cases hn : ix = -1
  · subst hn
    clear h0
    by_cases hl : 200 < c.ln.length + t.length
    · have e1 := HR.out
      rw [if_pos rfl, if_pos hl] at e1
      subst e1
      have hlI : (200 < (c.ln.length : Int) + (t.length : Int)) = True := eq_true (by omega)
      clear HR hix hl
      rcases hst with hs | hs | hs
      all_goals
        rw [hs] at k0
        clear hs
        go_enter Tryd.func20, Tryd.ntmps20
        go_wp2_with (first
          | (go_at_call 38; refine Calls.mono (IB.out _) ?_; rintro e w' ⟨rfl, hw'⟩; obtain rfl := hw'.symm)
          | fail)
        go_ret
        exact ⟨⟨⟨0, rfl, by omega⟩, ⟨by decide, by decide⟩, by simp [go_sem, *], by simpa using hlt, fun o => by simp [go_sem, *]⟩, gr_set (gr_refl _ _) _ _⟩
    · have e1 := HR.out
      rw [if_pos rfl, if_neg hl] at e1
      subst e1
      have hlI : (200 < (c.ln.length : Int) + (t.length : Int)) = False := eq_false (by omega)
      clear HR hix hl
      have HS := Lib.hid hst
      rcases hst with hs | hs | hs
      all_goals
        have k0' := k0
        rw [hs] at k0'
        have hs2 := Lib.hid hs
        have K0 := Lib.hid k0
        clear hs k0
        go_enter Tryd.func20, Tryd.ntmps20
        go_wp2_with (first
          | (go_at_call 38; refine Calls.mono (IB.out _) ?_; rintro e w' ⟨rfl, hw'⟩; obtain rfl := hw'.symm)
          | fail)
        go_ret
        exact ⟨⟨rfl, ⟨by simpa using hlt, by rw [World.cell?_setCell_other _ _ _ _ (by simp)]; exact K0.out, by simp [go_sem, *], by simp [go_sem, *], by simp [go_sem, *], by simp [go_sem, *], fun o => by simp [go_sem, *]⟩⟩, gr_set (gr_refl _ _) _ _⟩
  · obtain ⟨i, rfl⟩ : ∃ i : Nat, ix = i := ⟨ix.toNat, by omega⟩
    obtain ⟨p1, p2, p3⟩ := idxC_parts hix
    have p1I : (i : Int) < (t.length : Int) := by omega
    have hti : (t.take i).length = i := by simp; omega
    obtain ⟨q, hq⟩ : ∃ q, t.take i = q := ⟨_, rfl⟩
    have hq2 : (t.take i).drop 0 = q := hq
    have hqI : ((t.take i).length : Int) = (i : Int) := by omega
    rw [Int.toNat_natCast, hq] at HR
    rw [hq] at hti hqI
    clear p2 p3 hix h0
    by_cases hl : 200 < c.ln.length + i
    · have e1 := HR.out
      rw [if_neg hn, if_pos hl] at e1
      subst e1
      have hlI : (200 < (c.ln.length : Int) + (i : Int)) = True := eq_true (by omega)
      clear HR hl hn
      rcases hst with hs | hs | hs
      all_goals
        rw [hs] at k0
        clear hs
        go_enter Tryd.func20, Tryd.ntmps20
        go_wp2_with (first
          | (go_at_call 38; refine Calls.mono (IB.out _) ?_; rintro e w' ⟨rfl, hw'⟩; obtain rfl := hw'.symm)
          | fail)
        go_ret
        exact ⟨⟨⟨0, rfl, by omega⟩, ⟨by decide, by decide⟩, by simp [go_sem, *], by simpa using hlt, fun o => by simp [go_sem, *]⟩, gr_set (gr_refl _ _) _ _⟩
    · have e1 := HR.out
      rw [if_neg hn, if_neg hl] at e1
      have hlI : (200 < (c.ln.length : Int) + (i : Int)) = False := eq_false (by omega)
      have hbl := bareC_len (c.ln ++ q)
      rw [List.length_append] at hbl
      have TS := Lib.hid (fun W => trimC13 (l := c.ln ++ q) (x := bareC (c.ln ++ q)) (by rw [List.length_append]; omega) rfl W)
      obtain ⟨x, hx⟩ : ∃ x, bareC (c.ln ++ q) = x := ⟨_, rfl⟩
      rw [hx] at TS e1 hbl
      have HE := Lib.hid e1
      have HLE := Lib.hid (fun e h => line_err (c := { c with ln := [] }) (l := x) (e := e) h)
      have hsz := HCK.out.sz
      have HSI := Lib.hid (fun w' (hs : StAt w' b { c with ln := [] }) (h2 : c.st ≠ 2) (h3 : c.st ≠ 3) => ckSize b { c with ln := [] } x w' hs h2 h3 (by omega) hsz)
      have HEN := Lib.hid (fun w' (hs : StAt w' b { c with ln := [] }) (h2 : c.st = 2) => ckEnd b { c with ln := [] } x w' hs h2)
      have HTA := Lib.hid (fun w' (hs : StAt w' b { c with ln := [] }) (h3 : c.st = 3) => ckTail b { c with ln := [] } x w' hs h3)
      obtain ⟨LC, hLC⟩ : ∃ r, lineC { c with ln := [] } x = r := ⟨_, rfl⟩
      rw [hLC] at HE HSI HEN HTA HLE
      have HFIN := Lib.hid (fun (w' : World) (hr : StRes w' b LC) => (show LineRes w' b (.returned (.int .i64 ((i : Int) + 1))) R from by
        have e2 := HE.out
        cases hL : LC with
        | inl er =>
          rw [hL] at e2 hr
          subst e2
          obtain ⟨g1, g2, g3⟩ := hr
          have := HLE.out er hL
          exact ⟨⟨i + 1, by simp, by omega⟩, ⟨by omega, by omega⟩, g1, g2, g3⟩
        | inr c2 =>
          rw [hL] at e2 hr
          subst e2
          exact ⟨by simp, hr⟩))
      clear HR hl hn e1 hx hLC HE HLE hbl hsz
      rcases hst with hs | hs | hs
      all_goals
        have k0' := k0
        rw [hs] at k0'
        have hs2 := Lib.hid hs
        have K0 := Lib.hid k0
        clear hs k0
        go_enter Tryd.func20, Tryd.ntmps20
        go_wp2_with (first
          | (go_at_call 38; refine Calls.mono (IB.out _) ?_; rintro e w' ⟨rfl, hw'⟩; obtain rfl := hw'.symm)
          | (go_at_call 39; refine Calls.mono (TS.out _) ?_; rintro e w' ⟨rfl, hw'⟩; obtain rfl := hw'.symm)
          | fail)
        first
        | (refine Calls.mono (HSI.out _ ⟨by simpa using hlt, by (repeat rw [World.cell?_setCell_other _ _ _ _ (by simp)]); exact K0.out, by simp [go_sem, *], by simp [go_sem, *], by simp [go_sem, *], by simp [go_sem, *], fun o => by simp [go_sem, *]⟩ (by rw [hs2.out]; decide) (by rw [hs2.out]; decide)) ?_)
        | (refine Calls.mono (HEN.out _ ⟨by simpa using hlt, by (repeat rw [World.cell?_setCell_other _ _ _ _ (by simp)]); exact K0.out, by simp [go_sem, *], by simp [go_sem, *], by simp [go_sem, *], by simp [go_sem, *], fun o => by simp [go_sem, *]⟩ hs2.out) ?_)
        | (refine Calls.mono (HTA.out _ ⟨by simpa using hlt, by (repeat rw [World.cell?_setCell_other _ _ _ _ (by simp)]); exact K0.out, by simp [go_sem, *], by simp [go_sem, *], by simp [go_sem, *], by simp [go_sem, *], fun o => by simp [go_sem, *]⟩ hs2.out) ?_)
        rintro e w5 ⟨rfl, hr5, hg5⟩
        have HR5 := Lib.hid hr5
        have HG5 := Lib.hid hg5
        clear hr5 hg5
        go_wp2
        go_ret
        exact ⟨HFIN.out _ HR5.out, gr_trans (gr_set (gr_set (gr_refl _ _) _ _) _ _) HG5.out⟩
end Go.Proofs.YtngaofoedkankaaDoor
