/- Rows of routes: those that came in, cut: the law's few; an own row opened. Where a row of routes has one of some kind: slices.IndexFunc at routes; a row's copy: slices.Clone. -/
import Derived.Test.YtgjemgilanhdiaaGreatDoorRf24
import Derived.Test.YtgjemgilanhdiaaGreatDoorRf13
import Derived.Test.YtgjemgilanhdiaaGreatDoorRf2
namespace Go.Proofs.YtgjemgilanhdiaaGreatDoor
open Go.RowKit Go.Sort Go.Shelf
set_option linter.unusedVariables false
set_option linter.unusedSimpArgs false

theorem ReadsW.take {W : World} {ao : Option Addr} {cap : Nat} {L : List Wrd} (h : ReadsW W (.slice ao L.length cap) L) {q : Nat} (hq : q ≤ L.length) : ReadsW W (.slice ao (L.take q).length cap) (L.take q) := by
  obtain ⟨ao', cap', e1, e2, e3, e4, e5⟩ := h
  injection e1 with e6 e7 e8
  subst e6
  subst e8
  have hl : (L.take q).length = q := by simp; omega
  refine ⟨ao, cap, rfl, by omega, e3, e4, fun h0 => ?_⟩
  obtain ⟨b, off, f1, f2, f3⟩ := e5 (by omega)
  exact ⟨b, off, f1, f2, fun j hj => by rw [List.getElem_take]; exact f3 j (by omega)⟩
theorem reads_inW {w : World} {v : Value} {L : List (List Value)} (hv : RowsIn w 3 v L ∧ ∀ c ∈ L, AllSh [.str, .str, .str] c) : ∃ xs, ReadsW w v xs ∧ ∀ f ∈ xs, f.1.length ≤ 9223372036854775807 ∧ f.2.1.length ≤ 9223372036854775807 ∧ f.2.2.length ≤ 9223372036854775807 := by
  obtain ⟨hrow, hsh⟩ := hv
  obtain ⟨xs, rfl, hxs⟩ := decode wcells (R := fun f => f.1.length ≤ 9223372036854775807 ∧ f.2.1.length ≤ 9223372036854775807 ∧ f.2.2.length ≤ 9223372036854775807) (fun c h => by
    obtain ⟨_, _, rfl, ⟨s, rfl, hs⟩, _, _, rfl, ⟨t, rfl, ht⟩, _, _, rfl, ⟨u, rfl, hu⟩, rfl⟩ := h
    obtain ⟨l, rfl⟩ := S_of s
    obtain ⟨m, rfl⟩ := S_of t
    obtain ⟨n, rfl⟩ := S_of u
    exact ⟨(l, m, n), rfl, by rw [S_size] at hs; exact hs, by rw [S_size] at ht; exact ht, by rw [S_size] at hu; exact hu⟩) L hsh
  obtain ⟨a, len, cap, rfl, hl, hm, hlen, ⟨_, hno⟩, hcell⟩ := hrow
  rw [List.length_map] at hlen
  subst hlen
  refine ⟨xs, ⟨a, cap, rfl, hl, hm, hno, fun h0 => ?_⟩, hxs⟩
  obtain ⟨b, off, e1, e2, e3⟩ := hcell h0 (by omega)
  refine ⟨b, off, e1, e2, fun j hj => ?_⟩
  have h0 := e3 j 0 hj (by omega)
  have h1 := e3 j 1 hj (by omega)
  have h2 := e3 j 2 hj (by omega)
  rw [Nat.add_zero] at h0
  rw [h0, Nat.add_assoc, h1, Nat.add_assoc, h2]
  simp [List.getD, hj, wcells]
theorem OwnsW.open {W : World} {B : Nat} {v : Value} {L : List Wrd} (h : OwnsW W B v L) (h0 : 0 < L.length) : ∃ g cap, v = .slice (some ⟨g, 0, none⟩) L.length cap ∧ L.length ≤ cap ∧ cap ≤ maxLen ∧ B ≤ g ∧ g < W.heap.size ∧
    (∀ j (hj : j < L.length), W.cell? ⟨g, j * 3, none⟩ = some (.string (S L[j].1)) ∧ W.cell? ⟨g, j * 3 + 1, none⟩ = some (.string (S L[j].2.1)) ∧ W.cell? ⟨g, j * 3 + 2, none⟩ = some (.string (S L[j].2.2))) ∧ ∀ o, W.frozen? ⟨g, o, none⟩ = false := by
  obtain ⟨h1, h2⟩ := h
  rcases h2 with ⟨h2, h3⟩ | ⟨g, cap, cur, h3, h4, h5, h6, h7, h8, h9⟩
  · omega
  · have hg : g < W.heap.size := by
      rcases Nat.lt_or_ge g W.heap.size with h | h
      · exact h
      · rw [Array.getElem?_eq_none h] at h5; cases h5
    refine ⟨g, cap, h3, h6, h7, h4, hg, fun j hj => ?_, fun o => Joins.unfrozen_of_block h5 _⟩
    have hcell : ∀ q, q < L.length * 3 → W.cell? ⟨g, q, none⟩ = (L.flatMap wcells)[q]? := fun q hq => by
      rw [Joins.cell_of_block h5, ← h9, List.getElem?_take, if_pos hq, Array.getElem?_toList]
    obtain ⟨e1, e2, e3⟩ := wflat_at L j hj
    exact ⟨(hcell _ (by omega)).trans e1, (hcell _ (by omega)).trans e2, (hcell _ (by omega)).trans e3⟩
structure CellsW (W : World) (g : Nat) (L : List Wrd) : Prop where
  lt : g < W.heap.size
  cell : ∀ j (hj : j < L.length), W.cell? ⟨g, j * 3, none⟩ = some (.string (S L[j].1)) ∧ W.cell? ⟨g, j * 3 + 1, none⟩ = some (.string (S L[j].2.1)) ∧ W.cell? ⟨g, j * 3 + 2, none⟩ = some (.string (S L[j].2.2))
  fz : ∀ o, W.frozen? ⟨g, o, none⟩ = false
theorem CellsW.below {W w' : World} {g : Nat} {L : List Wrd} (h : CellsW W g L) (hb : Below W.heap.size W w') : CellsW w' g L :=
  ⟨Nat.lt_of_lt_of_le h.lt hb.size, fun j hj => by
    rw [hb.cell (p := ⟨g, j * 3, none⟩) h.lt, hb.cell (p := ⟨g, j * 3 + 1, none⟩) h.lt, hb.cell (p := ⟨g, j * 3 + 2, none⟩) h.lt]; exact h.cell j hj, fun o => (hb.frozen (p := ⟨g, o, none⟩) h.lt).trans (h.fz o)⟩
theorem CellsW.put {W : World} {g : Nat} {L : List Wrd} (h : CellsW W g L) (i : Nat) (hi : i < L.length) (f : Wrd) :
    CellsW (((W.setCell ⟨g, i * 3, none⟩ (.string (S f.1))).setCell ⟨g, i * 3 + 1, none⟩ (.string (S f.2.1))).setCell ⟨g, i * 3 + 2, none⟩ (.string (S f.2.2))) g (L.set i f) := by
  obtain ⟨c1, c2, c3⟩ := h.cell i hi
  refine ⟨by simpa using h.lt, fun j hj => ?_, fun o => by simp only [World.frozen?_setCell]; exact h.fz o⟩
  rw [List.length_set] at hj
  obtain ⟨d1, d2, d3⟩ := h.cell j hj
  by_cases e : j = i
  · subst e
    simp only [List.getElem_set_self]
    refine ⟨?_, ?_, ?_⟩
    · rw [World.cell?_setCell_other _ _ _ _ (by simp), World.cell?_setCell_other _ _ _ _ (by simp)]; exact World.cell?_setCell_same _ _ _ c1
    · rw [World.cell?_setCell_other _ _ _ _ (by simp)]; exact World.cell?_setCell_same _ _ _ (by rw [World.cell?_setCell_other _ _ _ _ (by simp)]; exact c2)
    · exact World.cell?_setCell_same _ _ _ (by rw [World.cell?_setCell_other _ _ _ _ (by simp), World.cell?_setCell_other _ _ _ _ (by simp)]; exact c3)
  · rw [List.getElem_set_ne (fun h => e h.symm)]
    refine ⟨?_, ?_, ?_⟩
    · rw [World.cell?_setCell_other _ _ _ _ (by simp <;> omega), World.cell?_setCell_other _ _ _ _ (by simp <;> omega), World.cell?_setCell_other _ _ _ _ (by simp <;> omega)]; exact d1
    · rw [World.cell?_setCell_other _ _ _ _ (by simp <;> omega), World.cell?_setCell_other _ _ _ _ (by simp <;> omega), World.cell?_setCell_other _ _ _ _ (by simp <;> omega)]; exact d2
    · rw [World.cell?_setCell_other _ _ _ _ (by simp <;> omega), World.cell?_setCell_other _ _ _ _ (by simp <;> omega), World.cell?_setCell_other _ _ _ _ (by simp <;> omega)]; exact d3
theorem CellsW.reads {W : World} {g cap n : Nat} {L : List Wrd} (h : CellsW W g L) (hn : n ≤ L.length) (hc : n ≤ cap) (hm : cap ≤ maxLen) : ReadsW W (.slice (some ⟨g, 0, none⟩) n cap) (L.take n) := by
  have hl : (L.take n).length = n := by simp; omega
  refine ⟨_, cap, by rw [hl], by omega, hm, (fun h => by cases h), fun h0 => ⟨g, 0, rfl, h.lt, fun j hj => ?_⟩⟩
  rw [List.getElem_take]
  simpa using h.cell j (by omega)

def cutR (f : Wrd) : Wrd := (f.1.take 120, f.2.1.take 120, f.2.2.take 120)
def fewR (L : List Wrd) : List Wrd := (L.take 20).map cutR
theorem fewR_len (L : List Wrd) : (fewR L).length ≤ 20 := by simp [fewR]; omega
theorem fewR_small (L : List Wrd) : ∀ f ∈ fewR L, f.1.length ≤ 120 ∧ f.2.1.length ≤ 120 ∧ f.2.2.length ≤ 120 := fun f hf => by
  obtain ⟨g, _, rfl⟩ := List.mem_map.1 hf
  refine ⟨?_, ?_, ?_⟩ <;> (simp [cutR]; omega)
theorem cut120 (a : List UInt8) : ∃ p : Nat, min (a.length : Int) 120 = p ∧ p ≤ a.length ∧ a.take 120 = a.take p := ⟨min a.length 120, by omega, by omega, by
  by_cases h : a.length ≤ 120
  · rw [Nat.min_eq_left h, List.take_length, List.take_of_length_le h]
  · rw [Nat.min_eq_right (by omega)]⟩

set_option maxHeartbeats 1600000 in
set_option maxRecDepth 100000 in
theorem rtFew (v : Value) (L : List Wrd) (w : World) (hr : ReadsW w v L) (hl : ∀ f ∈ L, f.1.length ≤ 9223372036854775807 ∧ f.2.1.length ≤ 9223372036854775807 ∧ f.2.2.length ≤ 9223372036854775807) :
    Calls Tryz.prog 5 #[v] w fun e w' => ∃ v', e = .returned v' ∧ ReadsW w' v' (fewR L) ∧ Below w.heap.size w w' := by
  have HR := Lib.hid hr
  obtain ⟨ao, cap, rfl, hc1, hc2, hc3, _⟩ := hr
  have hm : maxLen = 9223372036854775807 := rfl
  rw [hm] at hc2
  obtain ⟨T, hT, hTl, hTm⟩ : ∃ T, L.take 20 = T ∧ T.length ≤ L.length ∧ min (L.length : Int) 20 = (T.length : Int) := ⟨_, rfl, by simp; omega, by simp; omega⟩
  have hTR : ReadsW w (.slice ao T.length cap) T := by
    have e : L.take T.length = T := by
      rw [← hT, List.length_take]
      by_cases h : L.length ≤ 20
      · rw [Nat.min_eq_right h, List.take_length, List.take_of_length_le h]
      · rw [Nat.min_eq_left (by omega)]
    have := HR.out.take hTl
    rw [e] at this
    exact this
  have hfew : fewR L = T.map cutR := by unfold fewR; rw [hT]
  have hl2 : ∀ f ∈ T, f.1.length ≤ 9223372036854775807 ∧ f.2.1.length ≤ 9223372036854775807 ∧ f.2.2.length ≤ 9223372036854775807 := fun f hf => hl f (by rw [← hT] at hf; exact List.mem_of_mem_take hf)
  rw [hfew]
  have hT20 : T.length ≤ 20 := by rw [← hT]; simp; omega
  have HTR := Lib.hid hTR
  have HL := Lib.hid hl2
  clear hm hT hTR hfew hl hl2 HR hc3
  go_enter Tryz.func5, Tryz.ntmps5
  go_wp2_with (at_builtin; refine wp_append_wrow rfl _ _ rfl _ w.heap.size _ [] (OwnsW.made w w.heap.size (Nat.le_refl _)) rfl ao cap T (HTR.out.below (by (repeat (first | with_reducible exact Below.refl _ _ | with_reducible assumption | with_reducible refine Below.drew ?_ | (with_reducible refine Below.setCell ?_ ?_ _; rotate_left; (first | omega | (simp <;> omega))) | (with_reducible refine Below.alloc ?_ ?_ _; rotate_left; (first | omega | (simp <;> omega))) | exact Below.refl _ _ | assumption)))) rfl (by simp; omega) (by simp) ?_; intro v' w1 hown hb; have HO := Lib.hid (show OwnsW w1 w.heap.size v' T from by simpa using hown); have hbw := Below.trans (show Below w.heap.size w _ by (repeat (first | with_reducible exact Below.refl _ _ | with_reducible assumption | with_reducible refine Below.drew ?_ | (with_reducible refine Below.setCell ?_ ?_ _; rotate_left; (first | omega | (simp <;> omega))) | (with_reducible refine Below.alloc ?_ ?_ _; rotate_left; (first | omega | (simp <;> omega))) | exact Below.refl _ _ | assumption))) hb; obtain ⟨bo, cap', hsh, k1, k2, _, _⟩ := HO.out.reads; subst hsh; clear hown)
  have hmx : maxLen = 9223372036854775807 := rfl
  rw [hmx] at k2
  clear hb hmx
  rcases Nat.eq_zero_or_pos T.length with h0 | h0
  · obtain rfl : T = [] := List.length_eq_zero_iff.1 h0
    clear h0 hTm k1
    go_wp2
    refine wp_loop_rounds 1 ?_
    rw [rounds_succ]
    go_wp2
    go_ret
    exact ⟨_, rfl, HO.out.reads, hbw⟩
  · obtain ⟨g, cap2, e1, e2, e3, e4, e5, e6, e7⟩ := HO.out.open h0
    injection e1 with e8 e9 e10
    subst e8
    subst e10
    have CW := Lib.hid (show CellsW w1 g T from ⟨e5, e6, e7⟩)
    clear e6 e7 e2 e3
    go_loopw [14] (fun iv wr => ∃ (i : Nat) (M : List Wrd), iv = .int .i64 i ∧ i ≤ T.length ∧ M.length = T.length ∧ M.take i = (T.take i).map cutR ∧ M.drop i = T.drop i ∧ CellsW wr g M ∧ Below w.heap.size w wr) (fun iv _ => T.length - (intOf iv).toNat)
    case atStart => exact ⟨0, T, rfl, Nat.zero_le _, rfl, rfl, rfl, CW.out, hbw⟩
    case round =>
      obtain ⟨i, M, rfl, hi, hMl, hM1, hM2, hcw, hB⟩ := hrel
      have HC := Lib.hid hcw
      have HB := Lib.hid hB
      have hlt := hcw.lt
      have hfz := hcw.fz
      have HM1 := Lib.hid hM1
      have HM2 := Lib.hid hM2
      by_cases hil : i < T.length
      · obtain ⟨f1, f2, f3⟩ := hcw.cell i (by omega)
        have hMi : M[i]'(by omega) = T[i] := by
          have := congrArg (fun l => l[0]?) hM2
          simpa [hil, (by omega : i < M.length)] using this
        rw [hMi] at f1 f2 f3
        obtain ⟨la, lb, lc⟩ := HL.out _ (List.getElem_mem hil)
        have hcut : cutR T[i] = (T[i].1.take 120, T[i].2.1.take 120, T[i].2.2.take 120) := rfl
        have HS1 := Lib.hid (show (M.set i (cutR T[i])).take (i + 1) = (T.take (i + 1)).map cutR by
          rw [List.take_set, List.take_succ_eq_append_getElem (by omega : i < M.length), List.take_succ_eq_append_getElem hil, List.map_append, ← hM1, List.set_append_right _ _ (by simp; omega)]
          simp [(by omega : i ≤ M.length)])
        have HS2 := Lib.hid (show (M.set i (cutR T[i])).drop (i + 1) = T.drop (i + 1) by
          rw [List.drop_set_of_lt (by omega)]
          have := congrArg (List.drop 1) hM2
          simpa [List.drop_drop, Nat.add_comm] using this)
        rw [hcut] at HS1 HS2
        obtain ⟨⟨a, b, c⟩, hab⟩ : ∃ f, T[i] = f := ⟨_, rfl⟩
        rw [hab] at f1 f2 f3 la lb lc HS1 HS2
        simp only at f1 f2 f3 la lb lc HS1 HS2
        obtain ⟨p, hp, hp1, hp2⟩ := cut120 a
        obtain ⟨q, hq, hq1, hq2⟩ := cut120 b
        obtain ⟨r, hr, hr1, hr2⟩ := cut120 c
        rw [hp2, hq2, hr2] at HS1 HS2
        clear hcut hab hp2 hq2 hr2 hMi hM1 hM2 hcw hB
        have hfar := far hlt
        go_wp2_with fail
        refine wp_region_later_tail (wr.heap.size + 1) 25 (by kernel_rfl) (by kernel_rfl) ?_
        simp only [List.take_succ_cons, List.take_zero, List.drop_succ_cons, List.drop_zero]
        have l_w2_wr_0 := @Later.at (wr.heap.size + 1) (wr.heap.size) (by omega)
        repeat (go_big_quiet_step (fail))
        refine wpQuiet_nil ?_
        rintro w2 ⟨⟨_, hb_w2⟩, rfl⟩
        clear l_w2_wr_0
        try simp only [] at hb_w2 ⊢
        have hz_w2 := hb_w2.size
        try simp at hz_w2
        have c_w2_wr_0 := fun o => hb_w2.cell (p := ⟨wr.heap.size, o, none⟩) (by first | omega | (simp <;> omega))
        have f_w2_wr_0 := fun o => hb_w2.frozen (p := ⟨wr.heap.size, o, none⟩) (by first | omega | (simp <;> omega))
        have c_w2_wr_0_0 := c_w2_wr_0 0; conv at c_w2_wr_0_0 => rhs; simp [go_sem, *]
        have f_w2_wr_0_0 := f_w2_wr_0 0; conv at f_w2_wr_0_0 => rhs; simp [go_sem, *]
        have c_w2_wr_0_1 := c_w2_wr_0 1; conv at c_w2_wr_0_1 => rhs; simp [go_sem, *]
        have f_w2_wr_0_1 := f_w2_wr_0 1; conv at f_w2_wr_0_1 => rhs; simp [go_sem, *]
        have c_w2_wr_0_2 := c_w2_wr_0 2; conv at c_w2_wr_0_2 => rhs; simp [go_sem, *]
        have f_w2_wr_0_2 := f_w2_wr_0 2; conv at f_w2_wr_0_2 => rhs; simp [go_sem, *]
        have HH_w2 := Lib.hid hb_w2
        have hB_w2 : Below wr.heap.size wr w2 := Below.trans (by (repeat (first | with_reducible exact Below.refl _ _ | with_reducible assumption | with_reducible refine Below.drew ?_ | (with_reducible refine Below.setCell ?_ ?_ _; rotate_left; (first | omega | (simp <;> omega))) | (with_reducible refine Below.alloc ?_ ?_ _; rotate_left; (first | omega | (simp <;> omega))) | exact Below.refl _ _ | assumption))) (hb_w2.mono (by first | omega | (simp <;> omega)))
        clear hb_w2 c_w2_wr_0 f_w2_wr_0
        have far_w2_wr_0 := far (show wr.heap.size < w2.heap.size by omega)
        have c1 := (hB_w2.cell (p := ⟨g, i * 3, none⟩) hlt).trans f1
        have c2 := (hB_w2.cell (p := ⟨g, i * 3 + 1, none⟩) hlt).trans f2
        have c3 := (hB_w2.cell (p := ⟨g, i * 3 + 2, none⟩) hlt).trans f3
        have c4 := (hB_w2.frozen (p := ⟨g, i * 3, none⟩) hlt).trans (hfz _)
        have c5 := (hB_w2.frozen (p := ⟨g, i * 3 + 1, none⟩) hlt).trans (hfz _)
        have c6 := (hB_w2.frozen (p := ⟨g, i * 3 + 2, none⟩) hlt).trans (hfz _)
        have HC2 := Lib.hid (HC.out.below hB_w2)
        have HB2 := Lib.hid (HB.out.trans (hB_w2.mono HB.out.size))
        clear f1 f2 f3 hfz
        go_wp2
        go_roundw
        case rel =>
          have HP := Lib.hid (HC2.out.put i (by omega) (a.take p, b.take q, c.take r))
          refine ⟨i + 1, M.set i (a.take p, b.take q, c.take r), by go_num, by omega, by rw [List.length_set]; exact hMl, HS1.out, HS2.out, ?_, ?_⟩
          · with_reducible exact HP.out
          · have h2 := HB2.out
            (repeat (first | with_reducible exact Below.refl _ _ | with_reducible assumption | with_reducible refine Below.drew ?_ | (with_reducible refine Below.setCell ?_ ?_ _; rotate_left; (first | omega | (simp <;> omega))) | (with_reducible refine Below.alloc ?_ ?_ _; rotate_left; (first | omega | (simp <;> omega))) | exact Below.refl _ _ | assumption))
        case measure => simp [intOf]; omega
      · obtain rfl : i = T.length := by omega
        have hMM : M.take M.length = T.map cutR := by rw [hMl]; simpa using HM1.out
        rw [List.take_length] at hMM
        subst hMM
        clear hM1 hM2
        go_wp2
        go_ret
        refine ⟨_, rfl, ?_, HB.out⟩
        have := HC.out.reads (n := T.length) (cap := cap') (by simp) (by simpa using k1) k2
        rw [List.take_of_length_le (by simp)] at this
        exact this
end Go.Proofs.YtgjemgilanhdiaaGreatDoor
namespace Go.Proofs.YtgjemgilanhdiaaGreatDoor
open Go.RowKit Go.Sort Go.Shelf
set_option linter.unusedVariables false
set_option linter.unusedSimpArgs false

abbrev rtv (f : Wrd) : Value := .agg #[.string (S f.1), .string (S f.2.1), .string (S f.2.2)]
def IdxR (p : Wrd → Bool) (L : List Wrd) (r : Int) : Prop :=
  (r = -1 ∧ ∀ j (h : j < L.length), p L[j] = false) ∨ ∃ i : Nat, r = i ∧ ∃ h : i < L.length, p L[i] = true ∧ ∀ j (h : j < L.length), j < i → p L[j] = false

set_option maxHeartbeats 1600000 in
theorem idxRt (fn : Nat) (lb : Array Value) (p : Wrd → Bool) (eg : ∀ args w, (callFunc fn args).run Tryz.prog w = .ok (.enter fn args) w) (v : Value) (L : List Wrd) (W : World) (hr : ReadsW W v L)
    (hcl : ∀ f, f ∈ L → ∀ W', Below W.heap.size W W' → Calls Tryz.prog fn (#[rtv f] ++ lb) W' fun e w' => e = .returned (.bool (p f)) ∧ Below W'.heap.size W' w') :
    Calls Tryz.prog 29 #[v, .func (.func fn) #[] lb] W fun e w' => ∃ r, e = .returned (.int .i64 r) ∧ IdxR p L r ∧ Below W.heap.size W w' := by
  obtain ⟨ao, cap, rfl, hc1, hc2, hc3, hcell⟩ := hr
  have hm : maxLen = 9223372036854775807 := rfl
  rw [hm] at hc2
  have HC := Lib.hid hcell
  have HF := Lib.hid hcl
  clear hm hcell hcl hc3
  go_enter Tryz.func29, Tryz.ntmps29
  go_wp2
  go_loopw [8] (fun iv wr => ∃ i : Nat, iv = .int .i64 i ∧ i ≤ L.length ∧ (∀ j (h : j < L.length), j < i → p L[j] = false) ∧ Below W.heap.size W wr) (fun iv _ => L.length - (intOf iv).toNat)
  case atStart => exact ⟨0, rfl, Nat.zero_le _, fun j _ h => by omega, by (repeat (first | with_reducible exact Below.refl _ _ | with_reducible assumption | with_reducible refine Below.drew ?_ | (with_reducible refine Below.setCell ?_ ?_ _; rotate_left; (first | omega | (simp <;> omega))) | (with_reducible refine Below.alloc ?_ ?_ _; rotate_left; (first | omega | (simp <;> omega))) | exact Below.refl _ _ | assumption))⟩
  case round =>
    obtain ⟨i, rfl, hi, hall, hB⟩ := hrel
    have HA := Lib.hid hall
    have hz := hB.size
    clear hall
    by_cases hlt : i < L.length
    · obtain ⟨b, off, rfl, hb, hcl⟩ := HC.out (by omega)
      obtain ⟨e1, e2, e3⟩ := hcl i hlt
      rw [← hB.cell (p := ⟨b, off + i * 3, none⟩) hb] at e1
      rw [← hB.cell (p := ⟨b, off + i * 3 + 1, none⟩) hb] at e2
      rw [← hB.cell (p := ⟨b, off + i * 3 + 2, none⟩) hb] at e3
      have hcall := HF.out L[i] (List.getElem_mem hlt) wr hB
      have HYES := Lib.hid (show p L[i] = true → IdxR p L i from fun h => .inr ⟨i, rfl, hlt, h, HA.out⟩)
      have HNO := Lib.hid (show p L[i] = false → ∀ j (h : j < L.length), j < i + 1 → p L[j] = false from fun h j hj hji => by
        by_cases e : j = i
        · subst e; exact h
        · exact HA.out j hj (by omega))
      obtain ⟨⟨n, x, z⟩, hf⟩ : ∃ f, L[i] = f := ⟨_, rfl⟩
      rw [hf] at e1 e2 e3 hcall HYES HNO
      obtain ⟨y, hy⟩ : ∃ y, p (n, x, z) = y := ⟨_, rfl⟩
      rw [hy] at hcall HYES HNO
      have hcall : Calls Tryz.prog fn (#[.agg #[.string (S n), .string (S x), .string (S z)]] ++ lb) wr fun e w' => e = .returned (.bool y) ∧ Below wr.heap.size wr w' := hcall
      simp only at e1 e2 e3
      clear hcl hf hy
      cases y with
      | true =>
        go_wp2_with (go_at_fn fn; refine hcall.mono ?_; rintro e w' ⟨rfl, hb1⟩)
        go_ret
        exact ⟨_, rfl, HYES.out trivial, hB.trans (hb1.mono hz)⟩
      | false =>
        go_wp2_with (go_at_fn fn; refine hcall.mono ?_; rintro e w' ⟨rfl, hb1⟩)
        go_roundw
        case rel => exact ⟨i + 1, by go_num, by omega, HNO.out trivial, hB.trans (hb1.mono hz)⟩
        case measure => simp [intOf]; omega
    · have H := Lib.hid (show IdxR p L (-1) from .inl ⟨rfl, fun j hj => HA.out j hj (by omega)⟩)
      go_wp2
      go_ret
      exact ⟨_, rfl, H.out, hB⟩

set_option maxHeartbeats 1600000 in
theorem cloneRt (v : Value) (L : List Wrd) (w : World) (hr : ReadsW w v L) (hlen : L.length ≤ 1099511627776) :
    Calls Tryz.prog 14 #[v] w fun e w' => ∃ v', e = .returned v' ∧ OwnsW w' w.heap.size v' L ∧ Below w.heap.size w w' := by
  have HR := Lib.hid hr
  obtain ⟨ao, cap, rfl, hc1, hc2, hc3, hcell⟩ := hr
  cases ao with
  | none =>
    have := hc3 rfl
    subst this
    have h0 : L.length = 0 := by omega
    obtain rfl : L = [] := List.length_eq_zero_iff.1 h0
    have hnil : ∀ W, (binOp .eql 22 (.slice none 0 0) (.slice none 0 0)).run Tryz.prog W = .ok (.bool true) W := fun W => Lib.run_eql_slice_nil W _ _ none 0 0 0 0 Tryz.underlying22
    clear hc1 hc2 hc3 hcell h0
    go_enter Tryz.func14, Tryz.ntmps14
    go_wp2
    go_ret
    exact ⟨_, rfl, OwnsW.nil _ _, by (repeat (first | with_reducible exact Below.refl _ _ | with_reducible assumption | with_reducible refine Below.drew ?_ | (with_reducible refine Below.setCell ?_ ?_ _; rotate_left; (first | omega | (simp <;> omega))) | (with_reducible refine Below.alloc ?_ ?_ _; rotate_left; (first | omega | (simp <;> omega))) | exact Below.refl _ _ | assumption))⟩
  | some ad =>
    have hnil : ∀ W, (binOp .eql 22 (.slice (some ad) L.length cap) (.slice none 0 0)).run Tryz.prog W = .ok (.bool false) W := fun W => Lib.run_eql_slice_nil W _ _ (some ad) L.length cap 0 0 Tryz.underlying22
    clear hc1 hc2 hc3 hcell
    go_enter Tryz.func14, Tryz.ntmps14
    go_wp2_with (at_builtin; refine wp_append_wrow rfl _ _ rfl _ w.heap.size _ [] (OwnsW.made w w.heap.size (Nat.le_refl _)) rfl (some ad) cap L (HR.out.below (by (repeat (first | with_reducible exact Below.refl _ _ | with_reducible assumption | with_reducible refine Below.drew ?_ | (with_reducible refine Below.setCell ?_ ?_ _; rotate_left; (first | omega | (simp <;> omega))) | (with_reducible refine Below.alloc ?_ ?_ _; rotate_left; (first | omega | (simp <;> omega))) | exact Below.refl _ _ | assumption)))) rfl (by simp; omega) (by simp) ?_; intro v' w1 hown hb; have HO := Lib.hid hown; have hbw := Below.trans (show Below w.heap.size w _ by (repeat (first | with_reducible exact Below.refl _ _ | with_reducible assumption | with_reducible refine Below.drew ?_ | (with_reducible refine Below.setCell ?_ ?_ _; rotate_left; (first | omega | (simp <;> omega))) | (with_reducible refine Below.alloc ?_ ?_ _; rotate_left; (first | omega | (simp <;> omega))) | exact Below.refl _ _ | assumption))) hb; clear hown)
    go_ret
    exact ⟨_, rfl, by simpa using HO.out, hbw⟩
end Go.Proofs.YtgjemgilanhdiaaGreatDoor
