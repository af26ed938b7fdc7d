/- The closure that pairs.Cookies hands to parts; pairs.Cookies: the walks. pairs.Cookies: the walk. -/
import Derived.Test.YtenflcaalckdfaaGreatDoorVv11
import Derived.Test.YtenflcaalckdfaaGreatDoorVv12
import Derived.Test.YtenflcaalckdfaaGreatDoorVv6
namespace Go.Proofs.YtenflcaalckdfaaGreatDoor
open Go.RowKit Go.Sort Go.Shelf
set_option linter.unusedVariables false

theorem trim_len (l : List UInt8) : (trim l).length ≤ l.length := by
  unfold trim trimL trimR
  refine Nat.le_trans (List.dropWhile_sublist _).length_le ?_
  rw [List.length_reverse]
  refine Nat.le_trans (List.dropWhile_sublist _).length_le ?_
  rw [List.length_reverse]
  exact Nat.le_refl _
def bareV (v : List UInt8) : List UInt8 := if unqE v = 0 then unqL v else v
def cookieOf (p : List UInt8) : List Fld :=
  if (cut1 (trim p) 61).2.2 = true ∧ (trim (cut1 (trim p) 61).1).isEmpty = false then [(trim (cut1 (trim p) 61).1, bareV (trim (cut1 (trim p) 61).2.1))] else []
theorem unqE_cases (v : List UInt8) : unqE v = 0 ∨ unqE v = 11 := by unfold unqE; split <;> simp

set_option maxHeartbeats 3200000 in
set_option maxRecDepth 100000 in
theorem cookieClo (bx base : Nat) (hbb : bx < base) (L : List Fld) (p : List UInt8) (hp : p.length ≤ 1000000) (w : World) (hbase : base ≤ w.heap.size) (h : PairBox base bx L w) (hl : L.length ≤ 1099511627776) :
    Calls Tryz.prog 99 #[.string (S p), .pointer (some ⟨bx, 0, none⟩)] w fun e w' => (∃ r, e = .returned r) ∧ PairBox base bx (L ++ cookieOf p) w' ∧ Below bx w w' ∧ ∀ k, bx < k → k < base → w'.heap[k]? = w.heap[k]? := by
  obtain ⟨v, hbox, hown⟩ := h
  have hL : cookieOf p = (if (cut1 (trim p) 61).2.2 = true ∧ (trim (cut1 (trim p) 61).1).isEmpty = false then [(trim (cut1 (trim p) 61).1, bareV (trim (cut1 (trim p) 61).2.1))] else []) := rfl
  obtain ⟨K, hK⟩ : ∃ K, cookieOf p = K := ⟨_, rfl⟩
  rw [hK] at hL ⊢
  have l1 := trim_len p
  obtain ⟨h1, h2⟩ := cut1_len (trim p) 61
  have T1 := Lib.hid (fun W => textTrim p (by omega) W)
  obtain ⟨t1, ht1⟩ : ∃ x, trim p = x := ⟨_, rfl⟩
  rw [ht1] at T1 hL h1 h2 l1
  obtain ⟨⟨a, b, t⟩, hc⟩ : ∃ x, cut1 t1 61 = x := ⟨_, rfl⟩
  rw [hc] at h1 h2 hL
  simp only at h1 h2 hL
  have CU := Lib.hid (fun W => cut1_S hc (by omega) W)
  have T2 := Lib.hid (fun W => textTrim a (by omega) W)
  have T3 := Lib.hid (fun W => textTrim b (by omega) W)
  have l3 := trim_len b
  obtain ⟨na, hna⟩ : ∃ x, trim a = x := ⟨_, rfl⟩
  obtain ⟨vb, hvb⟩ : ∃ x, trim b = x := ⟨_, rfl⟩
  rw [hna] at T2 hL
  rw [hvb] at T3 hL l3
  have UN := Lib.hid (fun W => textUnquote vb (by omega) W)
  have hbv : bareV vb = if unqE vb = 0 then unqL vb else vb := rfl
  have hue := unqE_cases vb
  obtain ⟨ub, hub⟩ : ∃ x, unqL vb = x := ⟨_, rfl⟩
  obtain ⟨ue, hue2⟩ : ∃ x, unqE vb = x := ⟨_, rfl⟩
  rw [hub, hue2] at UN hbv
  rw [hue2] at hue
  have HL0 := Lib.hid hL
  have HBV := Lib.hid hbv
  have HO := Lib.hid hown
  have HX := Lib.hid hbox
  have c0 := hbox.cell
  have f0 := hbox.frozen
  have l0 := hbox.lt
  obtain ⟨ao, cap, rfl, _⟩ := hown.reads
  clear hc ht1 hna hvb hub hue2 hbv hL hK hown hbox
  cases t with
  | false =>
    have HL := Lib.hid (show K = [] by rw [HL0.out]; simp)
    go_enter Tryz.func99, Tryz.ntmps99
    go_wp2_with (first
      | (go_at_call 100; with_reducible refine Calls.mono (T1.out _) ?_; rintro e w1 ⟨rfl, hq1⟩; have hb1 := Below.trans (show Below w.heap.size w _ by (repeat (first | with_reducible exact Below.refl _ _ | with_reducible assumption | with_reducible refine Below.drew ?_ | (with_reducible refine Below.setCell ?_ ?_ _; rotate_left; (first | omega | (simp <;> omega))) | (with_reducible refine Below.alloc ?_ ?_ _; rotate_left; (first | omega | (simp <;> omega))) | exact Below.refl _ _ | assumption))) (hq1.mono (by (first | omega | (simp <;> omega)))); have hz1 := hb1.size; have c1 := (hb1.cell (p := ⟨bx, 0, none⟩) l0).trans c0; have fr1 := far (show bx < w1.heap.size by omega))
      | (go_at_call 25; with_reducible refine Calls.mono (CU.out _) ?_; rintro e w2 ⟨rfl, hq2⟩; have hb2 := Below.trans (show Below w.heap.size w _ by (repeat (first | with_reducible exact Below.refl _ _ | with_reducible assumption | with_reducible refine Below.drew ?_ | (with_reducible refine Below.setCell ?_ ?_ _; rotate_left; (first | omega | (simp <;> omega))) | (with_reducible refine Below.alloc ?_ ?_ _; rotate_left; (first | omega | (simp <;> omega))) | exact Below.refl _ _ | assumption))) (hq2.mono (by (first | omega | (simp <;> omega)))); have hz2 := hb2.size; have c2 := (hb2.cell (p := ⟨bx, 0, none⟩) l0).trans c0; have fr2 := far (show bx < w2.heap.size by omega))
      | (go_at_call 100; with_reducible refine Calls.mono (T2.out _) ?_; rintro e w3 ⟨rfl, hq3⟩; have hb3 := Below.trans (show Below w.heap.size w _ by (repeat (first | with_reducible exact Below.refl _ _ | with_reducible assumption | with_reducible refine Below.drew ?_ | (with_reducible refine Below.setCell ?_ ?_ _; rotate_left; (first | omega | (simp <;> omega))) | (with_reducible refine Below.alloc ?_ ?_ _; rotate_left; (first | omega | (simp <;> omega))) | exact Below.refl _ _ | assumption))) (hq3.mono (by (first | omega | (simp <;> omega)))); have hz3 := hb3.size; have c3 := (hb3.cell (p := ⟨bx, 0, none⟩) l0).trans c0; have fr3 := far (show bx < w3.heap.size by omega))
      | (go_at_call 100; with_reducible refine Calls.mono (T3.out _) ?_; rintro e w4 ⟨rfl, hq4⟩; have hb4 := Below.trans (show Below w.heap.size w _ by (repeat (first | with_reducible exact Below.refl _ _ | with_reducible assumption | with_reducible refine Below.drew ?_ | (with_reducible refine Below.setCell ?_ ?_ _; rotate_left; (first | omega | (simp <;> omega))) | (with_reducible refine Below.alloc ?_ ?_ _; rotate_left; (first | omega | (simp <;> omega))) | exact Below.refl _ _ | assumption))) (hq4.mono (by (first | omega | (simp <;> omega)))); have hz4 := hb4.size; have c4 := (hb4.cell (p := ⟨bx, 0, none⟩) l0).trans c0; have fr4 := far (show bx < w4.heap.size by omega))
      | fail)

    refine bodyPost_ret (results_none rfl _ _ _) rfl ?_
    exact ⟨⟨_, rfl⟩, ⟨_, box_under HX.out hb4, by rw [HL.out, List.append_nil]; exact HO.out.below hb4⟩, hb4.mono (by omega), fun k _ hk => hb4.block k (by omega)⟩
  | true =>
    cases hne : na.isEmpty with
    | true =>
      have HL := Lib.hid (show K = [] by rw [HL0.out, hne]; simp)
      go_enter Tryz.func99, Tryz.ntmps99
      go_wp2_with (first
        | (go_at_call 100; with_reducible refine Calls.mono (T1.out _) ?_; rintro e w1 ⟨rfl, hq1⟩; have hb1 := Below.trans (show Below w.heap.size w _ by (repeat (first | with_reducible exact Below.refl _ _ | with_reducible assumption | with_reducible refine Below.drew ?_ | (with_reducible refine Below.setCell ?_ ?_ _; rotate_left; (first | omega | (simp <;> omega))) | (with_reducible refine Below.alloc ?_ ?_ _; rotate_left; (first | omega | (simp <;> omega))) | exact Below.refl _ _ | assumption))) (hq1.mono (by (first | omega | (simp <;> omega)))); have hz1 := hb1.size; have c1 := (hb1.cell (p := ⟨bx, 0, none⟩) l0).trans c0; have fr1 := far (show bx < w1.heap.size by omega))
        | (go_at_call 25; with_reducible refine Calls.mono (CU.out _) ?_; rintro e w2 ⟨rfl, hq2⟩; have hb2 := Below.trans (show Below w.heap.size w _ by (repeat (first | with_reducible exact Below.refl _ _ | with_reducible assumption | with_reducible refine Below.drew ?_ | (with_reducible refine Below.setCell ?_ ?_ _; rotate_left; (first | omega | (simp <;> omega))) | (with_reducible refine Below.alloc ?_ ?_ _; rotate_left; (first | omega | (simp <;> omega))) | exact Below.refl _ _ | assumption))) (hq2.mono (by (first | omega | (simp <;> omega)))); have hz2 := hb2.size; have c2 := (hb2.cell (p := ⟨bx, 0, none⟩) l0).trans c0; have fr2 := far (show bx < w2.heap.size by omega))
        | (go_at_call 100; with_reducible refine Calls.mono (T2.out _) ?_; rintro e w3 ⟨rfl, hq3⟩; have hb3 := Below.trans (show Below w.heap.size w _ by (repeat (first | with_reducible exact Below.refl _ _ | with_reducible assumption | with_reducible refine Below.drew ?_ | (with_reducible refine Below.setCell ?_ ?_ _; rotate_left; (first | omega | (simp <;> omega))) | (with_reducible refine Below.alloc ?_ ?_ _; rotate_left; (first | omega | (simp <;> omega))) | exact Below.refl _ _ | assumption))) (hq3.mono (by (first | omega | (simp <;> omega)))); have hz3 := hb3.size; have c3 := (hb3.cell (p := ⟨bx, 0, none⟩) l0).trans c0; have fr3 := far (show bx < w3.heap.size by omega))
        | (go_at_call 100; with_reducible refine Calls.mono (T3.out _) ?_; rintro e w4 ⟨rfl, hq4⟩; have hb4 := Below.trans (show Below w.heap.size w _ by (repeat (first | with_reducible exact Below.refl _ _ | with_reducible assumption | with_reducible refine Below.drew ?_ | (with_reducible refine Below.setCell ?_ ?_ _; rotate_left; (first | omega | (simp <;> omega))) | (with_reducible refine Below.alloc ?_ ?_ _; rotate_left; (first | omega | (simp <;> omega))) | exact Below.refl _ _ | assumption))) (hq4.mono (by (first | omega | (simp <;> omega)))); have hz4 := hb4.size; have c4 := (hb4.cell (p := ⟨bx, 0, none⟩) l0).trans c0; have fr4 := far (show bx < w4.heap.size by omega))
        | fail)

      refine bodyPost_ret (results_none rfl _ _ _) rfl ?_
      exact ⟨⟨_, rfl⟩, ⟨_, box_under HX.out hb4, by rw [HL.out, List.append_nil]; exact HO.out.below hb4⟩, hb4.mono (by omega), fun k _ hk => hb4.block k (by omega)⟩
    | false =>
      rcases hue with rfl | rfl
      · have HL := Lib.hid (show K = [(na, ub)] by rw [HL0.out, hne, HBV.out]; simp)
        go_enter Tryz.func99, Tryz.ntmps99
        go_wp2_with (first
          | (go_at_call 100; with_reducible refine Calls.mono (T1.out _) ?_; rintro e w1 ⟨rfl, hq1⟩; have hb1 := Below.trans (show Below w.heap.size w _ by (repeat (first | with_reducible exact Below.refl _ _ | with_reducible assumption | with_reducible refine Below.drew ?_ | (with_reducible refine Below.setCell ?_ ?_ _; rotate_left; (first | omega | (simp <;> omega))) | (with_reducible refine Below.alloc ?_ ?_ _; rotate_left; (first | omega | (simp <;> omega))) | exact Below.refl _ _ | assumption))) (hq1.mono (by (first | omega | (simp <;> omega)))); have hz1 := hb1.size; have c1 := (hb1.cell (p := ⟨bx, 0, none⟩) l0).trans c0; have fr1 := far (show bx < w1.heap.size by omega))
          | (go_at_call 25; with_reducible refine Calls.mono (CU.out _) ?_; rintro e w2 ⟨rfl, hq2⟩; have hb2 := Below.trans (show Below w.heap.size w _ by (repeat (first | with_reducible exact Below.refl _ _ | with_reducible assumption | with_reducible refine Below.drew ?_ | (with_reducible refine Below.setCell ?_ ?_ _; rotate_left; (first | omega | (simp <;> omega))) | (with_reducible refine Below.alloc ?_ ?_ _; rotate_left; (first | omega | (simp <;> omega))) | exact Below.refl _ _ | assumption))) (hq2.mono (by (first | omega | (simp <;> omega)))); have hz2 := hb2.size; have c2 := (hb2.cell (p := ⟨bx, 0, none⟩) l0).trans c0; have fr2 := far (show bx < w2.heap.size by omega))
          | (go_at_call 100; with_reducible refine Calls.mono (T2.out _) ?_; rintro e w3 ⟨rfl, hq3⟩; have hb3 := Below.trans (show Below w.heap.size w _ by (repeat (first | with_reducible exact Below.refl _ _ | with_reducible assumption | with_reducible refine Below.drew ?_ | (with_reducible refine Below.setCell ?_ ?_ _; rotate_left; (first | omega | (simp <;> omega))) | (with_reducible refine Below.alloc ?_ ?_ _; rotate_left; (first | omega | (simp <;> omega))) | exact Below.refl _ _ | assumption))) (hq3.mono (by (first | omega | (simp <;> omega)))); have hz3 := hb3.size; have c3 := (hb3.cell (p := ⟨bx, 0, none⟩) l0).trans c0; have fr3 := far (show bx < w3.heap.size by omega))
          | (go_at_call 100; with_reducible refine Calls.mono (T3.out _) ?_; rintro e w4 ⟨rfl, hq4⟩; have hb4 := Below.trans (show Below w.heap.size w _ by (repeat (first | with_reducible exact Below.refl _ _ | with_reducible assumption | with_reducible refine Below.drew ?_ | (with_reducible refine Below.setCell ?_ ?_ _; rotate_left; (first | omega | (simp <;> omega))) | (with_reducible refine Below.alloc ?_ ?_ _; rotate_left; (first | omega | (simp <;> omega))) | exact Below.refl _ _ | assumption))) (hq4.mono (by (first | omega | (simp <;> omega)))); have hz4 := hb4.size; have c4 := (hb4.cell (p := ⟨bx, 0, none⟩) l0).trans c0; have fr4 := far (show bx < w4.heap.size by omega))
          | (go_at_call 101; with_reducible refine Calls.mono (UN.out _) ?_; rintro e w5 ⟨rfl, hq5⟩; have hb5 := Below.trans (show Below w.heap.size w _ by (repeat (first | with_reducible exact Below.refl _ _ | with_reducible assumption | with_reducible refine Below.drew ?_ | (with_reducible refine Below.setCell ?_ ?_ _; rotate_left; (first | omega | (simp <;> omega))) | (with_reducible refine Below.alloc ?_ ?_ _; rotate_left; (first | omega | (simp <;> omega))) | exact Below.refl _ _ | assumption))) (hq5.mono (by (first | omega | (simp <;> omega)))); have hz5 := hb5.size; have c5 := (hb5.cell (p := ⟨bx, 0, none⟩) l0).trans c0; have fr5 := far (show bx < w5.heap.size by omega))
          | (at_builtin; refine wp_append_fld rfl _ _ rfl _ base _ L (na, ub) (HO.out.below (show Below w.heap.size w _ by (repeat (first | with_reducible exact Below.refl _ _ | with_reducible assumption | with_reducible refine Below.drew ?_ | (with_reducible refine Below.setCell ?_ ?_ _; rotate_left; (first | omega | (simp <;> omega))) | (with_reducible refine Below.alloc ?_ ?_ _; rotate_left; (first | omega | (simp <;> omega))) | exact Below.refl _ _ | assumption)))) rfl _ rfl rfl (by omega) (by (first | omega | (simp <;> omega))) ?_; intro v6 w6 hown6 hb6 hg6; have HO6 := Lib.hid hown6; have B6 := Boxed.kept (Boxed.alloc (box_under HX.out (show Below w.heap.size w _ from hb5)) _) hg6 (fun e => by have := (World.ownsRow.lt HO.out bx e.symm).1; omega); have c6 := B6.cell; have f6 := B6.frozen; have HB6 := Lib.hid ((show Below base w _ from hb5.mono hbase).trans hb6); have HX6 := Lib.hid B6; obtain ⟨ao6, cap6, rfl, _⟩ := hown6.reads; clear hown6 hb6 hg6 B6)
          | fail)

        go_end0
        have hown7 : OwnsF w6 base (.slice ao6 (L.length + 1) cap6) (L ++ [(na, ub)]) := by simpa using HO6.out
        rw [HL.out]
        refine ⟨⟨_, rfl⟩, ⟨_, Boxed.set _ HX6.out, World.ownsRow.kept hown7 (grownBy_setCell' w6 bx _) (.inr fun e => by have := (World.ownsRow.lt hown7 bx e).1; omega)⟩, (HB6.out.mono (show bx ≤ base by omega)).setCell (p := ⟨bx, 0, none⟩) (Nat.le_refl bx) _, fun k hk1 hk2 => (Below.heap_setCell _ _ _ k (show k ≠ bx by omega)).trans (HB6.out.block k hk2)⟩
      · have HL := Lib.hid (show K = [(na, vb)] by rw [HL0.out, hne, HBV.out]; simp)
        go_enter Tryz.func99, Tryz.ntmps99
        go_wp2_with (first
          | (go_at_call 100; with_reducible refine Calls.mono (T1.out _) ?_; rintro e w1 ⟨rfl, hq1⟩; have hb1 := Below.trans (show Below w.heap.size w _ by (repeat (first | with_reducible exact Below.refl _ _ | with_reducible assumption | with_reducible refine Below.drew ?_ | (with_reducible refine Below.setCell ?_ ?_ _; rotate_left; (first | omega | (simp <;> omega))) | (with_reducible refine Below.alloc ?_ ?_ _; rotate_left; (first | omega | (simp <;> omega))) | exact Below.refl _ _ | assumption))) (hq1.mono (by (first | omega | (simp <;> omega)))); have hz1 := hb1.size; have c1 := (hb1.cell (p := ⟨bx, 0, none⟩) l0).trans c0; have fr1 := far (show bx < w1.heap.size by omega))
          | (go_at_call 25; with_reducible refine Calls.mono (CU.out _) ?_; rintro e w2 ⟨rfl, hq2⟩; have hb2 := Below.trans (show Below w.heap.size w _ by (repeat (first | with_reducible exact Below.refl _ _ | with_reducible assumption | with_reducible refine Below.drew ?_ | (with_reducible refine Below.setCell ?_ ?_ _; rotate_left; (first | omega | (simp <;> omega))) | (with_reducible refine Below.alloc ?_ ?_ _; rotate_left; (first | omega | (simp <;> omega))) | exact Below.refl _ _ | assumption))) (hq2.mono (by (first | omega | (simp <;> omega)))); have hz2 := hb2.size; have c2 := (hb2.cell (p := ⟨bx, 0, none⟩) l0).trans c0; have fr2 := far (show bx < w2.heap.size by omega))
          | (go_at_call 100; with_reducible refine Calls.mono (T2.out _) ?_; rintro e w3 ⟨rfl, hq3⟩; have hb3 := Below.trans (show Below w.heap.size w _ by (repeat (first | with_reducible exact Below.refl _ _ | with_reducible assumption | with_reducible refine Below.drew ?_ | (with_reducible refine Below.setCell ?_ ?_ _; rotate_left; (first | omega | (simp <;> omega))) | (with_reducible refine Below.alloc ?_ ?_ _; rotate_left; (first | omega | (simp <;> omega))) | exact Below.refl _ _ | assumption))) (hq3.mono (by (first | omega | (simp <;> omega)))); have hz3 := hb3.size; have c3 := (hb3.cell (p := ⟨bx, 0, none⟩) l0).trans c0; have fr3 := far (show bx < w3.heap.size by omega))
          | (go_at_call 100; with_reducible refine Calls.mono (T3.out _) ?_; rintro e w4 ⟨rfl, hq4⟩; have hb4 := Below.trans (show Below w.heap.size w _ by (repeat (first | with_reducible exact Below.refl _ _ | with_reducible assumption | with_reducible refine Below.drew ?_ | (with_reducible refine Below.setCell ?_ ?_ _; rotate_left; (first | omega | (simp <;> omega))) | (with_reducible refine Below.alloc ?_ ?_ _; rotate_left; (first | omega | (simp <;> omega))) | exact Below.refl _ _ | assumption))) (hq4.mono (by (first | omega | (simp <;> omega)))); have hz4 := hb4.size; have c4 := (hb4.cell (p := ⟨bx, 0, none⟩) l0).trans c0; have fr4 := far (show bx < w4.heap.size by omega))
          | (go_at_call 101; with_reducible refine Calls.mono (UN.out _) ?_; rintro e w5 ⟨rfl, hq5⟩; have hb5 := Below.trans (show Below w.heap.size w _ by (repeat (first | with_reducible exact Below.refl _ _ | with_reducible assumption | with_reducible refine Below.drew ?_ | (with_reducible refine Below.setCell ?_ ?_ _; rotate_left; (first | omega | (simp <;> omega))) | (with_reducible refine Below.alloc ?_ ?_ _; rotate_left; (first | omega | (simp <;> omega))) | exact Below.refl _ _ | assumption))) (hq5.mono (by (first | omega | (simp <;> omega)))); have hz5 := hb5.size; have c5 := (hb5.cell (p := ⟨bx, 0, none⟩) l0).trans c0; have fr5 := far (show bx < w5.heap.size by omega))
          | (at_builtin; refine wp_append_fld rfl _ _ rfl _ base _ L (na, vb) (HO.out.below (show Below w.heap.size w _ by (repeat (first | with_reducible exact Below.refl _ _ | with_reducible assumption | with_reducible refine Below.drew ?_ | (with_reducible refine Below.setCell ?_ ?_ _; rotate_left; (first | omega | (simp <;> omega))) | (with_reducible refine Below.alloc ?_ ?_ _; rotate_left; (first | omega | (simp <;> omega))) | exact Below.refl _ _ | assumption)))) rfl _ rfl rfl (by omega) (by (first | omega | (simp <;> omega))) ?_; intro v6 w6 hown6 hb6 hg6; have HO6 := Lib.hid hown6; have B6 := Boxed.kept (Boxed.alloc (box_under HX.out (show Below w.heap.size w _ from hb5)) _) hg6 (fun e => by have := (World.ownsRow.lt HO.out bx e.symm).1; omega); have c6 := B6.cell; have f6 := B6.frozen; have HB6 := Lib.hid ((show Below base w _ from hb5.mono hbase).trans hb6); have HX6 := Lib.hid B6; obtain ⟨ao6, cap6, rfl, _⟩ := hown6.reads; clear hown6 hb6 hg6 B6)
          | fail)

        go_end0
        have hown7 : OwnsF w6 base (.slice ao6 (L.length + 1) cap6) (L ++ [(na, vb)]) := by simpa using HO6.out
        rw [HL.out]
        refine ⟨⟨_, rfl⟩, ⟨_, Boxed.set _ HX6.out, World.ownsRow.kept hown7 (grownBy_setCell' w6 bx _) (.inr fun e => by have := (World.ownsRow.lt hown7 bx e).1; omega)⟩, (HB6.out.mono (show bx ≤ base by omega)).setCell (p := ⟨bx, 0, none⟩) (Nat.le_refl bx) _, fun k hk1 hk2 => (Below.heap_setCell _ _ _ k (show k ≠ bx by omega)).trans (HB6.out.block k hk2)⟩
end Go.Proofs.YtenflcaalckdfaaGreatDoor
namespace Go.Proofs.YtenflcaalckdfaaGreatDoor
open Go.RowKit Go.Sort Go.Shelf
set_option linter.unusedVariables false

def cookiesL (s : List UInt8) : List Fld := (someL (Lib.split s [59])).flatMap cookieOf
theorem cookieOf_len (p : List UInt8) : (cookieOf p).length ≤ 1 := by unfold cookieOf; split <;> simp
theorem cookies_len : ∀ L : List (List UInt8), (L.flatMap cookieOf).length ≤ L.length
  | [] => by simp
  | p :: L => by rw [List.flatMap_cons, List.length_append, List.length_cons]; have := cookieOf_len p; have := cookies_len L; omega

set_option maxHeartbeats 1600000 in
set_option maxRecDepth 100000 in
theorem pairsCookies (s : List UInt8) (hs : s.length ≤ 1000000) (w : World) (hM : ∃ m, w.cell? ⟨0, 0, none⟩ = some (.int .i64 m)) :
    Calls Tryz.prog 63 #[.string (S s)] w fun e w' => ∃ v, e = .returned v ∧ OwnsF w' w.heap.size v (cookiesL s) ∧ Below w.heap.size w w' := by
  have hw0 : 0 < w.heap.size := by
    obtain ⟨m, hm⟩ := hM
    exact block_lt_of_cell hm
  have B0 := Boxed.new w 66 (.slice none 0 0)
  have hb0 : Below w.heap.size w (w.alloc (.cells #[.slice none 0 0] 66)) := by (repeat (first | with_reducible exact Below.refl _ _ | with_reducible assumption | with_reducible refine Below.drew ?_ | (with_reducible refine Below.setCell ?_ ?_ _; rotate_left; (first | omega | (simp <;> omega))) | (with_reducible refine Below.alloc ?_ ?_ _; rotate_left; (first | omega | (simp <;> omega))) | exact Below.refl _ _ | assumption))
  have PP := Lib.hid (pairsParts 99 #[.pointer (some ⟨w.heap.size, 0, none⟩)] (enters_of Tryz.func99 (by kernel_rfl) rfl) s 59 hs (w.alloc (.cells #[.slice none 0 0] 66))
    (by obtain ⟨m, hm⟩ := hM; exact ⟨m, (hb0.cell (p := ⟨0, 0, none⟩) hw0).trans hm⟩)
    (fun pre W => PairBox (w.heap.size + 2) w.heap.size (pre.flatMap cookieOf) W ∧ Below w.heap.size w W)
    (fun W hb hlt => ⟨⟨_, box_under B0 hb, OwnsF.nil _ _⟩, hb0.trans (hb.mono (by simp))⟩)
    (fun pre p W hj hp hpl hpre hlt => by
      refine (cookieClo w.heap.size (w.heap.size + 2) (by omega) (pre.flatMap cookieOf) p (by omega) W (by rw [World.size_alloc] at hlt; omega) hj.1 (by have := cookies_len pre; omega)).mono ?_
      rintro e W' ⟨h1, h2, h3, h4⟩
      refine ⟨h1, ⟨by rw [List.flatMap_append, List.flatMap_cons, List.flatMap_nil, List.append_nil]; exact h2, hj.2.trans h3⟩, h3.size, ?_⟩
      exact h4 _ (by simp) (by simp)))
  clear B0 hb0 hM
  unfold cookiesL
  obtain ⟨L, hL⟩ : ∃ L, (someL (Lib.split s [59])).flatMap cookieOf = L := ⟨_, rfl⟩
  rw [hL] at PP ⊢
  clear hL
  go_enter Tryz.func63, Tryz.ntmps63
  go_wp2_with (go_at_call 98; refine Calls.mono PP.out ?_; rintro e w1 ⟨⟨r, rfl⟩, ⟨v, hbx, hown⟩, hB⟩; have HO := Lib.hid hown; have HB := Lib.hid hB; have c0 := hbx.cell; obtain ⟨ao, cap, rfl, _⟩ := hown.reads; clear hown hB hbx)
  go_ret
  have hfin := HO.out.base (show w.heap.size ≤ w.heap.size + 2 by omega)
  exact ⟨.slice ao L.length cap, rfl, hfin, HB.out⟩
end Go.Proofs.YtenflcaalckdfaaGreatDoor
