/- slices.MaxFunc at routes: the walk. Two addresses compared; which route may be: the walk (uv_eql builds; routeRight under way). -/
import Derived.Test.YtgjemgilanhdiaaGreatDoorRf26
import Derived.Test.YtgjemgilanhdiaaGreatDoorRf23
import Derived.Laws.StructEq
namespace Go.Proofs.YtgjemgilanhdiaaGreatDoor
open Go.RowKit Go.Sort Go.Shelf
set_option linter.unusedVariables false
set_option linter.unusedSimpArgs false

structure OneW (W : World) (b : Nat) (f : Wrd) : Prop where
  lt : b < W.heap.size
  c1 : W.cell? ⟨b, 0, none⟩ = some (.string (S f.1))
  c2 : W.cell? ⟨b, 1, none⟩ = some (.string (S f.2.1))
  c3 : W.cell? ⟨b, 2, none⟩ = some (.string (S f.2.2))
  fz : ∀ o, W.frozen? ⟨b, o, none⟩ = false
theorem OneW.below {W w' : World} {b : Nat} {f : Wrd} (h : OneW W b f) (hb : Below W.heap.size W w') : OneW w' b f :=
  ⟨Nat.lt_of_lt_of_le h.lt hb.size, (hb.cell (p := ⟨b, 0, none⟩) h.lt).trans h.c1, (hb.cell (p := ⟨b, 1, none⟩) h.lt).trans h.c2, (hb.cell (p := ⟨b, 2, none⟩) h.lt).trans h.c3, fun o => (hb.frozen (p := ⟨b, o, none⟩) h.lt).trans (h.fz o)⟩

theorem OneW.put {W : World} {b : Nat} {f : Wrd} (h : OneW W b f) (g : Wrd) : OneW (((W.setCell ⟨b, 0, none⟩ (.string (S g.1))).setCell ⟨b, 1, none⟩ (.string (S g.2.1))).setCell ⟨b, 2, none⟩ (.string (S g.2.2))) b g := by
  refine ⟨by simpa using h.lt, ?_, ?_, ?_, fun o => by simp only [World.frozen?_setCell]; exact h.fz o⟩
  · rw [World.cell?_setCell_other _ _ _ _ (by simp), World.cell?_setCell_other _ _ _ _ (by simp)]; exact World.cell?_setCell_same _ _ _ h.c1
  · rw [World.cell?_setCell_other _ _ _ _ (by simp)]; exact World.cell?_setCell_same _ _ _ (by rw [World.cell?_setCell_other _ _ _ _ (by simp)]; exact h.c2)
  · exact World.cell?_setCell_same _ _ _ (by rw [World.cell?_setCell_other _ _ _ _ (by simp), World.cell?_setCell_other _ _ _ _ (by simp)]; exact h.c3)
theorem OneW.other {W : World} {b k : Nat} {f : Wrd} (h : OneW W b f) (hne : k ≠ b) (x y z : Value) : OneW (((W.setCell ⟨k, 0, none⟩ x).setCell ⟨k, 1, none⟩ y).setCell ⟨k, 2, none⟩ z) b f := by
  refine ⟨by simpa using h.lt, ?_, ?_, ?_, fun o => by simp only [World.frozen?_setCell]; exact h.fz o⟩
  · rw [World.cell?_setCell_other _ _ _ _ (by simp [hne]), World.cell?_setCell_other _ _ _ _ (by simp [hne]), World.cell?_setCell_other _ _ _ _ (by simp [hne])]; exact h.c1
  · rw [World.cell?_setCell_other _ _ _ _ (by simp [hne]), World.cell?_setCell_other _ _ _ _ (by simp [hne]), World.cell?_setCell_other _ _ _ _ (by simp [hne])]; exact h.c2
  · rw [World.cell?_setCell_other _ _ _ _ (by simp [hne]), World.cell?_setCell_other _ _ _ _ (by simp [hne]), World.cell?_setCell_other _ _ _ _ (by simp [hne])]; exact h.c3

set_option maxHeartbeats 3200000 in
set_option maxRecDepth 100000 in
theorem maxRt (v : Value) (x : Wrd) (t : List Wrd) (w : World) (hr : ReadsW w v (x :: t)) (hl : ∀ f ∈ x :: t, f.2.1.length ≤ 9223372036854775807) :
    Calls Tryz.prog 17 #[v, .func (.func 18) #[] #[]] w fun e w' => e = .returned (rtv (bestG x t)) ∧ Below w.heap.size w w' := by
  obtain ⟨T, hT⟩ : ∃ T, bestG x t = T := ⟨_, rfl⟩
  obtain ⟨L, hL⟩ : ∃ L, x :: t = L := ⟨_, rfl⟩
  have HT := Lib.hid (show ∀ h : 0 < L.length, bestG L[0] (L.drop 1) = T from fun h => by subst hL; exact hT)
  rw [hL] at hr hl
  rw [hT]
  have hL0 : 0 < L.length := by rw [← hL]; simp
  obtain ⟨ao, cap, rfl, hc1, hc2, hc3, hcell⟩ := hr
  have hm : maxLen = 9223372036854775807 := rfl
  rw [hm] at hc2
  obtain ⟨b, off, rfl, hb, hcl⟩ := hcell hL0
  have HC := Lib.hid hcl
  have HL := Lib.hid hl
  obtain ⟨e1, e2, e3⟩ := hcl 0 hL0
  have hfar := far hb
  have eg : ∀ args w, (callFunc 18 args).run Tryz.prog w = .ok (.enter 18 args) w := enters_of Tryz.func18 (by kernel_rfl) rfl
  have hm0 : L[0] ∈ L := List.getElem_mem hL0
  have HT0 := Lib.hid (HT.out hL0)
  obtain ⟨⟨x1, x2, x3⟩, hx⟩ : ∃ f, L[0] = f := ⟨_, rfl⟩
  rw [hx] at e1 e2 e3 hm0 HT0
  simp only [Nat.zero_mul, Nat.add_zero] at e1 e2 e3
  have HM0 := Lib.hid hm0
  have hlt1 : (((L.length : Nat) : Int) < 1) = False := by simp; omega
  clear hm hcell hcl hc3 hl hT hL hx hm0 HT
  go_enter Tryz.func17, Tryz.ntmps17
  go_wp2
  go_loopw [6] (fun iv wr => ∃ (i : Nat) (m r0 : Wrd), iv = .int .i64 i ∧ 1 ≤ i ∧ i ≤ L.length ∧ m ∈ L ∧ bestG m (L.drop i) = T ∧ OneW wr (w.heap.size + 1) m ∧ OneW wr w.heap.size r0 ∧ Below w.heap.size w wr) (fun iv _ => L.length - (intOf iv).toNat)
  case atStart => exact ⟨1, (x1, x2, x3), ([], [], []), rfl, Nat.le_refl _, hL0, HM0.out, HT0.out, ⟨by simp, by simp, by simp, by simp, fun o => World.frozen?_alloc_at _ _ _ _ (by simp)⟩, ⟨by simp <;> omega, by simp, by simp, by simp, fun o => (World.frozen?_alloc_past _ _ _ (by simp)).trans (World.frozen?_alloc_at _ _ _ _ rfl)⟩, by (repeat (first | with_reducible exact Below.refl _ _ | with_reducible assumption | with_reducible refine Below.drew ?_ | (with_reducible refine Below.setCell ?_ ?_ _; rotate_left; (first | omega | (simp <;> omega))) | (with_reducible refine Below.alloc ?_ ?_ _; rotate_left; (first | omega | (simp <;> omega))) | exact Below.refl _ _ | assumption))⟩
  case round =>
    obtain ⟨i, m, r0, rfl, hi1, hi, hmL, hbest, hO, hR, hB⟩ := hrel
    have HO := Lib.hid hO
    have HR := Lib.hid hR
    have HB := Lib.hid hB
    have HML := Lib.hid hmL
    have hz := hB.size
    have o1 := hO.c1
    have o2 := hO.c2
    have o3 := hO.c3
    have of := hO.fz
    have hltO := hO.lt
    have hltR := hR.lt
    by_cases hlt : i < L.length
    · obtain ⟨e1, e2, e3⟩ := HC.out i hlt
      rw [← hB.cell (p := ⟨b, off + i * 3, none⟩) hb] at e1
      rw [← hB.cell (p := ⟨b, off + i * 3 + 1, none⟩) hb] at e2
      rw [← hB.cell (p := ⟨b, off + i * 3 + 2, none⟩) hb] at e3
      have C := Lib.hid (fun W => cmp2 L[i] m (HL.out _ (List.getElem_mem hlt)) (HL.out _ hmL) W)
      have HB2 := Lib.hid (show bestG (if 0 < cmpR L[i] m then L[i] else m) (L.drop (i + 1)) = T by
        rw [List.drop_eq_getElem_cons hlt] at hbest; exact hbest)
      have HMI := Lib.hid (List.getElem_mem hlt)
      obtain ⟨c, hc⟩ : ∃ c, cmpR L[i] m = c := ⟨_, rfl⟩
      rw [hc] at C HB2
      obtain ⟨⟨y1, y2, y3⟩, hy⟩ : ∃ f, L[i] = f := ⟨_, rfl⟩
      rw [hy] at C HB2 HMI e1 e2 e3
      obtain ⟨m1, m2, m3⟩ := m
      simp only at e1 e2 e3 o1 o2 o3
      have hfar2 := far (show b < wr.heap.size by omega)
      have hfar3 := far (show b < w.heap.size + 1 by omega)
      clear hc hy hO hR hB hmL hbest
      by_cases hpos : 0 < c
      · have hp1 : decide (0 < c) = true := by simp [hpos]
        have HB3 := Lib.hid (show bestG (y1, y2, y3) (L.drop (i + 1)) = T from by have := HB2.out; rwa [if_pos hpos] at this)
        go_wp2_with fail
        refine wp_region_later (wr.heap.size) (by kernel_rfl) (by kernel_rfl) ?_
        have l_w2_w_1 := @Later.at (wr.heap.size) (w.heap.size + 1) (by omega)
        have l_w2_vb := @Later.at (wr.heap.size) (b) (by omega)
        repeat (go_big_quiet_step ((go_at_fn 18; with_reducible exact later_of (Nat.le_refl _) (C.out _))))
        refine wpQuiet_nil ?_
        rintro w2 ⟨⟨_, hb_w2⟩, rfl⟩
        clear l_w2_w_1 l_w2_vb
        try simp only [] at hb_w2 ⊢
        have hz_w2 := hb_w2.size
        try simp at hz_w2
        have c2__1 := fun o => hb_w2.cell (p := ⟨w.heap.size + 1, o, none⟩) (by first | omega | (simp <;> omega))
        have f2__1 := fun o => hb_w2.frozen (p := ⟨w.heap.size + 1, o, none⟩) (by first | omega | (simp <;> omega))
        have c2__1_0 := c2__1 0; conv at c2__1_0 => rhs; simp [go_sem, *]
        have f2__1_0 := f2__1 0; conv at f2__1_0 => rhs; simp [go_sem, *]
        have c2__1_1 := c2__1 1; conv at c2__1_1 => rhs; simp [go_sem, *]
        have f2__1_1 := f2__1 1; conv at f2__1_1 => rhs; simp [go_sem, *]
        have c2__1_2 := c2__1 2; conv at c2__1_2 => rhs; simp [go_sem, *]
        have f2__1_2 := f2__1 2; conv at f2__1_2 => rhs; simp [go_sem, *]
        have c_w2_vb := fun o => hb_w2.cell (p := ⟨b, o, none⟩) (by first | omega | (simp <;> omega))
        have f_w2_vb := fun o => hb_w2.frozen (p := ⟨b, o, none⟩) (by first | omega | (simp <;> omega))
        have HH_w2 := Lib.hid hb_w2
        have hB_w2 : Below wr.heap.size wr w2 := Below.trans (by (repeat (first | with_reducible exact Below.refl _ _ | with_reducible assumption | with_reducible refine Below.drew ?_ | (with_reducible refine Below.setCell ?_ ?_ _; rotate_left; (first | omega | (simp <;> omega))) | (with_reducible refine Below.alloc ?_ ?_ _; rotate_left; (first | omega | (simp <;> omega))) | exact Below.refl _ _ | assumption))) (hb_w2.mono (by first | omega | (simp <;> omega)))
        clear hb_w2 c2__1 f2__1 c_w2_vb f_w2_vb
        have far_w2_w_1 := far (show w.heap.size + 1 < w2.heap.size by omega)
        have far_w2_vb := far (show b < w2.heap.size by omega)
        have f1 := (hB_w2.cell (p := ⟨b, off + i * 3, none⟩) (by show b < _; omega)).trans e1
        have f2 := (hB_w2.cell (p := ⟨b, off + i * 3 + 1, none⟩) (by show b < _; omega)).trans e2
        have f3 := (hB_w2.cell (p := ⟨b, off + i * 3 + 2, none⟩) (by show b < _; omega)).trans e3
        have HO2 := Lib.hid (HO.out.below hB_w2)
        have HR2 := Lib.hid (HR.out.below hB_w2)
        have HBW := Lib.hid (HB.out.trans (hB_w2.mono hz))
        have of2 := HO2.out.fz
        clear e1 e2 e3 of
        go_wp2
        go_roundw
        case rel =>
          have HP := Lib.hid (HO2.out.put (y1, y2, y3))
          have HQ := Lib.hid (HR2.out.other (show w.heap.size + 1 ≠ w.heap.size by omega) (.string (S y1)) (.string (S y2)) (.string (S y3)))
          refine ⟨i + 1, (y1, y2, y3), r0, by go_num, by omega, by omega, HMI.out, HB3.out, ?_, ?_, ?_⟩
          · with_reducible exact HP.out
          · with_reducible exact HQ.out
          · have h2 := HBW.out
            (repeat (first | with_reducible exact Below.refl _ _ | with_reducible assumption | with_reducible refine Below.drew ?_ | (with_reducible refine Below.setCell ?_ ?_ _; rotate_left; (first | omega | (simp <;> omega))) | (with_reducible refine Below.alloc ?_ ?_ _; rotate_left; (first | omega | (simp <;> omega))) | exact Below.refl _ _ | assumption))
        case measure => simp [intOf]; omega
      · have hp1 : decide (0 < c) = false := by simp [hpos]
        have HB3 := Lib.hid (show bestG (m1, m2, m3) (L.drop (i + 1)) = T from by have := HB2.out; rwa [if_neg hpos] at this)
        go_wp2_with fail
        refine wp_region_later (wr.heap.size) (by kernel_rfl) (by kernel_rfl) ?_
        have l_w2_w_1 := @Later.at (wr.heap.size) (w.heap.size + 1) (by omega)
        have l_w2_vb := @Later.at (wr.heap.size) (b) (by omega)
        repeat (go_big_quiet_step ((go_at_fn 18; with_reducible exact later_of (Nat.le_refl _) (C.out _))))
        refine wpQuiet_nil ?_
        rintro w2 ⟨⟨_, hb_w2⟩, rfl⟩
        clear l_w2_w_1 l_w2_vb
        try simp only [] at hb_w2 ⊢
        have hz_w2 := hb_w2.size
        try simp at hz_w2
        have c2__1 := fun o => hb_w2.cell (p := ⟨w.heap.size + 1, o, none⟩) (by first | omega | (simp <;> omega))
        have f2__1 := fun o => hb_w2.frozen (p := ⟨w.heap.size + 1, o, none⟩) (by first | omega | (simp <;> omega))
        have c2__1_0 := c2__1 0; conv at c2__1_0 => rhs; simp [go_sem, *]
        have f2__1_0 := f2__1 0; conv at f2__1_0 => rhs; simp [go_sem, *]
        have c2__1_1 := c2__1 1; conv at c2__1_1 => rhs; simp [go_sem, *]
        have f2__1_1 := f2__1 1; conv at f2__1_1 => rhs; simp [go_sem, *]
        have c2__1_2 := c2__1 2; conv at c2__1_2 => rhs; simp [go_sem, *]
        have f2__1_2 := f2__1 2; conv at f2__1_2 => rhs; simp [go_sem, *]
        have c_w2_vb := fun o => hb_w2.cell (p := ⟨b, o, none⟩) (by first | omega | (simp <;> omega))
        have f_w2_vb := fun o => hb_w2.frozen (p := ⟨b, o, none⟩) (by first | omega | (simp <;> omega))
        have HH_w2 := Lib.hid hb_w2
        have hB_w2 : Below wr.heap.size wr w2 := Below.trans (by (repeat (first | with_reducible exact Below.refl _ _ | with_reducible assumption | with_reducible refine Below.drew ?_ | (with_reducible refine Below.setCell ?_ ?_ _; rotate_left; (first | omega | (simp <;> omega))) | (with_reducible refine Below.alloc ?_ ?_ _; rotate_left; (first | omega | (simp <;> omega))) | exact Below.refl _ _ | assumption))) (hb_w2.mono (by first | omega | (simp <;> omega)))
        clear hb_w2 c2__1 f2__1 c_w2_vb f_w2_vb
        have far_w2_w_1 := far (show w.heap.size + 1 < w2.heap.size by omega)
        have far_w2_vb := far (show b < w2.heap.size by omega)
        have HO2 := Lib.hid (HO.out.below hB_w2)
        have HR2 := Lib.hid (HR.out.below hB_w2)
        have HBW := Lib.hid (HB.out.trans (hB_w2.mono hz))
        clear e1 e2 e3 of
        go_wp2
        go_roundw
        case rel => exact ⟨i + 1, (m1, m2, m3), r0, by go_num, by omega, by omega, HML.out, HB3.out, HO2.out, HR2.out, HBW.out⟩
        case measure => simp [intOf]; omega
    · obtain rfl : i = L.length := by omega
      rw [List.drop_length] at hbest
      have HT := Lib.hid (show m = T from hbest)
      obtain ⟨m1, m2, m3⟩ := m
      simp only at o1 o2 o3
      have q1 := hR.c1
      have q2 := hR.c2
      have q3 := hR.c3
      have q4 := hR.fz
      clear hO hR hB hmL hbest
      go_wp2
      have h2 := HB.out
      have HBZ := Lib.hid h2
      refine bodyPost_ret (v := rtv (m1, m2, m3)) (by simp [results, Tryz.results17, go_sem, *]) rfl ⟨by rw [← HT.out], ?_⟩
      (repeat (first | with_reducible exact Below.refl _ _ | with_reducible assumption | with_reducible refine Below.drew ?_ | (with_reducible refine Below.setCell ?_ ?_ _; rotate_left; (first | omega | (simp <;> omega))) | (with_reducible refine Below.alloc ?_ ?_ _; rotate_left; (first | omega | (simp <;> omega))) | exact Below.refl _ _ | assumption))
end Go.Proofs.YtgjemgilanhdiaaGreatDoor
namespace Go.Proofs.YtgjemgilanhdiaaGreatDoor
open Go.RowKit Go.Sort Go.Shelf
set_option linter.unusedVariables false
set_option linter.unusedSimpArgs false

set_option maxHeartbeats 1600000 in
theorem uv_eql (x y : UU) (w : World) : (binOp .eql 33 (uv x.a x.h x.n x.p x.q x.y) (uv y.a y.h y.n y.p y.q y.y)).run Tryz.prog w = .ok (.bool (x.a == y.a && (x.h == y.h && (x.n == y.n && (x.p == y.p && (x.q == y.q && x.y == y.y)))))) w := by
  have hS : Tryz.prog.underlying 33 = some (.struct (Tryz.prog.fieldsOf 33)) := by kernel_rfl
  have hp : Tryz.prog.stoodInHeld 33 = false := by kernel_rfl
  simp only [uv]
  rw [run_eql_struct, show (10000 : Nat) = 9999 + 1 from rfl, run_equalIn_agg w 9999 33 _ _ hS hp]
  simp only [Program.fieldsOf, Tryz.underlying33]
  go_simp
  by_cases h1 : x.a = y.a <;> by_cases h2 : x.h = y.h <;> by_cases h3 : x.n = y.n <;> by_cases h4 : x.p = y.p <;> by_cases h5 : x.q = y.q <;> by_cases h6 : x.y = y.y <;> simp [h1, h2, h3, h4, h5, h6]
theorem uu_eqB (x y : UU) : (x.a == y.a && (x.h == y.h && (x.n == y.n && (x.p == y.p && (x.q == y.q && x.y == y.y))))) = true ↔ x = y := by
  obtain ⟨a, b, c, d, e, f⟩ := x
  obtain ⟨a', b', c', d', e', f'⟩ := y
  simp only [Bool.and_eq_true, beq_iff_eq, UU.mk.injEq]

set_option maxHeartbeats 3200000 in
set_option maxRecDepth 100000 in
theorem routeRight (f : Wrd) (h1 : f.1.length ≤ 900) (h2 : f.2.1.length ≤ 900) (h3 : f.2.2.length ≤ 900) (w : World) (hL : Laid w) :
    Calls Tryz.prog 26 #[rtv f] w fun e w' => e = .returned (.bool (routeOk f)) ∧ Below w.heap.size w w' := by
  obtain ⟨n, p, o⟩ := f
  simp only at h1 h2 h3
  have UP := Lib.hid (fun W hb => uriParse (httpL ++ (104 :: p)) (by have : httpL.length = 7 := rfl; simp only [List.length_append, List.length_cons]; omega) W (hL.on hb))
  have H1 := Lib.hid (fun W hb => routeHost n (by omega) W (hL.on hb))
  have H2 := Lib.hid (fun W hb => routeHost o (by omega) W (hL.on hb))
  have PP := Lib.hid (pre_parse p)
  obtain ⟨⟨u, e⟩, hp⟩ : ∃ x, parseL (httpL ++ (104 :: p)) = x := ⟨_, rfl⟩
  rw [hp] at UP PP
  simp only at UP PP
  have EQ := Lib.hid (fun W => uv_eql u ⟨true, [104], 0, p, false, []⟩ W)
  have EI := uu_eqB u ⟨true, [104], 0, p, false, []⟩
  obtain ⟨B, hB⟩ : ∃ B, (u.a == (⟨true, [104], 0, p, false, []⟩ : UU).a && (u.h == (⟨true, [104], 0, p, false, []⟩ : UU).h && (u.n == (⟨true, [104], 0, p, false, []⟩ : UU).n && (u.p == (⟨true, [104], 0, p, false, []⟩ : UU).p && (u.q == (⟨true, [104], 0, p, false, []⟩ : UU).q && u.y == (⟨true, [104], 0, p, false, []⟩ : UU).y))))) = B := ⟨_, rfl⟩
  rw [hB] at EI EQ
  have HPB := Lib.hid (show preOk p = (decide (e = 0) && B) by
    rw [Bool.eq_iff_iff, PP.out, Bool.and_eq_true, decide_eq_true_eq, EI])
  have HK := Lib.hid (show routeOk (n, p, o) = ((n.isEmpty || hostOk n) && hostOk o && preOk p && decide (p.length ≤ 100)) from rfl)
  obtain ⟨b1, g1⟩ : ∃ b, n.isEmpty = b := ⟨_, rfl⟩
  obtain ⟨b2, g2⟩ : ∃ b, hostOk n = b := ⟨_, rfl⟩
  obtain ⟨b3, g3⟩ : ∃ b, hostOk o = b := ⟨_, rfl⟩
  obtain ⟨b4, g4⟩ : ∃ b, decide (p.length ≤ 100) = b := ⟨_, rfl⟩
  obtain ⟨b5, g5⟩ : ∃ b, decide (e = 0) = b := ⟨_, rfl⟩
  rw [g5] at HPB
  rw [g2] at H1
  rw [g3] at H2
  rw [HPB.out, g1, g2, g3, g4] at HK
  have g4' : decide ((p.length : Int) ≤ 100) = b4 := by rw [← g4]; exact decide_eq_decide.2 (by omega)
  have g5' : (e == 0) = b5 := by rw [← g5]; rfl
  clear PP HPB EI hB hp g2 g3 g4 hL
  obtain ⟨ua, uh, un, up, uq, uy⟩ := u
  unfold UU.v uv at UP
  have heq := EQ.out
  unfold uv at heq
  unfold httpL at UP
  simp only [List.cons_append, List.nil_append] at UP heq
  cases b5 <;> cases B <;> cases b1 <;> cases b2 <;> cases b3 <;>
  · go_enter Tryz.func26, Tryz.ntmps26
    go_wp2_with (first
      | (go_at_call 22; (with_reducible refine Calls.mono (UP.out _ ?_) ?_); (focus (repeat (first | with_reducible exact Below.refl _ _ | with_reducible assumption | with_reducible refine Below.drew ?_ | (with_reducible refine Below.setCell ?_ ?_ _; rotate_left; (first | omega | (simp <;> omega))) | (with_reducible refine Below.alloc ?_ ?_ _; rotate_left; (first | omega | (simp <;> omega))) | exact Below.refl _ _ | assumption))); rintro e w1 ⟨rfl, hb1⟩; have HBX := Lib.hid (Below.trans (show Below w.heap.size w _ by (repeat (first | with_reducible exact Below.refl _ _ | with_reducible assumption | with_reducible refine Below.drew ?_ | (with_reducible refine Below.setCell ?_ ?_ _; rotate_left; (first | omega | (simp <;> omega))) | (with_reducible refine Below.alloc ?_ ?_ _; rotate_left; (first | omega | (simp <;> omega))) | exact Below.refl _ _ | assumption))) (hb1.mono (by simp))); obtain ⟨hcc, hff⟩ := bk hb1 w.heap.size (by simp); have hz1 := hb1.size; simp at hz1; have hfr := far (show w.heap.size < w1.heap.size by omega); clear hb1)
      | (go_at_call 53; (with_reducible refine Calls.mono (H1.out _ ?_) ?_); (focus (have := HBX.out; (repeat (first | with_reducible exact Below.refl _ _ | with_reducible assumption | with_reducible refine Below.drew ?_ | (with_reducible refine Below.setCell ?_ ?_ _; rotate_left; (first | omega | (simp <;> omega))) | (with_reducible refine Below.alloc ?_ ?_ _; rotate_left; (first | omega | (simp <;> omega))) | exact Below.refl _ _ | assumption)))); rintro e w2 ⟨rfl, hb2⟩; obtain ⟨hcc2, hff2⟩ := bk hb2 w.heap.size (by (try simp only [World.size_alloc, World.size_setCell]); omega); have hz2 := hb2.size; (try simp only [World.size_alloc, World.size_setCell] at hz2); have HBX := Lib.hid (Below.trans (show Below w.heap.size w _ by (have := HBX.out; (repeat (first | with_reducible exact Below.refl _ _ | with_reducible assumption | with_reducible refine Below.drew ?_ | (with_reducible refine Below.setCell ?_ ?_ _; rotate_left; (first | omega | (simp <;> omega))) | (with_reducible refine Below.alloc ?_ ?_ _; rotate_left; (first | omega | (simp <;> omega))) | exact Below.refl _ _ | assumption)))) (hb2.mono (by (try simp only [World.size_alloc, World.size_setCell]); omega))); clear hb2)
      | (go_at_call 53; (with_reducible refine Calls.mono (H2.out _ ?_) ?_); (focus (have := HBX.out; (repeat (first | with_reducible exact Below.refl _ _ | with_reducible assumption | with_reducible refine Below.drew ?_ | (with_reducible refine Below.setCell ?_ ?_ _; rotate_left; (first | omega | (simp <;> omega))) | (with_reducible refine Below.alloc ?_ ?_ _; rotate_left; (first | omega | (simp <;> omega))) | exact Below.refl _ _ | assumption)))); rintro e w3 ⟨rfl, hb3⟩; obtain ⟨hcc3, hff3⟩ := bk hb3 w.heap.size (by (try simp only [World.size_alloc, World.size_setCell]); omega); have hz3 := hb3.size; (try simp only [World.size_alloc, World.size_setCell] at hz3); have HBX := Lib.hid (Below.trans (show Below w.heap.size w _ by (have := HBX.out; (repeat (first | with_reducible exact Below.refl _ _ | with_reducible assumption | with_reducible refine Below.drew ?_ | (with_reducible refine Below.setCell ?_ ?_ _; rotate_left; (first | omega | (simp <;> omega))) | (with_reducible refine Below.alloc ?_ ?_ _; rotate_left; (first | omega | (simp <;> omega))) | exact Below.refl _ _ | assumption)))) (hb3.mono (by (try simp only [World.size_alloc, World.size_setCell]); omega))); clear hb3))
    go_ret
    exact ⟨ret_bool (by rw [HK.out]; simp), by have := HBX.out; (repeat (first | with_reducible exact Below.refl _ _ | with_reducible assumption | with_reducible refine Below.drew ?_ | (with_reducible refine Below.setCell ?_ ?_ _; rotate_left; (first | omega | (simp <;> omega))) | (with_reducible refine Below.alloc ?_ ?_ _; rotate_left; (first | omega | (simp <;> omega))) | exact Below.refl _ _ | assumption))⟩
end Go.Proofs.YtgjemgilanhdiaaGreatDoor
