/- The law HopStrips: its walk. -/
import Derived.Test.YtcfihoniocamaaaGreatDoorPk40
namespace Go.Proofs.YtcfihoniocamaaaGreatDoor
open Go.RowKit Go.Sort Go.Shelf
set_option linter.unusedVariables false

set_option maxHeartbeats 3200000 in
set_option maxRecDepth 100000 in
theorem hopStrips_any (a b : ByteArray) (c : Int) (d : ByteArray) (m : Int) (v : Value) (L : List (List Value)) (hb0 db0 : ByteArray) (w : World) (k1 : a.size ≤ maxLen) (k2 : b.size ≤ maxLen) (k3 : (Lit.int .i64 c).wf) (k4 : d.size ≤ maxLen) (k5 : (Lit.int .i64 m).wf)
    (hv : RowsIn w 2 v L ∧ ∀ c ∈ L, AllSh [.str, .str] c) (k6 : hb0.size ≤ maxLen) (k7 : db0.size ≤ maxLen) (_hL : True) (hM : ∃ m, w.cell? ⟨0, 0, none⟩ = some (.int .i64 m)) :
    Calls Tryz.prog 5 #[.agg #[.string a, .string b, .int .i64 c, .string d, .int .i64 m], v, .string hb0, .string db0] w fun e w' => e = .returned (.bool true) ∧ Below w.heap.size w w' := by
  obtain ⟨xs, hr0, hxl⟩ := reads_inF hv
  have C0 := Lib.hid (fun W (hb : Below w.heap.size w W) => few v xs W (hr0.below hb) hxl)
  have HM := Lib.hid (fun W hb => mlen_later hM W hb)
  have AL := Lib.hid (fun W h => hop_alive W h)
  have hT := few_hop xs
  obtain ⟨T, hTe⟩ : ∃ T, fewL xs = T := ⟨_, rfl⟩
  rw [hTe] at C0 hT
  obtain ⟨l0, rfl⟩ := S_of hb0
  obtain ⟨m0, rfl⟩ := S_of db0
  rw [S_size] at k6 k7
  have hm : maxLen = 9223372036854775807 := rfl
  rw [hm] at k6 k7
  obtain ⟨p, hp, hp1, hp2⟩ : ∃ k : Nat, min (l0.length : Int) 1010 = k ∧ k ≤ l0.length ∧ k ≤ 1010 := ⟨min l0.length 1010, by omega, by omega, by omega⟩
  obtain ⟨q, hq, hq1, hq2⟩ : ∃ k : Nat, min (m0.length : Int) 60 = k ∧ k ≤ m0.length ∧ k ≤ 60 := ⟨min m0.length 60, by omega, by omega, by omega⟩
  obtain ⟨h, hh⟩ : ∃ s, l0.take p = s := ⟨_, rfl⟩
  obtain ⟨dv, hd⟩ : ∃ s, m0.take q = s := ⟨_, rfl⟩
  have hhl : h.length ≤ 1010 := by rw [← hh, List.length_take]; omega
  have hdl : dv.length ≤ 60 := by rw [← hd, List.length_take]; omega
  have hh2 : (l0.take p).drop 0 = h := hh
  have hd2 : (m0.take q).drop 0 = dv := hd
  have UP := Lib.hid (fun u W hr hm => hopUp u T h dv W hr hT hhl (by omega) hm)
  have ST := Lib.hid (fun u W hr hm => hopStrip u T W hr hT hm)
  have DN := Lib.hid (fun u W hr hm => hopDown u T W hr hT hm)
  have KP := Lib.hid (fun u W hr hm => hopKeeps_c a b c d m u T W hr hT hm)
  have KR := Lib.hid (fun u W hr => refKeepsH a b c d m u T W hr hT)
  have RR := Lib.hid (fun u W hr => refRight u T W hr hT.small)
  obtain ⟨K, hK⟩ : ∃ K, keepsW m (hopWords T) = K := ⟨_, rfl⟩
  rw [hK] at KP KR
  unfold startV at KP KR
  clear hr0 hxl hv hM hTe hm hh hd hK k1 k2 k3 k4 k5
  cases hR : rightL T with
  | false =>
    have e1 : upE T h dv = 1 := by unfold upE; rw [hR]; rfl
    have e2 : upV T h dv = [] := by unfold upV; rw [e1]; rfl
    unfold stripE stripV at ST DN
    rw [hR, if_neg (by simp), if_neg (by simp)] at ST DN
    rw [show removeL ([] : List Fld) CtlG = [] from rfl] at DN
    rw [e1, e2] at UP
    rw [hR] at RR
    clear e1 e2 hR hT
    go_enter Tryz.func5, Tryz.ntmps5
    go_upto_region 1 with fail
    go_cut [1, 2, 3] (fun lv hv dv' wx => hv = .string (S h) ∧ dv' = .string (S dv) ∧ ReadsF wx lv T ∧ (∀ i, wx.frozen? ⟨w.heap.size, i, none⟩ = false) ∧ wx.cell? ⟨w.heap.size, 0, none⟩ = some (.string a) ∧ wx.cell? ⟨w.heap.size, 1, none⟩ = some (.string b) ∧ wx.cell? ⟨w.heap.size, 2, none⟩ = some (.int .i64 c) ∧ wx.cell? ⟨w.heap.size, 3, none⟩ = some (.string d) ∧ wx.cell? ⟨w.heap.size, 4, none⟩ = some (.int .i64 m) ∧ w.heap.size < wx.heap.size ∧ Below w.heap.size w wx)
    case first =>
      as_aux_lemma =>
        go_region_with (go_at_call 7; refine (C0.out _ (by (repeat (first | (with_reducible exact Below.refl _ _) | (with_reducible assumption) | (with_reducible refine Below.drew ?_) | (focus ((with_reducible refine Below.setCell ?_ ?_ _); rotate_left; (first | omega | (simp <;> omega)))) | (focus ((with_reducible refine Below.alloc ?_ ?_ _); rotate_left; (first | omega | (simp <;> omega)))) | exact Below.refl _ _ | assumption | refine Below.drew ?_ | refine Below.alloc ?_ (by first | omega | (simp <;> omega)) _ | refine Below.setCell ?_ (by first | omega | (simp <;> omega)) _)))).mono ?_; rintro e w1 ⟨v', rfl, hr, hb1⟩; obtain ⟨cc, ff⟩ := bk hb1 w.heap.size (by (first | omega | (simp <;> omega))); have hz1 := hb1.size; (try simp at hz1); have HB1 := Lib.hid (Below.trans (show Below w.heap.size w _ by (repeat (first | (with_reducible exact Below.refl _ _) | (with_reducible assumption) | (with_reducible refine Below.drew ?_) | (focus ((with_reducible refine Below.setCell ?_ ?_ _); rotate_left; (first | omega | (simp <;> omega)))) | (focus ((with_reducible refine Below.alloc ?_ ?_ _); rotate_left; (first | omega | (simp <;> omega)))) | exact Below.refl _ _ | assumption | refine Below.drew ?_ | refine Below.alloc ?_ (by first | omega | (simp <;> omega)) _ | refine Below.setCell ?_ (by first | omega | (simp <;> omega)) _))) (hb1.mono (by (first | omega | (simp <;> omega))))); have HR := Lib.hid hr; clear hb1 hr)
        all_goals (go_wp2_with fail; go_meet; exact ⟨by simp [go_sem, *], by simp [go_sem, *], HR.out, fun i => (ff i).trans (by simp [go_sem, *]), (cc 0).trans (by simp [go_sem, *]), (cc 1).trans (by simp [go_sem, *]), (cc 2).trans (by simp [go_sem, *]), (cc 3).trans (by simp [go_sem, *]), (cc 4).trans (by simp [go_sem, *]), by omega, HB1.out⟩)
    case rest =>
      obtain ⟨rfl, rfl, hr, fz, q0, q1, q2, q3, q4, hlt, hb1⟩ := hcut
      obtain ⟨w1, hw1⟩ : ∃ x, x = wc := ⟨_, rfl⟩
      rw [← hw1] at hr hb1 fz q0 q1 q2 q3 q4 hlt ⊢
      clear hw1
      have HB1 := Lib.hid hb1
      have HR := Lib.hid hr
      obtain ⟨ao, cap, rfl, _⟩ := hr
      have hz1 := HB1.out.size
      clear hb1
      have hf1 := far hlt
      obtain ⟨B, hB⟩ : ∃ B, w.heap.size = B := ⟨_, rfl⟩
      rw [hB] at fz q0 q1 q2 q3 q4 hlt hf1 ⊢
      go_wp2_with fail
      refine Calls.mono (ST.out _ _ HR.out (HM.out _ HB1.out)) ?_
      rintro e w2 ⟨v2, rfl, ho2, hb_w2⟩
      have hz_w2 := hb_w2.size
      try simp at hz_w2
      obtain ⟨c_w2_vB, f_w2_vB⟩ := bk hb_w2 (B) (by first | omega | (simp <;> omega))
      have c_w2_vB_0 := c_w2_vB 0
      conv at c_w2_vB_0 => rhs; simp [go_sem, *]
      have f_w2_vB_0 := f_w2_vB 0
      conv at f_w2_vB_0 => rhs; simp [go_sem, *]
      have c_w2_vB_1 := c_w2_vB 1
      conv at c_w2_vB_1 => rhs; simp [go_sem, *]
      have f_w2_vB_1 := f_w2_vB 1
      conv at f_w2_vB_1 => rhs; simp [go_sem, *]
      have c_w2_vB_2 := c_w2_vB 2
      conv at c_w2_vB_2 => rhs; simp [go_sem, *]
      have f_w2_vB_2 := f_w2_vB 2
      conv at f_w2_vB_2 => rhs; simp [go_sem, *]
      have c_w2_vB_3 := c_w2_vB 3
      conv at c_w2_vB_3 => rhs; simp [go_sem, *]
      have f_w2_vB_3 := f_w2_vB 3
      conv at f_w2_vB_3 => rhs; simp [go_sem, *]
      have c_w2_vB_4 := c_w2_vB 4
      conv at c_w2_vB_4 => rhs; simp [go_sem, *]
      have f_w2_vB_4 := f_w2_vB 4
      conv at f_w2_vB_4 => rhs; simp [go_sem, *]
      have HH_w2 := Lib.hid hb_w2
      have hB_w2 : Below w1.heap.size w1 w2 := Below.trans (by (repeat (first | (with_reducible exact Below.refl _ _) | (with_reducible assumption) | (with_reducible refine Below.drew ?_) | (focus ((with_reducible refine Below.setCell ?_ ?_ _); rotate_left; (first | omega | (simp <;> omega)))) | (focus ((with_reducible refine Below.alloc ?_ ?_ _); rotate_left; (first | omega | (simp <;> omega)))) | exact Below.refl _ _ | assumption | refine Below.drew ?_ | refine Below.alloc ?_ (by first | omega | (simp <;> omega)) _ | refine Below.setCell ?_ (by first | omega | (simp <;> omega)) _))) (hb_w2.mono (by first | omega | (simp <;> omega)))
      clear hb_w2 c_w2_vB f_w2_vB
      have far_w2_vB := far (show B < w2.heap.size by omega)
      obtain ⟨ao2, cap2, rfl, _, hc2, _⟩ := ho2.reads
      clear ho2
      have HR2 := Lib.hid (HR.out.below hB_w2)
      go_wp2_with fail
      refine Calls.mono (UP.out _ _ HR2.out (HM.out _ (HB1.out.trans (hB_w2.mono hz1)))) ?_
      rintro e w3 ⟨v3, rfl, hr3, hb_w3⟩
      have hz_w3 := hb_w3.size
      try simp at hz_w3
      obtain ⟨c_w3_vB, f_w3_vB⟩ := bk hb_w3 (B) (by first | omega | (simp <;> omega))
      have c_w3_vB_0 := c_w3_vB 0
      conv at c_w3_vB_0 => rhs; simp [go_sem, *]
      have f_w3_vB_0 := f_w3_vB 0
      conv at f_w3_vB_0 => rhs; simp [go_sem, *]
      have c_w3_vB_1 := c_w3_vB 1
      conv at c_w3_vB_1 => rhs; simp [go_sem, *]
      have f_w3_vB_1 := f_w3_vB 1
      conv at f_w3_vB_1 => rhs; simp [go_sem, *]
      have c_w3_vB_2 := c_w3_vB 2
      conv at c_w3_vB_2 => rhs; simp [go_sem, *]
      have f_w3_vB_2 := f_w3_vB 2
      conv at f_w3_vB_2 => rhs; simp [go_sem, *]
      have c_w3_vB_3 := c_w3_vB 3
      conv at c_w3_vB_3 => rhs; simp [go_sem, *]
      have f_w3_vB_3 := f_w3_vB 3
      conv at f_w3_vB_3 => rhs; simp [go_sem, *]
      have c_w3_vB_4 := c_w3_vB 4
      conv at c_w3_vB_4 => rhs; simp [go_sem, *]
      have f_w3_vB_4 := f_w3_vB 4
      conv at f_w3_vB_4 => rhs; simp [go_sem, *]
      have HH_w3 := Lib.hid hb_w3
      have hB_w3 : Below w1.heap.size w1 w3 := Below.trans (by (repeat (first | (with_reducible exact Below.refl _ _) | (with_reducible assumption) | (with_reducible refine Below.drew ?_) | (focus ((with_reducible refine Below.setCell ?_ ?_ _); rotate_left; (first | omega | (simp <;> omega)))) | (focus ((with_reducible refine Below.alloc ?_ ?_ _); rotate_left; (first | omega | (simp <;> omega)))) | exact Below.refl _ _ | assumption | refine Below.drew ?_ | refine Below.alloc ?_ (by first | omega | (simp <;> omega)) _ | refine Below.setCell ?_ (by first | omega | (simp <;> omega)) _))) (hb_w3.mono (by first | omega | (simp <;> omega)))
      clear hb_w3 c_w3_vB f_w3_vB
      try clear c_w2_vB_0
      try clear f_w2_vB_0
      try clear c_w2_vB_1
      try clear f_w2_vB_1
      try clear c_w2_vB_2
      try clear f_w2_vB_2
      try clear c_w2_vB_3
      try clear f_w2_vB_3
      try clear c_w2_vB_4
      try clear f_w2_vB_4
      try clear far_w2_vB
      try clear hB_w2
      have far_w3_vB := far (show B < w3.heap.size by omega)
      obtain ⟨ao3, cap3, rfl, _, hc3, _⟩ := hr3
      have HR3 := Lib.hid (HR.out.below hB_w3)
      go_wp2_with fail
      refine Calls.mono (DN.out _ _ HR3.out (HM.out _ (HB1.out.trans (hB_w3.mono hz1)))) ?_
      rintro e w4 ⟨v4, rfl, hr4, hb_w4⟩
      have hz_w4 := hb_w4.size
      try simp at hz_w4
      obtain ⟨c_w4_vB, f_w4_vB⟩ := bk hb_w4 (B) (by first | omega | (simp <;> omega))
      have c_w4_vB_0 := c_w4_vB 0
      conv at c_w4_vB_0 => rhs; simp [go_sem, *]
      have f_w4_vB_0 := f_w4_vB 0
      conv at f_w4_vB_0 => rhs; simp [go_sem, *]
      have c_w4_vB_1 := c_w4_vB 1
      conv at c_w4_vB_1 => rhs; simp [go_sem, *]
      have f_w4_vB_1 := f_w4_vB 1
      conv at f_w4_vB_1 => rhs; simp [go_sem, *]
      have c_w4_vB_2 := c_w4_vB 2
      conv at c_w4_vB_2 => rhs; simp [go_sem, *]
      have f_w4_vB_2 := f_w4_vB 2
      conv at f_w4_vB_2 => rhs; simp [go_sem, *]
      have c_w4_vB_3 := c_w4_vB 3
      conv at c_w4_vB_3 => rhs; simp [go_sem, *]
      have f_w4_vB_3 := f_w4_vB 3
      conv at f_w4_vB_3 => rhs; simp [go_sem, *]
      have c_w4_vB_4 := c_w4_vB 4
      conv at c_w4_vB_4 => rhs; simp [go_sem, *]
      have f_w4_vB_4 := f_w4_vB 4
      conv at f_w4_vB_4 => rhs; simp [go_sem, *]
      have HH_w4 := Lib.hid hb_w4
      have hB_w4 : Below w1.heap.size w1 w4 := Below.trans (by (repeat (first | (with_reducible exact Below.refl _ _) | (with_reducible assumption) | (with_reducible refine Below.drew ?_) | (focus ((with_reducible refine Below.setCell ?_ ?_ _); rotate_left; (first | omega | (simp <;> omega)))) | (focus ((with_reducible refine Below.alloc ?_ ?_ _); rotate_left; (first | omega | (simp <;> omega)))) | exact Below.refl _ _ | assumption | refine Below.drew ?_ | refine Below.alloc ?_ (by first | omega | (simp <;> omega)) _ | refine Below.setCell ?_ (by first | omega | (simp <;> omega)) _))) (hb_w4.mono (by first | omega | (simp <;> omega)))
      clear hb_w4 c_w4_vB f_w4_vB
      try clear c_w3_vB_0
      try clear f_w3_vB_0
      try clear c_w3_vB_1
      try clear f_w3_vB_1
      try clear c_w3_vB_2
      try clear f_w3_vB_2
      try clear c_w3_vB_3
      try clear f_w3_vB_3
      try clear c_w3_vB_4
      try clear f_w3_vB_4
      try clear far_w3_vB
      try clear hB_w3
      have far_w4_vB := far (show B < w4.heap.size by omega)
      obtain ⟨ao4, cap4, rfl, _, hc4, _⟩ := hr4
      have HR4 := Lib.hid (HR.out.below hB_w4)
      have X1 := Lib.hid (fun (p : Later w4.heap.size w4) => KP.out _ p.w (HR4.out.below p.b) (HM.out _ (HB1.out.trans ((hB_w4.trans (p.b.mono (by omega))).mono hz1))))
      have X2 := Lib.hid (fun (p : Later w4.heap.size w4) => KR.out _ p.w (HR4.out.below p.b))
      have X3 := Lib.hid (fun (p : Later w4.heap.size w4) => AL.out p.w (HM.out _ (HB1.out.trans ((hB_w4.trans (p.b.mono (by omega))).mono hz1))))
      have HB4 := Lib.hid hB_w4
      go_wp2_with fail
      refine wp_region_later (w4.heap.size) (by kernel_rfl) (by kernel_rfl) ?_
      have l_w5_vB := @Later.at (w4.heap.size) (B) (by omega)
      repeat (go_big_quiet_step (first | (go_at_call 9; with_reducible exact later_of (Nat.le_refl _) (X3.out _)) | (go_at_call 16; with_reducible exact later_of (Nat.le_refl _) (X1.out _)) | (go_at_call 17; with_reducible exact later_of (Nat.le_refl _) (X2.out _))))
      refine wpQuiet_nil ?_
      rintro w5 ⟨⟨_, hb_w5⟩, rfl⟩
      clear l_w5_vB
      try simp only [] at hb_w5 ⊢
      have hz_w5 := hb_w5.size
      try simp at hz_w5
      have c_w5_vB := fun o => hb_w5.cell (p := ⟨B, o, none⟩) (by first | omega | (simp <;> omega))
      have f_w5_vB := fun o => hb_w5.frozen (p := ⟨B, o, none⟩) (by first | omega | (simp <;> omega))
      have c_w5_vB_0 := c_w5_vB 0
      conv at c_w5_vB_0 => rhs; simp [go_sem, *]
      have f_w5_vB_0 := f_w5_vB 0
      conv at f_w5_vB_0 => rhs; simp [go_sem, *]
      have c_w5_vB_1 := c_w5_vB 1
      conv at c_w5_vB_1 => rhs; simp [go_sem, *]
      have f_w5_vB_1 := f_w5_vB 1
      conv at f_w5_vB_1 => rhs; simp [go_sem, *]
      have c_w5_vB_2 := c_w5_vB 2
      conv at c_w5_vB_2 => rhs; simp [go_sem, *]
      have f_w5_vB_2 := f_w5_vB 2
      conv at f_w5_vB_2 => rhs; simp [go_sem, *]
      have c_w5_vB_3 := c_w5_vB 3
      conv at c_w5_vB_3 => rhs; simp [go_sem, *]
      have f_w5_vB_3 := f_w5_vB 3
      conv at f_w5_vB_3 => rhs; simp [go_sem, *]
      have c_w5_vB_4 := c_w5_vB 4
      conv at c_w5_vB_4 => rhs; simp [go_sem, *]
      have f_w5_vB_4 := f_w5_vB 4
      conv at f_w5_vB_4 => rhs; simp [go_sem, *]
      have HH_w5 := Lib.hid hb_w5
      have hB_w5 : Below w4.heap.size w4 w5 := Below.trans (by (repeat (first | (with_reducible exact Below.refl _ _) | (with_reducible assumption) | (with_reducible refine Below.drew ?_) | (focus ((with_reducible refine Below.setCell ?_ ?_ _); rotate_left; (first | omega | (simp <;> omega)))) | (focus ((with_reducible refine Below.alloc ?_ ?_ _); rotate_left; (first | omega | (simp <;> omega)))) | exact Below.refl _ _ | assumption | refine Below.drew ?_ | refine Below.alloc ?_ (by first | omega | (simp <;> omega)) _ | refine Below.setCell ?_ (by first | omega | (simp <;> omega)) _))) (hb_w5.mono (by first | omega | (simp <;> omega)))
      clear hb_w5 c_w5_vB f_w5_vB
      try clear c_w4_vB_0
      try clear f_w4_vB_0
      try clear c_w4_vB_1
      try clear f_w4_vB_1
      try clear c_w4_vB_2
      try clear f_w4_vB_2
      try clear c_w4_vB_3
      try clear f_w4_vB_3
      try clear c_w4_vB_4
      try clear f_w4_vB_4
      try clear far_w4_vB
      try clear hB_w4
      have far_w5_vB := far (show B < w5.heap.size by omega)
      have HR5 := Lib.hid (HR4.out.below hB_w5)
      have hB15 := HB4.out.trans (hB_w5.mono (by have := HB4.out.size; omega))
      go_wp2_with fail
      refine Calls.mono (RR.out _ _ HR5.out) ?_
      rintro e w6 ⟨rfl, hb_w6⟩
      have hz_w6 := hb_w6.size
      try simp at hz_w6
      have HH_w6 := Lib.hid hb_w6
      have hB_w6 : Below w5.heap.size w5 w6 := Below.trans (by (repeat (first | (with_reducible exact Below.refl _ _) | (with_reducible assumption) | (with_reducible refine Below.drew ?_) | (focus ((with_reducible refine Below.setCell ?_ ?_ _); rotate_left; (first | omega | (simp <;> omega)))) | (focus ((with_reducible refine Below.alloc ?_ ?_ _); rotate_left; (first | omega | (simp <;> omega)))) | exact Below.refl _ _ | assumption | refine Below.drew ?_ | refine Below.alloc ?_ (by first | omega | (simp <;> omega)) _ | refine Below.setCell ?_ (by first | omega | (simp <;> omega)) _))) (hb_w6.mono (by first | omega | (simp <;> omega)))
      clear hb_w6
      try clear c_w5_vB_0
      try clear f_w5_vB_0
      try clear c_w5_vB_1
      try clear f_w5_vB_1
      try clear c_w5_vB_2
      try clear f_w5_vB_2
      try clear c_w5_vB_3
      try clear f_w5_vB_3
      try clear c_w5_vB_4
      try clear f_w5_vB_4
      try clear far_w5_vB
      try clear hB_w5
      go_wp2
      go_ret
      exact ⟨ret_bool (by simp), HB1.out.trans ((hB15.trans (hB_w6.mono (by have := hB15.size; omega))).mono hz1)⟩
  | true =>
    have hS := strip_hop hT
    have RU := Lib.hid (fun u W hr => refUpH u T h dv W hr hR hT hhl (by omega))
    have RS := Lib.hid (fun u W hr => refStripH u T W hr hT)
    unfold stripE stripV at ST DN
    rw [hR, if_pos rfl, if_pos rfl] at ST DN
    rw [hR] at RR
    obtain ⟨E, hE⟩ : ∃ E, upE T h dv = E := ⟨_, rfl⟩
    obtain ⟨U, hU⟩ : ∃ U, upV T h dv = U := ⟨_, rfl⟩
    obtain ⟨Z, hZ⟩ : ∃ Z, stripL T = Z := ⟨_, rfl⟩
    rw [hE, hU] at UP RU
    rw [hZ] at ST DN RS hS
    have RM := Lib.hid (fun u W hr => refRemove u Z ctlS (by decide) W hr hS.small (by have := hS.len; omega))
    rw [remove_same (show sameN CtlG ctlS = true by decide)] at DN
    obtain ⟨Y, hY⟩ : ∃ Y, removeL Z ctlS = Y := ⟨_, rfl⟩
    rw [hY] at DN RM
    unfold ctlS at RM
    have L1 := Lib.hid (fun u1 u2 W h1 h2 => like_true Z u1 u2 W h1 h2)
    have L2 := Lib.hid (fun u1 u2 W h1 h2 => like_true U u1 u2 W h1 h2)
    have L3 := Lib.hid (fun u1 u2 W h1 h2 => like_true Y u1 u2 W h1 h2)
    clear hR hT hE hU hZ hS hY
    go_enter Tryz.func5, Tryz.ntmps5
    go_upto_region 1 with fail
    go_cut [1, 2, 3] (fun lv hv dv' wx => hv = .string (S h) ∧ dv' = .string (S dv) ∧ ReadsF wx lv T ∧ (∀ i, wx.frozen? ⟨w.heap.size, i, none⟩ = false) ∧ wx.cell? ⟨w.heap.size, 0, none⟩ = some (.string a) ∧ wx.cell? ⟨w.heap.size, 1, none⟩ = some (.string b) ∧ wx.cell? ⟨w.heap.size, 2, none⟩ = some (.int .i64 c) ∧ wx.cell? ⟨w.heap.size, 3, none⟩ = some (.string d) ∧ wx.cell? ⟨w.heap.size, 4, none⟩ = some (.int .i64 m) ∧ w.heap.size < wx.heap.size ∧ Below w.heap.size w wx)
    case first =>
      as_aux_lemma =>
        go_region_with (go_at_call 7; refine (C0.out _ (by (repeat (first | (with_reducible exact Below.refl _ _) | (with_reducible assumption) | (with_reducible refine Below.drew ?_) | (focus ((with_reducible refine Below.setCell ?_ ?_ _); rotate_left; (first | omega | (simp <;> omega)))) | (focus ((with_reducible refine Below.alloc ?_ ?_ _); rotate_left; (first | omega | (simp <;> omega)))) | exact Below.refl _ _ | assumption | refine Below.drew ?_ | refine Below.alloc ?_ (by first | omega | (simp <;> omega)) _ | refine Below.setCell ?_ (by first | omega | (simp <;> omega)) _)))).mono ?_; rintro e w1 ⟨v', rfl, hr, hb1⟩; obtain ⟨cc, ff⟩ := bk hb1 w.heap.size (by (first | omega | (simp <;> omega))); have hz1 := hb1.size; (try simp at hz1); have HB1 := Lib.hid (Below.trans (show Below w.heap.size w _ by (repeat (first | (with_reducible exact Below.refl _ _) | (with_reducible assumption) | (with_reducible refine Below.drew ?_) | (focus ((with_reducible refine Below.setCell ?_ ?_ _); rotate_left; (first | omega | (simp <;> omega)))) | (focus ((with_reducible refine Below.alloc ?_ ?_ _); rotate_left; (first | omega | (simp <;> omega)))) | exact Below.refl _ _ | assumption | refine Below.drew ?_ | refine Below.alloc ?_ (by first | omega | (simp <;> omega)) _ | refine Below.setCell ?_ (by first | omega | (simp <;> omega)) _))) (hb1.mono (by (first | omega | (simp <;> omega))))); have HR := Lib.hid hr; clear hb1 hr)
        all_goals (go_wp2_with fail; go_meet; exact ⟨by simp [go_sem, *], by simp [go_sem, *], HR.out, fun i => (ff i).trans (by simp [go_sem, *]), (cc 0).trans (by simp [go_sem, *]), (cc 1).trans (by simp [go_sem, *]), (cc 2).trans (by simp [go_sem, *]), (cc 3).trans (by simp [go_sem, *]), (cc 4).trans (by simp [go_sem, *]), by omega, HB1.out⟩)
    case rest =>
      obtain ⟨rfl, rfl, hr, fz, q0, q1, q2, q3, q4, hlt, hb1⟩ := hcut
      obtain ⟨w1, hw1⟩ : ∃ x, x = wc := ⟨_, rfl⟩
      rw [← hw1] at hr hb1 fz q0 q1 q2 q3 q4 hlt ⊢
      clear hw1
      have HB1 := Lib.hid hb1
      have HR := Lib.hid hr
      obtain ⟨ao, cap, rfl, _⟩ := hr
      have hz1 := HB1.out.size
      clear hb1
      have hf1 := far hlt
      obtain ⟨B, hB⟩ : ∃ B, w.heap.size = B := ⟨_, rfl⟩
      rw [hB] at fz q0 q1 q2 q3 q4 hlt hf1 ⊢
      go_wp2_with fail
      refine Calls.mono (ST.out _ _ HR.out (HM.out _ HB1.out)) ?_
      rintro e w2 ⟨v2, rfl, ho2, hb_w2⟩
      have hz_w2 := hb_w2.size
      try simp at hz_w2
      obtain ⟨c_w2_vB, f_w2_vB⟩ := bk hb_w2 (B) (by first | omega | (simp <;> omega))
      have c_w2_vB_0 := c_w2_vB 0
      conv at c_w2_vB_0 => rhs; simp [go_sem, *]
      have f_w2_vB_0 := f_w2_vB 0
      conv at f_w2_vB_0 => rhs; simp [go_sem, *]
      have c_w2_vB_1 := c_w2_vB 1
      conv at c_w2_vB_1 => rhs; simp [go_sem, *]
      have f_w2_vB_1 := f_w2_vB 1
      conv at f_w2_vB_1 => rhs; simp [go_sem, *]
      have c_w2_vB_2 := c_w2_vB 2
      conv at c_w2_vB_2 => rhs; simp [go_sem, *]
      have f_w2_vB_2 := f_w2_vB 2
      conv at f_w2_vB_2 => rhs; simp [go_sem, *]
      have c_w2_vB_3 := c_w2_vB 3
      conv at c_w2_vB_3 => rhs; simp [go_sem, *]
      have f_w2_vB_3 := f_w2_vB 3
      conv at f_w2_vB_3 => rhs; simp [go_sem, *]
      have c_w2_vB_4 := c_w2_vB 4
      conv at c_w2_vB_4 => rhs; simp [go_sem, *]
      have f_w2_vB_4 := f_w2_vB 4
      conv at f_w2_vB_4 => rhs; simp [go_sem, *]
      have HH_w2 := Lib.hid hb_w2
      have hB_w2 : Below w1.heap.size w1 w2 := Below.trans (by (repeat (first | (with_reducible exact Below.refl _ _) | (with_reducible assumption) | (with_reducible refine Below.drew ?_) | (focus ((with_reducible refine Below.setCell ?_ ?_ _); rotate_left; (first | omega | (simp <;> omega)))) | (focus ((with_reducible refine Below.alloc ?_ ?_ _); rotate_left; (first | omega | (simp <;> omega)))) | exact Below.refl _ _ | assumption | refine Below.drew ?_ | refine Below.alloc ?_ (by first | omega | (simp <;> omega)) _ | refine Below.setCell ?_ (by first | omega | (simp <;> omega)) _))) (hb_w2.mono (by first | omega | (simp <;> omega)))
      clear hb_w2 c_w2_vB f_w2_vB
      try clear hB_w6
      have far_w2_vB := far (show B < w2.heap.size by omega)
      have RA2 := Lib.hid ho2.reads
      obtain ⟨ao2, cap2, rfl, _, hc2, _⟩ := ho2.reads
      clear ho2
      have HR2 := Lib.hid (HR.out.below hB_w2)
      go_wp2_with fail
      refine Calls.mono (UP.out _ _ HR2.out (HM.out _ (HB1.out.trans (hB_w2.mono hz1)))) ?_
      rintro e w3 ⟨v3, rfl, hr3, hb_w3⟩
      have hz_w3 := hb_w3.size
      try simp at hz_w3
      obtain ⟨c_w3_vB, f_w3_vB⟩ := bk hb_w3 (B) (by first | omega | (simp <;> omega))
      have c_w3_vB_0 := c_w3_vB 0
      conv at c_w3_vB_0 => rhs; simp [go_sem, *]
      have f_w3_vB_0 := f_w3_vB 0
      conv at f_w3_vB_0 => rhs; simp [go_sem, *]
      have c_w3_vB_1 := c_w3_vB 1
      conv at c_w3_vB_1 => rhs; simp [go_sem, *]
      have f_w3_vB_1 := f_w3_vB 1
      conv at f_w3_vB_1 => rhs; simp [go_sem, *]
      have c_w3_vB_2 := c_w3_vB 2
      conv at c_w3_vB_2 => rhs; simp [go_sem, *]
      have f_w3_vB_2 := f_w3_vB 2
      conv at f_w3_vB_2 => rhs; simp [go_sem, *]
      have c_w3_vB_3 := c_w3_vB 3
      conv at c_w3_vB_3 => rhs; simp [go_sem, *]
      have f_w3_vB_3 := f_w3_vB 3
      conv at f_w3_vB_3 => rhs; simp [go_sem, *]
      have c_w3_vB_4 := c_w3_vB 4
      conv at c_w3_vB_4 => rhs; simp [go_sem, *]
      have f_w3_vB_4 := f_w3_vB 4
      conv at f_w3_vB_4 => rhs; simp [go_sem, *]
      have HH_w3 := Lib.hid hb_w3
      have hB_w3 : Below w1.heap.size w1 w3 := Below.trans (by (repeat (first | (with_reducible exact Below.refl _ _) | (with_reducible assumption) | (with_reducible refine Below.drew ?_) | (focus ((with_reducible refine Below.setCell ?_ ?_ _); rotate_left; (first | omega | (simp <;> omega)))) | (focus ((with_reducible refine Below.alloc ?_ ?_ _); rotate_left; (first | omega | (simp <;> omega)))) | exact Below.refl _ _ | assumption | refine Below.drew ?_ | refine Below.alloc ?_ (by first | omega | (simp <;> omega)) _ | refine Below.setCell ?_ (by first | omega | (simp <;> omega)) _))) (hb_w3.mono (by first | omega | (simp <;> omega)))
      clear hb_w3 c_w3_vB f_w3_vB
      try clear c_w2_vB_0
      try clear f_w2_vB_0
      try clear c_w2_vB_1
      try clear f_w2_vB_1
      try clear c_w2_vB_2
      try clear f_w2_vB_2
      try clear c_w2_vB_3
      try clear f_w2_vB_3
      try clear c_w2_vB_4
      try clear f_w2_vB_4
      try clear far_w2_vB
      try clear hB_w2
      have far_w3_vB := far (show B < w3.heap.size by omega)
      have RB3 := Lib.hid hr3
      have RA3 := Lib.hid (RA2.out.below HH_w3.out)
      obtain ⟨ao3, cap3, rfl, _, hc3, _⟩ := hr3
      have HR3 := Lib.hid (HR.out.below hB_w3)
      go_wp2_with fail
      refine Calls.mono (DN.out _ _ HR3.out (HM.out _ (HB1.out.trans (hB_w3.mono hz1)))) ?_
      rintro e w4 ⟨v4, rfl, hr4, hb_w4⟩
      have hz_w4 := hb_w4.size
      try simp at hz_w4
      obtain ⟨c_w4_vB, f_w4_vB⟩ := bk hb_w4 (B) (by first | omega | (simp <;> omega))
      have c_w4_vB_0 := c_w4_vB 0
      conv at c_w4_vB_0 => rhs; simp [go_sem, *]
      have f_w4_vB_0 := f_w4_vB 0
      conv at f_w4_vB_0 => rhs; simp [go_sem, *]
      have c_w4_vB_1 := c_w4_vB 1
      conv at c_w4_vB_1 => rhs; simp [go_sem, *]
      have f_w4_vB_1 := f_w4_vB 1
      conv at f_w4_vB_1 => rhs; simp [go_sem, *]
      have c_w4_vB_2 := c_w4_vB 2
      conv at c_w4_vB_2 => rhs; simp [go_sem, *]
      have f_w4_vB_2 := f_w4_vB 2
      conv at f_w4_vB_2 => rhs; simp [go_sem, *]
      have c_w4_vB_3 := c_w4_vB 3
      conv at c_w4_vB_3 => rhs; simp [go_sem, *]
      have f_w4_vB_3 := f_w4_vB 3
      conv at f_w4_vB_3 => rhs; simp [go_sem, *]
      have c_w4_vB_4 := c_w4_vB 4
      conv at c_w4_vB_4 => rhs; simp [go_sem, *]
      have f_w4_vB_4 := f_w4_vB 4
      conv at f_w4_vB_4 => rhs; simp [go_sem, *]
      have HH_w4 := Lib.hid hb_w4
      have hB_w4 : Below w1.heap.size w1 w4 := Below.trans (by (repeat (first | (with_reducible exact Below.refl _ _) | (with_reducible assumption) | (with_reducible refine Below.drew ?_) | (focus ((with_reducible refine Below.setCell ?_ ?_ _); rotate_left; (first | omega | (simp <;> omega)))) | (focus ((with_reducible refine Below.alloc ?_ ?_ _); rotate_left; (first | omega | (simp <;> omega)))) | exact Below.refl _ _ | assumption | refine Below.drew ?_ | refine Below.alloc ?_ (by first | omega | (simp <;> omega)) _ | refine Below.setCell ?_ (by first | omega | (simp <;> omega)) _))) (hb_w4.mono (by first | omega | (simp <;> omega)))
      clear hb_w4 c_w4_vB f_w4_vB
      try clear c_w3_vB_0
      try clear f_w3_vB_0
      try clear c_w3_vB_1
      try clear f_w3_vB_1
      try clear c_w3_vB_2
      try clear f_w3_vB_2
      try clear c_w3_vB_3
      try clear f_w3_vB_3
      try clear c_w3_vB_4
      try clear f_w3_vB_4
      try clear far_w3_vB
      try clear hB_w3
      have far_w4_vB := far (show B < w4.heap.size by omega)
      have RC4 := Lib.hid hr4
      have RA4 := Lib.hid (RA3.out.below HH_w4.out)
      have RB4 := Lib.hid (RB3.out.below HH_w4.out)
      obtain ⟨ao4, cap4, rfl, _, hc4, _⟩ := hr4
      have HR4 := Lib.hid (HR.out.below hB_w4)
      have X1 := Lib.hid (fun (p : Later w4.heap.size w4) => KP.out _ p.w (HR4.out.below p.b) (HM.out _ (HB1.out.trans ((hB_w4.trans (p.b.mono (by omega))).mono hz1))))
      have X2 := Lib.hid (fun (p : Later w4.heap.size w4) => KR.out _ p.w (HR4.out.below p.b))
      have X3 := Lib.hid (fun (p : Later w4.heap.size w4) => AL.out p.w (HM.out _ (HB1.out.trans ((hB_w4.trans (p.b.mono (by omega))).mono hz1))))
      have HB4 := Lib.hid hB_w4
      go_wp2_with fail
      refine wp_region_later (w4.heap.size) (by kernel_rfl) (by kernel_rfl) ?_
      have l_w5_vB := @Later.at (w4.heap.size) (B) (by omega)
      repeat (go_big_quiet_step (first | (go_at_call 9; with_reducible exact later_of (Nat.le_refl _) (X3.out _)) | (go_at_call 16; with_reducible exact later_of (Nat.le_refl _) (X1.out _)) | (go_at_call 17; with_reducible exact later_of (Nat.le_refl _) (X2.out _))))
      refine wpQuiet_nil ?_
      rintro w5 ⟨⟨_, hb_w5⟩, rfl⟩
      clear l_w5_vB
      try simp only [] at hb_w5 ⊢
      have hz_w5 := hb_w5.size
      try simp at hz_w5
      have c_w5_vB := fun o => hb_w5.cell (p := ⟨B, o, none⟩) (by first | omega | (simp <;> omega))
      have f_w5_vB := fun o => hb_w5.frozen (p := ⟨B, o, none⟩) (by first | omega | (simp <;> omega))
      have c_w5_vB_0 := c_w5_vB 0
      conv at c_w5_vB_0 => rhs; simp [go_sem, *]
      have f_w5_vB_0 := f_w5_vB 0
      conv at f_w5_vB_0 => rhs; simp [go_sem, *]
      have c_w5_vB_1 := c_w5_vB 1
      conv at c_w5_vB_1 => rhs; simp [go_sem, *]
      have f_w5_vB_1 := f_w5_vB 1
      conv at f_w5_vB_1 => rhs; simp [go_sem, *]
      have c_w5_vB_2 := c_w5_vB 2
      conv at c_w5_vB_2 => rhs; simp [go_sem, *]
      have f_w5_vB_2 := f_w5_vB 2
      conv at f_w5_vB_2 => rhs; simp [go_sem, *]
      have c_w5_vB_3 := c_w5_vB 3
      conv at c_w5_vB_3 => rhs; simp [go_sem, *]
      have f_w5_vB_3 := f_w5_vB 3
      conv at f_w5_vB_3 => rhs; simp [go_sem, *]
      have c_w5_vB_4 := c_w5_vB 4
      conv at c_w5_vB_4 => rhs; simp [go_sem, *]
      have f_w5_vB_4 := f_w5_vB 4
      conv at f_w5_vB_4 => rhs; simp [go_sem, *]
      have HH_w5 := Lib.hid hb_w5
      have hB_w5 : Below w4.heap.size w4 w5 := Below.trans (by (repeat (first | (with_reducible exact Below.refl _ _) | (with_reducible assumption) | (with_reducible refine Below.drew ?_) | (focus ((with_reducible refine Below.setCell ?_ ?_ _); rotate_left; (first | omega | (simp <;> omega)))) | (focus ((with_reducible refine Below.alloc ?_ ?_ _); rotate_left; (first | omega | (simp <;> omega)))) | exact Below.refl _ _ | assumption | refine Below.drew ?_ | refine Below.alloc ?_ (by first | omega | (simp <;> omega)) _ | refine Below.setCell ?_ (by first | omega | (simp <;> omega)) _))) (hb_w5.mono (by first | omega | (simp <;> omega)))
      clear hb_w5 c_w5_vB f_w5_vB
      try clear c_w4_vB_0
      try clear f_w4_vB_0
      try clear c_w4_vB_1
      try clear f_w4_vB_1
      try clear c_w4_vB_2
      try clear f_w4_vB_2
      try clear c_w4_vB_3
      try clear f_w4_vB_3
      try clear c_w4_vB_4
      try clear f_w4_vB_4
      try clear far_w4_vB
      try clear hB_w4
      have far_w5_vB := far (show B < w5.heap.size by omega)
      have HR5 := Lib.hid (HR4.out.below hB_w5)
      have hB15 := Lib.hid (HB4.out.trans (hB_w5.mono (by have := HB4.out.size; omega)))
      have RA5 := Lib.hid (RA4.out.below hB_w5)
      have RB5 := Lib.hid (RB4.out.below hB_w5)
      have RC5 := Lib.hid (RC4.out.below hB_w5)
      go_wp2_with fail
      refine Calls.mono (RR.out _ _ HR5.out) ?_
      rintro e w6 ⟨rfl, hb_w6⟩
      have hz_w6 := hb_w6.size
      try simp at hz_w6
      have HH_w6 := Lib.hid hb_w6
      have hB_w6 : Below w5.heap.size w5 w6 := Below.trans (by (repeat (first | (with_reducible exact Below.refl _ _) | (with_reducible assumption) | (with_reducible refine Below.drew ?_) | (focus ((with_reducible refine Below.setCell ?_ ?_ _); rotate_left; (first | omega | (simp <;> omega)))) | (focus ((with_reducible refine Below.alloc ?_ ?_ _); rotate_left; (first | omega | (simp <;> omega)))) | exact Below.refl _ _ | assumption | refine Below.drew ?_ | refine Below.alloc ?_ (by first | omega | (simp <;> omega)) _ | refine Below.setCell ?_ (by first | omega | (simp <;> omega)) _))) (hb_w6.mono (by first | omega | (simp <;> omega)))
      clear hb_w6
      try clear c_w5_vB_0
      try clear f_w5_vB_0
      try clear c_w5_vB_1
      try clear f_w5_vB_1
      try clear c_w5_vB_2
      try clear f_w5_vB_2
      try clear c_w5_vB_3
      try clear f_w5_vB_3
      try clear c_w5_vB_4
      try clear f_w5_vB_4
      try clear far_w5_vB
      try clear hB_w5
      have HR6 := Lib.hid (HR5.out.below hB_w6)
      go_wp2_with fail
      refine Calls.mono (RU.out _ _ HR6.out) ?_
      rintro e w7 ⟨v7, rfl, hr7, hb_w7⟩
      have hz_w7 := hb_w7.size
      try simp at hz_w7
      have HH_w7 := Lib.hid hb_w7
      have hB_w7 : Below w5.heap.size w5 w7 := Below.trans (by (repeat (first | (with_reducible exact Below.refl _ _) | (with_reducible assumption) | (with_reducible refine Below.drew ?_) | (focus ((with_reducible refine Below.setCell ?_ ?_ _); rotate_left; (first | omega | (simp <;> omega)))) | (focus ((with_reducible refine Below.alloc ?_ ?_ _); rotate_left; (first | omega | (simp <;> omega)))) | exact Below.refl _ _ | assumption | refine Below.drew ?_ | refine Below.alloc ?_ (by first | omega | (simp <;> omega)) _ | refine Below.setCell ?_ (by first | omega | (simp <;> omega)) _))) (hb_w7.mono (by first | omega | (simp <;> omega)))
      clear hb_w7
      try clear hB_w6
      have RD7 := Lib.hid hr7
      clear hr7
      have HR7 := Lib.hid (HR5.out.below hB_w7)
      go_wp2_with fail
      refine Calls.mono (RS.out _ _ HR7.out) ?_
      rintro e w8 ⟨v8, rfl, ho8, hb_w8⟩
      have hz_w8 := hb_w8.size
      try simp at hz_w8
      have HH_w8 := Lib.hid hb_w8
      have hB_w8 : Below w5.heap.size w5 w8 := Below.trans (by (repeat (first | (with_reducible exact Below.refl _ _) | (with_reducible assumption) | (with_reducible refine Below.drew ?_) | (focus ((with_reducible refine Below.setCell ?_ ?_ _); rotate_left; (first | omega | (simp <;> omega)))) | (focus ((with_reducible refine Below.alloc ?_ ?_ _); rotate_left; (first | omega | (simp <;> omega)))) | exact Below.refl _ _ | assumption | refine Below.drew ?_ | refine Below.alloc ?_ (by first | omega | (simp <;> omega)) _ | refine Below.setCell ?_ (by first | omega | (simp <;> omega)) _))) (hb_w8.mono (by first | omega | (simp <;> omega)))
      clear hb_w8
      try clear hB_w7
      have RE8 := Lib.hid ho8.reads
      clear ho8
      go_wp2_with fail
      refine Calls.mono (L1.out _ _ _ (RA5.out.below hB_w8) RE8.out) ?_
      rintro e w9 ⟨rfl, hb_w9⟩
      have hz_w9 := hb_w9.size
      try simp at hz_w9
      have HH_w9 := Lib.hid hb_w9
      have hB_w9 : Below w5.heap.size w5 w9 := Below.trans (by (repeat (first | (with_reducible exact Below.refl _ _) | (with_reducible assumption) | (with_reducible refine Below.drew ?_) | (focus ((with_reducible refine Below.setCell ?_ ?_ _); rotate_left; (first | omega | (simp <;> omega)))) | (focus ((with_reducible refine Below.alloc ?_ ?_ _); rotate_left; (first | omega | (simp <;> omega)))) | exact Below.refl _ _ | assumption | refine Below.drew ?_ | refine Below.alloc ?_ (by first | omega | (simp <;> omega)) _ | refine Below.setCell ?_ (by first | omega | (simp <;> omega)) _))) (hb_w9.mono (by first | omega | (simp <;> omega)))
      clear hb_w9
      try clear hB_w8
      have hb79 := HH_w8.out.trans (HH_w9.out.mono (by have := HH_w8.out.size; omega))
      go_wp2_with fail
      refine Calls.mono (L2.out _ _ _ (RB5.out.below hB_w9) (RD7.out.below hb79)) ?_
      rintro e w10 ⟨rfl, hb_w10⟩
      have hz_w10 := hb_w10.size
      try simp at hz_w10
      have HH_w10 := Lib.hid hb_w10
      have hB_w10 : Below w5.heap.size w5 w10 := Below.trans (by (repeat (first | (with_reducible exact Below.refl _ _) | (with_reducible assumption) | (with_reducible refine Below.drew ?_) | (focus ((with_reducible refine Below.setCell ?_ ?_ _); rotate_left; (first | omega | (simp <;> omega)))) | (focus ((with_reducible refine Below.alloc ?_ ?_ _); rotate_left; (first | omega | (simp <;> omega)))) | exact Below.refl _ _ | assumption | refine Below.drew ?_ | refine Below.alloc ?_ (by first | omega | (simp <;> omega)) _ | refine Below.setCell ?_ (by first | omega | (simp <;> omega)) _))) (hb_w10.mono (by first | omega | (simp <;> omega)))
      clear hb_w10
      try clear hB_w9
      go_wp2_with fail
      refine Calls.mono (RS.out _ _ (HR5.out.below hB_w10)) ?_
      rintro e w11 ⟨v11, rfl, ho11, hb_w11⟩
      have hz_w11 := hb_w11.size
      try simp at hz_w11
      have HH_w11 := Lib.hid hb_w11
      have hB_w11 : Below w5.heap.size w5 w11 := Below.trans (by (repeat (first | (with_reducible exact Below.refl _ _) | (with_reducible assumption) | (with_reducible refine Below.drew ?_) | (focus ((with_reducible refine Below.setCell ?_ ?_ _); rotate_left; (first | omega | (simp <;> omega)))) | (focus ((with_reducible refine Below.alloc ?_ ?_ _); rotate_left; (first | omega | (simp <;> omega)))) | exact Below.refl _ _ | assumption | refine Below.drew ?_ | refine Below.alloc ?_ (by first | omega | (simp <;> omega)) _ | refine Below.setCell ?_ (by first | omega | (simp <;> omega)) _))) (hb_w11.mono (by first | omega | (simp <;> omega)))
      clear hb_w11
      try clear hB_w10
      have R11 := Lib.hid ho11.reads
      clear ho11
      go_wp2_with fail
      refine Calls.mono (RM.out _ _ R11.out) ?_
      rintro e w12 ⟨v12, rfl, ho12, hb_w12⟩
      have hz_w12 := hb_w12.size
      try simp at hz_w12
      have HH_w12 := Lib.hid hb_w12
      have hB_w12 : Below w5.heap.size w5 w12 := Below.trans (by (repeat (first | (with_reducible exact Below.refl _ _) | (with_reducible assumption) | (with_reducible refine Below.drew ?_) | (focus ((with_reducible refine Below.setCell ?_ ?_ _); rotate_left; (first | omega | (simp <;> omega)))) | (focus ((with_reducible refine Below.alloc ?_ ?_ _); rotate_left; (first | omega | (simp <;> omega)))) | exact Below.refl _ _ | assumption | refine Below.drew ?_ | refine Below.alloc ?_ (by first | omega | (simp <;> omega)) _ | refine Below.setCell ?_ (by first | omega | (simp <;> omega)) _))) (hb_w12.mono (by first | omega | (simp <;> omega)))
      clear hb_w12
      try clear hB_w11
      have R12 := Lib.hid ho12.reads
      clear ho12
      go_wp2_with fail
      refine Calls.mono (L3.out _ _ _ (RC5.out.below hB_w12) R12.out) ?_
      rintro e w13 ⟨rfl, hb_w13⟩
      have hz_w13 := hb_w13.size
      try simp at hz_w13
      have HH_w13 := Lib.hid hb_w13
      have hB_w13 : Below w5.heap.size w5 w13 := Below.trans (by (repeat (first | (with_reducible exact Below.refl _ _) | (with_reducible assumption) | (with_reducible refine Below.drew ?_) | (focus ((with_reducible refine Below.setCell ?_ ?_ _); rotate_left; (first | omega | (simp <;> omega)))) | (focus ((with_reducible refine Below.alloc ?_ ?_ _); rotate_left; (first | omega | (simp <;> omega)))) | exact Below.refl _ _ | assumption | refine Below.drew ?_ | refine Below.alloc ?_ (by first | omega | (simp <;> omega)) _ | refine Below.setCell ?_ (by first | omega | (simp <;> omega)) _))) (hb_w13.mono (by first | omega | (simp <;> omega)))
      clear hb_w13
      try clear hB_w12
      go_wp2
      go_ret
      exact ⟨ret_bool (by simp), HB1.out.trans ((hB15.out.trans (hB_w13.mono (by have := hB15.out.size; omega))).mono hz1)⟩
end Go.Proofs.YtcfihoniocamaaaGreatDoor
