/- The law HopCan: its walk. The two listed tables are not read by these walks. A call's row that lists variables, and the shape of the world it is called in. -/
import Derived.Test.YtcfihoniocamaaaGreatDoorPk36
import Derived.Test.YtcfihoniocamaaaGreatDoorPk39
import Derived.Deep.DeepCutAuto
import Derived.Deep.RegionWith
import Derived.Test.YtcfihoniocamaaaGreatDoorPk3
import Derived.Test.YtcfihoniocamaaaGreatDoorPk13
import Derived.Test.YtcfihoniocamaaaGreatDoorRows
import Derived.LaidMore
import Derived.Test.YtcfihoniocamaaaGreatDoorShelf
import Derived.Handed
import Derived.HandedShaped
namespace Go.Proofs.YtcfihoniocamaaaGreatDoor
open Go.RowKit Go.Sort Go.Shelf
set_option linter.unusedVariables false

theorem owns_one {W : World} {B : Nat} {v : Value} {x : List UInt8} (h : Owns W B v [x]) : ∃ b cap, v = .slice (some ⟨b, 0, none⟩) 1 cap ∧ 1 ≤ cap ∧ cap ≤ 9223372036854775807 ∧ b < W.heap.size ∧ W.cell? ⟨b, 0, none⟩ = some (.string (S x)) := by
  obtain ⟨g, cap, h1, h2, h3, h4, h5⟩ := h.at 0 (by simp)
  exact ⟨g, cap, h1, h2, h3, h4, by simpa using h5 0 (by simp)⟩

set_option maxHeartbeats 3200000 in
set_option maxRecDepth 100000 in
theorem hopCan_any (v : Value) (L : List (List Value)) (b c : ByteArray) (w : World) (hv : RowsIn w 2 v L ∧ ∀ c ∈ L, AllSh [.str, .str] c) (k1 : b.size ≤ maxLen) (k2 : c.size ≤ maxLen) (_hL : True) (hM : ∃ m, w.cell? ⟨0, 0, none⟩ = some (.int .i64 m)) :
    Calls Tryz.prog 3 #[v, .string b, .string c] w fun e w' => e = .returned (.bool true) ∧ Below w.heap.size w w' := by
  obtain ⟨xs, hr0, hxl⟩ := reads_inF hv
  have C0 := Lib.hid (fun W (hb : Below w.heap.size w W) => few v xs W (hr0.below hb) hxl)
  have HM := Lib.hid (fun W hb => mlen_later hM W hb)
  have AL := Lib.hid (fun W h => hop_alive W h)
  have hT := few_hop xs
  obtain ⟨T, hTe⟩ : ∃ T, fewL xs = T := ⟨_, rfl⟩
  rw [hTe] at C0 hT
  obtain ⟨l0, rfl⟩ := S_of b
  obtain ⟨m0, rfl⟩ := S_of c
  rw [S_size] at k1 k2
  have hm : maxLen = 9223372036854775807 := rfl
  rw [hm] at k1 k2
  obtain ⟨p, hp, hp1, hp2⟩ : ∃ k : Nat, min (l0.length : Int) 1010 = k ∧ k ≤ l0.length ∧ k ≤ 1010 := ⟨min l0.length 1010, by omega, by omega, by omega⟩
  obtain ⟨q, hq, hq1, hq2⟩ : ∃ k : Nat, min (m0.length : Int) 60 = k ∧ k ≤ m0.length ∧ k ≤ 60 := ⟨min m0.length 60, by omega, by omega, by omega⟩
  obtain ⟨h, hh⟩ : ∃ s, l0.take p = s := ⟨_, rfl⟩
  obtain ⟨d, hd⟩ : ∃ s, m0.take q = s := ⟨_, rfl⟩
  have hhl : h.length ≤ 1010 := by rw [← hh, List.length_take]; omega
  have hdl : d.length ≤ 60 := by rw [← hd, List.length_take]; omega
  have hdi : (d.length : Int) ≤ 60 := by omega
  have hh2 : (l0.take p).drop 0 = h := hh
  have hd2 : (m0.take q).drop 0 = d := hd
  have UP := Lib.hid (fun u W hr hm => hopUp u T h d W hr hT hhl (by omega) hm)
  have hE0 : upE T h d ≠ 0 → upV T h d = [] := fun e => by unfold upV; rw [if_neg e]
  by_cases hE : upE T h d = 0
  · have hUr := up_right hE
    have hUh := up_hop hE hT
    have hN1 : (namedL (upV T h d) hostS).map (·.2) = [h] := by rw [up_host hE]; rfl
    obtain ⟨x, hN2, hx1, hx2, hxl⟩ : ∃ x, (namedL (upV T h d) capS).map (·.2) = [x] ∧ (d ++ esiQ).length ≤ x.length ∧ x.drop (x.length - (d ++ esiQ).length) = d ++ esiQ ∧ x.length ≤ 1000 := by
      refine ⟨(canF T h d).2, by rw [up_cap hE]; rfl, (canL_end _ _).1, (canL_end _ _).2, ?_⟩
      have hm : mayL (canF T h d) = true := (setE_zero (upE_zero hE).2.2.2).2.1
      unfold mayL at hm
      simp only [Bool.and_eq_true, decide_eq_true_eq] at hm
      exact hm.1.2
    rw [hE] at UP
    obtain ⟨U, hU⟩ : ∃ U, upV T h d = U := ⟨_, rfl⟩
    rw [hU] at UP hUr hUh hN1 hN2
    have AH := Lib.hid (fun u W hr => refAll u U hostS (by decide) W hr hUh.small (by have := hUh.len; omega))
    have AC := Lib.hid (fun u W hr => refAll u U capS (by decide) W hr hUh.small (by have := hUh.len; omega))
    rw [hN1] at AH
    rw [hN2] at AC
    have RR := Lib.hid (fun u W hr => refRight u U W hr hUh.small)
    rw [hUr] at RR
    unfold hostS at AH
    unfold capS at AC
    obtain ⟨y, hy⟩ : ∃ y, d ++ esiQ = y := ⟨_, rfl⟩
    rw [hy] at hx1 hx2
    unfold esiQ at hy
    have hyl : y.length ≤ 70 := by rw [← hy]; simp; omega
    have hyi : (y.length : Int) ≤ (x.length : Int) := by omega
    have hsub : (x.length : Int) - (y.length : Int) = ((x.length - y.length : Nat) : Int) := by omega
    have hx3 : (x.take x.length).drop (x.length - y.length) = y := by rw [List.take_length]; exact hx2
    have hx4 : (x.length : Int) ≤ 1000 := by omega
    clear hr0 hxl hv hM hTe hT hm hh hd hE hE0 hUr hUh hN1 hN2 hU hx3
    go_enter Tryz.func3, Tryz.ntmps3
    go_upto_region 1 with fail
    go_cut [0, 1, 2] (fun lv hv dv wx => hv = .string (S h) ∧ dv = .string (S d) ∧ ReadsF wx lv T ∧ Below w.heap.size w wx)
    case first =>
      as_aux_lemma =>
        go_region_with (go_at_call 7; refine (C0.out _ (by (repeat (first | (with_reducible exact Below.refl _ _) | (with_reducible assumption) | (with_reducible refine Below.drew ?_) | (focus ((with_reducible refine Below.setCell ?_ ?_ _); rotate_left; (first | omega | (simp <;> omega)))) | (focus ((with_reducible refine Below.alloc ?_ ?_ _); rotate_left; (first | omega | (simp <;> omega)))) | exact Below.refl _ _ | assumption | refine Below.drew ?_ | refine Below.alloc ?_ (by first | omega | (simp <;> omega)) _ | refine Below.setCell ?_ (by first | omega | (simp <;> omega)) _)))).mono ?_; rintro e w1 ⟨v', rfl, hr, hb1⟩; have HB1 := Lib.hid (Below.trans (show Below w.heap.size w _ by (repeat (first | (with_reducible exact Below.refl _ _) | (with_reducible assumption) | (with_reducible refine Below.drew ?_) | (focus ((with_reducible refine Below.setCell ?_ ?_ _); rotate_left; (first | omega | (simp <;> omega)))) | (focus ((with_reducible refine Below.alloc ?_ ?_ _); rotate_left; (first | omega | (simp <;> omega)))) | exact Below.refl _ _ | assumption | refine Below.drew ?_ | refine Below.alloc ?_ (by first | omega | (simp <;> omega)) _ | refine Below.setCell ?_ (by first | omega | (simp <;> omega)) _))) (hb1.mono (by (first | omega | (simp <;> omega))))); have HR := Lib.hid hr; clear hb1)
        all_goals (go_wp2_with fail; go_meet; exact ⟨by simp [go_sem, *], by simp [go_sem, *], HR.out, HB1.out⟩)
    case rest =>
      obtain ⟨rfl, rfl, hr, hb1⟩ := hcut
      obtain ⟨w1, hw1⟩ : ∃ x, x = wc := ⟨_, rfl⟩
      rw [← hw1] at hr hb1 ⊢
      clear hw1
      have HB1 := Lib.hid hb1
      have HR := Lib.hid hr
      obtain ⟨ao, cap, rfl, _⟩ := hr
      have hz1 := HB1.out.size
      clear hb1
      go_wp2_with fail
      refine Calls.mono (UP.out _ _ HR.out (HM.out _ HB1.out)) ?_
      rintro e w2 ⟨v2, rfl, hr2, hb_w2⟩
      have hz_w2 := hb_w2.size
      try simp at hz_w2
      have HH_w2 := Lib.hid hb_w2
      have hB_w2 : Below w1.heap.size w1 w2 := Below.trans (by (repeat (first | (with_reducible exact Below.refl _ _) | (with_reducible assumption) | (with_reducible refine Below.drew ?_) | (focus ((with_reducible refine Below.setCell ?_ ?_ _); rotate_left; (first | omega | (simp <;> omega)))) | (focus ((with_reducible refine Below.alloc ?_ ?_ _); rotate_left; (first | omega | (simp <;> omega)))) | exact Below.refl _ _ | assumption | refine Below.drew ?_ | refine Below.alloc ?_ (by first | omega | (simp <;> omega)) _ | refine Below.setCell ?_ (by first | omega | (simp <;> omega)) _))) (hb_w2.mono (by first | omega | (simp <;> omega)))
      clear hb_w2
      have R2 := Lib.hid hr2
      obtain ⟨ao2, cap2, rfl, _⟩ := hr2
      go_wp2_with fail
      refine Calls.mono (AH.out _ _ R2.out) ?_
      rintro e w3 ⟨v3, rfl, ho3, hb_w3⟩
      have hz_w3 := hb_w3.size
      try simp at hz_w3
      have HH_w3 := Lib.hid hb_w3
      have hB_w3 : Below w1.heap.size w1 w3 := Below.trans (by (repeat (first | (with_reducible exact Below.refl _ _) | (with_reducible assumption) | (with_reducible refine Below.drew ?_) | (focus ((with_reducible refine Below.setCell ?_ ?_ _); rotate_left; (first | omega | (simp <;> omega)))) | (focus ((with_reducible refine Below.alloc ?_ ?_ _); rotate_left; (first | omega | (simp <;> omega)))) | exact Below.refl _ _ | assumption | refine Below.drew ?_ | refine Below.alloc ?_ (by first | omega | (simp <;> omega)) _ | refine Below.setCell ?_ (by first | omega | (simp <;> omega)) _))) (hb_w3.mono (by first | omega | (simp <;> omega)))
      clear hb_w3
      try clear hB_w2
      have O3 := Lib.hid ho3
      obtain ⟨b3, cap3, rfl, _, _, hb3, e3⟩ := owns_one O3.out
      have R23 := Lib.hid (R2.out.below HH_w3.out)
      clear ho3
      go_wp2_with fail
      refine Calls.mono (AC.out _ _ R23.out) ?_
      rintro e w4 ⟨v4, rfl, ho4, hb_w4⟩
      have hz_w4 := hb_w4.size
      try simp at hz_w4
      have HH_w4 := Lib.hid hb_w4
      have hB_w4 : Below w1.heap.size w1 w4 := Below.trans (by (repeat (first | (with_reducible exact Below.refl _ _) | (with_reducible assumption) | (with_reducible refine Below.drew ?_) | (focus ((with_reducible refine Below.setCell ?_ ?_ _); rotate_left; (first | omega | (simp <;> omega)))) | (focus ((with_reducible refine Below.alloc ?_ ?_ _); rotate_left; (first | omega | (simp <;> omega)))) | exact Below.refl _ _ | assumption | refine Below.drew ?_ | refine Below.alloc ?_ (by first | omega | (simp <;> omega)) _ | refine Below.setCell ?_ (by first | omega | (simp <;> omega)) _))) (hb_w4.mono (by first | omega | (simp <;> omega)))
      clear hb_w4
      try clear hB_w3
      obtain ⟨b4, cap4, rfl, _, _, hb4, e4⟩ := owns_one ho4
      have R24 := Lib.hid (R23.out.below HH_w4.out)
      have e34 := (HH_w4.out.cell (p := ⟨b3, 0, none⟩) hb3).trans e3
      have hb34 : b3 < w4.heap.size := by omega
      clear ho4
      have AL4 := Lib.hid (fun (p : Later w4.heap.size w4) => AL.out p.w (HM.out _ (HB1.out.trans ((hB_w4.trans (p.b.mono (by omega))).mono hz1))))
      have RR4 := Lib.hid (fun (p : Later w4.heap.size w4) => RR.out _ p.w (R24.out.below p.b))
      have HB4 := Lib.hid hB_w4
      clear C0 HM AL UP AH AC RR HR R2 O3 R23 R24 HH_w2 HH_w3
      go_wp2_with fail
      refine wp_region_later (w4.heap.size) (by kernel_rfl) (by kernel_rfl) ?_
      have l_w5_vb3 := @Later.at (w4.heap.size) (b3) (by omega)
      have l_w5_vb4 := @Later.at (w4.heap.size) (b4) (by omega)
      repeat (go_big_quiet_step (first | (go_at_call 9; with_reducible exact later_of (Nat.le_refl _) (AL4.out _)) | (go_at_call 11; with_reducible exact later_of (Nat.le_refl _) (RR4.out _))))
      refine wpQuiet_nil ?_
      rintro w5 ⟨⟨_, hb_w5⟩, rfl⟩
      clear l_w5_vb3 l_w5_vb4
      try simp only [] at hb_w5 ⊢
      have hz_w5 := hb_w5.size
      try simp at hz_w5
      have c_w5_vb3 := fun o => hb_w5.cell (p := ⟨b3, o, none⟩) (by first | omega | (simp <;> omega))
      have f_w5_vb3 := fun o => hb_w5.frozen (p := ⟨b3, o, none⟩) (by first | omega | (simp <;> omega))
      have c_w5_vb3_0 := c_w5_vb3 0
      conv at c_w5_vb3_0 => rhs; simp [go_sem, *]
      have f_w5_vb3_0 := f_w5_vb3 0
      conv at f_w5_vb3_0 => rhs; simp [go_sem, *]
      have c_w5_vb4 := fun o => hb_w5.cell (p := ⟨b4, o, none⟩) (by first | omega | (simp <;> omega))
      have f_w5_vb4 := fun o => hb_w5.frozen (p := ⟨b4, o, none⟩) (by first | omega | (simp <;> omega))
      have c_w5_vb4_0 := c_w5_vb4 0
      conv at c_w5_vb4_0 => rhs; simp [go_sem, *]
      have f_w5_vb4_0 := f_w5_vb4 0
      conv at f_w5_vb4_0 => rhs; simp [go_sem, *]
      have HH_w5 := Lib.hid hb_w5
      have hB_w5 : Below w4.heap.size w4 w5 := Below.trans (by (repeat (first | (with_reducible exact Below.refl _ _) | (with_reducible assumption) | (with_reducible refine Below.drew ?_) | (focus ((with_reducible refine Below.setCell ?_ ?_ _); rotate_left; (first | omega | (simp <;> omega)))) | (focus ((with_reducible refine Below.alloc ?_ ?_ _); rotate_left; (first | omega | (simp <;> omega)))) | exact Below.refl _ _ | assumption | refine Below.drew ?_ | refine Below.alloc ?_ (by first | omega | (simp <;> omega)) _ | refine Below.setCell ?_ (by first | omega | (simp <;> omega)) _))) (hb_w5.mono (by first | omega | (simp <;> omega)))
      clear hb_w5 c_w5_vb3 f_w5_vb3 c_w5_vb4 f_w5_vb4
      try clear hB_w4
      have far_w5_vb3 := far (show b3 < w5.heap.size by omega)
      have far_w5_vb4 := far (show b4 < w5.heap.size by omega)
      go_wp2
      go_ret
      exact ⟨ret_bool (by simp), HB1.out.trans ((HB4.out.trans (hB_w5.mono (by have := HB4.out.size; omega))).mono hz1)⟩
  · have hUe := hE0 hE
    rw [hUe] at UP
    obtain ⟨z, hz⟩ : ∃ z, upE T h d = z := ⟨_, rfl⟩
    rw [hz] at UP hE
    have hz' : (z != 0) = true := by simpa using hE
    clear hr0 hxl hv hM hTe hT hm hh hd hE0 hUe hz
    go_enter Tryz.func3, Tryz.ntmps3
    go_upto_region 1 with fail
    go_cut [0, 1, 2] (fun lv hv dv wx => hv = .string (S h) ∧ dv = .string (S d) ∧ ReadsF wx lv T ∧ Below w.heap.size w wx)
    case first =>
      as_aux_lemma =>
        go_region_with (go_at_call 7; refine (C0.out _ (by (repeat (first | (with_reducible exact Below.refl _ _) | (with_reducible assumption) | (with_reducible refine Below.drew ?_) | (focus ((with_reducible refine Below.setCell ?_ ?_ _); rotate_left; (first | omega | (simp <;> omega)))) | (focus ((with_reducible refine Below.alloc ?_ ?_ _); rotate_left; (first | omega | (simp <;> omega)))) | exact Below.refl _ _ | assumption | refine Below.drew ?_ | refine Below.alloc ?_ (by first | omega | (simp <;> omega)) _ | refine Below.setCell ?_ (by first | omega | (simp <;> omega)) _)))).mono ?_; rintro e w1 ⟨v', rfl, hr, hb1⟩; have HB1 := Lib.hid (Below.trans (show Below w.heap.size w _ by (repeat (first | (with_reducible exact Below.refl _ _) | (with_reducible assumption) | (with_reducible refine Below.drew ?_) | (focus ((with_reducible refine Below.setCell ?_ ?_ _); rotate_left; (first | omega | (simp <;> omega)))) | (focus ((with_reducible refine Below.alloc ?_ ?_ _); rotate_left; (first | omega | (simp <;> omega)))) | exact Below.refl _ _ | assumption | refine Below.drew ?_ | refine Below.alloc ?_ (by first | omega | (simp <;> omega)) _ | refine Below.setCell ?_ (by first | omega | (simp <;> omega)) _))) (hb1.mono (by (first | omega | (simp <;> omega))))); have HR := Lib.hid hr; clear hb1)
        all_goals (go_wp2_with fail; go_meet; exact ⟨by simp [go_sem, *], by simp [go_sem, *], HR.out, HB1.out⟩)
    case rest =>
      obtain ⟨rfl, rfl, hr, hb1⟩ := hcut
      obtain ⟨w1, hw1⟩ : ∃ x, x = wc := ⟨_, rfl⟩
      rw [← hw1] at hr hb1 ⊢
      clear hw1
      have HB1 := Lib.hid hb1
      have HR := Lib.hid hr
      obtain ⟨ao, cap, rfl, _⟩ := hr
      have hz1 := HB1.out.size
      clear hb1
      go_wp2_with fail
      refine Calls.mono (UP.out _ _ HR.out (HM.out _ HB1.out)) ?_
      rintro e w2 ⟨v2, rfl, hr2, hb_w2⟩
      have hz_w2 := hb_w2.size
      try simp at hz_w2
      have HH_w2 := Lib.hid hb_w2
      have hB_w2 : Below w1.heap.size w1 w2 := Below.trans (by (repeat (first | (with_reducible exact Below.refl _ _) | (with_reducible assumption) | (with_reducible refine Below.drew ?_) | (focus ((with_reducible refine Below.setCell ?_ ?_ _); rotate_left; (first | omega | (simp <;> omega)))) | (focus ((with_reducible refine Below.alloc ?_ ?_ _); rotate_left; (first | omega | (simp <;> omega)))) | exact Below.refl _ _ | assumption | refine Below.drew ?_ | refine Below.alloc ?_ (by first | omega | (simp <;> omega)) _ | refine Below.setCell ?_ (by first | omega | (simp <;> omega)) _))) (hb_w2.mono (by first | omega | (simp <;> omega)))
      clear hb_w2
      try clear c_w5_vb3_0
      try clear f_w5_vb3_0
      try clear c_w5_vb4_0
      try clear f_w5_vb4_0
      try clear far_w5_vb3
      try clear far_w5_vb4
      try clear hB_w5
      obtain ⟨ao2, cap2, rfl, _, hcc, _⟩ := hr2
      go_wp2_with fail
      refine Calls.mono (AL.out _ (HM.out _ (HB1.out.trans (hB_w2.mono hz1)))) ?_
      rintro e w3 ⟨rfl, hb_w3⟩
      have hz_w3 := hb_w3.size
      try simp at hz_w3
      have HH_w3 := Lib.hid hb_w3
      have hB_w3 : Below w1.heap.size w1 w3 := Below.trans (by (repeat (first | (with_reducible exact Below.refl _ _) | (with_reducible assumption) | (with_reducible refine Below.drew ?_) | (focus ((with_reducible refine Below.setCell ?_ ?_ _); rotate_left; (first | omega | (simp <;> omega)))) | (focus ((with_reducible refine Below.alloc ?_ ?_ _); rotate_left; (first | omega | (simp <;> omega)))) | exact Below.refl _ _ | assumption | refine Below.drew ?_ | refine Below.alloc ?_ (by first | omega | (simp <;> omega)) _ | refine Below.setCell ?_ (by first | omega | (simp <;> omega)) _))) (hb_w3.mono (by first | omega | (simp <;> omega)))
      clear hb_w3
      try clear hB_w2
      go_wp2
      go_ret
      exact ⟨ret_bool (by simp), HB1.out.trans (hB_w3.mono hz1)⟩
end Go.Proofs.YtcfihoniocamaaaGreatDoor
namespace Go.Proofs.YtcfihoniocamaaaGreatDoor
open Go.ChangeShapes Go.WideShapes Go.ChangeAt Go.RowKit Go.Deep
set_option linter.unusedVariables false

abbrev laid2 : List (String × DataW Unit) := [("unicode/utf8.acceptRanges", Rows.laid_unicode_utf8_acceptRanges), ("unicode/utf8.first", Rows.laid_unicode_utf8_first)]
theorem laid_of {W : World} (h : laidMetH Tryz.prog laid2 W) : True := trivial
end Go.Proofs.YtcfihoniocamaaaGreatDoor
namespace Go.Proofs.YtcfihoniocamaaaGreatDoor
open Go.ChangeShapes Go.WideShapes Go.ChangeAt Go.RowKit Go.Deep
set_option linter.unusedVariables false

section
variable {H : Type} {enc : TypeId × Value → H}
/-- What is listed, and the shape. -/
theorem returnsInHanded_of_change_and_shaped {a : Assume} {C : Checked} {os : Os} {f : FuncId} {fn : Func} {s : ChangeSpec} {conds : List PathCond} {apart fresh handsOn again : Bool} {X : World → Array Value → Prop}
    (hX : ∀ (w w' : World) (args : Array Value), w.heap = w'.heap → X w args → X w' args)
    (own : ownKnob C.prog.godebug = none) (started : os.Started) (noInit : C.prog.inits.idxOf? f = none) (hfn : C.prog.funcs[f]? = some fn)
    (witness : ∃ (w : World) (tape : Tape) (i : Input), w.os = os ∧ (w.forCall tape i).Shaped C.prog ∧ i.vars = [] ∧ Input.okWide C.prog (w.forCall tape i) .any w.heap.size f i ∧
      ((s.pre enc C.prog fn conds apart (w.forCall tape i).memory i.args ∧ X (w.forCall tape i).memory i.args) ∧ sizedMet enc C.prog fn (OpenSpec.ofChange s) apart (w.forCall tape i).memory i.args) ∧ a.holds C.prog (lone (Frame.enter C.prog f i.args .normal) [] (w.forCall tape i)))
    (contract : ∀ (W : World) (base : Nat) (args : Array Value) (ds gs : List (DataW H)) (before : List MemPlace),
      (∀ (j : Nat) t v, fn.params[j]? = some t → args[j]? = some v → Value.okWide C.prog W .any base t v) →
      DataW.Whole enc C.prog fn.params.toList s.vars apart W args.toList ds gs before →
      conds.all (PathCond.test C.prog ⟨fn.params.toList, ds, s.plain.varTypes C.prog, gs⟩) = true →
      (DataW.weightsEach C.prog (fn.params.toList ++ s.plain.varTypes C.prog) (ds ++ gs)).all (· ≤ reachBytes) = true → X W args → W.ShapedOpen C.prog →
      a.holds C.prog (lone (Frame.enter C.prog f args .normal) [] W) →
      Calls C.prog f args W fun e W' => ∃ v, e = .returned v ∧ s.post enc C.prog fn apart fresh handsOn again W args v W') :
    ReturnsInHanded a C os f .any (fun w args => (s.pre enc C.prog fn conds apart w args ∧ X w args) ∧ sizedMet enc C.prog fn (OpenSpec.ofChange s) apart w args) (s.post enc C.prog fn apart fresh handsOn again) := by
  refine returnsInHanded_of_calls own started noInit witness ?_
  intro w tape i _ hsh _ hok hpre hholds
  obtain ⟨_, _, _, fn', hfn', _, _, _, _, hval⟩ := hok
  obtain rfl := Option.some.inj (hfn'.symm.trans hfn)
  obtain ⟨⟨⟨ds, gs, before, hw, hc⟩, hx⟩, hz⟩ := hpre
  have hw2 := DataW.Whole.of_heap (w' := w.forCall tape i) (by rfl) hw
  refine (contract (w.forCall tape i) w.heap.size i.args ds gs before hval hw2 hc (hz.weights hw) (hX _ _ _ (by rfl) hx) hsh hholds).mono fun e W' hv => ?_
  obtain ⟨v, rfl, hp⟩ := hv
  exact ChangeSpec.post_blind hp
end

/-- The library's own variable holds some number. -/
theorem maxlen {W : World} (h : W.ShapedOpen Tryz.prog) : ∃ m, W.cell? ⟨0, 0, none⟩ = some (.int .i64 m) := Tryz.laysM146.s1_3 W h
end Go.Proofs.YtcfihoniocamaaaGreatDoor
