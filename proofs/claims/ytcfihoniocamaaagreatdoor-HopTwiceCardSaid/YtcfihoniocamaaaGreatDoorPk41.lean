/- The law HopTwice: its walk. -/
import Derived.Test.YtcfihoniocamaaaGreatDoorPk40
namespace Go.Proofs.YtcfihoniocamaaaGreatDoor
open Go.RowKit Go.Sort Go.Shelf
set_option linter.unusedVariables false

def oneD : List UInt8 := [111, 110, 101]
def twoD : List UInt8 := [116, 119, 111]
set_option maxHeartbeats 3200000 in
set_option maxRecDepth 100000 in
theorem hopTwice_any (v : Value) (L : List (List Value)) (b : ByteArray) (w : World) (hv : RowsIn w 2 v L ∧ ∀ c ∈ L, AllSh [.str, .str] c) (k1 : b.size ≤ maxLen) (_hL : True) (hM : ∃ m, w.cell? ⟨0, 0, none⟩ = some (.int .i64 m)) :
    Calls Tryz.prog 4 #[v, .string b] w fun e w' => e = .returned (.bool true) ∧ Below w.heap.size w w' := by
  obtain ⟨xs, hr0, hxl⟩ := reads_inF hv
  have C0 := Lib.hid (fun W (hb : Below w.heap.size w W) => few v xs W (hr0.below hb) hxl)
  have HM := Lib.hid (fun W hb => mlen_later hM W hb)
  have AL := Lib.hid (fun W h => hop_alive W h)
  have hT := few_hop xs
  obtain ⟨T, hTe⟩ : ∃ T, fewL xs = T := ⟨_, rfl⟩
  rw [hTe] at C0 hT
  obtain ⟨l0, rfl⟩ := S_of b
  rw [S_size] at k1
  have hm : maxLen = 9223372036854775807 := rfl
  rw [hm] at k1
  obtain ⟨p, hp, hp1, hp2⟩ : ∃ k : Nat, min (l0.length : Int) 200 = k ∧ k ≤ l0.length ∧ k ≤ 200 := ⟨min l0.length 200, by omega, by omega, by omega⟩
  obtain ⟨h, hh⟩ : ∃ s, l0.take p = s := ⟨_, rfl⟩
  have hhl : h.length ≤ 1010 := by rw [← hh, List.length_take]; omega
  have hh2 : (l0.take p).drop 0 = h := hh
  have UP := Lib.hid (fun u W hr hm => hopUp u T h oneD W hr hT hhl (by decide) hm)
  have hE0 : upE T h oneD ≠ 0 → upV T h oneD = [] := fun e => by unfold upV; rw [if_neg e]
  by_cases hE : upE T h oneD = 0
  · have hUh := up_hop hE hT
    obtain ⟨_, _, hE2, hTw⟩ := up_twice (e := twoD) hE (by decide)
    have hN1 : (namedL (upV T h oneD) capS).map (·.2) = [(canF T h oneD).2] := by rw [up_cap hE]; rfl
    have hxl : (canF T h oneD).2.length ≤ 1000 := by
      have hm : mayL (canF T h oneD) = true := (setE_zero (upE_zero hE).2.2.2).2.1
      unfold mayL at hm
      simp only [Bool.and_eq_true, decide_eq_true_eq] at hm
      exact hm.1.2
    rw [hE] at UP
    obtain ⟨x, hx⟩ : ∃ x, (canF T h oneD).2 = x := ⟨_, rfl⟩
    rw [hx] at hN1 hTw hxl
    obtain ⟨U, hU⟩ : ∃ U, upV T h oneD = U := ⟨_, rfl⟩
    rw [hU] at UP hUh hN1 hE2 hTw
    have UP2 := Lib.hid (fun u W hr hm => hopUp u U h twoD W hr hUh hhl (by decide) hm)
    have hV0 : upE U h twoD ≠ 0 → upV U h twoD = [] := fun e => by unfold upV; rw [if_neg e]
    rcases hE2 with hE2 | hE2
    · rw [hV0 (by rw [hE2]; decide), hE2] at UP2
      unfold oneD at UP
      unfold twoD at UP2
      clear hr0 hxl hv hM hTe hT hm hh hE hE0 hUh hN1 hU hx hV0 hTw hE2
      go_enter Tryz.func4, Tryz.ntmps4
      go_upto_region 1 with fail
      go_cut [0, 1] (fun lv hv wx => hv = .string (S h) ∧ ReadsF wx lv T ∧ Below w.heap.size w wx)
      case first =>
        as_aux_lemma =>
          go_region_with (go_at_call 7; refine (C0.out _ (by (repeat (first | (with_reducible exact Below.refl _ _) | (with_reducible assumption) | (with_reducible refine Below.drew ?_) | (focus ((with_reducible refine Below.setCell ?_ ?_ _); rotate_left; (first | omega | (simp <;> omega)))) | (focus ((with_reducible refine Below.alloc ?_ ?_ _); rotate_left; (first | omega | (simp <;> omega)))) | exact Below.refl _ _ | assumption | refine Below.drew ?_ | refine Below.alloc ?_ (by first | omega | (simp <;> omega)) _ | refine Below.setCell ?_ (by first | omega | (simp <;> omega)) _)))).mono ?_; rintro e w1 ⟨v', rfl, hr, hb1⟩; have HB1 := Lib.hid (Below.trans (show Below w.heap.size w _ by (repeat (first | (with_reducible exact Below.refl _ _) | (with_reducible assumption) | (with_reducible refine Below.drew ?_) | (focus ((with_reducible refine Below.setCell ?_ ?_ _); rotate_left; (first | omega | (simp <;> omega)))) | (focus ((with_reducible refine Below.alloc ?_ ?_ _); rotate_left; (first | omega | (simp <;> omega)))) | exact Below.refl _ _ | assumption | refine Below.drew ?_ | refine Below.alloc ?_ (by first | omega | (simp <;> omega)) _ | refine Below.setCell ?_ (by first | omega | (simp <;> omega)) _))) (hb1.mono (by (first | omega | (simp <;> omega))))); have HR := Lib.hid hr; clear hb1)
          all_goals (go_wp2_with fail; go_meet; exact ⟨by simp [go_sem, *], HR.out, HB1.out⟩)
      case rest =>
        obtain ⟨rfl, hr, hb1⟩ := hcut
        obtain ⟨w1, hw1⟩ : ∃ x, x = wc := ⟨_, rfl⟩
        rw [← hw1] at hr hb1 ⊢
        clear hw1
        have HB1 := Lib.hid hb1
        have HR := Lib.hid hr
        obtain ⟨ao, cap, rfl, _⟩ := hr
        have hz1 := HB1.out.size
        clear hb1
        go_wp2_with fail
        refine Calls.mono (UP.out _ _ HR.out (HM.out _ HB1.out)) ?_
        rintro e w2 ⟨v2, rfl, hr2, hb_w2⟩
        have hz_w2 := hb_w2.size
        try simp at hz_w2
        have HH_w2 := Lib.hid hb_w2
        have hB_w2 : Below w1.heap.size w1 w2 := Below.trans (by (repeat (first | (with_reducible exact Below.refl _ _) | (with_reducible assumption) | (with_reducible refine Below.drew ?_) | (focus ((with_reducible refine Below.setCell ?_ ?_ _); rotate_left; (first | omega | (simp <;> omega)))) | (focus ((with_reducible refine Below.alloc ?_ ?_ _); rotate_left; (first | omega | (simp <;> omega)))) | exact Below.refl _ _ | assumption | refine Below.drew ?_ | refine Below.alloc ?_ (by first | omega | (simp <;> omega)) _ | refine Below.setCell ?_ (by first | omega | (simp <;> omega)) _))) (hb_w2.mono (by first | omega | (simp <;> omega)))
        clear hb_w2
        have R2 := Lib.hid hr2
        obtain ⟨ao2, cap2, rfl, _⟩ := hr2
        go_wp2_with fail
        refine Calls.mono (UP2.out _ _ R2.out (HM.out _ (HB1.out.trans (hB_w2.mono hz1)))) ?_
        rintro e w3 ⟨v3, rfl, hr3, hb_w3⟩
        have hz_w3 := hb_w3.size
        try simp at hz_w3
        have HH_w3 := Lib.hid hb_w3
        have hB_w3 : Below w1.heap.size w1 w3 := Below.trans (by (repeat (first | (with_reducible exact Below.refl _ _) | (with_reducible assumption) | (with_reducible refine Below.drew ?_) | (focus ((with_reducible refine Below.setCell ?_ ?_ _); rotate_left; (first | omega | (simp <;> omega)))) | (focus ((with_reducible refine Below.alloc ?_ ?_ _); rotate_left; (first | omega | (simp <;> omega)))) | exact Below.refl _ _ | assumption | refine Below.drew ?_ | refine Below.alloc ?_ (by first | omega | (simp <;> omega)) _ | refine Below.setCell ?_ (by first | omega | (simp <;> omega)) _))) (hb_w3.mono (by first | omega | (simp <;> omega)))
        clear hb_w3
        try clear hB_w2
        obtain ⟨ao3, cap3, rfl, _, hcc, _⟩ := hr3
        go_wp2_with fail
        refine Calls.mono (AL.out _ (HM.out _ (HB1.out.trans (hB_w3.mono hz1)))) ?_
        rintro e w4 ⟨rfl, hb_w4⟩
        have hz_w4 := hb_w4.size
        try simp at hz_w4
        have HH_w4 := Lib.hid hb_w4
        have hB_w4 : Below w1.heap.size w1 w4 := Below.trans (by (repeat (first | (with_reducible exact Below.refl _ _) | (with_reducible assumption) | (with_reducible refine Below.drew ?_) | (focus ((with_reducible refine Below.setCell ?_ ?_ _); rotate_left; (first | omega | (simp <;> omega)))) | (focus ((with_reducible refine Below.alloc ?_ ?_ _); rotate_left; (first | omega | (simp <;> omega)))) | exact Below.refl _ _ | assumption | refine Below.drew ?_ | refine Below.alloc ?_ (by first | omega | (simp <;> omega)) _ | refine Below.setCell ?_ (by first | omega | (simp <;> omega)) _))) (hb_w4.mono (by first | omega | (simp <;> omega)))
        clear hb_w4
        try clear hB_w3
        go_wp2
        go_ret
        exact ⟨ret_bool (by simp), HB1.out.trans (hB_w4.mono hz1)⟩
    · have hVr := up_right hE2
      have hVh := up_hop hE2 hUh
      obtain ⟨hN2, hrem⟩ := hTw hE2
      have hN2' : (namedL (upV U h twoD) capS).map (·.2) = [x ++ (44 :: 32 :: (twoD ++ esiQ))] := by rw [hN2]; rfl
      rw [hE2] at UP2
      obtain ⟨V, hV⟩ : ∃ V, upV U h twoD = V := ⟨_, rfl⟩
      rw [hV] at UP2 hVh hN2' hrem
      have A1 := Lib.hid (fun u W hr => refAll u U capS (by decide) W hr hUh.small (by have := hUh.len; omega))
      have A2 := Lib.hid (fun u W hr => refAll u V capS (by decide) W hr hVh.small (by have := hVh.len; omega))
      have M1 := Lib.hid (fun u W hr => refRemove u U capS (by decide) W hr hUh.small (by have := hUh.len; omega))
      have M2 := Lib.hid (fun u W hr => refRemove u V capS (by decide) W hr hVh.small (by have := hVh.len; omega))
      rw [hN1] at A1
      rw [hN2'] at A2
      rw [hrem] at M2
      obtain ⟨Z, hZ⟩ : ∃ Z, removeL U capS = Z := ⟨_, rfl⟩
      rw [hZ] at M1 M2
      have LK := Lib.hid (fun u1 u2 W h1 h2 => like_true Z u1 u2 W h1 h2)
      unfold capS at A1 A2 M1 M2
      unfold twoD esiQ at A2
      unfold oneD at UP
      unfold twoD at UP2
      simp only [List.cons_append, List.nil_append] at A2
      have hxi : (x.length : Int) ≤ 1000 := by omega
      clear hr0 hv hM hTe hT hm hh hE hE0 hUh hN1 hU hx hV0 hTw hE2 hVr hVh hN2 hrem hN2' hV hZ
      go_enter Tryz.func4, Tryz.ntmps4
      go_upto_region 1 with fail
      go_cut [0, 1] (fun lv hv wx => hv = .string (S h) ∧ ReadsF wx lv T ∧ Below w.heap.size w wx)
      case first =>
        as_aux_lemma =>
          go_region_with (go_at_call 7; refine (C0.out _ (by (repeat (first | (with_reducible exact Below.refl _ _) | (with_reducible assumption) | (with_reducible refine Below.drew ?_) | (focus ((with_reducible refine Below.setCell ?_ ?_ _); rotate_left; (first | omega | (simp <;> omega)))) | (focus ((with_reducible refine Below.alloc ?_ ?_ _); rotate_left; (first | omega | (simp <;> omega)))) | exact Below.refl _ _ | assumption | refine Below.drew ?_ | refine Below.alloc ?_ (by first | omega | (simp <;> omega)) _ | refine Below.setCell ?_ (by first | omega | (simp <;> omega)) _)))).mono ?_; rintro e w1 ⟨v', rfl, hr, hb1⟩; have HB1 := Lib.hid (Below.trans (show Below w.heap.size w _ by (repeat (first | (with_reducible exact Below.refl _ _) | (with_reducible assumption) | (with_reducible refine Below.drew ?_) | (focus ((with_reducible refine Below.setCell ?_ ?_ _); rotate_left; (first | omega | (simp <;> omega)))) | (focus ((with_reducible refine Below.alloc ?_ ?_ _); rotate_left; (first | omega | (simp <;> omega)))) | exact Below.refl _ _ | assumption | refine Below.drew ?_ | refine Below.alloc ?_ (by first | omega | (simp <;> omega)) _ | refine Below.setCell ?_ (by first | omega | (simp <;> omega)) _))) (hb1.mono (by (first | omega | (simp <;> omega))))); have HR := Lib.hid hr; clear hb1)
          all_goals (go_wp2_with fail; go_meet; exact ⟨by simp [go_sem, *], HR.out, HB1.out⟩)
      case rest =>
        obtain ⟨rfl, hr, hb1⟩ := hcut
        obtain ⟨w1, hw1⟩ : ∃ x, x = wc := ⟨_, rfl⟩
        rw [← hw1] at hr hb1 ⊢
        clear hw1
        have HB1 := Lib.hid hb1
        have HR := Lib.hid hr
        obtain ⟨ao, cap, rfl, _⟩ := hr
        have hz1 := HB1.out.size
        clear hb1
        go_wp2_with fail
        refine Calls.mono (UP.out _ _ HR.out (HM.out _ HB1.out)) ?_
        rintro e w2 ⟨v2, rfl, hr2, hb_w2⟩
        have hz_w2 := hb_w2.size
        try simp at hz_w2
        have HH_w2 := Lib.hid hb_w2
        have hB_w2 : Below w1.heap.size w1 w2 := Below.trans (by (repeat (first | (with_reducible exact Below.refl _ _) | (with_reducible assumption) | (with_reducible refine Below.drew ?_) | (focus ((with_reducible refine Below.setCell ?_ ?_ _); rotate_left; (first | omega | (simp <;> omega)))) | (focus ((with_reducible refine Below.alloc ?_ ?_ _); rotate_left; (first | omega | (simp <;> omega)))) | exact Below.refl _ _ | assumption | refine Below.drew ?_ | refine Below.alloc ?_ (by first | omega | (simp <;> omega)) _ | refine Below.setCell ?_ (by first | omega | (simp <;> omega)) _))) (hb_w2.mono (by first | omega | (simp <;> omega)))
        clear hb_w2
        try clear hB_w4
        have R2 := Lib.hid hr2
        obtain ⟨ao2, cap2, rfl, _⟩ := hr2
        go_wp2_with fail
        refine Calls.mono (UP2.out _ _ R2.out (HM.out _ (HB1.out.trans (hB_w2.mono hz1)))) ?_
        rintro e w3 ⟨v3, rfl, hr3, hb_w3⟩
        have hz_w3 := hb_w3.size
        try simp at hz_w3
        have HH_w3 := Lib.hid hb_w3
        have hB_w3 : Below w1.heap.size w1 w3 := Below.trans (by (repeat (first | (with_reducible exact Below.refl _ _) | (with_reducible assumption) | (with_reducible refine Below.drew ?_) | (focus ((with_reducible refine Below.setCell ?_ ?_ _); rotate_left; (first | omega | (simp <;> omega)))) | (focus ((with_reducible refine Below.alloc ?_ ?_ _); rotate_left; (first | omega | (simp <;> omega)))) | exact Below.refl _ _ | assumption | refine Below.drew ?_ | refine Below.alloc ?_ (by first | omega | (simp <;> omega)) _ | refine Below.setCell ?_ (by first | omega | (simp <;> omega)) _))) (hb_w3.mono (by first | omega | (simp <;> omega)))
        clear hb_w3
        try clear hB_w2
        have R3 := Lib.hid hr3
        obtain ⟨ao3, cap3, rfl, _⟩ := hr3
        have R23 := Lib.hid (R2.out.below HH_w3.out)
        go_wp2_with fail
        refine Calls.mono (A1.out _ _ R23.out) ?_
        rintro e w4 ⟨v4, rfl, ho4, hb_w4⟩
        have hz_w4 := hb_w4.size
        try simp at hz_w4
        have HH_w4 := Lib.hid hb_w4
        have hB_w4 : Below w1.heap.size w1 w4 := Below.trans (by (repeat (first | (with_reducible exact Below.refl _ _) | (with_reducible assumption) | (with_reducible refine Below.drew ?_) | (focus ((with_reducible refine Below.setCell ?_ ?_ _); rotate_left; (first | omega | (simp <;> omega)))) | (focus ((with_reducible refine Below.alloc ?_ ?_ _); rotate_left; (first | omega | (simp <;> omega)))) | exact Below.refl _ _ | assumption | refine Below.drew ?_ | refine Below.alloc ?_ (by first | omega | (simp <;> omega)) _ | refine Below.setCell ?_ (by first | omega | (simp <;> omega)) _))) (hb_w4.mono (by first | omega | (simp <;> omega)))
        clear hb_w4
        try clear hB_w3
        obtain ⟨b4, cap4, rfl, _, _, hb4, e4⟩ := owns_one ho4
        have R24 := Lib.hid (R23.out.below HH_w4.out)
        have R34 := Lib.hid (R3.out.below HH_w4.out)
        clear ho4
        go_wp2_with fail
        refine Calls.mono (A2.out _ _ R34.out) ?_
        rintro e w5 ⟨v5, rfl, ho5, hb_w5⟩
        have hz_w5 := hb_w5.size
        try simp at hz_w5
        have HH_w5 := Lib.hid hb_w5
        have hB_w5 : Below w1.heap.size w1 w5 := Below.trans (by (repeat (first | (with_reducible exact Below.refl _ _) | (with_reducible assumption) | (with_reducible refine Below.drew ?_) | (focus ((with_reducible refine Below.setCell ?_ ?_ _); rotate_left; (first | omega | (simp <;> omega)))) | (focus ((with_reducible refine Below.alloc ?_ ?_ _); rotate_left; (first | omega | (simp <;> omega)))) | exact Below.refl _ _ | assumption | refine Below.drew ?_ | refine Below.alloc ?_ (by first | omega | (simp <;> omega)) _ | refine Below.setCell ?_ (by first | omega | (simp <;> omega)) _))) (hb_w5.mono (by first | omega | (simp <;> omega)))
        clear hb_w5
        try clear hB_w4
        obtain ⟨b5, cap5, rfl, _, _, hb5, e5⟩ := owns_one ho5
        have R25 := Lib.hid (R24.out.below HH_w5.out)
        have R35 := Lib.hid (R34.out.below HH_w5.out)
        have e45 := (HH_w5.out.cell (p := ⟨b4, 0, none⟩) hb4).trans e4
        have hb45 : b4 < w5.heap.size := by have := HH_w5.out.size; omega
        clear ho5 e4
        go_wp2_with fail
        refine Calls.mono (M1.out _ _ R25.out) ?_
        rintro e w6 ⟨v6, rfl, ho6, hb_w6⟩
        have hz_w6 := hb_w6.size
        try simp at hz_w6
        have HH_w6 := Lib.hid hb_w6
        have hB_w6 : Below w1.heap.size w1 w6 := Below.trans (by (repeat (first | (with_reducible exact Below.refl _ _) | (with_reducible assumption) | (with_reducible refine Below.drew ?_) | (focus ((with_reducible refine Below.setCell ?_ ?_ _); rotate_left; (first | omega | (simp <;> omega)))) | (focus ((with_reducible refine Below.alloc ?_ ?_ _); rotate_left; (first | omega | (simp <;> omega)))) | exact Below.refl _ _ | assumption | refine Below.drew ?_ | refine Below.alloc ?_ (by first | omega | (simp <;> omega)) _ | refine Below.setCell ?_ (by first | omega | (simp <;> omega)) _))) (hb_w6.mono (by first | omega | (simp <;> omega)))
        clear hb_w6
        try clear hB_w5
        have R6 := Lib.hid ho6.reads
        have R36 := Lib.hid (R35.out.below HH_w6.out)
        have e46 := (HH_w6.out.cell (p := ⟨b4, 0, none⟩) hb45).trans e45
        have e56 := (HH_w6.out.cell (p := ⟨b5, 0, none⟩) hb5).trans e5
        have hz6 := HH_w6.out.size
        clear ho6 e45 e5
        go_wp2_with fail
        refine Calls.mono (M2.out _ _ R36.out) ?_
        rintro e w7 ⟨v7, rfl, ho7, hb_w7⟩
        have hz_w7 := hb_w7.size
        try simp at hz_w7
        have HH_w7 := Lib.hid hb_w7
        have hB_w7 : Below w1.heap.size w1 w7 := Below.trans (by (repeat (first | (with_reducible exact Below.refl _ _) | (with_reducible assumption) | (with_reducible refine Below.drew ?_) | (focus ((with_reducible refine Below.setCell ?_ ?_ _); rotate_left; (first | omega | (simp <;> omega)))) | (focus ((with_reducible refine Below.alloc ?_ ?_ _); rotate_left; (first | omega | (simp <;> omega)))) | exact Below.refl _ _ | assumption | refine Below.drew ?_ | refine Below.alloc ?_ (by first | omega | (simp <;> omega)) _ | refine Below.setCell ?_ (by first | omega | (simp <;> omega)) _))) (hb_w7.mono (by first | omega | (simp <;> omega)))
        clear hb_w7
        try clear hB_w6
        have R7 := Lib.hid ho7.reads
        have R67 := Lib.hid (R6.out.below HH_w7.out)
        have e47 := (HH_w7.out.cell (p := ⟨b4, 0, none⟩) (by show b4 < _; omega)).trans e46
        have e57 := (HH_w7.out.cell (p := ⟨b5, 0, none⟩) (by show b5 < _; omega)).trans e56
        have hz7 := HH_w7.out.size
        clear ho7 e46 e56
        go_wp2_with fail
        refine Calls.mono (LK.out _ _ _ R67.out R7.out) ?_
        rintro e w8 ⟨rfl, hb_w8⟩
        have hz_w8 := hb_w8.size
        try simp at hz_w8
        have HH_w8 := Lib.hid hb_w8
        have hB_w8 : Below w1.heap.size w1 w8 := Below.trans (by (repeat (first | (with_reducible exact Below.refl _ _) | (with_reducible assumption) | (with_reducible refine Below.drew ?_) | (focus ((with_reducible refine Below.setCell ?_ ?_ _); rotate_left; (first | omega | (simp <;> omega)))) | (focus ((with_reducible refine Below.alloc ?_ ?_ _); rotate_left; (first | omega | (simp <;> omega)))) | exact Below.refl _ _ | assumption | refine Below.drew ?_ | refine Below.alloc ?_ (by first | omega | (simp <;> omega)) _ | refine Below.setCell ?_ (by first | omega | (simp <;> omega)) _))) (hb_w8.mono (by first | omega | (simp <;> omega)))
        clear hb_w8
        try clear hB_w7
        have e48 := (HH_w8.out.cell (p := ⟨b4, 0, none⟩) (by show b4 < _; omega)).trans e47
        have e58 := (HH_w8.out.cell (p := ⟨b5, 0, none⟩) (by show b5 < _; omega)).trans e57
        have hz8 := HH_w8.out.size
        have hb48 : b4 < w8.heap.size := by omega
        have hb58 : b5 < w8.heap.size := by omega
        clear e47 e57
        have AL8 := Lib.hid (fun (p : Later w8.heap.size w8) => AL.out p.w (HM.out _ (HB1.out.trans ((hB_w8.trans (p.b.mono (by omega))).mono hz1))))
        have HB8 := Lib.hid hB_w8
        clear C0 HM AL UP UP2 A1 A2 M1 M2 LK HR R2 R3 R23 R24 R34 R25 R35 R6 R36 R7 R67 HH_w2 HH_w3 HH_w4 HH_w5 HH_w6 HH_w7 HH_w8
        go_wp2_with fail
        refine wp_region_later (w8.heap.size) (by kernel_rfl) (by kernel_rfl) ?_
        have l_w9_vb4 := @Later.at (w8.heap.size) (b4) (by omega)
        have l_w9_vb5 := @Later.at (w8.heap.size) (b5) (by omega)
        repeat (go_big_quiet_step ((go_at_call 9; with_reducible exact later_of (Nat.le_refl _) (AL8.out _))))
        refine wpQuiet_nil ?_
        rintro w9 ⟨⟨_, hb_w9⟩, rfl⟩
        clear l_w9_vb4 l_w9_vb5
        try simp only [] at hb_w9 ⊢
        have hz_w9 := hb_w9.size
        try simp at hz_w9
        have c_w9_vb4 := fun o => hb_w9.cell (p := ⟨b4, o, none⟩) (by first | omega | (simp <;> omega))
        have f_w9_vb4 := fun o => hb_w9.frozen (p := ⟨b4, o, none⟩) (by first | omega | (simp <;> omega))
        have c_w9_vb4_0 := c_w9_vb4 0
        conv at c_w9_vb4_0 => rhs; simp [go_sem, *]
        have f_w9_vb4_0 := f_w9_vb4 0
        conv at f_w9_vb4_0 => rhs; simp [go_sem, *]
        have c_w9_vb5 := fun o => hb_w9.cell (p := ⟨b5, o, none⟩) (by first | omega | (simp <;> omega))
        have f_w9_vb5 := fun o => hb_w9.frozen (p := ⟨b5, o, none⟩) (by first | omega | (simp <;> omega))
        have c_w9_vb5_0 := c_w9_vb5 0
        conv at c_w9_vb5_0 => rhs; simp [go_sem, *]
        have f_w9_vb5_0 := f_w9_vb5 0
        conv at f_w9_vb5_0 => rhs; simp [go_sem, *]
        have HH_w9 := Lib.hid hb_w9
        have hB_w9 : Below w8.heap.size w8 w9 := Below.trans (by (repeat (first | (with_reducible exact Below.refl _ _) | (with_reducible assumption) | (with_reducible refine Below.drew ?_) | (focus ((with_reducible refine Below.setCell ?_ ?_ _); rotate_left; (first | omega | (simp <;> omega)))) | (focus ((with_reducible refine Below.alloc ?_ ?_ _); rotate_left; (first | omega | (simp <;> omega)))) | exact Below.refl _ _ | assumption | refine Below.drew ?_ | refine Below.alloc ?_ (by first | omega | (simp <;> omega)) _ | refine Below.setCell ?_ (by first | omega | (simp <;> omega)) _))) (hb_w9.mono (by first | omega | (simp <;> omega)))
        clear hb_w9 c_w9_vb4 f_w9_vb4 c_w9_vb5 f_w9_vb5
        try clear hB_w8
        have far_w9_vb4 := far (show b4 < w9.heap.size by omega)
        have far_w9_vb5 := far (show b5 < w9.heap.size by omega)
        go_wp2
        go_ret
        exact ⟨ret_bool (by simp), HB1.out.trans ((HB8.out.trans (hB_w9.mono (by have := HB8.out.size; omega))).mono hz1)⟩
  · have hUe := hE0 hE
    rw [hUe] at UP
    obtain ⟨z, hz⟩ : ∃ z, upE T h oneD = z := ⟨_, rfl⟩
    rw [hz] at UP hE
    have hz' : (z != 0) = true := by simpa using hE
    unfold oneD at UP
    clear hr0 hxl hv hM hTe hT hm hh hE0 hUe hz
    go_enter Tryz.func4, Tryz.ntmps4
    go_upto_region 1 with fail
    go_cut [0, 1] (fun lv hv wx => hv = .string (S h) ∧ ReadsF wx lv T ∧ Below w.heap.size w wx)
    case first =>
      as_aux_lemma =>
        go_region_with (go_at_call 7; refine (C0.out _ (by (repeat (first | (with_reducible exact Below.refl _ _) | (with_reducible assumption) | (with_reducible refine Below.drew ?_) | (focus ((with_reducible refine Below.setCell ?_ ?_ _); rotate_left; (first | omega | (simp <;> omega)))) | (focus ((with_reducible refine Below.alloc ?_ ?_ _); rotate_left; (first | omega | (simp <;> omega)))) | exact Below.refl _ _ | assumption | refine Below.drew ?_ | refine Below.alloc ?_ (by first | omega | (simp <;> omega)) _ | refine Below.setCell ?_ (by first | omega | (simp <;> omega)) _)))).mono ?_; rintro e w1 ⟨v', rfl, hr, hb1⟩; have HB1 := Lib.hid (Below.trans (show Below w.heap.size w _ by (repeat (first | (with_reducible exact Below.refl _ _) | (with_reducible assumption) | (with_reducible refine Below.drew ?_) | (focus ((with_reducible refine Below.setCell ?_ ?_ _); rotate_left; (first | omega | (simp <;> omega)))) | (focus ((with_reducible refine Below.alloc ?_ ?_ _); rotate_left; (first | omega | (simp <;> omega)))) | exact Below.refl _ _ | assumption | refine Below.drew ?_ | refine Below.alloc ?_ (by first | omega | (simp <;> omega)) _ | refine Below.setCell ?_ (by first | omega | (simp <;> omega)) _))) (hb1.mono (by (first | omega | (simp <;> omega))))); have HR := Lib.hid hr; clear hb1)
        all_goals (go_wp2_with fail; go_meet; exact ⟨by simp [go_sem, *], HR.out, HB1.out⟩)
    case rest =>
      obtain ⟨rfl, hr, hb1⟩ := hcut
      obtain ⟨w1, hw1⟩ : ∃ x, x = wc := ⟨_, rfl⟩
      rw [← hw1] at hr hb1 ⊢
      clear hw1
      have HB1 := Lib.hid hb1
      have HR := Lib.hid hr
      obtain ⟨ao, cap, rfl, _⟩ := hr
      have hz1 := HB1.out.size
      clear hb1
      go_wp2_with fail
      refine Calls.mono (UP.out _ _ HR.out (HM.out _ HB1.out)) ?_
      rintro e w2 ⟨v2, rfl, hr2, hb_w2⟩
      have hz_w2 := hb_w2.size
      try simp at hz_w2
      have HH_w2 := Lib.hid hb_w2
      have hB_w2 : Below w1.heap.size w1 w2 := Below.trans (by (repeat (first | (with_reducible exact Below.refl _ _) | (with_reducible assumption) | (with_reducible refine Below.drew ?_) | (focus ((with_reducible refine Below.setCell ?_ ?_ _); rotate_left; (first | omega | (simp <;> omega)))) | (focus ((with_reducible refine Below.alloc ?_ ?_ _); rotate_left; (first | omega | (simp <;> omega)))) | exact Below.refl _ _ | assumption | refine Below.drew ?_ | refine Below.alloc ?_ (by first | omega | (simp <;> omega)) _ | refine Below.setCell ?_ (by first | omega | (simp <;> omega)) _))) (hb_w2.mono (by first | omega | (simp <;> omega)))
      clear hb_w2
      try clear c_w9_vb4_0
      try clear f_w9_vb4_0
      try clear c_w9_vb5_0
      try clear f_w9_vb5_0
      try clear far_w9_vb4
      try clear far_w9_vb5
      try clear hB_w9
      obtain ⟨ao2, cap2, rfl, _, hcc, _⟩ := hr2
      go_wp2_with fail
      refine Calls.mono (AL.out _ (HM.out _ (HB1.out.trans (hB_w2.mono hz1)))) ?_
      rintro e w3 ⟨rfl, hb_w3⟩
      have hz_w3 := hb_w3.size
      try simp at hz_w3
      have HH_w3 := Lib.hid hb_w3
      have hB_w3 : Below w1.heap.size w1 w3 := Below.trans (by (repeat (first | (with_reducible exact Below.refl _ _) | (with_reducible assumption) | (with_reducible refine Below.drew ?_) | (focus ((with_reducible refine Below.setCell ?_ ?_ _); rotate_left; (first | omega | (simp <;> omega)))) | (focus ((with_reducible refine Below.alloc ?_ ?_ _); rotate_left; (first | omega | (simp <;> omega)))) | exact Below.refl _ _ | assumption | refine Below.drew ?_ | refine Below.alloc ?_ (by first | omega | (simp <;> omega)) _ | refine Below.setCell ?_ (by first | omega | (simp <;> omega)) _))) (hb_w3.mono (by first | omega | (simp <;> omega)))
      clear hb_w3
      try clear hB_w2
      go_wp2
      go_ret
      exact ⟨ret_bool (by simp), HB1.out.trans (hB_w3.mono hz1)⟩
end Go.Proofs.YtcfihoniocamaaaGreatDoor
