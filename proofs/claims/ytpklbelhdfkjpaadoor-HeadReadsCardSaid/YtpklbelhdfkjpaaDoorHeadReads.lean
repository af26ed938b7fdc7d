/- The law HeadReads: its walk. -/
import Derived.Test.YtpklbelhdfkjpaaDoorHeadRef3
namespace Go.Proofs.YtpklbelhdfkjpaaDoor
open Go.RowKit Go.Sort Go.Shelf
set_option linter.unusedVariables false

set_option maxHeartbeats 3200000 in
set_option maxRecDepth 100000 in
theorem headReads_any (b : ByteArray) (v : Value) (L : List (List Value)) (w : World) (k1 : b.size ≤ maxLen) (hv : RowsIn w 2 v L ∧ ∀ c ∈ L, AllSh [.str, .str] c) (_hL : True) :
    Calls Tryd.prog 6 #[.string b, v] w fun e w' => e = .returned (.bool true) ∧ Below w.heap.size w w' := by
  obtain ⟨xs, hr0, hxl⟩ := reads_inF hv
  have C0 := Lib.hid (fun W (hb : Below w.heap.size w W) => few v xs W (hr0.below hb) hxl)
  clear hr0 hxl hv
  obtain ⟨T, hT⟩ : ∃ T, fewL xs = T := ⟨_, rfl⟩
  have hTs : ∀ f ∈ T, ShortF f := by rw [← hT]; exact fewL_short xs
  have hTl : T.length ≤ 45 := by rw [← hT]; exact fewL_len xs
  rw [hT] at C0
  obtain ⟨l0, rfl⟩ := S_of b
  rw [S_size] at k1
  have hm : maxLen = 9223372036854775807 := rfl
  rw [hm] at k1
  obtain ⟨k, hk, hk1, hk2⟩ : ∃ k : Nat, min (l0.length : Int) 5000 = k ∧ k ≤ l0.length ∧ k ≤ 5000 := ⟨min l0.length 5000, by omega, by omega, by omega⟩
  obtain ⟨s, hs⟩ : ∃ s, l0.take k = s := ⟨_, rfl⟩
  have hsl : s.length ≤ 5000 := by rw [← hs, List.length_take]; omega
  have hs2 : (l0.take k).drop 0 = s := hs
  have CPr := Lib.hid (fun (u : Value) (W : World) (hr : ReadsF W u T) => headPrint_c u T W hr hTs)
  have CW := Lib.hid (fun (u : Value) (W : World) (hr : ReadsF W u T) => refWrite u T W hr hTs hTl)
  have CR := Lib.hid (fun (u : Value) (W : World) (hr : ReadsF W u T) => refRight u T W hr (fun f hf => (hTs f hf).small))
  have CP := Lib.hid (fun (W : World) => headParse_c s (by omega) W)
  have DP := Lib.hid (fun (W : World) => refParse_c s (by omega) W)
  have CE := Lib.hid (fun (W : World) => headEnd_c s (by omega) W)
  have DE := Lib.hid (fun (W : World) => refEnd s (by omega) W)
  obtain ⟨⟨M, eM⟩, hM⟩ : ∃ x, headParse s = x := ⟨_, rfl⟩
  rw [hM] at CP DP
  obtain ⟨⟨nE, eE⟩, hE⟩ : ∃ x, headEnd s = x := ⟨_, rfl⟩
  rw [hE] at CE DE
  simp only at CP DP CE DE
  obtain ⟨want, hw⟩ : ∃ x, writeE [13, 10] T = x := ⟨_, rfl⟩
  rw [hw] at CW
  have HP := Lib.hid (show headPrint T = (if rightL T = true then (if 4000 < want.length then ([], 2) else (want, 0)) else ([], 1)) by unfold headPrint; rw [hw])
  have LK := Lib.hid (fun (u1 u2 : Value) (W : World) (h1 : ReadsF W u1 M) (h2 : ReadsF W u2 M) => (show Calls Tryd.prog 11 #[u1, u2] W (fun e w' => e = .returned (.bool true) ∧ Below W.heap.size W w') from by
    have := refLike u1 u2 M M W h1 h2
    rw [show (M == M) = true by simp] at this
    exact this))
  have hwl : want.length ≤ 1000000 := by rw [← hw]; have := writeE_len T hTs; omega
  obtain ⟨rT, hrT⟩ : ∃ x, rightL T = x := ⟨_, rfl⟩
  rw [hrT] at CR HP
  clear hT hm hTs hM hE hw hrT
  cases rT with
  | false =>
    rw [if_neg (by simp)] at HP
    rw [HP.out] at CPr
    simp only at CPr
    clear HP
    go_enter Tryd.func6, Tryd.ntmps6
    go_upto_region 1 with fail
    go_cut [0, 1] (fun sv lv wx => sv = .string (S s) ∧ ReadsF wx lv T ∧ Below w.heap.size w wx)
    case first =>
      as_aux_lemma =>
        go_region_with (go_at_call 8; refine (C0.out _ (by (repeat (first | (with_reducible exact Below.refl _ _) | (with_reducible assumption) | (with_reducible refine Below.drew ?_) | (focus ((with_reducible refine Below.setCell ?_ ?_ _); rotate_left; (first | omega | (simp <;> omega)))) | (focus ((with_reducible refine Below.alloc ?_ ?_ _); rotate_left; (first | omega | (simp <;> omega)))) | exact Below.refl _ _ | assumption | refine Below.drew ?_ | refine Below.alloc ?_ (by first | omega | (simp <;> omega)) _ | refine Below.setCell ?_ (by first | omega | (simp <;> omega)) _)))).mono ?_; rintro e w1 ⟨v', rfl, hr, hb1⟩; have HB1 := Lib.hid (Below.trans (show Below w.heap.size w _ by (repeat (first | (with_reducible exact Below.refl _ _) | (with_reducible assumption) | (with_reducible refine Below.drew ?_) | (focus ((with_reducible refine Below.setCell ?_ ?_ _); rotate_left; (first | omega | (simp <;> omega)))) | (focus ((with_reducible refine Below.alloc ?_ ?_ _); rotate_left; (first | omega | (simp <;> omega)))) | exact Below.refl _ _ | assumption | refine Below.drew ?_ | refine Below.alloc ?_ (by first | omega | (simp <;> omega)) _ | refine Below.setCell ?_ (by first | omega | (simp <;> omega)) _))) (hb1.mono (by (first | omega | (simp <;> omega))))); have HR := Lib.hid hr; clear hb1)
        all_goals (go_wp2_with fail; go_meet; exact ⟨by simp [go_sem, *], HR.out, HB1.out⟩)
    case rest =>
      obtain ⟨rfl, hr, hb1⟩ := hcut
      obtain ⟨w1, hw1⟩ : ∃ x, x = wc := ⟨_, rfl⟩
      rw [← hw1] at hr hb1 ⊢
      clear hw1
      have HB1 := Lib.hid hb1
      have HR := Lib.hid hr
      obtain ⟨ao, cap, rfl, _⟩ := hr
      have hz1 := HB1.out.size
      clear hb1
      go_wp2_with fail
      refine Calls.mono (CP.out _) ?_
      rintro e w2 ⟨v2, rfl, hr2, hb_w2⟩
      have hz_w2 := hb_w2.size
      try simp at hz_w2
      have HH_w2 := Lib.hid hb_w2
      have hB_w2 : Below w1.heap.size w1 w2 := Below.trans (by (repeat (first | (with_reducible exact Below.refl _ _) | (with_reducible assumption) | (with_reducible refine Below.drew ?_) | (focus ((with_reducible refine Below.setCell ?_ ?_ _); rotate_left; (first | omega | (simp <;> omega)))) | (focus ((with_reducible refine Below.alloc ?_ ?_ _); rotate_left; (first | omega | (simp <;> omega)))) | exact Below.refl _ _ | assumption | refine Below.drew ?_ | refine Below.alloc ?_ (by first | omega | (simp <;> omega)) _ | refine Below.setCell ?_ (by first | omega | (simp <;> omega)) _))) (hb_w2.mono (by first | omega | (simp <;> omega)))
      clear hb_w2
      have HR2 := Lib.hid hr2
      clear hr2
      go_wp2_with fail
      refine Calls.mono (DP.out _) ?_
      rintro e w3 ⟨v3, rfl, hr3, hb_w3⟩
      have hz_w3 := hb_w3.size
      try simp at hz_w3
      have HH_w3 := Lib.hid hb_w3
      have hB_w3 : Below w1.heap.size w1 w3 := Below.trans (by (repeat (first | (with_reducible exact Below.refl _ _) | (with_reducible assumption) | (with_reducible refine Below.drew ?_) | (focus ((with_reducible refine Below.setCell ?_ ?_ _); rotate_left; (first | omega | (simp <;> omega)))) | (focus ((with_reducible refine Below.alloc ?_ ?_ _); rotate_left; (first | omega | (simp <;> omega)))) | exact Below.refl _ _ | assumption | refine Below.drew ?_ | refine Below.alloc ?_ (by first | omega | (simp <;> omega)) _ | refine Below.setCell ?_ (by first | omega | (simp <;> omega)) _))) (hb_w3.mono (by first | omega | (simp <;> omega)))
      clear hb_w3
      try clear hB_w2
      have HR3 := Lib.hid hr3
      clear hr3
      go_wp2_with fail
      refine Calls.mono (CE.out _) ?_
      rintro e w4 ⟨rfl, hb_w4⟩
      have hz_w4 := hb_w4.size
      try simp at hz_w4
      have HH_w4 := Lib.hid hb_w4
      have hB_w4 : Below w1.heap.size w1 w4 := Below.trans (by (repeat (first | (with_reducible exact Below.refl _ _) | (with_reducible assumption) | (with_reducible refine Below.drew ?_) | (focus ((with_reducible refine Below.setCell ?_ ?_ _); rotate_left; (first | omega | (simp <;> omega)))) | (focus ((with_reducible refine Below.alloc ?_ ?_ _); rotate_left; (first | omega | (simp <;> omega)))) | exact Below.refl _ _ | assumption | refine Below.drew ?_ | refine Below.alloc ?_ (by first | omega | (simp <;> omega)) _ | refine Below.setCell ?_ (by first | omega | (simp <;> omega)) _))) (hb_w4.mono (by first | omega | (simp <;> omega)))
      clear hb_w4
      try clear hB_w3
      go_wp2_with fail
      refine Calls.mono (DE.out _) ?_
      rintro e w' ⟨rfl, hw'⟩
      obtain rfl := hw'.symm
      go_wp2_with fail
      refine Calls.mono (CPr.out _ _ (HR.out.below hB_w4)) ?_
      rintro e w5 ⟨rfl, hb_w5⟩
      have hz_w5 := hb_w5.size
      try simp at hz_w5
      have HH_w5 := Lib.hid hb_w5
      have hB_w5 : Below w1.heap.size w1 w5 := Below.trans (by (repeat (first | (with_reducible exact Below.refl _ _) | (with_reducible assumption) | (with_reducible refine Below.drew ?_) | (focus ((with_reducible refine Below.setCell ?_ ?_ _); rotate_left; (first | omega | (simp <;> omega)))) | (focus ((with_reducible refine Below.alloc ?_ ?_ _); rotate_left; (first | omega | (simp <;> omega)))) | exact Below.refl _ _ | assumption | refine Below.drew ?_ | refine Below.alloc ?_ (by first | omega | (simp <;> omega)) _ | refine Below.setCell ?_ (by first | omega | (simp <;> omega)) _))) (hb_w5.mono (by first | omega | (simp <;> omega)))
      clear hb_w5
      try clear hB_w4
      go_wp2_with fail
      refine Calls.mono (LK.out _ _ _ (HR2.out.below (HH_w3.out.trans ((HH_w4.out.trans (HH_w5.out.mono (by omega))).mono (by omega)))) (HR3.out.below (HH_w4.out.trans (HH_w5.out.mono (by omega))))) ?_
      rintro e w6 ⟨rfl, hb_w6⟩
      have hz_w6 := hb_w6.size
      try simp at hz_w6
      have HH_w6 := Lib.hid hb_w6
      have hB_w6 : Below w1.heap.size w1 w6 := Below.trans (by (repeat (first | (with_reducible exact Below.refl _ _) | (with_reducible assumption) | (with_reducible refine Below.drew ?_) | (focus ((with_reducible refine Below.setCell ?_ ?_ _); rotate_left; (first | omega | (simp <;> omega)))) | (focus ((with_reducible refine Below.alloc ?_ ?_ _); rotate_left; (first | omega | (simp <;> omega)))) | exact Below.refl _ _ | assumption | refine Below.drew ?_ | refine Below.alloc ?_ (by first | omega | (simp <;> omega)) _ | refine Below.setCell ?_ (by first | omega | (simp <;> omega)) _))) (hb_w6.mono (by first | omega | (simp <;> omega)))
      clear hb_w6
      try clear hB_w5
      go_wp2_with fail
      refine Calls.mono (head_alive _) ?_
      rintro e w7 ⟨rfl, hb_w7⟩
      have hz_w7 := hb_w7.size
      try simp at hz_w7
      have HH_w7 := Lib.hid hb_w7
      have hB_w7 : Below w1.heap.size w1 w7 := Below.trans (by (repeat (first | (with_reducible exact Below.refl _ _) | (with_reducible assumption) | (with_reducible refine Below.drew ?_) | (focus ((with_reducible refine Below.setCell ?_ ?_ _); rotate_left; (first | omega | (simp <;> omega)))) | (focus ((with_reducible refine Below.alloc ?_ ?_ _); rotate_left; (first | omega | (simp <;> omega)))) | exact Below.refl _ _ | assumption | refine Below.drew ?_ | refine Below.alloc ?_ (by first | omega | (simp <;> omega)) _ | refine Below.setCell ?_ (by first | omega | (simp <;> omega)) _))) (hb_w7.mono (by first | omega | (simp <;> omega)))
      clear hb_w7
      try clear hB_w6
      go_wp2_with fail
      refine Calls.mono (CW.out _ _ (HR.out.below hB_w7)) ?_
      rintro e w8 ⟨rfl, hb_w8⟩
      have hz_w8 := hb_w8.size
      try simp at hz_w8
      have HH_w8 := Lib.hid hb_w8
      have hB_w8 : Below w1.heap.size w1 w8 := Below.trans (by (repeat (first | (with_reducible exact Below.refl _ _) | (with_reducible assumption) | (with_reducible refine Below.drew ?_) | (focus ((with_reducible refine Below.setCell ?_ ?_ _); rotate_left; (first | omega | (simp <;> omega)))) | (focus ((with_reducible refine Below.alloc ?_ ?_ _); rotate_left; (first | omega | (simp <;> omega)))) | exact Below.refl _ _ | assumption | refine Below.drew ?_ | refine Below.alloc ?_ (by first | omega | (simp <;> omega)) _ | refine Below.setCell ?_ (by first | omega | (simp <;> omega)) _))) (hb_w8.mono (by first | omega | (simp <;> omega)))
      clear hb_w8
      try clear hB_w7
      go_wp2_with fail
      refine Calls.mono (CR.out _ _ (HR.out.below hB_w8)) ?_
      rintro e w9 ⟨rfl, hb_w9⟩
      have hz_w9 := hb_w9.size
      try simp at hz_w9
      have HH_w9 := Lib.hid hb_w9
      have hB_w9 : Below w1.heap.size w1 w9 := Below.trans (by (repeat (first | (with_reducible exact Below.refl _ _) | (with_reducible assumption) | (with_reducible refine Below.drew ?_) | (focus ((with_reducible refine Below.setCell ?_ ?_ _); rotate_left; (first | omega | (simp <;> omega)))) | (focus ((with_reducible refine Below.alloc ?_ ?_ _); rotate_left; (first | omega | (simp <;> omega)))) | exact Below.refl _ _ | assumption | refine Below.drew ?_ | refine Below.alloc ?_ (by first | omega | (simp <;> omega)) _ | refine Below.setCell ?_ (by first | omega | (simp <;> omega)) _))) (hb_w9.mono (by first | omega | (simp <;> omega)))
      clear hb_w9
      try clear hB_w8
      go_wp2
      go_ret
      exact ⟨ret_bool (by simp), HB1.out.trans (hB_w9.mono hz1)⟩
  | true =>
    rw [if_pos rfl] at HP
    by_cases h4 : 4000 < want.length
    · have h4i : (4000 : Int) < (want.length : Int) := by omega
      rw [if_pos h4] at HP
      rw [HP.out] at CPr
      simp only at CPr
      clear HP
      go_enter Tryd.func6, Tryd.ntmps6
      go_upto_region 1 with fail
      go_cut [0, 1] (fun sv lv wx => sv = .string (S s) ∧ ReadsF wx lv T ∧ Below w.heap.size w wx)
      case first =>
        as_aux_lemma =>
          go_region_with (go_at_call 8; refine (C0.out _ (by (repeat (first | (with_reducible exact Below.refl _ _) | (with_reducible assumption) | (with_reducible refine Below.drew ?_) | (focus ((with_reducible refine Below.setCell ?_ ?_ _); rotate_left; (first | omega | (simp <;> omega)))) | (focus ((with_reducible refine Below.alloc ?_ ?_ _); rotate_left; (first | omega | (simp <;> omega)))) | exact Below.refl _ _ | assumption | refine Below.drew ?_ | refine Below.alloc ?_ (by first | omega | (simp <;> omega)) _ | refine Below.setCell ?_ (by first | omega | (simp <;> omega)) _)))).mono ?_; rintro e w1 ⟨v', rfl, hr, hb1⟩; have HB1 := Lib.hid (Below.trans (show Below w.heap.size w _ by (repeat (first | (with_reducible exact Below.refl _ _) | (with_reducible assumption) | (with_reducible refine Below.drew ?_) | (focus ((with_reducible refine Below.setCell ?_ ?_ _); rotate_left; (first | omega | (simp <;> omega)))) | (focus ((with_reducible refine Below.alloc ?_ ?_ _); rotate_left; (first | omega | (simp <;> omega)))) | exact Below.refl _ _ | assumption | refine Below.drew ?_ | refine Below.alloc ?_ (by first | omega | (simp <;> omega)) _ | refine Below.setCell ?_ (by first | omega | (simp <;> omega)) _))) (hb1.mono (by (first | omega | (simp <;> omega))))); have HR := Lib.hid hr; clear hb1)
          all_goals (go_wp2_with fail; go_meet; exact ⟨by simp [go_sem, *], HR.out, HB1.out⟩)
      case rest =>
        obtain ⟨rfl, hr, hb1⟩ := hcut
        obtain ⟨w1, hw1⟩ : ∃ x, x = wc := ⟨_, rfl⟩
        rw [← hw1] at hr hb1 ⊢
        clear hw1
        have HB1 := Lib.hid hb1
        have HR := Lib.hid hr
        obtain ⟨ao, cap, rfl, _⟩ := hr
        have hz1 := HB1.out.size
        clear hb1
        go_wp2_with fail
        refine Calls.mono (CP.out _) ?_
        rintro e w2 ⟨v2, rfl, hr2, hb_w2⟩
        have hz_w2 := hb_w2.size
        try simp at hz_w2
        have HH_w2 := Lib.hid hb_w2
        have hB_w2 : Below w1.heap.size w1 w2 := Below.trans (by (repeat (first | (with_reducible exact Below.refl _ _) | (with_reducible assumption) | (with_reducible refine Below.drew ?_) | (focus ((with_reducible refine Below.setCell ?_ ?_ _); rotate_left; (first | omega | (simp <;> omega)))) | (focus ((with_reducible refine Below.alloc ?_ ?_ _); rotate_left; (first | omega | (simp <;> omega)))) | exact Below.refl _ _ | assumption | refine Below.drew ?_ | refine Below.alloc ?_ (by first | omega | (simp <;> omega)) _ | refine Below.setCell ?_ (by first | omega | (simp <;> omega)) _))) (hb_w2.mono (by first | omega | (simp <;> omega)))
        clear hb_w2
        try clear hB_w9
        have HR2 := Lib.hid hr2
        clear hr2
        go_wp2_with fail
        refine Calls.mono (DP.out _) ?_
        rintro e w3 ⟨v3, rfl, hr3, hb_w3⟩
        have hz_w3 := hb_w3.size
        try simp at hz_w3
        have HH_w3 := Lib.hid hb_w3
        have hB_w3 : Below w1.heap.size w1 w3 := Below.trans (by (repeat (first | (with_reducible exact Below.refl _ _) | (with_reducible assumption) | (with_reducible refine Below.drew ?_) | (focus ((with_reducible refine Below.setCell ?_ ?_ _); rotate_left; (first | omega | (simp <;> omega)))) | (focus ((with_reducible refine Below.alloc ?_ ?_ _); rotate_left; (first | omega | (simp <;> omega)))) | exact Below.refl _ _ | assumption | refine Below.drew ?_ | refine Below.alloc ?_ (by first | omega | (simp <;> omega)) _ | refine Below.setCell ?_ (by first | omega | (simp <;> omega)) _))) (hb_w3.mono (by first | omega | (simp <;> omega)))
        clear hb_w3
        try clear hB_w2
        have HR3 := Lib.hid hr3
        clear hr3
        go_wp2_with fail
        refine Calls.mono (CE.out _) ?_
        rintro e w4 ⟨rfl, hb_w4⟩
        have hz_w4 := hb_w4.size
        try simp at hz_w4
        have HH_w4 := Lib.hid hb_w4
        have hB_w4 : Below w1.heap.size w1 w4 := Below.trans (by (repeat (first | (with_reducible exact Below.refl _ _) | (with_reducible assumption) | (with_reducible refine Below.drew ?_) | (focus ((with_reducible refine Below.setCell ?_ ?_ _); rotate_left; (first | omega | (simp <;> omega)))) | (focus ((with_reducible refine Below.alloc ?_ ?_ _); rotate_left; (first | omega | (simp <;> omega)))) | exact Below.refl _ _ | assumption | refine Below.drew ?_ | refine Below.alloc ?_ (by first | omega | (simp <;> omega)) _ | refine Below.setCell ?_ (by first | omega | (simp <;> omega)) _))) (hb_w4.mono (by first | omega | (simp <;> omega)))
        clear hb_w4
        try clear hB_w3
        go_wp2_with fail
        refine Calls.mono (DE.out _) ?_
        rintro e w' ⟨rfl, hw'⟩
        obtain rfl := hw'.symm
        go_wp2_with fail
        refine Calls.mono (CPr.out _ _ (HR.out.below hB_w4)) ?_
        rintro e w5 ⟨rfl, hb_w5⟩
        have hz_w5 := hb_w5.size
        try simp at hz_w5
        have HH_w5 := Lib.hid hb_w5
        have hB_w5 : Below w1.heap.size w1 w5 := Below.trans (by (repeat (first | (with_reducible exact Below.refl _ _) | (with_reducible assumption) | (with_reducible refine Below.drew ?_) | (focus ((with_reducible refine Below.setCell ?_ ?_ _); rotate_left; (first | omega | (simp <;> omega)))) | (focus ((with_reducible refine Below.alloc ?_ ?_ _); rotate_left; (first | omega | (simp <;> omega)))) | exact Below.refl _ _ | assumption | refine Below.drew ?_ | refine Below.alloc ?_ (by first | omega | (simp <;> omega)) _ | refine Below.setCell ?_ (by first | omega | (simp <;> omega)) _))) (hb_w5.mono (by first | omega | (simp <;> omega)))
        clear hb_w5
        try clear hB_w4
        go_wp2_with fail
        refine Calls.mono (LK.out _ _ _ (HR2.out.below (HH_w3.out.trans ((HH_w4.out.trans (HH_w5.out.mono (by omega))).mono (by omega)))) (HR3.out.below (HH_w4.out.trans (HH_w5.out.mono (by omega))))) ?_
        rintro e w6 ⟨rfl, hb_w6⟩
        have hz_w6 := hb_w6.size
        try simp at hz_w6
        have HH_w6 := Lib.hid hb_w6
        have hB_w6 : Below w1.heap.size w1 w6 := Below.trans (by (repeat (first | (with_reducible exact Below.refl _ _) | (with_reducible assumption) | (with_reducible refine Below.drew ?_) | (focus ((with_reducible refine Below.setCell ?_ ?_ _); rotate_left; (first | omega | (simp <;> omega)))) | (focus ((with_reducible refine Below.alloc ?_ ?_ _); rotate_left; (first | omega | (simp <;> omega)))) | exact Below.refl _ _ | assumption | refine Below.drew ?_ | refine Below.alloc ?_ (by first | omega | (simp <;> omega)) _ | refine Below.setCell ?_ (by first | omega | (simp <;> omega)) _))) (hb_w6.mono (by first | omega | (simp <;> omega)))
        clear hb_w6
        try clear hB_w5
        go_wp2_with fail
        refine Calls.mono (head_alive _) ?_
        rintro e w7 ⟨rfl, hb_w7⟩
        have hz_w7 := hb_w7.size
        try simp at hz_w7
        have HH_w7 := Lib.hid hb_w7
        have hB_w7 : Below w1.heap.size w1 w7 := Below.trans (by (repeat (first | (with_reducible exact Below.refl _ _) | (with_reducible assumption) | (with_reducible refine Below.drew ?_) | (focus ((with_reducible refine Below.setCell ?_ ?_ _); rotate_left; (first | omega | (simp <;> omega)))) | (focus ((with_reducible refine Below.alloc ?_ ?_ _); rotate_left; (first | omega | (simp <;> omega)))) | exact Below.refl _ _ | assumption | refine Below.drew ?_ | refine Below.alloc ?_ (by first | omega | (simp <;> omega)) _ | refine Below.setCell ?_ (by first | omega | (simp <;> omega)) _))) (hb_w7.mono (by first | omega | (simp <;> omega)))
        clear hb_w7
        try clear hB_w6
        go_wp2_with fail
        refine Calls.mono (CW.out _ _ (HR.out.below hB_w7)) ?_
        rintro e w8 ⟨rfl, hb_w8⟩
        have hz_w8 := hb_w8.size
        try simp at hz_w8
        have HH_w8 := Lib.hid hb_w8
        have hB_w8 : Below w1.heap.size w1 w8 := Below.trans (by (repeat (first | (with_reducible exact Below.refl _ _) | (with_reducible assumption) | (with_reducible refine Below.drew ?_) | (focus ((with_reducible refine Below.setCell ?_ ?_ _); rotate_left; (first | omega | (simp <;> omega)))) | (focus ((with_reducible refine Below.alloc ?_ ?_ _); rotate_left; (first | omega | (simp <;> omega)))) | exact Below.refl _ _ | assumption | refine Below.drew ?_ | refine Below.alloc ?_ (by first | omega | (simp <;> omega)) _ | refine Below.setCell ?_ (by first | omega | (simp <;> omega)) _))) (hb_w8.mono (by first | omega | (simp <;> omega)))
        clear hb_w8
        try clear hB_w7
        go_wp2_with fail
        refine Calls.mono (CR.out _ _ (HR.out.below hB_w8)) ?_
        rintro e w9 ⟨rfl, hb_w9⟩
        have hz_w9 := hb_w9.size
        try simp at hz_w9
        have HH_w9 := Lib.hid hb_w9
        have hB_w9 : Below w1.heap.size w1 w9 := Below.trans (by (repeat (first | (with_reducible exact Below.refl _ _) | (with_reducible assumption) | (with_reducible refine Below.drew ?_) | (focus ((with_reducible refine Below.setCell ?_ ?_ _); rotate_left; (first | omega | (simp <;> omega)))) | (focus ((with_reducible refine Below.alloc ?_ ?_ _); rotate_left; (first | omega | (simp <;> omega)))) | exact Below.refl _ _ | assumption | refine Below.drew ?_ | refine Below.alloc ?_ (by first | omega | (simp <;> omega)) _ | refine Below.setCell ?_ (by first | omega | (simp <;> omega)) _))) (hb_w9.mono (by first | omega | (simp <;> omega)))
        clear hb_w9
        try clear hB_w8
        go_wp2
        go_ret
        exact ⟨ret_bool (by simp), HB1.out.trans (hB_w9.mono hz1)⟩
    · have h4i : (want.length : Int) ≤ 4000 := by omega
      rw [if_neg h4] at HP
      rw [HP.out] at CPr
      simp only at CPr
      clear HP
      go_enter Tryd.func6, Tryd.ntmps6
      go_upto_region 1 with fail
      go_cut [0, 1] (fun sv lv wx => sv = .string (S s) ∧ ReadsF wx lv T ∧ Below w.heap.size w wx)
      case first =>
        as_aux_lemma =>
          go_region_with (go_at_call 8; refine (C0.out _ (by (repeat (first | (with_reducible exact Below.refl _ _) | (with_reducible assumption) | (with_reducible refine Below.drew ?_) | (focus ((with_reducible refine Below.setCell ?_ ?_ _); rotate_left; (first | omega | (simp <;> omega)))) | (focus ((with_reducible refine Below.alloc ?_ ?_ _); rotate_left; (first | omega | (simp <;> omega)))) | exact Below.refl _ _ | assumption | refine Below.drew ?_ | refine Below.alloc ?_ (by first | omega | (simp <;> omega)) _ | refine Below.setCell ?_ (by first | omega | (simp <;> omega)) _)))).mono ?_; rintro e w1 ⟨v', rfl, hr, hb1⟩; have HB1 := Lib.hid (Below.trans (show Below w.heap.size w _ by (repeat (first | (with_reducible exact Below.refl _ _) | (with_reducible assumption) | (with_reducible refine Below.drew ?_) | (focus ((with_reducible refine Below.setCell ?_ ?_ _); rotate_left; (first | omega | (simp <;> omega)))) | (focus ((with_reducible refine Below.alloc ?_ ?_ _); rotate_left; (first | omega | (simp <;> omega)))) | exact Below.refl _ _ | assumption | refine Below.drew ?_ | refine Below.alloc ?_ (by first | omega | (simp <;> omega)) _ | refine Below.setCell ?_ (by first | omega | (simp <;> omega)) _))) (hb1.mono (by (first | omega | (simp <;> omega))))); have HR := Lib.hid hr; clear hb1)
          all_goals (go_wp2_with fail; go_meet; exact ⟨by simp [go_sem, *], HR.out, HB1.out⟩)
      case rest =>
        obtain ⟨rfl, hr, hb1⟩ := hcut
        obtain ⟨w1, hw1⟩ : ∃ x, x = wc := ⟨_, rfl⟩
        rw [← hw1] at hr hb1 ⊢
        clear hw1
        have HB1 := Lib.hid hb1
        have HR := Lib.hid hr
        obtain ⟨ao, cap, rfl, _⟩ := hr
        have hz1 := HB1.out.size
        clear hb1
        go_wp2_with fail
        refine Calls.mono (CP.out _) ?_
        rintro e w2 ⟨v2, rfl, hr2, hb_w2⟩
        have hz_w2 := hb_w2.size
        try simp at hz_w2
        have HH_w2 := Lib.hid hb_w2
        have hB_w2 : Below w1.heap.size w1 w2 := Below.trans (by (repeat (first | (with_reducible exact Below.refl _ _) | (with_reducible assumption) | (with_reducible refine Below.drew ?_) | (focus ((with_reducible refine Below.setCell ?_ ?_ _); rotate_left; (first | omega | (simp <;> omega)))) | (focus ((with_reducible refine Below.alloc ?_ ?_ _); rotate_left; (first | omega | (simp <;> omega)))) | exact Below.refl _ _ | assumption | refine Below.drew ?_ | refine Below.alloc ?_ (by first | omega | (simp <;> omega)) _ | refine Below.setCell ?_ (by first | omega | (simp <;> omega)) _))) (hb_w2.mono (by first | omega | (simp <;> omega)))
        clear hb_w2
        try clear hB_w9
        have HR2 := Lib.hid hr2
        clear hr2
        go_wp2_with fail
        refine Calls.mono (DP.out _) ?_
        rintro e w3 ⟨v3, rfl, hr3, hb_w3⟩
        have hz_w3 := hb_w3.size
        try simp at hz_w3
        have HH_w3 := Lib.hid hb_w3
        have hB_w3 : Below w1.heap.size w1 w3 := Below.trans (by (repeat (first | (with_reducible exact Below.refl _ _) | (with_reducible assumption) | (with_reducible refine Below.drew ?_) | (focus ((with_reducible refine Below.setCell ?_ ?_ _); rotate_left; (first | omega | (simp <;> omega)))) | (focus ((with_reducible refine Below.alloc ?_ ?_ _); rotate_left; (first | omega | (simp <;> omega)))) | exact Below.refl _ _ | assumption | refine Below.drew ?_ | refine Below.alloc ?_ (by first | omega | (simp <;> omega)) _ | refine Below.setCell ?_ (by first | omega | (simp <;> omega)) _))) (hb_w3.mono (by first | omega | (simp <;> omega)))
        clear hb_w3
        try clear hB_w2
        have HR3 := Lib.hid hr3
        clear hr3
        go_wp2_with fail
        refine Calls.mono (CE.out _) ?_
        rintro e w4 ⟨rfl, hb_w4⟩
        have hz_w4 := hb_w4.size
        try simp at hz_w4
        have HH_w4 := Lib.hid hb_w4
        have hB_w4 : Below w1.heap.size w1 w4 := Below.trans (by (repeat (first | (with_reducible exact Below.refl _ _) | (with_reducible assumption) | (with_reducible refine Below.drew ?_) | (focus ((with_reducible refine Below.setCell ?_ ?_ _); rotate_left; (first | omega | (simp <;> omega)))) | (focus ((with_reducible refine Below.alloc ?_ ?_ _); rotate_left; (first | omega | (simp <;> omega)))) | exact Below.refl _ _ | assumption | refine Below.drew ?_ | refine Below.alloc ?_ (by first | omega | (simp <;> omega)) _ | refine Below.setCell ?_ (by first | omega | (simp <;> omega)) _))) (hb_w4.mono (by first | omega | (simp <;> omega)))
        clear hb_w4
        try clear hB_w3
        go_wp2_with fail
        refine Calls.mono (DE.out _) ?_
        rintro e w' ⟨rfl, hw'⟩
        obtain rfl := hw'.symm
        go_wp2_with fail
        refine Calls.mono (CPr.out _ _ (HR.out.below hB_w4)) ?_
        rintro e w5 ⟨rfl, hb_w5⟩
        have hz_w5 := hb_w5.size
        try simp at hz_w5
        have HH_w5 := Lib.hid hb_w5
        have hB_w5 : Below w1.heap.size w1 w5 := Below.trans (by (repeat (first | (with_reducible exact Below.refl _ _) | (with_reducible assumption) | (with_reducible refine Below.drew ?_) | (focus ((with_reducible refine Below.setCell ?_ ?_ _); rotate_left; (first | omega | (simp <;> omega)))) | (focus ((with_reducible refine Below.alloc ?_ ?_ _); rotate_left; (first | omega | (simp <;> omega)))) | exact Below.refl _ _ | assumption | refine Below.drew ?_ | refine Below.alloc ?_ (by first | omega | (simp <;> omega)) _ | refine Below.setCell ?_ (by first | omega | (simp <;> omega)) _))) (hb_w5.mono (by first | omega | (simp <;> omega)))
        clear hb_w5
        try clear hB_w4
        go_wp2_with fail
        refine Calls.mono (LK.out _ _ _ (HR2.out.below (HH_w3.out.trans ((HH_w4.out.trans (HH_w5.out.mono (by omega))).mono (by omega)))) (HR3.out.below (HH_w4.out.trans (HH_w5.out.mono (by omega))))) ?_
        rintro e w6 ⟨rfl, hb_w6⟩
        have hz_w6 := hb_w6.size
        try simp at hz_w6
        have HH_w6 := Lib.hid hb_w6
        have hB_w6 : Below w1.heap.size w1 w6 := Below.trans (by (repeat (first | (with_reducible exact Below.refl _ _) | (with_reducible assumption) | (with_reducible refine Below.drew ?_) | (focus ((with_reducible refine Below.setCell ?_ ?_ _); rotate_left; (first | omega | (simp <;> omega)))) | (focus ((with_reducible refine Below.alloc ?_ ?_ _); rotate_left; (first | omega | (simp <;> omega)))) | exact Below.refl _ _ | assumption | refine Below.drew ?_ | refine Below.alloc ?_ (by first | omega | (simp <;> omega)) _ | refine Below.setCell ?_ (by first | omega | (simp <;> omega)) _))) (hb_w6.mono (by first | omega | (simp <;> omega)))
        clear hb_w6
        try clear hB_w5
        go_wp2_with fail
        refine Calls.mono (head_alive _) ?_
        rintro e w7 ⟨rfl, hb_w7⟩
        have hz_w7 := hb_w7.size
        try simp at hz_w7
        have HH_w7 := Lib.hid hb_w7
        have hB_w7 : Below w1.heap.size w1 w7 := Below.trans (by (repeat (first | (with_reducible exact Below.refl _ _) | (with_reducible assumption) | (with_reducible refine Below.drew ?_) | (focus ((with_reducible refine Below.setCell ?_ ?_ _); rotate_left; (first | omega | (simp <;> omega)))) | (focus ((with_reducible refine Below.alloc ?_ ?_ _); rotate_left; (first | omega | (simp <;> omega)))) | exact Below.refl _ _ | assumption | refine Below.drew ?_ | refine Below.alloc ?_ (by first | omega | (simp <;> omega)) _ | refine Below.setCell ?_ (by first | omega | (simp <;> omega)) _))) (hb_w7.mono (by first | omega | (simp <;> omega)))
        clear hb_w7
        try clear hB_w6
        go_wp2_with fail
        refine Calls.mono (CW.out _ _ (HR.out.below hB_w7)) ?_
        rintro e w8 ⟨rfl, hb_w8⟩
        have hz_w8 := hb_w8.size
        try simp at hz_w8
        have HH_w8 := Lib.hid hb_w8
        have hB_w8 : Below w1.heap.size w1 w8 := Below.trans (by (repeat (first | (with_reducible exact Below.refl _ _) | (with_reducible assumption) | (with_reducible refine Below.drew ?_) | (focus ((with_reducible refine Below.setCell ?_ ?_ _); rotate_left; (first | omega | (simp <;> omega)))) | (focus ((with_reducible refine Below.alloc ?_ ?_ _); rotate_left; (first | omega | (simp <;> omega)))) | exact Below.refl _ _ | assumption | refine Below.drew ?_ | refine Below.alloc ?_ (by first | omega | (simp <;> omega)) _ | refine Below.setCell ?_ (by first | omega | (simp <;> omega)) _))) (hb_w8.mono (by first | omega | (simp <;> omega)))
        clear hb_w8
        try clear hB_w7
        go_wp2_with fail
        refine Calls.mono (CR.out _ _ (HR.out.below hB_w8)) ?_
        rintro e w9 ⟨rfl, hb_w9⟩
        have hz_w9 := hb_w9.size
        try simp at hz_w9
        have HH_w9 := Lib.hid hb_w9
        have hB_w9 : Below w1.heap.size w1 w9 := Below.trans (by (repeat (first | (with_reducible exact Below.refl _ _) | (with_reducible assumption) | (with_reducible refine Below.drew ?_) | (focus ((with_reducible refine Below.setCell ?_ ?_ _); rotate_left; (first | omega | (simp <;> omega)))) | (focus ((with_reducible refine Below.alloc ?_ ?_ _); rotate_left; (first | omega | (simp <;> omega)))) | exact Below.refl _ _ | assumption | refine Below.drew ?_ | refine Below.alloc ?_ (by first | omega | (simp <;> omega)) _ | refine Below.setCell ?_ (by first | omega | (simp <;> omega)) _))) (hb_w9.mono (by first | omega | (simp <;> omega)))
        clear hb_w9
        try clear hB_w8
        go_wp2
        go_ret
        exact ⟨ret_bool (by simp), HB1.out.trans (hB_w9.mono hz1)⟩
end Go.Proofs.YtpklbelhdfkjpaaDoor
