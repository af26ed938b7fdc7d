/- The law HopStays: its walk. -/
import Derived.Test.YtcfihoniocamaaaDoorRefHop2
import Derived.Deep.DeepCutAuto
namespace Go.Proofs.YtcfihoniocamaaaDoor
open Go.RowKit Go.Sort Go.Shelf
set_option linter.unusedVariables false

theorem few_hop (xs : List Fld) : HopRow (fewL xs) := ⟨Nat.le_trans (fewL_len xs) (by omega), fun f hf => by
  obtain ⟨g, _, rfl⟩ := List.mem_map.1 hf
  exact ⟨by simp [cutF]; omega, by simp [cutF]; omega⟩⟩
theorem strip_hop {L : List Fld} (h : HopRow L) : HopRow (stripL L) := ⟨Nat.le_trans (List.length_filter_le _ _) h.len, fun f hf => h.each f (List.mem_filter.1 hf).1⟩
theorem mlen_later {w : World} (h : ∃ m, w.cell? ⟨0, 0, none⟩ = some (.int .i64 m)) (W : World) (hb : Below w.heap.size w W) : ∃ m, W.cell? ⟨0, 0, none⟩ = some (.int .i64 m) := by
  obtain ⟨m, hm⟩ := h
  exact ⟨m, (hb.cell (p := ⟨0, 0, none⟩) (block_lt_of_cell hm)).trans hm⟩
/-- Where the next one that stays is. -/
theorem filter_at (p : Fld → Bool) {T : List Fld} {i : Nat} (h : i < T.length) (hp : p T[i] = true) : ∃ hk : ((T.take i).filter p).length < (T.filter p).length, (T.filter p)[((T.take i).filter p).length] = T[i] := by
  have e : T.filter p = (T.take i).filter p ++ T[i] :: (T.drop (i + 1)).filter p := by
    conv => lhs; rw [← List.take_append_drop i T, List.drop_eq_getElem_cons h]
    rw [List.filter_append, List.filter_cons_of_pos hp]
  have hl : ((T.take i).filter p).length < (T.filter p).length := by rw [e]; simp
  refine ⟨hl, ?_⟩
  have : (T.filter p)[((T.take i).filter p).length]? = some T[i] := by rw [e]; simp
  rw [List.getElem?_eq_getElem hl] at this
  exact Option.some.inj this
theorem like_true (L : List Fld) (v1 v2 : Value) (W : World) (h1 : ReadsF W v1 L) (h2 : ReadsF W v2 L) : Calls Tryd.prog 13 #[v1, v2] W fun e w' => e = .returned (.bool true) ∧ Below W.heap.size W w' := by
  have h := refLike v1 v2 L L W h1 h2
  rw [show (L == L) = true by simp] at h
  exact h

set_option maxHeartbeats 3200000 in
set_option maxRecDepth 100000 in
theorem hopStays_any (v : Value) (L : List (List Value)) (w : World) (hv : RowsIn w 2 v L ∧ ∀ c ∈ L, AllSh [.str, .str] c) (_hL : True) (hM : ∃ m, w.cell? ⟨0, 0, none⟩ = some (.int .i64 m)) :
    Calls Tryd.prog 3 #[v] w fun e w' => e = .returned (.bool true) ∧ Below w.heap.size w w' := by
  obtain ⟨xs, hr0, hxl⟩ := reads_inF hv
  have C0 := Lib.hid (few v xs w hr0 hxl)
  have HM := Lib.hid (fun W hb => mlen_later hM W hb)
  have AL := Lib.hid (fun W h => hop_alive W h)
  have hT := few_hop xs
  obtain ⟨T, hTe⟩ : ∃ T, fewL xs = T := ⟨_, rfl⟩
  rw [hTe] at C0 hT
  have ST := Lib.hid (fun u W hr hm => hopStrip u T W hr hT hm)
  have WO := Lib.hid (fun u W hr => refHopWords u T W hr hT)
  have hTl := hT.len
  clear hr0 hxl hv hM hTe
  cases hR : rightL T with
  | false =>
    unfold stripE stripV at ST
    rw [hR, if_neg (by simp), if_neg (by simp)] at ST
    clear hR
    go_enter Tryd.func3, Tryd.ntmps3
    go_wp2_with fail
    refine Calls.mono (C0.out) ?_
    rintro e w1 ⟨v1, rfl, hr1, hb_w1⟩
    have hz_w1 := hb_w1.size
    try simp at hz_w1
    have HH_w1 := Lib.hid hb_w1
    have hB_w1 : Below w.heap.size w w1 := Below.trans (by (repeat (first | (with_reducible exact Below.refl _ _) | (with_reducible assumption) | (with_reducible refine Below.drew ?_) | (focus ((with_reducible refine Below.setCell ?_ ?_ _); rotate_left; (first | omega | (simp <;> omega)))) | (focus ((with_reducible refine Below.alloc ?_ ?_ _); rotate_left; (first | omega | (simp <;> omega)))) | exact Below.refl _ _ | assumption | refine Below.drew ?_ | refine Below.alloc ?_ (by first | omega | (simp <;> omega)) _ | refine Below.setCell ?_ (by first | omega | (simp <;> omega)) _))) (hb_w1.mono (by first | omega | (simp <;> omega)))
    clear hb_w1
    go_wp2_with fail
    refine Calls.mono (ST.out _ _ hr1 (HM.out _ hB_w1)) ?_
    rintro e w2 ⟨v2, rfl, ho2, hb_w2⟩
    have hz_w2 := hb_w2.size
    try simp at hz_w2
    have HH_w2 := Lib.hid hb_w2
    have hB_w2 : Below w.heap.size w w2 := Below.trans (by (repeat (first | (with_reducible exact Below.refl _ _) | (with_reducible assumption) | (with_reducible refine Below.drew ?_) | (focus ((with_reducible refine Below.setCell ?_ ?_ _); rotate_left; (first | omega | (simp <;> omega)))) | (focus ((with_reducible refine Below.alloc ?_ ?_ _); rotate_left; (first | omega | (simp <;> omega)))) | exact Below.refl _ _ | assumption | refine Below.drew ?_ | refine Below.alloc ?_ (by first | omega | (simp <;> omega)) _ | refine Below.setCell ?_ (by first | omega | (simp <;> omega)) _))) (hb_w2.mono (by first | omega | (simp <;> omega)))
    clear hb_w2
    try clear hB_w1
    obtain ⟨ao, cap, rfl, hc1, hc2, _, _⟩ := ho2.reads
    clear ho2
    go_wp2_with fail
    refine Calls.mono (AL.out _ (HM.out _ hB_w2)) ?_
    rintro e w3 ⟨rfl, hb_w3⟩
    have hz_w3 := hb_w3.size
    try simp at hz_w3
    have HH_w3 := Lib.hid hb_w3
    have hB_w3 : Below w.heap.size w w3 := Below.trans (by (repeat (first | (with_reducible exact Below.refl _ _) | (with_reducible assumption) | (with_reducible refine Below.drew ?_) | (focus ((with_reducible refine Below.setCell ?_ ?_ _); rotate_left; (first | omega | (simp <;> omega)))) | (focus ((with_reducible refine Below.alloc ?_ ?_ _); rotate_left; (first | omega | (simp <;> omega)))) | exact Below.refl _ _ | assumption | refine Below.drew ?_ | refine Below.alloc ?_ (by first | omega | (simp <;> omega)) _ | refine Below.setCell ?_ (by first | omega | (simp <;> omega)) _))) (hb_w3.mono (by first | omega | (simp <;> omega)))
    clear hb_w3
    try clear hB_w2
    go_wp2
    go_ret
    exact ⟨ret_bool (by simp), hB_w3⟩
  | true =>
    have ST2 := Lib.hid (fun u W hr hm => hopStrip u (stripL T) W hr (strip_hop hT) hm)
    unfold stripE stripV at ST ST2
    rw [hR, if_pos rfl, if_pos rfl] at ST
    rw [strip_right hR, if_pos rfl, if_pos rfl, strip_strip hR] at ST2
    have HE := Lib.hid hT.each
    have hAd : stripL T = T.filter fun f => !aloneB (hopWords T) f.1 := rfl
    obtain ⟨Wd, hWd⟩ : ∃ Wd, hopWords T = Wd := ⟨_, rfl⟩
    rw [hWd] at WO hAd
    have FA := Lib.hid (fun (i : Nat) (h : i < T.length) (hp : (!aloneB Wd T[i].1) = true) (K : Nat) (hK : ((T.take i).filter fun f => !aloneB Wd f.1).length = K) => (show ∃ hk : K < (stripL T).length, (stripL T)[K] = T[i] from by
      subst hK
      have := filter_at (fun f => !aloneB Wd f.1) h hp
      simpa [hAd] using this))
    have HAD := Lib.hid hAd
    have hAl : (stripL T).length ≤ 50 := (strip_hop hT).len
    obtain ⟨A, hA⟩ : ∃ A, stripL T = A := ⟨_, rfl⟩
    rw [hA] at ST ST2 FA HAD hAl
    have LK := Lib.hid (fun u1 u2 W h1 h2 => like_true A u1 u2 W h1 h2)
    have RA := Lib.hid (fun u n hn W hr => refAlone u Wd n hn W hr)
    clear hR hT hAd hWd hA
    go_enter Tryd.func3, Tryd.ntmps3
    go_wp2_with fail
    refine Calls.mono (C0.out) ?_
    rintro e w1 ⟨v1, rfl, hr1, hb_w1⟩
    have hz_w1 := hb_w1.size
    try simp at hz_w1
    have HH_w1 := Lib.hid hb_w1
    have hB_w1 : Below w.heap.size w w1 := Below.trans (by (repeat (first | (with_reducible exact Below.refl _ _) | (with_reducible assumption) | (with_reducible refine Below.drew ?_) | (focus ((with_reducible refine Below.setCell ?_ ?_ _); rotate_left; (first | omega | (simp <;> omega)))) | (focus ((with_reducible refine Below.alloc ?_ ?_ _); rotate_left; (first | omega | (simp <;> omega)))) | exact Below.refl _ _ | assumption | refine Below.drew ?_ | refine Below.alloc ?_ (by first | omega | (simp <;> omega)) _ | refine Below.setCell ?_ (by first | omega | (simp <;> omega)) _))) (hb_w1.mono (by first | omega | (simp <;> omega)))
    clear hb_w1
    try clear hB_w3
    have R1 := Lib.hid hr1
    obtain ⟨ao1, cap1, rfl, hc1, hc2, _, hcell1⟩ := hr1
    clear hcell1
    go_wp2_with fail
    refine Calls.mono (ST.out _ _ R1.out (HM.out _ hB_w1)) ?_
    rintro e w2 ⟨v2, rfl, ho2, hb_w2⟩
    have hz_w2 := hb_w2.size
    try simp at hz_w2
    have HH_w2 := Lib.hid hb_w2
    have hB_w2 : Below w.heap.size w w2 := Below.trans (by (repeat (first | (with_reducible exact Below.refl _ _) | (with_reducible assumption) | (with_reducible refine Below.drew ?_) | (focus ((with_reducible refine Below.setCell ?_ ?_ _); rotate_left; (first | omega | (simp <;> omega)))) | (focus ((with_reducible refine Below.alloc ?_ ?_ _); rotate_left; (first | omega | (simp <;> omega)))) | exact Below.refl _ _ | assumption | refine Below.drew ?_ | refine Below.alloc ?_ (by first | omega | (simp <;> omega)) _ | refine Below.setCell ?_ (by first | omega | (simp <;> omega)) _))) (hb_w2.mono (by first | omega | (simp <;> omega)))
    clear hb_w2
    try clear hB_w1
    have R2 := Lib.hid ho2.reads
    obtain ⟨ao2, cap2, rfl, hd1, hd2, _, hcell2⟩ := ho2.reads
    clear ho2 hcell2
    go_wp2_with fail
    refine Calls.mono (ST2.out _ _ R2.out (HM.out _ hB_w2)) ?_
    rintro e w3 ⟨v3, rfl, ho3, hb_w3⟩
    have hz_w3 := hb_w3.size
    try simp at hz_w3
    have HH_w3 := Lib.hid hb_w3
    have hB_w3 : Below w.heap.size w w3 := Below.trans (by (repeat (first | (with_reducible exact Below.refl _ _) | (with_reducible assumption) | (with_reducible refine Below.drew ?_) | (focus ((with_reducible refine Below.setCell ?_ ?_ _); rotate_left; (first | omega | (simp <;> omega)))) | (focus ((with_reducible refine Below.alloc ?_ ?_ _); rotate_left; (first | omega | (simp <;> omega)))) | exact Below.refl _ _ | assumption | refine Below.drew ?_ | refine Below.alloc ?_ (by first | omega | (simp <;> omega)) _ | refine Below.setCell ?_ (by first | omega | (simp <;> omega)) _))) (hb_w3.mono (by first | omega | (simp <;> omega)))
    clear hb_w3
    try clear hB_w2
    have R3 := Lib.hid ho3.reads
    clear ho3
    have b13 := HH_w2.out.trans (HH_w3.out.mono (by omega))
    go_wp2_with fail
    refine Calls.mono (WO.out _ _ (R1.out.below b13)) ?_
    rintro e w4 ⟨v4, rfl, ho4, hb_w4⟩
    have hz_w4 := hb_w4.size
    try simp at hz_w4
    have HH_w4 := Lib.hid hb_w4
    have hB_w4 : Below w.heap.size w w4 := Below.trans (by (repeat (first | (with_reducible exact Below.refl _ _) | (with_reducible assumption) | (with_reducible refine Below.drew ?_) | (focus ((with_reducible refine Below.setCell ?_ ?_ _); rotate_left; (first | omega | (simp <;> omega)))) | (focus ((with_reducible refine Below.alloc ?_ ?_ _); rotate_left; (first | omega | (simp <;> omega)))) | exact Below.refl _ _ | assumption | refine Below.drew ?_ | refine Below.alloc ?_ (by first | omega | (simp <;> omega)) _ | refine Below.setCell ?_ (by first | omega | (simp <;> omega)) _))) (hb_w4.mono (by first | omega | (simp <;> omega)))
    clear hb_w4
    try clear hB_w3
    have R4 := Lib.hid ho4.reads
    clear ho4
    have R14 := Lib.hid (R1.out.below (b13.trans (HH_w4.out.mono (by omega))))
    have R24 := Lib.hid (R2.out.below (HH_w3.out.trans (HH_w4.out.mono (by omega))))
    have R34 := Lib.hid (R3.out.below HH_w4.out)
    have hmx : maxLen = 9223372036854775807 := rfl
    rw [hmx] at hc2 hd2
    have H14 : ReadsF w4 (.slice ao1 T.length cap1) T := R14.out
    have H24 : ReadsF w4 (.slice ao2 A.length cap2) A := R24.out
    obtain ⟨ao1', cap1', e1, _, _, _, hcell1⟩ := H14
    injection e1 with e1 _ e1c
    subst e1
    subst e1c
    obtain ⟨ao2', cap2', e2, _, _, _, hcell2⟩ := H24
    injection e2 with e2 _ e2c
    subst e2
    subst e2c
    have HC1 := Lib.hid hcell1
    have HC2 := Lib.hid hcell2
    have HB4 := Lib.hid hB_w4
    have hz4 := hB_w4.size
    clear hcell1 hcell2 hmx b13 hB_w4
    go_wp2_with fail
    go_loopw [8, 35] (fun kv iv wr => ∃ i : Nat, iv = .int .i64 i ∧ i ≤ T.length ∧ kv = .int .i64 ((((T.take i).filter fun f => !aloneB Wd f.1).length : Nat) : Int) ∧ Below w4.heap.size w4 wr) (fun _ iv _ => T.length - (intOf iv).toNat)
    case atStart => exact ⟨0, rfl, Nat.zero_le _, rfl, Below.refl _ _⟩
    case round =>
      obtain ⟨i, rfl, hi, rfl, hBr⟩ := hrel
      have hz := hBr.size
      have HBr := Lib.hid hBr
      have hkl : ((T.take i).filter fun f => !aloneB Wd f.1).length ≤ 50 := Nat.le_trans (List.length_filter_le _ _) (by rw [List.length_take]; omega)
      by_cases hlt : i < T.length
      · obtain ⟨b, off, rfl, hb, hcl⟩ := HC1.out (by omega)
        obtain ⟨c1, c2⟩ := hcl i hlt
        rw [← hBr.cell (p := ⟨b, off + i * 2, none⟩) hb] at c1
        rw [← hBr.cell (p := ⟨b, off + i * 2 + 1, none⟩) hb] at c2
        have hfe := HE.out _ (List.getElem_mem hlt)
        have htk : ((T.take (i + 1)).filter fun f => !aloneB Wd f.1).length = ((T.take i).filter fun f => !aloneB Wd f.1).length + (if aloneB Wd T[i].1 = true then 0 else 1) := by
          rw [List.take_succ_eq_append_getElem hlt, List.filter_append, List.length_append]
          congr 1
          cases h : aloneB Wd T[i].1 <;> simp [h]
        obtain ⟨K, hK⟩ : ∃ K, ((T.take i).filter fun f => !aloneB Wd f.1).length = K := ⟨_, rfl⟩
        rw [hK] at hkl htk ⊢
        have hfa := fun (hp : (!aloneB Wd T[i].1) = true) => FA.out i hlt hp K hK
        obtain ⟨⟨n, x⟩, hf⟩ : ∃ f, T[i] = f := ⟨_, rfl⟩
        rw [hf] at c1 c2 hfe htk hfa
        simp only at c1 c2 hfe htk hfa
        have A1 := Lib.hid (fun u W hr => RA.out u n (by omega) W hr)
        obtain ⟨al, hal⟩ : ∃ q, aloneB Wd n = q := ⟨_, rfl⟩
        rw [hal] at A1 htk hfa
        have HT := Lib.hid htk
        have HFA := Lib.hid hfa
        have hbz : b < wr.heap.size := by omega
        have hfb := far hbz
        clear hcl hf hK htk hal hfa
        cases al with
        | true =>
          go_wp2_with fail
          refine Calls.mono (A1.out _ _ (R4.out.below (Below.trans HBr.out (Below.mono (show Below wr.heap.size wr _ by (repeat (first | (with_reducible exact Below.refl _ _) | (with_reducible assumption) | (with_reducible refine Below.drew ?_) | (focus ((with_reducible refine Below.setCell ?_ ?_ _); rotate_left; (first | omega | (simp <;> omega)))) | (focus ((with_reducible refine Below.alloc ?_ ?_ _); rotate_left; (first | omega | (simp <;> omega)))) | exact Below.refl _ _ | assumption | refine Below.drew ?_ | refine Below.alloc ?_ (by first | omega | (simp <;> omega)) _ | refine Below.setCell ?_ (by first | omega | (simp <;> omega)) _))) hz)))) ?_
          rintro e w5 ⟨rfl, hb_w5⟩
          have hz_w5 := hb_w5.size
          try simp at hz_w5
          have HH_w5 := Lib.hid hb_w5
          have hB_w5 : Below wr.heap.size wr w5 := Below.trans (by (repeat (first | (with_reducible exact Below.refl _ _) | (with_reducible assumption) | (with_reducible refine Below.drew ?_) | (focus ((with_reducible refine Below.setCell ?_ ?_ _); rotate_left; (first | omega | (simp <;> omega)))) | (focus ((with_reducible refine Below.alloc ?_ ?_ _); rotate_left; (first | omega | (simp <;> omega)))) | exact Below.refl _ _ | assumption | refine Below.drew ?_ | refine Below.alloc ?_ (by first | omega | (simp <;> omega)) _ | refine Below.setCell ?_ (by first | omega | (simp <;> omega)) _))) (hb_w5.mono (by first | omega | (simp <;> omega)))
          clear hb_w5
          try clear hB_w4
          go_wp2
          go_roundw
          case rel => exact ⟨i + 1, by go_num, by omega, by rw [HT.out]; rfl, HBr.out.trans (hB_w5.mono hz)⟩
          case measure => simp [intOf]; omega
        | false =>
          obtain ⟨hk2, hak⟩ := HFA.out rfl
          obtain ⟨b2, off2, rfl, hb2, hcl2⟩ := HC2.out (by omega)
          obtain ⟨d1, d2⟩ := hcl2 K hk2
          rw [hak] at d1 d2
          simp only at d1 d2
          rw [← hBr.cell (p := ⟨b2, off2 + K * 2, none⟩) hb2] at d1
          rw [← hBr.cell (p := ⟨b2, off2 + K * 2 + 1, none⟩) hb2] at d2
          have hb2z : b2 < wr.heap.size := by omega
          have hfb2 := far hb2z
          have hk2i : (K : Int) < (A.length : Int) := by omega
          have hge : decide ((A.length : Int) ≤ (K : Int)) = false := by simp; omega
          have hgeN : decide (A.length ≤ K) = false := by simp; omega
          have hgeM : ¬ (A.length ≤ K) := by omega
          clear hcl2 hak
          go_wp2_with fail
          refine Calls.mono (A1.out _ _ (R4.out.below (Below.trans HBr.out (Below.mono (show Below wr.heap.size wr _ by (repeat (first | (with_reducible exact Below.refl _ _) | (with_reducible assumption) | (with_reducible refine Below.drew ?_) | (focus ((with_reducible refine Below.setCell ?_ ?_ _); rotate_left; (first | omega | (simp <;> omega)))) | (focus ((with_reducible refine Below.alloc ?_ ?_ _); rotate_left; (first | omega | (simp <;> omega)))) | exact Below.refl _ _ | assumption | refine Below.drew ?_ | refine Below.alloc ?_ (by first | omega | (simp <;> omega)) _ | refine Below.setCell ?_ (by first | omega | (simp <;> omega)) _))) hz)))) ?_
          rintro e w5 ⟨rfl, hb_w5⟩
          have hz_w5 := hb_w5.size
          try simp at hz_w5
          obtain ⟨c_w5_wr_0, f_w5_wr_0⟩ := bk hb_w5 (wr.heap.size) (by first | omega | (simp <;> omega))
          have c_w5_wr_0_0 := c_w5_wr_0 0
          conv at c_w5_wr_0_0 => rhs; simp [go_sem, *]
          have f_w5_wr_0_0 := f_w5_wr_0 0
          conv at f_w5_wr_0_0 => rhs; simp [go_sem, *]
          have c_w5_wr_0_1 := c_w5_wr_0 1
          conv at c_w5_wr_0_1 => rhs; simp [go_sem, *]
          have f_w5_wr_0_1 := f_w5_wr_0 1
          conv at f_w5_wr_0_1 => rhs; simp [go_sem, *]
          have HH_w5 := Lib.hid hb_w5
          have hB_w5 : Below wr.heap.size wr w5 := Below.trans (by (repeat (first | (with_reducible exact Below.refl _ _) | (with_reducible assumption) | (with_reducible refine Below.drew ?_) | (focus ((with_reducible refine Below.setCell ?_ ?_ _); rotate_left; (first | omega | (simp <;> omega)))) | (focus ((with_reducible refine Below.alloc ?_ ?_ _); rotate_left; (first | omega | (simp <;> omega)))) | exact Below.refl _ _ | assumption | refine Below.drew ?_ | refine Below.alloc ?_ (by first | omega | (simp <;> omega)) _ | refine Below.setCell ?_ (by first | omega | (simp <;> omega)) _))) (hb_w5.mono (by first | omega | (simp <;> omega)))
          clear hb_w5 c_w5_wr_0 f_w5_wr_0
          have far_w5_wr_0 := far (show wr.heap.size < w5.heap.size by omega)
          have q1 := HH_w5.out.cell (p := ⟨b2, off2 + K * 2, none⟩) (by simp; omega)
          have q2 := HH_w5.out.cell (p := ⟨b2, off2 + K * 2 + 1, none⟩) (by simp; omega)
          (try simp [go_sem, *] at q1)
          (try simp [go_sem, *] at q2)
          go_wp2_with fail
          refine wp_region_later (wr.heap.size + 1) (by kernel_rfl) (by kernel_rfl) ?_
          have l_w6_wr_0 := @Later.at (wr.heap.size + 1) (wr.heap.size) (by omega)
          have l_w6_vb2 := @Later.at (wr.heap.size + 1) (b2) (by omega)
          repeat (go_big_quiet_step (fail))
          refine wpQuiet_nil ?_
          rintro w6 ⟨⟨_, hb_w6⟩, rfl⟩
          clear l_w6_wr_0 l_w6_vb2
          try simp only [] at hb_w6 ⊢
          have hz_w6 := hb_w6.size
          try simp at hz_w6
          have c_w6_wr_0 := fun o => hb_w6.cell (p := ⟨wr.heap.size, o, none⟩) (by first | omega | (simp <;> omega))
          have f_w6_wr_0 := fun o => hb_w6.frozen (p := ⟨wr.heap.size, o, none⟩) (by first | omega | (simp <;> omega))
          have c_w6_wr_0_0 := c_w6_wr_0 0
          conv at c_w6_wr_0_0 => rhs; simp [go_sem, *]
          have f_w6_wr_0_0 := f_w6_wr_0 0
          conv at f_w6_wr_0_0 => rhs; simp [go_sem, *]
          have c_w6_wr_0_1 := c_w6_wr_0 1
          conv at c_w6_wr_0_1 => rhs; simp [go_sem, *]
          have f_w6_wr_0_1 := f_w6_wr_0 1
          conv at f_w6_wr_0_1 => rhs; simp [go_sem, *]
          have c_w6_vb2 := fun o => hb_w6.cell (p := ⟨b2, o, none⟩) (by first | omega | (simp <;> omega))
          have f_w6_vb2 := fun o => hb_w6.frozen (p := ⟨b2, o, none⟩) (by first | omega | (simp <;> omega))
          have HH_w6 := Lib.hid hb_w6
          have hB_w6 : Below wr.heap.size wr w6 := Below.trans (by (repeat (first | (with_reducible exact Below.refl _ _) | (with_reducible assumption) | (with_reducible refine Below.drew ?_) | (focus ((with_reducible refine Below.setCell ?_ ?_ _); rotate_left; (first | omega | (simp <;> omega)))) | (focus ((with_reducible refine Below.alloc ?_ ?_ _); rotate_left; (first | omega | (simp <;> omega)))) | exact Below.refl _ _ | assumption | refine Below.drew ?_ | refine Below.alloc ?_ (by first | omega | (simp <;> omega)) _ | refine Below.setCell ?_ (by first | omega | (simp <;> omega)) _))) (hb_w6.mono (by first | omega | (simp <;> omega)))
          clear hb_w6 c_w6_wr_0 f_w6_wr_0 c_w6_vb2 f_w6_vb2
          try clear c_w5_wr_0_0
          try clear f_w5_wr_0_0
          try clear c_w5_wr_0_1
          try clear f_w5_wr_0_1
          try clear far_w5_wr_0
          try clear hB_w5
          have far_w6_wr_0 := far (show wr.heap.size < w6.heap.size by omega)
          have far_w6_vb2 := far (show b2 < w6.heap.size by omega)
          go_wp2
          go_roundw
          case rel => exact ⟨i + 1, by go_num, by omega, by rw [HT.out]; simp, HBr.out.trans (hB_w6.mono hz)⟩
          case measure => simp [intOf]; omega
      · obtain rfl : i = T.length := by omega
        have hkA : ((T.take T.length).filter fun f => !aloneB Wd f.1).length = A.length := by rw [List.take_length, ← HAD.out]
        rw [hkA]
        clear hkA hkl
        have HBw := Lib.hid (HB4.out.trans (hBr.mono hz4))
        have hzw := HBw.out.size
        go_wp2_with fail
        refine Calls.mono (AL.out _ (HM.out _ HBw.out)) ?_
        rintro e x1 ⟨rfl, hb_x1⟩
        have hz_x1 := hb_x1.size
        try simp at hz_x1
        have HH_x1 := Lib.hid hb_x1
        have hB_x1 : Below wr.heap.size wr x1 := Below.trans (by (repeat (first | (with_reducible exact Below.refl _ _) | (with_reducible assumption) | (with_reducible refine Below.drew ?_) | (focus ((with_reducible refine Below.setCell ?_ ?_ _); rotate_left; (first | omega | (simp <;> omega)))) | (focus ((with_reducible refine Below.alloc ?_ ?_ _); rotate_left; (first | omega | (simp <;> omega)))) | exact Below.refl _ _ | assumption | refine Below.drew ?_ | refine Below.alloc ?_ (by first | omega | (simp <;> omega)) _ | refine Below.setCell ?_ (by first | omega | (simp <;> omega)) _))) (hb_x1.mono (by first | omega | (simp <;> omega)))
        clear hb_x1
        try clear c_w6_wr_0_0
        try clear f_w6_wr_0_0
        try clear c_w6_wr_0_1
        try clear f_w6_wr_0_1
        try clear far_w6_wr_0
        try clear far_w6_vb2
        try clear hB_w6
        go_wp2_with fail
        refine Calls.mono (LK.out _ _ _ (R24.out.below (hBr.trans (hB_x1.mono hz))) (R34.out.below (hBr.trans (hB_x1.mono hz)))) ?_
        rintro e x2 ⟨rfl, hb_x2⟩
        have hz_x2 := hb_x2.size
        try simp at hz_x2
        have HH_x2 := Lib.hid hb_x2
        have hB_x2 : Below wr.heap.size wr x2 := Below.trans (by (repeat (first | (with_reducible exact Below.refl _ _) | (with_reducible assumption) | (with_reducible refine Below.drew ?_) | (focus ((with_reducible refine Below.setCell ?_ ?_ _); rotate_left; (first | omega | (simp <;> omega)))) | (focus ((with_reducible refine Below.alloc ?_ ?_ _); rotate_left; (first | omega | (simp <;> omega)))) | exact Below.refl _ _ | assumption | refine Below.drew ?_ | refine Below.alloc ?_ (by first | omega | (simp <;> omega)) _ | refine Below.setCell ?_ (by first | omega | (simp <;> omega)) _))) (hb_x2.mono (by first | omega | (simp <;> omega)))
        clear hb_x2
        try clear hB_x1
        go_wp2
        go_ret
        exact ⟨ret_bool (by simp), HBw.out.trans (hB_x2.mono hzw)⟩
end Go.Proofs.YtcfihoniocamaaaDoor
