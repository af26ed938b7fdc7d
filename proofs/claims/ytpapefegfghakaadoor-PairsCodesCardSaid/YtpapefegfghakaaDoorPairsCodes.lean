/- The law PairsCodes: its walk. -/
import Derived.Test.YtpapefegfghakaaDoorPairsReads
import Derived.Test.YtpapefegfghakaaDoorCodesMath
import Derived.Test.YtpapefegfghakaaDoorPairsRef3
import Derived.Deep.DeepCutAuto
namespace Go.Proofs.YtpapefegfghakaaDoor
open Go.RowKit Go.Sort Go.Shelf
set_option linter.unusedVariables false

set_option maxHeartbeats 1600000 in
set_option maxRecDepth 100000 in
theorem refQuote (s : List UInt8) (hs : s.length ≤ 1000000) (w : World) : Calls Tryd.prog 14 #[.string (S s)] w fun e w' => e = .returned (.tuple #[.string (S (if s.any ctlB = true then [] else quoteT s)), .int .i64 (if s.any ctlB = true then 11 else 0)]) ∧ w' = w := by
  have hs1 : (s.length : Int) ≤ 1000000 := by omega
  have QY := Lib.hid (fun (h : s.any ctlB = true) => (show (if s.any ctlB = true then ([] : List UInt8) else quoteT s) = [] ∧ (if s.any ctlB = true then (11 : Int) else 0) = 11 from ⟨if_pos h, if_pos h⟩))
  have QN := Lib.hid (fun (h : s.any ctlB = false) => (show (if s.any ctlB = true then ([] : List UInt8) else quoteT s) = quoteT s ∧ (if s.any ctlB = true then (11 : Int) else 0) = 0 from ⟨if_neg (by rw [h]; simp), if_neg (by rw [h]; simp)⟩))
  obtain ⟨qq, hqq⟩ : ∃ q, (if s.any ctlB = true then ([] : List UInt8) else quoteT s) = q := ⟨_, rfl⟩
  obtain ⟨qe, hqe⟩ : ∃ q, (if s.any ctlB = true then (11 : Int) else 0) = q := ⟨_, rfl⟩
  rw [hqq, hqe] at QY QN ⊢
  clear hqq hqe
  have CT := Lib.hid (fun c W => refControl c W)
  go_enter Tryd.func14, Tryd.ntmps14
  go_wp2
  simp only [mk_S]
  go_loop [4, 5] (fun ov iv => ∃ (k : Nat) (out : List UInt8), iv = .int .i64 k ∧ k ≤ s.length ∧ ov = .string (S out) ∧ out = 34 :: (s.take k).flatMap escB ∧ out.length ≤ 2 * k + 1 ∧ (s.take k).any ctlB = false) (fun _ iv => s.length - (intOf iv).toNat)
  case atStart => exact ⟨0, _, rfl, Nat.zero_le _, rfl, rfl, by simp, rfl⟩
  case round =>
    obtain ⟨k, out, rfl, hk, rfl, hout, hol, hall⟩ := hrel
    have HO := Lib.hid hout
    have HA := Lib.hid hall
    clear hout hall
    by_cases hlt : k < s.length
    · have hbk : bAt s k = (s[k].toNat : Int) := bAt_eq hlt
      have hsl : (s.take (k + 1)).drop k = [s[k]] := by
        rw [List.take_succ_eq_append_getElem hlt, List.drop_append]
        simp [Nat.le_of_lt hlt]
      have htk : 34 :: (s.take (k + 1)).flatMap escB = out ++ escB s[k] := by
        rw [List.take_succ_eq_append_getElem hlt, List.flatMap_append, HO.out]; simp
      have hany : (s.take (k + 1)).any ctlB = ctlB s[k] := by
        rw [List.take_succ_eq_append_getElem hlt, List.any_append, HA.out]; simp
      have hyes : ctlB s[k] = true → s.any ctlB = true := fun h => List.any_eq_true.2 ⟨_, List.getElem_mem hlt, h⟩
      obtain ⟨c, hc⟩ : ∃ c, s[k] = c := ⟨_, rfl⟩
      rw [hc] at hbk hsl htk hany hyes
      have C := fun W => CT.out c W
      obtain ⟨z, hz⟩ : ∃ z, ctlB c = z := ⟨_, rfl⟩
      rw [hz] at C hany hyes
      have C := Lib.hid C
      have HT := Lib.hid htk
      have HAN := Lib.hid hany
      have HY := Lib.hid hyes
      clear hc hz htk hany hyes
      cases z with
      | true =>
        go_wp2_with (go_at_call 13; refine (C.out _).mono ?_; rintro e w' ⟨rfl, hw'⟩; obtain rfl := hw'.symm)
        obtain ⟨rfl, rfl⟩ := QY.out (HY.out trivial)
        go_ret2
        exact ⟨rfl, rfl⟩
      | false =>
        by_cases h34 : c = 34
        · subst h34
          have hb : bAt s k = 34 := hbk
          clear hbk
          go_wp2_with (go_at_call 13; refine (C.out _).mono ?_; rintro e w' ⟨rfl, hw'⟩; obtain rfl := hw'.symm)
          go_round
          case rel => exact ⟨k + 1, out ++ [92, 34], by go_num, by omega, by simp, by rw [HT.out]; rfl, by simp; omega, HAN.out⟩
          case measure => simp [intOf]; omega
        · have hn34 : ((c.toNat : Int) == 34) = false := by
            simp only [beq_eq_false_iff_ne, ne_eq]; intro e; exact h34 (UInt8.toNat.inj (Int.ofNat.inj e))
          by_cases h92 : c = 92
          · subst h92
            have hb : bAt s k = 92 := hbk
            clear hbk
            go_wp2_with (go_at_call 13; refine (C.out _).mono ?_; rintro e w' ⟨rfl, hw'⟩; obtain rfl := hw'.symm)
            go_round
            case rel => exact ⟨k + 1, out ++ [92, 92], by go_num, by omega, by simp, by rw [HT.out]; rfl, by simp; omega, HAN.out⟩
            case measure => simp [intOf]; omega
          · have hn92 : ((c.toNat : Int) == 92) = false := by
              simp only [beq_eq_false_iff_ne, ne_eq]; intro e; exact h92 (UInt8.toNat.inj (Int.ofNat.inj e))
            have HE := Lib.hid (show escB c = [c] by unfold escB; rw [if_neg (by simp [h34, h92])])
            clear h34 h92
            go_wp2_with (go_at_call 13; refine (C.out _).mono ?_; rintro e w' ⟨rfl, hw'⟩; obtain rfl := hw'.symm)
            go_round
            case rel => exact ⟨k + 1, out ++ [c], by go_num, by omega, by simp, by rw [HT.out, HE.out], by simp; omega, HAN.out⟩
            case measure => simp [intOf]; omega
    · obtain rfl : k = s.length := by omega
      have h := HA.out
      rw [List.take_length] at h
      have h2 := HO.out
      rw [List.take_length] at h2
      have H := Lib.hid h
      have H2 := Lib.hid h2
      clear h h2
      go_wp2
      go_ret2
      obtain ⟨rfl, rfl⟩ := QN.out H.out
      exact ⟨by rw [H2.out]; simp [quoteT], rfl⟩

theorem conv_two (W : World) (bb : Nat) (c d : UInt8) (h : W.cell? ⟨bb, 0, none⟩ = some (.int .u8 (c.toNat : Int))) (h' : W.cell? ⟨bb, 1, none⟩ = some (.int .u8 (d.toNat : Int))) : (convert 30 9 (.slice (some ⟨bb, 0, none⟩) 2 2)).run Tryd.prog W = .ok (.string (S [c, d])) W :=
  run_convert_bytes_back (P := Tryd.prog) W 30 9 5 ⟨bb, 0, none⟩ 2 [c, d] Tryd.underlying30 Tryd.underlying5 Tryd.underlying9 (fun j hj => by
    match j, hj with
    | 0, _ => rw [Lib.add_plain]; simp [h]
    | 1, _ => rw [Lib.add_plain]; simp [h'])
set_option maxHeartbeats 3200000 in
set_option maxRecDepth 100000 in
theorem pairsCodes_any (sb : ByteArray) (w : World) (k1 : sb.size ≤ maxLen) (_hL : True) (hM : ∃ m, w.cell? ⟨0, 0, none⟩ = some (.int .i64 m)) :
    Calls Tryd.prog 4 #[.string sb] w fun e w' => e = .returned (.bool true) ∧ Below w.heap.size w w' := by
  obtain ⟨s0, rfl⟩ := S_of sb
  rw [S_size] at k1
  have hm : maxLen = 9223372036854775807 := rfl
  rw [hm] at k1
  clear hm
  have HM := Lib.hid (fun W hb => mlen_later hM W hb)
  obtain ⟨n, hn, hn1, hn2⟩ : ∃ n : Nat, min (s0.length : Int) 100 = n ∧ n ≤ s0.length ∧ n ≤ 100 := ⟨min s0.length 100, by omega, by omega, by omega⟩
  obtain ⟨s, hs⟩ : ∃ s, s0.take n = s := ⟨_, rfl⟩
  have hsl : s.length = n := by rw [← hs, List.length_take]; omega
  have hs2 : (s0.take n).drop 0 = s := hs
  have CT := Lib.hid (fun c W => refControl c W)
  have AL := Lib.hid (fun W h => pairs_alive W h)
  clear hM
  go_enter Tryd.func4, Tryd.ntmps4
  go_wp2_with fail
  simp only [mk_S]
  go_loopw [3, 4, 18] (fun qv pv iv wr => ∃ (k : Nat), iv = .int .i64 k ∧ k ≤ s.length ∧ qv = .string (S ([107, 61] ++ (s.take k).flatMap encB)) ∧ pv = .bool ((s.take k).all okB) ∧ Below w.heap.size w wr) (fun _ _ iv _ => s.length - (intOf iv).toNat)
  case atStart => exact ⟨0, rfl, Nat.zero_le _, rfl, rfl, by (repeat (first | (with_reducible exact Below.refl _ _) | (with_reducible assumption) | (with_reducible refine Below.drew ?_) | (focus ((with_reducible refine Below.setCell ?_ ?_ _); rotate_left; (first | omega | (simp <;> omega)))) | (focus ((with_reducible refine Below.alloc ?_ ?_ _); rotate_left; (first | omega | (simp <;> omega)))) | exact Below.refl _ _ | assumption | refine Below.drew ?_ | refine Below.alloc ?_ (by first | omega | (simp <;> omega)) _ | refine Below.setCell ?_ (by first | omega | (simp <;> omega)) _))⟩
  case round =>
    obtain ⟨k, rfl, hk, rfl, rfl, hB⟩ := hrel
    have HB := Lib.hid hB
    have hz := hB.size
    clear hB
    by_cases hlt : k < s.length
    · have hbk : bAt s k = (s[k].toNat : Int) := bAt_eq hlt
      have hel := enc_len (s.take k)
      rw [List.length_take] at hel
      have htk : [107, 61] ++ (s.take (k + 1)).flatMap encB = ([107, 61] ++ (s.take k).flatMap encB) ++ encB s[k] := by
        rw [List.take_succ_eq_append_getElem hlt, List.flatMap_append]; simp
      have hall : (s.take (k + 1)).all okB = ((s.take k).all okB && okB s[k]) := by
        rw [List.take_succ_eq_append_getElem hlt, List.all_append]; simp
      obtain ⟨c, hc⟩ : ∃ c, s[k] = c := ⟨_, rfl⟩
      rw [hc] at hbk htk hall
      have hcl : ((([107, 61] ++ (s.take k).flatMap encB : List UInt8)).length : Int) ≤ 400 := by
        rw [List.length_append, hel]; simp; omega
      obtain ⟨Q, hQ⟩ : ∃ Q, [107, 61] ++ (s.take k).flatMap encB = Q := ⟨_, rfl⟩
      rw [hQ] at htk hcl ⊢
      obtain ⟨P, hP⟩ : ∃ P, (s.take k).all okB = P := ⟨_, rfl⟩
      rw [hP] at hall ⊢
      have C := fun W => CT.out c W
      obtain ⟨z, hz2⟩ : ∃ z, ctlB c = z := ⟨_, rfl⟩
      rw [hz2] at C
      have C := Lib.hid C
      have hok : okB c = (c != 59 && !z) := by unfold okB; rw [hz2]
      rw [hok] at hall
      have henc : encB c = [37, HEXD.getD (c.toNat / 16) 0, hexd.getD (c.toNat % 16) 0] := rfl
      rw [henc] at htk
      have hc256 := c.toNat_lt
      have g1 : bAt HEXD (c.toNat / 16) = ((HEXD.getD (c.toNat / 16) 0).toNat : Int) := by
        rw [bAt_eq (show c.toNat / 16 < HEXD.length by show _ < 16; omega)]
        congr 2
        rw [List.getD_eq_getElem?_getD, List.getElem?_eq_getElem (show c.toNat / 16 < HEXD.length by show _ < 16; omega)]; rfl
      have g2 : bAt hexd (c.toNat % 16) = ((hexd.getD (c.toNat % 16) 0).toNat : Int) := by
        rw [bAt_eq (show c.toNat % 16 < hexd.length by show _ < 16; omega)]
        congr 2
        rw [List.getD_eq_getElem?_getD, List.getElem?_eq_getElem (show c.toNat % 16 < hexd.length by show _ < 16; omega)]; rfl
      obtain ⟨d1, hd1⟩ : ∃ d, HEXD.getD (c.toNat / 16) 0 = d := ⟨_, rfl⟩
      obtain ⟨d2, hd2⟩ : ∃ d, hexd.getD (c.toNat % 16) 0 = d := ⟨_, rfl⟩
      rw [hd1] at htk g1
      rw [hd2] at htk g2
      have HT := Lib.hid htk
      have HA := Lib.hid hall
      unfold HEXD at g1
      unfold hexd at g2
      clear htk hall hc hQ hP hz2 hok henc hd1 hd2 hel
      have hq : Int.tdiv (c.toNat : Int) 16 = ((c.toNat / 16 : Nat) : Int) := by rw [Int.tdiv_eq_ediv_of_nonneg (by omega)]; omega
      have hr : Int.tmod (c.toNat : Int) 16 = ((c.toNat % 16 : Nat) : Int) := by rw [Int.tmod_eq_emod_of_nonneg (by omega)]; omega
      obtain ⟨j1, hj1⟩ : ∃ j, c.toNat / 16 = j := ⟨_, rfl⟩
      obtain ⟨j2, hj2⟩ : ∃ j, c.toNat % 16 = j := ⟨_, rfl⟩
      have hj1l : j1 < 16 := by omega
      have hj2l : j2 < 16 := by omega
      have hj1i : (j1 : Int) < 16 := by omega
      have hj2i : (j2 : Int) < 16 := by omega
      rw [hj1] at g1 hq
      rw [hj2] at g2 hr
      have hw1 : IntKind.u8.wrap (j1 : Int) = (j1 : Int) := by (first | rw [IntKind.wrap_u8] | simp only [IntKind.wrap, IntKind.bits, IntKind.signed]) <;> (try simp) <;> omega
      have hw2 : IntKind.u8.wrap (j2 : Int) = (j2 : Int) := by (first | rw [IntKind.wrap_u8] | simp only [IntKind.wrap, IntKind.bits, IntKind.signed]) <;> (try simp) <;> omega
      have CV := fun W bb => conv_two W bb d1 d2
      have hkn : (k : Int) < (n : Int) := by omega
      have hkn2 : k < n := by omega
      clear hj1 hj2
      go_upto_region 7 with fail
      go_cut [3] (fun qv wx => qv = .string (S (Q ++ [37, d1, d2])) ∧ Below wr.heap.size wr wx)
      case first =>
        as_aux_lemma =>
          go_region
          all_goals (go_wp2_with fail; go_meet; exact ⟨by simp [go_sem, *], by (repeat (first | (with_reducible exact Below.refl _ _) | (with_reducible assumption) | (with_reducible refine Below.drew ?_) | (focus ((with_reducible refine Below.setCell ?_ ?_ _); rotate_left; (first | omega | (simp <;> omega)))) | (focus ((with_reducible refine Below.alloc ?_ ?_ _); rotate_left; (first | omega | (simp <;> omega)))) | exact Below.refl _ _ | assumption | refine Below.drew ?_ | refine Below.alloc ?_ (by first | omega | (simp <;> omega)) _ | refine Below.setCell ?_ (by first | omega | (simp <;> omega)) _))⟩)
      case rest =>
        obtain ⟨rfl, hbx⟩ := hcut
        obtain ⟨wx, hwx⟩ : ∃ x, x = wc := ⟨_, rfl⟩
        rw [← hwx] at hbx ⊢
        clear hwx
        have hzx := hbx.size
        have HBX := Lib.hid (HB.out.trans (hbx.mono hz))
        have hcase : P = false ∨ (P = true ∧ c = 59) ∨ (P = true ∧ c ≠ 59 ∧ z = true) ∨ (P = true ∧ c ≠ 59 ∧ z = false) := by
          cases P
          · exact .inl rfl
          · by_cases h : c = 59
            · exact .inr (.inl ⟨rfl, h⟩)
            · cases z
              · exact .inr (.inr (.inr ⟨rfl, h, rfl⟩))
              · exact .inr (.inr (.inl ⟨rfl, h, rfl⟩))
        rcases hcase with rfl | ⟨rfl, rfl⟩ | ⟨rfl, h59, rfl⟩ | ⟨rfl, h59, rfl⟩
        · have HA2 := Lib.hid (show (s.take (k + 1)).all okB = false by rw [HA.out]; rfl)
          go_wp2
          go_roundw
          case rel => exact ⟨k + 1, by go_num, by omega, by rw [HT.out], by rw [HA2.out], HBX.out⟩
          case measure => simp [intOf]; omega
        · have HA2 := Lib.hid (show (s.take (k + 1)).all okB = false by rw [HA.out]; rfl)
          go_wp2
          go_roundw
          case rel => exact ⟨k + 1, by go_num, by omega, by rw [HT.out], by rw [HA2.out], HBX.out⟩
          case measure => simp [intOf]; omega
        · have HA2 := Lib.hid (show (s.take (k + 1)).all okB = false by rw [HA.out]; simp)
          have hn59 : ((c.toNat : Int) != 59) = true := by
            simp only [bne_iff_ne, ne_eq]; intro e; exact h59 (UInt8.toNat.inj (Int.ofNat.inj e))
          clear h59
          go_wp2_with (go_at_call 13; refine (C.out _).mono ?_; rintro e w' ⟨rfl, hw'⟩; obtain rfl := hw'.symm)
          go_roundw
          case rel => exact ⟨k + 1, by go_num, by omega, by rw [HT.out], by rw [HA2.out], HBX.out⟩
          case measure => simp [intOf]; omega
        · have HA2 := Lib.hid (show (s.take (k + 1)).all okB = true by rw [HA.out]; simpa using h59)
          have hn59 : ((c.toNat : Int) != 59) = true := by
            simp only [bne_iff_ne, ne_eq]; intro e; exact h59 (UInt8.toNat.inj (Int.ofNat.inj e))
          clear h59
          go_wp2_with (go_at_call 13; refine (C.out _).mono ?_; rintro e w' ⟨rfl, hw'⟩; obtain rfl := hw'.symm)
          go_roundw
          case rel => exact ⟨k + 1, by go_num, by omega, by rw [HT.out], by rw [HA2.out], HBX.out⟩
          case measure => simp [intOf]; omega
    · obtain rfl : k = s.length := by omega
      rw [List.take_length]
      have hQ1 := query_codes s
      have hel := enc_len s
      have hql : ([107, 61] ++ s.flatMap encB : List UInt8).length ≤ 400 := by rw [List.length_append, hel]; simp; omega
      obtain ⟨Q, hQ⟩ : ∃ Q, [107, 61] ++ s.flatMap encB = Q := ⟨_, rfl⟩
      rw [hQ] at hQ1 hql ⊢
      have CQ := fun W h => pairsQuery Q (by omega) W h
      rw [hQ1] at CQ
      have CQ := Lib.hid CQ
      have CU := Lib.hid (fun W => refQuote s (by omega) W)
      have hqt := quote_len s
      have hany : s.any ctlB = true → s.all okB = false := fun h => by
        obtain ⟨c, hc, hc2⟩ := List.any_eq_true.1 h
        rw [List.all_eq_false]
        exact ⟨c, hc, by unfold okB; rw [hc2]; simp⟩
      have hcook := cookie_codes s
      obtain ⟨P, hP⟩ : ∃ P, s.all okB = P := ⟨_, rfl⟩
      rw [hP] at hany hcook ⊢
      obtain ⟨qt, hqt2⟩ : ∃ q, quoteT s = q := ⟨_, rfl⟩
      rw [hqt2] at CU hqt hcook
      obtain ⟨A, hA⟩ : ∃ A, s.any ctlB = A := ⟨_, rfl⟩
      rw [hA] at CU hany
      have HK := Lib.hid hcook
      have HAN := Lib.hid hany
      have hsn : ¬ ((s.length : Int) < n) := by omega
      have hsn2 : ¬ (s.length < n) := by omega
      clear hQ1 hel hQ hcook hP hqt2 hA hany
      go_wp2_with fail
      refine Calls.mono (CQ.out _ (HM.out _ HB.out)) ?_
      rintro e w1 ⟨v1, rfl, ho1, hb1⟩
      have hB1 := HB.out.trans (hb1.mono hz)
      have hz1 := hB1.size
      obtain ⟨ao, cap, rfl, hc1, hc2, _, hcell⟩ := ho1.reads
      have hm : maxLen = 9223372036854775807 := rfl
      rw [hm] at hc2
      obtain ⟨b, off, rfl, hb, hcl⟩ := hcell (by simp)
      obtain ⟨e1, e2⟩ := hcl 0 (by simp)
      simp only [List.getElem_cons_zero, Nat.zero_mul, Nat.add_zero, List.length_cons, List.length_nil, Nat.zero_add] at e1 e2 hc1 ⊢
      clear hcl hcell ho1 hm
      have hfb := far hb
      go_wp2_with fail
      refine Calls.mono (AL.out _ (HM.out _ (by first | exact hB1 | (repeat (first | (with_reducible exact Below.refl _ _) | (with_reducible assumption) | (with_reducible refine Below.drew ?_) | (focus ((with_reducible refine Below.setCell ?_ ?_ _); rotate_left; (first | omega | (simp <;> omega)))) | (focus ((with_reducible refine Below.alloc ?_ ?_ _); rotate_left; (first | omega | (simp <;> omega)))) | exact Below.refl _ _ | assumption | refine Below.drew ?_ | refine Below.alloc ?_ (by first | omega | (simp <;> omega)) _ | refine Below.setCell ?_ (by first | omega | (simp <;> omega)) _))))) ?_
      rintro e w2 ⟨rfl, hb2⟩
      have hB2 := hB1.trans (hb2.mono hz1)
      have hz2 := hB2.size
      go_wp2_with fail
      refine Calls.mono (CU.out _) ?_
      rintro e w' ⟨rfl, hw'⟩
      obtain rfl := hw'.symm
      cases A with
      | true =>
        simp only [if_true]
        go_wp2
        go_ret
        exact ⟨rfl, hB2⟩
      | false =>
        simp only [Bool.false_eq_true, if_false]
        cases P with
        | false =>
          go_wp2
          go_ret
          exact ⟨rfl, hB2⟩
        | true =>
          have CC := Lib.hid (fun (l : List UInt8) (hl : l = [32, 107, 61] ++ (qt ++ [32, 59])) W h => (show Calls Tryd.prog 12 #[.string (S l)] W (fun e w' => ∃ v, e = .returned v ∧ OwnsF w' W.heap.size v [([107], s)] ∧ Below W.heap.size W w') from by
            have := pairsCookies l (by rw [hl]; simp; omega) W h
            rw [hl, HK.out rfl] at this
            rw [hl]; exact this))
          go_wp2_with fail
          refine Calls.mono (CC.out _ (by simp) _ (HM.out _ hB2)) ?_
          rintro e w3 ⟨v3, rfl, ho3, hb3⟩
          have hB3 := hB2.trans (hb3.mono hz2)
          obtain ⟨ao, cap3, rfl, hc3, hc4, _, hcell⟩ := ho3.reads
          have hm : maxLen = 9223372036854775807 := rfl
          rw [hm] at hc4
          obtain ⟨b3, off3, rfl, hbb3, hcl⟩ := hcell (by simp)
          obtain ⟨e3, e4⟩ := hcl 0 (by simp)
          simp only [List.getElem_cons_zero, Nat.zero_mul, Nat.add_zero, List.length_cons, List.length_nil, Nat.zero_add] at e3 e4 hc3 ⊢
          clear hcl hcell ho3 hm
          go_wp2
          go_ret
          exact ⟨ret_bool (by simp), hB3⟩
end Go.Proofs.YtpapefegfghakaaDoor
