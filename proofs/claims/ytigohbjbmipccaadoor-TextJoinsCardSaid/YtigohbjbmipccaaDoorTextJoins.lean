/- The law TextJoins: its walk. -/
import Derived.Test.YtigohbjbmipccaaDoorTextSplits
import Derived.Test.YtigohbjbmipccaaDoorJoinMath
import Derived.Test.YtigohbjbmipccaaDoorFrame
namespace Go.Proofs.YtigohbjbmipccaaDoor
open Go.RowKit Go.Sort Go.Shelf
set_option linter.unusedVariables false

/-- A row of texts that came in. -/
theorem reads_in {w : World} {v : Value} {L : List (List Value)} (hv : RowsIn w 1 v L ∧ ∀ c ∈ L, AllSh [.str] c) : ∃ xs, Reads w v xs ∧ ∀ x ∈ xs, x.length ≤ 9223372036854775807 := by
  obtain ⟨hrow, hsh⟩ := hv
  obtain ⟨xs, rfl, hxs⟩ := decode (fun x : List UInt8 => [Value.string (S x)]) (R := fun x => x.length ≤ 9223372036854775807) (fun c h => by
    obtain ⟨_, _, rfl, ⟨s, rfl, hs⟩, rfl⟩ := h
    obtain ⟨l, rfl⟩ := S_of s
    exact ⟨l, rfl, by rw [S_size] at hs; exact hs⟩) L hsh
  obtain ⟨a, len, cap, rfl, hl, hm, hlen, _, hcell⟩ := hrow
  rw [List.length_map] at hlen
  subst hlen
  refine ⟨xs, ⟨a, cap, rfl, hl, hm, fun h0 => ?_⟩, hxs⟩
  obtain ⟨b, off, e1, e2, e3⟩ := hcell h0 (by omega)
  refine ⟨b, off, e1, e2, fun j hj => ?_⟩
  have := e3 j 0 hj (by omega)
  rw [Nat.mul_one, Nat.add_zero] at this
  rw [this]
  simp [List.getD, hj]

theorem split_join {c : UInt8} (h34 : c ≠ 34) (h92 : c ≠ 92) {ys : List (List UInt8)} (h0 : 0 < ys.length) (h : ∀ y ∈ ys, (34 : UInt8) ∉ y ∧ c ∉ y) : splitL c (joinB c ys) = some (ys.map trim) := by
  cases ys with
  | nil => simp at h0
  | cons x r =>
    unfold splitL
    rw [if_neg (by simp [h34, h92]), joinB, parts_join h34 r x [] h]
    rfl

set_option maxHeartbeats 3200000 in
set_option maxRecDepth 100000 in
theorem textJoins_any (v : Value) (L : List (List Value)) (b : Int) (w : World) (hv : RowsIn w 1 v L ∧ ∀ c ∈ L, AllSh [.str] c) (h1 : (Lit.int .u8 b).wf = true) (_hL : True) :
    Calls Tryd.prog 4 #[v, .int .u8 b] w fun e w' => e = .returned (.bool true) ∧ Below w.heap.size w w' := by
  obtain ⟨xs, ⟨ao, cap, rfl, hc1, hc2, hr⟩, hxl⟩ := reads_in hv
  obtain ⟨c, rfl⟩ := u8_nat h1
  have hm : maxLen = 9223372036854775807 := rfl
  rw [hm] at hc2
  clear hv h1 hm
  have V1 := Lib.hid (via_of (w := w) fun W => alive W)
  have hb := Below.refl w.heap.size w
  obtain ⟨n, hn, hn12, hnl⟩ : ∃ n : Nat, min (xs.length : Int) 12 = n ∧ n ≤ 12 ∧ n ≤ xs.length := ⟨min xs.length 12, by omega, by omega, by omega⟩
  have hn0 : xs.length ≠ 0 → 0 < n := by omega
  have HR := Lib.hid hr
  have HXL := Lib.hid hxl
  have t34 : (34 : UInt8).toNat = 34 := rfl
  have HB := Lib.hid (show ∀ d : UInt8, (d = c ↔ (d.toNat : Int) = (c.toNat : Int)) from fun d => ⟨fun e => by rw [e], fun e => UInt8.toNat.inj (by omega)⟩)
  have hc256 := c.toNat_lt
  by_cases hq : c = 34 ∨ c = 92 ∨ c = 32 ∨ c = 9
  · clear hr hxl t34
    rcases hq with rfl | rfl | rfl | rfl
    · go_enter Tryd.func4, Tryd.ntmps4
      go_wp2_with (go_at_call 12; refine (V1.out _ (by assumption)).mono ?_; rintro e w' ⟨rfl, hb⟩)
      go_ret
      exact ⟨rfl, by assumption⟩
    · go_enter Tryd.func4, Tryd.ntmps4
      go_wp2_with (go_at_call 12; refine (V1.out _ (by assumption)).mono ?_; rintro e w' ⟨rfl, hb⟩)
      go_ret
      exact ⟨rfl, by assumption⟩
    · go_enter Tryd.func4, Tryd.ntmps4
      go_wp2_with (go_at_call 12; refine (V1.out _ (by assumption)).mono ?_; rintro e w' ⟨rfl, hb⟩)
      go_ret
      exact ⟨rfl, by assumption⟩
    · go_enter Tryd.func4, Tryd.ntmps4
      go_wp2_with (go_at_call 12; refine (V1.out _ (by assumption)).mono ?_; rintro e w' ⟨rfl, hb⟩)
      go_ret
      exact ⟨rfl, by assumption⟩
  · have hne : c ≠ 34 ∧ c ≠ 92 ∧ c ≠ 32 ∧ c ≠ 9 := ⟨fun e => hq (.inl e), fun e => hq (.inr (.inl e)), fun e => hq (.inr (.inr (.inl e))), fun e => hq (.inr (.inr (.inr e)))⟩
    obtain ⟨g34, g92, g32, g9⟩ := hne
    have t92 : (92 : UInt8).toNat = 92 := rfl
    have t32 : (32 : UInt8).toNat = 32 := rfl
    have t9 : (9 : UInt8).toNat = 9 := rfl
    have n34 : ((c.toNat : Int) == 34) = false := by simp only [beq_eq_false_iff_ne, ne_eq]; exact fun e => g34 (UInt8.toNat.inj (by omega))
    have n92 : ((c.toNat : Int) == 92) = false := by simp only [beq_eq_false_iff_ne, ne_eq]; exact fun e => g92 (UInt8.toNat.inj (by omega))
    have n32 : ((c.toNat : Int) == 32) = false := by simp only [beq_eq_false_iff_ne, ne_eq]; exact fun e => g32 (UInt8.toNat.inj (by omega))
    have n9 : ((c.toNat : Int) == 9) = false := by simp only [beq_eq_false_iff_ne, ne_eq]; exact fun e => g9 (UInt8.toNat.inj (by omega))
    clear hq t34 t92 t32 t9 hr hxl g92 g32 g9
    have hcv := fun W bb => conv_one W bb c
    obtain ⟨ci, hci⟩ : ∃ ci : Int, (c.toNat : Int) = ci := ⟨_, rfl⟩
    have hci0 : 0 ≤ ci := by omega
    have hci1 : ci < 256 := by omega
    have HCI := Lib.hid hci
    rw [hci] at n34 n92 n32 n9 HB hcv ⊢
    clear hci hc256
    by_cases h0 : xs.length = 0
    · obtain rfl : xs = [] := List.length_eq_zero_iff.1 h0
      obtain rfl : n = 0 := by simp at hnl; omega
      clear hn0 hnl hn12 h0
      go_enter Tryd.func4, Tryd.ntmps4
      go_wp2_with (go_at_call 12; refine (V1.out _ (by assumption)).mono ?_; rintro e w' ⟨rfl, hb⟩)
      go_ret
      exact ⟨rfl, by assumption⟩
    · have hnp := hn0 h0
      have hnz : ((n : Int) == 0) = false := by simp; omega
      obtain ⟨ys, hys, hyl⟩ : ∃ ys, (xs.take n).map (cleanOf c) = ys ∧ ys.length = n := ⟨_, rfl, by simp; omega⟩
      have HY := Lib.hid (show ∀ k (h : k < n) (h' : k < xs.length) (h'' : k < ys.length), ys[k] = cleanOf c xs[k] from fun k h h' h'' => by subst hys; simp)
      have HSP := Lib.hid (show (splitL c (joinB c ys)).getD [] = ys.map trim ∧ errOf (splitL c (joinB c ys)) = 0 from by
        rw [split_join g34 (fun e => by subst e; simp [← HCI.out] at n92) (by omega) (fun y hy => by
          rw [← hys] at hy
          obtain ⟨z, _, rfl⟩ := List.mem_map.1 hy
          exact cleanOf_no c z)]
        exact ⟨rfl, rfl⟩)
      clear hys
      go_enter Tryd.func4, Tryd.ntmps4
      go_wp2
      simp only [mk_S]
      go_loopw [5, 6, 40] (fun av wv kv wr => ∃ k : Nat, kv = .int .i64 k ∧ k ≤ n ∧ (∃ al, av = .string (S al) ∧ al = joinB c (ys.take k) ∧ al.length ≤ 41 * k) ∧ Owns wr w.heap.size wv ((ys.take k).map trim) ∧ Below w.heap.size w wr) (fun _ _ kv _ => n - (intOf kv).toNat)
      case atStart => exact ⟨0, rfl, Nat.zero_le _, ⟨[], rfl, rfl, Nat.le_refl _⟩, Owns.nil _ _, by (repeat (first | exact Below.refl _ _ | assumption | refine Below.drew ?_ | refine Below.alloc ?_ (by first | omega | (simp <;> omega)) _ | refine Below.setCell ?_ (by first | omega | (simp <;> omega)) _))⟩
      case round =>
        obtain ⟨k, rfl, hk, ⟨al, rfl, hal, hall⟩, hown, hB⟩ := hrel
        have HO := Lib.hid hown
        have HAL := Lib.hid hal
        have hz := hB.size
        clear hown hal
        by_cases hlt : k < n
        · have hkx : k < xs.length := by omega
          have hky : k < ys.length := by omega
          obtain ⟨bb, off, rfl, hbb, hcell⟩ := HR.out (by omega)
          have e1 := hcell k hkx
          rw [← hB.cell (p := ⟨bb, off + k, none⟩) hbb] at e1
          have hxk := HXL.out _ (List.getElem_mem hkx)
          have hyk := HY.out k hlt hkx hky
          have HJ := Lib.hid (joinB_next c ys k hky)
          have HT := Lib.hid (show (ys.take (k + 1)).map trim = (ys.take k).map trim ++ [trim ys[k]] from by rw [List.take_succ_eq_append_getElem hky, List.map_append]; rfl)
          obtain ⟨x, hx⟩ : ∃ x, xs[k] = x := ⟨_, rfl⟩
          obtain ⟨y, hy⟩ : ∃ y, ys[k] = y := ⟨_, rfl⟩
          rw [hx] at e1 hxk hyk
          rw [hy] at hyk HJ HT
          obtain ⟨m, hm, hm1, hm2, hm3⟩ : ∃ m : Nat, min (x.length : Int) 40 = m ∧ m ≤ 40 ∧ m ≤ x.length ∧ min x.length 40 = m := ⟨min x.length 40, by omega, by omega, by omega, rfl⟩
          have HYK := Lib.hid (show cleanTo c x m = y by rw [cleanTo_end hm3, hyk])
          clear hcell hx hy hyk hm3
          go_wp2
          try simp only [mk_S]
          go_loop [9, 48] (fun cv jv => ∃ j : Nat, jv = .int .i64 j ∧ j ≤ m ∧ cv = .string (S (cleanTo c x j))) (fun _ jv => m - (intOf jv).toNat)
          case atStart => exact ⟨0, rfl, Nat.zero_le _, by simp [cleanTo]⟩
          case round =>
            obtain ⟨j, rfl, hj, rfl⟩ := hrel
            have hcl := cleanTo_len c x j
            by_cases hjm : j < m
            · have hjx : j < x.length := by omega
              obtain ⟨a1, a2⟩ := bAt_of hjx (n := 34) 34 rfl
              obtain ⟨b1, b2⟩ := bAt_of hjx (n := ci) c HCI.out
              by_cases d1 : x[j] = c
              · have f1 := b1 d1
                have HN := Lib.hid (cleanTo_no hjx (.inl d1))
                clear a1 a2 b1 b2 d1
                go_wp2
                go_round
                case rel => exact ⟨j + 1, by go_num, by omega, by rw [HN.out]⟩
                case measure => simp [intOf]; omega
              · obtain ⟨f1, f2⟩ := b2 d1
                have f1' : (bAt x j != ci) = true := by simp [bne, f1]
                by_cases d2 : x[j] = 34
                · have f3 := a1 d2
                  have HN := Lib.hid (cleanTo_no hjx (.inr d2) (b := c))
                  clear a1 a2 b1 b2 d1 d2
                  go_wp2
                  go_round
                  case rel => exact ⟨j + 1, by go_num, by omega, by rw [HN.out]⟩
                  case measure => simp [intOf]; omega
                · obtain ⟨f3, f4⟩ := a2 d2
                  have f3' : (bAt x j != 34) = true := by simp [bne, f3]
                  have HN := Lib.hid (cleanTo_yes hjx d1 d2)
                  clear a1 a2 b1 b2 d1 d2
                  go_wp2
                  go_round
                  case rel => exact ⟨j + 1, by go_num, by omega, by rw [HN.out]⟩
                  case measure => simp [intOf]; omega
            · obtain rfl : j = m := by omega
              rw [HYK.out] at hcl ⊢
              have HTR := Lib.hid (fun W => refTrim y (by omega) W)
              rcases Nat.eq_zero_or_pos k with rfl | hk0
              · go_wp2_with (first
                  | (go_at_call 14; refine (HTR.out _).mono ?_; rintro e w1 ⟨rfl, rfl⟩)
                  | (at_builtin; refine wp_append_text rfl _ _ rfl _ w.heap.size _ _ (trim y) HO.out rfl rfl (by (first | omega | (simp <;> omega))) (by omega) ?_; intro v' w2 hown2 hb2; have HO2 := Lib.hid hown2; clear hown2))
                go_roundw
                case rel => exact ⟨1, by go_num, by omega, ⟨al ++ y, by simp, by rw [HJ.out, HAL.out]; simp, by have := hall; simp; omega⟩, by rw [HT.out]; exact HO2.out, hB.trans hb2⟩
                case measure => simp [intOf]; omega
              · go_wp2_with (first
                  | (go_at_call 14; refine (HTR.out _).mono ?_; rintro e w1 ⟨rfl, rfl⟩)
                  | (at_builtin; refine wp_append_text' rfl _ _ rfl _ w.heap.size _ _ (trim y) (Owns.below HO.out (by (repeat (first | exact Below.refl _ _ | assumption | refine Below.drew ?_ | refine Below.alloc ?_ (by first | omega | (simp <;> omega)) _ | refine Below.setCell ?_ (by first | omega | (simp <;> omega)) _)))) rfl _ rfl (by simp) (by (first | omega | (simp <;> omega))) (by (first | omega | (simp <;> omega))) ?_; intro v' w2 hown2 hb2; have HO2 := Lib.hid hown2; clear hown2))
                go_roundw
                case rel => exact ⟨k + 1, by go_num, by omega, ⟨al ++ c :: y, by simp, by rw [HJ.out, if_pos hk0, HAL.out]; simp, by simp; omega⟩, by rw [HT.out]; exact HO2.out, Below.trans (by (repeat (first | exact Below.refl _ _ | assumption | refine Below.drew ?_ | refine Below.alloc ?_ (by first | omega | (simp <;> omega)) _ | refine Below.setCell ?_ (by first | omega | (simp <;> omega)) _))) hb2⟩
                case measure => simp [intOf]; omega
        · obtain rfl : k = n := by omega
          have hty : ys.take k = ys := List.take_of_length_le (by omega)
          rw [hty] at HAL HO
          have C6 := fun W => textSplit_to (l := joinB c ys) (b := c) (by rw [← HAL.out]; omega) HSP.out.1 HSP.out.2 W
          rw [← HAL.out, HCI.out] at C6
          go_wp2_with fail
          refine (C6 _).mono ?_
          rintro e w1 ⟨v1, hown1, rfl, hb1⟩
          have R1 := hown1.reads
          have R2 := (Owns.below HO.out hb1).reads
          have hb2 := hB.trans (hb1.mono hz)
          clear C6 hown1
          go_wp2_with fail
          refine (alive _).mono ?_
          rintro e w3 ⟨rfl, hb3⟩
          have C4 := refSame v1 _ _ _ w3 (R1.below hb3) (R2.below hb3)
          have hLL : (ys.map trim == ys.map trim) = true := by simp
          rw [hLL] at C4
          go_wp2_with fail
          refine C4.mono ?_
          rintro e w4 ⟨rfl, hb4⟩
          have hb' := (hb2.trans (hb3.mono hb2.size)).trans (hb4.mono (Nat.le_trans hb2.size hb3.size))
          go_wp2
          go_ret
          exact ⟨rfl, hb'⟩
end Go.Proofs.YtigohbjbmipccaaDoor
