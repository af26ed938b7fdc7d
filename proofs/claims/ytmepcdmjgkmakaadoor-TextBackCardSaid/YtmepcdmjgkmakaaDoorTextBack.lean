/- The law TextBack: its walk. -/
import Derived.Test.YtmepcdmjgkmakaaDoorQuoAll
import Derived.Test.YtmepcdmjgkmakaaDoorTextLaw2
import Derived.Test.YtmepcdmjgkmakaaDoorQuoSplit
import Derived.Test.YtmepcdmjgkmakaaDoorRefCtl
import Derived.Test.YtmepcdmjgkmakaaDoorFrame
namespace Go.Proofs.YtmepcdmjgkmakaaDoor
open Go.RowKit Go.Sort Go.Shelf
set_option linter.unusedVariables false

theorem u8_nat {n : Int} (h : (Lit.int .u8 n).wf = true) : ∃ m : UInt8, n = (m.toNat : Int) := by
  have : 0 ≤ n ∧ n ≤ 255 := by simpa [Lit.wf, show IntKind.u8.min = 0 from rfl, show IntKind.u8.max = 255 from rfl] using h
  exact ⟨UInt8.ofNat n.toNat, by simp; omega⟩
set_option maxHeartbeats 1600000 in
set_option maxRecDepth 100000 in
theorem textBack_bad (l x : List UInt8) (h0 : l.length ≤ 9223372036854775807) (hx : l.take 400 = x) (hxl : x.length ≤ 400) (ha : x.any ctlB = true) (z : Int) (w : World) :
    Calls Tryd.prog 3 #[.string (S l), .int .u8 z] w fun e w' => e = .returned (.bool true) ∧ Below w.heap.size w w' := by
  have C1 := Lib.hid (fun W => short l h0 W)
  rw [hx] at C1
  have AL := Lib.hid (fun W => alive W)
  have QA := Lib.hid (fun W => textQuote x (by omega) W)
  rw [ha, if_pos rfl, if_pos rfl] at QA
  have CT := Lib.hid (fun c W => refControl c W)
  have HA := Lib.hid ha
  have hxi : (x.length : Int) ≤ 400 := by omega
  clear hx ha
  go_enter Tryd.func3, Tryd.ntmps3
  go_wp2_with (first
    | (go_at_call 4; refine Calls.mono (C1.out _) ?_; rintro e w' ⟨rfl, hw'⟩; obtain rfl := hw'.symm)
    | (go_at_call 5; refine Calls.mono (QA.out _) ?_; rintro e w1 ⟨rfl, hb1⟩; have HB1 := Lib.hid hb1; clear hb1)
    | fail)
  go_loop [7, 24] (fun bv iv => ∃ k : Nat, iv = .int .i64 k ∧ k ≤ x.length ∧ bv = .bool ((x.take k).any ctlB)) (fun _ iv => x.length - (intOf iv).toNat)
  case atStart => exact ⟨0, rfl, Nat.zero_le _, rfl⟩
  case round =>
    obtain ⟨k, rfl, hk, rfl⟩ := hrel
    by_cases hlt : k < x.length
    · have hbk : bAt x k = (x[k].toNat : Int) := bAt_eq hlt
      have htk : (x.take (k + 1)).any ctlB = ((x.take k).any ctlB || ctlB x[k]) := by
        rw [List.take_succ_eq_append_getElem hlt, List.any_append]; simp
      obtain ⟨B, hB⟩ : ∃ B, (x.take k).any ctlB = B := ⟨_, rfl⟩
      obtain ⟨c, hc⟩ : ∃ c, x[k] = c := ⟨_, rfl⟩
      rw [hB] at htk ⊢
      rw [hc] at hbk htk
      have CC := fun W => CT.out c W
      obtain ⟨d, hd⟩ : ∃ d, ctlB c = d := ⟨_, rfl⟩
      rw [hd] at htk CC
      have CC := Lib.hid CC
      have HT := Lib.hid htk
      clear hB hc hd htk
      cases B with
      | true =>
        go_wp2
        go_round
        case rel => exact ⟨k + 1, by go_num, by omega, by rw [HT.out]; rfl⟩
        case measure => simp [intOf]; omega
      | false =>
        go_wp2_with (go_at_call 6; refine (CC.out _).mono ?_; rintro e w' ⟨rfl, hw'⟩; obtain rfl := hw'.symm)
        go_round
        case rel => exact ⟨k + 1, by go_num, by omega, by rw [HT.out]; simp⟩
        case measure => simp [intOf]; omega
    · obtain rfl : k = x.length := by omega
      rw [List.take_length, HA.out]
      go_wp2_with (go_at_call 7; refine Calls.mono (AL.out _) ?_; rintro e w3 ⟨rfl, hb3⟩; have HB3 := Lib.hid (HB1.out.trans (hb3.mono HB1.out.size)); clear hb3)
      go_ret
      exact ⟨ret_bool (by simp), HB3.out⟩

set_option maxHeartbeats 1600000 in
set_option maxRecDepth 100000 in
theorem textBack_ok (l x : List UInt8) (h0 : l.length ≤ 9223372036854775807) (hx : l.take 400 = x) (hxl : x.length ≤ 400) (ha : x.any ctlB = false) (c : UInt8) (w : World) :
    Calls Tryd.prog 3 #[.string (S l), .int .u8 (c.toNat : Int)] w fun e w' => e = .returned (.bool true) ∧ Below w.heap.size w w' := by
  have C1 := Lib.hid (fun W => short l h0 W)
  rw [hx] at C1
  have AL := Lib.hid (fun W => alive W)
  have QA := Lib.hid (fun W => textQuote x (by omega) W)
  rw [ha, if_neg (by simp), if_neg (by simp)] at QA
  have hql : (quoteT x).length ≤ 2000 := by
    unfold quoteT
    have := esc_len x
    have := cntE_le x
    simp only [List.length_cons, List.length_append, List.length_nil]
    omega
  have UA := Lib.hid (fun W => textUnquote (quoteT x) (by omega) W)
  have hu := unq_quote ha
  rw [show unqL (quoteT x) = x by unfold unqL; rw [hu]; rfl, show unqE (quoteT x) = 0 by unfold unqE; rw [hu]; rfl] at UA
  have SP := Lib.hid (fun W => textSplit (quoteT x) c (by omega) W)
  unfold SplitTo at SP
  have hsq : splitL c (quoteT x) = if c = 34 ∨ c = 92 then none else some [quoteT x] := by
    by_cases h : c = 34 ∨ c = 92
    · rw [if_pos h]; unfold splitL; rw [if_pos h]
    · rw [if_neg h]; exact split_quoted h x
  rw [hsq] at SP
  obtain ⟨q, hq⟩ : ∃ q, quoteT x = q := ⟨_, rfl⟩
  rw [hq] at QA UA SP hql
  clear hx ha hu hsq hq
  by_cases hc : c = 34 ∨ c = 92
  · rw [if_pos hc] at SP
    have hcase : ((c.toNat : Int) == 34) = true ∨ (((c.toNat : Int) == 34) = false ∧ ((c.toNat : Int) == 92) = true) := by
      rcases hc with rfl | rfl
      · left; rfl
      · right; exact ⟨rfl, rfl⟩
    obtain ⟨z, hz⟩ : ∃ z : Int, (c.toNat : Int) = z := ⟨_, rfl⟩
    rw [hz] at SP hcase ⊢
    clear hz hc
    go_enter Tryd.func3, Tryd.ntmps3
    rcases hcase with h34 | ⟨h34, h92⟩
    all_goals
      go_wp2_with (first
        | (go_at_call 4; refine Calls.mono (C1.out _) ?_; rintro e w' ⟨rfl, hw'⟩; obtain rfl := hw'.symm)
        | (go_at_call 5; refine Calls.mono (QA.out _) ?_; rintro e w1 ⟨rfl, hb1⟩; have HB1 := Lib.hid hb1; clear hb1)
        | (go_at_call 8; refine Calls.mono (UA.out _) ?_; rintro e w2 ⟨rfl, hb2⟩; have HB2 := Lib.hid (HB1.out.trans (hb2.mono HB1.out.size)); clear hb2)
        | (go_at_call 9; refine Calls.mono (SP.out _) ?_; rintro e w3 ⟨v3, ho3, rfl, hb3⟩; have HB3 := Lib.hid (HB2.out.trans (hb3.mono HB2.out.size)); clear hb3 ho3; simp only [errOf])
        | (go_at_call 7; refine Calls.mono (AL.out _) ?_; rintro e w4 ⟨rfl, hb4⟩; have HB4 := Lib.hid (HB3.out.trans (hb4.mono HB3.out.size)); clear hb4)
        | fail)
      go_ret
      exact ⟨ret_bool (by simp), HB4.out⟩
  · rw [if_neg hc] at SP
    have h34 : ((c.toNat : Int) == 34) = false := by
      simp only [beq_eq_false_iff_ne, ne_eq]
      intro e
      exact hc (.inl (UInt8.toNat.inj (by have : (34 : UInt8).toNat = 34 := rfl; omega)))
    have h92 : ((c.toNat : Int) == 92) = false := by
      simp only [beq_eq_false_iff_ne, ne_eq]
      intro e
      exact hc (.inr (UInt8.toNat.inj (by have : (92 : UInt8).toNat = 92 := rfl; omega)))
    obtain ⟨z, hz⟩ : ∃ z : Int, (c.toNat : Int) = z := ⟨_, rfl⟩
    rw [hz] at SP h34 h92 ⊢
    clear hz hc
    go_enter Tryd.func3, Tryd.ntmps3
    go_wp2_with (first
      | (go_at_call 4; refine Calls.mono (C1.out _) ?_; rintro e w' ⟨rfl, hw'⟩; obtain rfl := hw'.symm)
      | (go_at_call 5; refine Calls.mono (QA.out _) ?_; rintro e w1 ⟨rfl, hb1⟩; have HB1 := Lib.hid hb1; clear hb1)
      | (go_at_call 8; refine Calls.mono (UA.out _) ?_; rintro e w2 ⟨rfl, hb2⟩; have HB2 := Lib.hid (HB1.out.trans (hb2.mono HB1.out.size)); clear hb2)
      | (go_at_call 9; refine Calls.mono (SP.out _) ?_; rintro e w3 ⟨v3, ho3, rfl, hb3⟩; have HB3 := Lib.hid (HB2.out.trans (hb3.mono HB2.out.size)); obtain ⟨g, cap, rfl, hc1, hc2, hg, hcl⟩ := ho3.at 0 (by simp); have e0 := hcl 0 (by simp); simp only [Option.getD_some, List.getElem_cons_zero, List.length_cons, List.length_nil] at e0 hc1 ⊢; have HE0 := Lib.hid e0; clear hb3 ho3 hcl e0; simp only [errOf])
      | (go_at_call 7; refine Calls.mono (AL.out _) ?_; rintro e w4 ⟨rfl, hb4⟩; have HB4 := Lib.hid (HB3.out.trans (hb4.mono HB3.out.size)); have e4 := (hb4.cell (p := ⟨g, 0, none⟩) hg).trans HE0.out; clear hb4)
      | fail)
    go_ret
    exact ⟨ret_bool (by simp), HB4.out⟩

theorem textBack_any (s : ByteArray) (b : Int) (w : World) (h0 : s.size ≤ maxLen) (h1 : (Lit.int .u8 b).wf = true) (_hL : True) :
    Calls Tryd.prog 3 #[.string s, .int .u8 b] w fun e w' => e = .returned (.bool true) ∧ Below w.heap.size w w' := by
  obtain ⟨l, rfl⟩ := S_of s
  rw [S_size] at h0
  obtain ⟨c, rfl⟩ := u8_nat h1
  cases ha : (l.take 400).any ctlB with
  | true => exact textBack_bad l _ h0 rfl (by simp; omega) ha _ w
  | false => exact textBack_ok l _ h0 rfl (by simp; omega) ha c w
end Go.Proofs.YtmepcdmjgkmakaaDoor
