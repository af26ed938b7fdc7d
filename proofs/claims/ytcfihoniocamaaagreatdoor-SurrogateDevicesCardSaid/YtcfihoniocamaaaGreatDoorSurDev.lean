/- The law SurrogateDevices: its walk. -/
import Derived.Test.YtcfihoniocamaaaGreatDoorSurWriteAll
import Derived.Test.YtcfihoniocamaaaGreatDoorQuoAll
namespace Go.Proofs.YtcfihoniocamaaaGreatDoor
open Go.RowKit Go.Sort Go.Shelf
set_option linter.unusedVariables false
set_option linter.unusedSimpArgs false

theorem split_comma {b : UInt8} (h1 : b ≠ 34) (h2 : b ≠ 92) {s t : List UInt8} {xs : List (List UInt8)} (h : splitL b s = some xs) : splitL b (s ++ b :: t) = (splitL b t).map (xs ++ ·) := by
  unfold splitL at *
  rw [if_neg (by simp [h1, h2])] at h ⊢
  rw [if_neg (by simp [h1, h2])]
  obtain ⟨ps, hp, rfl⟩ := Option.map_eq_some_iff.1 h
  rw [parts_two h1 t _ false [] s ps rfl hp]
  cases parts b false [] t with
  | none => rfl
  | some q => simp
theorem read_comma {s : List UInt8} {x : List Wrd} (h1 : readL s = some x) {w : Wrd} (h : MayW w) : readL (s ++ 44 :: 32 :: writeL w) = some (x ++ [(lower w.1, w.2.1, w.2.2)]) := by
  have h2 := read_one h
  unfold readL at h1 h2 ⊢
  cases hs : splitL 44 s with
  | none => rw [hs] at h1; cases h1
  | some xs =>
    rw [hs] at h1
    rw [split_comma (by decide) (by decide) hs, split_lead (by decide), write_whole h]
    rw [write_whole h] at h2
    simp only [Option.map_some] at h1 h2 ⊢
    rw [readParts_append, h1, h2]
    rfl
theorem lower_content : lower contentL = contentL := by decide
theorem asks_comma {s v o d : List UInt8} {x : List Wrd} (h1 : readL s = some x) (h : MayW (contentL, v, o)) (h2 : o ≠ []) (h3 : o ≠ d) : asksL (s ++ 44 :: 32 :: writeL (contentL, v, o)) d = asksL s d := by
  unfold asksL
  rw [read_comma h1 h, h1]
  simp only
  refine ask_other _ _ _ ?_ ?_
  · unfold isFor
    simp [h3]
  · unfold isFor
    simp [h2]
def esiQ : List UInt8 := [61, 34, 69, 83, 73, 47, 49, 46, 48, 34]

set_option maxHeartbeats 1600000 in
set_option maxRecDepth 100000 in
theorem surCan_bad (s d : List UInt8) (hs : s.length ≤ 1000000) (hd : d.length ≤ 1000000) (ht : tokenL d = false) (w : World) :
    Calls Tryz.prog 21 #[.string (S s), .string (S d)] w fun e w' => e = .returned (.tuple #[.string (S []), .int .i64 11]) ∧ Below w.heap.size w w' := by
  have TK := Lib.hid (fun W => textToken d (by omega) W)
  rw [ht] at TK
  clear ht
  go_enter Tryz.func21, Tryz.ntmps21
  go_wp2_with (first
    | (go_at_call 42; refine Calls.mono (TK.out _) ?_; rintro e w1 ⟨rfl, hb1⟩; have HB1 := Lib.hid hb1; clear hb1)
    | fail)
  go_ret2
  exact ⟨rfl, HB1.out⟩
set_option maxHeartbeats 1600000 in
set_option maxRecDepth 100000 in
theorem surCan_ok (s d : List UInt8) (hs : s.length ≤ 1000000) (hd : d.length ≤ 1000000) (ht : tokenL d = true) (w : World) (hM : ∃ m, w.cell? ⟨0, 0, none⟩ = some (.int .i64 m)) :
    Calls Tryz.prog 21 #[.string (S s), .string (S d)] w fun e w' => e = .returned (.tuple #[.string (S ((if (trim s).isEmpty = true then [] else trim s ++ [44, 32]) ++ (d ++ esiQ))), .int .i64 0]) ∧ Below w.heap.size w w' := by
  have TK := Lib.hid (fun W => textToken d (by omega) W)
  rw [ht] at TK
  have QU := Lib.hid (fun W h => textQuote esiL (by decide) W h)
  rw [show (if esiL.any ctlB = true then ([] : List UInt8) else quoteT esiL) = [34, 69, 83, 73, 47, 49, 46, 48, 34] by decide, show (if esiL.any ctlB = true then (11 : Int) else 0) = 0 by decide] at QU
  unfold esiL at QU
  have TR := Lib.hid (fun W => textTrim s (by omega) W)
  have htl := trim_short s
  have HM := Lib.hid (mlen_later hM)
  have hdi : (d.length : Int) ≤ 1000000 := by omega
  obtain ⟨t, htt⟩ : ∃ t, trim s = t := ⟨_, rfl⟩
  rw [htt] at TR htl ⊢
  have hti : (t.length : Int) ≤ 1000000 := by omega
  unfold esiQ
  clear ht htt hM
  cases he : t.isEmpty with
  | true =>
    obtain rfl : t = [] := List.isEmpty_iff.1 he
    rw [if_pos rfl]
    go_enter Tryz.func21, Tryz.ntmps21
    go_wp2_with (first
      | (go_at_call 42; refine Calls.mono (TK.out _) ?_; rintro e w1 ⟨rfl, hb1⟩; have HB1 := Lib.hid hb1; clear hb1)
      | (go_at_call 43; refine Calls.mono (QU.out _ (HM.out _ HB1.out)) ?_; rintro e w2 ⟨rfl, hb2⟩; have HB2 := Lib.hid (HB1.out.trans (hb2.mono HB1.out.size)); clear hb2)
      | (go_at_call 44; refine Calls.mono (TR.out _) ?_; rintro e w3 ⟨rfl, hb3⟩; have HB3 := Lib.hid (HB2.out.trans (hb3.mono HB2.out.size)); clear hb3)
      | fail)
    go_ret2
    exact ⟨by simp, HB3.out⟩
  | false =>
    rw [if_neg (by simp)]
    go_enter Tryz.func21, Tryz.ntmps21
    go_wp2_with (first
      | (go_at_call 42; refine Calls.mono (TK.out _) ?_; rintro e w1 ⟨rfl, hb1⟩; have HB1 := Lib.hid hb1; clear hb1)
      | (go_at_call 43; refine Calls.mono (QU.out _ (HM.out _ HB1.out)) ?_; rintro e w2 ⟨rfl, hb2⟩; have HB2 := Lib.hid (HB1.out.trans (hb2.mono HB1.out.size)); clear hb2)
      | (go_at_call 44; refine Calls.mono (TR.out _) ?_; rintro e w3 ⟨rfl, hb3⟩; have HB3 := Lib.hid (HB2.out.trans (hb3.mono HB2.out.size)); clear hb3)
      | fail)
    go_ret2
    exact ⟨by simp, HB3.out⟩
theorem surRead_e (s : List UInt8) (hs : s.length ≤ 100000) (z : Int) (hz : readE s = z) (W : World) :
    Calls Tryz.prog 26 #[.string (S s)] W fun e w' => ∃ v, e = .returned (.tuple #[v, .int .i64 z]) ∧ Below W.heap.size W w' :=
  (surRead s hs W).mono fun e w' ⟨v, h1, _, h2⟩ => ⟨v, by rw [← hz]; exact h1, h2⟩

set_option maxHeartbeats 3200000 in
set_option maxRecDepth 100000 in
theorem surDev_any (a0 a1 a2 a3 : ByteArray) (w : World) (h0 : a0.size ≤ maxLen) (h1 : a1.size ≤ maxLen) (h2 : a2.size ≤ maxLen) (h3 : a3.size ≤ maxLen) (_hL : True) (hM : ∃ m, w.cell? ⟨0, 0, none⟩ = some (.int .i64 m)) :
    Calls Tryz.prog 6 #[.string a0, .string a1, .string a2, .string a3] w fun e w' => e = .returned (.bool true) ∧ Below w.heap.size w w' := by
  obtain ⟨l0, rfl⟩ := S_of a0
  obtain ⟨l1, rfl⟩ := S_of a1
  obtain ⟨l2, rfl⟩ := S_of a2
  obtain ⟨l3, rfl⟩ := S_of a3
  have hm : maxLen = 9223372036854775807 := rfl
  rw [S_size, hm] at h0 h1 h2 h3
  clear hm
  have SH0 := Lib.hid (fun W => sur_short l0 h0 W)
  have SH1 := Lib.hid (fun W => sur_short l1 h1 W)
  have SH2 := Lib.hid (fun W => sur_short l2 h2 W)
  have SH3 := Lib.hid (fun W => sur_short l3 h3 W)
  obtain ⟨s, hs, hsl⟩ : ∃ s, l0.take 400 = s ∧ s.length ≤ 400 := ⟨_, rfl, by simp; omega⟩
  obtain ⟨d, hd, hdl⟩ : ∃ d, l1.take 400 = d ∧ d.length ≤ 400 := ⟨_, rfl, by simp; omega⟩
  obtain ⟨o, ho, hol⟩ : ∃ o, l2.take 400 = o ∧ o.length ≤ 400 := ⟨_, rfl, by simp; omega⟩
  obtain ⟨v, hv, hvl⟩ : ∃ v, l3.take 400 = v ∧ v.length ≤ 400 := ⟨_, rfl, by simp; omega⟩
  rw [hs] at SH0
  rw [hd] at SH1
  rw [ho] at SH2
  rw [hv] at SH3
  have TK := Lib.hid (fun W => refToken d (by omega) W)
  have AL := Lib.hid (fun W h => sur_alive W h)
  have HM := Lib.hid (mlen_later hM)
  clear hs hd ho hv hM h0 h1 h2 h3
  cases ht : tokenL d with
  | false =>
    have CN := Lib.hid (fun W => surCan_bad s d (by omega) (by omega) ht W)
    rw [ht] at TK
    clear ht
    go_enter Tryz.func6, Tryz.ntmps6
    go_wp2_with (first
      | (go_at_call 20; (with_reducible refine Calls.mono (SH0.out _) ?_); rintro e w' ⟨rfl, hw'⟩; obtain rfl := hw'.symm)
      | (go_at_call 20; (with_reducible refine Calls.mono (SH1.out _) ?_); rintro e w' ⟨rfl, hw'⟩; obtain rfl := hw'.symm)
      | (go_at_call 20; (with_reducible refine Calls.mono (SH2.out _) ?_); rintro e w' ⟨rfl, hw'⟩; obtain rfl := hw'.symm)
      | (go_at_call 21; refine Calls.mono (CN.out _) ?_; rintro e w1 ⟨rfl, hb1⟩; have HB1 := Lib.hid hb1; clear hb1)
      | (go_at_call 22; refine Calls.mono (TK.out _) ?_; rintro e w' ⟨rfl, hw'⟩; obtain rfl := hw'.symm)
      | (go_at_call 23; refine Calls.mono (AL.out _ (HM.out _ HB1.out)) ?_; rintro e w2 ⟨rfl, hb2⟩; have HB2 := Lib.hid (HB1.out.trans (hb2.mono HB1.out.size)); clear hb2)
      | fail)
    go_ret
    exact ⟨ret_bool (by simp), HB2.out⟩
  | true =>
    have CN := Lib.hid (fun W h => surCan_ok s d (by omega) (by omega) ht W h)
    rw [ht] at TK
    have TR := Lib.hid (fun W => refTrim s (by omega) W)
    have htl := trim_short s
    obtain ⟨t, htt⟩ : ∃ t, trim s = t := ⟨_, rfl⟩
    rw [htt] at TR htl CN
    have hti : (t.length : Int) ≤ 400 := by omega
    have hdi : (d.length : Int) ≤ 400 := by omega
    have hsi : (s.length : Int) ≤ 400 := by omega
    obtain ⟨z, hz⟩ : ∃ z, readE s = z := ⟨_, rfl⟩
    have RD := Lib.hid (fun W => surRead_e s (by omega) z hz W)
    have WR := Lib.hid (fun W => surWrite (contentL, v, o) (by show contentL.length ≤ 400; decide) hvl hol W)
    have hwl := writeL_len (contentL, v, o)
    simp only at hwl WR
    have hcl : contentL.length = 7 := rfl
    have HAC := Lib.hid (fun (x : List Wrd) (h1 : readL s = some x) (h2 : mayB (contentL, v, o) = true) (h3 : o ≠ []) (h4 : o ≠ d) => asks_comma h1 (mayB_iff.1 h2) h3 h4)
    obtain ⟨mo, hmo⟩ : ∃ m, writeL (contentL, v, o) = m := ⟨_, rfl⟩
    have HAS := Lib.hid (fun q hq W h => surAsks q d hq (fun x hx => Nat.le_trans (readV_short q x hx) (by omega)) W h)
    rw [hmo] at hwl WR HAC
    obtain ⟨mb, hmb⟩ : ∃ m, mayB (contentL, v, o) = m := ⟨_, rfl⟩
    rw [hmb] at WR HAC
    have HEZ := Lib.hid (show z = 0 → ∃ x, readL s = some x from fun h => by
      rw [← hz] at h
      unfold readE errW at h
      cases hr : readL s with
      | none => rw [hr] at h; cases h
      | some x => exact ⟨x, rfl⟩)
    have HZZ := Lib.hid (show z = 0 ∨ z = 11 by
      rw [← hz]
      unfold readE errW
      cases readL s <;> simp)
    unfold contentL at WR
    unfold esiQ at CN
    have hmoi : (mo.length : Int) ≤ 1300 := by omega
    clear ht htt hz hmo hmb
    go_enter Tryz.func6, Tryz.ntmps6
    go_wp2_with (first
      | (go_at_call 20; (with_reducible refine Calls.mono (SH0.out _) ?_); rintro e w' ⟨rfl, hw'⟩; obtain rfl := hw'.symm)
      | (go_at_call 20; (with_reducible refine Calls.mono (SH1.out _) ?_); rintro e w' ⟨rfl, hw'⟩; obtain rfl := hw'.symm)
      | (go_at_call 20; (with_reducible refine Calls.mono (SH2.out _) ?_); rintro e w' ⟨rfl, hw'⟩; obtain rfl := hw'.symm)
      | fail)
    refine Calls.mono (CN.out _ (HM.out _ (Below.refl _ _))) ?_
    rintro e w1 ⟨rfl, hb1⟩
    have HB1 := Lib.hid hb1
    clear hb1
    have key : ∃ C, (if t.isEmpty = true then ([] : List UInt8) else t ++ [44, 32]) ++ (d ++ [61, 34, 69, 83, 73, 47, 49, 46, 48, 34]) = C ∧ ((t.isEmpty = true ∧ C = d ++ [61, 34, 69, 83, 73, 47, 49, 46, 48, 34]) ∨ (t.isEmpty = false ∧ C = t ++ 44 :: 32 :: (d ++ [61, 34, 69, 83, 73, 47, 49, 46, 48, 34]))) := by
      refine ⟨_, rfl, ?_⟩
      cases t with
      | nil => left; simp
      | cons a r => right; simp
    obtain ⟨C, hC, hcase⟩ := key
    rw [hC]
    clear hC CN
    rcases hcase with ⟨he, rfl⟩ | ⟨he, rfl⟩
    all_goals
      rcases HZZ.out with rfl | rfl
      · cases mb with
        | false =>
          go_wp2_with (first
            | (go_at_call 22; refine Calls.mono (TK.out _) ?_; rintro e w' ⟨rfl, hw'⟩; obtain rfl := hw'.symm)
            | (go_at_call 24; refine Calls.mono (TR.out _) ?_; rintro e w' ⟨rfl, hw'⟩; obtain rfl := hw'.symm)
            | (go_at_call 23; refine Calls.mono (AL.out _ (HM.out _ HB1.out)) ?_; rintro e w2 ⟨rfl, hb2⟩; have HB2 := Lib.hid (HB1.out.trans (hb2.mono HB1.out.size)); clear hb2)
            | (go_at_call 20; (with_reducible refine Calls.mono (SH3.out _) ?_); rintro e w' ⟨rfl, hw'⟩; obtain rfl := hw'.symm)
            | (go_at_call 25; refine Calls.mono (WR.out _) ?_; rintro e w3 ⟨⟨ss, rfl, hss⟩, hb3⟩; have HSS := Lib.hid hss; have HB3 := Lib.hid (HB2.out.trans (hb3.mono HB2.out.size)); clear hb3 hss)
            | (go_at_call 26; refine Calls.mono (RD.out _) ?_; rintro e w4 ⟨v4, rfl, hb4⟩; have HB4 := Lib.hid (HB3.out.trans (hb4.mono HB3.out.size)); clear hb4)
            | fail)
          go_ret
          exact ⟨ret_bool (by simp), HB4.out⟩
        | true =>
          by_cases ho1 : o = []
          · subst ho1
            go_wp2_with (first
              | (go_at_call 22; refine Calls.mono (TK.out _) ?_; rintro e w' ⟨rfl, hw'⟩; obtain rfl := hw'.symm)
              | (go_at_call 24; refine Calls.mono (TR.out _) ?_; rintro e w' ⟨rfl, hw'⟩; obtain rfl := hw'.symm)
              | (go_at_call 23; refine Calls.mono (AL.out _ (HM.out _ HB1.out)) ?_; rintro e w2 ⟨rfl, hb2⟩; have HB2 := Lib.hid (HB1.out.trans (hb2.mono HB1.out.size)); clear hb2)
              | (go_at_call 20; (with_reducible refine Calls.mono (SH3.out _) ?_); rintro e w' ⟨rfl, hw'⟩; obtain rfl := hw'.symm)
              | (go_at_call 25; refine Calls.mono (WR.out _) ?_; rintro e w3 ⟨⟨ss, rfl, hss⟩, hb3⟩; have HSS := Lib.hid hss; have HB3 := Lib.hid (HB2.out.trans (hb3.mono HB2.out.size)); clear hb3 hss)
              | (go_at_call 26; refine Calls.mono (RD.out _) ?_; rintro e w4 ⟨v4, rfl, hb4⟩; have HB4 := Lib.hid (HB3.out.trans (hb4.mono HB3.out.size)); clear hb4)
              | fail)
            go_ret
            exact ⟨ret_bool (by simp), HB4.out⟩
          · have hoe : o.isEmpty = false := by cases o with
              | nil => exact absurd rfl ho1
              | cons a r => rfl
            by_cases ho2 : o = d
            · subst ho2
              go_wp2_with (first
                | (go_at_call 22; refine Calls.mono (TK.out _) ?_; rintro e w' ⟨rfl, hw'⟩; obtain rfl := hw'.symm)
                | (go_at_call 24; refine Calls.mono (TR.out _) ?_; rintro e w' ⟨rfl, hw'⟩; obtain rfl := hw'.symm)
                | (go_at_call 23; refine Calls.mono (AL.out _ (HM.out _ HB1.out)) ?_; rintro e w2 ⟨rfl, hb2⟩; have HB2 := Lib.hid (HB1.out.trans (hb2.mono HB1.out.size)); clear hb2)
                | (go_at_call 20; (with_reducible refine Calls.mono (SH3.out _) ?_); rintro e w' ⟨rfl, hw'⟩; obtain rfl := hw'.symm)
                | (go_at_call 25; refine Calls.mono (WR.out _) ?_; rintro e w3 ⟨⟨ss, rfl, hss⟩, hb3⟩; have HSS := Lib.hid hss; have HB3 := Lib.hid (HB2.out.trans (hb3.mono HB2.out.size)); clear hb3 hss)
                | (go_at_call 26; refine Calls.mono (RD.out _) ?_; rintro e w4 ⟨v4, rfl, hb4⟩; have HB4 := Lib.hid (HB3.out.trans (hb4.mono HB3.out.size)); clear hb4)
                | fail)
              go_ret
              exact ⟨ret_bool (by simp), HB4.out⟩
            · have hob : (o == d) = false := by simpa using ho2
              obtain ⟨x, hx⟩ := HEZ.out rfl
              have HQ := Lib.hid (HAC.out x hx rfl ho1 ho2)
              obtain ⟨A, hA⟩ : ∃ A, asksL s d = A := ⟨_, rfl⟩
              have A1 := Lib.hid (fun W h => HAS.out s (by omega) W h)
              rw [hA] at A1 HQ
              have A2 := Lib.hid (fun (q : List UInt8) (hq : q = s ++ 44 :: 32 :: mo) W h => (show Calls Tryz.prog 27 #[.string (S q), .string (S d)] W fun e w' => e = .returned (.bool A) ∧ Below W.heap.size W w' from by
                have h2 := HAS.out q (by rw [hq]; simp; omega) W h
                rw [hq, HQ.out] at h2
                rw [hq]; exact h2))
              clear hx hA ho1 ho2
              go_wp2_with (first
                | (go_at_call 22; refine Calls.mono (TK.out _) ?_; rintro e w' ⟨rfl, hw'⟩; obtain rfl := hw'.symm)
                | (go_at_call 24; refine Calls.mono (TR.out _) ?_; rintro e w' ⟨rfl, hw'⟩; obtain rfl := hw'.symm)
                | (go_at_call 23; refine Calls.mono (AL.out _ (HM.out _ HB1.out)) ?_; rintro e w2 ⟨rfl, hb2⟩; have HB2 := Lib.hid (HB1.out.trans (hb2.mono HB1.out.size)); clear hb2)
                | (go_at_call 20; (with_reducible refine Calls.mono (SH3.out _) ?_); rintro e w' ⟨rfl, hw'⟩; obtain rfl := hw'.symm)
                | (go_at_call 25; refine Calls.mono (WR.out _) ?_; rintro e w3 ⟨⟨ss, rfl, hss⟩, hb3⟩; obtain rfl := (hss trivial).symm; have HB3 := Lib.hid (HB2.out.trans (hb3.mono HB2.out.size)); clear hb3 hss)
                | (go_at_call 26; refine Calls.mono (RD.out _) ?_; rintro e w4 ⟨v4, rfl, hb4⟩; have HB4 := Lib.hid (HB3.out.trans (hb4.mono HB3.out.size)); clear hb4)
                | fail)
              go_wp2_with fail
              refine Calls.mono (A2.out _ ?_ _ (HM.out _ HB4.out)) ?_
              · first | rfl | simp
              rintro e w5 ⟨rfl, hb5⟩
              have HB5 := Lib.hid (HB4.out.trans (hb5.mono HB4.out.size))
              go_wp2_with fail
              refine Calls.mono (A1.out _ (HM.out _ HB5.out)) ?_
              rintro e w6 ⟨rfl, hb6⟩
              have HB6 := Lib.hid (HB5.out.trans (hb6.mono HB5.out.size))
              go_wp2
              go_ret
              exact ⟨ret_bool (by simp), HB6.out⟩
      · skip
        go_wp2_with (first
          | (go_at_call 22; refine Calls.mono (TK.out _) ?_; rintro e w' ⟨rfl, hw'⟩; obtain rfl := hw'.symm)
          | (go_at_call 24; refine Calls.mono (TR.out _) ?_; rintro e w' ⟨rfl, hw'⟩; obtain rfl := hw'.symm)
          | (go_at_call 23; refine Calls.mono (AL.out _ (HM.out _ HB1.out)) ?_; rintro e w2 ⟨rfl, hb2⟩; have HB2 := Lib.hid (HB1.out.trans (hb2.mono HB1.out.size)); clear hb2)
          | (go_at_call 20; (with_reducible refine Calls.mono (SH3.out _) ?_); rintro e w' ⟨rfl, hw'⟩; obtain rfl := hw'.symm)
          | (go_at_call 25; refine Calls.mono (WR.out _) ?_; rintro e w3 ⟨⟨ss, rfl, hss⟩, hb3⟩; have HSS := Lib.hid hss; have HB3 := Lib.hid (HB2.out.trans (hb3.mono HB2.out.size)); clear hb3 hss)
          | (go_at_call 26; refine Calls.mono (RD.out _) ?_; rintro e w4 ⟨v4, rfl, hb4⟩; have HB4 := Lib.hid (HB3.out.trans (hb4.mono HB3.out.size)); clear hb4)
          | fail)
        go_ret
        exact ⟨ret_bool (by simp), HB4.out⟩
end Go.Proofs.YtcfihoniocamaaaGreatDoor
