/- The law SurrogateJoins: its walk. -/
import Derived.Test.YtcfihoniocamaaaDoorSurAll
import Derived.Test.YtcfihoniocamaaaDoorWant
namespace Go.Proofs.YtcfihoniocamaaaDoor
open Go.RowKit Go.Sort Go.Shelf
set_option linter.unusedVariables false

theorem readL_len {s : List UInt8} {L : List Wrd} (h : readL s = some L) : L.length ≤ s.length + 1 := by
  unfold readL at h
  cases h44 : splitL 44 s with
  | none => rw [h44] at h; cases h
  | some ps =>
    rw [h44] at h
    have h1 := (split_bound h44).2.1
    have h2 := read_len ps L h
    omega
theorem surRead_none (s : List UInt8) (hs : s.length ≤ 100000) (h : readL s = none) (W : World) :
    Calls Tryd.prog 17 #[.string (S s)] W fun e w' => ∃ v, e = .returned (.tuple #[v, .int .i64 11]) ∧ OwnsW w' W.heap.size v [] ∧ Below W.heap.size W w' := by
  have := surRead s hs W
  unfold readE readV at this
  rw [h] at this
  exact this
theorem surRead_some (s : List UInt8) (hs : s.length ≤ 100000) {L : List Wrd} (h : readL s = some L) (W : World) :
    Calls Tryd.prog 17 #[.string (S s)] W fun e w' => ∃ v, e = .returned (.tuple #[v, .int .i64 0]) ∧ OwnsW w' W.heap.size v L ∧ Below W.heap.size W w' := by
  have := surRead s hs W
  unfold readE readV at this
  rw [h] at this
  exact this
theorem surRead_any (s : List UInt8) (hs : s.length ≤ 100000) (W : World) :
    Calls Tryd.prog 17 #[.string (S s)] W fun e w' => ∃ v z, e = .returned (.tuple #[v, .int .i64 z]) ∧ Below W.heap.size W w' :=
  (surRead s hs W).mono fun e w' ⟨v, h1, _, h2⟩ => ⟨v, _, h1, h2⟩

set_option maxHeartbeats 1600000 in
set_option maxRecDepth 100000 in
theorem surJoins_NN (l0 l1 a b : List UInt8) (LA LB : List Wrd) (h0 : l0.length ≤ 9223372036854775807) (h1 : l1.length ≤ 9223372036854775807) (ha : l0.take 400 = a) (hb : l1.take 400 = b) (hal : a.length ≤ 400) (hbl : b.length ≤ 400)
    (hA : readL a = none) (hB : readL b = none) (w : World) (hM : ∃ m, w.cell? ⟨0, 0, none⟩ = some (.int .i64 m)) :
    Calls Tryd.prog 7 #[.string (S l0), .string (S l1)] w fun e w' => e = .returned (.bool true) ∧ Below w.heap.size w w' := by
  have SH0 := Lib.hid (fun W => sur_short l0 h0 W)
  have SH1 := Lib.hid (fun W => sur_short l1 h1 W)
  rw [ha] at SH0
  rw [hb] at SH1
  have RA := Lib.hid (fun W => surRead_none a (by omega) hA W)
  have RB := Lib.hid (fun W => surRead_none b (by omega) hB W)
  have RC := Lib.hid (fun (l : List UInt8) (hl : l.length ≤ 100000) W => surRead_any l hl W)
  have AL := Lib.hid (fun W h => sur_alive W h)
  have HM := Lib.hid (mlen_later hM)
  have hai : (a.length : Int) ≤ 400 := by omega
  have hbi : (b.length : Int) ≤ 400 := by omega
  clear ha hb hA hB hM
  go_enter Tryd.func7, Tryd.ntmps7
  go_wp2_with (first
    | (go_at_call 16; (with_reducible refine Calls.mono (SH0.out _) ?_); rintro e w' ⟨rfl, hw'⟩; obtain rfl := hw'.symm)
    | (go_at_call 16; (with_reducible refine Calls.mono (SH1.out _) ?_); rintro e w' ⟨rfl, hw'⟩; obtain rfl := hw'.symm)
    | fail)
  refine Calls.mono (RA.out _) ?_
  rintro e w1 ⟨v1, rfl, ho1, hb1⟩
  have HB1 := Lib.hid hb1
  obtain ⟨ao1, cap1, rfl, hc1, hc1', _⟩ := ho1.reads
  have hmx : maxLen = 9223372036854775807 := rfl
  rw [hmx] at hc1'
  clear ho1 hb1
  go_wp2_with fail
  refine Calls.mono (RB.out _) ?_
  rintro e w2 ⟨v2, rfl, ho2, hb2⟩
  have HB2 := Lib.hid (HB1.out.trans (hb2.mono HB1.out.size))
  obtain ⟨ao2, cap2, rfl, hc2, hc2', _⟩ := ho2.reads
  rw [hmx] at hc2'
  clear ho2 hb2
  go_wp2_with fail
  refine Calls.mono (RC.out _ (by simp; omega) _) ?_
  rintro e w3 ⟨v3, z3, rfl, hb3⟩
  have HB3 := Lib.hid (HB2.out.trans (hb3.mono HB2.out.size))
  clear hb3
  go_wp2_with (first
    | (go_at_call 19; refine Calls.mono (AL.out _ (HM.out _ HB3.out)) ?_; rintro e w4 ⟨rfl, hb4⟩; have HB4 := Lib.hid (HB3.out.trans (hb4.mono HB3.out.size)); clear hb4)
    | fail)
  go_ret
  exact ⟨ret_bool (by simp), HB4.out⟩
set_option maxHeartbeats 1600000 in
set_option maxRecDepth 100000 in
theorem surJoins_NS (l0 l1 a b : List UInt8) (LA LB : List Wrd) (h0 : l0.length ≤ 9223372036854775807) (h1 : l1.length ≤ 9223372036854775807) (ha : l0.take 400 = a) (hb : l1.take 400 = b) (hal : a.length ≤ 400) (hbl : b.length ≤ 400)
    (hA : readL a = none) (hB : readL b = some LB) (w : World) (hM : ∃ m, w.cell? ⟨0, 0, none⟩ = some (.int .i64 m)) :
    Calls Tryd.prog 7 #[.string (S l0), .string (S l1)] w fun e w' => e = .returned (.bool true) ∧ Below w.heap.size w w' := by
  have SH0 := Lib.hid (fun W => sur_short l0 h0 W)
  have SH1 := Lib.hid (fun W => sur_short l1 h1 W)
  rw [ha] at SH0
  rw [hb] at SH1
  have RA := Lib.hid (fun W => surRead_none a (by omega) hA W)
  have RB := Lib.hid (fun W => surRead_some b (by omega) hB W)
  have RC := Lib.hid (fun (l : List UInt8) (hl : l.length ≤ 100000) W => surRead_any l hl W)
  have AL := Lib.hid (fun W h => sur_alive W h)
  have HM := Lib.hid (mlen_later hM)
  have hai : (a.length : Int) ≤ 400 := by omega
  have hbi : (b.length : Int) ≤ 400 := by omega
  clear ha hb hA hB hM
  go_enter Tryd.func7, Tryd.ntmps7
  go_wp2_with (first
    | (go_at_call 16; (with_reducible refine Calls.mono (SH0.out _) ?_); rintro e w' ⟨rfl, hw'⟩; obtain rfl := hw'.symm)
    | (go_at_call 16; (with_reducible refine Calls.mono (SH1.out _) ?_); rintro e w' ⟨rfl, hw'⟩; obtain rfl := hw'.symm)
    | fail)
  refine Calls.mono (RA.out _) ?_
  rintro e w1 ⟨v1, rfl, ho1, hb1⟩
  have HB1 := Lib.hid hb1
  obtain ⟨ao1, cap1, rfl, hc1, hc1', _⟩ := ho1.reads
  have hmx : maxLen = 9223372036854775807 := rfl
  rw [hmx] at hc1'
  clear ho1 hb1
  go_wp2_with fail
  refine Calls.mono (RB.out _) ?_
  rintro e w2 ⟨v2, rfl, ho2, hb2⟩
  have HB2 := Lib.hid (HB1.out.trans (hb2.mono HB1.out.size))
  obtain ⟨ao2, cap2, rfl, hc2, hc2', _⟩ := ho2.reads
  rw [hmx] at hc2'
  clear ho2 hb2
  go_wp2_with fail
  refine Calls.mono (RC.out _ (by simp; omega) _) ?_
  rintro e w3 ⟨v3, z3, rfl, hb3⟩
  have HB3 := Lib.hid (HB2.out.trans (hb3.mono HB2.out.size))
  clear hb3
  go_wp2_with (first
    | (go_at_call 19; refine Calls.mono (AL.out _ (HM.out _ HB3.out)) ?_; rintro e w4 ⟨rfl, hb4⟩; have HB4 := Lib.hid (HB3.out.trans (hb4.mono HB3.out.size)); clear hb4)
    | fail)
  go_ret
  exact ⟨ret_bool (by simp), HB4.out⟩
set_option maxHeartbeats 1600000 in
set_option maxRecDepth 100000 in
theorem surJoins_SN (l0 l1 a b : List UInt8) (LA LB : List Wrd) (h0 : l0.length ≤ 9223372036854775807) (h1 : l1.length ≤ 9223372036854775807) (ha : l0.take 400 = a) (hb : l1.take 400 = b) (hal : a.length ≤ 400) (hbl : b.length ≤ 400)
    (hA : readL a = some LA) (hB : readL b = none) (w : World) (hM : ∃ m, w.cell? ⟨0, 0, none⟩ = some (.int .i64 m)) :
    Calls Tryd.prog 7 #[.string (S l0), .string (S l1)] w fun e w' => e = .returned (.bool true) ∧ Below w.heap.size w w' := by
  have SH0 := Lib.hid (fun W => sur_short l0 h0 W)
  have SH1 := Lib.hid (fun W => sur_short l1 h1 W)
  rw [ha] at SH0
  rw [hb] at SH1
  have RA := Lib.hid (fun W => surRead_some a (by omega) hA W)
  have RB := Lib.hid (fun W => surRead_none b (by omega) hB W)
  have RC := Lib.hid (fun (l : List UInt8) (hl : l.length ≤ 100000) W => surRead_any l hl W)
  have AL := Lib.hid (fun W h => sur_alive W h)
  have HM := Lib.hid (mlen_later hM)
  have hai : (a.length : Int) ≤ 400 := by omega
  have hbi : (b.length : Int) ≤ 400 := by omega
  clear ha hb hA hB hM
  go_enter Tryd.func7, Tryd.ntmps7
  go_wp2_with (first
    | (go_at_call 16; (with_reducible refine Calls.mono (SH0.out _) ?_); rintro e w' ⟨rfl, hw'⟩; obtain rfl := hw'.symm)
    | (go_at_call 16; (with_reducible refine Calls.mono (SH1.out _) ?_); rintro e w' ⟨rfl, hw'⟩; obtain rfl := hw'.symm)
    | fail)
  refine Calls.mono (RA.out _) ?_
  rintro e w1 ⟨v1, rfl, ho1, hb1⟩
  have HB1 := Lib.hid hb1
  obtain ⟨ao1, cap1, rfl, hc1, hc1', _⟩ := ho1.reads
  have hmx : maxLen = 9223372036854775807 := rfl
  rw [hmx] at hc1'
  clear ho1 hb1
  go_wp2_with fail
  refine Calls.mono (RB.out _) ?_
  rintro e w2 ⟨v2, rfl, ho2, hb2⟩
  have HB2 := Lib.hid (HB1.out.trans (hb2.mono HB1.out.size))
  obtain ⟨ao2, cap2, rfl, hc2, hc2', _⟩ := ho2.reads
  rw [hmx] at hc2'
  clear ho2 hb2
  go_wp2_with fail
  refine Calls.mono (RC.out _ (by simp; omega) _) ?_
  rintro e w3 ⟨v3, z3, rfl, hb3⟩
  have HB3 := Lib.hid (HB2.out.trans (hb3.mono HB2.out.size))
  clear hb3
  go_wp2_with (first
    | (go_at_call 19; refine Calls.mono (AL.out _ (HM.out _ HB3.out)) ?_; rintro e w4 ⟨rfl, hb4⟩; have HB4 := Lib.hid (HB3.out.trans (hb4.mono HB3.out.size)); clear hb4)
    | fail)
  go_ret
  exact ⟨ret_bool (by simp), HB4.out⟩
set_option maxHeartbeats 1600000 in
set_option maxRecDepth 100000 in
theorem surJoins_SS (l0 l1 a b : List UInt8) (LA LB : List Wrd) (h0 : l0.length ≤ 9223372036854775807) (h1 : l1.length ≤ 9223372036854775807) (ha : l0.take 400 = a) (hb : l1.take 400 = b) (hal : a.length ≤ 400) (hbl : b.length ≤ 400)
    (hA : readL a = some LA) (hB : readL b = some LB) (w : World) (hM : ∃ m, w.cell? ⟨0, 0, none⟩ = some (.int .i64 m)) :
    Calls Tryd.prog 7 #[.string (S l0), .string (S l1)] w fun e w' => e = .returned (.bool true) ∧ Below w.heap.size w w' := by
  have SH0 := Lib.hid (fun W => sur_short l0 h0 W)
  have SH1 := Lib.hid (fun W => sur_short l1 h1 W)
  rw [ha] at SH0
  rw [hb] at SH1
  have RA := Lib.hid (fun W => surRead_some a (by omega) hA W)
  have RB := Lib.hid (fun W => surRead_some b (by omega) hB W)
  have RC := Lib.hid (fun (l : List UInt8) (hl : l = a ++ 32 :: 44 :: 32 :: b) W => (show Calls Tryd.prog 17 #[.string (S l)] W fun e w' => ∃ v, e = .returned (.tuple #[v, .int .i64 0]) ∧ OwnsW w' W.heap.size v (LA ++ LB) ∧ Below W.heap.size W w' from surRead_some l (by rw [hl]; simp; omega) (by rw [hl]; exact read_two hA hB) W))
  have hla := readL_len hA
  have hlb := readL_len hB
  have AL := Lib.hid (fun W h => sur_alive W h)
  have SA := Lib.hid (fun u1 u2 W k1 k2 => refWSame u1 u2 (LA ++ LB) (LA ++ LB) W k1 k2)
  rw [show ((LA ++ LB) == (LA ++ LB)) = true by simp] at SA
  have HM := Lib.hid (mlen_later hM)
  have hai : (a.length : Int) ≤ 400 := by omega
  have hbi : (b.length : Int) ≤ 400 := by omega
  clear ha hb hA hB hM
  go_enter Tryd.func7, Tryd.ntmps7
  go_wp2_with (first
    | (go_at_call 16; (with_reducible refine Calls.mono (SH0.out _) ?_); rintro e w' ⟨rfl, hw'⟩; obtain rfl := hw'.symm)
    | (go_at_call 16; (with_reducible refine Calls.mono (SH1.out _) ?_); rintro e w' ⟨rfl, hw'⟩; obtain rfl := hw'.symm)
    | fail)
  refine Calls.mono (RA.out _) ?_
  rintro e w1 ⟨v1, rfl, ho1, hb1⟩
  have HB1 := Lib.hid hb1
  have HO1 := Lib.hid ho1.reads
  obtain ⟨ao1, cap1, rfl, hc1, hc1', _⟩ := ho1.reads
  have hmx : maxLen = 9223372036854775807 := rfl
  rw [hmx] at hc1'
  clear ho1 hb1
  go_wp2_with fail
  refine Calls.mono (RB.out _) ?_
  rintro e w2 ⟨v2, rfl, ho2, hb2⟩
  have HB2 := Lib.hid (HB1.out.trans (hb2.mono HB1.out.size))
  have HO12 := Lib.hid (HO1.out.below hb2)
  have HO2 := Lib.hid ho2.reads
  obtain ⟨ao2, cap2, rfl, hc2, hc2', _⟩ := ho2.reads
  rw [hmx] at hc2'
  clear ho2 hb2
  go_wp2_with fail
  refine Calls.mono (RC.out _ (by simp) _) ?_
  rintro e w3 ⟨v3, rfl, ho3, hb3⟩
  have HB3 := Lib.hid (HB2.out.trans (hb3.mono HB2.out.size))
  have HO13 := Lib.hid (HO12.out.below hb3)
  have HO23 := Lib.hid (HO2.out.below hb3)
  have HO3 := Lib.hid ho3.reads
  obtain ⟨ao3, cap3, rfl, hc3, hc3', _⟩ := ho3.reads
  rw [hmx] at hc3'
  clear hb3 ho3
  go_wp2_with (first
    | (go_at_call 19; refine Calls.mono (AL.out _ (HM.out _ HB3.out)) ?_; rintro e w4 ⟨rfl, hb4⟩; have HB4 := Lib.hid (HB3.out.trans (hb4.mono HB3.out.size)); have b4 : Below w4.heap.size w4 (w4.alloc (.cells #[] 46)) := (Below.refl _ _).alloc (Nat.le_refl _) _; have HO14 := Lib.hid ((HO13.out.below hb4).below b4); have r24 := HO23.out.below hb4; have r34 := HO3.out.below hb4; have HO2e := Lib.hid (fun W (hb : Below w4.heap.size w4 W) => r24.below hb); have HO3e := Lib.hid (fun W (hb : Below w4.heap.size w4 W) => r34.below hb); have M4 := Lib.hid (OwnsW.made w4 w4.heap.size (Nat.le_refl _)); have B4 := Lib.hid b4; clear hb4 b4 r24 r34)
    | (at_builtin; refine wpList_want rfl ?_; refine wp_append_wrow rfl _ _ rfl _ w4.heap.size _ [] M4.out rfl ao1 cap1 LA HO14.out rfl (by simp; omega) (by simp) ?_; intro v5 w5 hown5 hb5; have O5 := Lib.hid hown5; have B5 := Lib.hid (B4.out.trans hb5); have hz5 := B5.out.size; clear hown5 hb5)
    | (at_builtin; refine wpList_want rfl ?_; refine wp_append_wrow rfl _ _ rfl _ w4.heap.size _ ([] ++ LA) O5.out rfl ao2 cap2 LB (HO2e.out _ B5.out) rfl (by simp; omega) hz5 ?_; intro v6 w6 hown6 hb6; have O6 := Lib.hid (show OwnsW w6 w4.heap.size v6 (LA ++ LB) from hown6); have B6 := Lib.hid (B5.out.trans hb6); clear hown6 hb6)
    | fail)
  have R3 := HO3e.out _ B6.out
  rw [List.length_append] at R3
  refine Calls.mono (SA.out _ _ _ R3 O6.out.reads) ?_
  rintro e w7 ⟨rfl, hb7⟩
  have HB7 := Lib.hid (HB4.out.trans ((B6.out.trans (hb7.mono B6.out.size)).mono HB4.out.size))
  clear hb7 R3
  go_wp2
  go_ret
  exact ⟨ret_bool (by simp), HB7.out⟩

/-- The law. -/
theorem surJoins_any (a0 a1 : ByteArray) (w : World) (h0 : a0.size ≤ maxLen) (h1 : a1.size ≤ maxLen) (_hL : True) (hM : ∃ m, w.cell? ⟨0, 0, none⟩ = some (.int .i64 m)) :
    Calls Tryd.prog 7 #[.string a0, .string a1] w fun e w' => e = .returned (.bool true) ∧ Below w.heap.size w w' := by
  obtain ⟨l0, rfl⟩ := S_of a0
  obtain ⟨l1, rfl⟩ := S_of a1
  have hm : maxLen = 9223372036854775807 := rfl
  rw [S_size, hm] at h0 h1
  cases hA : readL (l0.take 400) with
  | none =>
    cases hB : readL (l1.take 400) with
    | none => exact surJoins_NN l0 l1 _ _ [] [] h0 h1 rfl rfl (by simp; omega) (by simp; omega) hA hB w hM
    | some LB => exact surJoins_NS l0 l1 _ _ [] LB h0 h1 rfl rfl (by simp; omega) (by simp; omega) hA hB w hM
  | some LA =>
    cases hB : readL (l1.take 400) with
    | none => exact surJoins_SN l0 l1 _ _ LA [] h0 h1 rfl rfl (by simp; omega) (by simp; omega) hA hB w hM
    | some LB => exact surJoins_SS l0 l1 _ _ LA LB h0 h1 rfl rfl (by simp; omega) (by simp; omega) hA hB w hM
end Go.Proofs.YtcfihoniocamaaaDoor
