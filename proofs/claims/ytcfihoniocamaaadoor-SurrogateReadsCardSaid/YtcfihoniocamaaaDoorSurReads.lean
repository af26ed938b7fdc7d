/- The law SurrogateReads: its walk. -/
import Derived.Test.YtcfihoniocamaaaDoorSurAll
namespace Go.Proofs.YtcfihoniocamaaaDoor
open Go.RowKit Go.Sort Go.Shelf
set_option linter.unusedVariables false

set_option maxHeartbeats 3200000 in
set_option maxRecDepth 100000 in
theorem surReads_any (a0 a1 : ByteArray) (w : World) (h0 : a0.size ≤ maxLen) (h1 : a1.size ≤ maxLen) (_hL : True) (hM : ∃ m, w.cell? ⟨0, 0, none⟩ = some (.int .i64 m)) :
    Calls Tryd.prog 5 #[.string a0, .string a1] w fun e w' => e = .returned (.bool true) ∧ Below w.heap.size w w' := by
  obtain ⟨l0, rfl⟩ := S_of a0
  obtain ⟨l1, rfl⟩ := S_of a1
  have hm : maxLen = 9223372036854775807 := rfl
  rw [S_size, hm] at h0 h1
  have SH0 := Lib.hid (fun W => sur_short l0 h0 W)
  have SH1 := Lib.hid (fun W => sur_short l1 h1 W)
  obtain ⟨s, hs, hsl⟩ : ∃ s, l0.take 400 = s ∧ s.length ≤ 400 := ⟨_, rfl, by simp; omega⟩
  obtain ⟨d, hd, hdl⟩ : ∃ d, l1.take 400 = d ∧ d.length ≤ 400 := ⟨_, rfl, by simp; omega⟩
  rw [hs] at SH0
  rw [hd] at SH1
  have RA := Lib.hid (fun W => surRead s (by omega) W)
  have RB := Lib.hid (fun W => refRead s (by omega) W)
  have hv : ∀ x ∈ readV s, x.2.1.length ≤ 1000000 := fun x hx => Nat.le_trans (readV_short s x hx) (by omega)
  have AA := Lib.hid (fun W h => surAsks s d (by omega) hv W h)
  have AB := Lib.hid (fun W => refAsks s d (by omega) hv W)
  have AL := Lib.hid (fun W h => sur_alive W h)
  have SA := Lib.hid (fun u1 u2 W k1 k2 => refWSame u1 u2 (readV s) (readV s) W k1 k2)
  have HM := Lib.hid (mlen_later hM)
  obtain ⟨V, hV⟩ : ∃ V, readV s = V := ⟨_, rfl⟩
  obtain ⟨E, hE⟩ : ∃ E, readE s = E := ⟨_, rfl⟩
  obtain ⟨A, hA⟩ : ∃ A, asksL s d = A := ⟨_, rfl⟩
  rw [hV, show (V == V) = true by simp] at SA
  rw [hV, hE] at RA RB
  rw [hA] at AA AB
  clear hV hE hA hM hv hs hd
  go_enter Tryd.func5, Tryd.ntmps5
  go_wp2_with (first
    | (go_at_call 16; (with_reducible refine Calls.mono (SH0.out _) ?_); rintro e w' ⟨rfl, hw'⟩; obtain rfl := hw'.symm)
    | (go_at_call 16; (with_reducible refine Calls.mono (SH1.out _) ?_); rintro e w' ⟨rfl, hw'⟩; obtain rfl := hw'.symm)
    | (go_at_call 17; refine Calls.mono (RA.out _) ?_; rintro e w1 ⟨v1, rfl, ho1, hb1⟩; have HO1 := Lib.hid ho1.reads; have HB1 := Lib.hid hb1; obtain ⟨ao1, cap1, rfl, _⟩ := ho1.reads; clear ho1 hb1)
    | (go_at_call 18; refine Calls.mono (RB.out _) ?_; rintro e w2 ⟨v2, rfl, ho2, hb2⟩; have HO2 := Lib.hid ho2.reads; have HO12 := Lib.hid (HO1.out.below hb2); have HB2 := Lib.hid (HB1.out.trans (hb2.mono HB1.out.size)); obtain ⟨ao2, cap2, rfl, _⟩ := ho2.reads; clear ho2 hb2)
    | (go_at_call 19; refine Calls.mono (AL.out _ (HM.out _ HB2.out)) ?_; rintro e w3 ⟨rfl, hb3⟩; have HO13 := Lib.hid (HO12.out.below hb3); have HO23 := Lib.hid (HO2.out.below hb3); have HB3 := Lib.hid (HB2.out.trans (hb3.mono HB2.out.size)); clear hb3)
    | (go_at_call 20; refine Calls.mono (SA.out _ _ _ HO13.out HO23.out) ?_; rintro e w4 ⟨rfl, hb4⟩; have HB4 := Lib.hid (HB3.out.trans (hb4.mono HB3.out.size)); clear hb4)
    | (go_at_call 21; refine Calls.mono (AA.out _ (HM.out _ HB4.out)) ?_; rintro e w5 ⟨rfl, hb5⟩; have HB5 := Lib.hid (HB4.out.trans (hb5.mono HB4.out.size)); clear hb5)
    | (go_at_call 22; refine Calls.mono (AB.out _) ?_; rintro e w6 ⟨rfl, hb6⟩; have HB6 := Lib.hid (HB5.out.trans (hb6.mono HB5.out.size)); clear hb6)
    | fail)
  go_ret
  exact ⟨ret_bool (by simp), HB6.out⟩
end Go.Proofs.YtcfihoniocamaaaDoor
