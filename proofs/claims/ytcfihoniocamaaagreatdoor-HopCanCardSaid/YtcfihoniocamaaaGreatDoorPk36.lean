/- A request's fields to an origin, an answer's to a client: the walks of hop.Up and hop.Down. -/
import Derived.Test.YtcfihoniocamaaaGreatDoorPk35
import Derived.Deep.DeepCutAuto
namespace Go.Proofs.YtcfihoniocamaaaGreatDoor
open Go.RowKit Go.Sort Go.Shelf
set_option linter.unusedVariables false

set_option maxHeartbeats 1600000 in
set_option maxRecDepth 100000 in
theorem hopUp (v : Value) (L : List Fld) (h d : List UInt8) (w : World) (hr : ReadsF w v L) (hL : HopRow L) (hh : h.length ≤ 1010) (hd : d.length ≤ 1000) (hM : ∃ m, w.cell? ⟨0, 0, none⟩ = some (.int .i64 m)) :
    Calls Tryz.prog 8 #[v, .string (S h), .string (S d)] w fun e w' => ∃ v', e = .returned (.tuple #[v', .int .i64 (upE L h d)]) ∧ ReadsF w' v' (upV L h d) ∧ Below w.heap.size w w' := by
  have ST := Lib.hid (hopStrip v L w hr hL hM)
  obtain ⟨ao0, cap0, rfl, _⟩ := hr
  unfold stripE stripV at ST
  cases hR : rightL L with
  | false =>
    have e1 : upE L h d = 1 := by unfold upE; rw [hR]; rfl
    have e2 : upV L h d = [] := by unfold upV; rw [e1]; rfl
    rw [hR, if_neg (by simp), if_neg (by simp)] at ST
    rw [e1, e2]
    clear e1 e2 hR hL hM
    go_enter Tryz.func8, Tryz.ntmps8
    go_wp2_with (first
      | (go_at_call 14; refine Calls.mono ST.out ?_; rintro e w1 ⟨v1, rfl, ho1, hb1⟩; have HB1 := Lib.hid hb1; clear ho1 hb1)
      | fail)
    go_ret2
    exact ⟨_, rfl, ReadsF.nil _, HB1.out⟩
  | true =>
    have hS := strip_hop hL
    have SE := Lib.hid (fun u W hr => tableSet u (stripL L) HostG h W hr hS.small ⟨show HostG.length ≤ _ by decide, show h.length ≤ _ by omega⟩ (by have := hS.len; omega))
    rw [hR, if_pos rfl, if_pos rfl] at ST
    by_cases hz : setE (stripL L) (HostG, h) = 0
    · have hH : HopRow (hostedL L h) := set_hop hz hS (show HostG.length ≤ 1000 by decide)
      have e1 : upE L h d = if tokenL d = true then setE (hostedL L h) (canF L h d) else 11 := by unfold upE; rw [if_pos hR, if_pos hz]
      have e2 : upV L h d = if upE L h d = 0 then setL (hostedL L h) (canF L h d) else [] := rfl
      have e3 : setL (stripL L) (HostG, h) = hostedL L h := rfl
      have e4 : canF L h d = (CapG, canL (joinedL (hostedL L h) CapG) d) := rfl
      rw [hz, e3] at SE
      obtain ⟨H, hHe⟩ : ∃ H, hostedL L h = H := ⟨_, rfl⟩
      rw [e2, e1, e4]
      rw [hHe] at SE hH ⊢
      have JO := Lib.hid (fun u W hr => tableJoined u H CapG (by decide) W hr hH.small (fun f hf => by have := (hH.each f hf).2; omega) (by have := hH.len; omega))
      have hjl := hH.joined CapG
      have hcl := canL_len (joinedL H CapG) d
      obtain ⟨s, hs⟩ : ∃ s, joinedL H CapG = s := ⟨_, rfl⟩
      rw [hs] at JO hjl hcl ⊢
      obtain ⟨Z, hZ⟩ : ∃ Z, stripL L = Z := ⟨_, rfl⟩
      rw [hZ] at ST SE
      unfold HostG at SE
      cases ht : tokenL d with
      | false =>
        have CN := Lib.hid (fun W => surCan_bad s d (by omega) (by omega) ht W)
        rw [if_neg (by simp), if_neg (by decide)]
        unfold CapG at JO
        clear e1 e2 e3 e4 hR hL hM hS hz hH hHe hs hZ ht hjl hcl
        go_enter Tryz.func8, Tryz.ntmps8
        go_wp2_with (first
          | (go_at_call 14; refine Calls.mono ST.out ?_; rintro e w1 ⟨v1, rfl, ho1, hb1⟩; have R1 := Lib.hid ho1.reads; have HB1 := Lib.hid hb1; clear ho1 hb1)
          | (go_at_call 28; refine Calls.mono (SE.out _ _ R1.out) ?_; rintro e w2 ⟨v2, rfl, hr2, hb2⟩; have R2 := Lib.hid hr2; have HB2 := Lib.hid (HB1.out.trans (hb2.mono HB1.out.size)); clear hr2 hb2)
          | (go_at_call 29; refine Calls.mono (JO.out _ _ R2.out) ?_; rintro e w3 ⟨rfl, hb3⟩; have HB3 := Lib.hid (HB2.out.trans (hb3.mono HB2.out.size)); clear hb3)
          | (go_at_call 21; refine Calls.mono (CN.out _) ?_; rintro e w4 ⟨rfl, hb4⟩; have HB4 := Lib.hid (HB3.out.trans (hb4.mono HB3.out.size)); clear hb4)
          | fail)
        go_ret2
        exact ⟨_, rfl, ReadsF.nil _, HB4.out⟩
      | true =>
        have CN := Lib.hid (fun W => surCan_ok s d (by omega) (by omega) ht W)
        rw [show (if (trim s).isEmpty = true then ([] : List UInt8) else trim s ++ [44, 32]) ++ (d ++ esiQ) = canL s d from rfl] at CN
        rw [if_pos rfl]
        obtain ⟨c, hc⟩ : ∃ c, canL s d = c := ⟨_, rfl⟩
        rw [hc] at CN hcl ⊢
        have S2 := Lib.hid (fun u W hr => tableSet u H CapG c W hr hH.small ⟨show CapG.length ≤ _ by decide, show c.length ≤ _ by omega⟩ (by have := hH.len; omega))
        have e5 : (if setE H (CapG, c) = 0 then setL H (CapG, c) else []) = setL H (CapG, c) := by
          by_cases h0 : setE H (CapG, c) = 0
          · rw [if_pos h0]
          · rw [if_neg h0]; unfold setL; rw [if_neg h0]
        rw [e5]
        obtain ⟨z2, hz2⟩ : ∃ z, setE H (CapG, c) = z := ⟨_, rfl⟩
        obtain ⟨K, hK⟩ : ∃ z, setL H (CapG, c) = z := ⟨_, rfl⟩
        rw [hz2, hK] at S2 ⊢
        unfold CapG at JO S2
        clear e1 e2 e3 e4 e5 hR hL hM hS hz hH hHe hs hZ ht hjl hcl hc hz2 hK
        go_enter Tryz.func8, Tryz.ntmps8
        go_wp2_with (first
          | (go_at_call 14; refine Calls.mono ST.out ?_; rintro e w1 ⟨v1, rfl, ho1, hb1⟩; have R1 := Lib.hid ho1.reads; have HB1 := Lib.hid hb1; clear ho1 hb1)
          | (go_at_call 28; (with_reducible refine Calls.mono (SE.out _ _ R1.out) ?_); rintro e w2 ⟨v2, rfl, hr2, hb2⟩; have R2 := Lib.hid hr2; have HB2 := Lib.hid (HB1.out.trans (hb2.mono HB1.out.size)); clear hr2 hb2)
          | (go_at_call 29; refine Calls.mono (JO.out _ _ R2.out) ?_; rintro e w3 ⟨rfl, hb3⟩; have R3 := Lib.hid (R2.out.below hb3); have HB3 := Lib.hid (HB2.out.trans (hb3.mono HB2.out.size)); clear hb3)
          | (go_at_call 21; refine Calls.mono (CN.out _) ?_; rintro e w4 ⟨rfl, hb4⟩; have R4 := Lib.hid (R3.out.below hb4); have HB4 := Lib.hid (HB3.out.trans (hb4.mono HB3.out.size)); clear hb4)
          | (go_at_call 28; (with_reducible refine Calls.mono (S2.out _ _ R4.out) ?_); rintro e w5 ⟨v5, rfl, hr5, hb5⟩; have R5 := Lib.hid hr5; have HB5 := Lib.hid (HB4.out.trans (hb5.mono HB4.out.size)); clear hr5 hb5)
          | fail)
        go_ret2
        exact ⟨_, rfl, R5.out, HB5.out⟩
    · have e1 : upE L h d = setE (stripL L) (HostG, h) := by unfold upE; rw [if_pos hR, if_neg hz]
      have e2 : upV L h d = [] := by unfold upV; rw [e1, if_neg hz]
      have hz' : (setE (stripL L) (HostG, h) != 0) = true := by simpa using hz
      rw [e1, e2]
      obtain ⟨z, hzz⟩ : ∃ z, setE (stripL L) (HostG, h) = z := ⟨_, rfl⟩
      rw [hzz] at SE hz' ⊢
      obtain ⟨Z, hZ⟩ : ∃ Z, stripL L = Z := ⟨_, rfl⟩
      rw [hZ] at ST SE
      unfold HostG at SE
      clear e1 e2 hR hL hM hS hz hzz hZ
      go_enter Tryz.func8, Tryz.ntmps8
      go_wp2_with (first
        | (go_at_call 14; refine Calls.mono ST.out ?_; rintro e w1 ⟨v1, rfl, ho1, hb1⟩; have R1 := Lib.hid ho1.reads; have HB1 := Lib.hid hb1; clear ho1 hb1)
        | (go_at_call 28; refine Calls.mono (SE.out _ _ R1.out) ?_; rintro e w2 ⟨v2, rfl, hr2, hb2⟩; have HB2 := Lib.hid (HB1.out.trans (hb2.mono HB1.out.size)); clear hr2 hb2)
        | fail)
      go_ret2
      exact ⟨_, rfl, ReadsF.nil _, HB2.out⟩

set_option maxHeartbeats 1600000 in
set_option maxRecDepth 100000 in
theorem hopDown (v : Value) (L : List Fld) (w : World) (hr : ReadsF w v L) (hL : HopRow L) (hM : ∃ m, w.cell? ⟨0, 0, none⟩ = some (.int .i64 m)) :
    Calls Tryz.prog 15 #[v] w fun e w' => ∃ v', e = .returned (.tuple #[v', .int .i64 (stripE L)]) ∧ ReadsF w' v' (removeL (stripV L) CtlG) ∧ Below w.heap.size w w' := by
  have ST := Lib.hid (hopStrip v L w hr hL hM)
  obtain ⟨ao0, cap0, rfl, _⟩ := hr
  have hS : HopRow (stripV L) := by
    unfold stripV
    split
    · exact strip_hop hL
    · exact ⟨by simp, fun f hf => by cases hf⟩
  obtain ⟨E, hE⟩ : ∃ E, stripE L = E := ⟨_, rfl⟩
  obtain ⟨Z, hZ⟩ : ∃ Z, stripV L = Z := ⟨_, rfl⟩
  rw [hE, hZ] at ST
  rw [hZ] at hS
  rw [hE, hZ]
  have RM := Lib.hid (fun u W hr => tableRemove u Z CtlG (by decide) W hr hS.small (by have := hS.len; omega))
  obtain ⟨K, hK⟩ : ∃ z, removeL Z CtlG = z := ⟨_, rfl⟩
  rw [hK] at RM ⊢
  unfold CtlG at RM
  clear hE hZ hS hL hM hK
  go_enter Tryz.func15, Tryz.ntmps15
  go_wp2_with (first
    | (go_at_call 14; refine Calls.mono ST.out ?_; rintro e w1 ⟨v1, rfl, ho1, hb1⟩; have R1 := Lib.hid ho1.reads; have HB1 := Lib.hid hb1; clear ho1 hb1)
    | (go_at_call 35; refine Calls.mono (RM.out _ _ R1.out) ?_; rintro e w2 ⟨v2, rfl, ho2, hb2⟩; have R2 := Lib.hid ho2.reads; have HB2 := Lib.hid (HB1.out.trans (hb2.mono HB1.out.size)); clear ho2 hb2)
    | fail)
  go_ret2
  exact ⟨_, rfl, R2.out, HB2.out⟩
end Go.Proofs.YtcfihoniocamaaaGreatDoor
