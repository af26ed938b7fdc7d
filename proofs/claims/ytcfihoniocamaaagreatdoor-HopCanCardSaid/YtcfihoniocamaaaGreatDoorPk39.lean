/- The document's fields to an origin: the walks of its Strip, Up and Keeps. -/
import Derived.Test.YtcfihoniocamaaaGreatDoorPk35
import Derived.Test.YtcfihoniocamaaaGreatDoorPk21
import Derived.Test.YtcfihoniocamaaaGreatDoorPk37
import Derived.Test.YtcfihoniocamaaaGreatDoorPk6
import Derived.Test.YtcfihoniocamaaaGreatDoorPk5
import Derived.Test.YtcfihoniocamaaaGreatDoorPk38
namespace Go.Proofs.YtcfihoniocamaaaGreatDoor
open Go.RowKit Go.Sort Go.Shelf
set_option linter.unusedVariables false

set_option maxHeartbeats 1600000 in
set_option maxRecDepth 100000 in
theorem refStripH (v : Value) (L : List Fld) (W : World) (hr : ReadsF W v L) (hL : HopRow L) :
    Calls Tryz.prog 19 #[v] W fun e w' => ∃ v', e = .returned v' ∧ OwnsF w' W.heap.size v' (stripL L) ∧ Below W.heap.size W w' := by
  have WO := Lib.hid (fun W' (hb : Below W.heap.size W W') => refHopWords v L W' (hr.below hb) hL)
  have RA := Lib.hid (fun u W' n hn hr => refAlone u (hopWords L) n hn W' hr)
  obtain ⟨ao, cap, rfl, hc1, hc2, _, hcell⟩ := hr
  have hmx : maxLen = 9223372036854775807 := rfl
  rw [hmx] at hc2
  have HC := Lib.hid hcell
  have HE := Lib.hid hL.each
  have hl50 := hL.len
  unfold stripL
  obtain ⟨A, hA⟩ : ∃ A, hopWords L = A := ⟨_, rfl⟩
  rw [hA] at WO RA ⊢
  clear hcell hL hmx hA
  go_enter Tryz.func19, Tryz.ntmps19
  go_wp2
  go_loopw [3, 9] (fun ov iv wr => ∃ k : Nat, iv = .int .i64 k ∧ k ≤ L.length ∧ OwnsF wr W.heap.size ov ((L.take k).filter fun f => !aloneB A f.1) ∧ Below W.heap.size W wr) (fun _ iv _ => L.length - (intOf iv).toNat)
  case atStart => exact ⟨0, rfl, Nat.zero_le _, OwnsF.made _ _ (Nat.le_refl _), by (repeat (first | (with_reducible exact Below.refl _ _) | (with_reducible assumption) | (with_reducible refine Below.drew ?_) | (focus ((with_reducible refine Below.setCell ?_ ?_ _); rotate_left; (first | omega | (simp <;> omega)))) | (focus ((with_reducible refine Below.alloc ?_ ?_ _); rotate_left; (first | omega | (simp <;> omega)))) | exact Below.refl _ _ | assumption | refine Below.drew ?_ | refine Below.alloc ?_ (by first | omega | (simp <;> omega)) _ | refine Below.setCell ?_ (by first | omega | (simp <;> omega)) _))⟩
  case round =>
    obtain ⟨k, rfl, hk, hown, hB⟩ := hrel
    have HO := Lib.hid hown
    have HB := Lib.hid hB
    have hz := hB.size
    clear hown
    by_cases hkl : k < L.length
    · obtain ⟨b, off, rfl, hb, hcl⟩ := HC.out (by omega)
      obtain ⟨e1, e2⟩ := hcl k hkl
      rw [← hB.cell (p := ⟨b, off + k * 2, none⟩) hb] at e1
      rw [← hB.cell (p := ⟨b, off + k * 2 + 1, none⟩) hb] at e2
      have hfe := HE.out _ (List.getElem_mem hkl)
      have htk : (L.take (k + 1)).filter (fun f => !aloneB A f.1) = (L.take k).filter (fun f => !aloneB A f.1) ++ (if aloneB A L[k].1 = true then [] else [L[k]]) := by
        rw [List.take_succ_eq_append_getElem hkl, List.filter_append]
        congr 1
        cases h : aloneB A L[k].1 <;> simp [h]
      have hol : ((L.take k).filter fun f => !aloneB A f.1).length ≤ 50 := Nat.le_trans (List.length_filter_le _ _) (by rw [List.length_take]; omega)
      obtain ⟨out, hout⟩ : ∃ x, (L.take k).filter (fun f => !aloneB A f.1) = x := ⟨_, rfl⟩
      rw [hout] at HO htk hol
      obtain ⟨⟨n, x⟩, hf⟩ : ∃ f, L[k] = f := ⟨_, rfl⟩
      rw [hf] at e1 e2 hfe htk
      simp only at e1 e2 hfe htk
      have A1 := Lib.hid (fun u W' hr => RA.out u W' n (by omega) hr)
      obtain ⟨al, hal⟩ : ∃ q, aloneB A n = q := ⟨_, rfl⟩
      rw [hal] at A1 htk
      have HT := Lib.hid htk
      clear hcl hout hf htk hal hB
      go_upto_region 5 with fail
      go_cut [18] (fun qv wx => qv = .bool (!al) ∧ wx.cell? ⟨wr.heap.size, 0, none⟩ = some (.string (S n)) ∧ wx.cell? ⟨wr.heap.size, 1, none⟩ = some (.string (S x)) ∧ Below wr.heap.size wr wx ∧ wr.heap.size < wx.heap.size)
      case first =>
        as_aux_lemma =>
          go_region_with (first
            | (go_at_call 37; refine Calls.mono (WO.out _ (by have := HB.out; (repeat (first | (with_reducible exact Below.refl _ _) | (with_reducible assumption) | (with_reducible refine Below.drew ?_) | (focus ((with_reducible refine Below.setCell ?_ ?_ _); rotate_left; (first | omega | (simp <;> omega)))) | (focus ((with_reducible refine Below.alloc ?_ ?_ _); rotate_left; (first | omega | (simp <;> omega)))) | exact Below.refl _ _ | assumption | refine Below.drew ?_ | refine Below.alloc ?_ (by first | omega | (simp <;> omega)) _ | refine Below.setCell ?_ (by first | omega | (simp <;> omega)) _)))) ?_; rintro e w1 ⟨v1, rfl, ho1, hb1⟩; have HO1 := Lib.hid ho1.reads; obtain ⟨c1, c2⟩ := bk hb1 wr.heap.size (by (first | omega | (simp <;> omega))); have q1 := c1 0; have q2 := c1 1; (conv at q1 => rhs; simp [go_sem, *]); (conv at q2 => rhs; simp [go_sem, *]); have hz1 := hb1.size; (try simp at hz1); have hbw1 := Below.trans (show Below wr.heap.size wr _ by (repeat (first | (with_reducible exact Below.refl _ _) | (with_reducible assumption) | (with_reducible refine Below.drew ?_) | (focus ((with_reducible refine Below.setCell ?_ ?_ _); rotate_left; (first | omega | (simp <;> omega)))) | (focus ((with_reducible refine Below.alloc ?_ ?_ _); rotate_left; (first | omega | (simp <;> omega)))) | exact Below.refl _ _ | assumption | refine Below.drew ?_ | refine Below.alloc ?_ (by first | omega | (simp <;> omega)) _ | refine Below.setCell ?_ (by first | omega | (simp <;> omega)) _))) (hb1.mono (by (first | omega | (simp <;> omega)))); clear ho1 hb1 c1 c2)
            | (go_at_call 41; refine Calls.mono (A1.out _ _ (by first | exact HO1.out | exact HO1.out.below (by (repeat (first | (with_reducible exact Below.refl _ _) | (with_reducible assumption) | (with_reducible refine Below.drew ?_) | (focus ((with_reducible refine Below.setCell ?_ ?_ _); rotate_left; (first | omega | (simp <;> omega)))) | (focus ((with_reducible refine Below.alloc ?_ ?_ _); rotate_left; (first | omega | (simp <;> omega)))) | exact Below.refl _ _ | assumption | refine Below.drew ?_ | refine Below.alloc ?_ (by first | omega | (simp <;> omega)) _ | refine Below.setCell ?_ (by first | omega | (simp <;> omega)) _))))) ?_; rintro e w2 ⟨rfl, hb2⟩; obtain ⟨c1, c2⟩ := bk hb2 wr.heap.size (by (first | omega | (simp <;> omega))); have q3 := c1 0; have q4 := c1 1; (conv at q3 => rhs; simp [go_sem, *]); (conv at q4 => rhs; simp [go_sem, *]); have hz2 := hb2.size; (try simp at hz2); have hbw2 := hbw1.trans (hb2.mono (by (first | omega | (simp <;> omega)))); clear hb2 c1 c2))
          all_goals (go_wp2_with fail; go_meet; exact ⟨rfl, q3, q4, hbw2, by omega⟩)
      case rest =>
        obtain ⟨rfl, q1, q2, hbc, hltc⟩ := hcut
        obtain ⟨w4, hw4⟩ : ∃ x, x = wc := ⟨_, rfl⟩
        rw [← hw4] at q1 q2 hbc hltc ⊢
        clear hw4
        have hff := far hltc
        have HBC := Lib.hid hbc
        have hz4 := hbc.size
        clear hbc
        cases al with
        | true =>
          go_wp2
          go_roundw
          case rel => exact ⟨k + 1, by go_num, by omega, by rw [HT.out]; simpa using HO.out.below HBC.out, HB.out.trans (HBC.out.mono hz)⟩
          case measure => simp [intOf]; omega
        | false =>
          go_wp2_with (at_builtin; refine wp_append_fld rfl _ _ rfl _ W.heap.size _ out (n, x) (HO.out.below (Below.trans HBC.out (by first | exact Below.refl _ _ | (have : True := trivial; (repeat (first | (with_reducible exact Below.refl _ _) | (with_reducible assumption) | (with_reducible refine Below.drew ?_) | (focus ((with_reducible refine Below.setCell ?_ ?_ _); rotate_left; (first | omega | (simp <;> omega)))) | (focus ((with_reducible refine Below.alloc ?_ ?_ _); rotate_left; (first | omega | (simp <;> omega)))) | exact Below.refl _ _ | assumption | refine Below.drew ?_ | refine Below.alloc ?_ (by first | omega | (simp <;> omega)) _ | refine Below.setCell ?_ (by first | omega | (simp <;> omega)) _)))))) rfl _ rfl rfl (by omega) (by (first | omega | (simp <;> omega))) ?_; intro v6 w6 hown6 hb6 hg6; have HO6 := Lib.hid hown6; have HB6 := Lib.hid (Below.trans (show Below W.heap.size w4 _ by (repeat (first | (with_reducible exact Below.refl _ _) | (with_reducible assumption) | (with_reducible refine Below.drew ?_) | (focus ((with_reducible refine Below.setCell ?_ ?_ _); rotate_left; (first | omega | (simp <;> omega)))) | (focus ((with_reducible refine Below.alloc ?_ ?_ _); rotate_left; (first | omega | (simp <;> omega)))) | exact Below.refl _ _ | assumption | refine Below.drew ?_ | refine Below.alloc ?_ (by first | omega | (simp <;> omega)) _ | refine Below.setCell ?_ (by first | omega | (simp <;> omega)) _))) hb6); clear hown6 hb6 hg6)
          go_roundw
          case rel => exact ⟨k + 1, by go_num, by omega, by rw [HT.out]; exact HO6.out, HB.out.trans ((HBC.out.mono hz).trans HB6.out)⟩
          case measure => simp [intOf]; omega
    · obtain rfl : k = L.length := by omega
      have hf := HO.out
      rw [List.take_length] at hf
      have HF := Lib.hid hf
      clear hf
      go_wp2
      go_ret
      exact ⟨_, rfl, HF.out, HB.out⟩

set_option maxHeartbeats 1600000 in
set_option maxRecDepth 100000 in
theorem refUpH (v : Value) (L : List Fld) (h d : List UInt8) (w : World) (hr : ReadsF w v L) (hR : rightL L = true) (hL : HopRow L) (hh : h.length ≤ 1010) (hd : d.length ≤ 1000) :
    Calls Tryz.prog 18 #[v, .string (S h), .string (S d)] w fun e w' => ∃ v', e = .returned (.tuple #[v', .int .i64 (upE L h d)]) ∧ ReadsF w' v' (upV L h d) ∧ Below w.heap.size w w' := by
  have ST := Lib.hid (refStripH v L w hr hL)
  obtain ⟨ao0, cap0, rfl, _⟩ := hr
  have hS := strip_hop hL
  have SE := Lib.hid (fun u W hr => refSet u (stripL L) HostG h W hr hS.small ⟨show HostG.length ≤ _ by decide, show h.length ≤ _ by omega⟩ (by have := hS.len; omega))
  have TK := Lib.hid (fun W => refToken d (by omega) W)
  by_cases hz : setE (stripL L) (HostG, h) = 0
  · have hH : HopRow (hostedL L h) := set_hop hz hS (show HostG.length ≤ 1000 by decide)
    have e1 : upE L h d = if tokenL d = true then setE (hostedL L h) (canF L h d) else 11 := by unfold upE; rw [if_pos hR, if_pos hz]
    have e2 : upV L h d = if upE L h d = 0 then setL (hostedL L h) (canF L h d) else [] := rfl
    have e3 : setL (stripL L) (HostG, h) = hostedL L h := rfl
    have e4 : canF L h d = (CapG, canL (joinedL (hostedL L h) CapG) d) := rfl
    rw [hz, e3] at SE
    obtain ⟨H, hHe⟩ : ∃ H, hostedL L h = H := ⟨_, rfl⟩
    rw [e2, e1, e4]
    rw [hHe] at SE hH ⊢
    obtain ⟨Z, hZ⟩ : ∃ Z, stripL L = Z := ⟨_, rfl⟩
    rw [hZ] at ST SE
    unfold HostG at SE
    unfold fv at SE
    cases ht : tokenL d with
    | false =>
      rw [ht] at TK
      rw [if_neg (by simp), if_neg (by decide)]
      clear e1 e2 e3 e4 hR hL hS hz hH hHe hZ ht
      go_enter Tryz.func18, Tryz.ntmps18
      go_wp2_with (first
        | (go_at_call 19; refine Calls.mono ST.out ?_; rintro e w1 ⟨v1, rfl, ho1, hb1⟩; have R1 := Lib.hid ho1.reads; have HB1 := Lib.hid hb1; clear ho1 hb1)
        | (go_at_call 39; refine Calls.mono (SE.out _ _ R1.out) ?_; rintro e w2 ⟨v2, rfl, hr2, hb2⟩; have R2 := Lib.hid hr2; have HB2 := Lib.hid (HB1.out.trans (hb2.mono HB1.out.size)); clear hr2 hb2)
        | (go_at_call 22; refine Calls.mono (TK.out _) ?_; rintro e w' ⟨rfl, hw'⟩; obtain rfl := hw'.symm)
        | fail)
      go_ret2
      exact ⟨_, rfl, ReadsF.nil _, HB2.out⟩
    | true =>
      rw [ht] at TK
      have hxs : ∀ x ∈ (namedL H capS).map (·.2), x.length ≤ 10000 := fun x hx => by
        obtain ⟨f, hf, rfl⟩ := List.mem_map.1 hx
        have := (hH.each f (List.mem_filter.1 hf).1).2
        omega
      have hxl : ((namedL H capS).map (·.2)).length ≤ 1000 := by rw [List.length_map]; exact Nat.le_trans (List.length_filter_le _ _) (by have := hH.len; omega)
      have AL := Lib.hid (fun u W hr => refAll u H capS (by decide) W hr hH.small (by have := hH.len; omega))
      have JO := Lib.hid (fun u W (h : Reads W u ((namedL H capS).map (·.2))) => refJoined u _ W h hxs hxl)
      rw [show Lib.join ((namedL H capS).map (·.2)) [44, 32] = joinedL H capS from rfl, joined_named (show sameN capS CapG = true by decide)] at JO
      obtain ⟨xs, hxe⟩ : ∃ xs, (namedL H capS).map (·.2) = xs := ⟨_, rfl⟩
      rw [hxe] at AL JO
      have hjl := hH.joined CapG
      have hcl := canL_len (joinedL H CapG) d
      obtain ⟨s, hs⟩ : ∃ s, joinedL H CapG = s := ⟨_, rfl⟩
      rw [hs] at JO hjl hcl ⊢
      have TR := Lib.hid (fun W => refTrim s (by omega) W)
      have htl := trim_le s
      rw [if_pos rfl]
      have e5 : (if setE H (CapG, canL s d) = 0 then setL H (CapG, canL s d) else []) = setL H (CapG, canL s d) := by
        by_cases h0 : setE H (CapG, canL s d) = 0
        · rw [if_pos h0]
        · rw [if_neg h0]; unfold setL; rw [if_neg h0]
      rw [e5]
      obtain ⟨t, htt⟩ : ∃ t, trim s = t := ⟨_, rfl⟩
      rw [htt] at TR htl
      have hcase : (t.isEmpty = true ∧ canL s d = d ++ [61, 34, 69, 83, 73, 47, 49, 46, 48, 34]) ∨ (t.isEmpty = false ∧ canL s d = t ++ 44 :: 32 :: (d ++ [61, 34, 69, 83, 73, 47, 49, 46, 48, 34])) := by
        unfold canL esiQ
        rw [htt]
        cases t with
        | nil => left; simp
        | cons a r => right; simp
      obtain ⟨c, hc⟩ : ∃ c, canL s d = c := ⟨_, rfl⟩
      rw [hc] at hcl hcase ⊢
      have S2 := Lib.hid (fun c' (hc' : c' = c) u W hr => (show Calls Tryz.prog 39 #[u, fv (CapG, c')] W fun e w' => ∃ v', e = .returned (.tuple #[v', .int .i64 (setE H (CapG, c))]) ∧ ReadsF w' v' (setL H (CapG, c)) ∧ Below W.heap.size W w' from by
        rw [hc']
        exact refSet u H CapG c W hr hH.small ⟨show CapG.length ≤ _ by decide, show c.length ≤ _ by omega⟩ (by have := hH.len; omega)))
      obtain ⟨z2, hz2⟩ : ∃ z, setE H (CapG, c) = z := ⟨_, rfl⟩
      obtain ⟨K, hK⟩ : ∃ z, setL H (CapG, c) = z := ⟨_, rfl⟩
      rw [hz2, hK] at S2 ⊢
      unfold capS at AL
      unfold CapG fv at S2
      have hti : (t.length : Int) ≤ 60000 := by omega
      have hdi : (d.length : Int) ≤ 1000 := by omega
      clear e1 e2 e3 e4 e5 hR hL hS hz hH hHe hs hZ ht hjl hcl hz2 hK hxs hxl hxe htt hc
      have HCE := Lib.hid hcase
      clear hcase
      cases he : t.isEmpty with
      | true =>
        obtain rfl : t = [] := List.isEmpty_iff.1 he
        have HCC := Lib.hid (HCE.out.resolve_right (by simp))
        clear HCE he
        go_enter Tryz.func18, Tryz.ntmps18
        go_wp2_with (first
          | (go_at_call 19; refine Calls.mono ST.out ?_; rintro e w1 ⟨v1, rfl, ho1, hb1⟩; have R1 := Lib.hid ho1.reads; have HB1 := Lib.hid hb1; clear ho1 hb1)
          | (go_at_call 39; (with_reducible refine Calls.mono (SE.out _ _ R1.out) ?_); rintro e w2 ⟨v2, rfl, hr2, hb2⟩; have R2 := Lib.hid hr2; have HB2 := Lib.hid (HB1.out.trans (hb2.mono HB1.out.size)); clear hr2 hb2)
          | (go_at_call 22; refine Calls.mono (TK.out _) ?_; rintro e w' ⟨rfl, hw'⟩; obtain rfl := hw'.symm)
          | (go_at_call 10; refine Calls.mono (AL.out _ _ R2.out) ?_; rintro e w3 ⟨v3, rfl, ho3, hb3⟩; have R3 := Lib.hid ho3.reads; have R23 := Lib.hid (R2.out.below hb3); have HB3 := Lib.hid (HB2.out.trans (hb3.mono HB2.out.size)); clear ho3 hb3)
          | (go_at_call 40; refine Calls.mono (JO.out _ _ R3.out) ?_; rintro e w' ⟨rfl, hw'⟩; obtain rfl := hw'.symm)
          | (go_at_call 24; refine Calls.mono (TR.out _) ?_; rintro e w' ⟨rfl, hw'⟩; obtain rfl := hw'.symm)
          | (go_at_call 39; (refine Calls.mono (S2.out _ ?_ _ _ R23.out) ?_); (focus (first | (rw [HCC.out.2]; done) | (rw [HCC.out.2]; simp))); rintro e w5 ⟨v5, rfl, hr5, hb5⟩; have R5 := Lib.hid hr5; have HB5 := Lib.hid (HB3.out.trans (hb5.mono HB3.out.size)); clear hr5 hb5)
          | fail)
        go_ret2
        exact ⟨_, rfl, R5.out, HB5.out⟩
      | false =>
        have HCC := Lib.hid (HCE.out.resolve_left (by simp [he]))
        clear HCE
        go_enter Tryz.func18, Tryz.ntmps18
        go_wp2_with (first
          | (go_at_call 19; refine Calls.mono ST.out ?_; rintro e w1 ⟨v1, rfl, ho1, hb1⟩; have R1 := Lib.hid ho1.reads; have HB1 := Lib.hid hb1; clear ho1 hb1)
          | (go_at_call 39; (with_reducible refine Calls.mono (SE.out _ _ R1.out) ?_); rintro e w2 ⟨v2, rfl, hr2, hb2⟩; have R2 := Lib.hid hr2; have HB2 := Lib.hid (HB1.out.trans (hb2.mono HB1.out.size)); clear hr2 hb2)
          | (go_at_call 22; refine Calls.mono (TK.out _) ?_; rintro e w' ⟨rfl, hw'⟩; obtain rfl := hw'.symm)
          | (go_at_call 10; refine Calls.mono (AL.out _ _ R2.out) ?_; rintro e w3 ⟨v3, rfl, ho3, hb3⟩; have R3 := Lib.hid ho3.reads; have R23 := Lib.hid (R2.out.below hb3); have HB3 := Lib.hid (HB2.out.trans (hb3.mono HB2.out.size)); clear ho3 hb3)
          | (go_at_call 40; refine Calls.mono (JO.out _ _ R3.out) ?_; rintro e w' ⟨rfl, hw'⟩; obtain rfl := hw'.symm)
          | (go_at_call 24; refine Calls.mono (TR.out _) ?_; rintro e w' ⟨rfl, hw'⟩; obtain rfl := hw'.symm)
          | (go_at_call 39; (refine Calls.mono (S2.out _ ?_ _ _ R23.out) ?_); (focus (first | (rw [HCC.out.2]; done) | (rw [HCC.out.2]; simp))); rintro e w5 ⟨v5, rfl, hr5, hb5⟩; have R5 := Lib.hid hr5; have HB5 := Lib.hid (HB3.out.trans (hb5.mono HB3.out.size)); clear hr5 hb5)
          | fail)
        go_ret2
        exact ⟨_, rfl, R5.out, HB5.out⟩
  · have e1 : upE L h d = setE (stripL L) (HostG, h) := by unfold upE; rw [if_pos hR, if_neg hz]
    have e2 : upV L h d = [] := by unfold upV; rw [e1, if_neg hz]
    have hz' : (setE (stripL L) (HostG, h) != 0) = true := by simpa using hz
    rw [e1, e2]
    obtain ⟨z, hzz⟩ : ∃ z, setE (stripL L) (HostG, h) = z := ⟨_, rfl⟩
    rw [hzz] at SE hz' ⊢
    obtain ⟨Z, hZ⟩ : ∃ Z, stripL L = Z := ⟨_, rfl⟩
    rw [hZ] at ST SE
    unfold HostG at SE
    unfold fv at SE
    clear e1 e2 hR hL hS hz hzz hZ
    go_enter Tryz.func18, Tryz.ntmps18
    go_wp2_with (first
      | (go_at_call 19; refine Calls.mono ST.out ?_; rintro e w1 ⟨v1, rfl, ho1, hb1⟩; have R1 := Lib.hid ho1.reads; have HB1 := Lib.hid hb1; clear ho1 hb1)
      | (go_at_call 39; refine Calls.mono (SE.out _ _ R1.out) ?_; rintro e w2 ⟨v2, rfl, hr2, hb2⟩; have HB2 := Lib.hid (HB1.out.trans (hb2.mono HB1.out.size)); clear hr2 hb2)
      | fail)
    go_ret2
    exact ⟨_, rfl, ReadsF.nil _, HB2.out⟩

set_option maxHeartbeats 1600000 in
set_option maxRecDepth 100000 in
theorem refKeepsH (a b : ByteArray) (c : Int) (d : ByteArray) (m : Int) (v : Value) (L : List Fld) (w : World) (hr : ReadsF w v L) (hL : HopRow L) :
    Calls Tryz.prog 17 #[startV a b c d m, v] w fun e w' => e = .returned (.bool (keepsW m (hopWords L))) ∧ Below w.heap.size w w' := by
  have WO := Lib.hid (fun W (hb : Below w.heap.size w W) => refHopWords v L W (hr.below hb) hL)
  obtain ⟨A, hA⟩ : ∃ A, hopWords L = A := ⟨_, rfl⟩
  rw [hA] at WO ⊢
  have H1 := Lib.hid (fun u W h => refHas u A [99, 108, 111, 115, 101] W h)
  have H2 := Lib.hid (fun u W h => refHas u A [107, 101, 101, 112, 45, 97, 108, 105, 118, 101] W h)
  unfold keepsW
  obtain ⟨ao0, cap0, rfl, _⟩ := hr
  obtain ⟨M, hM2⟩ : ∃ M, (m == 1) = M := ⟨_, rfl⟩
  rw [show decide (m = 1) = M by rw [← hM2]; rfl]
  unfold startV
  clear hL hA
  cases hc : decide ([99, 108, 111, 115, 101] ∈ A) with
  | true =>
    rw [hc] at H1
    rw [if_pos (of_decide_eq_true hc)]
    clear hc
    go_enter Tryz.func17, Tryz.ntmps17
    go_wp2_with (first
      | (go_at_call 37; refine Calls.mono (WO.out _ (by (repeat (first | (with_reducible exact Below.refl _ _) | (with_reducible assumption) | (with_reducible refine Below.drew ?_) | (focus ((with_reducible refine Below.setCell ?_ ?_ _); rotate_left; (first | omega | (simp <;> omega)))) | (focus ((with_reducible refine Below.alloc ?_ ?_ _); rotate_left; (first | omega | (simp <;> omega)))) | exact Below.refl _ _ | assumption | refine Below.drew ?_ | refine Below.alloc ?_ (by first | omega | (simp <;> omega)) _ | refine Below.setCell ?_ (by first | omega | (simp <;> omega)) _)))) ?_; rintro e w1 ⟨v1, rfl, ho1, hb1⟩; have R1 := Lib.hid ho1.reads; have HB1 := Lib.hid (Below.trans (show Below w.heap.size w _ by (repeat (first | (with_reducible exact Below.refl _ _) | (with_reducible assumption) | (with_reducible refine Below.drew ?_) | (focus ((with_reducible refine Below.setCell ?_ ?_ _); rotate_left; (first | omega | (simp <;> omega)))) | (focus ((with_reducible refine Below.alloc ?_ ?_ _); rotate_left; (first | omega | (simp <;> omega)))) | exact Below.refl _ _ | assumption | refine Below.drew ?_ | refine Below.alloc ?_ (by first | omega | (simp <;> omega)) _ | refine Below.setCell ?_ (by first | omega | (simp <;> omega)) _))) (hb1.mono (by (first | omega | (simp <;> omega))))); clear ho1 hb1)
      | (go_at_call 38; (with_reducible refine Calls.mono (H1.out _ _ R1.out) ?_); rintro e w' ⟨rfl, hw'⟩; obtain rfl := hw'.symm)
      | fail)
    go_ret
    exact ⟨rfl, HB1.out⟩
  | false =>
    rw [hc] at H1
    rw [if_neg (of_decide_eq_false hc)]
    obtain ⟨K, hK⟩ : ∃ K, decide ([107, 101, 101, 112, 45, 97, 108, 105, 118, 101] ∈ A) = K := ⟨_, rfl⟩
    rw [hK] at H2 ⊢
    clear hc hK
    cases K
    all_goals
      go_enter Tryz.func17, Tryz.ntmps17
      go_wp2_with (first
        | (go_at_call 37; refine Calls.mono (WO.out _ (by (repeat (first | (with_reducible exact Below.refl _ _) | (with_reducible assumption) | (with_reducible refine Below.drew ?_) | (focus ((with_reducible refine Below.setCell ?_ ?_ _); rotate_left; (first | omega | (simp <;> omega)))) | (focus ((with_reducible refine Below.alloc ?_ ?_ _); rotate_left; (first | omega | (simp <;> omega)))) | exact Below.refl _ _ | assumption | refine Below.drew ?_ | refine Below.alloc ?_ (by first | omega | (simp <;> omega)) _ | refine Below.setCell ?_ (by first | omega | (simp <;> omega)) _)))) ?_; rintro e w1 ⟨v1, rfl, ho1, hb1⟩; have R1 := Lib.hid ho1.reads; have HB1 := Lib.hid (Below.trans (show Below w.heap.size w _ by (repeat (first | (with_reducible exact Below.refl _ _) | (with_reducible assumption) | (with_reducible refine Below.drew ?_) | (focus ((with_reducible refine Below.setCell ?_ ?_ _); rotate_left; (first | omega | (simp <;> omega)))) | (focus ((with_reducible refine Below.alloc ?_ ?_ _); rotate_left; (first | omega | (simp <;> omega)))) | exact Below.refl _ _ | assumption | refine Below.drew ?_ | refine Below.alloc ?_ (by first | omega | (simp <;> omega)) _ | refine Below.setCell ?_ (by first | omega | (simp <;> omega)) _))) (hb1.mono (by (first | omega | (simp <;> omega))))); obtain ⟨c1, c2⟩ := bk hb1 w.heap.size (by (first | omega | (simp <;> omega))); have q4 := c1 4; (conv at q4 => rhs; simp [go_sem, *]); clear ho1 hb1 c1 c2)
        | (go_at_call 38; (with_reducible refine Calls.mono (H1.out _ _ R1.out) ?_); rintro e w' ⟨rfl, hw'⟩; obtain rfl := hw'.symm)
        | (go_at_call 38; (with_reducible refine Calls.mono (H2.out _ _ R1.out) ?_); rintro e w' ⟨rfl, hw'⟩; obtain rfl := hw'.symm)
        | fail)
      go_ret
      exact ⟨ret_bool (by simp), HB1.out⟩
end Go.Proofs.YtcfihoniocamaaaGreatDoor
