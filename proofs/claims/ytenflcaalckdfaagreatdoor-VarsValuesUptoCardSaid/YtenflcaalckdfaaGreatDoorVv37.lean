/- The document's Query and Cookies: the walks. -/
import Derived.Test.YtenflcaalckdfaaGreatDoorVv31
import Derived.Test.YtenflcaalckdfaaGreatDoorVv34
import Derived.Test.YtenflcaalckdfaaGreatDoorVv35
import Derived.Test.YtenflcaalckdfaaGreatDoorVv36
import Derived.Test.YtenflcaalckdfaaGreatDoorVv14
namespace Go.Proofs.YtenflcaalckdfaaGreatDoor
open Go.RowKit Go.Sort Go.Shelf
set_option linter.unusedVariables false

theorem split_pos (s : List UInt8) (c : UInt8) : 0 < (Lib.split s [c]).length := by rw [split_step]; simp

set_option maxHeartbeats 1600000 in
set_option maxRecDepth 100000 in
theorem refPQuery (s : List UInt8) (hs : s.length ≤ 100000) (w : World) :
    Calls Tryz.prog 35 #[.string (S s)] w fun e w' => ∃ v, e = .returned v ∧ OwnsF w' w.heap.size v (queryL s) ∧ Below w.heap.size w w' := by
  have SP := Lib.hid (fun W => refPSplit s 38 38 rfl (by omega) W)
  have hlen := split_len s 38
  have hcnt := split_count s 38
  have hpos := split_pos s 38
  unfold queryL
  obtain ⟨ss, hss⟩ : ∃ x, Lib.split s [38] = x := ⟨_, rfl⟩
  rw [hss] at SP hlen hcnt hpos ⊢
  have HL := Lib.hid hlen
  have hss1 : (ss.length : Int) ≤ 1000001 := by omega
  have PL := Lib.hid (fun t ht W => refPlain t ht W)
  have CU := Lib.hid (fun t ht W => refCut t 61 ht W)
  have h0 : OwnsF (w.alloc (.cells #[] 87)) w.heap.size (.slice (some ⟨w.heap.size, 0, none⟩) 0 0) [] := OwnsF.made w _ (Nat.le_refl _)
  have H0 := Lib.hid h0
  clear hss hlen h0
  go_enter Tryz.func35, Tryz.ntmps35
  go_wp2_with (go_at_call 71; refine Calls.mono (SP.out _) ?_; rintro e w1 ⟨v1, rfl, hown1, hb1⟩; obtain ⟨g, cap, rfl, hc1, hc2, hg, hcells⟩ := hown1.at 0 hpos; have HC := Lib.hid hcells; have HW1 := Lib.hid hown1; have HBB1 := Lib.hid hb1; clear hcells hown1 hb1)
  have hown1 := HW1.out
  have hb1 := HBB1.out
  have hgb : w.heap.size < g := by
    have := (World.ownsRow.lt hown1 g rfl).1
    simp at this; omega
  have HB1 := Lib.hid (show Below w.heap.size w w1 from Below.trans (by (repeat (first | with_reducible exact Below.refl _ _ | with_reducible assumption | with_reducible refine Below.drew ?_ | (with_reducible refine Below.setCell ?_ ?_ _; rotate_left; (first | omega | (simp <;> omega))) | (with_reducible refine Below.alloc ?_ ?_ _; rotate_left; (first | omega | (simp <;> omega))) | exact Below.refl _ _ | assumption))) (hb1.mono (by simp)))
  have H1 := Lib.hid (H0.out.below hb1)
  clear hown1 hb1
  go_loopw [3, 13] (fun ov iv wr => ∃ k : Nat, iv = .int .i64 k ∧ k ≤ ss.length ∧ OwnsF wr w.heap.size ov ((someL (ss.take k)).map pairOf) ∧ ov.ownBlock ≠ some g ∧ wr.heap[g]? = w1.heap[g]? ∧ g < wr.heap.size ∧ Below w.heap.size w wr) (fun _ iv _ => ss.length - (intOf iv).toNat)
  case atStart => exact ⟨0, rfl, Nat.zero_le _, H1.out, by simp [Value.ownBlock]; omega, rfl, hg, HB1.out⟩
  case round =>
    obtain ⟨k, rfl, hk, hown, hne, hblk, hlt, hB⟩ := hrel
    have HO := Lib.hid hown
    have HNE := Lib.hid hne
    have HBK := Lib.hid hblk
    have HB := Lib.hid hB
    have hz := hB.size
    clear hown hne hblk hB
    by_cases hkl : k < ss.length
    · have e1 := (World.cell?_of_block (a := ⟨g, k, none⟩) HBK.out).trans (HC.out k hkl)
      have hpl := HL.out _ (List.getElem_mem hkl)
      have htk : (someL (ss.take (k + 1))).map pairOf = (someL (ss.take k)).map pairOf ++ (if ss[k].isEmpty then [] else [pairOf ss[k]]) := by
        rw [List.take_succ_eq_append_getElem hkl, someL_snoc, List.map_append]
        cases ss[k].isEmpty <;> simp
      have hpre : ((someL (ss.take k)).map pairOf).length ≤ 1000001 := by have := someL_len (ss.take k); rw [List.length_take] at this; rw [List.length_map]; omega
      obtain ⟨out, hout⟩ : ∃ x, (someL (ss.take k)).map pairOf = x := ⟨_, rfl⟩
      rw [hout] at HO htk hpre
      obtain ⟨p, hp⟩ : ∃ p, ss[k] = p := ⟨_, rfl⟩
      rw [hp] at e1 hpl htk
      have HT := Lib.hid htk
      clear htk hp hout
      cases he : p.isEmpty with
      | true =>
        go_wp2
        go_roundw
        case rel => exact ⟨k + 1, by go_num, by omega, by rw [HT.out, he]; simpa using HO.out, HNE.out, HBK.out, hlt, HB.out⟩
        case measure => simp [intOf]; omega
      | false =>
        have hpo : pairOf p = (plainL (cut1 p 61).1, plainL (cut1 p 61).2.1) := rfl
        obtain ⟨c1, c2⟩ := cut1_len p 61
        have C := CU.out p (by omega)
        obtain ⟨⟨x, y, z⟩, hxyz⟩ : ∃ q, cut1 p 61 = q := ⟨_, rfl⟩
        rw [hxyz] at C hpo c1 c2
        simp only at C hpo c1 c2
        have C := Lib.hid C
        have P1 := PL.out x (by omega)
        have P2 := PL.out y (by omega)
        obtain ⟨px, hpx⟩ : ∃ q, plainL x = q := ⟨_, rfl⟩
        obtain ⟨py, hpy⟩ : ∃ q, plainL y = q := ⟨_, rfl⟩
        rw [hpx] at P1 hpo
        rw [hpy] at P2 hpo
        have P1 := Lib.hid P1
        have P2 := Lib.hid P2
        have HPO := Lib.hid hpo
        clear hxyz hpx hpy hpo
        go_wp2_with (first
          | (go_at_call 72; refine Calls.mono (C.out _) ?_; rintro e w2 ⟨rfl, hb2⟩; have hz2 := hb2.size)
          | (go_at_call 75; with_reducible refine Calls.mono (P1.out _) ?_; rintro e w3 ⟨rfl, hb3⟩; have hz3 := hb3.size)
          | (go_at_call 75; with_reducible refine Calls.mono (P2.out _) ?_; rintro e w4 ⟨rfl, hb4⟩; have hz4 := hb4.size; have hbw4 := hb2.trans ((hb3.trans (hb4.mono hz3)).mono hz2))
          | (at_builtin; refine wp_append_fld_at rfl _ _ rfl _ w.heap.size _ out (px, py) (HO.out.below hbw4) rfl _ rfl rfl (by omega) (by omega) ?_; intro v6 w6 hown6 hb6 hk6; have HO6 := Lib.hid hown6; have HB6 := Lib.hid hb6; obtain ⟨hk61, hk62⟩ := hk6 g (by omega) HNE.out; have HK61 := Lib.hid hk61; have HK62 := Lib.hid hk62; clear hown6 hb6 hk6 hk61 hk62)
          | fail)
        have hz6 := HB6.out.size
        have hbg : w4.heap[g]? = wr.heap[g]? := hbw4.block g hlt
        have hg6 : g < w6.heap.size := by
          have h1 := HK61.out
          rcases Nat.lt_or_ge g w6.heap.size with h | h
          · exact h
          · rw [Array.getElem?_eq_none h, Array.getElem?_eq_getElem (show g < w4.heap.size by omega)] at h1; cases h1
        go_roundw
        case rel => exact ⟨k + 1, by go_num, by omega, by rw [HT.out, he, HPO.out]; exact HO6.out, HK62.out, HK61.out.trans (hbg.trans HBK.out), hg6, HB.out.trans ((hbw4.mono hz).trans HB6.out)⟩
        case measure => simp [intOf]; omega
    · obtain rfl : k = ss.length := by omega
      have hf := HO.out
      rw [List.take_length] at hf
      have HF := Lib.hid hf
      obtain ⟨ao, cap', rfl, _⟩ := hf.reads
      go_wp2
      go_ret
      exact ⟨_, rfl, HF.out, HB.out⟩

set_option maxHeartbeats 1600000 in
set_option maxRecDepth 100000 in
theorem refPCookies (s : List UInt8) (hs : s.length ≤ 100000) (w : World) :
    Calls Tryz.prog 34 #[.string (S s)] w fun e w' => ∃ v, e = .returned v ∧ OwnsF w' w.heap.size v (cookiesL s) ∧ Below w.heap.size w w' := by
  have SP := Lib.hid (fun W => refPSplit s 59 59 rfl (by omega) W)
  have hlen := split_len s 59
  have hcnt := split_count s 59
  have hpos := split_pos s 59
  have hckl : cookiesL s = (Lib.split s [59]).flatMap cookieR := by
    unfold cookiesL
    induction Lib.split s [59] with
    | nil => rfl
    | cons p l ih =>
      rw [List.flatMap_cons, ← ih, ← cookie_same]
      unfold someL
      cases he : p.isEmpty with
      | true =>
        rw [List.filter_cons_of_neg (by simp [he])]
        obtain rfl : p = [] := by simpa using he
        rfl
      | false => rw [List.filter_cons_of_pos (by simp [he]), List.flatMap_cons]
  rw [hckl]
  obtain ⟨ss, hss⟩ : ∃ x, Lib.split s [59] = x := ⟨_, rfl⟩
  rw [hss] at SP hlen hcnt hpos ⊢
  have HL := Lib.hid hlen
  have hss1 : (ss.length : Int) ≤ 1000001 := by omega
  have TR := Lib.hid (fun t ht W => refTrim t ht W)
  have UN := Lib.hid (fun t ht W => refUnquote t ht W)
  have CU := Lib.hid (fun t ht W => refCut t 61 ht W)
  have h0 : OwnsF (w.alloc (.cells #[] 87)) w.heap.size (.slice (some ⟨w.heap.size, 0, none⟩) 0 0) [] := OwnsF.made w _ (Nat.le_refl _)
  have H0 := Lib.hid h0
  have HLE := Lib.hid (show ∀ l : List (List UInt8), (l.flatMap cookieR).length ≤ l.length from fun l => by
    have e : l.flatMap cookieR = l.flatMap cookieOf := by congr 1; funext p; exact (cookie_same p).symm
    rw [e]; exact cookies_len l)
  clear hss hlen h0 hckl
  go_enter Tryz.func34, Tryz.ntmps34
  go_wp2_with (go_at_call 71; refine Calls.mono (SP.out _) ?_; rintro e w1 ⟨v1, rfl, hown1, hb1⟩; obtain ⟨g, cap, rfl, hc1, hc2, hg, hcells⟩ := hown1.at 0 hpos; have HC := Lib.hid hcells; have HW1 := Lib.hid hown1; have HBB1 := Lib.hid hb1; clear hcells hown1 hb1)
  have hown1 := HW1.out
  have hb1 := HBB1.out
  have hgb : w.heap.size < g := by
    have := (World.ownsRow.lt hown1 g rfl).1
    simp at this; omega
  have HB1 := Lib.hid (show Below w.heap.size w w1 from Below.trans (by (repeat (first | with_reducible exact Below.refl _ _ | with_reducible assumption | with_reducible refine Below.drew ?_ | (with_reducible refine Below.setCell ?_ ?_ _; rotate_left; (first | omega | (simp <;> omega))) | (with_reducible refine Below.alloc ?_ ?_ _; rotate_left; (first | omega | (simp <;> omega))) | exact Below.refl _ _ | assumption))) (hb1.mono (by simp)))
  have H1 := Lib.hid (H0.out.below hb1)
  clear hown1 hb1
  go_loopw [3, 17] (fun ov iv wr => ∃ k : Nat, iv = .int .i64 k ∧ k ≤ ss.length ∧ OwnsF wr w.heap.size ov ((ss.take k).flatMap cookieR) ∧ ov.ownBlock ≠ some g ∧ wr.heap[g]? = w1.heap[g]? ∧ g < wr.heap.size ∧ Below w.heap.size w wr) (fun _ iv _ => ss.length - (intOf iv).toNat)
  case atStart => exact ⟨0, rfl, Nat.zero_le _, H1.out, by simp [Value.ownBlock]; omega, rfl, hg, HB1.out⟩
  case round =>
    obtain ⟨k, rfl, hk, hown, hne, hblk, hlt, hB⟩ := hrel
    have HO := Lib.hid hown
    have HNE := Lib.hid hne
    have HBK := Lib.hid hblk
    have HB := Lib.hid hB
    have hz := hB.size
    clear hown hne hblk hB
    by_cases hkl : k < ss.length
    · have e1 := (World.cell?_of_block (a := ⟨g, k, none⟩) HBK.out).trans (HC.out k hkl)
      have hpl := HL.out _ (List.getElem_mem hkl)
      have htk : (ss.take (k + 1)).flatMap cookieR = (ss.take k).flatMap cookieR ++ cookieR ss[k] := by
        rw [List.take_succ_eq_append_getElem hkl, List.flatMap_append, List.flatMap_cons, List.flatMap_nil, List.append_nil]
      have hpre : ((ss.take k).flatMap cookieR).length ≤ 1000001 := by have := HLE.out (ss.take k); rw [List.length_take] at this; omega
      obtain ⟨out, hout⟩ : ∃ x, (ss.take k).flatMap cookieR = x := ⟨_, rfl⟩
      rw [hout] at HO htk hpre
      obtain ⟨p, hp⟩ : ∃ p, ss[k] = p := ⟨_, rfl⟩
      rw [hp] at e1 hpl htk
      obtain ⟨c1, c2⟩ := cut1_len p 61
      have C := CU.out p (by omega)
      have hck : cookieR p = (if (cut1 p 61).2.2 = true ∧ (trim (cut1 p 61).1).isEmpty = false then [(trim (cut1 p 61).1, bareV (trim (cut1 p 61).2.1))] else []) := rfl
      rw [hck] at htk
      obtain ⟨⟨x, y, z⟩, hxyz⟩ : ∃ q, cut1 p 61 = q := ⟨_, rfl⟩
      rw [hxyz] at C htk c1 c2
      simp only at C htk c1 c2
      have C := Lib.hid C
      have T1 := TR.out x (by omega)
      have T2 := TR.out y (by omega)
      have ly := trim_len y
      obtain ⟨na, hna⟩ : ∃ q, trim x = q := ⟨_, rfl⟩
      obtain ⟨vb, hvb⟩ : ∃ q, trim y = q := ⟨_, rfl⟩
      rw [hna] at T1 htk
      rw [hvb] at T2 htk ly
      have T1 := Lib.hid T1
      have T2 := Lib.hid T2
      have U := UN.out vb (by omega)
      have hbv : bareV vb = if unqE vb = 0 then unqL vb else vb := rfl
      have hue := unqE_cases vb
      obtain ⟨ub, hub⟩ : ∃ x, unqL vb = x := ⟨_, rfl⟩
      obtain ⟨ue, hue2⟩ : ∃ x, unqE vb = x := ⟨_, rfl⟩
      rw [hub, hue2] at U hbv
      rw [hue2] at hue
      have U := Lib.hid U
      rw [hbv] at htk
      have HT := Lib.hid htk
      clear htk hp hout hck hxyz hna hvb hbv hub hue2
      have hcase : z = false ∨ (z = true ∧ na.isEmpty = true) ∨ (z = true ∧ na.isEmpty = false ∧ ue = 0) ∨ (z = true ∧ na.isEmpty = false ∧ ue = 11) := by
        cases z
        · exact .inl rfl
        · cases na.isEmpty
          · rcases hue with h | h
            · exact .inr (.inr (.inl ⟨rfl, rfl, h⟩))
            · exact .inr (.inr (.inr ⟨rfl, rfl, h⟩))
          · exact .inr (.inl ⟨rfl, rfl⟩)
      rcases hcase with rfl | ⟨rfl, hna⟩ | ⟨rfl, hna, rfl⟩ | ⟨rfl, hna, rfl⟩
      · have HT2 := Lib.hid (show (ss.take (k + 1)).flatMap cookieR = out by rw [HT.out]; simp)
        rcases hue with rfl | rfl
        all_goals
          go_wp2_with (first
            | (go_at_call 72; refine Calls.mono (C.out _) ?_; rintro e w2 ⟨rfl, hb2⟩; have hz2 := hb2.size)
            | (go_at_call 73; with_reducible refine Calls.mono (T1.out _) ?_; rintro e w' ⟨rfl, hw'⟩; obtain rfl := hw'.symm)
            | (go_at_call 73; with_reducible refine Calls.mono (T2.out _) ?_; rintro e w' ⟨rfl, hw'⟩; obtain rfl := hw'.symm)
            | (go_at_call 74; with_reducible refine Calls.mono (U.out _) ?_; rintro e w' ⟨rfl, hw'⟩; obtain rfl := hw'.symm)
            | fail)
          go_roundw
          case rel => exact ⟨k + 1, by go_num, by omega, by rw [HT2.out]; exact HO.out.below hb2, HNE.out, (hb2.block g hlt).trans HBK.out, by omega, HB.out.trans (hb2.mono hz)⟩
          case measure => simp [intOf]; omega
      · have HT2 := Lib.hid (show (ss.take (k + 1)).flatMap cookieR = out by rw [HT.out, hna]; simp)
        rcases hue with rfl | rfl
        all_goals
          go_wp2_with (first
            | (go_at_call 72; refine Calls.mono (C.out _) ?_; rintro e w2 ⟨rfl, hb2⟩; have hz2 := hb2.size)
            | (go_at_call 73; with_reducible refine Calls.mono (T1.out _) ?_; rintro e w' ⟨rfl, hw'⟩; obtain rfl := hw'.symm)
            | (go_at_call 73; with_reducible refine Calls.mono (T2.out _) ?_; rintro e w' ⟨rfl, hw'⟩; obtain rfl := hw'.symm)
            | (go_at_call 74; with_reducible refine Calls.mono (U.out _) ?_; rintro e w' ⟨rfl, hw'⟩; obtain rfl := hw'.symm)
            | fail)
          go_roundw
          case rel => exact ⟨k + 1, by go_num, by omega, by rw [HT2.out]; exact HO.out.below hb2, HNE.out, (hb2.block g hlt).trans HBK.out, by omega, HB.out.trans (hb2.mono hz)⟩
          case measure => simp [intOf]; omega
      · have HT2 := Lib.hid (show (ss.take (k + 1)).flatMap cookieR = out ++ [(na, ub)] by rw [HT.out, hna]; simp)
        go_wp2_with (first
          | (go_at_call 72; refine Calls.mono (C.out _) ?_; rintro e w2 ⟨rfl, hb2⟩; have hz2 := hb2.size)
          | (go_at_call 73; with_reducible refine Calls.mono (T1.out _) ?_; rintro e w' ⟨rfl, hw'⟩; obtain rfl := hw'.symm)
          | (go_at_call 73; with_reducible refine Calls.mono (T2.out _) ?_; rintro e w' ⟨rfl, hw'⟩; obtain rfl := hw'.symm)
          | (go_at_call 74; with_reducible refine Calls.mono (U.out _) ?_; rintro e w' ⟨rfl, hw'⟩; obtain rfl := hw'.symm)
          | (at_builtin; refine wp_append_fld_at rfl _ _ rfl _ w.heap.size _ out (na, ub) (HO.out.below hb2) rfl _ rfl rfl (by omega) (by omega) ?_; intro v6 w6 hown6 hb6 hk6; have HO6 := Lib.hid hown6; have HB6 := Lib.hid hb6; obtain ⟨hk61, hk62⟩ := hk6 g (by omega) HNE.out; have HK61 := Lib.hid hk61; have HK62 := Lib.hid hk62; clear hown6 hb6 hk6 hk61 hk62)
          | fail)
        have hz6 := HB6.out.size
        have hbg : w2.heap[g]? = wr.heap[g]? := hb2.block g hlt
        have hg6 : g < w6.heap.size := by
          have h1 := HK61.out
          rcases Nat.lt_or_ge g w6.heap.size with h | h
          · exact h
          · rw [Array.getElem?_eq_none h, Array.getElem?_eq_getElem (show g < w2.heap.size by omega)] at h1; cases h1
        go_roundw
        case rel => exact ⟨k + 1, by go_num, by omega, by rw [HT2.out]; exact HO6.out, HK62.out, HK61.out.trans (hbg.trans HBK.out), hg6, HB.out.trans ((hb2.mono hz).trans HB6.out)⟩
        case measure => simp [intOf]; omega
      · have HT2 := Lib.hid (show (ss.take (k + 1)).flatMap cookieR = out ++ [(na, vb)] by rw [HT.out, hna]; simp)
        go_wp2_with (first
          | (go_at_call 72; refine Calls.mono (C.out _) ?_; rintro e w2 ⟨rfl, hb2⟩; have hz2 := hb2.size)
          | (go_at_call 73; with_reducible refine Calls.mono (T1.out _) ?_; rintro e w' ⟨rfl, hw'⟩; obtain rfl := hw'.symm)
          | (go_at_call 73; with_reducible refine Calls.mono (T2.out _) ?_; rintro e w' ⟨rfl, hw'⟩; obtain rfl := hw'.symm)
          | (go_at_call 74; with_reducible refine Calls.mono (U.out _) ?_; rintro e w' ⟨rfl, hw'⟩; obtain rfl := hw'.symm)
          | (at_builtin; refine wp_append_fld_at rfl _ _ rfl _ w.heap.size _ out (na, vb) (HO.out.below hb2) rfl _ rfl rfl (by omega) (by omega) ?_; intro v6 w6 hown6 hb6 hk6; have HO6 := Lib.hid hown6; have HB6 := Lib.hid hb6; obtain ⟨hk61, hk62⟩ := hk6 g (by omega) HNE.out; have HK61 := Lib.hid hk61; have HK62 := Lib.hid hk62; clear hown6 hb6 hk6 hk61 hk62)
          | fail)
        have hz6 := HB6.out.size
        have hbg : w2.heap[g]? = wr.heap[g]? := hb2.block g hlt
        have hg6 : g < w6.heap.size := by
          have h1 := HK61.out
          rcases Nat.lt_or_ge g w6.heap.size with h | h
          · exact h
          · rw [Array.getElem?_eq_none h, Array.getElem?_eq_getElem (show g < w2.heap.size by omega)] at h1; cases h1
        go_roundw
        case rel => exact ⟨k + 1, by go_num, by omega, by rw [HT2.out]; exact HO6.out, HK62.out, HK61.out.trans (hbg.trans HBK.out), hg6, HB.out.trans ((hb2.mono hz).trans HB6.out)⟩
        case measure => simp [intOf]; omega
    · obtain rfl : k = ss.length := by omega
      have hf := HO.out
      rw [List.take_length] at hf
      have HF := Lib.hid hf
      obtain ⟨ao, cap', rfl, _⟩ := hf.reads
      go_wp2
      go_ret
      exact ⟨_, rfl, HF.out, HB.out⟩
end Go.Proofs.YtenflcaalckdfaaGreatDoor
