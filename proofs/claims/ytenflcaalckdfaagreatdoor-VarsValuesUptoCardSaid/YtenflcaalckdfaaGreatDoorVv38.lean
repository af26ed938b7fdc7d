/- The document's Languages: the walk. -/
import Derived.Test.YtenflcaalckdfaaGreatDoorVv16
import Derived.Test.YtenflcaalckdfaaGreatDoorVv37
namespace Go.Proofs.YtenflcaalckdfaaGreatDoor
open Go.RowKit Go.Sort Go.Shelf
set_option linter.unusedVariables false

set_option maxHeartbeats 3200000 in
set_option maxRecDepth 100000 in
theorem refPLanguages (s : List UInt8) (hs : s.length ≤ 100000) (w : World) :
    Calls Tryz.prog 36 #[.string (S s)] w fun e w' => ∃ v, e = .returned v ∧ Owns w' w.heap.size v (langsL s) ∧ Below w.heap.size w w' := by
  have SP := Lib.hid (fun W => refPSplit s 44 44 rfl (by omega) W)
  have hlen := split_len s 44
  have hcnt := split_count s 44
  have hpos := split_pos s 44
  unfold langsL
  obtain ⟨ss, hss⟩ : ∃ x, Lib.split s [44] = x := ⟨_, rfl⟩
  rw [hss] at SP hlen hcnt hpos ⊢
  have HL := Lib.hid hlen
  have hss1 : (ss.length : Int) ≤ 1000001 := by omega
  have TR := Lib.hid (fun t ht W => refTrim t ht W)
  have LO := Lib.hid (fun t ht W => refLower t ht W)
  have CU := Lib.hid (fun t ht W => refCut t 59 ht W)
  have h0 : Owns (w.alloc (.cells #[] 9)) w.heap.size (.slice (some ⟨w.heap.size, 0, none⟩) 0 0) [] := Owns.made w _ (Nat.le_refl _)
  have H0 := Lib.hid h0
  clear hss hlen h0
  go_enter Tryz.func36, Tryz.ntmps36
  go_wp2_with (go_at_call 71; refine Calls.mono (SP.out _) ?_; rintro e w1 ⟨v1, rfl, hown1, hb1⟩; obtain ⟨g, cap, rfl, hc1, hc2, hg, hcells⟩ := hown1.at 0 hpos; have HC := Lib.hid hcells; have HW1 := Lib.hid hown1; have HBB1 := Lib.hid hb1; clear hcells hown1 hb1)
  have hown1 := HW1.out
  have hb1 := HBB1.out
  have hgb : w.heap.size < g := by
    have := (World.ownsRow.lt hown1 g rfl).1
    simp at this; omega
  have HB1 := Lib.hid (show Below w.heap.size w w1 from Below.trans (by (repeat (first | with_reducible exact Below.refl _ _ | with_reducible assumption | with_reducible refine Below.drew ?_ | (with_reducible refine Below.setCell ?_ ?_ _; rotate_left; (first | omega | (simp <;> omega))) | (with_reducible refine Below.alloc ?_ ?_ _; rotate_left; (first | omega | (simp <;> omega))) | exact Below.refl _ _ | assumption))) (hb1.mono (by simp)))
  have H1 := Lib.hid (H0.out.below hb1)
  clear hown1 hb1
  go_loopw [3, 17] (fun ov iv wr => ∃ k : Nat, iv = .int .i64 k ∧ k ≤ ss.length ∧ Owns wr w.heap.size ov ((ss.take k).foldl langStep []) ∧ ov.ownBlock ≠ some g ∧ wr.heap[g]? = w1.heap[g]? ∧ g < wr.heap.size ∧ Below w.heap.size w wr) (fun _ iv _ => ss.length - (intOf iv).toNat)
  case atStart => exact ⟨0, rfl, Nat.zero_le _, H1.out, by simp [Value.ownBlock]; omega, rfl, hg, HB1.out⟩
  case round =>
    obtain ⟨k, rfl, hk, hown, hne, hblk, hlt, hB⟩ := hrel
    have HO := Lib.hid hown
    have HNE := Lib.hid hne
    have HBK := Lib.hid hblk
    have HB := Lib.hid hB
    have hz := hB.size
    clear hne hblk hB
    by_cases hkl : k < ss.length
    · have e1 := (World.cell?_of_block (a := ⟨g, k, none⟩) HBK.out).trans (HC.out k hkl)
      have hpl := HL.out _ (List.getElem_mem hkl)
      have htk : (ss.take (k + 1)).foldl langStep [] = langStep ((ss.take k).foldl langStep []) ss[k] := by
        rw [List.take_succ_eq_append_getElem hkl, List.foldl_append, List.foldl_cons, List.foldl_nil]
      have hpre : ((ss.take k).foldl langStep []).length ≤ 1000001 := by have := langs_len (ss.take k) []; rw [List.length_take, List.length_nil] at this; omega
      obtain ⟨out, hout⟩ : ∃ x, (ss.take k).foldl langStep [] = x := ⟨_, rfl⟩
      rw [hout] at HO htk hpre hown
      obtain ⟨p, hp⟩ : ∃ p, ss[k] = p := ⟨_, rfl⟩
      rw [hp] at e1 hpl htk
      obtain ⟨c1, c2⟩ := cut1_len p 59
      have C := CU.out p (by omega)
      have hst : langStep out p = if (lower (trim (cut1 p 59).1)).isEmpty = true ∨ lower (trim (cut1 p 59).1) ∈ out then out else out ++ [lower (trim (cut1 p 59).1)] := rfl
      rw [hst] at htk
      obtain ⟨⟨x, y, z⟩, hxyz⟩ : ∃ q, cut1 p 59 = q := ⟨_, rfl⟩
      rw [hxyz] at C htk c1 c2
      simp only at C htk c1 c2
      have C := Lib.hid C
      have T1 := TR.out x (by omega)
      have lx := trim_len x
      obtain ⟨tx, htx⟩ : ∃ q, trim x = q := ⟨_, rfl⟩
      rw [htx] at T1 htk lx
      have T1 := Lib.hid T1
      have L1 := LO.out tx (by omega)
      obtain ⟨n, hn⟩ : ∃ q, lower tx = q := ⟨_, rfl⟩
      rw [hn] at L1 htk
      have L1 := Lib.hid L1
      have HT := Lib.hid htk
      obtain ⟨ao, capo, rfl, ho1, ho2, hao, _⟩ := hown.shape
      have hm : maxLen = 9223372036854775807 := rfl
      rw [hm] at ho2
      have hou1 : (out.length : Int) ≤ 1000001 := by omega
      have HAO := Lib.hid hao
      clear htk hp hout hst hxyz htx hn hown hm hao
      obtain ⟨E, hE⟩ : ∃ E, n.isEmpty = E := ⟨_, rfl⟩
      have HE := Lib.hid hE
      go_wp2_with (first
        | (go_at_call 72; refine Calls.mono (C.out _) ?_; rintro e w2 ⟨rfl, hb2⟩; have hz2 := hb2.size)
        | (go_at_call 73; with_reducible refine Calls.mono (T1.out _) ?_; rintro e w' ⟨rfl, hw'⟩; obtain rfl := hw'.symm)
        | (go_at_call 37; with_reducible refine Calls.mono (L1.out _) ?_; rintro e w3 ⟨rfl, hb3⟩; have hz3 := hb3.size)
        | fail)
      have hb23 := hb2.trans (hb3.mono hz2)
      have HB23 := Lib.hid hb23
      have HO3 := Lib.hid (HO.out.below hb23)
      have hbg : w3.heap[g]? = wr.heap[g]? := hb23.block g hlt
      have HBG := Lib.hid hbg
      clear hbg hb23
      go_loop [10, 34] (fun pv iv => ∃ j : Nat, iv = .int .i64 j ∧ j ≤ out.length ∧ pv = .bool (E || (out.take j).any (fun x => x == n))) (fun _ iv => out.length - (intOf iv).toNat)
      case atStart => exact ⟨0, rfl, Nat.zero_le _, by simp⟩
      case round =>
        obtain ⟨j, rfl, hj, rfl⟩ := hrel
        by_cases hjl : j < out.length
        · obtain ⟨g2, cap2, e2, _, _, hg2, hc2⟩ := HO3.out.at j hjl
          injection e2 with e3 e4 e5
          subst e3
          have e6 := hc2 j hjl
          have hta : (out.take (j + 1)).any (fun x => x == n) = ((out.take j).any (fun x => x == n) || (out[j] == n)) := by
            rw [List.take_succ_eq_append_getElem hjl, List.any_append]; simp
          obtain ⟨q, hq⟩ : ∃ q, out[j] = q := ⟨_, rfl⟩
          rw [hq] at e6 hta
          obtain ⟨A, hA⟩ : ∃ A, (out.take j).any (fun x => x == n) = A := ⟨_, rfl⟩
          rw [hA] at hta ⊢
          obtain ⟨b, hb⟩ : ∃ b, (q == n) = b := ⟨_, rfl⟩
          rw [hb] at hta
          have HTA := Lib.hid hta
          clear hq hA hta hc2 e5
          obtain ⟨M, hM⟩ : ∃ M, (E || A) = M := ⟨_, rfl⟩
          have HMM := Lib.hid hM
          rw [hM]
          clear hM
          cases M with
          | true =>
            go_wp2
            go_round
            case rel => exact ⟨j + 1, by go_num, by omega, by rw [HTA.out, ← Bool.or_assoc, HMM.out]; rfl⟩
            case measure => simp [intOf]; omega
          | false =>
            go_wp2
            go_round
            case rel => exact ⟨j + 1, by go_num, by omega, by rw [HTA.out, ← Bool.or_assoc, HMM.out]; simp⟩
            case measure => simp [intOf]; omega
        · obtain rfl : j = out.length := by omega
          rw [List.take_length]
          have hin : (E || out.any (fun x => x == n)) = decide (n.isEmpty = true ∨ n ∈ out) := by
            rw [Bool.eq_iff_iff, decide_eq_true_eq, Bool.or_eq_true, HE.out, List.any_eq_true]
            constructor
            · rintro (h | ⟨y, hy, h⟩)
              · exact .inl h
              · exact .inr (by have : y = n := by simpa using h
                               exact this ▸ hy)
            · rintro (h | h)
              · exact .inl h
              · exact .inr ⟨n, h, by simp⟩
          by_cases hkn : n.isEmpty = true ∨ n ∈ out
          · rw [hin, decide_eq_true hkn]
            have HT2 := Lib.hid (show (ss.take (k + 1)).foldl langStep [] = out by rw [HT.out, if_pos hkn])
            clear hin hkn
            go_wp2
            go_roundw
            case rel => exact ⟨k + 1, by go_num, by omega, by rw [HT2.out]; exact HO3.out, HNE.out, HBG.out.trans HBK.out, by omega, HB.out.trans (HB23.out.mono hz)⟩
            case measure => simp [intOf]; omega
          · rw [hin, decide_eq_false hkn]
            have HT2 := Lib.hid (show (ss.take (k + 1)).foldl langStep [] = out ++ [n] by rw [HT.out, if_neg hkn])
            clear hin hkn
            go_wp2_with (at_builtin; refine wp_append_text_at rfl _ _ rfl _ w.heap.size _ out n HO3.out rfl _ rfl rfl (by omega) (by omega) ?_; intro v6 w6 hown6 hb6 hk6; have HO6 := Lib.hid hown6; have HB6 := Lib.hid hb6; obtain ⟨hk61, hk62⟩ := hk6 g (by omega) HNE.out; have HK61 := Lib.hid hk61; have HK62 := Lib.hid hk62; clear hown6 hb6 hk6 hk61 hk62)
            have hz6 := HB6.out.size
            have hg6 : g < w6.heap.size := by
              have h1 := HK61.out
              rcases Nat.lt_or_ge g w6.heap.size with h | h
              · exact h
              · rw [Array.getElem?_eq_none h, Array.getElem?_eq_getElem (show g < w3.heap.size by omega)] at h1; cases h1
            go_roundw
            case rel => exact ⟨k + 1, by go_num, by omega, by rw [HT2.out]; exact HO6.out, HK62.out, HK61.out.trans (HBG.out.trans HBK.out), hg6, HB.out.trans ((HB23.out.mono hz).trans HB6.out)⟩
            case measure => simp [intOf]; omega
    · obtain rfl : k = ss.length := by omega
      have hf := HO.out
      rw [List.take_length] at hf
      have HF := Lib.hid hf
      obtain ⟨ao, cap', rfl, _⟩ := hf.shape
      go_wp2
      go_ret
      exact ⟨_, rfl, HF.out, HB.out⟩
end Go.Proofs.YtenflcaalckdfaaGreatDoor
