/- The law PairsBack: its walk. -/
import Derived.Test.YtpapefegfghakaaDoorPairsReads
import Derived.Test.YtpapefegfghakaaDoorPairsClean
import Derived.Test.YtpapefegfghakaaDoorPairIn
import Derived.Deep.RegionWith
namespace Go.Proofs.YtpapefegfghakaaDoor
open Go.RowKit Go.Sort Go.Shelf
set_option linter.unusedVariables false

theorem queryT_snoc (W : List Fld) (f : Fld) : queryT (W ++ [f]) = queryT W ++ (38 :: (f.1 ++ 61 :: f.2)) := by simp [queryT, enc1]
theorem cookieT_snoc (W : List Fld) (f : Fld) : cookieT (W ++ [f]) = cookieT W ++ (f.1 ++ ([32, 61, 32] ++ (f.2 ++ [59, 32]))) := by simp [cookieT]

set_option maxHeartbeats 3200000 in
set_option maxRecDepth 100000 in
theorem pairsBack_any (v : Value) (L : List (List Value)) (w : World) (hv : RowsIn w 2 v L ∧ ∀ c ∈ L, AllSh [.str, .str] c) (_hL : True) (hM : ∃ m, w.cell? ⟨0, 0, none⟩ = some (.int .i64 m)) :
    Calls Tryd.prog 3 #[v] w fun e w' => e = .returned (.bool true) ∧ Below w.heap.size w w' := by
  obtain ⟨xs, hr0, hxl⟩ := reads_inF hv
  obtain ⟨ao, cap, rfl, hc1, hc2, _, hcell⟩ := hr0
  have hm : maxLen = 9223372036854775807 := rfl
  rw [hm] at hc2
  have HC := Lib.hid hcell
  have HX := Lib.hid hxl
  have HM := Lib.hid (fun W hb => mlen_later hM W hb)
  have AL := Lib.hid (fun W h => pairs_alive W h)
  have hlenf : ∀ W : List Fld, (∃ k, W = (xs.take k).map cleanP) → (∀ f ∈ W, Clean f) ∧ (∀ f ∈ W, f.1.length ≤ 31 ∧ f.2.length ≤ 30) := by
    rintro W ⟨k, rfl⟩
    refine ⟨fun f hf => ?_, fun f hf => ?_⟩
    · obtain ⟨g, _, rfl⟩ := List.mem_map.1 hf
      exact cleanP_clean g
    · obtain ⟨g, _, rfl⟩ := List.mem_map.1 hf
      have h1 := clean_len g.1
      have h2 := clean_len g.2
      refine ⟨?_, h2⟩
      show (cleanL g.1 ++ [110]).length ≤ 31
      rw [List.length_append]; simp; omega
  have HLF := Lib.hid hlenf
  clear hcell hxl hM hm hlenf hv
  go_enter Tryd.func3, Tryd.ntmps3
  go_wp2
  simp only [mk_S]
  go_loopw [3, 4, 5, 12] (fun wv qv cv iv wr => ∃ k : Nat, iv = .int .i64 k ∧ k ≤ xs.length ∧ k ≤ 12 ∧ OwnsF wr w.heap.size wv ((xs.take k).map cleanP) ∧ qv = .string (S (queryT ((xs.take k).map cleanP))) ∧ cv = .string (S (cookieT ((xs.take k).map cleanP))) ∧ Below w.heap.size w wr) (fun _ _ _ iv _ => xs.length - (intOf iv).toNat)
  case atStart => exact ⟨0, rfl, Nat.zero_le _, Nat.zero_le _, OwnsF.nil _ _, rfl, rfl, Below.refl _ _⟩
  case round =>
    obtain ⟨k, rfl, hk, hk12, hown, rfl, rfl, hB⟩ := hrel
    have HB := Lib.hid hB
    have hz := hB.size
    obtain ⟨hcl, hll⟩ := HLF.out ((xs.take k).map cleanP) ⟨k, rfl⟩
    obtain ⟨hq1, hq2⟩ := queryT_len _ hll
    have hwl : ((xs.take k).map cleanP).length ≤ 12 := by rw [List.length_map, List.length_take]; omega
    have htk : ∀ h : k < xs.length, (xs.take (k + 1)).map cleanP = (xs.take k).map cleanP ++ [cleanP xs[k]] := fun h => by
      rw [List.take_succ_eq_append_getElem h, List.map_append]; rfl
    have HTK := Lib.hid htk
    have HCL := Lib.hid hcl
    obtain ⟨W, hW⟩ : ∃ W, (xs.take k).map cleanP = W := ⟨_, rfl⟩
    rw [hW] at HTK HCL hq1 hq2 hwl hown ⊢
    have HO := Lib.hid hown
    clear htk hcl hll hW hown
    obtain ⟨Q, hQ⟩ : ∃ Q, queryT W = Q := ⟨_, rfl⟩
    obtain ⟨K, hK⟩ : ∃ K, cookieT W = K := ⟨_, rfl⟩
    rw [hQ] at hq1 ⊢
    rw [hK] at hq2 ⊢
    have hQl : (Q.length : Int) ≤ 1200 := by omega
    have hKl : (K.length : Int) ≤ 1200 := by omega
    by_cases hgo : k < xs.length ∧ k < 12
    · obtain ⟨hlt, h12⟩ := hgo
      have h12i : (k : Int) < 12 := by omega
      obtain ⟨b, off, rfl, hb, hcl⟩ := HC.out (by omega)
      obtain ⟨e1, e2⟩ := hcl k hlt
      rw [← hB.cell (p := ⟨b, off + k * 2, none⟩) hb] at e1
      rw [← hB.cell (p := ⟨b, off + k * 2 + 1, none⟩) hb] at e2
      obtain ⟨hx1, hx2⟩ := HX.out _ (List.getElem_mem hlt)
      have htk := HTK.out hlt
      obtain ⟨⟨n, x⟩, hf⟩ : ∃ f, xs[k] = f := ⟨_, rfl⟩
      rw [hf] at e1 e2 hx1 hx2 htk
      simp only at e1 e2 hx1 hx2
      have C1 := Lib.hid (fun W' => pairsClean n hx1 W')
      have C2 := Lib.hid (fun W' => pairsClean x hx2 W')
      have hl1 := clean_len n
      have hl2 := clean_len x
      rw [show cleanP (n, x) = (cleanL n ++ [110], cleanL x) from rfl] at htk
      obtain ⟨cn, hcn⟩ : ∃ q, cleanL n = q := ⟨_, rfl⟩
      obtain ⟨cx, hcx⟩ : ∃ q, cleanL x = q := ⟨_, rfl⟩
      rw [hcn, hcx] at htk
      rw [hcn] at C1 hl1
      rw [hcx] at C2 hl2
      have HT := Lib.hid htk
      have HQ := Lib.hid hQ
      have HK := Lib.hid hK
      have hcn1 : (cn.length : Int) ≤ 30 := by omega
      have hcx1 : (cx.length : Int) ≤ 30 := by omega
      have hbz : b < wr.heap.size := by omega
      have hfb := far hbz
      clear hcl hf htk hcn hcx hQ hK hB
      go_upto_region 7 with fail
      go_cut [8, 9] (fun nv xv wx => nv = .string (S (cn ++ [110])) ∧ xv = .string (S cx) ∧ Below wr.heap.size wr wx)
      case first =>
        as_aux_lemma =>
          go_region_with (first
            | (go_at_call 8; with_reducible refine Calls.mono (C1.out _) ?_; rintro e w' ⟨rfl, hw'⟩; obtain rfl := hw'.symm)
            | (go_at_call 8; with_reducible refine Calls.mono (C2.out _) ?_; rintro e w' ⟨rfl, hw'⟩; obtain rfl := hw'.symm))
          all_goals (go_wp2_with fail; go_meet; exact ⟨by simp [go_sem, *], by simp [go_sem, *], by (repeat (first | (with_reducible exact Below.refl _ _) | (with_reducible assumption) | (with_reducible refine Below.drew ?_) | (focus ((with_reducible refine Below.setCell ?_ ?_ _); rotate_left; (first | omega | (simp <;> omega)))) | (focus ((with_reducible refine Below.alloc ?_ ?_ _); rotate_left; (first | omega | (simp <;> omega)))) | exact Below.refl _ _ | assumption | refine Below.drew ?_ | refine Below.alloc ?_ (by first | omega | (simp <;> omega)) _ | refine Below.setCell ?_ (by first | omega | (simp <;> omega)) _))⟩)
      case rest =>
        obtain ⟨rfl, rfl, hbx⟩ := hcut
        obtain ⟨wx, hwx⟩ : ∃ x, x = wc := ⟨_, rfl⟩
        rw [← hwx] at hbx ⊢
        clear hwx
        have hzx := hbx.size
        go_wp2_with (at_builtin; refine wp_append_fld rfl _ _ rfl _ w.heap.size _ W (cn ++ [110], cx) (HO.out.below hbx) rfl _ rfl rfl (by omega) (by (first | omega | (simp <;> omega))) ?_; intro v6 w6 hown6 hb6 hg6; have HO6 := Lib.hid hown6; have HB6 := Lib.hid (Below.trans HB.out (Below.trans (Below.mono hbx hz) hb6)); clear hown6 hb6 hg6)
        go_roundw
        case rel => exact ⟨k + 1, by go_num, by omega, by omega, by rw [HT.out]; exact HO6.out, by rw [HT.out, queryT_snoc, HQ.out]; simp, by rw [HT.out, cookieT_snoc, HK.out]; simp, HB6.out⟩
        case measure => simp [intOf]; omega
    · have QB := query_back W HCL.out
      have KB := cookie_back W HCL.out
      rw [hQ] at QB
      rw [hK] at KB
      have CQ := fun W' h => pairsQuery Q (by omega) W' h
      have CC := fun W' h => pairsCookies K (by omega) W' h
      rw [QB] at CQ
      rw [KB] at CC
      have CQ := Lib.hid CQ
      have CC := Lib.hid CC
      clear QB KB hQ hK
      have hcase : k = xs.length ∨ (k < xs.length ∧ k = 12) := by omega
      clear hgo
      rcases hcase with rfl | ⟨hlt, rfl⟩
      · go_wp2_with fail
        refine Calls.mono (AL.out _ (HM.out _ HB.out)) ?_
        rintro e w1 ⟨rfl, hb1⟩
        have hB1 := HB.out.trans (hb1.mono hz)
        have hz1 := hB1.size
        have O1 := Lib.hid (HO.out.below hb1)
        go_wp2_with fail
        refine Calls.mono (CQ.out _ (HM.out _ hB1)) ?_
        rintro e w2 ⟨v2, rfl, ho2, hb2⟩
        have hB2 := hB1.trans (hb2.mono hz1)
        have hz2 := hB2.size
        have R2 := Lib.hid ho2.reads
        have O2 := Lib.hid (O1.out.below hb2)
        clear ho2
        go_wp2_with fail
        refine Calls.mono (pSame_true W _ _ _ R2.out O2.out.reads) ?_
        rintro e w3 ⟨rfl, hb3⟩
        have hB3 := hB2.trans (hb3.mono hz2)
        have hz3 := hB3.size
        have O3 := Lib.hid (O2.out.below hb3)
        go_wp2_with fail
        refine Calls.mono (CC.out _ (HM.out _ hB3)) ?_
        rintro e w4 ⟨v4, rfl, ho4, hb4⟩
        have hB4 := hB3.trans (hb4.mono hz3)
        have hz4 := hB4.size
        have R4 := Lib.hid ho4.reads
        have O4 := Lib.hid (O3.out.below hb4)
        clear ho4
        go_wp2_with fail
        refine Calls.mono (pSame_true W _ _ _ R4.out O4.out.reads) ?_
        rintro e w5 ⟨rfl, hb5⟩
        have hB5 := hB4.trans (hb5.mono hz4)
        go_wp2
        go_ret
        exact ⟨ret_bool (by simp), hB5⟩
      · obtain ⟨b, off, rfl, hb, hcl⟩ := HC.out (by omega)
        obtain ⟨e1, e2⟩ := hcl 12 hlt
        rw [← hB.cell (p := ⟨b, off + 12 * 2, none⟩) hb] at e1
        rw [← hB.cell (p := ⟨b, off + 12 * 2 + 1, none⟩) hb] at e2
        have h12 : (12 : Int) < xs.length := by omega
        clear hcl
        go_wp2_with fail
        refine Calls.mono (AL.out _ (HM.out _ (by have := HB.out; (repeat (first | (with_reducible exact Below.refl _ _) | (with_reducible assumption) | (with_reducible refine Below.drew ?_) | (focus ((with_reducible refine Below.setCell ?_ ?_ _); rotate_left; (first | omega | (simp <;> omega)))) | (focus ((with_reducible refine Below.alloc ?_ ?_ _); rotate_left; (first | omega | (simp <;> omega)))) | exact Below.refl _ _ | assumption | refine Below.drew ?_ | refine Below.alloc ?_ (by first | omega | (simp <;> omega)) _ | refine Below.setCell ?_ (by first | omega | (simp <;> omega)) _))))) ?_
        rintro e w1 ⟨rfl, hb1⟩
        have hb1' : Below wr.heap.size wr w1 := Below.trans (by (repeat (first | (with_reducible exact Below.refl _ _) | (with_reducible assumption) | (with_reducible refine Below.drew ?_) | (focus ((with_reducible refine Below.setCell ?_ ?_ _); rotate_left; (first | omega | (simp <;> omega)))) | (focus ((with_reducible refine Below.alloc ?_ ?_ _); rotate_left; (first | omega | (simp <;> omega)))) | exact Below.refl _ _ | assumption | refine Below.drew ?_ | refine Below.alloc ?_ (by first | omega | (simp <;> omega)) _ | refine Below.setCell ?_ (by first | omega | (simp <;> omega)) _))) (hb1.mono (by (first | omega | (simp <;> omega))))
        have hB1 := HB.out.trans (hb1'.mono hz)
        have hz1 := hB1.size
        have O1 := Lib.hid (HO.out.below hb1')
        go_wp2_with fail
        refine Calls.mono (CQ.out _ (HM.out _ hB1)) ?_
        rintro e w2 ⟨v2, rfl, ho2, hb2⟩
        have hB2 := hB1.trans (hb2.mono hz1)
        have hz2 := hB2.size
        have R2 := Lib.hid ho2.reads
        have O2 := Lib.hid (O1.out.below hb2)
        clear ho2
        go_wp2_with fail
        refine Calls.mono (pSame_true W _ _ _ R2.out O2.out.reads) ?_
        rintro e w3 ⟨rfl, hb3⟩
        have hB3 := hB2.trans (hb3.mono hz2)
        have hz3 := hB3.size
        have O3 := Lib.hid (O2.out.below hb3)
        go_wp2_with fail
        refine Calls.mono (CC.out _ (HM.out _ hB3)) ?_
        rintro e w4 ⟨v4, rfl, ho4, hb4⟩
        have hB4 := hB3.trans (hb4.mono hz3)
        have hz4 := hB4.size
        have R4 := Lib.hid ho4.reads
        have O4 := Lib.hid (O3.out.below hb4)
        clear ho4
        go_wp2_with fail
        refine Calls.mono (pSame_true W _ _ _ R4.out O4.out.reads) ?_
        rintro e w5 ⟨rfl, hb5⟩
        have hB5 := hB4.trans (hb5.mono hz4)
        go_wp2
        go_ret
        exact ⟨ret_bool (by simp), hB5⟩
end Go.Proofs.YtpapefegfghakaaDoor
