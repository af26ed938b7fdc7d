/- The law TableGrows: its walk. -/
import Derived.Test.YtbdfidilmaefhaaDoorTableFew
namespace Go.Proofs.YtbdfidilmaefhaaDoor
open Go.RowKit Go.Sort Go.Shelf
set_option linter.unusedVariables false

theorem right_grow {N : List Fld} {f : Fld} (h : rightL N = true) (hf : mayL f = true) (hl : N.length < 40) : rightL (N ++ [f]) = true := by
  unfold rightL at *
  simp only [Bool.and_eq_true, decide_eq_true_eq, List.all_append] at *
  exact ⟨by simp; omega, h.2, by simp [hf]⟩

set_option maxHeartbeats 3200000 in
set_option maxRecDepth 100000 in
theorem tableGrows_any (v : Value) (L : List (List Value)) (w : World) (hv : RowsIn w 2 v L ∧ ∀ c ∈ L, AllSh [.str, .str] c) (_hL : True) :
    Calls Tryd.prog 3 #[v] w fun e w' => e = .returned (.bool true) ∧ Below w.heap.size w w' := by
  obtain ⟨xs, hr0, hxl⟩ := reads_inF hv
  have C0 := Lib.hid (few v xs w hr0 hxl)
  clear hr0 hxl hv
  obtain ⟨T, hT⟩ : ∃ T, fewL xs = T := ⟨_, rfl⟩
  have hTs : ∀ f ∈ T, Small f := by rw [← hT]; exact fewL_small xs
  have hTl : T.length ≤ 45 := by rw [← hT]; exact fewL_len xs
  rw [hT] at C0
  clear hT
  go_enter Tryd.func3, Tryd.ntmps3
  go_wp2_with fail
  refine C0.out.mono ?_
  rintro e w1 ⟨v', rfl, hr, hb0⟩
  obtain ⟨ao, cap, rfl, hc1, hc2, _, hcell⟩ := hr
  have hm : maxLen = 9223372036854775807 := rfl
  rw [hm] at hc2
  have HC := Lib.hid hcell
  have HTS := Lib.hid hTs
  have HB0 := Lib.hid hb0
  clear hm hcell hTs C0 hb0
  go_wp2
  go_loopw [3, 4, 14] (fun nv wv kv wr => ∃ k : Nat, ∃ N : List Fld, kv = .int .i64 k ∧ k ≤ T.length ∧ OwnsF wr w1.heap.size nv N ∧ OwnsF wr w1.heap.size wv N ∧ rightL N = true ∧ (∀ f ∈ N, Small f) ∧ N.length ≤ k ∧ Below w1.heap.size w1 wr) (fun _ _ kv _ => T.length - (intOf kv).toNat)
  case atStart => exact ⟨0, [], rfl, Nat.zero_le _, OwnsF.nil _ _, OwnsF.nil _ _, by decide, (fun f hf => by cases hf), Nat.le_refl _, by (repeat (first | exact Below.refl _ _ | assumption | refine Below.drew ?_ | refine Below.alloc ?_ (by first | omega | (simp <;> omega)) _ | refine Below.setCell ?_ (by first | omega | (simp <;> omega)) _))⟩
  case round =>
    obtain ⟨k, N, rfl, hk, hown1, hown2, hright, hsm, hlenN, hB⟩ := hrel
    have HR := Lib.hid hright
    have HSM := Lib.hid hsm
    have hz := hB.size
    obtain ⟨bo1, cap1, rfl, k1, k2, _, _⟩ := hown1.reads
    obtain ⟨bo2, cap2, rfl, k3, k4, _, _⟩ := hown2.reads
    have HO1 := Lib.hid hown1
    have HO2 := Lib.hid hown2
    have hm : maxLen = 9223372036854775807 := rfl
    rw [hm] at k2 k4
    clear hright hsm hown1 hown2 hm
    by_cases hlt : k < T.length
    · obtain ⟨b, off, rfl, hb, hcl⟩ := HC.out (by omega)
      obtain ⟨e1, e2⟩ := hcl k hlt
      rw [← hB.cell (p := ⟨b, off + k * 2, none⟩) hb] at e1
      rw [← hB.cell (p := ⟨b, off + k * 2 + 1, none⟩) hb] at e2
      have hsf := HTS.out _ (List.getElem_mem hlt)
      obtain ⟨⟨n, x⟩, hf⟩ : ∃ f, T[k] = f := ⟨_, rfl⟩
      rw [hf] at e1 e2 hsf
      simp only at e1 e2
      have HSF := Lib.hid hsf
      have CM := Lib.hid (fun W => refMay n x hsf.1 hsf.2 W)
      unfold fv at CM
      simp only at CM
      have HE := Lib.hid (show addE N (n, x) = if mayL (n, x) = true then (if N.length < 40 then 0 else 4) else 1 from by
        unfold addE; rw [HR.out]; simp)
      have HL := Lib.hid (show addL N (n, x) = if addE N (n, x) = 0 then N ++ [(n, x)] else [] from rfl)
      have HG := Lib.hid (fun (h1 : mayL (n, x) = true) (h2 : N.length < 40) => right_grow HR.out h1 h2)
      obtain ⟨m, hmm⟩ : ∃ m, mayL (n, x) = m := ⟨_, rfl⟩
      rw [hmm] at CM HE HG
      clear hcl hf hmm hsf
      go_wp2_with fail
      refine (tableAdd _ N n x _ ((HO1.out.below (by (repeat (first | exact Below.refl _ _ | assumption | refine Below.drew ?_ | refine Below.alloc ?_ (by first | omega | (simp <;> omega)) _ | refine Below.setCell ?_ (by first | omega | (simp <;> omega)) _)))).reads) HSM.out HSF.out).mono ?_
      rintro e w2 ⟨xv, hownx, rfl, hb2⟩
      obtain ⟨hcc, hff⟩ := bk hb2 wr.heap.size (by simp)
      have hcc0 := hcc 0
      have hcc1 := hcc 1
      simp [go_sem] at hcc0 hcc1
      have hz2 := hb2.size
      simp at hz2
      have hbw2 := Below.trans (show Below wr.heap.size wr _ by (repeat (first | exact Below.refl _ _ | assumption | refine Below.drew ?_ | refine Below.alloc ?_ (by first | omega | (simp <;> omega)) _ | refine Below.setCell ?_ (by first | omega | (simp <;> omega)) _))) (hb2.mono (by simp))
      have HX := Lib.hid (hownx.base (show wr.heap.size ≤ _ by simp))
      have HOR := Lib.hid HO2.out
      clear hcc hff hownx hb2
      cases m with
      | false =>
        have ee : addE N (n, x) = 1 := by rw [HE.out]; simp
        have el : addL N (n, x) = [] := by rw [HL.out, ee]; rfl
        rw [ee]
        rw [el] at HX
        obtain ⟨bo3, cap3, rfl, k5, k6, _, _⟩ := HX.out.reads
        clear ee el
        go_wp2_with (go_at_call 9; refine (CM.out _).mono ?_; rintro e w3 ⟨rfl, hb3⟩; have hbw3 := Below.trans hbw2 (hb3.mono (by (first | omega | (simp <;> omega)))))
        go_roundw
        case rel => exact ⟨k + 1, N, by go_num, by omega, HO1.out.below hbw3, HO2.out.below hbw3, HR.out, HSM.out, by omega, hB.trans (hbw3.mono hz)⟩
        case measure => simp [intOf]; omega
      | true =>
        by_cases hl40 : N.length < 40
        · have ee : addE N (n, x) = 0 := by rw [HE.out]; simp [hl40]
          have el : addL N (n, x) = N ++ [(n, x)] := by rw [HL.out, ee]; rfl
          rw [ee]
          rw [el] at HX
          clear ee el
          go_wp2_with (first
            | (go_at_call 9; refine (CM.out _).mono ?_; rintro e w3 ⟨rfl, hb3⟩; have hbw3 := Below.trans hbw2 (hb3.mono (by (first | omega | (simp <;> omega)))); obtain ⟨hdd, hee⟩ := bk hb3 wr.heap.size (by (first | omega | (simp <;> omega))); have hdd0 := (hdd 0).trans hcc0; have hdd1 := (hdd 1).trans hcc1; have hz3 := hb3.size; clear hdd hee)
            | (at_builtin; refine wp_append_fld rfl _ _ rfl _ w1.heap.size _ N (n, x) (HO2.out.below hbw3) rfl _ rfl rfl (by omega) (by omega) ?_; intro v4 w4 hown4 hb4 hg4; have HX4 := Lib.hid (OwnsF.apart (OwnsF.below (HX.out.below hb3) (by (repeat (first | exact Below.refl _ _ | assumption | refine Below.drew ?_ | refine Below.alloc ?_ (by first | omega | (simp <;> omega)) _ | refine Below.setCell ?_ (by first | omega | (simp <;> omega)) _)))) HOR.out (Nat.le_refl _) hg4); have HO4 := Lib.hid hown4; have hbw4 := Below.trans (hB.trans (hbw3.mono hz)) hb4; clear hown4 hg4))
          go_roundw
          case rel => exact ⟨k + 1, N ++ [(n, x)], by go_num, by omega, HX4.out.base hz, HO4.out, HG.out trivial hl40, (fun f hf => by
            rcases List.mem_append.1 hf with hf | hf
            · exact HSM.out f hf
            · simp at hf; subst hf; exact HSF.out), by simp; omega, hbw4⟩
          case measure => simp [intOf]; omega
        · have ee : addE N (n, x) = 4 := by rw [HE.out]; simp [hl40]
          have el : addL N (n, x) = [] := by rw [HL.out, ee]; rfl
          rw [ee]
          rw [el] at HX
          obtain ⟨bo3, cap3, rfl, k5, k6, _, _⟩ := HX.out.reads
          clear ee el
          go_wp2_with (go_at_call 9; refine (CM.out _).mono ?_; rintro e w3 ⟨rfl, hb3⟩; have hbw3 := Below.trans hbw2 (hb3.mono (by (first | omega | (simp <;> omega)))))
          go_roundw
          case rel => exact ⟨k + 1, N, by go_num, by omega, HO1.out.below hbw3, HO2.out.below hbw3, HR.out, HSM.out, by omega, hB.trans (hbw3.mono hz)⟩
          case measure => simp [intOf]; omega
    · go_wp2_with fail
      refine (alive _).mono ?_
      rintro e w2 ⟨rfl, hb2⟩
      have R1 := (HO1.out.below hb2).reads
      have R2 := (HO2.out.below hb2).reads
      have C2 := refLike _ _ N N w2 R1 R2
      have hNN : (N == N) = true := by simp
      rw [hNN] at C2
      go_wp2_with fail
      refine C2.mono ?_
      rintro e w3 ⟨rfl, hb3⟩
      have C3 := tableRight _ N w3 (R1.below hb3) HSM.out
      rw [HR.out] at C3
      go_wp2_with fail
      refine C3.mono ?_
      rintro e w4 ⟨rfl, hb4⟩
      have h1 := HB0.out.trans (hB.mono HB0.out.size)
      have h2 := h1.trans (hb2.mono h1.size)
      have h3 := h2.trans (hb3.mono h2.size)
      have h4 := h3.trans (hb4.mono h3.size)
      go_wp2
      go_ret
      exact ⟨rfl, h4⟩
end Go.Proofs.YtbdfidilmaefhaaDoor
