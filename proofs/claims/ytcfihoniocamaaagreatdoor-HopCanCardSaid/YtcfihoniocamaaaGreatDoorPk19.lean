/- The names that are gone: the walk of hop.gone. Fields without what is for the next one alone: the walk of hop.Strip. -/
import Derived.Test.YtcfihoniocamaaaGreatDoorPk18
namespace Go.Proofs.YtcfihoniocamaaaGreatDoor
open Go.RowKit Go.Sort Go.Shelf
set_option linter.unusedVariables false

theorem SetIs.same {W w' : World} {b n : Nat} {L : List (List UInt8)} (h : SetIs W b n L) (hb : w'.heap[b]? = W.heap[b]?) : SetIs w' b n L := by
  obtain ⟨D, ⟨es, clock, h0, h1⟩, h2, h3⟩ := h
  exact ⟨D, ⟨es, clock, by rw [hb]; exact h0, h1⟩, h2, h3⟩
theorem Below.map_grown {W w' : World} {b B : Nat} (hg : W.grownBy w' (some b)) (hb : B ≤ b) (hB : B ≤ W.heap.size) : Below B W w' :=
  Below.grown (Below.refl _ _) hg hB (fun k hk => by cases hk; exact hb)
theorem fixed_cells (W : World) : ∀ j (h : j < fixed8.length), (W.alloc (.cells #[.string (S [99, 111, 110, 110, 101, 99, 116, 105, 111, 110]), .string (S [107, 101, 101, 112, 45, 97, 108, 105, 118, 101]), .string (S [112, 114, 111, 120, 121, 45, 99, 111, 110, 110, 101, 99, 116, 105, 111, 110]), .string (S [116, 101]), .string (S [116, 114, 97, 105, 108, 101, 114]), .string (S [116, 114, 97, 110, 115, 102, 101, 114, 45, 101, 110, 99, 111, 100, 105, 110, 103]), .string (S [117, 112, 103, 114, 97, 100, 101]), .string (S [99, 111, 110, 116, 101, 110, 116, 45, 108, 101, 110, 103, 116, 104])] 9)).cell? ⟨W.heap.size, j, none⟩ = some (.string (S fixed8[j])) := by
  intro j h
  have h8 : j < 8 := h
  rw [World.cell?_alloc_new]
  match j, h8 with
  | 0, _ | 1, _ | 2, _ | 3, _ | 4, _ | 5, _ | 6, _ | 7, _ => rfl

set_option maxHeartbeats 1600000 in
set_option maxRecDepth 100000 in
theorem hopGone (v : Value) (L : List Fld) (w : World) (hr : ReadsF w v L) (hL : HopRow L) (hM : ∃ m, w.cell? ⟨0, 0, none⟩ = some (.int .i64 m)) :
    Calls Tryz.prog 33 #[v] w fun e w' => ∃ n, e = .returned (.map (some w.heap.size)) ∧ SetIs w' w.heap.size n (hopWords L ++ fixed8) ∧ Below w.heap.size w w' := by
  have hb0 : Below w.heap.size w (w.alloc (.map #[] 0)) := (Below.refl _ _).alloc (Nat.le_refl _) _
  have S0 := Lib.hid (SetIs.made w)
  have WO := Lib.hid (hopWords_c v L (w.alloc (.map #[] 0)) (hr.below hb0) hL (by obtain ⟨m, hm⟩ := hM; exact ⟨m, (hb0.cell (p := ⟨0, 0, none⟩) (block_lt_of_cell hm)).trans hm⟩))
  have hwl := words_len (joinedL L connL)
  have hwe := words_each (joinedL L connL)
  have hjl := hL.joined connL
  have hWd : hopWords L = wordsOf (joinedL L connL) := rfl
  rw [← hWd] at hwl hwe
  obtain ⟨A, hA⟩ : ∃ A, hopWords L = A := ⟨_, rfl⟩
  rw [hA] at WO hwl hwe ⊢
  have hfe : ∀ x ∈ A ++ fixed8, x.length ≤ 100000 := fun x hx => by
    rcases List.mem_append.1 hx with h | h
    · have := hwe x h; omega
    · have : ∀ x ∈ fixed8, x.length ≤ 20 := by decide
      have := this x h; omega
  have hfl : (A ++ fixed8).length ≤ 70000 := by rw [List.length_append]; have : fixed8.length = 8 := rfl; omega
  obtain ⟨all, hall⟩ : ∃ all, A ++ fixed8 = all := ⟨_, rfl⟩
  rw [hall] at hfe hfl ⊢
  have hfl2 : A.length + fixed8.length ≤ 70000 := by rw [← List.length_append, hall]; exact hfl
  have HALL := Lib.hid hall
  have hall1 : (all.length : Int) ≤ 70000 := by omega
  have HFE := Lib.hid hfe
  have FC := Lib.hid (fun W => fixed_cells W)
  have hmm := @run_makeMap Tryz.prog
  clear hr hL hM hwe hfe hA hWd hjl hall
  go_enter Tryz.func33, Tryz.ntmps33
  go_wp2_with (first
    | (go_at_call 36; refine Calls.mono WO.out ?_; rintro e w1 ⟨v1, rfl, ho1, hb1⟩; (rw [World.size_alloc] at ho1); have HO1 := Lib.hid ho1; have HB1 := Lib.hid hb1; have hz1 := hb1.size; (try simp at hz1); clear ho1 hb1)
    | (at_builtin; refine wp_append_texts rfl _ _ rfl _ (w.heap.size + 1) _ A fixed8 (HO1.out.below (show Below w1.heap.size w1 _ from (Below.refl _ _).alloc (Nat.le_refl _) _)) rfl w1.heap.size _ rfl (FC.out w1) (by omega) (by (first | omega | (simp <;> omega))) ?_; intro v2 w2 hown2 hb2 hg2; (rw [HALL.out] at hown2); have HO2 := Lib.hid hown2; have HB2 := Lib.hid (Below.trans (show Below (w.heap.size + 1) w1 _ from (Below.refl _ _).alloc (by omega) _) hb2); obtain ⟨ao2, cap2, h2, hc2, hm2, _, _⟩ := hown2.shape; subst h2; clear hown2 hb2 hg2)
    | fail)
  have hz2 := HB2.out.size
  have S2 := Lib.hid (((S0.out.below (show Below (w.alloc (.map #[] 0)).heap.size _ w1 by simpa using HB1.out)).same (w' := w2) (HB2.out.block w.heap.size (by omega))))
  have HBW := Lib.hid (hb0.trans (Below.trans (show Below w.heap.size (w.alloc (.map #[] 0)) w1 from HB1.out.mono (by simp)) (HB2.out.mono (by omega))))
  have hmx : maxLen = 9223372036854775807 := rfl
  rw [hmx] at hm2
  go_wp2_with fail
  go_loopw [12] (fun iv wr => ∃ k : Nat, iv = .int .i64 k ∧ k ≤ all.length ∧ SetIs wr w.heap.size k (all.take k) ∧ Owns wr (w.heap.size + 1) (.slice ao2 all.length cap2) all ∧ Below w.heap.size w wr) (fun iv _ => all.length - (intOf iv).toNat)
  case atStart => exact ⟨0, rfl, Nat.zero_le _, S2.out, HO2.out, HBW.out⟩
  case round =>
    obtain ⟨k, rfl, hk, hset, hown, hB⟩ := hrel
    have HS := Lib.hid hset
    have HO := Lib.hid hown
    have HB := Lib.hid hB
    clear hset hown hB
    by_cases hkl : k < all.length
    · obtain ⟨g, cap, h1, _, _, hg, hcells⟩ := HO.out.at k hkl
      injection h1 with h2 h3 h4
      subst h2
      have e1 := hcells k hkl
      have hxl := HFE.out _ (List.getElem_mem hkl)
      have htk := List.take_succ_eq_append_getElem hkl
      obtain ⟨x, hx⟩ : ∃ x, all[k] = x := ⟨_, rfl⟩
      rw [hx] at e1 hxl htk
      have HT := Lib.hid htk
      have hgb := (World.ownsRow.lt HO.out g rfl).1
      clear hcells hx htk h4
      go_wp2_with (at_mapUpdate; refine wp_set_add rfl _ _ _ rfl _ w.heap.size k (all.take k) HS.out (by omega) x (by omega) rfl rfl rfl ?_; intro w5 hs5 hg5; have HS5 := Lib.hid hs5; have HB5 := Lib.hid (Below.map_grown (B := w.heap.size) hg5 (Nat.le_refl _) (by have := HB.out.size; omega)); have HO5 := Lib.hid (World.ownsRow.kept HO.out hg5 (.inr (by simp [Value.ownBlock]; omega))); clear hs5 hg5)
      go_roundw
      case rel => exact ⟨k + 1, by go_num, by omega, by rw [HT.out]; exact HS5.out, HO5.out, HB.out.trans HB5.out⟩
      case measure => simp [intOf]; omega
    · obtain rfl : k = all.length := by omega
      have hs := HS.out
      rw [List.take_length] at hs
      have HSS := Lib.hid hs
      clear hs
      go_wp2
      go_ret
      exact ⟨_, rfl, HSS.out, HB.out⟩
end Go.Proofs.YtcfihoniocamaaaGreatDoor
namespace Go.Proofs.YtcfihoniocamaaaGreatDoor
open Go.RowKit Go.Sort Go.Shelf
set_option linter.unusedVariables false

theorem alone_mem (W : List (List UInt8)) (n : List UInt8) : decide (lower n ∈ W ++ fixed8) = aloneB W n := by
  unfold aloneB
  rw [Bool.eq_iff_iff]
  simp only [decide_eq_true_eq, List.mem_append, Bool.or_eq_true]
  exact Or.comm
def stripE (L : List Fld) : Int := if rightL L = true then 0 else 1
def stripV (L : List Fld) : List Fld := if rightL L = true then stripL L else []

set_option maxHeartbeats 1600000 in
set_option maxRecDepth 100000 in
theorem hopStrip (v : Value) (L : List Fld) (w : World) (hr : ReadsF w v L) (hL : HopRow L) (hM : ∃ m, w.cell? ⟨0, 0, none⟩ = some (.int .i64 m)) :
    Calls Tryz.prog 14 #[v] w fun e w' => ∃ v', e = .returned (.tuple #[v', .int .i64 (stripE L)]) ∧ OwnsF w' w.heap.size v' (stripV L) ∧ Below w.heap.size w w' := by
  have RI := Lib.hid (fun W (hb : Below w.heap.size w W) => tableRight v L W (hr.below hb) hL.small)
  have GO := Lib.hid (fun W (hb : Below w.heap.size w W) => hopGone v L W (hr.below hb) hL (by
    obtain ⟨m, hm⟩ := hM
    exact ⟨m, (hb.cell (p := ⟨0, 0, none⟩) (block_lt_of_cell hm)).trans hm⟩))
  obtain ⟨ao, cap, rfl, hc1, hc2, _, hcell⟩ := hr
  have hmx : maxLen = 9223372036854775807 := rfl
  rw [hmx] at hc2
  have HC := Lib.hid hcell
  have HE := Lib.hid hL.each
  have hl50 := hL.len
  have TL := Lib.hid (fun l hl W => textLower l hl W)
  clear hcell hL hM hmx
  unfold stripE stripV
  cases hR : rightL L with
  | false =>
    rw [hR] at RI
    rw [if_neg (by simp), if_neg (by simp)]
    clear hR
    go_enter Tryz.func14, Tryz.ntmps14
    go_wp2_with (go_at_call 32; refine Calls.mono (RI.out _ (Below.refl _ _)) ?_; rintro e w1 ⟨rfl, hb1⟩)
    go_ret2
    exact ⟨_, rfl, OwnsF.nil _ _, hb1⟩
  | true =>
    rw [hR] at RI
    rw [if_pos rfl, if_pos rfl]
    clear hR
    unfold stripL
    obtain ⟨A, hA⟩ : ∃ A, hopWords L = A := ⟨_, rfl⟩
    rw [hA] at GO ⊢
    have AM := Lib.hid (fun n => alone_mem A n)
    clear hA
    go_enter Tryz.func14, Tryz.ntmps14
    go_wp2_with (first
      | (go_at_call 32; refine Calls.mono (RI.out _ (Below.refl _ _)) ?_; rintro e w1 ⟨rfl, hb1⟩; have HB1 := Lib.hid hb1; have hz1 := hb1.size; clear hb1)
      | (go_at_call 33; refine Calls.mono (GO.out _ HB1.out) ?_; rintro e w2 ⟨nn, rfl, hs2, hb2⟩; have HS2 := Lib.hid hs2; have HB2 := Lib.hid (HB1.out.trans (hb2.mono hz1)); have hbm := hs2.lt; clear hs2 hb2)
      | fail)
    go_loopw [5, 15] (fun ov iv wr => ∃ k : Nat, iv = .int .i64 k ∧ k ≤ L.length ∧ OwnsF wr w.heap.size ov ((L.take k).filter fun f => !aloneB A f.1) ∧ ov.ownBlock ≠ some w1.heap.size ∧ wr.heap[w1.heap.size]? = w2.heap[w1.heap.size]? ∧ w1.heap.size < wr.heap.size ∧ Below w.heap.size w wr) (fun _ iv _ => L.length - (intOf iv).toNat)
    case atStart => exact ⟨0, rfl, Nat.zero_le _, OwnsF.nil _ _, by simp [Value.ownBlock], rfl, hbm, HB2.out⟩
    case round =>
      obtain ⟨k, rfl, hk, hown, hne, hblk, hlt, hB⟩ := hrel
      have HO := Lib.hid hown
      have HNE := Lib.hid hne
      have HBK := Lib.hid hblk
      have HB := Lib.hid hB
      have hz := hB.size
      clear hown hne hblk
      by_cases hkl : k < L.length
      · obtain ⟨b, off, rfl, hb, hcl⟩ := HC.out (by omega)
        obtain ⟨e1, e2⟩ := hcl k hkl
        rw [← hB.cell (p := ⟨b, off + k * 2, none⟩) hb] at e1
        rw [← hB.cell (p := ⟨b, off + k * 2 + 1, none⟩) hb] at e2
        have hfe := HE.out _ (List.getElem_mem hkl)
        have htk : (L.take (k + 1)).filter (fun f => !aloneB A f.1) = (L.take k).filter (fun f => !aloneB A f.1) ++ (if aloneB A L[k].1 = true then [] else [L[k]]) := by
          rw [List.take_succ_eq_append_getElem hkl, List.filter_append]
          congr 1
          cases h : aloneB A L[k].1 <;> simp [h]
        have hol : ((L.take k).filter fun f => !aloneB A f.1).length ≤ 50 := Nat.le_trans (List.length_filter_le _ _) (by rw [List.length_take]; omega)
        obtain ⟨out, hout⟩ : ∃ x, (L.take k).filter (fun f => !aloneB A f.1) = x := ⟨_, rfl⟩
        rw [hout] at HO htk hol
        obtain ⟨⟨n, x⟩, hf⟩ : ∃ f, L[k] = f := ⟨_, rfl⟩
        rw [hf] at e1 e2 hfe htk
        simp only at e1 e2 hfe htk
        have T := Lib.hid (TL.out n (by omega))
        have hlow := lower_len n
        have SL := Lib.hid (fun (W : World) (h : W.heap[w1.heap.size]? = w2.heap[w1.heap.size]?) => (HS2.out.same h).look (lower n) (by omega))
        have am := AM.out n
        obtain ⟨ln, hln⟩ : ∃ q, lower n = q := ⟨_, rfl⟩
        rw [hln] at T SL am
        rw [am] at SL
        obtain ⟨al, hal⟩ : ∃ q, aloneB A n = q := ⟨_, rfl⟩
        rw [hal] at SL htk
        have HT := Lib.hid htk
        clear hcl hout hf htk am hln hal hB
        cases al with
        | true =>
          go_wp2_with (go_at_call 34; refine Calls.mono (T.out _) ?_; rintro e w4 ⟨rfl, hb4⟩; have hbw4 := Below.trans (show Below wr.heap.size wr _ by (repeat (first | (with_reducible exact Below.refl _ _) | (with_reducible assumption) | (with_reducible refine Below.drew ?_) | (focus ((with_reducible refine Below.setCell ?_ ?_ _); rotate_left; (first | omega | (simp <;> omega)))) | (focus ((with_reducible refine Below.alloc ?_ ?_ _); rotate_left; (first | omega | (simp <;> omega)))) | exact Below.refl _ _ | assumption | refine Below.drew ?_ | refine Below.alloc ?_ (by first | omega | (simp <;> omega)) _ | refine Below.setCell ?_ (by first | omega | (simp <;> omega)) _))) (hb4.mono (by (first | omega | (simp <;> omega)))); have hz4 := hb4.size; (try simp at hz4); have hlook := SL.out w4 ((hbw4.block _ hlt).trans HBK.out); have k41 := hb4.cell (p := ⟨wr.heap.size, 0, none⟩) (by simp); have k42 := hb4.cell (p := ⟨wr.heap.size, 1, none⟩) (by simp); (try simp at k41 k42); have hff := far (show wr.heap.size < w4.heap.size by omega))
          go_roundw
          case rel => exact ⟨k + 1, by go_num, by omega, by rw [HT.out]; simpa using HO.out.below hbw4, HNE.out, (hbw4.block _ hlt).trans HBK.out, by omega, HB.out.trans (hbw4.mono hz)⟩
          case measure => simp [intOf]; omega
        | false =>
          go_wp2_with (first
            | (go_at_call 34; refine Calls.mono (T.out _) ?_; rintro e w4 ⟨rfl, hb4⟩; have hbw4 := Below.trans (show Below wr.heap.size wr _ by (repeat (first | (with_reducible exact Below.refl _ _) | (with_reducible assumption) | (with_reducible refine Below.drew ?_) | (focus ((with_reducible refine Below.setCell ?_ ?_ _); rotate_left; (first | omega | (simp <;> omega)))) | (focus ((with_reducible refine Below.alloc ?_ ?_ _); rotate_left; (first | omega | (simp <;> omega)))) | exact Below.refl _ _ | assumption | refine Below.drew ?_ | refine Below.alloc ?_ (by first | omega | (simp <;> omega)) _ | refine Below.setCell ?_ (by first | omega | (simp <;> omega)) _))) (hb4.mono (by (first | omega | (simp <;> omega)))); have hz4 := hb4.size; (try simp at hz4); have hlook := SL.out w4 ((hbw4.block _ hlt).trans HBK.out); have k41 := hb4.cell (p := ⟨wr.heap.size, 0, none⟩) (by simp); have k42 := hb4.cell (p := ⟨wr.heap.size, 1, none⟩) (by simp); (try simp at k41 k42); have hff := far (show wr.heap.size < w4.heap.size by omega))
            | (at_builtin; refine wp_append_fld_at rfl _ _ rfl _ w.heap.size _ out (n, x) (HO.out.below hbw4) rfl _ rfl rfl (by omega) (by omega) ?_; intro v6 w6 hown6 hb6 hk6; have HO6 := Lib.hid hown6; have HB6 := Lib.hid hb6; obtain ⟨hk61, hk62⟩ := hk6 w1.heap.size (by omega) HNE.out; have HK61 := Lib.hid hk61; have HK62 := Lib.hid hk62; clear hown6 hb6 hk6 hk61 hk62)
            | fail)
          have hz6 := HB6.out.size
          have hbg : w4.heap[w1.heap.size]? = wr.heap[w1.heap.size]? := hbw4.block _ hlt
          have hg6 : w1.heap.size < w6.heap.size := by
            have h1 := HK61.out
            rcases Nat.lt_or_ge w1.heap.size w6.heap.size with h | h
            · exact h
            · rw [Array.getElem?_eq_none h, Array.getElem?_eq_getElem (show w1.heap.size < w4.heap.size by omega)] at h1; cases h1
          go_roundw
          case rel => exact ⟨k + 1, by go_num, by omega, by rw [HT.out]; exact HO6.out, HK62.out, HK61.out.trans (hbg.trans HBK.out), hg6, HB.out.trans ((hbw4.mono hz).trans HB6.out)⟩
          case measure => simp [intOf]; omega
      · obtain rfl : k = L.length := by omega
        have hf := HO.out
        rw [List.take_length] at hf
        have HF := Lib.hid hf
        obtain ⟨ao', cap', h1, _⟩ := hf.reads
        subst h1
        go_wp2
        go_ret2
        exact ⟨_, rfl, HF.out, HB.out⟩
end Go.Proofs.YtcfihoniocamaaaGreatDoor
