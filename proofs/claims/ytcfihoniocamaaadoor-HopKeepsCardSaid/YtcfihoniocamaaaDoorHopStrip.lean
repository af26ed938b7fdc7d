/- Fields without what is for the next one alone: the walk of hop.Strip. -/
import Derived.Test.YtcfihoniocamaaaDoorHopGone
namespace Go.Proofs.YtcfihoniocamaaaDoor
open Go.RowKit Go.Sort Go.Shelf
set_option linter.unusedVariables false

theorem alone_mem (W : List (List UInt8)) (n : List UInt8) : decide (lower n ∈ W ++ fixed8) = aloneB W n := by
  unfold aloneB
  rw [Bool.eq_iff_iff]
  simp only [decide_eq_true_eq, List.mem_append, Bool.or_eq_true]
  exact Or.comm
def stripE (L : List Fld) : Int := if rightL L = true then 0 else 1
def stripV (L : List Fld) : List Fld := if rightL L = true then stripL L else []

set_option maxHeartbeats 1600000 in
set_option maxRecDepth 100000 in
theorem hopStrip (v : Value) (L : List Fld) (w : World) (hr : ReadsF w v L) (hL : HopRow L) (hM : ∃ m, w.cell? ⟨0, 0, none⟩ = some (.int .i64 m)) :
    Calls Tryd.prog 9 #[v] w fun e w' => ∃ v', e = .returned (.tuple #[v', .int .i64 (stripE L)]) ∧ OwnsF w' w.heap.size v' (stripV L) ∧ Below w.heap.size w w' := by
  have RI := Lib.hid (fun W (hb : Below w.heap.size w W) => tableRight v L W (hr.below hb) hL.small)
  have GO := Lib.hid (fun W (hb : Below w.heap.size w W) => hopGone v L W (hr.below hb) hL (by
    obtain ⟨m, hm⟩ := hM
    exact ⟨m, (hb.cell (p := ⟨0, 0, none⟩) (block_lt_of_cell hm)).trans hm⟩))
  obtain ⟨ao, cap, rfl, hc1, hc2, _, hcell⟩ := hr
  have hmx : maxLen = 9223372036854775807 := rfl
  rw [hmx] at hc2
  have HC := Lib.hid hcell
  have HE := Lib.hid hL.each
  have hl50 := hL.len
  have TL := Lib.hid (fun l hl W => textLower l hl W)
  clear hcell hL hM hmx
  unfold stripE stripV
  cases hR : rightL L with
  | false =>
    rw [hR] at RI
    rw [if_neg (by simp), if_neg (by simp)]
    clear hR
    go_enter Tryd.func9, Tryd.ntmps9
    go_wp2_with (go_at_call 25; refine Calls.mono (RI.out _ (Below.refl _ _)) ?_; rintro e w1 ⟨rfl, hb1⟩)
    go_ret2
    exact ⟨_, rfl, OwnsF.nil _ _, hb1⟩
  | true =>
    rw [hR] at RI
    rw [if_pos rfl, if_pos rfl]
    clear hR
    unfold stripL
    obtain ⟨A, hA⟩ : ∃ A, hopWords L = A := ⟨_, rfl⟩
    rw [hA] at GO ⊢
    have AM := Lib.hid (fun n => alone_mem A n)
    clear hA
    go_enter Tryd.func9, Tryd.ntmps9
    go_wp2_with (first
      | (go_at_call 25; refine Calls.mono (RI.out _ (Below.refl _ _)) ?_; rintro e w1 ⟨rfl, hb1⟩; have HB1 := Lib.hid hb1; have hz1 := hb1.size; clear hb1)
      | (go_at_call 26; refine Calls.mono (GO.out _ HB1.out) ?_; rintro e w2 ⟨nn, rfl, hs2, hb2⟩; have HS2 := Lib.hid hs2; have HB2 := Lib.hid (HB1.out.trans (hb2.mono hz1)); have hbm := hs2.lt; clear hs2 hb2)
      | fail)
    go_loopw [5, 15] (fun ov iv wr => ∃ k : Nat, iv = .int .i64 k ∧ k ≤ L.length ∧ OwnsF wr w.heap.size ov ((L.take k).filter fun f => !aloneB A f.1) ∧ ov.ownBlock ≠ some w1.heap.size ∧ wr.heap[w1.heap.size]? = w2.heap[w1.heap.size]? ∧ w1.heap.size < wr.heap.size ∧ Below w.heap.size w wr) (fun _ iv _ => L.length - (intOf iv).toNat)
    case atStart => exact ⟨0, rfl, Nat.zero_le _, OwnsF.nil _ _, by simp [Value.ownBlock], rfl, hbm, HB2.out⟩
    case round =>
      obtain ⟨k, rfl, hk, hown, hne, hblk, hlt, hB⟩ := hrel
      have HO := Lib.hid hown
      have HNE := Lib.hid hne
      have HBK := Lib.hid hblk
      have HB := Lib.hid hB
      have hz := hB.size
      clear hown hne hblk
      by_cases hkl : k < L.length
      · obtain ⟨b, off, rfl, hb, hcl⟩ := HC.out (by omega)
        obtain ⟨e1, e2⟩ := hcl k hkl
        rw [← hB.cell (p := ⟨b, off + k * 2, none⟩) hb] at e1
        rw [← hB.cell (p := ⟨b, off + k * 2 + 1, none⟩) hb] at e2
        have hfe := HE.out _ (List.getElem_mem hkl)
        have htk : (L.take (k + 1)).filter (fun f => !aloneB A f.1) = (L.take k).filter (fun f => !aloneB A f.1) ++ (if aloneB A L[k].1 = true then [] else [L[k]]) := by
          rw [List.take_succ_eq_append_getElem hkl, List.filter_append]
          congr 1
          cases h : aloneB A L[k].1 <;> simp [h]
        have hol : ((L.take k).filter fun f => !aloneB A f.1).length ≤ 50 := Nat.le_trans (List.length_filter_le _ _) (by rw [List.length_take]; omega)
        obtain ⟨out, hout⟩ : ∃ x, (L.take k).filter (fun f => !aloneB A f.1) = x := ⟨_, rfl⟩
        rw [hout] at HO htk hol
        obtain ⟨⟨n, x⟩, hf⟩ : ∃ f, L[k] = f := ⟨_, rfl⟩
        rw [hf] at e1 e2 hfe htk
        simp only at e1 e2 hfe htk
        have T := Lib.hid (TL.out n (by omega))
        have hlow := lower_len n
        have SL := Lib.hid (fun (W : World) (h : W.heap[w1.heap.size]? = w2.heap[w1.heap.size]?) => (HS2.out.same h).look (lower n) (by omega))
        have am := AM.out n
        obtain ⟨ln, hln⟩ : ∃ q, lower n = q := ⟨_, rfl⟩
        rw [hln] at T SL am
        rw [am] at SL
        obtain ⟨al, hal⟩ : ∃ q, aloneB A n = q := ⟨_, rfl⟩
        rw [hal] at SL htk
        have HT := Lib.hid htk
        clear hcl hout hf htk am hln hal hB
        cases al with
        | true =>
          go_wp2_with (go_at_call 27; refine Calls.mono (T.out _) ?_; rintro e w4 ⟨rfl, hb4⟩; have hbw4 := Below.trans (show Below wr.heap.size wr _ by (repeat (first | (with_reducible exact Below.refl _ _) | (with_reducible assumption) | (with_reducible refine Below.drew ?_) | (focus ((with_reducible refine Below.setCell ?_ ?_ _); rotate_left; (first | omega | (simp <;> omega)))) | (focus ((with_reducible refine Below.alloc ?_ ?_ _); rotate_left; (first | omega | (simp <;> omega)))) | exact Below.refl _ _ | assumption | refine Below.drew ?_ | refine Below.alloc ?_ (by first | omega | (simp <;> omega)) _ | refine Below.setCell ?_ (by first | omega | (simp <;> omega)) _))) (hb4.mono (by (first | omega | (simp <;> omega)))); have hz4 := hb4.size; (try simp at hz4); have hlook := SL.out w4 ((hbw4.block _ hlt).trans HBK.out); have k41 := hb4.cell (p := ⟨wr.heap.size, 0, none⟩) (by simp); have k42 := hb4.cell (p := ⟨wr.heap.size, 1, none⟩) (by simp); (try simp at k41 k42); have hff := far (show wr.heap.size < w4.heap.size by omega))
          go_roundw
          case rel => exact ⟨k + 1, by go_num, by omega, by rw [HT.out]; simpa using HO.out.below hbw4, HNE.out, (hbw4.block _ hlt).trans HBK.out, by omega, HB.out.trans (hbw4.mono hz)⟩
          case measure => simp [intOf]; omega
        | false =>
          go_wp2_with (first
            | (go_at_call 27; refine Calls.mono (T.out _) ?_; rintro e w4 ⟨rfl, hb4⟩; have hbw4 := Below.trans (show Below wr.heap.size wr _ by (repeat (first | (with_reducible exact Below.refl _ _) | (with_reducible assumption) | (with_reducible refine Below.drew ?_) | (focus ((with_reducible refine Below.setCell ?_ ?_ _); rotate_left; (first | omega | (simp <;> omega)))) | (focus ((with_reducible refine Below.alloc ?_ ?_ _); rotate_left; (first | omega | (simp <;> omega)))) | exact Below.refl _ _ | assumption | refine Below.drew ?_ | refine Below.alloc ?_ (by first | omega | (simp <;> omega)) _ | refine Below.setCell ?_ (by first | omega | (simp <;> omega)) _))) (hb4.mono (by (first | omega | (simp <;> omega)))); have hz4 := hb4.size; (try simp at hz4); have hlook := SL.out w4 ((hbw4.block _ hlt).trans HBK.out); have k41 := hb4.cell (p := ⟨wr.heap.size, 0, none⟩) (by simp); have k42 := hb4.cell (p := ⟨wr.heap.size, 1, none⟩) (by simp); (try simp at k41 k42); have hff := far (show wr.heap.size < w4.heap.size by omega))
            | (at_builtin; refine wp_append_fld_at rfl _ _ rfl _ w.heap.size _ out (n, x) (HO.out.below hbw4) rfl _ rfl rfl (by omega) (by omega) ?_; intro v6 w6 hown6 hb6 hk6; have HO6 := Lib.hid hown6; have HB6 := Lib.hid hb6; obtain ⟨hk61, hk62⟩ := hk6 w1.heap.size (by omega) HNE.out; have HK61 := Lib.hid hk61; have HK62 := Lib.hid hk62; clear hown6 hb6 hk6 hk61 hk62)
            | fail)
          have hz6 := HB6.out.size
          have hbg : w4.heap[w1.heap.size]? = wr.heap[w1.heap.size]? := hbw4.block _ hlt
          have hg6 : w1.heap.size < w6.heap.size := by
            have h1 := HK61.out
            rcases Nat.lt_or_ge w1.heap.size w6.heap.size with h | h
            · exact h
            · rw [Array.getElem?_eq_none h, Array.getElem?_eq_getElem (show w1.heap.size < w4.heap.size by omega)] at h1; cases h1
          go_roundw
          case rel => exact ⟨k + 1, by go_num, by omega, by rw [HT.out]; exact HO6.out, HK62.out, HK61.out.trans (hbg.trans HBK.out), hg6, HB.out.trans ((hbw4.mono hz).trans HB6.out)⟩
          case measure => simp [intOf]; omega
      · obtain rfl : k = L.length := by omega
        have hf := HO.out
        rw [List.take_length] at hf
        have HF := Lib.hid hf
        obtain ⟨ao', cap', h1, _⟩ := hf.reads
        subst h1
        go_wp2
        go_ret2
        exact ⟨_, rfl, HF.out, HB.out⟩
end Go.Proofs.YtcfihoniocamaaaDoor
