/- The document's All: the walk. The walk of the document's Parse. Written by tools/refparse.py. -/
import Derived.Test.YtgjemgilanhdiaaGreatDoorRf34
import Derived.Test.YtgjemgilanhdiaaGreatDoorRf23
import Derived.Test.YtgjemgilanhdiaaGreatDoorRf18
import Derived.Test.YtgjemgilanhdiaaGreatDoorRf5
namespace Go.Proofs.YtgjemgilanhdiaaGreatDoor
open Go.RowKit Go.Sort Go.Shelf
set_option linter.unusedVariables false


def Reads (W : World) (v : Value) (L : List (List UInt8)) : Prop :=
  ∃ ao cap, v = .slice ao L.length cap ∧ L.length ≤ cap ∧ cap ≤ maxLen ∧ (0 < L.length → ∃ b off, ao = some ⟨b, off, none⟩ ∧ b < W.heap.size ∧ ∀ j (h : j < L.length), W.cell? ⟨b, off + j, none⟩ = some (.string (S L[j])))
theorem Owns.reads {W : World} {B : Nat} {v : Value} {L : List (List UInt8)} (h : Owns W B v L) : Reads W v L := by
  obtain ⟨ao, cap, h1, h2, h3, h4, h5⟩ := h.shape
  refine ⟨ao, cap, h1, h2, h3, fun h0 => ?_⟩
  obtain ⟨g, cap', e1, e2, e3, e4, e5⟩ := h.at 0 h0
  rw [h1] at e1
  injection e1 with e6 e7 e8
  exact ⟨g, 0, e6, e4, fun j hj => by rw [Nat.zero_add]; exact e5 j hj⟩
theorem Reads.below {W W' : World} {v : Value} {L : List (List UInt8)} (h : Reads W v L) (hb : Below W.heap.size W W') : Reads W' v L := by
  obtain ⟨ao, cap, h1, h2, h3, h4⟩ := h
  refine ⟨ao, cap, h1, h2, h3, fun h0 => ?_⟩
  obtain ⟨b, off, e1, e2, e3⟩ := h4 h0
  exact ⟨b, off, e1, Nat.lt_of_lt_of_le e2 hb.size, fun j hj => by rw [hb.cell (p := ⟨b, off + j, none⟩) e2]; exact e3 j hj⟩

theorem ownsMade (W : World) (B : Nat) (hB : B ≤ W.heap.size) : Owns (W.alloc (.cells #[] 9)) B (.slice (some ⟨W.heap.size, 0, none⟩) 0 0) [] := Owns.made W B hB

set_option maxHeartbeats 400000 in
theorem refSameN (l m : List UInt8) (hl : l.length ≤ 4611686018427387903) (hm : m.length ≤ 4611686018427387903) (w : World) : Calls Tryz.prog 48 #[.string (S l), .string (S m)] w fun e w' => e = .returned (.bool (sameN l m)) ∧ Below w.heap.size w w' := by
  have C1 := Lib.hid (fun W => refLower l hl W)
  have C2 := Lib.hid (fun W => refLower m hm W)
  unfold sameN
  go_enter Tryz.func48, Tryz.ntmps48
  go_wp2_with fail
  refine (C1.out _).mono ?_
  rintro e w1 ⟨rfl, hb1⟩
  go_wp2_with fail
  refine (C2.out _).mono ?_
  rintro e w2 ⟨rfl, hb2⟩
  have hb := hb1.trans (hb2.mono hb1.size)
  go_wp2
  go_ret
  exact ⟨by rfl, hb⟩

set_option maxHeartbeats 1600000 in
set_option maxRecDepth 100000 in
theorem refAll (v : Value) (L : List Fld) (m : List UInt8) (hm : m.length ≤ 4611686018427387903) (W : World) (hr : ReadsF W v L) (hs : ∀ f ∈ L, Small f) (hlen : L.length ≤ 1099511627776) :
    Calls Tryz.prog 24 #[v, .string (S m)] W fun e w' => ∃ v', e = .returned v' ∧ Owns w' W.heap.size v' ((namedL L m).map (·.2)) ∧ Below W.heap.size W w' := by
  obtain ⟨ao, cap, rfl, hc1, hc2, hc3, hcell⟩ := hr
  have hmx : maxLen = 9223372036854775807 := rfl
  rw [hmx] at hc2
  have HC := Lib.hid hcell
  have HS := Lib.hid hs
  clear hmx hcell hs hc3
  go_enter Tryz.func24, Tryz.ntmps24
  go_wp2
  go_loopw [5, 11] (fun ov iv wr => ∃ i : Nat, iv = .int .i64 i ∧ i ≤ L.length ∧ Owns wr W.heap.size ov ((namedL (L.take i) m).map (·.2)) ∧ Below W.heap.size W wr) (fun _ iv _ => L.length - (intOf iv).toNat)
  case atStart => exact ⟨0, rfl, Nat.zero_le _, ownsMade _ _ (Nat.le_refl _), by (repeat (first | with_reducible exact Below.refl _ _ | with_reducible assumption | with_reducible refine Below.drew ?_ | (with_reducible refine Below.setCell ?_ ?_ _; rotate_left; (first | omega | (simp <;> omega))) | (with_reducible refine Below.alloc ?_ ?_ _; rotate_left; (first | omega | (simp <;> omega))) | exact Below.refl _ _ | assumption))⟩
  case round =>
    obtain ⟨i, rfl, hi, hown, hB⟩ := hrel
    have HO := Lib.hid hown
    have hz := hB.size
    clear hown
    by_cases hlt : i < L.length
    · obtain ⟨b, off, rfl, hb, hcl⟩ := HC.out (by omega)
      obtain ⟨e1, e2⟩ := hcl i hlt
      rw [← hB.cell (p := ⟨b, off + i * 2, none⟩) hb] at e1
      rw [← hB.cell (p := ⟨b, off + i * 2 + 1, none⟩) hb] at e2
      have hsm := HS.out _ (List.getElem_mem hlt)
      have htk : (namedL (L.take (i + 1)) m).map (·.2) = (namedL (L.take i) m).map (·.2) ++ (if sameN L[i].1 m = true then [L[i].2] else []) := by
        unfold namedL
        rw [List.take_succ_eq_append_getElem hlt, List.filter_append]
        cases hp : sameN L[i].1 m <;> simp [hp]
      have hfl : ((namedL (L.take i) m).map (·.2)).length ≤ 1099511627776 := by
        have := List.length_filter_le (fun f => sameN f.1 m) (L.take i)
        have h2 : (L.take i).length ≤ L.length := by simp; omega
        rw [List.length_map]
        exact Nat.le_trans (Nat.le_trans this h2) hlen
      obtain ⟨⟨n, x⟩, hf⟩ : ∃ f, L[i] = f := ⟨_, rfl⟩
      rw [hf] at e1 e2 hsm htk
      have C := Lib.hid (fun W => refSameN n m hsm.1 hm W)
      obtain ⟨y, hy⟩ : ∃ y, sameN n m = y := ⟨_, rfl⟩
      simp only at htk
      rw [hy] at C htk
      have HT := Lib.hid htk
      simp only at e1 e2
      clear hcl hf hy htk hsm
      cases y with
      | true =>
        go_wp2_with (first
          | (go_at_call 48; refine (C.out _).mono ?_; rintro e w1 ⟨rfl, hb1⟩; obtain ⟨hcc, hff⟩ := bk hb1 wr.heap.size (by simp); have hbw := Below.trans (show Below wr.heap.size wr _ by (repeat (first | with_reducible exact Below.refl _ _ | with_reducible assumption | with_reducible refine Below.drew ?_ | (with_reducible refine Below.setCell ?_ ?_ _; rotate_left; (first | omega | (simp <;> omega))) | (with_reducible refine Below.alloc ?_ ?_ _; rotate_left; (first | omega | (simp <;> omega))) | exact Below.refl _ _ | assumption))) (hb1.mono (by simp)); have hz1 := hb1.size; simp at hz1)
          | (at_builtin; refine wp_append_text' rfl _ _ rfl _ W.heap.size _ _ x (Owns.below HO.out hbw) rfl _ rfl rfl (by omega) (by omega) ?_; intro v4 w4 hown4 hb4; have HO4 := Lib.hid hown4; have hbw4 := Below.trans (hB.trans (hbw.mono hz)) hb4; clear hown4))
        go_roundw
        case rel => exact ⟨i + 1, by go_num, by omega, by rw [HT.out]; exact HO4.out, hbw4⟩
        case measure => simp [intOf]; omega
      | false =>
        go_wp2_with (go_at_call 48; refine (C.out _).mono ?_; rintro e w1 ⟨rfl, hb1⟩; have hbw := Below.trans (show Below wr.heap.size wr _ by (repeat (first | with_reducible exact Below.refl _ _ | with_reducible assumption | with_reducible refine Below.drew ?_ | (with_reducible refine Below.setCell ?_ ?_ _; rotate_left; (first | omega | (simp <;> omega))) | (with_reducible refine Below.alloc ?_ ?_ _; rotate_left; (first | omega | (simp <;> omega))) | exact Below.refl _ _ | assumption))) (hb1.mono (by simp)))
        go_roundw
        case rel => exact ⟨i + 1, by go_num, by omega, by rw [HT.out]; simpa using Owns.below HO.out hbw, hB.trans (hbw.mono hz)⟩
        case measure => simp [intOf]; omega
    · obtain rfl : i = L.length := by omega
      have HO2 := Lib.hid (show Owns wr W.heap.size _ ((namedL L m).map (·.2)) from by have := HO.out; rw [List.take_length] at this; exact this)
      go_wp2
      go_ret
      exact ⟨_, rfl, HO2.out, hB⟩

end Go.Proofs.YtgjemgilanhdiaaGreatDoor
namespace Go.Proofs.YtgjemgilanhdiaaGreatDoor
open Go.RowKit Go.Shelf
set_option linter.unusedVariables false

set_option maxHeartbeats 3200000 in
set_option maxRecDepth 100000 in
theorem refParse_rel (s : List UInt8) (hs : s.length ≤ 500) (hB : httpB s = false) (w : World) (hL : Laid w) :
    Calls Tryz.prog 25 #[.string (S s)] w fun e w' => e = .returned (.tuple #[(parseL s).1.v, .int .i64 (parseL s).2]) ∧ Below w.heap.size w w' := by
  have CL := Lib.hid (fun W => refLower s (by omega) W)
  have CB := Lib.hid (fun W => begins_S (s := lower s) (t := httpL) (b := false) (by rw [lower_len]; omega) (by decide) (by rw [httpB_ref, hB]) W)
  unfold httpL at CB
  have CF := Lib.hid (fun W => refFind s 63 (by omega) W)
  have CR := Lib.hid (fun W (hbl : Below w.heap.size w W) => refRightC (relOf s) (relOf_mid s hs) (W := W) hL hbl)
  have HP := show parseL s = if (relOf s).ok then (relOf s, 0) else (UU.nil, 20) by unfold parseL; rw [if_neg (by omega), hB]; simp
  obtain ⟨p, hp⟩ : ∃ x, parseL s = x := ⟨_, rfl⟩
  rw [hp] at HP ⊢
  obtain ⟨ok, hok⟩ : ∃ x, (relOf s).ok = x := ⟨_, rfl⟩
  rw [hok] at CR HP
  have HN := Lib.hid (show ok = false → p = (UU.nil, 20) from fun h => by rw [HP, h]; simp)
  have HY := Lib.hid (show ok = true → p = (relOf s, 0) from fun h => by rw [HP, h]; simp)
  clear HP hp hok hB hL
  unfold relOf at CR HY
  have hge := Lib.indexByte_ge s 63
  have hlt := indexByte_lt s 63
  obtain ⟨ix, hix⟩ : ∃ x, Lib.indexByte s 63 = x := ⟨_, rfl⟩
  rw [hix] at CF hge hlt
  simp only [UU.v] at CR ⊢
  have hle : ¬ 500 < (s.length : Int) := by omega
  go_enter Tryz.func25, Tryz.ntmps25
  go_wp2_with fail
  refine Calls.mono (CL.out _) ?_
  rintro e w1 ⟨rfl, hb_w1⟩
  have hz_w1 := hb_w1.size
  try simp at hz_w1
  obtain ⟨c1__0, f1__0⟩ := bk hb_w1 (w.heap.size) (by first | omega | (simp <;> omega))
  have c1__0_0 := c1__0 0; conv at c1__0_0 => rhs; simp [go_sem, *]
  have f1__0_0 := f1__0 0; conv at f1__0_0 => rhs; simp [go_sem, *]
  have c1__0_1 := c1__0 1; conv at c1__0_1 => rhs; simp [go_sem, *]
  have f1__0_1 := f1__0 1; conv at f1__0_1 => rhs; simp [go_sem, *]
  have c1__0_2 := c1__0 2; conv at c1__0_2 => rhs; simp [go_sem, *]
  have f1__0_2 := f1__0 2; conv at f1__0_2 => rhs; simp [go_sem, *]
  have c1__0_3 := c1__0 3; conv at c1__0_3 => rhs; simp [go_sem, *]
  have f1__0_3 := f1__0 3; conv at f1__0_3 => rhs; simp [go_sem, *]
  have c1__0_4 := c1__0 4; conv at c1__0_4 => rhs; simp [go_sem, *]
  have f1__0_4 := f1__0 4; conv at f1__0_4 => rhs; simp [go_sem, *]
  have c1__0_5 := c1__0 5; conv at c1__0_5 => rhs; simp [go_sem, *]
  have f1__0_5 := f1__0 5; conv at f1__0_5 => rhs; simp [go_sem, *]
  obtain ⟨c1__1, f1__1⟩ := bk hb_w1 (w.heap.size + 1) (by first | omega | (simp <;> omega))
  have c1__1_0 := c1__1 0; conv at c1__1_0 => rhs; simp [go_sem, *]
  have f1__1_0 := f1__1 0; conv at f1__1_0 => rhs; simp [go_sem, *]
  have c1__1_1 := c1__1 1; conv at c1__1_1 => rhs; simp [go_sem, *]
  have f1__1_1 := f1__1 1; conv at f1__1_1 => rhs; simp [go_sem, *]
  have c1__1_2 := c1__1 2; conv at c1__1_2 => rhs; simp [go_sem, *]
  have f1__1_2 := f1__1 2; conv at f1__1_2 => rhs; simp [go_sem, *]
  have c1__1_3 := c1__1 3; conv at c1__1_3 => rhs; simp [go_sem, *]
  have f1__1_3 := f1__1 3; conv at f1__1_3 => rhs; simp [go_sem, *]
  have c1__1_4 := c1__1 4; conv at c1__1_4 => rhs; simp [go_sem, *]
  have f1__1_4 := f1__1 4; conv at f1__1_4 => rhs; simp [go_sem, *]
  have c1__1_5 := c1__1 5; conv at c1__1_5 => rhs; simp [go_sem, *]
  have f1__1_5 := f1__1 5; conv at f1__1_5 => rhs; simp [go_sem, *]
  have HH_w1 := Lib.hid hb_w1
  have hB_w1 : Below w.heap.size w w1 := Below.trans (by (repeat (first | with_reducible exact Below.refl _ _ | with_reducible assumption | with_reducible refine Below.drew ?_ | (with_reducible refine Below.setCell ?_ ?_ _; rotate_left; (first | omega | (simp <;> omega))) | (with_reducible refine Below.alloc ?_ ?_ _; rotate_left; (first | omega | (simp <;> omega))) | exact Below.refl _ _ | assumption))) (hb_w1.mono (by first | omega | (simp <;> omega)))
  clear hb_w1 c1__0 f1__0 c1__1 f1__1
  have far_w1_w_0 := far (show w.heap.size < w1.heap.size by omega)
  have far_w1_w_1 := far (show w.heap.size + 1 < w1.heap.size by omega)
  go_wp2_with fail
  refine Calls.mono (same_below (CB.out _)) ?_
  rintro e w2 ⟨rfl, hb_w2⟩
  have hz_w2 := hb_w2.size
  try simp at hz_w2
  obtain ⟨c2__0, f2__0⟩ := bk hb_w2 (w.heap.size) (by first | omega | (simp <;> omega))
  have c2__0_0 := c2__0 0; conv at c2__0_0 => rhs; simp [go_sem, *]
  have f2__0_0 := f2__0 0; conv at f2__0_0 => rhs; simp [go_sem, *]
  have c2__0_1 := c2__0 1; conv at c2__0_1 => rhs; simp [go_sem, *]
  have f2__0_1 := f2__0 1; conv at f2__0_1 => rhs; simp [go_sem, *]
  have c2__0_2 := c2__0 2; conv at c2__0_2 => rhs; simp [go_sem, *]
  have f2__0_2 := f2__0 2; conv at f2__0_2 => rhs; simp [go_sem, *]
  have c2__0_3 := c2__0 3; conv at c2__0_3 => rhs; simp [go_sem, *]
  have f2__0_3 := f2__0 3; conv at f2__0_3 => rhs; simp [go_sem, *]
  have c2__0_4 := c2__0 4; conv at c2__0_4 => rhs; simp [go_sem, *]
  have f2__0_4 := f2__0 4; conv at f2__0_4 => rhs; simp [go_sem, *]
  have c2__0_5 := c2__0 5; conv at c2__0_5 => rhs; simp [go_sem, *]
  have f2__0_5 := f2__0 5; conv at f2__0_5 => rhs; simp [go_sem, *]
  obtain ⟨c2__1, f2__1⟩ := bk hb_w2 (w.heap.size + 1) (by first | omega | (simp <;> omega))
  have c2__1_0 := c2__1 0; conv at c2__1_0 => rhs; simp [go_sem, *]
  have f2__1_0 := f2__1 0; conv at f2__1_0 => rhs; simp [go_sem, *]
  have c2__1_1 := c2__1 1; conv at c2__1_1 => rhs; simp [go_sem, *]
  have f2__1_1 := f2__1 1; conv at f2__1_1 => rhs; simp [go_sem, *]
  have c2__1_2 := c2__1 2; conv at c2__1_2 => rhs; simp [go_sem, *]
  have f2__1_2 := f2__1 2; conv at f2__1_2 => rhs; simp [go_sem, *]
  have c2__1_3 := c2__1 3; conv at c2__1_3 => rhs; simp [go_sem, *]
  have f2__1_3 := f2__1 3; conv at f2__1_3 => rhs; simp [go_sem, *]
  have c2__1_4 := c2__1 4; conv at c2__1_4 => rhs; simp [go_sem, *]
  have f2__1_4 := f2__1 4; conv at f2__1_4 => rhs; simp [go_sem, *]
  have c2__1_5 := c2__1 5; conv at c2__1_5 => rhs; simp [go_sem, *]
  have f2__1_5 := f2__1 5; conv at f2__1_5 => rhs; simp [go_sem, *]
  have HH_w2 := Lib.hid hb_w2
  have hB_w2 : Below w.heap.size w w2 := Below.trans (by (repeat (first | with_reducible exact Below.refl _ _ | with_reducible assumption | with_reducible refine Below.drew ?_ | (with_reducible refine Below.setCell ?_ ?_ _; rotate_left; (first | omega | (simp <;> omega))) | (with_reducible refine Below.alloc ?_ ?_ _; rotate_left; (first | omega | (simp <;> omega))) | exact Below.refl _ _ | assumption))) (hb_w2.mono (by first | omega | (simp <;> omega)))
  clear hb_w2 c2__0 f2__0 c2__1 f2__1
  try clear c1__0_0 f1__0_0 c1__0_1 f1__0_1 c1__0_2 f1__0_2 c1__0_3 f1__0_3 c1__0_4 f1__0_4 c1__0_5 f1__0_5 c1__1_0 f1__1_0 c1__1_1 f1__1_1 c1__1_2 f1__1_2 c1__1_3 f1__1_3 c1__1_4 f1__1_4 c1__1_5 f1__1_5 far_w1_w_0 far_w1_w_1 hB_w1
  have far_w2_w_0 := far (show w.heap.size < w2.heap.size by omega)
  have far_w2_w_1 := far (show w.heap.size + 1 < w2.heap.size by omega)
  go_wp2_with fail
  refine Calls.mono (same_below (CF.out _)) ?_
  rintro e w7 ⟨rfl, hb_w7⟩
  have hz_w7 := hb_w7.size
  try simp at hz_w7
  obtain ⟨c7__0, f7__0⟩ := bk hb_w7 (w.heap.size) (by first | omega | (simp <;> omega))
  have c7__0_0 := c7__0 0; conv at c7__0_0 => rhs; simp [go_sem, *]
  have f7__0_0 := f7__0 0; conv at f7__0_0 => rhs; simp [go_sem, *]
  have c7__0_1 := c7__0 1; conv at c7__0_1 => rhs; simp [go_sem, *]
  have f7__0_1 := f7__0 1; conv at f7__0_1 => rhs; simp [go_sem, *]
  have c7__0_2 := c7__0 2; conv at c7__0_2 => rhs; simp [go_sem, *]
  have f7__0_2 := f7__0 2; conv at f7__0_2 => rhs; simp [go_sem, *]
  have c7__0_3 := c7__0 3; conv at c7__0_3 => rhs; simp [go_sem, *]
  have f7__0_3 := f7__0 3; conv at f7__0_3 => rhs; simp [go_sem, *]
  have c7__0_4 := c7__0 4; conv at c7__0_4 => rhs; simp [go_sem, *]
  have f7__0_4 := f7__0 4; conv at f7__0_4 => rhs; simp [go_sem, *]
  have c7__0_5 := c7__0 5; conv at c7__0_5 => rhs; simp [go_sem, *]
  have f7__0_5 := f7__0 5; conv at f7__0_5 => rhs; simp [go_sem, *]
  obtain ⟨c7__1, f7__1⟩ := bk hb_w7 (w.heap.size + 1) (by first | omega | (simp <;> omega))
  have c7__1_0 := c7__1 0; conv at c7__1_0 => rhs; simp [go_sem, *]
  have f7__1_0 := f7__1 0; conv at f7__1_0 => rhs; simp [go_sem, *]
  have c7__1_1 := c7__1 1; conv at c7__1_1 => rhs; simp [go_sem, *]
  have f7__1_1 := f7__1 1; conv at f7__1_1 => rhs; simp [go_sem, *]
  have c7__1_2 := c7__1 2; conv at c7__1_2 => rhs; simp [go_sem, *]
  have f7__1_2 := f7__1 2; conv at f7__1_2 => rhs; simp [go_sem, *]
  have c7__1_3 := c7__1 3; conv at c7__1_3 => rhs; simp [go_sem, *]
  have f7__1_3 := f7__1 3; conv at f7__1_3 => rhs; simp [go_sem, *]
  have c7__1_4 := c7__1 4; conv at c7__1_4 => rhs; simp [go_sem, *]
  have f7__1_4 := f7__1 4; conv at f7__1_4 => rhs; simp [go_sem, *]
  have c7__1_5 := c7__1 5; conv at c7__1_5 => rhs; simp [go_sem, *]
  have f7__1_5 := f7__1 5; conv at f7__1_5 => rhs; simp [go_sem, *]
  have HH_w7 := Lib.hid hb_w7
  have hB_w7 : Below w.heap.size w w7 := Below.trans (by (repeat (first | with_reducible exact Below.refl _ _ | with_reducible assumption | with_reducible refine Below.drew ?_ | (with_reducible refine Below.setCell ?_ ?_ _; rotate_left; (first | omega | (simp <;> omega))) | (with_reducible refine Below.alloc ?_ ?_ _; rotate_left; (first | omega | (simp <;> omega))) | exact Below.refl _ _ | assumption))) (hb_w7.mono (by first | omega | (simp <;> omega)))
  clear hb_w7 c7__0 f7__0 c7__1 f7__1
  try clear c2__0_0 f2__0_0 c2__0_1 f2__0_1 c2__0_2 f2__0_2 c2__0_3 f2__0_3 c2__0_4 f2__0_4 c2__0_5 f2__0_5 c2__1_0 f2__1_0 c2__1_1 f2__1_1 c2__1_2 f2__1_2 c2__1_3 f2__1_3 c2__1_4 f2__1_4 c2__1_5 f2__1_5 far_w2_w_0 far_w2_w_1 hB_w2
  have far_w7_w_0 := far (show w.heap.size < w7.heap.size by omega)
  have far_w7_w_1 := far (show w.heap.size + 1 < w7.heap.size by omega)
  by_cases hq : 0 ≤ ix
  · obtain ⟨m, rfl⟩ : ∃ m : Nat, ix = m := ⟨ix.toNat, by omega⟩
    have HC := Lib.hid (show cut1 s 63 = (s.take m, s.drop (m + 1), true) by unfold cut1; rw [hix]; simp)
    simp only [HC.out] at CR HY
    go_wp2_with fail
    refine Calls.mono (CR.out _ (by (repeat (first | with_reducible exact Below.refl _ _ | with_reducible assumption | with_reducible refine Below.drew ?_ | (with_reducible refine Below.setCell ?_ ?_ _; rotate_left; (first | omega | (simp <;> omega))) | (with_reducible refine Below.alloc ?_ ?_ _; rotate_left; (first | omega | (simp <;> omega))) | exact Below.refl _ _ | assumption)))) ?_
    rintro e w8 ⟨rfl, hb_w8⟩
    have hz_w8 := hb_w8.size
    try simp at hz_w8
    obtain ⟨c8__0, f8__0⟩ := bk hb_w8 (w.heap.size) (by first | omega | (simp <;> omega))
    have c8__0_0 := c8__0 0; conv at c8__0_0 => rhs; simp [go_sem, *]
    have f8__0_0 := f8__0 0; conv at f8__0_0 => rhs; simp [go_sem, *]
    have c8__0_1 := c8__0 1; conv at c8__0_1 => rhs; simp [go_sem, *]
    have f8__0_1 := f8__0 1; conv at f8__0_1 => rhs; simp [go_sem, *]
    have c8__0_2 := c8__0 2; conv at c8__0_2 => rhs; simp [go_sem, *]
    have f8__0_2 := f8__0 2; conv at f8__0_2 => rhs; simp [go_sem, *]
    have c8__0_3 := c8__0 3; conv at c8__0_3 => rhs; simp [go_sem, *]
    have f8__0_3 := f8__0 3; conv at f8__0_3 => rhs; simp [go_sem, *]
    have c8__0_4 := c8__0 4; conv at c8__0_4 => rhs; simp [go_sem, *]
    have f8__0_4 := f8__0 4; conv at f8__0_4 => rhs; simp [go_sem, *]
    have c8__0_5 := c8__0 5; conv at c8__0_5 => rhs; simp [go_sem, *]
    have f8__0_5 := f8__0 5; conv at f8__0_5 => rhs; simp [go_sem, *]
    obtain ⟨c8__1, f8__1⟩ := bk hb_w8 (w.heap.size + 1) (by first | omega | (simp <;> omega))
    have c8__1_0 := c8__1 0; conv at c8__1_0 => rhs; simp [go_sem, *]
    have f8__1_0 := f8__1 0; conv at f8__1_0 => rhs; simp [go_sem, *]
    have c8__1_1 := c8__1 1; conv at c8__1_1 => rhs; simp [go_sem, *]
    have f8__1_1 := f8__1 1; conv at f8__1_1 => rhs; simp [go_sem, *]
    have c8__1_2 := c8__1 2; conv at c8__1_2 => rhs; simp [go_sem, *]
    have f8__1_2 := f8__1 2; conv at f8__1_2 => rhs; simp [go_sem, *]
    have c8__1_3 := c8__1 3; conv at c8__1_3 => rhs; simp [go_sem, *]
    have f8__1_3 := f8__1 3; conv at f8__1_3 => rhs; simp [go_sem, *]
    have c8__1_4 := c8__1 4; conv at c8__1_4 => rhs; simp [go_sem, *]
    have f8__1_4 := f8__1 4; conv at f8__1_4 => rhs; simp [go_sem, *]
    have c8__1_5 := c8__1 5; conv at c8__1_5 => rhs; simp [go_sem, *]
    have f8__1_5 := f8__1 5; conv at f8__1_5 => rhs; simp [go_sem, *]
    have HH_w8 := Lib.hid hb_w8
    have hB_w8 : Below w.heap.size w w8 := Below.trans (by (repeat (first | with_reducible exact Below.refl _ _ | with_reducible assumption | with_reducible refine Below.drew ?_ | (with_reducible refine Below.setCell ?_ ?_ _; rotate_left; (first | omega | (simp <;> omega))) | (with_reducible refine Below.alloc ?_ ?_ _; rotate_left; (first | omega | (simp <;> omega))) | exact Below.refl _ _ | assumption))) (hb_w8.mono (by first | omega | (simp <;> omega)))
    clear hb_w8 c8__0 f8__0 c8__1 f8__1
    try clear c7__0_0 f7__0_0 c7__0_1 f7__0_1 c7__0_2 f7__0_2 c7__0_3 f7__0_3 c7__0_4 f7__0_4 c7__0_5 f7__0_5 c7__1_0 f7__1_0 c7__1_1 f7__1_1 c7__1_2 f7__1_2 c7__1_3 f7__1_3 c7__1_4 f7__1_4 c7__1_5 f7__1_5 far_w7_w_0 far_w7_w_1 hB_w7
    have far_w8_w_0 := far (show w.heap.size < w8.heap.size by omega)
    have far_w8_w_1 := far (show w.heap.size + 1 < w8.heap.size by omega)
    cases ok with
    | false =>
      go_wp2
      refine bodyPost_ret (v := .tuple #[uv false [] 0 [] false [], .int .i64 20]) (by simp [results, Tryz.results25, go_sem, *]) rfl ⟨by rw [HN.out (by simp)]; rfl, ?_⟩
      (repeat (first | with_reducible exact Below.refl _ _ | with_reducible assumption | with_reducible refine Below.drew ?_ | (with_reducible refine Below.setCell ?_ ?_ _; rotate_left; (first | omega | (simp <;> omega))) | (with_reducible refine Below.alloc ?_ ?_ _; rotate_left; (first | omega | (simp <;> omega))) | exact Below.refl _ _ | assumption))
    | true =>
      go_wp2
      refine bodyPost_ret (v := .tuple #[uv false [] 0 (s.take m) true (s.drop (m + 1)), .int .i64 0]) (by simp [results, Tryz.results25, go_sem, *]) rfl ⟨by rw [HY.out (by simp)], ?_⟩
      (repeat (first | with_reducible exact Below.refl _ _ | with_reducible assumption | with_reducible refine Below.drew ?_ | (with_reducible refine Below.setCell ?_ ?_ _; rotate_left; (first | omega | (simp <;> omega))) | (with_reducible refine Below.alloc ?_ ?_ _; rotate_left; (first | omega | (simp <;> omega))) | exact Below.refl _ _ | assumption))
  · skip
    have HC := Lib.hid (show cut1 s 63 = (s, [], false) by unfold cut1; rw [hix]; simp [hq])
    simp only [HC.out] at CR HY
    go_wp2_with fail
    refine Calls.mono (CR.out _ (by (repeat (first | with_reducible exact Below.refl _ _ | with_reducible assumption | with_reducible refine Below.drew ?_ | (with_reducible refine Below.setCell ?_ ?_ _; rotate_left; (first | omega | (simp <;> omega))) | (with_reducible refine Below.alloc ?_ ?_ _; rotate_left; (first | omega | (simp <;> omega))) | exact Below.refl _ _ | assumption)))) ?_
    rintro e w8 ⟨rfl, hb_w8⟩
    have hz_w8 := hb_w8.size
    try simp at hz_w8
    obtain ⟨c8__0, f8__0⟩ := bk hb_w8 (w.heap.size) (by first | omega | (simp <;> omega))
    have c8__0_0 := c8__0 0; conv at c8__0_0 => rhs; simp [go_sem, *]
    have f8__0_0 := f8__0 0; conv at f8__0_0 => rhs; simp [go_sem, *]
    have c8__0_1 := c8__0 1; conv at c8__0_1 => rhs; simp [go_sem, *]
    have f8__0_1 := f8__0 1; conv at f8__0_1 => rhs; simp [go_sem, *]
    have c8__0_2 := c8__0 2; conv at c8__0_2 => rhs; simp [go_sem, *]
    have f8__0_2 := f8__0 2; conv at f8__0_2 => rhs; simp [go_sem, *]
    have c8__0_3 := c8__0 3; conv at c8__0_3 => rhs; simp [go_sem, *]
    have f8__0_3 := f8__0 3; conv at f8__0_3 => rhs; simp [go_sem, *]
    have c8__0_4 := c8__0 4; conv at c8__0_4 => rhs; simp [go_sem, *]
    have f8__0_4 := f8__0 4; conv at f8__0_4 => rhs; simp [go_sem, *]
    have c8__0_5 := c8__0 5; conv at c8__0_5 => rhs; simp [go_sem, *]
    have f8__0_5 := f8__0 5; conv at f8__0_5 => rhs; simp [go_sem, *]
    obtain ⟨c8__1, f8__1⟩ := bk hb_w8 (w.heap.size + 1) (by first | omega | (simp <;> omega))
    have c8__1_0 := c8__1 0; conv at c8__1_0 => rhs; simp [go_sem, *]
    have f8__1_0 := f8__1 0; conv at f8__1_0 => rhs; simp [go_sem, *]
    have c8__1_1 := c8__1 1; conv at c8__1_1 => rhs; simp [go_sem, *]
    have f8__1_1 := f8__1 1; conv at f8__1_1 => rhs; simp [go_sem, *]
    have c8__1_2 := c8__1 2; conv at c8__1_2 => rhs; simp [go_sem, *]
    have f8__1_2 := f8__1 2; conv at f8__1_2 => rhs; simp [go_sem, *]
    have c8__1_3 := c8__1 3; conv at c8__1_3 => rhs; simp [go_sem, *]
    have f8__1_3 := f8__1 3; conv at f8__1_3 => rhs; simp [go_sem, *]
    have c8__1_4 := c8__1 4; conv at c8__1_4 => rhs; simp [go_sem, *]
    have f8__1_4 := f8__1 4; conv at f8__1_4 => rhs; simp [go_sem, *]
    have c8__1_5 := c8__1 5; conv at c8__1_5 => rhs; simp [go_sem, *]
    have f8__1_5 := f8__1 5; conv at f8__1_5 => rhs; simp [go_sem, *]
    have HH_w8 := Lib.hid hb_w8
    have hB_w8 : Below w.heap.size w w8 := Below.trans (by (repeat (first | with_reducible exact Below.refl _ _ | with_reducible assumption | with_reducible refine Below.drew ?_ | (with_reducible refine Below.setCell ?_ ?_ _; rotate_left; (first | omega | (simp <;> omega))) | (with_reducible refine Below.alloc ?_ ?_ _; rotate_left; (first | omega | (simp <;> omega))) | exact Below.refl _ _ | assumption))) (hb_w8.mono (by first | omega | (simp <;> omega)))
    clear hb_w8 c8__0 f8__0 c8__1 f8__1
    have far_w8_w_0 := far (show w.heap.size < w8.heap.size by omega)
    have far_w8_w_1 := far (show w.heap.size + 1 < w8.heap.size by omega)
    cases ok with
    | false =>
      go_wp2
      refine bodyPost_ret (v := .tuple #[uv false [] 0 [] false [], .int .i64 20]) (by simp [results, Tryz.results25, go_sem, *]) rfl ⟨by rw [HN.out (by simp)]; rfl, ?_⟩
      (repeat (first | with_reducible exact Below.refl _ _ | with_reducible assumption | with_reducible refine Below.drew ?_ | (with_reducible refine Below.setCell ?_ ?_ _; rotate_left; (first | omega | (simp <;> omega))) | (with_reducible refine Below.alloc ?_ ?_ _; rotate_left; (first | omega | (simp <;> omega))) | exact Below.refl _ _ | assumption))
    | true =>
      go_wp2
      refine bodyPost_ret (v := .tuple #[uv false [] 0 s false [], .int .i64 0]) (by simp [results, Tryz.results25, go_sem, *]) rfl ⟨by rw [HY.out (by simp)], ?_⟩
      (repeat (first | with_reducible exact Below.refl _ _ | with_reducible assumption | with_reducible refine Below.drew ?_ | (with_reducible refine Below.setCell ?_ ?_ _; rotate_left; (first | omega | (simp <;> omega))) | (with_reducible refine Below.alloc ?_ ?_ _; rotate_left; (first | omega | (simp <;> omega))) | exact Below.refl _ _ | assumption))

set_option maxHeartbeats 6400000 in
set_option maxRecDepth 100000 in
theorem refParse_abs (s : List UInt8) (hs : s.length ≤ 500) (hB : httpB s = true) (hpb : placeB ((s.drop 7).take (endOf (s.drop 7))) = true) (w : World) (hL : Laid w) :
    Calls Tryz.prog 25 #[.string (S s)] w fun e w' => e = .returned (.tuple #[(parseL s).1.v, .int .i64 (parseL s).2]) ∧ Below w.heap.size w w' := by
  obtain ⟨t, ht⟩ : ∃ t, s.drop 7 = t := ⟨_, rfl⟩
  have htl : t.length ≤ 493 := by rw [← ht, List.length_drop]; have : 7 ≤ s.length := by (unfold httpB at hB; simp at hB; omega)
                                  omega
  have h7 : 7 ≤ s.length := by unfold httpB at hB; simp at hB; omega
  have CL := Lib.hid (fun W => refLower s (by omega) W)
  have CB := Lib.hid (fun W => begins_S (s := lower s) (t := httpL) (b := true) (by rw [lower_len]; omega) (by decide) (by rw [httpB_ref, hB]) W)
  unfold httpL at CB
  have hel := endOf_le t
  have CP := Lib.hid (fun W => refPlace (t.take (endOf t)) (by rw [List.length_take]; omega) W)
  have htail := tailOf_len t
  have CF := Lib.hid (fun W => refFind (tailOf t) 63 (by omega) W)
  have CR := Lib.hid (fun W (hbl : Below w.heap.size w W) => refRightC (absOf t) (absOf_mid t (by omega)) (W := W) hL hbl)
  have HP := show parseL s = if placeB (t.take (endOf t)) && (absOf t).ok then (absOf t, 0) else (UU.nil, 20) by unfold parseL; rw [if_neg (by omega), hB, ht]; simp
  obtain ⟨p, hp⟩ : ∃ x, parseL s = x := ⟨_, rfl⟩
  rw [hp] at HP ⊢
  rw [ht] at hpb
  rw [hpb] at CP HP
  obtain ⟨ok, hok⟩ : ∃ x, (absOf t).ok = x := ⟨_, rfl⟩
  rw [hok] at HP
  rw [hok] at CR
  have HN := Lib.hid (show ok = false → p = (UU.nil, 20) from fun h => by rw [HP, h]; simp)
  have HY := Lib.hid (show true = true → ok = true → p = (absOf t, 0) from fun h h' => by rw [HP, ← h, h']; simp)
  clear HP hp hok hpb hB hL
  unfold absOf at CR HY
  have HT := tailOf_ref t
  obtain ⟨E1, E2⟩ := endOf_spec t
  obtain ⟨r, hr⟩ : ∃ x, tailOf t = x := ⟨_, rfl⟩
  rw [hr] at CF CR HY HT htail
  obtain ⟨e, he⟩ : ∃ x, endOf t = x := ⟨_, rfl⟩
  rw [he] at CP CR HY HT hel E1 E2
  obtain ⟨hh, hhh⟩ : ∃ x, placeH (t.take e) = x := ⟨_, rfl⟩
  obtain ⟨nn, hnn⟩ : ∃ x, placeN (t.take e) = x := ⟨_, rfl⟩
  simp only [hhh, hnn] at CP CR HY
  obtain ⟨d, hd⟩ : ∃ x, t.drop e = x := ⟨_, rfl⟩
  rw [hd] at HT
  have hge := Lib.indexByte_ge r 63
  have hlt := indexByte_lt r 63
  obtain ⟨ix, hix⟩ : ∃ x, Lib.indexByte r 63 = x := ⟨_, rfl⟩
  rw [hix] at CF hge hlt
  have hdl : d.length ≤ t.length := by rw [← hd, List.length_drop]; omega
  have CD := Lib.hid (fun W => begins_S (s := d) (t := [47]) (by omega) (by decide) rfl W)
  obtain ⟨bd, hbd⟩ : ∃ x, Lib.hasPrefix d [47] = x := ⟨_, rfl⟩
  rw [hbd] at CD HT
  clear hr he hhh hnn hbd
  have hE1 := Lib.hid E1
  have hE2 := Lib.hid E2
  clear E1 E2
  simp only [UU.v] at CR ⊢
  have hle : ¬ 500 < (s.length : Int) := by omega
  go_enter Tryz.func25, Tryz.ntmps25
  go_wp2_with fail
  refine Calls.mono (CL.out _) ?_
  rintro e w1 ⟨rfl, hb_w1⟩
  have hz_w1 := hb_w1.size
  try simp at hz_w1
  obtain ⟨c1__0, f1__0⟩ := bk hb_w1 (w.heap.size) (by first | omega | (simp <;> omega))
  have c1__0_0 := c1__0 0; conv at c1__0_0 => rhs; simp [go_sem, *]
  have f1__0_0 := f1__0 0; conv at f1__0_0 => rhs; simp [go_sem, *]
  have c1__0_1 := c1__0 1; conv at c1__0_1 => rhs; simp [go_sem, *]
  have f1__0_1 := f1__0 1; conv at f1__0_1 => rhs; simp [go_sem, *]
  have c1__0_2 := c1__0 2; conv at c1__0_2 => rhs; simp [go_sem, *]
  have f1__0_2 := f1__0 2; conv at f1__0_2 => rhs; simp [go_sem, *]
  have c1__0_3 := c1__0 3; conv at c1__0_3 => rhs; simp [go_sem, *]
  have f1__0_3 := f1__0 3; conv at f1__0_3 => rhs; simp [go_sem, *]
  have c1__0_4 := c1__0 4; conv at c1__0_4 => rhs; simp [go_sem, *]
  have f1__0_4 := f1__0 4; conv at f1__0_4 => rhs; simp [go_sem, *]
  have c1__0_5 := c1__0 5; conv at c1__0_5 => rhs; simp [go_sem, *]
  have f1__0_5 := f1__0 5; conv at f1__0_5 => rhs; simp [go_sem, *]
  obtain ⟨c1__1, f1__1⟩ := bk hb_w1 (w.heap.size + 1) (by first | omega | (simp <;> omega))
  have c1__1_0 := c1__1 0; conv at c1__1_0 => rhs; simp [go_sem, *]
  have f1__1_0 := f1__1 0; conv at f1__1_0 => rhs; simp [go_sem, *]
  have c1__1_1 := c1__1 1; conv at c1__1_1 => rhs; simp [go_sem, *]
  have f1__1_1 := f1__1 1; conv at f1__1_1 => rhs; simp [go_sem, *]
  have c1__1_2 := c1__1 2; conv at c1__1_2 => rhs; simp [go_sem, *]
  have f1__1_2 := f1__1 2; conv at f1__1_2 => rhs; simp [go_sem, *]
  have c1__1_3 := c1__1 3; conv at c1__1_3 => rhs; simp [go_sem, *]
  have f1__1_3 := f1__1 3; conv at f1__1_3 => rhs; simp [go_sem, *]
  have c1__1_4 := c1__1 4; conv at c1__1_4 => rhs; simp [go_sem, *]
  have f1__1_4 := f1__1 4; conv at f1__1_4 => rhs; simp [go_sem, *]
  have c1__1_5 := c1__1 5; conv at c1__1_5 => rhs; simp [go_sem, *]
  have f1__1_5 := f1__1 5; conv at f1__1_5 => rhs; simp [go_sem, *]
  have HH_w1 := Lib.hid hb_w1
  have hB_w1 : Below w.heap.size w w1 := Below.trans (by (repeat (first | with_reducible exact Below.refl _ _ | with_reducible assumption | with_reducible refine Below.drew ?_ | (with_reducible refine Below.setCell ?_ ?_ _; rotate_left; (first | omega | (simp <;> omega))) | (with_reducible refine Below.alloc ?_ ?_ _; rotate_left; (first | omega | (simp <;> omega))) | exact Below.refl _ _ | assumption))) (hb_w1.mono (by first | omega | (simp <;> omega)))
  clear hb_w1 c1__0 f1__0 c1__1 f1__1
  have far_w1_w_0 := far (show w.heap.size < w1.heap.size by omega)
  have far_w1_w_1 := far (show w.heap.size + 1 < w1.heap.size by omega)
  go_wp2_with fail
  refine Calls.mono (same_below (CB.out _)) ?_
  rintro e w2 ⟨rfl, hb_w2⟩
  have hz_w2 := hb_w2.size
  try simp at hz_w2
  obtain ⟨c2__0, f2__0⟩ := bk hb_w2 (w.heap.size) (by first | omega | (simp <;> omega))
  have c2__0_0 := c2__0 0; conv at c2__0_0 => rhs; simp [go_sem, *]
  have f2__0_0 := f2__0 0; conv at f2__0_0 => rhs; simp [go_sem, *]
  have c2__0_1 := c2__0 1; conv at c2__0_1 => rhs; simp [go_sem, *]
  have f2__0_1 := f2__0 1; conv at f2__0_1 => rhs; simp [go_sem, *]
  have c2__0_2 := c2__0 2; conv at c2__0_2 => rhs; simp [go_sem, *]
  have f2__0_2 := f2__0 2; conv at f2__0_2 => rhs; simp [go_sem, *]
  have c2__0_3 := c2__0 3; conv at c2__0_3 => rhs; simp [go_sem, *]
  have f2__0_3 := f2__0 3; conv at f2__0_3 => rhs; simp [go_sem, *]
  have c2__0_4 := c2__0 4; conv at c2__0_4 => rhs; simp [go_sem, *]
  have f2__0_4 := f2__0 4; conv at f2__0_4 => rhs; simp [go_sem, *]
  have c2__0_5 := c2__0 5; conv at c2__0_5 => rhs; simp [go_sem, *]
  have f2__0_5 := f2__0 5; conv at f2__0_5 => rhs; simp [go_sem, *]
  obtain ⟨c2__1, f2__1⟩ := bk hb_w2 (w.heap.size + 1) (by first | omega | (simp <;> omega))
  have c2__1_0 := c2__1 0; conv at c2__1_0 => rhs; simp [go_sem, *]
  have f2__1_0 := f2__1 0; conv at f2__1_0 => rhs; simp [go_sem, *]
  have c2__1_1 := c2__1 1; conv at c2__1_1 => rhs; simp [go_sem, *]
  have f2__1_1 := f2__1 1; conv at f2__1_1 => rhs; simp [go_sem, *]
  have c2__1_2 := c2__1 2; conv at c2__1_2 => rhs; simp [go_sem, *]
  have f2__1_2 := f2__1 2; conv at f2__1_2 => rhs; simp [go_sem, *]
  have c2__1_3 := c2__1 3; conv at c2__1_3 => rhs; simp [go_sem, *]
  have f2__1_3 := f2__1 3; conv at f2__1_3 => rhs; simp [go_sem, *]
  have c2__1_4 := c2__1 4; conv at c2__1_4 => rhs; simp [go_sem, *]
  have f2__1_4 := f2__1 4; conv at f2__1_4 => rhs; simp [go_sem, *]
  have c2__1_5 := c2__1 5; conv at c2__1_5 => rhs; simp [go_sem, *]
  have f2__1_5 := f2__1 5; conv at f2__1_5 => rhs; simp [go_sem, *]
  have HH_w2 := Lib.hid hb_w2
  have hB_w2 : Below w.heap.size w w2 := Below.trans (by (repeat (first | with_reducible exact Below.refl _ _ | with_reducible assumption | with_reducible refine Below.drew ?_ | (with_reducible refine Below.setCell ?_ ?_ _; rotate_left; (first | omega | (simp <;> omega))) | (with_reducible refine Below.alloc ?_ ?_ _; rotate_left; (first | omega | (simp <;> omega))) | exact Below.refl _ _ | assumption))) (hb_w2.mono (by first | omega | (simp <;> omega)))
  clear hb_w2 c2__0 f2__0 c2__1 f2__1
  try clear c1__0_0 f1__0_0 c1__0_1 f1__0_1 c1__0_2 f1__0_2 c1__0_3 f1__0_3 c1__0_4 f1__0_4 c1__0_5 f1__0_5 c1__1_0 f1__1_0 c1__1_1 f1__1_1 c1__1_2 f1__1_2 c1__1_3 f1__1_3 c1__1_4 f1__1_4 c1__1_5 f1__1_5 far_w1_w_0 far_w1_w_1 hB_w1
  have far_w2_w_0 := far (show w.heap.size < w2.heap.size by omega)
  have far_w2_w_1 := far (show w.heap.size + 1 < w2.heap.size by omega)
  go_wp2_with fail
  go_loop [5] (fun nv => ∃ k : Nat, nv = .int .i64 k ∧ k ≤ e) (fun nv => e - (intOf nv).toNat)
  case atStart => exact ⟨0, rfl, Nat.zero_le _⟩
  case round =>
    obtain ⟨k, rfl, hk⟩ := hrel
    by_cases hke : k < e
    · have hkt : k < t.length := by omega
      obtain ⟨n1, n2⟩ := hE1.out k hke
      go_wp2
      go_round
      case rel => exact ⟨k + 1, by go_num, by omega⟩
      case measure => simp [intOf]; omega
    · obtain rfl : k = e := by omega
      have hcase : ¬ (k < t.length) ∨ (k < t.length ∧ (bAt t k != 47) = false) ∨ (k < t.length ∧ (bAt t k != 47) = true ∧ (bAt t k != 63) = false) := by
        by_cases h : k < t.length
        · rcases hE2.out h with h1 | h1
          · exact .inr (.inl ⟨h, by simp [h1]⟩)
          · exact .inr (.inr ⟨h, by simp [h1], by simp [h1]⟩)
        · exact .inl h
      rcases hcase with h9 | ⟨h9, h10⟩ | ⟨h9, h10, h11⟩
      all_goals
        go_wp2_with fail
        refine Calls.mono (CP.out _) ?_
        rintro e w3 ⟨rfl, hb_w3⟩
        have hz_w3 := hb_w3.size
        try simp at hz_w3
        obtain ⟨c3__0, f3__0⟩ := bk hb_w3 (w.heap.size) (by first | omega | (simp <;> omega))
        have c3__0_0 := c3__0 0; conv at c3__0_0 => rhs; simp [go_sem, *]
        have f3__0_0 := f3__0 0; conv at f3__0_0 => rhs; simp [go_sem, *]
        have c3__0_1 := c3__0 1; conv at c3__0_1 => rhs; simp [go_sem, *]
        have f3__0_1 := f3__0 1; conv at f3__0_1 => rhs; simp [go_sem, *]
        have c3__0_2 := c3__0 2; conv at c3__0_2 => rhs; simp [go_sem, *]
        have f3__0_2 := f3__0 2; conv at f3__0_2 => rhs; simp [go_sem, *]
        have c3__0_3 := c3__0 3; conv at c3__0_3 => rhs; simp [go_sem, *]
        have f3__0_3 := f3__0 3; conv at f3__0_3 => rhs; simp [go_sem, *]
        have c3__0_4 := c3__0 4; conv at c3__0_4 => rhs; simp [go_sem, *]
        have f3__0_4 := f3__0 4; conv at f3__0_4 => rhs; simp [go_sem, *]
        have c3__0_5 := c3__0 5; conv at c3__0_5 => rhs; simp [go_sem, *]
        have f3__0_5 := f3__0 5; conv at f3__0_5 => rhs; simp [go_sem, *]
        obtain ⟨c3__1, f3__1⟩ := bk hb_w3 (w.heap.size + 1) (by first | omega | (simp <;> omega))
        have c3__1_0 := c3__1 0; conv at c3__1_0 => rhs; simp [go_sem, *]
        have f3__1_0 := f3__1 0; conv at f3__1_0 => rhs; simp [go_sem, *]
        have c3__1_1 := c3__1 1; conv at c3__1_1 => rhs; simp [go_sem, *]
        have f3__1_1 := f3__1 1; conv at f3__1_1 => rhs; simp [go_sem, *]
        have c3__1_2 := c3__1 2; conv at c3__1_2 => rhs; simp [go_sem, *]
        have f3__1_2 := f3__1 2; conv at f3__1_2 => rhs; simp [go_sem, *]
        have c3__1_3 := c3__1 3; conv at c3__1_3 => rhs; simp [go_sem, *]
        have f3__1_3 := f3__1 3; conv at f3__1_3 => rhs; simp [go_sem, *]
        have c3__1_4 := c3__1 4; conv at c3__1_4 => rhs; simp [go_sem, *]
        have f3__1_4 := f3__1 4; conv at f3__1_4 => rhs; simp [go_sem, *]
        have c3__1_5 := c3__1 5; conv at c3__1_5 => rhs; simp [go_sem, *]
        have f3__1_5 := f3__1 5; conv at f3__1_5 => rhs; simp [go_sem, *]
        have HH_w3 := Lib.hid hb_w3
        have hB_w3 : Below w.heap.size w w3 := Below.trans (by (repeat (first | with_reducible exact Below.refl _ _ | with_reducible assumption | with_reducible refine Below.drew ?_ | (with_reducible refine Below.setCell ?_ ?_ _; rotate_left; (first | omega | (simp <;> omega))) | (with_reducible refine Below.alloc ?_ ?_ _; rotate_left; (first | omega | (simp <;> omega))) | exact Below.refl _ _ | assumption))) (hb_w3.mono (by first | omega | (simp <;> omega)))
        clear hb_w3 c3__0 f3__0 c3__1 f3__1
        try clear c2__0_0 f2__0_0 c2__0_1 f2__0_1 c2__0_2 f2__0_2 c2__0_3 f2__0_3 c2__0_4 f2__0_4 c2__0_5 f2__0_5 c2__1_0 f2__1_0 c2__1_1 f2__1_1 c2__1_2 f2__1_2 c2__1_3 f2__1_3 c2__1_4 f2__1_4 c2__1_5 f2__1_5 far_w2_w_0 far_w2_w_1 hB_w2
        have far_w3_w_0 := far (show w.heap.size < w3.heap.size by omega)
        have far_w3_w_1 := far (show w.heap.size + 1 < w3.heap.size by omega)
        go_wp2_with fail
        refine Calls.mono (same_below (CD.out _)) ?_
        rintro e w4 ⟨rfl, hb_w4⟩
        have hz_w4 := hb_w4.size
        try simp at hz_w4
        obtain ⟨c4__0, f4__0⟩ := bk hb_w4 (w.heap.size) (by first | omega | (simp <;> omega))
        have c4__0_0 := c4__0 0; conv at c4__0_0 => rhs; simp [go_sem, *]
        have f4__0_0 := f4__0 0; conv at f4__0_0 => rhs; simp [go_sem, *]
        have c4__0_1 := c4__0 1; conv at c4__0_1 => rhs; simp [go_sem, *]
        have f4__0_1 := f4__0 1; conv at f4__0_1 => rhs; simp [go_sem, *]
        have c4__0_2 := c4__0 2; conv at c4__0_2 => rhs; simp [go_sem, *]
        have f4__0_2 := f4__0 2; conv at f4__0_2 => rhs; simp [go_sem, *]
        have c4__0_3 := c4__0 3; conv at c4__0_3 => rhs; simp [go_sem, *]
        have f4__0_3 := f4__0 3; conv at f4__0_3 => rhs; simp [go_sem, *]
        have c4__0_4 := c4__0 4; conv at c4__0_4 => rhs; simp [go_sem, *]
        have f4__0_4 := f4__0 4; conv at f4__0_4 => rhs; simp [go_sem, *]
        have c4__0_5 := c4__0 5; conv at c4__0_5 => rhs; simp [go_sem, *]
        have f4__0_5 := f4__0 5; conv at f4__0_5 => rhs; simp [go_sem, *]
        obtain ⟨c4__1, f4__1⟩ := bk hb_w4 (w.heap.size + 1) (by first | omega | (simp <;> omega))
        have c4__1_0 := c4__1 0; conv at c4__1_0 => rhs; simp [go_sem, *]
        have f4__1_0 := f4__1 0; conv at f4__1_0 => rhs; simp [go_sem, *]
        have c4__1_1 := c4__1 1; conv at c4__1_1 => rhs; simp [go_sem, *]
        have f4__1_1 := f4__1 1; conv at f4__1_1 => rhs; simp [go_sem, *]
        have c4__1_2 := c4__1 2; conv at c4__1_2 => rhs; simp [go_sem, *]
        have f4__1_2 := f4__1 2; conv at f4__1_2 => rhs; simp [go_sem, *]
        have c4__1_3 := c4__1 3; conv at c4__1_3 => rhs; simp [go_sem, *]
        have f4__1_3 := f4__1 3; conv at f4__1_3 => rhs; simp [go_sem, *]
        have c4__1_4 := c4__1 4; conv at c4__1_4 => rhs; simp [go_sem, *]
        have f4__1_4 := f4__1 4; conv at f4__1_4 => rhs; simp [go_sem, *]
        have c4__1_5 := c4__1 5; conv at c4__1_5 => rhs; simp [go_sem, *]
        have f4__1_5 := f4__1 5; conv at f4__1_5 => rhs; simp [go_sem, *]
        have HH_w4 := Lib.hid hb_w4
        have hB_w4 : Below w.heap.size w w4 := Below.trans (by (repeat (first | with_reducible exact Below.refl _ _ | with_reducible assumption | with_reducible refine Below.drew ?_ | (with_reducible refine Below.setCell ?_ ?_ _; rotate_left; (first | omega | (simp <;> omega))) | (with_reducible refine Below.alloc ?_ ?_ _; rotate_left; (first | omega | (simp <;> omega))) | exact Below.refl _ _ | assumption))) (hb_w4.mono (by first | omega | (simp <;> omega)))
        clear hb_w4 c4__0 f4__0 c4__1 f4__1
        try clear c3__0_0 f3__0_0 c3__0_1 f3__0_1 c3__0_2 f3__0_2 c3__0_3 f3__0_3 c3__0_4 f3__0_4 c3__0_5 f3__0_5 c3__1_0 f3__1_0 c3__1_1 f3__1_1 c3__1_2 f3__1_2 c3__1_3 f3__1_3 c3__1_4 f3__1_4 c3__1_5 f3__1_5 far_w3_w_0 far_w3_w_1 hB_w3
        have far_w4_w_0 := far (show w.heap.size < w4.heap.size by omega)
        have far_w4_w_1 := far (show w.heap.size + 1 < w4.heap.size by omega)
        cases bd with
        | true =>
          obtain rfl : r = d := by rw [HT]; simp
          clear HT
          go_wp2_with fail
          refine Calls.mono (same_below (CF.out _)) ?_
          rintro e w7 ⟨rfl, hb_w7⟩
          have hz_w7 := hb_w7.size
          try simp at hz_w7
          obtain ⟨c7__0, f7__0⟩ := bk hb_w7 (w.heap.size) (by first | omega | (simp <;> omega))
          have c7__0_0 := c7__0 0; conv at c7__0_0 => rhs; simp [go_sem, *]
          have f7__0_0 := f7__0 0; conv at f7__0_0 => rhs; simp [go_sem, *]
          have c7__0_1 := c7__0 1; conv at c7__0_1 => rhs; simp [go_sem, *]
          have f7__0_1 := f7__0 1; conv at f7__0_1 => rhs; simp [go_sem, *]
          have c7__0_2 := c7__0 2; conv at c7__0_2 => rhs; simp [go_sem, *]
          have f7__0_2 := f7__0 2; conv at f7__0_2 => rhs; simp [go_sem, *]
          have c7__0_3 := c7__0 3; conv at c7__0_3 => rhs; simp [go_sem, *]
          have f7__0_3 := f7__0 3; conv at f7__0_3 => rhs; simp [go_sem, *]
          have c7__0_4 := c7__0 4; conv at c7__0_4 => rhs; simp [go_sem, *]
          have f7__0_4 := f7__0 4; conv at f7__0_4 => rhs; simp [go_sem, *]
          have c7__0_5 := c7__0 5; conv at c7__0_5 => rhs; simp [go_sem, *]
          have f7__0_5 := f7__0 5; conv at f7__0_5 => rhs; simp [go_sem, *]
          obtain ⟨c7__1, f7__1⟩ := bk hb_w7 (w.heap.size + 1) (by first | omega | (simp <;> omega))
          have c7__1_0 := c7__1 0; conv at c7__1_0 => rhs; simp [go_sem, *]
          have f7__1_0 := f7__1 0; conv at f7__1_0 => rhs; simp [go_sem, *]
          have c7__1_1 := c7__1 1; conv at c7__1_1 => rhs; simp [go_sem, *]
          have f7__1_1 := f7__1 1; conv at f7__1_1 => rhs; simp [go_sem, *]
          have c7__1_2 := c7__1 2; conv at c7__1_2 => rhs; simp [go_sem, *]
          have f7__1_2 := f7__1 2; conv at f7__1_2 => rhs; simp [go_sem, *]
          have c7__1_3 := c7__1 3; conv at c7__1_3 => rhs; simp [go_sem, *]
          have f7__1_3 := f7__1 3; conv at f7__1_3 => rhs; simp [go_sem, *]
          have c7__1_4 := c7__1 4; conv at c7__1_4 => rhs; simp [go_sem, *]
          have f7__1_4 := f7__1 4; conv at f7__1_4 => rhs; simp [go_sem, *]
          have c7__1_5 := c7__1 5; conv at c7__1_5 => rhs; simp [go_sem, *]
          have f7__1_5 := f7__1 5; conv at f7__1_5 => rhs; simp [go_sem, *]
          have HH_w7 := Lib.hid hb_w7
          have hB_w7 : Below w.heap.size w w7 := Below.trans (by (repeat (first | with_reducible exact Below.refl _ _ | with_reducible assumption | with_reducible refine Below.drew ?_ | (with_reducible refine Below.setCell ?_ ?_ _; rotate_left; (first | omega | (simp <;> omega))) | (with_reducible refine Below.alloc ?_ ?_ _; rotate_left; (first | omega | (simp <;> omega))) | exact Below.refl _ _ | assumption))) (hb_w7.mono (by first | omega | (simp <;> omega)))
          clear hb_w7 c7__0 f7__0 c7__1 f7__1
          try clear c4__0_0 f4__0_0 c4__0_1 f4__0_1 c4__0_2 f4__0_2 c4__0_3 f4__0_3 c4__0_4 f4__0_4 c4__0_5 f4__0_5 c4__1_0 f4__1_0 c4__1_1 f4__1_1 c4__1_2 f4__1_2 c4__1_3 f4__1_3 c4__1_4 f4__1_4 c4__1_5 f4__1_5 far_w4_w_0 far_w4_w_1 hB_w4
          have far_w7_w_0 := far (show w.heap.size < w7.heap.size by omega)
          have far_w7_w_1 := far (show w.heap.size + 1 < w7.heap.size by omega)
          by_cases hq : 0 ≤ ix
          · obtain ⟨m, rfl⟩ : ∃ m : Nat, ix = m := ⟨ix.toNat, by omega⟩
            have HC := Lib.hid (show cut1 r 63 = (r.take m, r.drop (m + 1), true) by unfold cut1; rw [hix]; simp)
            simp only [HC.out] at CR HY
            go_wp2_with fail
            refine Calls.mono (CR.out _ (by (repeat (first | with_reducible exact Below.refl _ _ | with_reducible assumption | with_reducible refine Below.drew ?_ | (with_reducible refine Below.setCell ?_ ?_ _; rotate_left; (first | omega | (simp <;> omega))) | (with_reducible refine Below.alloc ?_ ?_ _; rotate_left; (first | omega | (simp <;> omega))) | exact Below.refl _ _ | assumption)))) ?_
            rintro e w8 ⟨rfl, hb_w8⟩
            have hz_w8 := hb_w8.size
            try simp at hz_w8
            obtain ⟨c8__0, f8__0⟩ := bk hb_w8 (w.heap.size) (by first | omega | (simp <;> omega))
            have c8__0_0 := c8__0 0; conv at c8__0_0 => rhs; simp [go_sem, *]
            have f8__0_0 := f8__0 0; conv at f8__0_0 => rhs; simp [go_sem, *]
            have c8__0_1 := c8__0 1; conv at c8__0_1 => rhs; simp [go_sem, *]
            have f8__0_1 := f8__0 1; conv at f8__0_1 => rhs; simp [go_sem, *]
            have c8__0_2 := c8__0 2; conv at c8__0_2 => rhs; simp [go_sem, *]
            have f8__0_2 := f8__0 2; conv at f8__0_2 => rhs; simp [go_sem, *]
            have c8__0_3 := c8__0 3; conv at c8__0_3 => rhs; simp [go_sem, *]
            have f8__0_3 := f8__0 3; conv at f8__0_3 => rhs; simp [go_sem, *]
            have c8__0_4 := c8__0 4; conv at c8__0_4 => rhs; simp [go_sem, *]
            have f8__0_4 := f8__0 4; conv at f8__0_4 => rhs; simp [go_sem, *]
            have c8__0_5 := c8__0 5; conv at c8__0_5 => rhs; simp [go_sem, *]
            have f8__0_5 := f8__0 5; conv at f8__0_5 => rhs; simp [go_sem, *]
            obtain ⟨c8__1, f8__1⟩ := bk hb_w8 (w.heap.size + 1) (by first | omega | (simp <;> omega))
            have c8__1_0 := c8__1 0; conv at c8__1_0 => rhs; simp [go_sem, *]
            have f8__1_0 := f8__1 0; conv at f8__1_0 => rhs; simp [go_sem, *]
            have c8__1_1 := c8__1 1; conv at c8__1_1 => rhs; simp [go_sem, *]
            have f8__1_1 := f8__1 1; conv at f8__1_1 => rhs; simp [go_sem, *]
            have c8__1_2 := c8__1 2; conv at c8__1_2 => rhs; simp [go_sem, *]
            have f8__1_2 := f8__1 2; conv at f8__1_2 => rhs; simp [go_sem, *]
            have c8__1_3 := c8__1 3; conv at c8__1_3 => rhs; simp [go_sem, *]
            have f8__1_3 := f8__1 3; conv at f8__1_3 => rhs; simp [go_sem, *]
            have c8__1_4 := c8__1 4; conv at c8__1_4 => rhs; simp [go_sem, *]
            have f8__1_4 := f8__1 4; conv at f8__1_4 => rhs; simp [go_sem, *]
            have c8__1_5 := c8__1 5; conv at c8__1_5 => rhs; simp [go_sem, *]
            have f8__1_5 := f8__1 5; conv at f8__1_5 => rhs; simp [go_sem, *]
            have HH_w8 := Lib.hid hb_w8
            have hB_w8 : Below w.heap.size w w8 := Below.trans (by (repeat (first | with_reducible exact Below.refl _ _ | with_reducible assumption | with_reducible refine Below.drew ?_ | (with_reducible refine Below.setCell ?_ ?_ _; rotate_left; (first | omega | (simp <;> omega))) | (with_reducible refine Below.alloc ?_ ?_ _; rotate_left; (first | omega | (simp <;> omega))) | exact Below.refl _ _ | assumption))) (hb_w8.mono (by first | omega | (simp <;> omega)))
            clear hb_w8 c8__0 f8__0 c8__1 f8__1
            try clear c7__0_0 f7__0_0 c7__0_1 f7__0_1 c7__0_2 f7__0_2 c7__0_3 f7__0_3 c7__0_4 f7__0_4 c7__0_5 f7__0_5 c7__1_0 f7__1_0 c7__1_1 f7__1_1 c7__1_2 f7__1_2 c7__1_3 f7__1_3 c7__1_4 f7__1_4 c7__1_5 f7__1_5 far_w7_w_0 far_w7_w_1 hB_w7
            have far_w8_w_0 := far (show w.heap.size < w8.heap.size by omega)
            have far_w8_w_1 := far (show w.heap.size + 1 < w8.heap.size by omega)
            cases ok with
            | false =>
              go_wp2
              refine bodyPost_ret (v := .tuple #[uv false [] 0 [] false [], .int .i64 20]) (by simp [results, Tryz.results25, go_sem, *]) rfl ⟨by rw [HN.out (by simp)]; rfl, ?_⟩
              (repeat (first | with_reducible exact Below.refl _ _ | with_reducible assumption | with_reducible refine Below.drew ?_ | (with_reducible refine Below.setCell ?_ ?_ _; rotate_left; (first | omega | (simp <;> omega))) | (with_reducible refine Below.alloc ?_ ?_ _; rotate_left; (first | omega | (simp <;> omega))) | exact Below.refl _ _ | assumption))
            | true =>
              go_wp2
              refine bodyPost_ret (v := .tuple #[uv true hh nn (r.take m) true (r.drop (m + 1)), .int .i64 0]) (by simp [results, Tryz.results25, go_sem, *]) rfl ⟨by rw [HY.out (by simp) (by simp)], ?_⟩
              (repeat (first | with_reducible exact Below.refl _ _ | with_reducible assumption | with_reducible refine Below.drew ?_ | (with_reducible refine Below.setCell ?_ ?_ _; rotate_left; (first | omega | (simp <;> omega))) | (with_reducible refine Below.alloc ?_ ?_ _; rotate_left; (first | omega | (simp <;> omega))) | exact Below.refl _ _ | assumption))
          · skip
            have HC := Lib.hid (show cut1 r 63 = (r, [], false) by unfold cut1; rw [hix]; simp [hq])
            simp only [HC.out] at CR HY
            go_wp2_with fail
            refine Calls.mono (CR.out _ (by (repeat (first | with_reducible exact Below.refl _ _ | with_reducible assumption | with_reducible refine Below.drew ?_ | (with_reducible refine Below.setCell ?_ ?_ _; rotate_left; (first | omega | (simp <;> omega))) | (with_reducible refine Below.alloc ?_ ?_ _; rotate_left; (first | omega | (simp <;> omega))) | exact Below.refl _ _ | assumption)))) ?_
            rintro e w8 ⟨rfl, hb_w8⟩
            have hz_w8 := hb_w8.size
            try simp at hz_w8
            obtain ⟨c8__0, f8__0⟩ := bk hb_w8 (w.heap.size) (by first | omega | (simp <;> omega))
            have c8__0_0 := c8__0 0; conv at c8__0_0 => rhs; simp [go_sem, *]
            have f8__0_0 := f8__0 0; conv at f8__0_0 => rhs; simp [go_sem, *]
            have c8__0_1 := c8__0 1; conv at c8__0_1 => rhs; simp [go_sem, *]
            have f8__0_1 := f8__0 1; conv at f8__0_1 => rhs; simp [go_sem, *]
            have c8__0_2 := c8__0 2; conv at c8__0_2 => rhs; simp [go_sem, *]
            have f8__0_2 := f8__0 2; conv at f8__0_2 => rhs; simp [go_sem, *]
            have c8__0_3 := c8__0 3; conv at c8__0_3 => rhs; simp [go_sem, *]
            have f8__0_3 := f8__0 3; conv at f8__0_3 => rhs; simp [go_sem, *]
            have c8__0_4 := c8__0 4; conv at c8__0_4 => rhs; simp [go_sem, *]
            have f8__0_4 := f8__0 4; conv at f8__0_4 => rhs; simp [go_sem, *]
            have c8__0_5 := c8__0 5; conv at c8__0_5 => rhs; simp [go_sem, *]
            have f8__0_5 := f8__0 5; conv at f8__0_5 => rhs; simp [go_sem, *]
            obtain ⟨c8__1, f8__1⟩ := bk hb_w8 (w.heap.size + 1) (by first | omega | (simp <;> omega))
            have c8__1_0 := c8__1 0; conv at c8__1_0 => rhs; simp [go_sem, *]
            have f8__1_0 := f8__1 0; conv at f8__1_0 => rhs; simp [go_sem, *]
            have c8__1_1 := c8__1 1; conv at c8__1_1 => rhs; simp [go_sem, *]
            have f8__1_1 := f8__1 1; conv at f8__1_1 => rhs; simp [go_sem, *]
            have c8__1_2 := c8__1 2; conv at c8__1_2 => rhs; simp [go_sem, *]
            have f8__1_2 := f8__1 2; conv at f8__1_2 => rhs; simp [go_sem, *]
            have c8__1_3 := c8__1 3; conv at c8__1_3 => rhs; simp [go_sem, *]
            have f8__1_3 := f8__1 3; conv at f8__1_3 => rhs; simp [go_sem, *]
            have c8__1_4 := c8__1 4; conv at c8__1_4 => rhs; simp [go_sem, *]
            have f8__1_4 := f8__1 4; conv at f8__1_4 => rhs; simp [go_sem, *]
            have c8__1_5 := c8__1 5; conv at c8__1_5 => rhs; simp [go_sem, *]
            have f8__1_5 := f8__1 5; conv at f8__1_5 => rhs; simp [go_sem, *]
            have HH_w8 := Lib.hid hb_w8
            have hB_w8 : Below w.heap.size w w8 := Below.trans (by (repeat (first | with_reducible exact Below.refl _ _ | with_reducible assumption | with_reducible refine Below.drew ?_ | (with_reducible refine Below.setCell ?_ ?_ _; rotate_left; (first | omega | (simp <;> omega))) | (with_reducible refine Below.alloc ?_ ?_ _; rotate_left; (first | omega | (simp <;> omega))) | exact Below.refl _ _ | assumption))) (hb_w8.mono (by first | omega | (simp <;> omega)))
            clear hb_w8 c8__0 f8__0 c8__1 f8__1
            have far_w8_w_0 := far (show w.heap.size < w8.heap.size by omega)
            have far_w8_w_1 := far (show w.heap.size + 1 < w8.heap.size by omega)
            cases ok with
            | false =>
              go_wp2
              refine bodyPost_ret (v := .tuple #[uv false [] 0 [] false [], .int .i64 20]) (by simp [results, Tryz.results25, go_sem, *]) rfl ⟨by rw [HN.out (by simp)]; rfl, ?_⟩
              (repeat (first | with_reducible exact Below.refl _ _ | with_reducible assumption | with_reducible refine Below.drew ?_ | (with_reducible refine Below.setCell ?_ ?_ _; rotate_left; (first | omega | (simp <;> omega))) | (with_reducible refine Below.alloc ?_ ?_ _; rotate_left; (first | omega | (simp <;> omega))) | exact Below.refl _ _ | assumption))
            | true =>
              go_wp2
              refine bodyPost_ret (v := .tuple #[uv true hh nn r false [], .int .i64 0]) (by simp [results, Tryz.results25, go_sem, *]) rfl ⟨by rw [HY.out (by simp) (by simp)], ?_⟩
              (repeat (first | with_reducible exact Below.refl _ _ | with_reducible assumption | with_reducible refine Below.drew ?_ | (with_reducible refine Below.setCell ?_ ?_ _; rotate_left; (first | omega | (simp <;> omega))) | (with_reducible refine Below.alloc ?_ ?_ _; rotate_left; (first | omega | (simp <;> omega))) | exact Below.refl _ _ | assumption))
        | false =>
          have hrd : 47 :: d = r := by rw [HT]; simp
          clear HT
          go_wp2_with fail
          refine Calls.mono (same_below (CF.out _)) ?_
          rintro e w7 ⟨rfl, hb_w7⟩
          have hz_w7 := hb_w7.size
          try simp at hz_w7
          obtain ⟨c7__0, f7__0⟩ := bk hb_w7 (w.heap.size) (by first | omega | (simp <;> omega))
          have c7__0_0 := c7__0 0; conv at c7__0_0 => rhs; simp [go_sem, *]
          have f7__0_0 := f7__0 0; conv at f7__0_0 => rhs; simp [go_sem, *]
          have c7__0_1 := c7__0 1; conv at c7__0_1 => rhs; simp [go_sem, *]
          have f7__0_1 := f7__0 1; conv at f7__0_1 => rhs; simp [go_sem, *]
          have c7__0_2 := c7__0 2; conv at c7__0_2 => rhs; simp [go_sem, *]
          have f7__0_2 := f7__0 2; conv at f7__0_2 => rhs; simp [go_sem, *]
          have c7__0_3 := c7__0 3; conv at c7__0_3 => rhs; simp [go_sem, *]
          have f7__0_3 := f7__0 3; conv at f7__0_3 => rhs; simp [go_sem, *]
          have c7__0_4 := c7__0 4; conv at c7__0_4 => rhs; simp [go_sem, *]
          have f7__0_4 := f7__0 4; conv at f7__0_4 => rhs; simp [go_sem, *]
          have c7__0_5 := c7__0 5; conv at c7__0_5 => rhs; simp [go_sem, *]
          have f7__0_5 := f7__0 5; conv at f7__0_5 => rhs; simp [go_sem, *]
          obtain ⟨c7__1, f7__1⟩ := bk hb_w7 (w.heap.size + 1) (by first | omega | (simp <;> omega))
          have c7__1_0 := c7__1 0; conv at c7__1_0 => rhs; simp [go_sem, *]
          have f7__1_0 := f7__1 0; conv at f7__1_0 => rhs; simp [go_sem, *]
          have c7__1_1 := c7__1 1; conv at c7__1_1 => rhs; simp [go_sem, *]
          have f7__1_1 := f7__1 1; conv at f7__1_1 => rhs; simp [go_sem, *]
          have c7__1_2 := c7__1 2; conv at c7__1_2 => rhs; simp [go_sem, *]
          have f7__1_2 := f7__1 2; conv at f7__1_2 => rhs; simp [go_sem, *]
          have c7__1_3 := c7__1 3; conv at c7__1_3 => rhs; simp [go_sem, *]
          have f7__1_3 := f7__1 3; conv at f7__1_3 => rhs; simp [go_sem, *]
          have c7__1_4 := c7__1 4; conv at c7__1_4 => rhs; simp [go_sem, *]
          have f7__1_4 := f7__1 4; conv at f7__1_4 => rhs; simp [go_sem, *]
          have c7__1_5 := c7__1 5; conv at c7__1_5 => rhs; simp [go_sem, *]
          have f7__1_5 := f7__1 5; conv at f7__1_5 => rhs; simp [go_sem, *]
          have HH_w7 := Lib.hid hb_w7
          have hB_w7 : Below w.heap.size w w7 := Below.trans (by (repeat (first | with_reducible exact Below.refl _ _ | with_reducible assumption | with_reducible refine Below.drew ?_ | (with_reducible refine Below.setCell ?_ ?_ _; rotate_left; (first | omega | (simp <;> omega))) | (with_reducible refine Below.alloc ?_ ?_ _; rotate_left; (first | omega | (simp <;> omega))) | exact Below.refl _ _ | assumption))) (hb_w7.mono (by first | omega | (simp <;> omega)))
          clear hb_w7 c7__0 f7__0 c7__1 f7__1
          try clear c8__0_0 f8__0_0 c8__0_1 f8__0_1 c8__0_2 f8__0_2 c8__0_3 f8__0_3 c8__0_4 f8__0_4 c8__0_5 f8__0_5 c8__1_0 f8__1_0 c8__1_1 f8__1_1 c8__1_2 f8__1_2 c8__1_3 f8__1_3 c8__1_4 f8__1_4 c8__1_5 f8__1_5 far_w8_w_0 far_w8_w_1 hB_w8
          have far_w7_w_0 := far (show w.heap.size < w7.heap.size by omega)
          have far_w7_w_1 := far (show w.heap.size + 1 < w7.heap.size by omega)
          by_cases hq : 0 ≤ ix
          · obtain ⟨m, rfl⟩ : ∃ m : Nat, ix = m := ⟨ix.toNat, by omega⟩
            have HC := Lib.hid (show cut1 r 63 = (r.take m, r.drop (m + 1), true) by unfold cut1; rw [hix]; simp)
            simp only [HC.out] at CR HY
            go_wp2_with fail
            refine Calls.mono (CR.out _ (by (repeat (first | with_reducible exact Below.refl _ _ | with_reducible assumption | with_reducible refine Below.drew ?_ | (with_reducible refine Below.setCell ?_ ?_ _; rotate_left; (first | omega | (simp <;> omega))) | (with_reducible refine Below.alloc ?_ ?_ _; rotate_left; (first | omega | (simp <;> omega))) | exact Below.refl _ _ | assumption)))) ?_
            rintro e w8 ⟨rfl, hb_w8⟩
            have hz_w8 := hb_w8.size
            try simp at hz_w8
            obtain ⟨c8__0, f8__0⟩ := bk hb_w8 (w.heap.size) (by first | omega | (simp <;> omega))
            have c8__0_0 := c8__0 0; conv at c8__0_0 => rhs; simp [go_sem, *]
            have f8__0_0 := f8__0 0; conv at f8__0_0 => rhs; simp [go_sem, *]
            have c8__0_1 := c8__0 1; conv at c8__0_1 => rhs; simp [go_sem, *]
            have f8__0_1 := f8__0 1; conv at f8__0_1 => rhs; simp [go_sem, *]
            have c8__0_2 := c8__0 2; conv at c8__0_2 => rhs; simp [go_sem, *]
            have f8__0_2 := f8__0 2; conv at f8__0_2 => rhs; simp [go_sem, *]
            have c8__0_3 := c8__0 3; conv at c8__0_3 => rhs; simp [go_sem, *]
            have f8__0_3 := f8__0 3; conv at f8__0_3 => rhs; simp [go_sem, *]
            have c8__0_4 := c8__0 4; conv at c8__0_4 => rhs; simp [go_sem, *]
            have f8__0_4 := f8__0 4; conv at f8__0_4 => rhs; simp [go_sem, *]
            have c8__0_5 := c8__0 5; conv at c8__0_5 => rhs; simp [go_sem, *]
            have f8__0_5 := f8__0 5; conv at f8__0_5 => rhs; simp [go_sem, *]
            obtain ⟨c8__1, f8__1⟩ := bk hb_w8 (w.heap.size + 1) (by first | omega | (simp <;> omega))
            have c8__1_0 := c8__1 0; conv at c8__1_0 => rhs; simp [go_sem, *]
            have f8__1_0 := f8__1 0; conv at f8__1_0 => rhs; simp [go_sem, *]
            have c8__1_1 := c8__1 1; conv at c8__1_1 => rhs; simp [go_sem, *]
            have f8__1_1 := f8__1 1; conv at f8__1_1 => rhs; simp [go_sem, *]
            have c8__1_2 := c8__1 2; conv at c8__1_2 => rhs; simp [go_sem, *]
            have f8__1_2 := f8__1 2; conv at f8__1_2 => rhs; simp [go_sem, *]
            have c8__1_3 := c8__1 3; conv at c8__1_3 => rhs; simp [go_sem, *]
            have f8__1_3 := f8__1 3; conv at f8__1_3 => rhs; simp [go_sem, *]
            have c8__1_4 := c8__1 4; conv at c8__1_4 => rhs; simp [go_sem, *]
            have f8__1_4 := f8__1 4; conv at f8__1_4 => rhs; simp [go_sem, *]
            have c8__1_5 := c8__1 5; conv at c8__1_5 => rhs; simp [go_sem, *]
            have f8__1_5 := f8__1 5; conv at f8__1_5 => rhs; simp [go_sem, *]
            have HH_w8 := Lib.hid hb_w8
            have hB_w8 : Below w.heap.size w w8 := Below.trans (by (repeat (first | with_reducible exact Below.refl _ _ | with_reducible assumption | with_reducible refine Below.drew ?_ | (with_reducible refine Below.setCell ?_ ?_ _; rotate_left; (first | omega | (simp <;> omega))) | (with_reducible refine Below.alloc ?_ ?_ _; rotate_left; (first | omega | (simp <;> omega))) | exact Below.refl _ _ | assumption))) (hb_w8.mono (by first | omega | (simp <;> omega)))
            clear hb_w8 c8__0 f8__0 c8__1 f8__1
            try clear c7__0_0 f7__0_0 c7__0_1 f7__0_1 c7__0_2 f7__0_2 c7__0_3 f7__0_3 c7__0_4 f7__0_4 c7__0_5 f7__0_5 c7__1_0 f7__1_0 c7__1_1 f7__1_1 c7__1_2 f7__1_2 c7__1_3 f7__1_3 c7__1_4 f7__1_4 c7__1_5 f7__1_5 far_w7_w_0 far_w7_w_1 hB_w7
            have far_w8_w_0 := far (show w.heap.size < w8.heap.size by omega)
            have far_w8_w_1 := far (show w.heap.size + 1 < w8.heap.size by omega)
            cases ok with
            | false =>
              go_wp2
              refine bodyPost_ret (v := .tuple #[uv false [] 0 [] false [], .int .i64 20]) (by simp [results, Tryz.results25, go_sem, *]) rfl ⟨by rw [HN.out (by simp)]; rfl, ?_⟩
              (repeat (first | with_reducible exact Below.refl _ _ | with_reducible assumption | with_reducible refine Below.drew ?_ | (with_reducible refine Below.setCell ?_ ?_ _; rotate_left; (first | omega | (simp <;> omega))) | (with_reducible refine Below.alloc ?_ ?_ _; rotate_left; (first | omega | (simp <;> omega))) | exact Below.refl _ _ | assumption))
            | true =>
              go_wp2
              refine bodyPost_ret (v := .tuple #[uv true hh nn (r.take m) true (r.drop (m + 1)), .int .i64 0]) (by simp [results, Tryz.results25, go_sem, *]) rfl ⟨by rw [HY.out (by simp) (by simp)], ?_⟩
              (repeat (first | with_reducible exact Below.refl _ _ | with_reducible assumption | with_reducible refine Below.drew ?_ | (with_reducible refine Below.setCell ?_ ?_ _; rotate_left; (first | omega | (simp <;> omega))) | (with_reducible refine Below.alloc ?_ ?_ _; rotate_left; (first | omega | (simp <;> omega))) | exact Below.refl _ _ | assumption))
          · skip
            have HC := Lib.hid (show cut1 r 63 = (r, [], false) by unfold cut1; rw [hix]; simp [hq])
            simp only [HC.out] at CR HY
            go_wp2_with fail
            refine Calls.mono (CR.out _ (by (repeat (first | with_reducible exact Below.refl _ _ | with_reducible assumption | with_reducible refine Below.drew ?_ | (with_reducible refine Below.setCell ?_ ?_ _; rotate_left; (first | omega | (simp <;> omega))) | (with_reducible refine Below.alloc ?_ ?_ _; rotate_left; (first | omega | (simp <;> omega))) | exact Below.refl _ _ | assumption)))) ?_
            rintro e w8 ⟨rfl, hb_w8⟩
            have hz_w8 := hb_w8.size
            try simp at hz_w8
            obtain ⟨c8__0, f8__0⟩ := bk hb_w8 (w.heap.size) (by first | omega | (simp <;> omega))
            have c8__0_0 := c8__0 0; conv at c8__0_0 => rhs; simp [go_sem, *]
            have f8__0_0 := f8__0 0; conv at f8__0_0 => rhs; simp [go_sem, *]
            have c8__0_1 := c8__0 1; conv at c8__0_1 => rhs; simp [go_sem, *]
            have f8__0_1 := f8__0 1; conv at f8__0_1 => rhs; simp [go_sem, *]
            have c8__0_2 := c8__0 2; conv at c8__0_2 => rhs; simp [go_sem, *]
            have f8__0_2 := f8__0 2; conv at f8__0_2 => rhs; simp [go_sem, *]
            have c8__0_3 := c8__0 3; conv at c8__0_3 => rhs; simp [go_sem, *]
            have f8__0_3 := f8__0 3; conv at f8__0_3 => rhs; simp [go_sem, *]
            have c8__0_4 := c8__0 4; conv at c8__0_4 => rhs; simp [go_sem, *]
            have f8__0_4 := f8__0 4; conv at f8__0_4 => rhs; simp [go_sem, *]
            have c8__0_5 := c8__0 5; conv at c8__0_5 => rhs; simp [go_sem, *]
            have f8__0_5 := f8__0 5; conv at f8__0_5 => rhs; simp [go_sem, *]
            obtain ⟨c8__1, f8__1⟩ := bk hb_w8 (w.heap.size + 1) (by first | omega | (simp <;> omega))
            have c8__1_0 := c8__1 0; conv at c8__1_0 => rhs; simp [go_sem, *]
            have f8__1_0 := f8__1 0; conv at f8__1_0 => rhs; simp [go_sem, *]
            have c8__1_1 := c8__1 1; conv at c8__1_1 => rhs; simp [go_sem, *]
            have f8__1_1 := f8__1 1; conv at f8__1_1 => rhs; simp [go_sem, *]
            have c8__1_2 := c8__1 2; conv at c8__1_2 => rhs; simp [go_sem, *]
            have f8__1_2 := f8__1 2; conv at f8__1_2 => rhs; simp [go_sem, *]
            have c8__1_3 := c8__1 3; conv at c8__1_3 => rhs; simp [go_sem, *]
            have f8__1_3 := f8__1 3; conv at f8__1_3 => rhs; simp [go_sem, *]
            have c8__1_4 := c8__1 4; conv at c8__1_4 => rhs; simp [go_sem, *]
            have f8__1_4 := f8__1 4; conv at f8__1_4 => rhs; simp [go_sem, *]
            have c8__1_5 := c8__1 5; conv at c8__1_5 => rhs; simp [go_sem, *]
            have f8__1_5 := f8__1 5; conv at f8__1_5 => rhs; simp [go_sem, *]
            have HH_w8 := Lib.hid hb_w8
            have hB_w8 : Below w.heap.size w w8 := Below.trans (by (repeat (first | with_reducible exact Below.refl _ _ | with_reducible assumption | with_reducible refine Below.drew ?_ | (with_reducible refine Below.setCell ?_ ?_ _; rotate_left; (first | omega | (simp <;> omega))) | (with_reducible refine Below.alloc ?_ ?_ _; rotate_left; (first | omega | (simp <;> omega))) | exact Below.refl _ _ | assumption))) (hb_w8.mono (by first | omega | (simp <;> omega)))
            clear hb_w8 c8__0 f8__0 c8__1 f8__1
            have far_w8_w_0 := far (show w.heap.size < w8.heap.size by omega)
            have far_w8_w_1 := far (show w.heap.size + 1 < w8.heap.size by omega)
            cases ok with
            | false =>
              go_wp2
              refine bodyPost_ret (v := .tuple #[uv false [] 0 [] false [], .int .i64 20]) (by simp [results, Tryz.results25, go_sem, *]) rfl ⟨by rw [HN.out (by simp)]; rfl, ?_⟩
              (repeat (first | with_reducible exact Below.refl _ _ | with_reducible assumption | with_reducible refine Below.drew ?_ | (with_reducible refine Below.setCell ?_ ?_ _; rotate_left; (first | omega | (simp <;> omega))) | (with_reducible refine Below.alloc ?_ ?_ _; rotate_left; (first | omega | (simp <;> omega))) | exact Below.refl _ _ | assumption))
            | true =>
              go_wp2
              refine bodyPost_ret (v := .tuple #[uv true hh nn r false [], .int .i64 0]) (by simp [results, Tryz.results25, go_sem, *]) rfl ⟨by rw [HY.out (by simp) (by simp)], ?_⟩
              (repeat (first | with_reducible exact Below.refl _ _ | with_reducible assumption | with_reducible refine Below.drew ?_ | (with_reducible refine Below.setCell ?_ ?_ _; rotate_left; (first | omega | (simp <;> omega))) | (with_reducible refine Below.alloc ?_ ?_ _; rotate_left; (first | omega | (simp <;> omega))) | exact Below.refl _ _ | assumption))

set_option maxHeartbeats 6400000 in
set_option maxRecDepth 100000 in
theorem refParse_bad (s : List UInt8) (hs : s.length ≤ 500) (hB : httpB s = true) (hpb : placeB ((s.drop 7).take (endOf (s.drop 7))) = false) (w : World) (hL : Laid w) :
    Calls Tryz.prog 25 #[.string (S s)] w fun e w' => e = .returned (.tuple #[(parseL s).1.v, .int .i64 (parseL s).2]) ∧ Below w.heap.size w w' := by
  obtain ⟨t, ht⟩ : ∃ t, s.drop 7 = t := ⟨_, rfl⟩
  have htl : t.length ≤ 493 := by rw [← ht, List.length_drop]; have : 7 ≤ s.length := by (unfold httpB at hB; simp at hB; omega)
                                  omega
  have h7 : 7 ≤ s.length := by unfold httpB at hB; simp at hB; omega
  have CL := Lib.hid (fun W => refLower s (by omega) W)
  have CB := Lib.hid (fun W => begins_S (s := lower s) (t := httpL) (b := true) (by rw [lower_len]; omega) (by decide) (by rw [httpB_ref, hB]) W)
  unfold httpL at CB
  have hel := endOf_le t
  have CP := Lib.hid (fun W => refPlace (t.take (endOf t)) (by rw [List.length_take]; omega) W)
  have htail := tailOf_len t
  have CF := Lib.hid (fun W => refFind (tailOf t) 63 (by omega) W)
  have CR := Lib.hid (fun W (hbl : Below w.heap.size w W) => refRightC ⟨true, placeH (t.take (endOf t)), -1, (cut1 (tailOf t) 63).1, (cut1 (tailOf t) 63).2.2, (cut1 (tailOf t) 63).2.1⟩ (absOf_mid t (by omega)) (W := W) hL hbl)
  have HP := show parseL s = if placeB (t.take (endOf t)) && (absOf t).ok then (absOf t, 0) else (UU.nil, 20) by unfold parseL; rw [if_neg (by omega), hB, ht]; simp
  obtain ⟨p, hp⟩ : ∃ x, parseL s = x := ⟨_, rfl⟩
  rw [hp] at HP ⊢
  rw [ht] at hpb
  rw [hpb] at CP HP
  obtain ⟨ok, hok⟩ : ∃ x, (absOf t).ok = x := ⟨_, rfl⟩
  rw [hok] at HP
  rw [show UU.ok ⟨true, placeH (t.take (endOf t)), -1, (cut1 (tailOf t) 63).1, (cut1 (tailOf t) 63).2.2, (cut1 (tailOf t) 63).2.1⟩ = false from neg_port ..] at CR
  have HN := Lib.hid (show True → p = (UU.nil, 20) from fun h => by rw [HP]; simp)
  have HY := Lib.hid (show true = false → ok = true → p = (absOf t, 0) from fun h h' => by rw [HP, ← h, h']; simp)
  clear HP hp hok hpb hB hL
  unfold absOf at HY
  have HT := tailOf_ref t
  obtain ⟨E1, E2⟩ := endOf_spec t
  obtain ⟨r, hr⟩ : ∃ x, tailOf t = x := ⟨_, rfl⟩
  rw [hr] at CF CR HY HT htail
  obtain ⟨e, he⟩ : ∃ x, endOf t = x := ⟨_, rfl⟩
  rw [he] at CP CR HY HT hel E1 E2
  obtain ⟨hh, hhh⟩ : ∃ x, placeH (t.take e) = x := ⟨_, rfl⟩
  obtain ⟨nn, hnn⟩ : ∃ x, placeN (t.take e) = x := ⟨_, rfl⟩
  simp only [hhh, hnn] at CP CR HY
  obtain ⟨d, hd⟩ : ∃ x, t.drop e = x := ⟨_, rfl⟩
  rw [hd] at HT
  have hge := Lib.indexByte_ge r 63
  have hlt := indexByte_lt r 63
  obtain ⟨ix, hix⟩ : ∃ x, Lib.indexByte r 63 = x := ⟨_, rfl⟩
  rw [hix] at CF hge hlt
  have hdl : d.length ≤ t.length := by rw [← hd, List.length_drop]; omega
  have CD := Lib.hid (fun W => begins_S (s := d) (t := [47]) (by omega) (by decide) rfl W)
  obtain ⟨bd, hbd⟩ : ∃ x, Lib.hasPrefix d [47] = x := ⟨_, rfl⟩
  rw [hbd] at CD HT
  clear hr he hhh hnn hbd
  have hE1 := Lib.hid E1
  have hE2 := Lib.hid E2
  clear E1 E2
  simp only [UU.v] at CR ⊢
  have hle : ¬ 500 < (s.length : Int) := by omega
  go_enter Tryz.func25, Tryz.ntmps25
  go_wp2_with fail
  refine Calls.mono (CL.out _) ?_
  rintro e w1 ⟨rfl, hb_w1⟩
  have hz_w1 := hb_w1.size
  try simp at hz_w1
  obtain ⟨c1__0, f1__0⟩ := bk hb_w1 (w.heap.size) (by first | omega | (simp <;> omega))
  have c1__0_0 := c1__0 0; conv at c1__0_0 => rhs; simp [go_sem, *]
  have f1__0_0 := f1__0 0; conv at f1__0_0 => rhs; simp [go_sem, *]
  have c1__0_1 := c1__0 1; conv at c1__0_1 => rhs; simp [go_sem, *]
  have f1__0_1 := f1__0 1; conv at f1__0_1 => rhs; simp [go_sem, *]
  have c1__0_2 := c1__0 2; conv at c1__0_2 => rhs; simp [go_sem, *]
  have f1__0_2 := f1__0 2; conv at f1__0_2 => rhs; simp [go_sem, *]
  have c1__0_3 := c1__0 3; conv at c1__0_3 => rhs; simp [go_sem, *]
  have f1__0_3 := f1__0 3; conv at f1__0_3 => rhs; simp [go_sem, *]
  have c1__0_4 := c1__0 4; conv at c1__0_4 => rhs; simp [go_sem, *]
  have f1__0_4 := f1__0 4; conv at f1__0_4 => rhs; simp [go_sem, *]
  have c1__0_5 := c1__0 5; conv at c1__0_5 => rhs; simp [go_sem, *]
  have f1__0_5 := f1__0 5; conv at f1__0_5 => rhs; simp [go_sem, *]
  obtain ⟨c1__1, f1__1⟩ := bk hb_w1 (w.heap.size + 1) (by first | omega | (simp <;> omega))
  have c1__1_0 := c1__1 0; conv at c1__1_0 => rhs; simp [go_sem, *]
  have f1__1_0 := f1__1 0; conv at f1__1_0 => rhs; simp [go_sem, *]
  have c1__1_1 := c1__1 1; conv at c1__1_1 => rhs; simp [go_sem, *]
  have f1__1_1 := f1__1 1; conv at f1__1_1 => rhs; simp [go_sem, *]
  have c1__1_2 := c1__1 2; conv at c1__1_2 => rhs; simp [go_sem, *]
  have f1__1_2 := f1__1 2; conv at f1__1_2 => rhs; simp [go_sem, *]
  have c1__1_3 := c1__1 3; conv at c1__1_3 => rhs; simp [go_sem, *]
  have f1__1_3 := f1__1 3; conv at f1__1_3 => rhs; simp [go_sem, *]
  have c1__1_4 := c1__1 4; conv at c1__1_4 => rhs; simp [go_sem, *]
  have f1__1_4 := f1__1 4; conv at f1__1_4 => rhs; simp [go_sem, *]
  have c1__1_5 := c1__1 5; conv at c1__1_5 => rhs; simp [go_sem, *]
  have f1__1_5 := f1__1 5; conv at f1__1_5 => rhs; simp [go_sem, *]
  have HH_w1 := Lib.hid hb_w1
  have hB_w1 : Below w.heap.size w w1 := Below.trans (by (repeat (first | with_reducible exact Below.refl _ _ | with_reducible assumption | with_reducible refine Below.drew ?_ | (with_reducible refine Below.setCell ?_ ?_ _; rotate_left; (first | omega | (simp <;> omega))) | (with_reducible refine Below.alloc ?_ ?_ _; rotate_left; (first | omega | (simp <;> omega))) | exact Below.refl _ _ | assumption))) (hb_w1.mono (by first | omega | (simp <;> omega)))
  clear hb_w1 c1__0 f1__0 c1__1 f1__1
  have far_w1_w_0 := far (show w.heap.size < w1.heap.size by omega)
  have far_w1_w_1 := far (show w.heap.size + 1 < w1.heap.size by omega)
  go_wp2_with fail
  refine Calls.mono (same_below (CB.out _)) ?_
  rintro e w2 ⟨rfl, hb_w2⟩
  have hz_w2 := hb_w2.size
  try simp at hz_w2
  obtain ⟨c2__0, f2__0⟩ := bk hb_w2 (w.heap.size) (by first | omega | (simp <;> omega))
  have c2__0_0 := c2__0 0; conv at c2__0_0 => rhs; simp [go_sem, *]
  have f2__0_0 := f2__0 0; conv at f2__0_0 => rhs; simp [go_sem, *]
  have c2__0_1 := c2__0 1; conv at c2__0_1 => rhs; simp [go_sem, *]
  have f2__0_1 := f2__0 1; conv at f2__0_1 => rhs; simp [go_sem, *]
  have c2__0_2 := c2__0 2; conv at c2__0_2 => rhs; simp [go_sem, *]
  have f2__0_2 := f2__0 2; conv at f2__0_2 => rhs; simp [go_sem, *]
  have c2__0_3 := c2__0 3; conv at c2__0_3 => rhs; simp [go_sem, *]
  have f2__0_3 := f2__0 3; conv at f2__0_3 => rhs; simp [go_sem, *]
  have c2__0_4 := c2__0 4; conv at c2__0_4 => rhs; simp [go_sem, *]
  have f2__0_4 := f2__0 4; conv at f2__0_4 => rhs; simp [go_sem, *]
  have c2__0_5 := c2__0 5; conv at c2__0_5 => rhs; simp [go_sem, *]
  have f2__0_5 := f2__0 5; conv at f2__0_5 => rhs; simp [go_sem, *]
  obtain ⟨c2__1, f2__1⟩ := bk hb_w2 (w.heap.size + 1) (by first | omega | (simp <;> omega))
  have c2__1_0 := c2__1 0; conv at c2__1_0 => rhs; simp [go_sem, *]
  have f2__1_0 := f2__1 0; conv at f2__1_0 => rhs; simp [go_sem, *]
  have c2__1_1 := c2__1 1; conv at c2__1_1 => rhs; simp [go_sem, *]
  have f2__1_1 := f2__1 1; conv at f2__1_1 => rhs; simp [go_sem, *]
  have c2__1_2 := c2__1 2; conv at c2__1_2 => rhs; simp [go_sem, *]
  have f2__1_2 := f2__1 2; conv at f2__1_2 => rhs; simp [go_sem, *]
  have c2__1_3 := c2__1 3; conv at c2__1_3 => rhs; simp [go_sem, *]
  have f2__1_3 := f2__1 3; conv at f2__1_3 => rhs; simp [go_sem, *]
  have c2__1_4 := c2__1 4; conv at c2__1_4 => rhs; simp [go_sem, *]
  have f2__1_4 := f2__1 4; conv at f2__1_4 => rhs; simp [go_sem, *]
  have c2__1_5 := c2__1 5; conv at c2__1_5 => rhs; simp [go_sem, *]
  have f2__1_5 := f2__1 5; conv at f2__1_5 => rhs; simp [go_sem, *]
  have HH_w2 := Lib.hid hb_w2
  have hB_w2 : Below w.heap.size w w2 := Below.trans (by (repeat (first | with_reducible exact Below.refl _ _ | with_reducible assumption | with_reducible refine Below.drew ?_ | (with_reducible refine Below.setCell ?_ ?_ _; rotate_left; (first | omega | (simp <;> omega))) | (with_reducible refine Below.alloc ?_ ?_ _; rotate_left; (first | omega | (simp <;> omega))) | exact Below.refl _ _ | assumption))) (hb_w2.mono (by first | omega | (simp <;> omega)))
  clear hb_w2 c2__0 f2__0 c2__1 f2__1
  try clear c1__0_0 f1__0_0 c1__0_1 f1__0_1 c1__0_2 f1__0_2 c1__0_3 f1__0_3 c1__0_4 f1__0_4 c1__0_5 f1__0_5 c1__1_0 f1__1_0 c1__1_1 f1__1_1 c1__1_2 f1__1_2 c1__1_3 f1__1_3 c1__1_4 f1__1_4 c1__1_5 f1__1_5 far_w1_w_0 far_w1_w_1 hB_w1
  have far_w2_w_0 := far (show w.heap.size < w2.heap.size by omega)
  have far_w2_w_1 := far (show w.heap.size + 1 < w2.heap.size by omega)
  go_wp2_with fail
  go_loop [5] (fun nv => ∃ k : Nat, nv = .int .i64 k ∧ k ≤ e) (fun nv => e - (intOf nv).toNat)
  case atStart => exact ⟨0, rfl, Nat.zero_le _⟩
  case round =>
    obtain ⟨k, rfl, hk⟩ := hrel
    by_cases hke : k < e
    · have hkt : k < t.length := by omega
      obtain ⟨n1, n2⟩ := hE1.out k hke
      go_wp2
      go_round
      case rel => exact ⟨k + 1, by go_num, by omega⟩
      case measure => simp [intOf]; omega
    · obtain rfl : k = e := by omega
      have hcase : ¬ (k < t.length) ∨ (k < t.length ∧ (bAt t k != 47) = false) ∨ (k < t.length ∧ (bAt t k != 47) = true ∧ (bAt t k != 63) = false) := by
        by_cases h : k < t.length
        · rcases hE2.out h with h1 | h1
          · exact .inr (.inl ⟨h, by simp [h1]⟩)
          · exact .inr (.inr ⟨h, by simp [h1], by simp [h1]⟩)
        · exact .inl h
      rcases hcase with h9 | ⟨h9, h10⟩ | ⟨h9, h10, h11⟩
      all_goals
        go_wp2_with fail
        refine Calls.mono (CP.out _) ?_
        rintro e w3 ⟨rfl, hb_w3⟩
        have hz_w3 := hb_w3.size
        try simp at hz_w3
        obtain ⟨c3__0, f3__0⟩ := bk hb_w3 (w.heap.size) (by first | omega | (simp <;> omega))
        have c3__0_0 := c3__0 0; conv at c3__0_0 => rhs; simp [go_sem, *]
        have f3__0_0 := f3__0 0; conv at f3__0_0 => rhs; simp [go_sem, *]
        have c3__0_1 := c3__0 1; conv at c3__0_1 => rhs; simp [go_sem, *]
        have f3__0_1 := f3__0 1; conv at f3__0_1 => rhs; simp [go_sem, *]
        have c3__0_2 := c3__0 2; conv at c3__0_2 => rhs; simp [go_sem, *]
        have f3__0_2 := f3__0 2; conv at f3__0_2 => rhs; simp [go_sem, *]
        have c3__0_3 := c3__0 3; conv at c3__0_3 => rhs; simp [go_sem, *]
        have f3__0_3 := f3__0 3; conv at f3__0_3 => rhs; simp [go_sem, *]
        have c3__0_4 := c3__0 4; conv at c3__0_4 => rhs; simp [go_sem, *]
        have f3__0_4 := f3__0 4; conv at f3__0_4 => rhs; simp [go_sem, *]
        have c3__0_5 := c3__0 5; conv at c3__0_5 => rhs; simp [go_sem, *]
        have f3__0_5 := f3__0 5; conv at f3__0_5 => rhs; simp [go_sem, *]
        obtain ⟨c3__1, f3__1⟩ := bk hb_w3 (w.heap.size + 1) (by first | omega | (simp <;> omega))
        have c3__1_0 := c3__1 0; conv at c3__1_0 => rhs; simp [go_sem, *]
        have f3__1_0 := f3__1 0; conv at f3__1_0 => rhs; simp [go_sem, *]
        have c3__1_1 := c3__1 1; conv at c3__1_1 => rhs; simp [go_sem, *]
        have f3__1_1 := f3__1 1; conv at f3__1_1 => rhs; simp [go_sem, *]
        have c3__1_2 := c3__1 2; conv at c3__1_2 => rhs; simp [go_sem, *]
        have f3__1_2 := f3__1 2; conv at f3__1_2 => rhs; simp [go_sem, *]
        have c3__1_3 := c3__1 3; conv at c3__1_3 => rhs; simp [go_sem, *]
        have f3__1_3 := f3__1 3; conv at f3__1_3 => rhs; simp [go_sem, *]
        have c3__1_4 := c3__1 4; conv at c3__1_4 => rhs; simp [go_sem, *]
        have f3__1_4 := f3__1 4; conv at f3__1_4 => rhs; simp [go_sem, *]
        have c3__1_5 := c3__1 5; conv at c3__1_5 => rhs; simp [go_sem, *]
        have f3__1_5 := f3__1 5; conv at f3__1_5 => rhs; simp [go_sem, *]
        have HH_w3 := Lib.hid hb_w3
        have hB_w3 : Below w.heap.size w w3 := Below.trans (by (repeat (first | with_reducible exact Below.refl _ _ | with_reducible assumption | with_reducible refine Below.drew ?_ | (with_reducible refine Below.setCell ?_ ?_ _; rotate_left; (first | omega | (simp <;> omega))) | (with_reducible refine Below.alloc ?_ ?_ _; rotate_left; (first | omega | (simp <;> omega))) | exact Below.refl _ _ | assumption))) (hb_w3.mono (by first | omega | (simp <;> omega)))
        clear hb_w3 c3__0 f3__0 c3__1 f3__1
        try clear c2__0_0 f2__0_0 c2__0_1 f2__0_1 c2__0_2 f2__0_2 c2__0_3 f2__0_3 c2__0_4 f2__0_4 c2__0_5 f2__0_5 c2__1_0 f2__1_0 c2__1_1 f2__1_1 c2__1_2 f2__1_2 c2__1_3 f2__1_3 c2__1_4 f2__1_4 c2__1_5 f2__1_5 far_w2_w_0 far_w2_w_1 hB_w2
        have far_w3_w_0 := far (show w.heap.size < w3.heap.size by omega)
        have far_w3_w_1 := far (show w.heap.size + 1 < w3.heap.size by omega)
        go_wp2_with fail
        refine Calls.mono (same_below (CD.out _)) ?_
        rintro e w4 ⟨rfl, hb_w4⟩
        have hz_w4 := hb_w4.size
        try simp at hz_w4
        obtain ⟨c4__0, f4__0⟩ := bk hb_w4 (w.heap.size) (by first | omega | (simp <;> omega))
        have c4__0_0 := c4__0 0; conv at c4__0_0 => rhs; simp [go_sem, *]
        have f4__0_0 := f4__0 0; conv at f4__0_0 => rhs; simp [go_sem, *]
        have c4__0_1 := c4__0 1; conv at c4__0_1 => rhs; simp [go_sem, *]
        have f4__0_1 := f4__0 1; conv at f4__0_1 => rhs; simp [go_sem, *]
        have c4__0_2 := c4__0 2; conv at c4__0_2 => rhs; simp [go_sem, *]
        have f4__0_2 := f4__0 2; conv at f4__0_2 => rhs; simp [go_sem, *]
        have c4__0_3 := c4__0 3; conv at c4__0_3 => rhs; simp [go_sem, *]
        have f4__0_3 := f4__0 3; conv at f4__0_3 => rhs; simp [go_sem, *]
        have c4__0_4 := c4__0 4; conv at c4__0_4 => rhs; simp [go_sem, *]
        have f4__0_4 := f4__0 4; conv at f4__0_4 => rhs; simp [go_sem, *]
        have c4__0_5 := c4__0 5; conv at c4__0_5 => rhs; simp [go_sem, *]
        have f4__0_5 := f4__0 5; conv at f4__0_5 => rhs; simp [go_sem, *]
        obtain ⟨c4__1, f4__1⟩ := bk hb_w4 (w.heap.size + 1) (by first | omega | (simp <;> omega))
        have c4__1_0 := c4__1 0; conv at c4__1_0 => rhs; simp [go_sem, *]
        have f4__1_0 := f4__1 0; conv at f4__1_0 => rhs; simp [go_sem, *]
        have c4__1_1 := c4__1 1; conv at c4__1_1 => rhs; simp [go_sem, *]
        have f4__1_1 := f4__1 1; conv at f4__1_1 => rhs; simp [go_sem, *]
        have c4__1_2 := c4__1 2; conv at c4__1_2 => rhs; simp [go_sem, *]
        have f4__1_2 := f4__1 2; conv at f4__1_2 => rhs; simp [go_sem, *]
        have c4__1_3 := c4__1 3; conv at c4__1_3 => rhs; simp [go_sem, *]
        have f4__1_3 := f4__1 3; conv at f4__1_3 => rhs; simp [go_sem, *]
        have c4__1_4 := c4__1 4; conv at c4__1_4 => rhs; simp [go_sem, *]
        have f4__1_4 := f4__1 4; conv at f4__1_4 => rhs; simp [go_sem, *]
        have c4__1_5 := c4__1 5; conv at c4__1_5 => rhs; simp [go_sem, *]
        have f4__1_5 := f4__1 5; conv at f4__1_5 => rhs; simp [go_sem, *]
        have HH_w4 := Lib.hid hb_w4
        have hB_w4 : Below w.heap.size w w4 := Below.trans (by (repeat (first | with_reducible exact Below.refl _ _ | with_reducible assumption | with_reducible refine Below.drew ?_ | (with_reducible refine Below.setCell ?_ ?_ _; rotate_left; (first | omega | (simp <;> omega))) | (with_reducible refine Below.alloc ?_ ?_ _; rotate_left; (first | omega | (simp <;> omega))) | exact Below.refl _ _ | assumption))) (hb_w4.mono (by first | omega | (simp <;> omega)))
        clear hb_w4 c4__0 f4__0 c4__1 f4__1
        try clear c3__0_0 f3__0_0 c3__0_1 f3__0_1 c3__0_2 f3__0_2 c3__0_3 f3__0_3 c3__0_4 f3__0_4 c3__0_5 f3__0_5 c3__1_0 f3__1_0 c3__1_1 f3__1_1 c3__1_2 f3__1_2 c3__1_3 f3__1_3 c3__1_4 f3__1_4 c3__1_5 f3__1_5 far_w3_w_0 far_w3_w_1 hB_w3
        have far_w4_w_0 := far (show w.heap.size < w4.heap.size by omega)
        have far_w4_w_1 := far (show w.heap.size + 1 < w4.heap.size by omega)
        cases bd with
        | true =>
          obtain rfl : r = d := by rw [HT]; simp
          clear HT
          go_wp2_with fail
          refine Calls.mono (same_below (CF.out _)) ?_
          rintro e w7 ⟨rfl, hb_w7⟩
          have hz_w7 := hb_w7.size
          try simp at hz_w7
          obtain ⟨c7__0, f7__0⟩ := bk hb_w7 (w.heap.size) (by first | omega | (simp <;> omega))
          have c7__0_0 := c7__0 0; conv at c7__0_0 => rhs; simp [go_sem, *]
          have f7__0_0 := f7__0 0; conv at f7__0_0 => rhs; simp [go_sem, *]
          have c7__0_1 := c7__0 1; conv at c7__0_1 => rhs; simp [go_sem, *]
          have f7__0_1 := f7__0 1; conv at f7__0_1 => rhs; simp [go_sem, *]
          have c7__0_2 := c7__0 2; conv at c7__0_2 => rhs; simp [go_sem, *]
          have f7__0_2 := f7__0 2; conv at f7__0_2 => rhs; simp [go_sem, *]
          have c7__0_3 := c7__0 3; conv at c7__0_3 => rhs; simp [go_sem, *]
          have f7__0_3 := f7__0 3; conv at f7__0_3 => rhs; simp [go_sem, *]
          have c7__0_4 := c7__0 4; conv at c7__0_4 => rhs; simp [go_sem, *]
          have f7__0_4 := f7__0 4; conv at f7__0_4 => rhs; simp [go_sem, *]
          have c7__0_5 := c7__0 5; conv at c7__0_5 => rhs; simp [go_sem, *]
          have f7__0_5 := f7__0 5; conv at f7__0_5 => rhs; simp [go_sem, *]
          obtain ⟨c7__1, f7__1⟩ := bk hb_w7 (w.heap.size + 1) (by first | omega | (simp <;> omega))
          have c7__1_0 := c7__1 0; conv at c7__1_0 => rhs; simp [go_sem, *]
          have f7__1_0 := f7__1 0; conv at f7__1_0 => rhs; simp [go_sem, *]
          have c7__1_1 := c7__1 1; conv at c7__1_1 => rhs; simp [go_sem, *]
          have f7__1_1 := f7__1 1; conv at f7__1_1 => rhs; simp [go_sem, *]
          have c7__1_2 := c7__1 2; conv at c7__1_2 => rhs; simp [go_sem, *]
          have f7__1_2 := f7__1 2; conv at f7__1_2 => rhs; simp [go_sem, *]
          have c7__1_3 := c7__1 3; conv at c7__1_3 => rhs; simp [go_sem, *]
          have f7__1_3 := f7__1 3; conv at f7__1_3 => rhs; simp [go_sem, *]
          have c7__1_4 := c7__1 4; conv at c7__1_4 => rhs; simp [go_sem, *]
          have f7__1_4 := f7__1 4; conv at f7__1_4 => rhs; simp [go_sem, *]
          have c7__1_5 := c7__1 5; conv at c7__1_5 => rhs; simp [go_sem, *]
          have f7__1_5 := f7__1 5; conv at f7__1_5 => rhs; simp [go_sem, *]
          have HH_w7 := Lib.hid hb_w7
          have hB_w7 : Below w.heap.size w w7 := Below.trans (by (repeat (first | with_reducible exact Below.refl _ _ | with_reducible assumption | with_reducible refine Below.drew ?_ | (with_reducible refine Below.setCell ?_ ?_ _; rotate_left; (first | omega | (simp <;> omega))) | (with_reducible refine Below.alloc ?_ ?_ _; rotate_left; (first | omega | (simp <;> omega))) | exact Below.refl _ _ | assumption))) (hb_w7.mono (by first | omega | (simp <;> omega)))
          clear hb_w7 c7__0 f7__0 c7__1 f7__1
          try clear c4__0_0 f4__0_0 c4__0_1 f4__0_1 c4__0_2 f4__0_2 c4__0_3 f4__0_3 c4__0_4 f4__0_4 c4__0_5 f4__0_5 c4__1_0 f4__1_0 c4__1_1 f4__1_1 c4__1_2 f4__1_2 c4__1_3 f4__1_3 c4__1_4 f4__1_4 c4__1_5 f4__1_5 far_w4_w_0 far_w4_w_1 hB_w4
          have far_w7_w_0 := far (show w.heap.size < w7.heap.size by omega)
          have far_w7_w_1 := far (show w.heap.size + 1 < w7.heap.size by omega)
          by_cases hq : 0 ≤ ix
          · obtain ⟨m, rfl⟩ : ∃ m : Nat, ix = m := ⟨ix.toNat, by omega⟩
            have HC := Lib.hid (show cut1 r 63 = (r.take m, r.drop (m + 1), true) by unfold cut1; rw [hix]; simp)
            simp only [HC.out] at CR HY
            go_wp2_with fail
            refine Calls.mono (CR.out _ (by (repeat (first | with_reducible exact Below.refl _ _ | with_reducible assumption | with_reducible refine Below.drew ?_ | (with_reducible refine Below.setCell ?_ ?_ _; rotate_left; (first | omega | (simp <;> omega))) | (with_reducible refine Below.alloc ?_ ?_ _; rotate_left; (first | omega | (simp <;> omega))) | exact Below.refl _ _ | assumption)))) ?_
            rintro e w8 ⟨rfl, hb_w8⟩
            have hz_w8 := hb_w8.size
            try simp at hz_w8
            obtain ⟨c8__0, f8__0⟩ := bk hb_w8 (w.heap.size) (by first | omega | (simp <;> omega))
            have c8__0_0 := c8__0 0; conv at c8__0_0 => rhs; simp [go_sem, *]
            have f8__0_0 := f8__0 0; conv at f8__0_0 => rhs; simp [go_sem, *]
            have c8__0_1 := c8__0 1; conv at c8__0_1 => rhs; simp [go_sem, *]
            have f8__0_1 := f8__0 1; conv at f8__0_1 => rhs; simp [go_sem, *]
            have c8__0_2 := c8__0 2; conv at c8__0_2 => rhs; simp [go_sem, *]
            have f8__0_2 := f8__0 2; conv at f8__0_2 => rhs; simp [go_sem, *]
            have c8__0_3 := c8__0 3; conv at c8__0_3 => rhs; simp [go_sem, *]
            have f8__0_3 := f8__0 3; conv at f8__0_3 => rhs; simp [go_sem, *]
            have c8__0_4 := c8__0 4; conv at c8__0_4 => rhs; simp [go_sem, *]
            have f8__0_4 := f8__0 4; conv at f8__0_4 => rhs; simp [go_sem, *]
            have c8__0_5 := c8__0 5; conv at c8__0_5 => rhs; simp [go_sem, *]
            have f8__0_5 := f8__0 5; conv at f8__0_5 => rhs; simp [go_sem, *]
            obtain ⟨c8__1, f8__1⟩ := bk hb_w8 (w.heap.size + 1) (by first | omega | (simp <;> omega))
            have c8__1_0 := c8__1 0; conv at c8__1_0 => rhs; simp [go_sem, *]
            have f8__1_0 := f8__1 0; conv at f8__1_0 => rhs; simp [go_sem, *]
            have c8__1_1 := c8__1 1; conv at c8__1_1 => rhs; simp [go_sem, *]
            have f8__1_1 := f8__1 1; conv at f8__1_1 => rhs; simp [go_sem, *]
            have c8__1_2 := c8__1 2; conv at c8__1_2 => rhs; simp [go_sem, *]
            have f8__1_2 := f8__1 2; conv at f8__1_2 => rhs; simp [go_sem, *]
            have c8__1_3 := c8__1 3; conv at c8__1_3 => rhs; simp [go_sem, *]
            have f8__1_3 := f8__1 3; conv at f8__1_3 => rhs; simp [go_sem, *]
            have c8__1_4 := c8__1 4; conv at c8__1_4 => rhs; simp [go_sem, *]
            have f8__1_4 := f8__1 4; conv at f8__1_4 => rhs; simp [go_sem, *]
            have c8__1_5 := c8__1 5; conv at c8__1_5 => rhs; simp [go_sem, *]
            have f8__1_5 := f8__1 5; conv at f8__1_5 => rhs; simp [go_sem, *]
            have HH_w8 := Lib.hid hb_w8
            have hB_w8 : Below w.heap.size w w8 := Below.trans (by (repeat (first | with_reducible exact Below.refl _ _ | with_reducible assumption | with_reducible refine Below.drew ?_ | (with_reducible refine Below.setCell ?_ ?_ _; rotate_left; (first | omega | (simp <;> omega))) | (with_reducible refine Below.alloc ?_ ?_ _; rotate_left; (first | omega | (simp <;> omega))) | exact Below.refl _ _ | assumption))) (hb_w8.mono (by first | omega | (simp <;> omega)))
            clear hb_w8 c8__0 f8__0 c8__1 f8__1
            try clear c7__0_0 f7__0_0 c7__0_1 f7__0_1 c7__0_2 f7__0_2 c7__0_3 f7__0_3 c7__0_4 f7__0_4 c7__0_5 f7__0_5 c7__1_0 f7__1_0 c7__1_1 f7__1_1 c7__1_2 f7__1_2 c7__1_3 f7__1_3 c7__1_4 f7__1_4 c7__1_5 f7__1_5 far_w7_w_0 far_w7_w_1 hB_w7
            have far_w8_w_0 := far (show w.heap.size < w8.heap.size by omega)
            have far_w8_w_1 := far (show w.heap.size + 1 < w8.heap.size by omega)
            go_wp2
            refine bodyPost_ret (v := .tuple #[uv false [] 0 [] false [], .int .i64 20]) (by simp [results, Tryz.results25, go_sem, *]) rfl ⟨by rw [HN.out (by simp)]; rfl, ?_⟩
            (repeat (first | with_reducible exact Below.refl _ _ | with_reducible assumption | with_reducible refine Below.drew ?_ | (with_reducible refine Below.setCell ?_ ?_ _; rotate_left; (first | omega | (simp <;> omega))) | (with_reducible refine Below.alloc ?_ ?_ _; rotate_left; (first | omega | (simp <;> omega))) | exact Below.refl _ _ | assumption))
          · skip
            have HC := Lib.hid (show cut1 r 63 = (r, [], false) by unfold cut1; rw [hix]; simp [hq])
            simp only [HC.out] at CR HY
            go_wp2_with fail
            refine Calls.mono (CR.out _ (by (repeat (first | with_reducible exact Below.refl _ _ | with_reducible assumption | with_reducible refine Below.drew ?_ | (with_reducible refine Below.setCell ?_ ?_ _; rotate_left; (first | omega | (simp <;> omega))) | (with_reducible refine Below.alloc ?_ ?_ _; rotate_left; (first | omega | (simp <;> omega))) | exact Below.refl _ _ | assumption)))) ?_
            rintro e w8 ⟨rfl, hb_w8⟩
            have hz_w8 := hb_w8.size
            try simp at hz_w8
            obtain ⟨c8__0, f8__0⟩ := bk hb_w8 (w.heap.size) (by first | omega | (simp <;> omega))
            have c8__0_0 := c8__0 0; conv at c8__0_0 => rhs; simp [go_sem, *]
            have f8__0_0 := f8__0 0; conv at f8__0_0 => rhs; simp [go_sem, *]
            have c8__0_1 := c8__0 1; conv at c8__0_1 => rhs; simp [go_sem, *]
            have f8__0_1 := f8__0 1; conv at f8__0_1 => rhs; simp [go_sem, *]
            have c8__0_2 := c8__0 2; conv at c8__0_2 => rhs; simp [go_sem, *]
            have f8__0_2 := f8__0 2; conv at f8__0_2 => rhs; simp [go_sem, *]
            have c8__0_3 := c8__0 3; conv at c8__0_3 => rhs; simp [go_sem, *]
            have f8__0_3 := f8__0 3; conv at f8__0_3 => rhs; simp [go_sem, *]
            have c8__0_4 := c8__0 4; conv at c8__0_4 => rhs; simp [go_sem, *]
            have f8__0_4 := f8__0 4; conv at f8__0_4 => rhs; simp [go_sem, *]
            have c8__0_5 := c8__0 5; conv at c8__0_5 => rhs; simp [go_sem, *]
            have f8__0_5 := f8__0 5; conv at f8__0_5 => rhs; simp [go_sem, *]
            obtain ⟨c8__1, f8__1⟩ := bk hb_w8 (w.heap.size + 1) (by first | omega | (simp <;> omega))
            have c8__1_0 := c8__1 0; conv at c8__1_0 => rhs; simp [go_sem, *]
            have f8__1_0 := f8__1 0; conv at f8__1_0 => rhs; simp [go_sem, *]
            have c8__1_1 := c8__1 1; conv at c8__1_1 => rhs; simp [go_sem, *]
            have f8__1_1 := f8__1 1; conv at f8__1_1 => rhs; simp [go_sem, *]
            have c8__1_2 := c8__1 2; conv at c8__1_2 => rhs; simp [go_sem, *]
            have f8__1_2 := f8__1 2; conv at f8__1_2 => rhs; simp [go_sem, *]
            have c8__1_3 := c8__1 3; conv at c8__1_3 => rhs; simp [go_sem, *]
            have f8__1_3 := f8__1 3; conv at f8__1_3 => rhs; simp [go_sem, *]
            have c8__1_4 := c8__1 4; conv at c8__1_4 => rhs; simp [go_sem, *]
            have f8__1_4 := f8__1 4; conv at f8__1_4 => rhs; simp [go_sem, *]
            have c8__1_5 := c8__1 5; conv at c8__1_5 => rhs; simp [go_sem, *]
            have f8__1_5 := f8__1 5; conv at f8__1_5 => rhs; simp [go_sem, *]
            have HH_w8 := Lib.hid hb_w8
            have hB_w8 : Below w.heap.size w w8 := Below.trans (by (repeat (first | with_reducible exact Below.refl _ _ | with_reducible assumption | with_reducible refine Below.drew ?_ | (with_reducible refine Below.setCell ?_ ?_ _; rotate_left; (first | omega | (simp <;> omega))) | (with_reducible refine Below.alloc ?_ ?_ _; rotate_left; (first | omega | (simp <;> omega))) | exact Below.refl _ _ | assumption))) (hb_w8.mono (by first | omega | (simp <;> omega)))
            clear hb_w8 c8__0 f8__0 c8__1 f8__1
            have far_w8_w_0 := far (show w.heap.size < w8.heap.size by omega)
            have far_w8_w_1 := far (show w.heap.size + 1 < w8.heap.size by omega)
            go_wp2
            refine bodyPost_ret (v := .tuple #[uv false [] 0 [] false [], .int .i64 20]) (by simp [results, Tryz.results25, go_sem, *]) rfl ⟨by rw [HN.out (by simp)]; rfl, ?_⟩
            (repeat (first | with_reducible exact Below.refl _ _ | with_reducible assumption | with_reducible refine Below.drew ?_ | (with_reducible refine Below.setCell ?_ ?_ _; rotate_left; (first | omega | (simp <;> omega))) | (with_reducible refine Below.alloc ?_ ?_ _; rotate_left; (first | omega | (simp <;> omega))) | exact Below.refl _ _ | assumption))
        | false =>
          have hrd : 47 :: d = r := by rw [HT]; simp
          clear HT
          go_wp2_with fail
          refine Calls.mono (same_below (CF.out _)) ?_
          rintro e w7 ⟨rfl, hb_w7⟩
          have hz_w7 := hb_w7.size
          try simp at hz_w7
          obtain ⟨c7__0, f7__0⟩ := bk hb_w7 (w.heap.size) (by first | omega | (simp <;> omega))
          have c7__0_0 := c7__0 0; conv at c7__0_0 => rhs; simp [go_sem, *]
          have f7__0_0 := f7__0 0; conv at f7__0_0 => rhs; simp [go_sem, *]
          have c7__0_1 := c7__0 1; conv at c7__0_1 => rhs; simp [go_sem, *]
          have f7__0_1 := f7__0 1; conv at f7__0_1 => rhs; simp [go_sem, *]
          have c7__0_2 := c7__0 2; conv at c7__0_2 => rhs; simp [go_sem, *]
          have f7__0_2 := f7__0 2; conv at f7__0_2 => rhs; simp [go_sem, *]
          have c7__0_3 := c7__0 3; conv at c7__0_3 => rhs; simp [go_sem, *]
          have f7__0_3 := f7__0 3; conv at f7__0_3 => rhs; simp [go_sem, *]
          have c7__0_4 := c7__0 4; conv at c7__0_4 => rhs; simp [go_sem, *]
          have f7__0_4 := f7__0 4; conv at f7__0_4 => rhs; simp [go_sem, *]
          have c7__0_5 := c7__0 5; conv at c7__0_5 => rhs; simp [go_sem, *]
          have f7__0_5 := f7__0 5; conv at f7__0_5 => rhs; simp [go_sem, *]
          obtain ⟨c7__1, f7__1⟩ := bk hb_w7 (w.heap.size + 1) (by first | omega | (simp <;> omega))
          have c7__1_0 := c7__1 0; conv at c7__1_0 => rhs; simp [go_sem, *]
          have f7__1_0 := f7__1 0; conv at f7__1_0 => rhs; simp [go_sem, *]
          have c7__1_1 := c7__1 1; conv at c7__1_1 => rhs; simp [go_sem, *]
          have f7__1_1 := f7__1 1; conv at f7__1_1 => rhs; simp [go_sem, *]
          have c7__1_2 := c7__1 2; conv at c7__1_2 => rhs; simp [go_sem, *]
          have f7__1_2 := f7__1 2; conv at f7__1_2 => rhs; simp [go_sem, *]
          have c7__1_3 := c7__1 3; conv at c7__1_3 => rhs; simp [go_sem, *]
          have f7__1_3 := f7__1 3; conv at f7__1_3 => rhs; simp [go_sem, *]
          have c7__1_4 := c7__1 4; conv at c7__1_4 => rhs; simp [go_sem, *]
          have f7__1_4 := f7__1 4; conv at f7__1_4 => rhs; simp [go_sem, *]
          have c7__1_5 := c7__1 5; conv at c7__1_5 => rhs; simp [go_sem, *]
          have f7__1_5 := f7__1 5; conv at f7__1_5 => rhs; simp [go_sem, *]
          have HH_w7 := Lib.hid hb_w7
          have hB_w7 : Below w.heap.size w w7 := Below.trans (by (repeat (first | with_reducible exact Below.refl _ _ | with_reducible assumption | with_reducible refine Below.drew ?_ | (with_reducible refine Below.setCell ?_ ?_ _; rotate_left; (first | omega | (simp <;> omega))) | (with_reducible refine Below.alloc ?_ ?_ _; rotate_left; (first | omega | (simp <;> omega))) | exact Below.refl _ _ | assumption))) (hb_w7.mono (by first | omega | (simp <;> omega)))
          clear hb_w7 c7__0 f7__0 c7__1 f7__1
          try clear c8__0_0 f8__0_0 c8__0_1 f8__0_1 c8__0_2 f8__0_2 c8__0_3 f8__0_3 c8__0_4 f8__0_4 c8__0_5 f8__0_5 c8__1_0 f8__1_0 c8__1_1 f8__1_1 c8__1_2 f8__1_2 c8__1_3 f8__1_3 c8__1_4 f8__1_4 c8__1_5 f8__1_5 far_w8_w_0 far_w8_w_1 hB_w8
          have far_w7_w_0 := far (show w.heap.size < w7.heap.size by omega)
          have far_w7_w_1 := far (show w.heap.size + 1 < w7.heap.size by omega)
          by_cases hq : 0 ≤ ix
          · obtain ⟨m, rfl⟩ : ∃ m : Nat, ix = m := ⟨ix.toNat, by omega⟩
            have HC := Lib.hid (show cut1 r 63 = (r.take m, r.drop (m + 1), true) by unfold cut1; rw [hix]; simp)
            simp only [HC.out] at CR HY
            go_wp2_with fail
            refine Calls.mono (CR.out _ (by (repeat (first | with_reducible exact Below.refl _ _ | with_reducible assumption | with_reducible refine Below.drew ?_ | (with_reducible refine Below.setCell ?_ ?_ _; rotate_left; (first | omega | (simp <;> omega))) | (with_reducible refine Below.alloc ?_ ?_ _; rotate_left; (first | omega | (simp <;> omega))) | exact Below.refl _ _ | assumption)))) ?_
            rintro e w8 ⟨rfl, hb_w8⟩
            have hz_w8 := hb_w8.size
            try simp at hz_w8
            obtain ⟨c8__0, f8__0⟩ := bk hb_w8 (w.heap.size) (by first | omega | (simp <;> omega))
            have c8__0_0 := c8__0 0; conv at c8__0_0 => rhs; simp [go_sem, *]
            have f8__0_0 := f8__0 0; conv at f8__0_0 => rhs; simp [go_sem, *]
            have c8__0_1 := c8__0 1; conv at c8__0_1 => rhs; simp [go_sem, *]
            have f8__0_1 := f8__0 1; conv at f8__0_1 => rhs; simp [go_sem, *]
            have c8__0_2 := c8__0 2; conv at c8__0_2 => rhs; simp [go_sem, *]
            have f8__0_2 := f8__0 2; conv at f8__0_2 => rhs; simp [go_sem, *]
            have c8__0_3 := c8__0 3; conv at c8__0_3 => rhs; simp [go_sem, *]
            have f8__0_3 := f8__0 3; conv at f8__0_3 => rhs; simp [go_sem, *]
            have c8__0_4 := c8__0 4; conv at c8__0_4 => rhs; simp [go_sem, *]
            have f8__0_4 := f8__0 4; conv at f8__0_4 => rhs; simp [go_sem, *]
            have c8__0_5 := c8__0 5; conv at c8__0_5 => rhs; simp [go_sem, *]
            have f8__0_5 := f8__0 5; conv at f8__0_5 => rhs; simp [go_sem, *]
            obtain ⟨c8__1, f8__1⟩ := bk hb_w8 (w.heap.size + 1) (by first | omega | (simp <;> omega))
            have c8__1_0 := c8__1 0; conv at c8__1_0 => rhs; simp [go_sem, *]
            have f8__1_0 := f8__1 0; conv at f8__1_0 => rhs; simp [go_sem, *]
            have c8__1_1 := c8__1 1; conv at c8__1_1 => rhs; simp [go_sem, *]
            have f8__1_1 := f8__1 1; conv at f8__1_1 => rhs; simp [go_sem, *]
            have c8__1_2 := c8__1 2; conv at c8__1_2 => rhs; simp [go_sem, *]
            have f8__1_2 := f8__1 2; conv at f8__1_2 => rhs; simp [go_sem, *]
            have c8__1_3 := c8__1 3; conv at c8__1_3 => rhs; simp [go_sem, *]
            have f8__1_3 := f8__1 3; conv at f8__1_3 => rhs; simp [go_sem, *]
            have c8__1_4 := c8__1 4; conv at c8__1_4 => rhs; simp [go_sem, *]
            have f8__1_4 := f8__1 4; conv at f8__1_4 => rhs; simp [go_sem, *]
            have c8__1_5 := c8__1 5; conv at c8__1_5 => rhs; simp [go_sem, *]
            have f8__1_5 := f8__1 5; conv at f8__1_5 => rhs; simp [go_sem, *]
            have HH_w8 := Lib.hid hb_w8
            have hB_w8 : Below w.heap.size w w8 := Below.trans (by (repeat (first | with_reducible exact Below.refl _ _ | with_reducible assumption | with_reducible refine Below.drew ?_ | (with_reducible refine Below.setCell ?_ ?_ _; rotate_left; (first | omega | (simp <;> omega))) | (with_reducible refine Below.alloc ?_ ?_ _; rotate_left; (first | omega | (simp <;> omega))) | exact Below.refl _ _ | assumption))) (hb_w8.mono (by first | omega | (simp <;> omega)))
            clear hb_w8 c8__0 f8__0 c8__1 f8__1
            try clear c7__0_0 f7__0_0 c7__0_1 f7__0_1 c7__0_2 f7__0_2 c7__0_3 f7__0_3 c7__0_4 f7__0_4 c7__0_5 f7__0_5 c7__1_0 f7__1_0 c7__1_1 f7__1_1 c7__1_2 f7__1_2 c7__1_3 f7__1_3 c7__1_4 f7__1_4 c7__1_5 f7__1_5 far_w7_w_0 far_w7_w_1 hB_w7
            have far_w8_w_0 := far (show w.heap.size < w8.heap.size by omega)
            have far_w8_w_1 := far (show w.heap.size + 1 < w8.heap.size by omega)
            go_wp2
            refine bodyPost_ret (v := .tuple #[uv false [] 0 [] false [], .int .i64 20]) (by simp [results, Tryz.results25, go_sem, *]) rfl ⟨by rw [HN.out (by simp)]; rfl, ?_⟩
            (repeat (first | with_reducible exact Below.refl _ _ | with_reducible assumption | with_reducible refine Below.drew ?_ | (with_reducible refine Below.setCell ?_ ?_ _; rotate_left; (first | omega | (simp <;> omega))) | (with_reducible refine Below.alloc ?_ ?_ _; rotate_left; (first | omega | (simp <;> omega))) | exact Below.refl _ _ | assumption))
          · skip
            have HC := Lib.hid (show cut1 r 63 = (r, [], false) by unfold cut1; rw [hix]; simp [hq])
            simp only [HC.out] at CR HY
            go_wp2_with fail
            refine Calls.mono (CR.out _ (by (repeat (first | with_reducible exact Below.refl _ _ | with_reducible assumption | with_reducible refine Below.drew ?_ | (with_reducible refine Below.setCell ?_ ?_ _; rotate_left; (first | omega | (simp <;> omega))) | (with_reducible refine Below.alloc ?_ ?_ _; rotate_left; (first | omega | (simp <;> omega))) | exact Below.refl _ _ | assumption)))) ?_
            rintro e w8 ⟨rfl, hb_w8⟩
            have hz_w8 := hb_w8.size
            try simp at hz_w8
            obtain ⟨c8__0, f8__0⟩ := bk hb_w8 (w.heap.size) (by first | omega | (simp <;> omega))
            have c8__0_0 := c8__0 0; conv at c8__0_0 => rhs; simp [go_sem, *]
            have f8__0_0 := f8__0 0; conv at f8__0_0 => rhs; simp [go_sem, *]
            have c8__0_1 := c8__0 1; conv at c8__0_1 => rhs; simp [go_sem, *]
            have f8__0_1 := f8__0 1; conv at f8__0_1 => rhs; simp [go_sem, *]
            have c8__0_2 := c8__0 2; conv at c8__0_2 => rhs; simp [go_sem, *]
            have f8__0_2 := f8__0 2; conv at f8__0_2 => rhs; simp [go_sem, *]
            have c8__0_3 := c8__0 3; conv at c8__0_3 => rhs; simp [go_sem, *]
            have f8__0_3 := f8__0 3; conv at f8__0_3 => rhs; simp [go_sem, *]
            have c8__0_4 := c8__0 4; conv at c8__0_4 => rhs; simp [go_sem, *]
            have f8__0_4 := f8__0 4; conv at f8__0_4 => rhs; simp [go_sem, *]
            have c8__0_5 := c8__0 5; conv at c8__0_5 => rhs; simp [go_sem, *]
            have f8__0_5 := f8__0 5; conv at f8__0_5 => rhs; simp [go_sem, *]
            obtain ⟨c8__1, f8__1⟩ := bk hb_w8 (w.heap.size + 1) (by first | omega | (simp <;> omega))
            have c8__1_0 := c8__1 0; conv at c8__1_0 => rhs; simp [go_sem, *]
            have f8__1_0 := f8__1 0; conv at f8__1_0 => rhs; simp [go_sem, *]
            have c8__1_1 := c8__1 1; conv at c8__1_1 => rhs; simp [go_sem, *]
            have f8__1_1 := f8__1 1; conv at f8__1_1 => rhs; simp [go_sem, *]
            have c8__1_2 := c8__1 2; conv at c8__1_2 => rhs; simp [go_sem, *]
            have f8__1_2 := f8__1 2; conv at f8__1_2 => rhs; simp [go_sem, *]
            have c8__1_3 := c8__1 3; conv at c8__1_3 => rhs; simp [go_sem, *]
            have f8__1_3 := f8__1 3; conv at f8__1_3 => rhs; simp [go_sem, *]
            have c8__1_4 := c8__1 4; conv at c8__1_4 => rhs; simp [go_sem, *]
            have f8__1_4 := f8__1 4; conv at f8__1_4 => rhs; simp [go_sem, *]
            have c8__1_5 := c8__1 5; conv at c8__1_5 => rhs; simp [go_sem, *]
            have f8__1_5 := f8__1 5; conv at f8__1_5 => rhs; simp [go_sem, *]
            have HH_w8 := Lib.hid hb_w8
            have hB_w8 : Below w.heap.size w w8 := Below.trans (by (repeat (first | with_reducible exact Below.refl _ _ | with_reducible assumption | with_reducible refine Below.drew ?_ | (with_reducible refine Below.setCell ?_ ?_ _; rotate_left; (first | omega | (simp <;> omega))) | (with_reducible refine Below.alloc ?_ ?_ _; rotate_left; (first | omega | (simp <;> omega))) | exact Below.refl _ _ | assumption))) (hb_w8.mono (by first | omega | (simp <;> omega)))
            clear hb_w8 c8__0 f8__0 c8__1 f8__1
            have far_w8_w_0 := far (show w.heap.size < w8.heap.size by omega)
            have far_w8_w_1 := far (show w.heap.size + 1 < w8.heap.size by omega)
            go_wp2
            refine bodyPost_ret (v := .tuple #[uv false [] 0 [] false [], .int .i64 20]) (by simp [results, Tryz.results25, go_sem, *]) rfl ⟨by rw [HN.out (by simp)]; rfl, ?_⟩
            (repeat (first | with_reducible exact Below.refl _ _ | with_reducible assumption | with_reducible refine Below.drew ?_ | (with_reducible refine Below.setCell ?_ ?_ _; rotate_left; (first | omega | (simp <;> omega))) | (with_reducible refine Below.alloc ?_ ?_ _; rotate_left; (first | omega | (simp <;> omega))) | exact Below.refl _ _ | assumption))

set_option maxHeartbeats 800000 in
theorem refParse (s : List UInt8) (hs : s.length ≤ 4611686018427387903) (w : World) (hL : Laid w) :
    Calls Tryz.prog 25 #[.string (S s)] w fun e w' => e = .returned (.tuple #[(parseL s).1.v, .int .i64 (parseL s).2]) ∧ Below w.heap.size w w' := by
  by_cases h : 500 < s.length
  · have hle : 500 < (s.length : Int) := by omega
    rw [show parseL s = (UU.nil, 2) by unfold parseL; rw [if_pos h]]
    go_enter Tryz.func25, Tryz.ntmps25
    go_wp2
    refine bodyPost_ret (v := .tuple #[uv false [] 0 [] false [], .int .i64 2]) (by simp [results, Tryz.results25, go_sem, *]) rfl ⟨rfl, ?_⟩
    (repeat (first | with_reducible exact Below.refl _ _ | with_reducible assumption | with_reducible refine Below.drew ?_ | (with_reducible refine Below.setCell ?_ ?_ _; rotate_left; (first | omega | (simp <;> omega))) | (with_reducible refine Below.alloc ?_ ?_ _; rotate_left; (first | omega | (simp <;> omega))) | exact Below.refl _ _ | assumption))
  · cases hB : httpB s with
    | true =>
      cases hpb : placeB ((s.drop 7).take (endOf (s.drop 7))) with
      | true => exact refParse_abs s (by omega) hB hpb w hL
      | false => exact refParse_bad s (by omega) hB hpb w hL
    | false => exact refParse_rel s (by omega) hB w hL
end Go.Proofs.YtgjemgilanhdiaaGreatDoor
