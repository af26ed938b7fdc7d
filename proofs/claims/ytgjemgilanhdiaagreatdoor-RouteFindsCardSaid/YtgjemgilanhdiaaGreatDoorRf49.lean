/- The law RouteFinds: its walk. -/
import Derived.Test.YtgjemgilanhdiaaGreatDoorRf30
import Derived.Test.YtgjemgilanhdiaaGreatDoorRf38
import Derived.Test.YtgjemgilanhdiaaGreatDoorRf46
import Derived.Test.YtgjemgilanhdiaaGreatDoorRf47
import Derived.Test.YtgjemgilanhdiaaGreatDoorRf48
namespace Go.Proofs.YtgjemgilanhdiaaGreatDoor
open Go.RowKit Go.Sort Go.Shelf
set_option linter.unusedVariables false
set_option linter.unusedSimpArgs false

theorem reads_inZ {w : World} {v : Value} {L : List (List Value)} (hv : RowsIn w 2 v L ∧ ∀ c ∈ L, AllSz [.str, .str] c) : ∃ xs, ReadsF w v xs ∧ ∀ f ∈ xs, f.1.length ≤ 140737488351232 ∧ f.2.length ≤ 140737488351232 := by
  obtain ⟨hrow, hsh⟩ := hv
  obtain ⟨xs, rfl, hxs⟩ := decode fcells (R := fun f => f.1.length ≤ 140737488351232 ∧ f.2.length ≤ 140737488351232) (fun c h => by
    obtain ⟨_, _, rfl, ⟨s, rfl, hs⟩, _, _, rfl, ⟨t, rfl, ht⟩, rfl⟩ := h
    obtain ⟨l, rfl⟩ := S_of s
    obtain ⟨m, rfl⟩ := S_of t
    exact ⟨(l, m), rfl, by rw [S_size] at hs; exact hs, by rw [S_size] at ht; exact ht⟩) L hsh
  obtain ⟨a, len, cap, rfl, hl, hm, hlen, ⟨_, hno⟩, hcell⟩ := hrow
  rw [List.length_map] at hlen
  subst hlen
  refine ⟨xs, ⟨a, cap, rfl, hl, hm, hno, fun h0 => ?_⟩, hxs⟩
  obtain ⟨b, off, e1, e2, e3⟩ := hcell h0 (by omega)
  refine ⟨b, off, e1, e2, fun j hj => ?_⟩
  have h0 := e3 j 0 hj (by omega)
  have h1 := e3 j 1 hj (by omega)
  rw [Nat.add_zero] at h0
  rw [h0, Nat.add_assoc, h1]
  simp [List.getD, hj, fcells]
theorem ReadsF.take {W : World} {ao : Option Addr} {cap : Nat} {L : List Fld} (h : ReadsF W (.slice ao L.length cap) L) {q : Nat} (hq : q ≤ L.length) : ReadsF W (.slice ao q cap) (L.take q) := by
  obtain ⟨ao', cap', e1, e2, e3, e4, e5⟩ := h
  injection e1 with e6 e7 e8
  subst e6
  subst e8
  have hl : (L.take q).length = q := by simp; omega
  refine ⟨ao, cap, by rw [hl], by omega, e3, e4, fun h0 => ?_⟩
  obtain ⟨b, off, f1, f2, f3⟩ := e5 (by omega)
  exact ⟨b, off, f1, f2, fun j hj => by rw [List.getElem_take]; exact f3 j (by omega)⟩
theorem min_take (K : Nat) (n : Nat) : ∃ m : Nat, min (n : Int) K = m ∧ m ≤ n ∧ m ≤ K := ⟨min n K, by omega, by omega, by omega⟩
theorem findR_one {L : List Wrd} (host path : List UInt8) (h : rightRt L = false) : findR L host path = ([], 1) := by unfold findR; rw [h]; rfl

set_option maxHeartbeats 6400000 in
set_option maxRecDepth 100000 in
theorem routeFinds_any (v : Value) (L : List (List Value)) (b c : ByteArray) (a0 a1 : ByteArray) (a2 : Int) (a3 : ByteArray) (a4 : Int) (row : Value) (bo : ByteArray) (M : List (List Value)) (w : World) (hv : RowsIn w 3 v L ∧ ∀ c ∈ L, AllSh [.str, .str, .str] c) (k1 : b.size ≤ maxLen) (k2 : c.size ≤ maxLen)
    (h0 : a0.size ≤ 140737488351232) (h1 : a1.size ≤ 140737488351232) (h2 : (Lit.int .i64 a2).wf = true) (h3 : a3.size ≤ 140737488351232) (h4 : (Lit.int .i64 a4).wf = true) (hrow : RowsIn w 2 row M ∧ ∀ c ∈ M, AllSz [.str, .str] c) (hbo : bo.size ≤ 140737488351232) (hL : Laid w) :
    Calls Tryz.prog 3 #[v, .string b, .string c, .agg #[.string a0, .string a1, .int .i64 a2, .string a3, .int .i64 a4, row, .string bo]] w fun e w' => e = .returned (.bool true) ∧ Below w.heap.size w w' := by
  obtain ⟨xs, hr0, hxl⟩ := reads_inW hv
  have C0 := Lib.hid (fun W (hb : Below w.heap.size w W) => rtFewO v xs W (hr0.below hb) hxl)
  clear hr0 hxl hv
  obtain ⟨T, hT⟩ : ∃ T, fewR xs = T := ⟨_, rfl⟩
  have hTs : ∀ f ∈ T, f.1.length ≤ 900 ∧ f.2.1.length ≤ 900 ∧ f.2.2.length ≤ 900 := fun f hf => by
    have := fewR_small xs f (by rw [hT]; exact hf)
    omega
  have hTl : T.length ≤ 20 := by rw [← hT]; exact fewR_len xs
  rw [hT] at C0
  clear hT
  obtain ⟨ys, hf0, hyl⟩ := reads_inZ hrow
  obtain ⟨fo, fcap, rfl, hfc1, hfc2, _⟩ := id hf0
  clear hrow
  obtain ⟨host, rfl⟩ := S_of b
  obtain ⟨path, rfl⟩ := S_of c
  obtain ⟨m0, rfl⟩ := S_of a0
  obtain ⟨t0, rfl⟩ := S_of a1
  obtain ⟨r0, rfl⟩ := S_of a3
  obtain ⟨bo, rfl⟩ := S_of bo
  simp only [S_size] at k1 k2 h0 h1 h3 hbo
  have hm : maxLen = 9223372036854775807 := rfl
  rw [hm] at k1 k2 hfc2
  obtain ⟨q, hq, hql, hq6⟩ := min_take 600 t0.length
  obtain ⟨p, hp, hpl, hp4⟩ := min_take 45 ys.length
  simp only [Int.cast_ofNat_Int] at hq hp
  have HF := Lib.hid (hf0.take hpl)
  obtain ⟨t, ht⟩ : ∃ t, t0.take q = t := ⟨_, rfl⟩
  have htl : t.length ≤ 600 := by rw [← ht, List.length_take]; omega
  obtain ⟨F, hF⟩ : ∃ F, ys.take p = F := ⟨_, rfl⟩
  have hFl : F.length = p := by rw [← hF, List.length_take]; omega
  have hFs : ∀ f ∈ F, f.1.length ≤ 140737488351232 ∧ f.2.length ≤ 140737488351232 := fun f hf => hyl f (List.mem_of_mem_take (by rw [hF]; exact hf))
  rw [hF] at HF
  have S1 := Lib.hid (fun W => (show Calls Tryz.prog 20 #[.agg #[.string (S m0), .string (S t), .int .i64 a2, .string (S r0), .int .i64 a4]] W fun e w' => e = .returned (.bool (startOk ⟨m0, t, a2, r0, a4⟩)) ∧ Below W.heap.size W w' from by
    by_cases hc : a2 = 0
    · exact startRight0 ⟨m0, t, a2, r0, a4⟩ (by simp only; omega) (by simp only; omega) hc W
    · exact startRightN ⟨m0, t, a2, r0, a4⟩ (by simp only; omega) (by simp only; omega) (by simp only; omega) hc W))
  have S2 := Lib.hid (fun W => (show Calls Tryz.prog 23 #[.agg #[.string (S m0), .string (S t), .int .i64 a2, .string (S r0), .int .i64 a4]] W fun e w' => e = .returned (.bool (startOk ⟨m0, t, a2, r0, a4⟩)) ∧ Below W.heap.size W w' from by
    by_cases hc : a2 = 0
    · exact refStart0 ⟨m0, t, a2, r0, a4⟩ (by simp only; omega) (by simp only; omega) hc W
    · exact refStartN ⟨m0, t, a2, r0, a4⟩ (by simp only; omega) hc W))
  have RR := Lib.hid (fun (v : Value) (W : World) (hb : Below w.heap.size w W) (hr : ReadsW W v T) => refRoutesRight v T W hr hTs (by omega) (hL.on hb))
  have RO := Lib.hid (fun (v : Value) (W : World) (hb : Below w.heap.size w W) (hr : ReadsW W v T) => routesRight v T W hr hTs (by omega) (hL.on hb))
  have AL := Lib.hid (fun (W : World) (hb : Below w.heap.size w W) => alive W (hL.on hb))
  have FF := Lib.hid (fun (v : Value) (W : World) (hb : Below w.heap.size w W) (hr : ReadsW W v T) => routeFind v T host path W hr hTs (by omega) (hL.on hb))
  have DF := Lib.hid (fun (v : Value) (W : World) (hr : ReadsW W v T) => refFindRt v T host path W hr hTs)
  have AK := Lib.hid (fun (v : Value) (W : World) (hb : Below w.heap.size w W) (hr : ReadsW W v T) (hfr : ReadsF W (.slice fo p fcap) F) => routeAsk v T ⟨m0, t, a2, r0, a4⟩ (.slice fo p fcap) F bo W hr hTs (by omega) hfr hFs (by simp only; omega) (by simp only; omega) (by simp only; omega) (hL.on hb) S1.out)
  have DK := Lib.hid (fun (v : Value) (W : World) (hb : Below w.heap.size w W) (hr : ReadsW W v T) (hfr : ReadsF W (.slice fo p fcap) F) => refAskRt v T ⟨m0, t, a2, r0, a4⟩ (.slice fo p fcap) F bo W hr hTs (by omega) hfr hFs (by omega) (by simp only; omega) (hL.on hb) S2.out)
  have HFR := Lib.hid (fun (h : rightRt T = true) => find_ref h host path)
  have HF1 := Lib.hid (fun (h : rightRt T = false) => findR_one (L := T) host path h)
  obtain ⟨X, hX⟩ : ∃ X, askR T ⟨m0, t, a2, r0, a4⟩ (getV F [72, 111, 115, 116]).1 = X := ⟨_, rfl⟩
  rw [hX] at AK DK
  obtain ⟨⟨o, g⟩, hfo⟩ : ∃ x, findR T host path = x := ⟨_, rfl⟩
  rw [hfo] at FF HFR HF1
  obtain ⟨R, hR⟩ : ∃ R, rightRt T = R := ⟨_, rfl⟩
  rw [hR] at RR RO HFR HF1
  obtain ⟨⟨ua, uh, un, up, uq, uy⟩, xo, xe⟩ := X
  unfold askV UU.v uv at AK DK
  simp only at AK DK FF
  clear hm hTs hL hR hX hfo S1 S2 hyl hf0 hFs hF
  cases R with
  | false =>
    obtain ⟨rfl, rfl⟩ := Prod.mk.inj (HF1.out (by first | rfl | trivial))
    clear HFR HF1 DF
    go_enter Tryz.func3, Tryz.ntmps3
    go_wp2_with fail
    refine Calls.mono (C0.out _ (by (repeat (first | with_reducible exact Below.refl _ _ | with_reducible assumption | with_reducible refine Below.drew ?_ | (with_reducible refine Below.setCell ?_ ?_ _; rotate_left; (first | omega | (simp <;> omega))) | (with_reducible refine Below.alloc ?_ ?_ _; rotate_left; (first | omega | (simp <;> omega))) | exact Below.refl _ _ | assumption)))) ?_
    rintro e w1 ⟨v1, rfl, hr1, hb_w1, hown1⟩
    have hz_w1 := hb_w1.size
    try simp at hz_w1
    obtain ⟨c1__0, f1__0⟩ := bk hb_w1 (w.heap.size) (by first | omega | (simp <;> omega))
    have c1__0_0 := c1__0 0; conv at c1__0_0 => rhs; simp [go_sem, *]
    have f1__0_0 := f1__0 0; conv at f1__0_0 => rhs; simp [go_sem, *]
    have c1__0_1 := c1__0 1; conv at c1__0_1 => rhs; simp [go_sem, *]
    have f1__0_1 := f1__0 1; conv at f1__0_1 => rhs; simp [go_sem, *]
    have c1__0_2 := c1__0 2; conv at c1__0_2 => rhs; simp [go_sem, *]
    have f1__0_2 := f1__0 2; conv at f1__0_2 => rhs; simp [go_sem, *]
    have c1__0_3 := c1__0 3; conv at c1__0_3 => rhs; simp [go_sem, *]
    have f1__0_3 := f1__0 3; conv at f1__0_3 => rhs; simp [go_sem, *]
    have c1__0_4 := c1__0 4; conv at c1__0_4 => rhs; simp [go_sem, *]
    have f1__0_4 := f1__0 4; conv at f1__0_4 => rhs; simp [go_sem, *]
    have c1__0_5 := c1__0 5; conv at c1__0_5 => rhs; simp [go_sem, *]
    have f1__0_5 := f1__0 5; conv at f1__0_5 => rhs; simp [go_sem, *]
    have c1__0_6 := c1__0 6; conv at c1__0_6 => rhs; simp [go_sem, *]
    have f1__0_6 := f1__0 6; conv at f1__0_6 => rhs; simp [go_sem, *]
    have HH_w1 := Lib.hid hb_w1
    have hB_w1 : Below w.heap.size w w1 := Below.trans (by (repeat (first | with_reducible exact Below.refl _ _ | with_reducible assumption | with_reducible refine Below.drew ?_ | (with_reducible refine Below.setCell ?_ ?_ _; rotate_left; (first | omega | (simp <;> omega))) | (with_reducible refine Below.alloc ?_ ?_ _; rotate_left; (first | omega | (simp <;> omega))) | exact Below.refl _ _ | assumption))) (hb_w1.mono (by first | omega | (simp <;> omega)))
    clear hb_w1 c1__0 f1__0
    have far_w1_w_0 := far (show w.heap.size < w1.heap.size by omega)
    obtain ⟨ao, cap, rfl, g1, g2, _, _⟩ := id hr1
    have HR1 := Lib.hid hr1
    have HNE := Lib.hid (show ∀ k, (Value.slice ao T.length cap).ownBlock = some k → k ≠ w.heap.size from fun k hk => by have := hown1 k hk; simp at this; omega)
    clear hr1 hown1
    go_wp2_with fail
    refine Calls.mono (FF.out _ _ (by (repeat (first | with_reducible exact Below.refl _ _ | with_reducible assumption | with_reducible refine Below.drew ?_ | (with_reducible refine Below.setCell ?_ ?_ _; rotate_left; (first | omega | (simp <;> omega))) | (with_reducible refine Below.alloc ?_ ?_ _; rotate_left; (first | omega | (simp <;> omega))) | exact Below.refl _ _ | assumption))) ((HR1.out.set HNE.out).set HNE.out)) ?_
    rintro e w2 ⟨rfl, hb_w2⟩
    have hz_w2 := hb_w2.size
    try simp at hz_w2
    obtain ⟨c2__0, f2__0⟩ := bk hb_w2 (w.heap.size) (by first | omega | (simp <;> omega))
    have c2__0_0 := c2__0 0; conv at c2__0_0 => rhs; simp [go_sem, *]
    have f2__0_0 := f2__0 0; conv at f2__0_0 => rhs; simp [go_sem, *]
    have c2__0_1 := c2__0 1; conv at c2__0_1 => rhs; simp [go_sem, *]
    have f2__0_1 := f2__0 1; conv at f2__0_1 => rhs; simp [go_sem, *]
    have c2__0_2 := c2__0 2; conv at c2__0_2 => rhs; simp [go_sem, *]
    have f2__0_2 := f2__0 2; conv at f2__0_2 => rhs; simp [go_sem, *]
    have c2__0_3 := c2__0 3; conv at c2__0_3 => rhs; simp [go_sem, *]
    have f2__0_3 := f2__0 3; conv at f2__0_3 => rhs; simp [go_sem, *]
    have c2__0_4 := c2__0 4; conv at c2__0_4 => rhs; simp [go_sem, *]
    have f2__0_4 := f2__0 4; conv at f2__0_4 => rhs; simp [go_sem, *]
    have c2__0_5 := c2__0 5; conv at c2__0_5 => rhs; simp [go_sem, *]
    have f2__0_5 := f2__0 5; conv at f2__0_5 => rhs; simp [go_sem, *]
    have c2__0_6 := c2__0 6; conv at c2__0_6 => rhs; simp [go_sem, *]
    have f2__0_6 := f2__0 6; conv at f2__0_6 => rhs; simp [go_sem, *]
    have HH_w2 := Lib.hid hb_w2
    have hB_w2 : Below w.heap.size w w2 := Below.trans (by (repeat (first | with_reducible exact Below.refl _ _ | with_reducible assumption | with_reducible refine Below.drew ?_ | (with_reducible refine Below.setCell ?_ ?_ _; rotate_left; (first | omega | (simp <;> omega))) | (with_reducible refine Below.alloc ?_ ?_ _; rotate_left; (first | omega | (simp <;> omega))) | exact Below.refl _ _ | assumption))) (hb_w2.mono (by first | omega | (simp <;> omega)))
    clear hb_w2 c2__0 f2__0
    try clear c1__0_0 f1__0_0 c1__0_1 f1__0_1 c1__0_2 f1__0_2 c1__0_3 f1__0_3 c1__0_4 f1__0_4 c1__0_5 f1__0_5 c1__0_6 f1__0_6 far_w1_w_0 hB_w1
    have far_w2_w_0 := far (show w.heap.size < w2.heap.size by omega)
    have HR2 := Lib.hid (((HR1.out.set HNE.out).set HNE.out).below HH_w2.out)
    go_wp2_with fail
    refine Calls.mono (AK.out _ _ (by (repeat (first | with_reducible exact Below.refl _ _ | with_reducible assumption | with_reducible refine Below.drew ?_ | (with_reducible refine Below.setCell ?_ ?_ _; rotate_left; (first | omega | (simp <;> omega))) | (with_reducible refine Below.alloc ?_ ?_ _; rotate_left; (first | omega | (simp <;> omega))) | exact Below.refl _ _ | assumption))) HR2.out (HF.out.below (by (repeat (first | with_reducible exact Below.refl _ _ | with_reducible assumption | with_reducible refine Below.drew ?_ | (with_reducible refine Below.setCell ?_ ?_ _; rotate_left; (first | omega | (simp <;> omega))) | (with_reducible refine Below.alloc ?_ ?_ _; rotate_left; (first | omega | (simp <;> omega))) | exact Below.refl _ _ | assumption))))) ?_
    rintro e w3 ⟨rfl, hb_w3⟩
    have hz_w3 := hb_w3.size
    try simp at hz_w3
    obtain ⟨c3__0, f3__0⟩ := bk hb_w3 (w.heap.size) (by first | omega | (simp <;> omega))
    have c3__0_0 := c3__0 0; conv at c3__0_0 => rhs; simp [go_sem, *]
    have f3__0_0 := f3__0 0; conv at f3__0_0 => rhs; simp [go_sem, *]
    have c3__0_1 := c3__0 1; conv at c3__0_1 => rhs; simp [go_sem, *]
    have f3__0_1 := f3__0 1; conv at f3__0_1 => rhs; simp [go_sem, *]
    have c3__0_2 := c3__0 2; conv at c3__0_2 => rhs; simp [go_sem, *]
    have f3__0_2 := f3__0 2; conv at f3__0_2 => rhs; simp [go_sem, *]
    have c3__0_3 := c3__0 3; conv at c3__0_3 => rhs; simp [go_sem, *]
    have f3__0_3 := f3__0 3; conv at f3__0_3 => rhs; simp [go_sem, *]
    have c3__0_4 := c3__0 4; conv at c3__0_4 => rhs; simp [go_sem, *]
    have f3__0_4 := f3__0 4; conv at f3__0_4 => rhs; simp [go_sem, *]
    have c3__0_5 := c3__0 5; conv at c3__0_5 => rhs; simp [go_sem, *]
    have f3__0_5 := f3__0 5; conv at f3__0_5 => rhs; simp [go_sem, *]
    have c3__0_6 := c3__0 6; conv at c3__0_6 => rhs; simp [go_sem, *]
    have f3__0_6 := f3__0 6; conv at f3__0_6 => rhs; simp [go_sem, *]
    have HH_w3 := Lib.hid hb_w3
    have hB_w3 : Below w.heap.size w w3 := Below.trans (by (repeat (first | with_reducible exact Below.refl _ _ | with_reducible assumption | with_reducible refine Below.drew ?_ | (with_reducible refine Below.setCell ?_ ?_ _; rotate_left; (first | omega | (simp <;> omega))) | (with_reducible refine Below.alloc ?_ ?_ _; rotate_left; (first | omega | (simp <;> omega))) | exact Below.refl _ _ | assumption))) (hb_w3.mono (by first | omega | (simp <;> omega)))
    clear hb_w3 c3__0 f3__0
    try clear c2__0_0 f2__0_0 c2__0_1 f2__0_1 c2__0_2 f2__0_2 c2__0_3 f2__0_3 c2__0_4 f2__0_4 c2__0_5 f2__0_5 c2__0_6 f2__0_6 far_w2_w_0 hB_w2
    have far_w3_w_0 := far (show w.heap.size < w3.heap.size by omega)
    have HR3 := Lib.hid (HR2.out.below HH_w3.out)
    go_wp2_with fail
    refine Calls.mono (DK.out _ _ (by (repeat (first | with_reducible exact Below.refl _ _ | with_reducible assumption | with_reducible refine Below.drew ?_ | (with_reducible refine Below.setCell ?_ ?_ _; rotate_left; (first | omega | (simp <;> omega))) | (with_reducible refine Below.alloc ?_ ?_ _; rotate_left; (first | omega | (simp <;> omega))) | exact Below.refl _ _ | assumption))) (HR3.out.below (by (repeat (first | with_reducible exact Below.refl _ _ | with_reducible assumption | with_reducible refine Below.drew ?_ | (with_reducible refine Below.setCell ?_ ?_ _; rotate_left; (first | omega | (simp <;> omega))) | (with_reducible refine Below.alloc ?_ ?_ _; rotate_left; (first | omega | (simp <;> omega))) | exact Below.refl _ _ | assumption)))) (HF.out.below (by (repeat (first | with_reducible exact Below.refl _ _ | with_reducible assumption | with_reducible refine Below.drew ?_ | (with_reducible refine Below.setCell ?_ ?_ _; rotate_left; (first | omega | (simp <;> omega))) | (with_reducible refine Below.alloc ?_ ?_ _; rotate_left; (first | omega | (simp <;> omega))) | exact Below.refl _ _ | assumption))))) ?_
    rintro e w4 ⟨rfl, hb_w4⟩
    have hz_w4 := hb_w4.size
    try simp at hz_w4
    obtain ⟨c4__0, f4__0⟩ := bk hb_w4 (w.heap.size) (by first | omega | (simp <;> omega))
    have c4__0_0 := c4__0 0; conv at c4__0_0 => rhs; simp [go_sem, *]
    have f4__0_0 := f4__0 0; conv at f4__0_0 => rhs; simp [go_sem, *]
    have c4__0_1 := c4__0 1; conv at c4__0_1 => rhs; simp [go_sem, *]
    have f4__0_1 := f4__0 1; conv at f4__0_1 => rhs; simp [go_sem, *]
    have c4__0_2 := c4__0 2; conv at c4__0_2 => rhs; simp [go_sem, *]
    have f4__0_2 := f4__0 2; conv at f4__0_2 => rhs; simp [go_sem, *]
    have c4__0_3 := c4__0 3; conv at c4__0_3 => rhs; simp [go_sem, *]
    have f4__0_3 := f4__0 3; conv at f4__0_3 => rhs; simp [go_sem, *]
    have c4__0_4 := c4__0 4; conv at c4__0_4 => rhs; simp [go_sem, *]
    have f4__0_4 := f4__0 4; conv at f4__0_4 => rhs; simp [go_sem, *]
    have c4__0_5 := c4__0 5; conv at c4__0_5 => rhs; simp [go_sem, *]
    have f4__0_5 := f4__0 5; conv at f4__0_5 => rhs; simp [go_sem, *]
    have c4__0_6 := c4__0 6; conv at c4__0_6 => rhs; simp [go_sem, *]
    have f4__0_6 := f4__0 6; conv at f4__0_6 => rhs; simp [go_sem, *]
    obtain ⟨c4_3_0, f4_3_0⟩ := bk hb_w4 (w3.heap.size) (by first | omega | (simp <;> omega))
    have c4_3_0_0 := c4_3_0 0; conv at c4_3_0_0 => rhs; simp [go_sem, *]
    have f4_3_0_0 := f4_3_0 0; conv at f4_3_0_0 => rhs; simp [go_sem, *]
    have c4_3_0_1 := c4_3_0 1; conv at c4_3_0_1 => rhs; simp [go_sem, *]
    have f4_3_0_1 := f4_3_0 1; conv at f4_3_0_1 => rhs; simp [go_sem, *]
    have c4_3_0_2 := c4_3_0 2; conv at c4_3_0_2 => rhs; simp [go_sem, *]
    have f4_3_0_2 := f4_3_0 2; conv at f4_3_0_2 => rhs; simp [go_sem, *]
    have c4_3_0_3 := c4_3_0 3; conv at c4_3_0_3 => rhs; simp [go_sem, *]
    have f4_3_0_3 := f4_3_0 3; conv at f4_3_0_3 => rhs; simp [go_sem, *]
    have c4_3_0_4 := c4_3_0 4; conv at c4_3_0_4 => rhs; simp [go_sem, *]
    have f4_3_0_4 := f4_3_0 4; conv at f4_3_0_4 => rhs; simp [go_sem, *]
    have c4_3_0_5 := c4_3_0 5; conv at c4_3_0_5 => rhs; simp [go_sem, *]
    have f4_3_0_5 := f4_3_0 5; conv at f4_3_0_5 => rhs; simp [go_sem, *]
    have HH_w4 := Lib.hid hb_w4
    have hB_w4 : Below w.heap.size w w4 := Below.trans (by (repeat (first | with_reducible exact Below.refl _ _ | with_reducible assumption | with_reducible refine Below.drew ?_ | (with_reducible refine Below.setCell ?_ ?_ _; rotate_left; (first | omega | (simp <;> omega))) | (with_reducible refine Below.alloc ?_ ?_ _; rotate_left; (first | omega | (simp <;> omega))) | exact Below.refl _ _ | assumption))) (hb_w4.mono (by first | omega | (simp <;> omega)))
    clear hb_w4 c4__0 f4__0 c4_3_0 f4_3_0
    try clear c3__0_0 f3__0_0 c3__0_1 f3__0_1 c3__0_2 f3__0_2 c3__0_3 f3__0_3 c3__0_4 f3__0_4 c3__0_5 f3__0_5 c3__0_6 f3__0_6 far_w3_w_0 hB_w3
    have far_w4_w_0 := far (show w.heap.size < w4.heap.size by omega)
    have far_w4_w3_0 := far (show w3.heap.size < w4.heap.size by omega)
    have HR4 := Lib.hid (HR3.out.below (Below.trans (show Below w3.heap.size w3 _ by (repeat (first | with_reducible exact Below.refl _ _ | with_reducible assumption | with_reducible refine Below.drew ?_ | (with_reducible refine Below.setCell ?_ ?_ _; rotate_left; (first | omega | (simp <;> omega))) | (with_reducible refine Below.alloc ?_ ?_ _; rotate_left; (first | omega | (simp <;> omega))) | exact Below.refl _ _ | assumption))) (Below.mono HH_w4.out (by (first | omega | (simp <;> omega))))))
    go_wp2_with fail
    refine Calls.mono (RO.out _ _ (by (repeat (first | with_reducible exact Below.refl _ _ | with_reducible assumption | with_reducible refine Below.drew ?_ | (with_reducible refine Below.setCell ?_ ?_ _; rotate_left; (first | omega | (simp <;> omega))) | (with_reducible refine Below.alloc ?_ ?_ _; rotate_left; (first | omega | (simp <;> omega))) | exact Below.refl _ _ | assumption))) (HR4.out.below (by (repeat (first | with_reducible exact Below.refl _ _ | with_reducible assumption | with_reducible refine Below.drew ?_ | (with_reducible refine Below.setCell ?_ ?_ _; rotate_left; (first | omega | (simp <;> omega))) | (with_reducible refine Below.alloc ?_ ?_ _; rotate_left; (first | omega | (simp <;> omega))) | exact Below.refl _ _ | assumption))))) ?_
    rintro e w5 ⟨rfl, hb_w5⟩
    have hz_w5 := hb_w5.size
    try simp at hz_w5
    obtain ⟨c5_3_0, f5_3_0⟩ := bk hb_w5 (w3.heap.size) (by first | omega | (simp <;> omega))
    have c5_3_0_0 := c5_3_0 0; conv at c5_3_0_0 => rhs; simp [go_sem, *]
    have f5_3_0_0 := f5_3_0 0; conv at f5_3_0_0 => rhs; simp [go_sem, *]
    have c5_3_0_1 := c5_3_0 1; conv at c5_3_0_1 => rhs; simp [go_sem, *]
    have f5_3_0_1 := f5_3_0 1; conv at f5_3_0_1 => rhs; simp [go_sem, *]
    have c5_3_0_2 := c5_3_0 2; conv at c5_3_0_2 => rhs; simp [go_sem, *]
    have f5_3_0_2 := f5_3_0 2; conv at f5_3_0_2 => rhs; simp [go_sem, *]
    have c5_3_0_3 := c5_3_0 3; conv at c5_3_0_3 => rhs; simp [go_sem, *]
    have f5_3_0_3 := f5_3_0 3; conv at f5_3_0_3 => rhs; simp [go_sem, *]
    have c5_3_0_4 := c5_3_0 4; conv at c5_3_0_4 => rhs; simp [go_sem, *]
    have f5_3_0_4 := f5_3_0 4; conv at f5_3_0_4 => rhs; simp [go_sem, *]
    have c5_3_0_5 := c5_3_0 5; conv at c5_3_0_5 => rhs; simp [go_sem, *]
    have f5_3_0_5 := f5_3_0 5; conv at f5_3_0_5 => rhs; simp [go_sem, *]
    obtain ⟨c5_4_0, f5_4_0⟩ := bk hb_w5 (w4.heap.size) (by first | omega | (simp <;> omega))
    have c5_4_0_0 := c5_4_0 0; conv at c5_4_0_0 => rhs; simp [go_sem, *]
    have f5_4_0_0 := f5_4_0 0; conv at f5_4_0_0 => rhs; simp [go_sem, *]
    have c5_4_0_1 := c5_4_0 1; conv at c5_4_0_1 => rhs; simp [go_sem, *]
    have f5_4_0_1 := f5_4_0 1; conv at f5_4_0_1 => rhs; simp [go_sem, *]
    have c5_4_0_2 := c5_4_0 2; conv at c5_4_0_2 => rhs; simp [go_sem, *]
    have f5_4_0_2 := f5_4_0 2; conv at f5_4_0_2 => rhs; simp [go_sem, *]
    have c5_4_0_3 := c5_4_0 3; conv at c5_4_0_3 => rhs; simp [go_sem, *]
    have f5_4_0_3 := f5_4_0 3; conv at f5_4_0_3 => rhs; simp [go_sem, *]
    have c5_4_0_4 := c5_4_0 4; conv at c5_4_0_4 => rhs; simp [go_sem, *]
    have f5_4_0_4 := f5_4_0 4; conv at f5_4_0_4 => rhs; simp [go_sem, *]
    have c5_4_0_5 := c5_4_0 5; conv at c5_4_0_5 => rhs; simp [go_sem, *]
    have f5_4_0_5 := f5_4_0 5; conv at f5_4_0_5 => rhs; simp [go_sem, *]
    have HH_w5 := Lib.hid hb_w5
    have hB_w5 : Below w.heap.size w w5 := Below.trans (by (repeat (first | with_reducible exact Below.refl _ _ | with_reducible assumption | with_reducible refine Below.drew ?_ | (with_reducible refine Below.setCell ?_ ?_ _; rotate_left; (first | omega | (simp <;> omega))) | (with_reducible refine Below.alloc ?_ ?_ _; rotate_left; (first | omega | (simp <;> omega))) | exact Below.refl _ _ | assumption))) (hb_w5.mono (by first | omega | (simp <;> omega)))
    clear hb_w5 c5_3_0 f5_3_0 c5_4_0 f5_4_0
    try clear c4__0_0 f4__0_0 c4__0_1 f4__0_1 c4__0_2 f4__0_2 c4__0_3 f4__0_3 c4__0_4 f4__0_4 c4__0_5 f4__0_5 c4__0_6 f4__0_6 c4_3_0_0 f4_3_0_0 c4_3_0_1 f4_3_0_1 c4_3_0_2 f4_3_0_2 c4_3_0_3 f4_3_0_3 c4_3_0_4 f4_3_0_4 c4_3_0_5 f4_3_0_5 far_w4_w_0 far_w4_w3_0 hB_w4
    have far_w5_w3_0 := far (show w3.heap.size < w5.heap.size by omega)
    have far_w5_w4_0 := far (show w4.heap.size < w5.heap.size by omega)
    have HR5 := Lib.hid (HR4.out.below (Below.trans (show Below w4.heap.size w4 _ by (repeat (first | with_reducible exact Below.refl _ _ | with_reducible assumption | with_reducible refine Below.drew ?_ | (with_reducible refine Below.setCell ?_ ?_ _; rotate_left; (first | omega | (simp <;> omega))) | (with_reducible refine Below.alloc ?_ ?_ _; rotate_left; (first | omega | (simp <;> omega))) | exact Below.refl _ _ | assumption))) (Below.mono HH_w5.out (by (first | omega | (simp <;> omega))))))
    go_wp2_with fail
    refine Calls.mono (RR.out _ _ (by (repeat (first | with_reducible exact Below.refl _ _ | with_reducible assumption | with_reducible refine Below.drew ?_ | (with_reducible refine Below.setCell ?_ ?_ _; rotate_left; (first | omega | (simp <;> omega))) | (with_reducible refine Below.alloc ?_ ?_ _; rotate_left; (first | omega | (simp <;> omega))) | exact Below.refl _ _ | assumption))) HR5.out) ?_
    rintro e w6 ⟨rfl, hb_w6⟩
    have hz_w6 := hb_w6.size
    try simp at hz_w6
    obtain ⟨c6_3_0, f6_3_0⟩ := bk hb_w6 (w3.heap.size) (by first | omega | (simp <;> omega))
    have c6_3_0_0 := c6_3_0 0; conv at c6_3_0_0 => rhs; simp [go_sem, *]
    have f6_3_0_0 := f6_3_0 0; conv at f6_3_0_0 => rhs; simp [go_sem, *]
    have c6_3_0_1 := c6_3_0 1; conv at c6_3_0_1 => rhs; simp [go_sem, *]
    have f6_3_0_1 := f6_3_0 1; conv at f6_3_0_1 => rhs; simp [go_sem, *]
    have c6_3_0_2 := c6_3_0 2; conv at c6_3_0_2 => rhs; simp [go_sem, *]
    have f6_3_0_2 := f6_3_0 2; conv at f6_3_0_2 => rhs; simp [go_sem, *]
    have c6_3_0_3 := c6_3_0 3; conv at c6_3_0_3 => rhs; simp [go_sem, *]
    have f6_3_0_3 := f6_3_0 3; conv at f6_3_0_3 => rhs; simp [go_sem, *]
    have c6_3_0_4 := c6_3_0 4; conv at c6_3_0_4 => rhs; simp [go_sem, *]
    have f6_3_0_4 := f6_3_0 4; conv at f6_3_0_4 => rhs; simp [go_sem, *]
    have c6_3_0_5 := c6_3_0 5; conv at c6_3_0_5 => rhs; simp [go_sem, *]
    have f6_3_0_5 := f6_3_0 5; conv at f6_3_0_5 => rhs; simp [go_sem, *]
    obtain ⟨c6_4_0, f6_4_0⟩ := bk hb_w6 (w4.heap.size) (by first | omega | (simp <;> omega))
    have c6_4_0_0 := c6_4_0 0; conv at c6_4_0_0 => rhs; simp [go_sem, *]
    have f6_4_0_0 := f6_4_0 0; conv at f6_4_0_0 => rhs; simp [go_sem, *]
    have c6_4_0_1 := c6_4_0 1; conv at c6_4_0_1 => rhs; simp [go_sem, *]
    have f6_4_0_1 := f6_4_0 1; conv at f6_4_0_1 => rhs; simp [go_sem, *]
    have c6_4_0_2 := c6_4_0 2; conv at c6_4_0_2 => rhs; simp [go_sem, *]
    have f6_4_0_2 := f6_4_0 2; conv at f6_4_0_2 => rhs; simp [go_sem, *]
    have c6_4_0_3 := c6_4_0 3; conv at c6_4_0_3 => rhs; simp [go_sem, *]
    have f6_4_0_3 := f6_4_0 3; conv at f6_4_0_3 => rhs; simp [go_sem, *]
    have c6_4_0_4 := c6_4_0 4; conv at c6_4_0_4 => rhs; simp [go_sem, *]
    have f6_4_0_4 := f6_4_0 4; conv at f6_4_0_4 => rhs; simp [go_sem, *]
    have c6_4_0_5 := c6_4_0 5; conv at c6_4_0_5 => rhs; simp [go_sem, *]
    have f6_4_0_5 := f6_4_0 5; conv at f6_4_0_5 => rhs; simp [go_sem, *]
    have HH_w6 := Lib.hid hb_w6
    have hB_w6 : Below w.heap.size w w6 := Below.trans (by (repeat (first | with_reducible exact Below.refl _ _ | with_reducible assumption | with_reducible refine Below.drew ?_ | (with_reducible refine Below.setCell ?_ ?_ _; rotate_left; (first | omega | (simp <;> omega))) | (with_reducible refine Below.alloc ?_ ?_ _; rotate_left; (first | omega | (simp <;> omega))) | exact Below.refl _ _ | assumption))) (hb_w6.mono (by first | omega | (simp <;> omega)))
    clear hb_w6 c6_3_0 f6_3_0 c6_4_0 f6_4_0
    try clear c5_3_0_0 f5_3_0_0 c5_3_0_1 f5_3_0_1 c5_3_0_2 f5_3_0_2 c5_3_0_3 f5_3_0_3 c5_3_0_4 f5_3_0_4 c5_3_0_5 f5_3_0_5 c5_4_0_0 f5_4_0_0 c5_4_0_1 f5_4_0_1 c5_4_0_2 f5_4_0_2 c5_4_0_3 f5_4_0_3 c5_4_0_4 f5_4_0_4 c5_4_0_5 f5_4_0_5 far_w5_w3_0 far_w5_w4_0 hB_w5
    have far_w6_w3_0 := far (show w3.heap.size < w6.heap.size by omega)
    have far_w6_w4_0 := far (show w4.heap.size < w6.heap.size by omega)
    have HR6 := Lib.hid (HR5.out.below HH_w6.out)
    go_wp2_with fail
    refine Calls.mono (AL.out _ (by (repeat (first | with_reducible exact Below.refl _ _ | with_reducible assumption | with_reducible refine Below.drew ?_ | (with_reducible refine Below.setCell ?_ ?_ _; rotate_left; (first | omega | (simp <;> omega))) | (with_reducible refine Below.alloc ?_ ?_ _; rotate_left; (first | omega | (simp <;> omega))) | exact Below.refl _ _ | assumption)))) ?_
    rintro e w7 ⟨rfl, hb_w7⟩
    have hz_w7 := hb_w7.size
    try simp at hz_w7
    obtain ⟨c7_3_0, f7_3_0⟩ := bk hb_w7 (w3.heap.size) (by first | omega | (simp <;> omega))
    have c7_3_0_0 := c7_3_0 0; conv at c7_3_0_0 => rhs; simp [go_sem, *]
    have f7_3_0_0 := f7_3_0 0; conv at f7_3_0_0 => rhs; simp [go_sem, *]
    have c7_3_0_1 := c7_3_0 1; conv at c7_3_0_1 => rhs; simp [go_sem, *]
    have f7_3_0_1 := f7_3_0 1; conv at f7_3_0_1 => rhs; simp [go_sem, *]
    have c7_3_0_2 := c7_3_0 2; conv at c7_3_0_2 => rhs; simp [go_sem, *]
    have f7_3_0_2 := f7_3_0 2; conv at f7_3_0_2 => rhs; simp [go_sem, *]
    have c7_3_0_3 := c7_3_0 3; conv at c7_3_0_3 => rhs; simp [go_sem, *]
    have f7_3_0_3 := f7_3_0 3; conv at f7_3_0_3 => rhs; simp [go_sem, *]
    have c7_3_0_4 := c7_3_0 4; conv at c7_3_0_4 => rhs; simp [go_sem, *]
    have f7_3_0_4 := f7_3_0 4; conv at f7_3_0_4 => rhs; simp [go_sem, *]
    have c7_3_0_5 := c7_3_0 5; conv at c7_3_0_5 => rhs; simp [go_sem, *]
    have f7_3_0_5 := f7_3_0 5; conv at f7_3_0_5 => rhs; simp [go_sem, *]
    obtain ⟨c7_4_0, f7_4_0⟩ := bk hb_w7 (w4.heap.size) (by first | omega | (simp <;> omega))
    have c7_4_0_0 := c7_4_0 0; conv at c7_4_0_0 => rhs; simp [go_sem, *]
    have f7_4_0_0 := f7_4_0 0; conv at f7_4_0_0 => rhs; simp [go_sem, *]
    have c7_4_0_1 := c7_4_0 1; conv at c7_4_0_1 => rhs; simp [go_sem, *]
    have f7_4_0_1 := f7_4_0 1; conv at f7_4_0_1 => rhs; simp [go_sem, *]
    have c7_4_0_2 := c7_4_0 2; conv at c7_4_0_2 => rhs; simp [go_sem, *]
    have f7_4_0_2 := f7_4_0 2; conv at f7_4_0_2 => rhs; simp [go_sem, *]
    have c7_4_0_3 := c7_4_0 3; conv at c7_4_0_3 => rhs; simp [go_sem, *]
    have f7_4_0_3 := f7_4_0 3; conv at f7_4_0_3 => rhs; simp [go_sem, *]
    have c7_4_0_4 := c7_4_0 4; conv at c7_4_0_4 => rhs; simp [go_sem, *]
    have f7_4_0_4 := f7_4_0 4; conv at f7_4_0_4 => rhs; simp [go_sem, *]
    have c7_4_0_5 := c7_4_0 5; conv at c7_4_0_5 => rhs; simp [go_sem, *]
    have f7_4_0_5 := f7_4_0 5; conv at f7_4_0_5 => rhs; simp [go_sem, *]
    have HH_w7 := Lib.hid hb_w7
    have hB_w7 : Below w.heap.size w w7 := Below.trans (by (repeat (first | with_reducible exact Below.refl _ _ | with_reducible assumption | with_reducible refine Below.drew ?_ | (with_reducible refine Below.setCell ?_ ?_ _; rotate_left; (first | omega | (simp <;> omega))) | (with_reducible refine Below.alloc ?_ ?_ _; rotate_left; (first | omega | (simp <;> omega))) | exact Below.refl _ _ | assumption))) (hb_w7.mono (by first | omega | (simp <;> omega)))
    clear hb_w7 c7_3_0 f7_3_0 c7_4_0 f7_4_0
    try clear c6_3_0_0 f6_3_0_0 c6_3_0_1 f6_3_0_1 c6_3_0_2 f6_3_0_2 c6_3_0_3 f6_3_0_3 c6_3_0_4 f6_3_0_4 c6_3_0_5 f6_3_0_5 c6_4_0_0 f6_4_0_0 c6_4_0_1 f6_4_0_1 c6_4_0_2 f6_4_0_2 c6_4_0_3 f6_4_0_3 c6_4_0_4 f6_4_0_4 c6_4_0_5 f6_4_0_5 far_w6_w3_0 far_w6_w4_0 hB_w6
    have far_w7_w3_0 := far (show w3.heap.size < w7.heap.size by omega)
    have far_w7_w4_0 := far (show w4.heap.size < w7.heap.size by omega)
    have HR7 := Lib.hid (HR6.out.below HH_w7.out)
    go_wp2_with fail
    refine Calls.mono (RR.out _ _ (by (repeat (first | with_reducible exact Below.refl _ _ | with_reducible assumption | with_reducible refine Below.drew ?_ | (with_reducible refine Below.setCell ?_ ?_ _; rotate_left; (first | omega | (simp <;> omega))) | (with_reducible refine Below.alloc ?_ ?_ _; rotate_left; (first | omega | (simp <;> omega))) | exact Below.refl _ _ | assumption))) HR7.out) ?_
    rintro e w8 ⟨rfl, hb_w8⟩
    have hz_w8 := hb_w8.size
    try simp at hz_w8
    have HH_w8 := Lib.hid hb_w8
    have hB_w8 : Below w.heap.size w w8 := Below.trans (by (repeat (first | with_reducible exact Below.refl _ _ | with_reducible assumption | with_reducible refine Below.drew ?_ | (with_reducible refine Below.setCell ?_ ?_ _; rotate_left; (first | omega | (simp <;> omega))) | (with_reducible refine Below.alloc ?_ ?_ _; rotate_left; (first | omega | (simp <;> omega))) | exact Below.refl _ _ | assumption))) (hb_w8.mono (by first | omega | (simp <;> omega)))
    clear hb_w8
    try clear c7_3_0_0 f7_3_0_0 c7_3_0_1 f7_3_0_1 c7_3_0_2 f7_3_0_2 c7_3_0_3 f7_3_0_3 c7_3_0_4 f7_3_0_4 c7_3_0_5 f7_3_0_5 c7_4_0_0 f7_4_0_0 c7_4_0_1 f7_4_0_1 c7_4_0_2 f7_4_0_2 c7_4_0_3 f7_4_0_3 c7_4_0_4 f7_4_0_4 c7_4_0_5 f7_4_0_5 far_w7_w3_0 far_w7_w4_0 hB_w7
    have HR8 := Lib.hid (HR7.out.below HH_w8.out)
    go_wp2
    go_ret
    exact ⟨ret_bool (by simp), by (repeat (first | with_reducible exact Below.refl _ _ | with_reducible assumption | with_reducible refine Below.drew ?_ | (with_reducible refine Below.setCell ?_ ?_ _; rotate_left; (first | omega | (simp <;> omega))) | (with_reducible refine Below.alloc ?_ ?_ _; rotate_left; (first | omega | (simp <;> omega))) | exact Below.refl _ _ | assumption))⟩
  | true =>
    have hfr2 := HFR.out (by first | rfl | trivial)
    rw [← hfr2] at DF
    simp only at DF
    clear HFR HF1 hfr2
    go_enter Tryz.func3, Tryz.ntmps3
    go_wp2_with fail
    refine Calls.mono (C0.out _ (by (repeat (first | with_reducible exact Below.refl _ _ | with_reducible assumption | with_reducible refine Below.drew ?_ | (with_reducible refine Below.setCell ?_ ?_ _; rotate_left; (first | omega | (simp <;> omega))) | (with_reducible refine Below.alloc ?_ ?_ _; rotate_left; (first | omega | (simp <;> omega))) | exact Below.refl _ _ | assumption)))) ?_
    rintro e w1 ⟨v1, rfl, hr1, hb_w1, hown1⟩
    have hz_w1 := hb_w1.size
    try simp at hz_w1
    obtain ⟨c1__0, f1__0⟩ := bk hb_w1 (w.heap.size) (by first | omega | (simp <;> omega))
    have c1__0_0 := c1__0 0; conv at c1__0_0 => rhs; simp [go_sem, *]
    have f1__0_0 := f1__0 0; conv at f1__0_0 => rhs; simp [go_sem, *]
    have c1__0_1 := c1__0 1; conv at c1__0_1 => rhs; simp [go_sem, *]
    have f1__0_1 := f1__0 1; conv at f1__0_1 => rhs; simp [go_sem, *]
    have c1__0_2 := c1__0 2; conv at c1__0_2 => rhs; simp [go_sem, *]
    have f1__0_2 := f1__0 2; conv at f1__0_2 => rhs; simp [go_sem, *]
    have c1__0_3 := c1__0 3; conv at c1__0_3 => rhs; simp [go_sem, *]
    have f1__0_3 := f1__0 3; conv at f1__0_3 => rhs; simp [go_sem, *]
    have c1__0_4 := c1__0 4; conv at c1__0_4 => rhs; simp [go_sem, *]
    have f1__0_4 := f1__0 4; conv at f1__0_4 => rhs; simp [go_sem, *]
    have c1__0_5 := c1__0 5; conv at c1__0_5 => rhs; simp [go_sem, *]
    have f1__0_5 := f1__0 5; conv at f1__0_5 => rhs; simp [go_sem, *]
    have c1__0_6 := c1__0 6; conv at c1__0_6 => rhs; simp [go_sem, *]
    have f1__0_6 := f1__0 6; conv at f1__0_6 => rhs; simp [go_sem, *]
    have HH_w1 := Lib.hid hb_w1
    have hB_w1 : Below w.heap.size w w1 := Below.trans (by (repeat (first | with_reducible exact Below.refl _ _ | with_reducible assumption | with_reducible refine Below.drew ?_ | (with_reducible refine Below.setCell ?_ ?_ _; rotate_left; (first | omega | (simp <;> omega))) | (with_reducible refine Below.alloc ?_ ?_ _; rotate_left; (first | omega | (simp <;> omega))) | exact Below.refl _ _ | assumption))) (hb_w1.mono (by first | omega | (simp <;> omega)))
    clear hb_w1 c1__0 f1__0
    try clear hB_w8
    have far_w1_w_0 := far (show w.heap.size < w1.heap.size by omega)
    obtain ⟨ao, cap, rfl, g1, g2, _, _⟩ := id hr1
    have HR1 := Lib.hid hr1
    have HNE := Lib.hid (show ∀ k, (Value.slice ao T.length cap).ownBlock = some k → k ≠ w.heap.size from fun k hk => by have := hown1 k hk; simp at this; omega)
    clear hr1 hown1
    go_wp2_with fail
    refine Calls.mono (FF.out _ _ (by (repeat (first | with_reducible exact Below.refl _ _ | with_reducible assumption | with_reducible refine Below.drew ?_ | (with_reducible refine Below.setCell ?_ ?_ _; rotate_left; (first | omega | (simp <;> omega))) | (with_reducible refine Below.alloc ?_ ?_ _; rotate_left; (first | omega | (simp <;> omega))) | exact Below.refl _ _ | assumption))) ((HR1.out.set HNE.out).set HNE.out)) ?_
    rintro e w2 ⟨rfl, hb_w2⟩
    have hz_w2 := hb_w2.size
    try simp at hz_w2
    obtain ⟨c2__0, f2__0⟩ := bk hb_w2 (w.heap.size) (by first | omega | (simp <;> omega))
    have c2__0_0 := c2__0 0; conv at c2__0_0 => rhs; simp [go_sem, *]
    have f2__0_0 := f2__0 0; conv at f2__0_0 => rhs; simp [go_sem, *]
    have c2__0_1 := c2__0 1; conv at c2__0_1 => rhs; simp [go_sem, *]
    have f2__0_1 := f2__0 1; conv at f2__0_1 => rhs; simp [go_sem, *]
    have c2__0_2 := c2__0 2; conv at c2__0_2 => rhs; simp [go_sem, *]
    have f2__0_2 := f2__0 2; conv at f2__0_2 => rhs; simp [go_sem, *]
    have c2__0_3 := c2__0 3; conv at c2__0_3 => rhs; simp [go_sem, *]
    have f2__0_3 := f2__0 3; conv at f2__0_3 => rhs; simp [go_sem, *]
    have c2__0_4 := c2__0 4; conv at c2__0_4 => rhs; simp [go_sem, *]
    have f2__0_4 := f2__0 4; conv at f2__0_4 => rhs; simp [go_sem, *]
    have c2__0_5 := c2__0 5; conv at c2__0_5 => rhs; simp [go_sem, *]
    have f2__0_5 := f2__0 5; conv at f2__0_5 => rhs; simp [go_sem, *]
    have c2__0_6 := c2__0 6; conv at c2__0_6 => rhs; simp [go_sem, *]
    have f2__0_6 := f2__0 6; conv at f2__0_6 => rhs; simp [go_sem, *]
    have HH_w2 := Lib.hid hb_w2
    have hB_w2 : Below w.heap.size w w2 := Below.trans (by (repeat (first | with_reducible exact Below.refl _ _ | with_reducible assumption | with_reducible refine Below.drew ?_ | (with_reducible refine Below.setCell ?_ ?_ _; rotate_left; (first | omega | (simp <;> omega))) | (with_reducible refine Below.alloc ?_ ?_ _; rotate_left; (first | omega | (simp <;> omega))) | exact Below.refl _ _ | assumption))) (hb_w2.mono (by first | omega | (simp <;> omega)))
    clear hb_w2 c2__0 f2__0
    try clear c1__0_0 f1__0_0 c1__0_1 f1__0_1 c1__0_2 f1__0_2 c1__0_3 f1__0_3 c1__0_4 f1__0_4 c1__0_5 f1__0_5 c1__0_6 f1__0_6 far_w1_w_0 hB_w1
    have far_w2_w_0 := far (show w.heap.size < w2.heap.size by omega)
    have HR2 := Lib.hid (((HR1.out.set HNE.out).set HNE.out).below HH_w2.out)
    go_wp2_with fail
    refine Calls.mono (AK.out _ _ (by (repeat (first | with_reducible exact Below.refl _ _ | with_reducible assumption | with_reducible refine Below.drew ?_ | (with_reducible refine Below.setCell ?_ ?_ _; rotate_left; (first | omega | (simp <;> omega))) | (with_reducible refine Below.alloc ?_ ?_ _; rotate_left; (first | omega | (simp <;> omega))) | exact Below.refl _ _ | assumption))) HR2.out (HF.out.below (by (repeat (first | with_reducible exact Below.refl _ _ | with_reducible assumption | with_reducible refine Below.drew ?_ | (with_reducible refine Below.setCell ?_ ?_ _; rotate_left; (first | omega | (simp <;> omega))) | (with_reducible refine Below.alloc ?_ ?_ _; rotate_left; (first | omega | (simp <;> omega))) | exact Below.refl _ _ | assumption))))) ?_
    rintro e w3 ⟨rfl, hb_w3⟩
    have hz_w3 := hb_w3.size
    try simp at hz_w3
    obtain ⟨c3__0, f3__0⟩ := bk hb_w3 (w.heap.size) (by first | omega | (simp <;> omega))
    have c3__0_0 := c3__0 0; conv at c3__0_0 => rhs; simp [go_sem, *]
    have f3__0_0 := f3__0 0; conv at f3__0_0 => rhs; simp [go_sem, *]
    have c3__0_1 := c3__0 1; conv at c3__0_1 => rhs; simp [go_sem, *]
    have f3__0_1 := f3__0 1; conv at f3__0_1 => rhs; simp [go_sem, *]
    have c3__0_2 := c3__0 2; conv at c3__0_2 => rhs; simp [go_sem, *]
    have f3__0_2 := f3__0 2; conv at f3__0_2 => rhs; simp [go_sem, *]
    have c3__0_3 := c3__0 3; conv at c3__0_3 => rhs; simp [go_sem, *]
    have f3__0_3 := f3__0 3; conv at f3__0_3 => rhs; simp [go_sem, *]
    have c3__0_4 := c3__0 4; conv at c3__0_4 => rhs; simp [go_sem, *]
    have f3__0_4 := f3__0 4; conv at f3__0_4 => rhs; simp [go_sem, *]
    have c3__0_5 := c3__0 5; conv at c3__0_5 => rhs; simp [go_sem, *]
    have f3__0_5 := f3__0 5; conv at f3__0_5 => rhs; simp [go_sem, *]
    have c3__0_6 := c3__0 6; conv at c3__0_6 => rhs; simp [go_sem, *]
    have f3__0_6 := f3__0 6; conv at f3__0_6 => rhs; simp [go_sem, *]
    have HH_w3 := Lib.hid hb_w3
    have hB_w3 : Below w.heap.size w w3 := Below.trans (by (repeat (first | with_reducible exact Below.refl _ _ | with_reducible assumption | with_reducible refine Below.drew ?_ | (with_reducible refine Below.setCell ?_ ?_ _; rotate_left; (first | omega | (simp <;> omega))) | (with_reducible refine Below.alloc ?_ ?_ _; rotate_left; (first | omega | (simp <;> omega))) | exact Below.refl _ _ | assumption))) (hb_w3.mono (by first | omega | (simp <;> omega)))
    clear hb_w3 c3__0 f3__0
    try clear c2__0_0 f2__0_0 c2__0_1 f2__0_1 c2__0_2 f2__0_2 c2__0_3 f2__0_3 c2__0_4 f2__0_4 c2__0_5 f2__0_5 c2__0_6 f2__0_6 far_w2_w_0 hB_w2
    have far_w3_w_0 := far (show w.heap.size < w3.heap.size by omega)
    have HR3 := Lib.hid (HR2.out.below HH_w3.out)
    go_wp2_with fail
    refine Calls.mono (DK.out _ _ (by (repeat (first | with_reducible exact Below.refl _ _ | with_reducible assumption | with_reducible refine Below.drew ?_ | (with_reducible refine Below.setCell ?_ ?_ _; rotate_left; (first | omega | (simp <;> omega))) | (with_reducible refine Below.alloc ?_ ?_ _; rotate_left; (first | omega | (simp <;> omega))) | exact Below.refl _ _ | assumption))) (HR3.out.below (by (repeat (first | with_reducible exact Below.refl _ _ | with_reducible assumption | with_reducible refine Below.drew ?_ | (with_reducible refine Below.setCell ?_ ?_ _; rotate_left; (first | omega | (simp <;> omega))) | (with_reducible refine Below.alloc ?_ ?_ _; rotate_left; (first | omega | (simp <;> omega))) | exact Below.refl _ _ | assumption)))) (HF.out.below (by (repeat (first | with_reducible exact Below.refl _ _ | with_reducible assumption | with_reducible refine Below.drew ?_ | (with_reducible refine Below.setCell ?_ ?_ _; rotate_left; (first | omega | (simp <;> omega))) | (with_reducible refine Below.alloc ?_ ?_ _; rotate_left; (first | omega | (simp <;> omega))) | exact Below.refl _ _ | assumption))))) ?_
    rintro e w4 ⟨rfl, hb_w4⟩
    have hz_w4 := hb_w4.size
    try simp at hz_w4
    obtain ⟨c4__0, f4__0⟩ := bk hb_w4 (w.heap.size) (by first | omega | (simp <;> omega))
    have c4__0_0 := c4__0 0; conv at c4__0_0 => rhs; simp [go_sem, *]
    have f4__0_0 := f4__0 0; conv at f4__0_0 => rhs; simp [go_sem, *]
    have c4__0_1 := c4__0 1; conv at c4__0_1 => rhs; simp [go_sem, *]
    have f4__0_1 := f4__0 1; conv at f4__0_1 => rhs; simp [go_sem, *]
    have c4__0_2 := c4__0 2; conv at c4__0_2 => rhs; simp [go_sem, *]
    have f4__0_2 := f4__0 2; conv at f4__0_2 => rhs; simp [go_sem, *]
    have c4__0_3 := c4__0 3; conv at c4__0_3 => rhs; simp [go_sem, *]
    have f4__0_3 := f4__0 3; conv at f4__0_3 => rhs; simp [go_sem, *]
    have c4__0_4 := c4__0 4; conv at c4__0_4 => rhs; simp [go_sem, *]
    have f4__0_4 := f4__0 4; conv at f4__0_4 => rhs; simp [go_sem, *]
    have c4__0_5 := c4__0 5; conv at c4__0_5 => rhs; simp [go_sem, *]
    have f4__0_5 := f4__0 5; conv at f4__0_5 => rhs; simp [go_sem, *]
    have c4__0_6 := c4__0 6; conv at c4__0_6 => rhs; simp [go_sem, *]
    have f4__0_6 := f4__0 6; conv at f4__0_6 => rhs; simp [go_sem, *]
    obtain ⟨c4_3_0, f4_3_0⟩ := bk hb_w4 (w3.heap.size) (by first | omega | (simp <;> omega))
    have c4_3_0_0 := c4_3_0 0; conv at c4_3_0_0 => rhs; simp [go_sem, *]
    have f4_3_0_0 := f4_3_0 0; conv at f4_3_0_0 => rhs; simp [go_sem, *]
    have c4_3_0_1 := c4_3_0 1; conv at c4_3_0_1 => rhs; simp [go_sem, *]
    have f4_3_0_1 := f4_3_0 1; conv at f4_3_0_1 => rhs; simp [go_sem, *]
    have c4_3_0_2 := c4_3_0 2; conv at c4_3_0_2 => rhs; simp [go_sem, *]
    have f4_3_0_2 := f4_3_0 2; conv at f4_3_0_2 => rhs; simp [go_sem, *]
    have c4_3_0_3 := c4_3_0 3; conv at c4_3_0_3 => rhs; simp [go_sem, *]
    have f4_3_0_3 := f4_3_0 3; conv at f4_3_0_3 => rhs; simp [go_sem, *]
    have c4_3_0_4 := c4_3_0 4; conv at c4_3_0_4 => rhs; simp [go_sem, *]
    have f4_3_0_4 := f4_3_0 4; conv at f4_3_0_4 => rhs; simp [go_sem, *]
    have c4_3_0_5 := c4_3_0 5; conv at c4_3_0_5 => rhs; simp [go_sem, *]
    have f4_3_0_5 := f4_3_0 5; conv at f4_3_0_5 => rhs; simp [go_sem, *]
    have HH_w4 := Lib.hid hb_w4
    have hB_w4 : Below w.heap.size w w4 := Below.trans (by (repeat (first | with_reducible exact Below.refl _ _ | with_reducible assumption | with_reducible refine Below.drew ?_ | (with_reducible refine Below.setCell ?_ ?_ _; rotate_left; (first | omega | (simp <;> omega))) | (with_reducible refine Below.alloc ?_ ?_ _; rotate_left; (first | omega | (simp <;> omega))) | exact Below.refl _ _ | assumption))) (hb_w4.mono (by first | omega | (simp <;> omega)))
    clear hb_w4 c4__0 f4__0 c4_3_0 f4_3_0
    try clear c3__0_0 f3__0_0 c3__0_1 f3__0_1 c3__0_2 f3__0_2 c3__0_3 f3__0_3 c3__0_4 f3__0_4 c3__0_5 f3__0_5 c3__0_6 f3__0_6 far_w3_w_0 hB_w3
    have far_w4_w_0 := far (show w.heap.size < w4.heap.size by omega)
    have far_w4_w3_0 := far (show w3.heap.size < w4.heap.size by omega)
    have HR4 := Lib.hid (HR3.out.below (Below.trans (show Below w3.heap.size w3 _ by (repeat (first | with_reducible exact Below.refl _ _ | with_reducible assumption | with_reducible refine Below.drew ?_ | (with_reducible refine Below.setCell ?_ ?_ _; rotate_left; (first | omega | (simp <;> omega))) | (with_reducible refine Below.alloc ?_ ?_ _; rotate_left; (first | omega | (simp <;> omega))) | exact Below.refl _ _ | assumption))) (Below.mono HH_w4.out (by (first | omega | (simp <;> omega))))))
    go_wp2_with fail
    refine Calls.mono (RO.out _ _ (by (repeat (first | with_reducible exact Below.refl _ _ | with_reducible assumption | with_reducible refine Below.drew ?_ | (with_reducible refine Below.setCell ?_ ?_ _; rotate_left; (first | omega | (simp <;> omega))) | (with_reducible refine Below.alloc ?_ ?_ _; rotate_left; (first | omega | (simp <;> omega))) | exact Below.refl _ _ | assumption))) (HR4.out.below (by (repeat (first | with_reducible exact Below.refl _ _ | with_reducible assumption | with_reducible refine Below.drew ?_ | (with_reducible refine Below.setCell ?_ ?_ _; rotate_left; (first | omega | (simp <;> omega))) | (with_reducible refine Below.alloc ?_ ?_ _; rotate_left; (first | omega | (simp <;> omega))) | exact Below.refl _ _ | assumption))))) ?_
    rintro e w5 ⟨rfl, hb_w5⟩
    have hz_w5 := hb_w5.size
    try simp at hz_w5
    obtain ⟨c5_3_0, f5_3_0⟩ := bk hb_w5 (w3.heap.size) (by first | omega | (simp <;> omega))
    have c5_3_0_0 := c5_3_0 0; conv at c5_3_0_0 => rhs; simp [go_sem, *]
    have f5_3_0_0 := f5_3_0 0; conv at f5_3_0_0 => rhs; simp [go_sem, *]
    have c5_3_0_1 := c5_3_0 1; conv at c5_3_0_1 => rhs; simp [go_sem, *]
    have f5_3_0_1 := f5_3_0 1; conv at f5_3_0_1 => rhs; simp [go_sem, *]
    have c5_3_0_2 := c5_3_0 2; conv at c5_3_0_2 => rhs; simp [go_sem, *]
    have f5_3_0_2 := f5_3_0 2; conv at f5_3_0_2 => rhs; simp [go_sem, *]
    have c5_3_0_3 := c5_3_0 3; conv at c5_3_0_3 => rhs; simp [go_sem, *]
    have f5_3_0_3 := f5_3_0 3; conv at f5_3_0_3 => rhs; simp [go_sem, *]
    have c5_3_0_4 := c5_3_0 4; conv at c5_3_0_4 => rhs; simp [go_sem, *]
    have f5_3_0_4 := f5_3_0 4; conv at f5_3_0_4 => rhs; simp [go_sem, *]
    have c5_3_0_5 := c5_3_0 5; conv at c5_3_0_5 => rhs; simp [go_sem, *]
    have f5_3_0_5 := f5_3_0 5; conv at f5_3_0_5 => rhs; simp [go_sem, *]
    obtain ⟨c5_4_0, f5_4_0⟩ := bk hb_w5 (w4.heap.size) (by first | omega | (simp <;> omega))
    have c5_4_0_0 := c5_4_0 0; conv at c5_4_0_0 => rhs; simp [go_sem, *]
    have f5_4_0_0 := f5_4_0 0; conv at f5_4_0_0 => rhs; simp [go_sem, *]
    have c5_4_0_1 := c5_4_0 1; conv at c5_4_0_1 => rhs; simp [go_sem, *]
    have f5_4_0_1 := f5_4_0 1; conv at f5_4_0_1 => rhs; simp [go_sem, *]
    have c5_4_0_2 := c5_4_0 2; conv at c5_4_0_2 => rhs; simp [go_sem, *]
    have f5_4_0_2 := f5_4_0 2; conv at f5_4_0_2 => rhs; simp [go_sem, *]
    have c5_4_0_3 := c5_4_0 3; conv at c5_4_0_3 => rhs; simp [go_sem, *]
    have f5_4_0_3 := f5_4_0 3; conv at f5_4_0_3 => rhs; simp [go_sem, *]
    have c5_4_0_4 := c5_4_0 4; conv at c5_4_0_4 => rhs; simp [go_sem, *]
    have f5_4_0_4 := f5_4_0 4; conv at f5_4_0_4 => rhs; simp [go_sem, *]
    have c5_4_0_5 := c5_4_0 5; conv at c5_4_0_5 => rhs; simp [go_sem, *]
    have f5_4_0_5 := f5_4_0 5; conv at f5_4_0_5 => rhs; simp [go_sem, *]
    have HH_w5 := Lib.hid hb_w5
    have hB_w5 : Below w.heap.size w w5 := Below.trans (by (repeat (first | with_reducible exact Below.refl _ _ | with_reducible assumption | with_reducible refine Below.drew ?_ | (with_reducible refine Below.setCell ?_ ?_ _; rotate_left; (first | omega | (simp <;> omega))) | (with_reducible refine Below.alloc ?_ ?_ _; rotate_left; (first | omega | (simp <;> omega))) | exact Below.refl _ _ | assumption))) (hb_w5.mono (by first | omega | (simp <;> omega)))
    clear hb_w5 c5_3_0 f5_3_0 c5_4_0 f5_4_0
    try clear c4__0_0 f4__0_0 c4__0_1 f4__0_1 c4__0_2 f4__0_2 c4__0_3 f4__0_3 c4__0_4 f4__0_4 c4__0_5 f4__0_5 c4__0_6 f4__0_6 c4_3_0_0 f4_3_0_0 c4_3_0_1 f4_3_0_1 c4_3_0_2 f4_3_0_2 c4_3_0_3 f4_3_0_3 c4_3_0_4 f4_3_0_4 c4_3_0_5 f4_3_0_5 far_w4_w_0 far_w4_w3_0 hB_w4
    have far_w5_w3_0 := far (show w3.heap.size < w5.heap.size by omega)
    have far_w5_w4_0 := far (show w4.heap.size < w5.heap.size by omega)
    have HR5 := Lib.hid (HR4.out.below (Below.trans (show Below w4.heap.size w4 _ by (repeat (first | with_reducible exact Below.refl _ _ | with_reducible assumption | with_reducible refine Below.drew ?_ | (with_reducible refine Below.setCell ?_ ?_ _; rotate_left; (first | omega | (simp <;> omega))) | (with_reducible refine Below.alloc ?_ ?_ _; rotate_left; (first | omega | (simp <;> omega))) | exact Below.refl _ _ | assumption))) (Below.mono HH_w5.out (by (first | omega | (simp <;> omega))))))
    go_wp2_with fail
    refine Calls.mono (RR.out _ _ (by (repeat (first | with_reducible exact Below.refl _ _ | with_reducible assumption | with_reducible refine Below.drew ?_ | (with_reducible refine Below.setCell ?_ ?_ _; rotate_left; (first | omega | (simp <;> omega))) | (with_reducible refine Below.alloc ?_ ?_ _; rotate_left; (first | omega | (simp <;> omega))) | exact Below.refl _ _ | assumption))) HR5.out) ?_
    rintro e w6 ⟨rfl, hb_w6⟩
    have hz_w6 := hb_w6.size
    try simp at hz_w6
    obtain ⟨c6_3_0, f6_3_0⟩ := bk hb_w6 (w3.heap.size) (by first | omega | (simp <;> omega))
    have c6_3_0_0 := c6_3_0 0; conv at c6_3_0_0 => rhs; simp [go_sem, *]
    have f6_3_0_0 := f6_3_0 0; conv at f6_3_0_0 => rhs; simp [go_sem, *]
    have c6_3_0_1 := c6_3_0 1; conv at c6_3_0_1 => rhs; simp [go_sem, *]
    have f6_3_0_1 := f6_3_0 1; conv at f6_3_0_1 => rhs; simp [go_sem, *]
    have c6_3_0_2 := c6_3_0 2; conv at c6_3_0_2 => rhs; simp [go_sem, *]
    have f6_3_0_2 := f6_3_0 2; conv at f6_3_0_2 => rhs; simp [go_sem, *]
    have c6_3_0_3 := c6_3_0 3; conv at c6_3_0_3 => rhs; simp [go_sem, *]
    have f6_3_0_3 := f6_3_0 3; conv at f6_3_0_3 => rhs; simp [go_sem, *]
    have c6_3_0_4 := c6_3_0 4; conv at c6_3_0_4 => rhs; simp [go_sem, *]
    have f6_3_0_4 := f6_3_0 4; conv at f6_3_0_4 => rhs; simp [go_sem, *]
    have c6_3_0_5 := c6_3_0 5; conv at c6_3_0_5 => rhs; simp [go_sem, *]
    have f6_3_0_5 := f6_3_0 5; conv at f6_3_0_5 => rhs; simp [go_sem, *]
    obtain ⟨c6_4_0, f6_4_0⟩ := bk hb_w6 (w4.heap.size) (by first | omega | (simp <;> omega))
    have c6_4_0_0 := c6_4_0 0; conv at c6_4_0_0 => rhs; simp [go_sem, *]
    have f6_4_0_0 := f6_4_0 0; conv at f6_4_0_0 => rhs; simp [go_sem, *]
    have c6_4_0_1 := c6_4_0 1; conv at c6_4_0_1 => rhs; simp [go_sem, *]
    have f6_4_0_1 := f6_4_0 1; conv at f6_4_0_1 => rhs; simp [go_sem, *]
    have c6_4_0_2 := c6_4_0 2; conv at c6_4_0_2 => rhs; simp [go_sem, *]
    have f6_4_0_2 := f6_4_0 2; conv at f6_4_0_2 => rhs; simp [go_sem, *]
    have c6_4_0_3 := c6_4_0 3; conv at c6_4_0_3 => rhs; simp [go_sem, *]
    have f6_4_0_3 := f6_4_0 3; conv at f6_4_0_3 => rhs; simp [go_sem, *]
    have c6_4_0_4 := c6_4_0 4; conv at c6_4_0_4 => rhs; simp [go_sem, *]
    have f6_4_0_4 := f6_4_0 4; conv at f6_4_0_4 => rhs; simp [go_sem, *]
    have c6_4_0_5 := c6_4_0 5; conv at c6_4_0_5 => rhs; simp [go_sem, *]
    have f6_4_0_5 := f6_4_0 5; conv at f6_4_0_5 => rhs; simp [go_sem, *]
    have HH_w6 := Lib.hid hb_w6
    have hB_w6 : Below w.heap.size w w6 := Below.trans (by (repeat (first | with_reducible exact Below.refl _ _ | with_reducible assumption | with_reducible refine Below.drew ?_ | (with_reducible refine Below.setCell ?_ ?_ _; rotate_left; (first | omega | (simp <;> omega))) | (with_reducible refine Below.alloc ?_ ?_ _; rotate_left; (first | omega | (simp <;> omega))) | exact Below.refl _ _ | assumption))) (hb_w6.mono (by first | omega | (simp <;> omega)))
    clear hb_w6 c6_3_0 f6_3_0 c6_4_0 f6_4_0
    try clear c5_3_0_0 f5_3_0_0 c5_3_0_1 f5_3_0_1 c5_3_0_2 f5_3_0_2 c5_3_0_3 f5_3_0_3 c5_3_0_4 f5_3_0_4 c5_3_0_5 f5_3_0_5 c5_4_0_0 f5_4_0_0 c5_4_0_1 f5_4_0_1 c5_4_0_2 f5_4_0_2 c5_4_0_3 f5_4_0_3 c5_4_0_4 f5_4_0_4 c5_4_0_5 f5_4_0_5 far_w5_w3_0 far_w5_w4_0 hB_w5
    have far_w6_w3_0 := far (show w3.heap.size < w6.heap.size by omega)
    have far_w6_w4_0 := far (show w4.heap.size < w6.heap.size by omega)
    have HR6 := Lib.hid (HR5.out.below HH_w6.out)
    go_wp2_with fail
    refine Calls.mono (AL.out _ (by (repeat (first | with_reducible exact Below.refl _ _ | with_reducible assumption | with_reducible refine Below.drew ?_ | (with_reducible refine Below.setCell ?_ ?_ _; rotate_left; (first | omega | (simp <;> omega))) | (with_reducible refine Below.alloc ?_ ?_ _; rotate_left; (first | omega | (simp <;> omega))) | exact Below.refl _ _ | assumption)))) ?_
    rintro e w7 ⟨rfl, hb_w7⟩
    have hz_w7 := hb_w7.size
    try simp at hz_w7
    obtain ⟨c7_3_0, f7_3_0⟩ := bk hb_w7 (w3.heap.size) (by first | omega | (simp <;> omega))
    have c7_3_0_0 := c7_3_0 0; conv at c7_3_0_0 => rhs; simp [go_sem, *]
    have f7_3_0_0 := f7_3_0 0; conv at f7_3_0_0 => rhs; simp [go_sem, *]
    have c7_3_0_1 := c7_3_0 1; conv at c7_3_0_1 => rhs; simp [go_sem, *]
    have f7_3_0_1 := f7_3_0 1; conv at f7_3_0_1 => rhs; simp [go_sem, *]
    have c7_3_0_2 := c7_3_0 2; conv at c7_3_0_2 => rhs; simp [go_sem, *]
    have f7_3_0_2 := f7_3_0 2; conv at f7_3_0_2 => rhs; simp [go_sem, *]
    have c7_3_0_3 := c7_3_0 3; conv at c7_3_0_3 => rhs; simp [go_sem, *]
    have f7_3_0_3 := f7_3_0 3; conv at f7_3_0_3 => rhs; simp [go_sem, *]
    have c7_3_0_4 := c7_3_0 4; conv at c7_3_0_4 => rhs; simp [go_sem, *]
    have f7_3_0_4 := f7_3_0 4; conv at f7_3_0_4 => rhs; simp [go_sem, *]
    have c7_3_0_5 := c7_3_0 5; conv at c7_3_0_5 => rhs; simp [go_sem, *]
    have f7_3_0_5 := f7_3_0 5; conv at f7_3_0_5 => rhs; simp [go_sem, *]
    obtain ⟨c7_4_0, f7_4_0⟩ := bk hb_w7 (w4.heap.size) (by first | omega | (simp <;> omega))
    have c7_4_0_0 := c7_4_0 0; conv at c7_4_0_0 => rhs; simp [go_sem, *]
    have f7_4_0_0 := f7_4_0 0; conv at f7_4_0_0 => rhs; simp [go_sem, *]
    have c7_4_0_1 := c7_4_0 1; conv at c7_4_0_1 => rhs; simp [go_sem, *]
    have f7_4_0_1 := f7_4_0 1; conv at f7_4_0_1 => rhs; simp [go_sem, *]
    have c7_4_0_2 := c7_4_0 2; conv at c7_4_0_2 => rhs; simp [go_sem, *]
    have f7_4_0_2 := f7_4_0 2; conv at f7_4_0_2 => rhs; simp [go_sem, *]
    have c7_4_0_3 := c7_4_0 3; conv at c7_4_0_3 => rhs; simp [go_sem, *]
    have f7_4_0_3 := f7_4_0 3; conv at f7_4_0_3 => rhs; simp [go_sem, *]
    have c7_4_0_4 := c7_4_0 4; conv at c7_4_0_4 => rhs; simp [go_sem, *]
    have f7_4_0_4 := f7_4_0 4; conv at f7_4_0_4 => rhs; simp [go_sem, *]
    have c7_4_0_5 := c7_4_0 5; conv at c7_4_0_5 => rhs; simp [go_sem, *]
    have f7_4_0_5 := f7_4_0 5; conv at f7_4_0_5 => rhs; simp [go_sem, *]
    have HH_w7 := Lib.hid hb_w7
    have hB_w7 : Below w.heap.size w w7 := Below.trans (by (repeat (first | with_reducible exact Below.refl _ _ | with_reducible assumption | with_reducible refine Below.drew ?_ | (with_reducible refine Below.setCell ?_ ?_ _; rotate_left; (first | omega | (simp <;> omega))) | (with_reducible refine Below.alloc ?_ ?_ _; rotate_left; (first | omega | (simp <;> omega))) | exact Below.refl _ _ | assumption))) (hb_w7.mono (by first | omega | (simp <;> omega)))
    clear hb_w7 c7_3_0 f7_3_0 c7_4_0 f7_4_0
    try clear c6_3_0_0 f6_3_0_0 c6_3_0_1 f6_3_0_1 c6_3_0_2 f6_3_0_2 c6_3_0_3 f6_3_0_3 c6_3_0_4 f6_3_0_4 c6_3_0_5 f6_3_0_5 c6_4_0_0 f6_4_0_0 c6_4_0_1 f6_4_0_1 c6_4_0_2 f6_4_0_2 c6_4_0_3 f6_4_0_3 c6_4_0_4 f6_4_0_4 c6_4_0_5 f6_4_0_5 far_w6_w3_0 far_w6_w4_0 hB_w6
    have far_w7_w3_0 := far (show w3.heap.size < w7.heap.size by omega)
    have far_w7_w4_0 := far (show w4.heap.size < w7.heap.size by omega)
    have HR7 := Lib.hid (HR6.out.below HH_w7.out)
    go_wp2_with fail
    refine Calls.mono (RR.out _ _ (by (repeat (first | with_reducible exact Below.refl _ _ | with_reducible assumption | with_reducible refine Below.drew ?_ | (with_reducible refine Below.setCell ?_ ?_ _; rotate_left; (first | omega | (simp <;> omega))) | (with_reducible refine Below.alloc ?_ ?_ _; rotate_left; (first | omega | (simp <;> omega))) | exact Below.refl _ _ | assumption))) HR7.out) ?_
    rintro e w8 ⟨rfl, hb_w8⟩
    have hz_w8 := hb_w8.size
    try simp at hz_w8
    have HH_w8 := Lib.hid hb_w8
    have hB_w8 : Below w.heap.size w w8 := Below.trans (by (repeat (first | with_reducible exact Below.refl _ _ | with_reducible assumption | with_reducible refine Below.drew ?_ | (with_reducible refine Below.setCell ?_ ?_ _; rotate_left; (first | omega | (simp <;> omega))) | (with_reducible refine Below.alloc ?_ ?_ _; rotate_left; (first | omega | (simp <;> omega))) | exact Below.refl _ _ | assumption))) (hb_w8.mono (by first | omega | (simp <;> omega)))
    clear hb_w8
    try clear c7_3_0_0 f7_3_0_0 c7_3_0_1 f7_3_0_1 c7_3_0_2 f7_3_0_2 c7_3_0_3 f7_3_0_3 c7_3_0_4 f7_3_0_4 c7_3_0_5 f7_3_0_5 c7_4_0_0 f7_4_0_0 c7_4_0_1 f7_4_0_1 c7_4_0_2 f7_4_0_2 c7_4_0_3 f7_4_0_3 c7_4_0_4 f7_4_0_4 c7_4_0_5 f7_4_0_5 far_w7_w3_0 far_w7_w4_0 hB_w7
    have HR8 := Lib.hid (HR7.out.below HH_w8.out)
    go_wp2_with fail
    refine Calls.mono (DF.out _ _ HR8.out) ?_
    rintro e w9 ⟨rfl, hb_w9⟩
    have hz_w9 := hb_w9.size
    try simp at hz_w9
    have HH_w9 := Lib.hid hb_w9
    have hB_w9 : Below w.heap.size w w9 := Below.trans (by (repeat (first | with_reducible exact Below.refl _ _ | with_reducible assumption | with_reducible refine Below.drew ?_ | (with_reducible refine Below.setCell ?_ ?_ _; rotate_left; (first | omega | (simp <;> omega))) | (with_reducible refine Below.alloc ?_ ?_ _; rotate_left; (first | omega | (simp <;> omega))) | exact Below.refl _ _ | assumption))) (hb_w9.mono (by first | omega | (simp <;> omega)))
    clear hb_w9
    try clear hB_w8
    go_wp2
    go_ret
    exact ⟨ret_bool (by simp), by (repeat (first | with_reducible exact Below.refl _ _ | with_reducible assumption | with_reducible refine Below.drew ?_ | (with_reducible refine Below.setCell ?_ ?_ _; rotate_left; (first | omega | (simp <;> omega))) | (with_reducible refine Below.alloc ?_ ?_ _; rotate_left; (first | omega | (simp <;> omega))) | exact Below.refl _ _ | assumption))⟩
end Go.Proofs.YtgjemgilanhdiaaGreatDoor
