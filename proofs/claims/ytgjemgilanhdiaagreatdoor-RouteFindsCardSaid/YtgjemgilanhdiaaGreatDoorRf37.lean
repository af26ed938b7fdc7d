/- route.Ask at a path, a host named. Printed by tools/rtask.py. -/
import Derived.Test.YtgjemgilanhdiaaGreatDoorRf34
namespace Go.Proofs.YtgjemgilanhdiaaGreatDoor
open Go.RowKit Go.Sort Go.Shelf
set_option linter.unusedVariables false
set_option linter.unusedSimpArgs false

set_option maxHeartbeats 6400000 in
set_option maxRecDepth 100000 in
theorem routeAsk_g (v : Value) (L : List Wrd) (s : St) (fv : Value) (F : List Fld) (bo : List UInt8) (w : World) (hr : ReadsW w v L) (hl : ∀ f ∈ L, f.1.length ≤ 900 ∧ f.2.1.length ≤ 900 ∧ f.2.2.length ≤ 900) (hn : L.length ≤ 1000000)
    (hfr : ReadsF w fv F) (hfs : ∀ f ∈ F, f.1.length ≤ 140737488351232 ∧ f.2.length ≤ 140737488351232) (h1 : s.m.length ≤ 140737488351232) (h2 : s.t.length ≤ 140737488351232) (h3 : s.r.length ≤ 140737488351232) (hLd : Laid w)
    (hSR : ∀ W, Calls Tryz.prog 20 #[.agg #[.string (S s.m), .string (S s.t), .int .i64 s.c, .string (S s.r), .int .i64 s.n]] W fun e w' => e = .returned (.bool (startOk s)) ∧ Below W.heap.size W w') (hR1 : rightRt L = true) (hK1 : startOk s = true) (hc : s.c = 0) (hpf : Lib.hasPrefix s.t httpL = false) (hh0 : (getV F [72, 111, 115, 116]).1 ≠ []) :
    Calls Tryz.prog 7 #[v, .agg #[.string (S s.m), .string (S s.t), .int .i64 s.c, .string (S s.r), .int .i64 s.n, fv, .string (S bo)]] w fun e w' => e = .returned (askV (askR L s (getV F [72, 111, 115, 116]).1)) ∧ Below w.heap.size w w' := by
  have hgl := getV_len (F := F) (n := [72, 111, 115, 116]) (fun f hf => (hfs f hf).2)
  have RR := Lib.hid (fun W (hb : Below w.heap.size w W) => routesRight v L W (hr.below hb) hl hn (hLd.on hb))
  have SR := Lib.hid hSR
  clear hSR
  have TG := Lib.hid (fun W (hb : Below w.heap.size w W) => tableGet fv F [72, 111, 115, 116] (by decide) W (hfr.below hb) (fun f hf => by have := hfs f hf; unfold Small; omega))
  have UP := Lib.hid (fun (q : List UInt8) (hq : q.length ≤ 4611686018427387903) W (hb : Below w.heap.size w W) => uriParse q hq W (hLd.on hb))
  have FI := Lib.hid (fun (h p : List UInt8) W (hb : Below w.heap.size w W) => routeFind v L h p W (hr.below hb) hl hn (hLd.on hb))
  obtain ⟨ao, cap, rfl, _⟩ := hr
  obtain ⟨fo, fcap, rfl, _⟩ := hfr
  have HNO := Lib.hid (fun h => askR_no (L := L) (s := s) (h := (getV F [72, 111, 115, 116]).1) h)
  have HYES := Lib.hid (fun hy (q : List UInt8) hq (u : UU) (e : Int) hp (o : List UInt8) (g : Int) hf => askR_yes (L := L) (s := s) (h := (getV F [72, 111, 115, 116]).1) hy (q := q) hq (u := u) (e := e) hp (o := o) (g := g) hf)
  obtain ⟨⟨h, hb⟩, hgv⟩ : ∃ x, getV F [72, 111, 115, 116] = x := ⟨_, rfl⟩
  rw [hgv] at TG HNO HYES hgl hh0 ⊢
  simp only at TG HNO HYES hgl ⊢
  obtain ⟨R, hR⟩ : ∃ x, rightRt L = x := ⟨_, rfl⟩
  obtain ⟨K, hK⟩ : ∃ x, startOk s = x := ⟨_, rfl⟩
  obtain ⟨A, hA⟩ : ∃ x, askR L s h = x := ⟨_, rfl⟩
  rw [hR] at RR
  rw [hK] at SR
  rw [hR] at hR1
  rw [hK] at hK1
  rw [hR, hK, hA] at HNO HYES
  rw [hA]
  obtain ⟨m, t, c, r, n⟩ := s
  simp only at *
  clear hgv hR hK hA hl hfs hLd h3 h1
  have h2i : (t.length : Int) ≤ 140737488351232 := by omega
  have hgi : (h.length : Int) ≤ 140737488351232 := by omega
  subst hR1 hK1 hc
  clear HNO
  have hhb : (h == []) = false := by simpa using hh0
  have HP := Lib.hid (fun W => hasPrefix_S hpf W)
  unfold httpL at HP
  go_enter Tryz.func7, Tryz.ntmps7
  go_wp2_with fail
  refine Calls.mono (RR.out _ (by (repeat (first | with_reducible exact Below.refl _ _ | with_reducible assumption | with_reducible refine Below.drew ?_ | (with_reducible refine Below.setCell ?_ ?_ _; rotate_left; (first | omega | (simp <;> omega))) | (with_reducible refine Below.alloc ?_ ?_ _; rotate_left; (first | omega | (simp <;> omega))) | exact Below.refl _ _ | assumption)))) ?_
  rintro e w1 ⟨rfl, hb_w1⟩
  have hz_w1 := hb_w1.size
  try simp at hz_w1
  obtain ⟨c1__0, f1__0⟩ := bk hb_w1 (w.heap.size) (by first | omega | (simp <;> omega))
  have c1__0_0 := c1__0 0; conv at c1__0_0 => rhs; simp [go_sem, *]
  have f1__0_0 := f1__0 0; conv at f1__0_0 => rhs; simp [go_sem, *]
  have c1__0_1 := c1__0 1; conv at c1__0_1 => rhs; simp [go_sem, *]
  have f1__0_1 := f1__0 1; conv at f1__0_1 => rhs; simp [go_sem, *]
  have c1__0_2 := c1__0 2; conv at c1__0_2 => rhs; simp [go_sem, *]
  have f1__0_2 := f1__0 2; conv at f1__0_2 => rhs; simp [go_sem, *]
  have c1__0_3 := c1__0 3; conv at c1__0_3 => rhs; simp [go_sem, *]
  have f1__0_3 := f1__0 3; conv at f1__0_3 => rhs; simp [go_sem, *]
  have c1__0_4 := c1__0 4; conv at c1__0_4 => rhs; simp [go_sem, *]
  have f1__0_4 := f1__0 4; conv at f1__0_4 => rhs; simp [go_sem, *]
  have c1__0_5 := c1__0 5; conv at c1__0_5 => rhs; simp [go_sem, *]
  have f1__0_5 := f1__0 5; conv at f1__0_5 => rhs; simp [go_sem, *]
  have c1__0_6 := c1__0 6; conv at c1__0_6 => rhs; simp [go_sem, *]
  have f1__0_6 := f1__0 6; conv at f1__0_6 => rhs; simp [go_sem, *]
  obtain ⟨c1__1, f1__1⟩ := bk hb_w1 (w.heap.size + 1) (by first | omega | (simp <;> omega))
  have c1__1_0 := c1__1 0; conv at c1__1_0 => rhs; simp [go_sem, *]
  have f1__1_0 := f1__1 0; conv at f1__1_0 => rhs; simp [go_sem, *]
  have c1__1_1 := c1__1 1; conv at c1__1_1 => rhs; simp [go_sem, *]
  have f1__1_1 := f1__1 1; conv at f1__1_1 => rhs; simp [go_sem, *]
  have c1__1_2 := c1__1 2; conv at c1__1_2 => rhs; simp [go_sem, *]
  have f1__1_2 := f1__1 2; conv at f1__1_2 => rhs; simp [go_sem, *]
  have c1__1_3 := c1__1 3; conv at c1__1_3 => rhs; simp [go_sem, *]
  have f1__1_3 := f1__1 3; conv at f1__1_3 => rhs; simp [go_sem, *]
  have c1__1_4 := c1__1 4; conv at c1__1_4 => rhs; simp [go_sem, *]
  have f1__1_4 := f1__1 4; conv at f1__1_4 => rhs; simp [go_sem, *]
  have c1__1_5 := c1__1 5; conv at c1__1_5 => rhs; simp [go_sem, *]
  have f1__1_5 := f1__1 5; conv at f1__1_5 => rhs; simp [go_sem, *]
  have HH_w1 := Lib.hid hb_w1
  have hB_w1 : Below w.heap.size w w1 := Below.trans (by (repeat (first | with_reducible exact Below.refl _ _ | with_reducible assumption | with_reducible refine Below.drew ?_ | (with_reducible refine Below.setCell ?_ ?_ _; rotate_left; (first | omega | (simp <;> omega))) | (with_reducible refine Below.alloc ?_ ?_ _; rotate_left; (first | omega | (simp <;> omega))) | exact Below.refl _ _ | assumption))) (hb_w1.mono (by first | omega | (simp <;> omega)))
  clear hb_w1 c1__0 f1__0 c1__1 f1__1
  have far_w1_w_0 := far (show w.heap.size < w1.heap.size by omega)
  have far_w1_w_1 := far (show w.heap.size + 1 < w1.heap.size by omega)
  go_wp2_with fail
  refine Calls.mono (SR.out _) ?_
  rintro e w2 ⟨rfl, hb_w2⟩
  have hz_w2 := hb_w2.size
  try simp at hz_w2
  obtain ⟨c2__0, f2__0⟩ := bk hb_w2 (w.heap.size) (by first | omega | (simp <;> omega))
  have c2__0_0 := c2__0 0; conv at c2__0_0 => rhs; simp [go_sem, *]
  have f2__0_0 := f2__0 0; conv at f2__0_0 => rhs; simp [go_sem, *]
  have c2__0_1 := c2__0 1; conv at c2__0_1 => rhs; simp [go_sem, *]
  have f2__0_1 := f2__0 1; conv at f2__0_1 => rhs; simp [go_sem, *]
  have c2__0_2 := c2__0 2; conv at c2__0_2 => rhs; simp [go_sem, *]
  have f2__0_2 := f2__0 2; conv at f2__0_2 => rhs; simp [go_sem, *]
  have c2__0_3 := c2__0 3; conv at c2__0_3 => rhs; simp [go_sem, *]
  have f2__0_3 := f2__0 3; conv at f2__0_3 => rhs; simp [go_sem, *]
  have c2__0_4 := c2__0 4; conv at c2__0_4 => rhs; simp [go_sem, *]
  have f2__0_4 := f2__0 4; conv at f2__0_4 => rhs; simp [go_sem, *]
  have c2__0_5 := c2__0 5; conv at c2__0_5 => rhs; simp [go_sem, *]
  have f2__0_5 := f2__0 5; conv at f2__0_5 => rhs; simp [go_sem, *]
  have c2__0_6 := c2__0 6; conv at c2__0_6 => rhs; simp [go_sem, *]
  have f2__0_6 := f2__0 6; conv at f2__0_6 => rhs; simp [go_sem, *]
  obtain ⟨c2__1, f2__1⟩ := bk hb_w2 (w.heap.size + 1) (by first | omega | (simp <;> omega))
  have c2__1_0 := c2__1 0; conv at c2__1_0 => rhs; simp [go_sem, *]
  have f2__1_0 := f2__1 0; conv at f2__1_0 => rhs; simp [go_sem, *]
  have c2__1_1 := c2__1 1; conv at c2__1_1 => rhs; simp [go_sem, *]
  have f2__1_1 := f2__1 1; conv at f2__1_1 => rhs; simp [go_sem, *]
  have c2__1_2 := c2__1 2; conv at c2__1_2 => rhs; simp [go_sem, *]
  have f2__1_2 := f2__1 2; conv at f2__1_2 => rhs; simp [go_sem, *]
  have c2__1_3 := c2__1 3; conv at c2__1_3 => rhs; simp [go_sem, *]
  have f2__1_3 := f2__1 3; conv at f2__1_3 => rhs; simp [go_sem, *]
  have c2__1_4 := c2__1 4; conv at c2__1_4 => rhs; simp [go_sem, *]
  have f2__1_4 := f2__1 4; conv at f2__1_4 => rhs; simp [go_sem, *]
  have c2__1_5 := c2__1 5; conv at c2__1_5 => rhs; simp [go_sem, *]
  have f2__1_5 := f2__1 5; conv at f2__1_5 => rhs; simp [go_sem, *]
  have HH_w2 := Lib.hid hb_w2
  have hB_w2 : Below w.heap.size w w2 := Below.trans (by (repeat (first | with_reducible exact Below.refl _ _ | with_reducible assumption | with_reducible refine Below.drew ?_ | (with_reducible refine Below.setCell ?_ ?_ _; rotate_left; (first | omega | (simp <;> omega))) | (with_reducible refine Below.alloc ?_ ?_ _; rotate_left; (first | omega | (simp <;> omega))) | exact Below.refl _ _ | assumption))) (hb_w2.mono (by first | omega | (simp <;> omega)))
  clear hb_w2 c2__0 f2__0 c2__1 f2__1
  try clear c1__0_0 f1__0_0 c1__0_1 f1__0_1 c1__0_2 f1__0_2 c1__0_3 f1__0_3 c1__0_4 f1__0_4 c1__0_5 f1__0_5 c1__0_6 f1__0_6 c1__1_0 f1__1_0 c1__1_1 f1__1_1 c1__1_2 f1__1_2 c1__1_3 f1__1_3 c1__1_4 f1__1_4 c1__1_5 f1__1_5 far_w1_w_0 far_w1_w_1 hB_w1
  have far_w2_w_0 := far (show w.heap.size < w2.heap.size by omega)
  have far_w2_w_1 := far (show w.heap.size + 1 < w2.heap.size by omega)
  go_wp2_with fail
  refine Calls.mono (same_below (HP.out _)) ?_
  rintro e w3 ⟨rfl, hb_w3⟩
  have hz_w3 := hb_w3.size
  try simp at hz_w3
  obtain ⟨c3__0, f3__0⟩ := bk hb_w3 (w.heap.size) (by first | omega | (simp <;> omega))
  have c3__0_0 := c3__0 0; conv at c3__0_0 => rhs; simp [go_sem, *]
  have f3__0_0 := f3__0 0; conv at f3__0_0 => rhs; simp [go_sem, *]
  have c3__0_1 := c3__0 1; conv at c3__0_1 => rhs; simp [go_sem, *]
  have f3__0_1 := f3__0 1; conv at f3__0_1 => rhs; simp [go_sem, *]
  have c3__0_2 := c3__0 2; conv at c3__0_2 => rhs; simp [go_sem, *]
  have f3__0_2 := f3__0 2; conv at f3__0_2 => rhs; simp [go_sem, *]
  have c3__0_3 := c3__0 3; conv at c3__0_3 => rhs; simp [go_sem, *]
  have f3__0_3 := f3__0 3; conv at f3__0_3 => rhs; simp [go_sem, *]
  have c3__0_4 := c3__0 4; conv at c3__0_4 => rhs; simp [go_sem, *]
  have f3__0_4 := f3__0 4; conv at f3__0_4 => rhs; simp [go_sem, *]
  have c3__0_5 := c3__0 5; conv at c3__0_5 => rhs; simp [go_sem, *]
  have f3__0_5 := f3__0 5; conv at f3__0_5 => rhs; simp [go_sem, *]
  have c3__0_6 := c3__0 6; conv at c3__0_6 => rhs; simp [go_sem, *]
  have f3__0_6 := f3__0 6; conv at f3__0_6 => rhs; simp [go_sem, *]
  obtain ⟨c3__1, f3__1⟩ := bk hb_w3 (w.heap.size + 1) (by first | omega | (simp <;> omega))
  have c3__1_0 := c3__1 0; conv at c3__1_0 => rhs; simp [go_sem, *]
  have f3__1_0 := f3__1 0; conv at f3__1_0 => rhs; simp [go_sem, *]
  have c3__1_1 := c3__1 1; conv at c3__1_1 => rhs; simp [go_sem, *]
  have f3__1_1 := f3__1 1; conv at f3__1_1 => rhs; simp [go_sem, *]
  have c3__1_2 := c3__1 2; conv at c3__1_2 => rhs; simp [go_sem, *]
  have f3__1_2 := f3__1 2; conv at f3__1_2 => rhs; simp [go_sem, *]
  have c3__1_3 := c3__1 3; conv at c3__1_3 => rhs; simp [go_sem, *]
  have f3__1_3 := f3__1 3; conv at f3__1_3 => rhs; simp [go_sem, *]
  have c3__1_4 := c3__1 4; conv at c3__1_4 => rhs; simp [go_sem, *]
  have f3__1_4 := f3__1 4; conv at f3__1_4 => rhs; simp [go_sem, *]
  have c3__1_5 := c3__1 5; conv at c3__1_5 => rhs; simp [go_sem, *]
  have f3__1_5 := f3__1 5; conv at f3__1_5 => rhs; simp [go_sem, *]
  have HH_w3 := Lib.hid hb_w3
  have hB_w3 : Below w.heap.size w w3 := Below.trans (by (repeat (first | with_reducible exact Below.refl _ _ | with_reducible assumption | with_reducible refine Below.drew ?_ | (with_reducible refine Below.setCell ?_ ?_ _; rotate_left; (first | omega | (simp <;> omega))) | (with_reducible refine Below.alloc ?_ ?_ _; rotate_left; (first | omega | (simp <;> omega))) | exact Below.refl _ _ | assumption))) (hb_w3.mono (by first | omega | (simp <;> omega)))
  clear hb_w3 c3__0 f3__0 c3__1 f3__1
  try clear c2__0_0 f2__0_0 c2__0_1 f2__0_1 c2__0_2 f2__0_2 c2__0_3 f2__0_3 c2__0_4 f2__0_4 c2__0_5 f2__0_5 c2__0_6 f2__0_6 c2__1_0 f2__1_0 c2__1_1 f2__1_1 c2__1_2 f2__1_2 c2__1_3 f2__1_3 c2__1_4 f2__1_4 c2__1_5 f2__1_5 far_w2_w_0 far_w2_w_1 hB_w2
  have far_w3_w_0 := far (show w.heap.size < w3.heap.size by omega)
  have far_w3_w_1 := far (show w.heap.size + 1 < w3.heap.size by omega)
  go_wp2_with fail
  refine Calls.mono (TG.out _ (by (repeat (first | with_reducible exact Below.refl _ _ | with_reducible assumption | with_reducible refine Below.drew ?_ | (with_reducible refine Below.setCell ?_ ?_ _; rotate_left; (first | omega | (simp <;> omega))) | (with_reducible refine Below.alloc ?_ ?_ _; rotate_left; (first | omega | (simp <;> omega))) | exact Below.refl _ _ | assumption)))) ?_
  rintro e w4 ⟨rfl, hb_w4⟩
  have hz_w4 := hb_w4.size
  try simp at hz_w4
  obtain ⟨c4__0, f4__0⟩ := bk hb_w4 (w.heap.size) (by first | omega | (simp <;> omega))
  have c4__0_0 := c4__0 0; conv at c4__0_0 => rhs; simp [go_sem, *]
  have f4__0_0 := f4__0 0; conv at f4__0_0 => rhs; simp [go_sem, *]
  have c4__0_1 := c4__0 1; conv at c4__0_1 => rhs; simp [go_sem, *]
  have f4__0_1 := f4__0 1; conv at f4__0_1 => rhs; simp [go_sem, *]
  have c4__0_2 := c4__0 2; conv at c4__0_2 => rhs; simp [go_sem, *]
  have f4__0_2 := f4__0 2; conv at f4__0_2 => rhs; simp [go_sem, *]
  have c4__0_3 := c4__0 3; conv at c4__0_3 => rhs; simp [go_sem, *]
  have f4__0_3 := f4__0 3; conv at f4__0_3 => rhs; simp [go_sem, *]
  have c4__0_4 := c4__0 4; conv at c4__0_4 => rhs; simp [go_sem, *]
  have f4__0_4 := f4__0 4; conv at f4__0_4 => rhs; simp [go_sem, *]
  have c4__0_5 := c4__0 5; conv at c4__0_5 => rhs; simp [go_sem, *]
  have f4__0_5 := f4__0 5; conv at f4__0_5 => rhs; simp [go_sem, *]
  have c4__0_6 := c4__0 6; conv at c4__0_6 => rhs; simp [go_sem, *]
  have f4__0_6 := f4__0 6; conv at f4__0_6 => rhs; simp [go_sem, *]
  obtain ⟨c4__1, f4__1⟩ := bk hb_w4 (w.heap.size + 1) (by first | omega | (simp <;> omega))
  have c4__1_0 := c4__1 0; conv at c4__1_0 => rhs; simp [go_sem, *]
  have f4__1_0 := f4__1 0; conv at f4__1_0 => rhs; simp [go_sem, *]
  have c4__1_1 := c4__1 1; conv at c4__1_1 => rhs; simp [go_sem, *]
  have f4__1_1 := f4__1 1; conv at f4__1_1 => rhs; simp [go_sem, *]
  have c4__1_2 := c4__1 2; conv at c4__1_2 => rhs; simp [go_sem, *]
  have f4__1_2 := f4__1 2; conv at f4__1_2 => rhs; simp [go_sem, *]
  have c4__1_3 := c4__1 3; conv at c4__1_3 => rhs; simp [go_sem, *]
  have f4__1_3 := f4__1 3; conv at f4__1_3 => rhs; simp [go_sem, *]
  have c4__1_4 := c4__1 4; conv at c4__1_4 => rhs; simp [go_sem, *]
  have f4__1_4 := f4__1 4; conv at f4__1_4 => rhs; simp [go_sem, *]
  have c4__1_5 := c4__1 5; conv at c4__1_5 => rhs; simp [go_sem, *]
  have f4__1_5 := f4__1 5; conv at f4__1_5 => rhs; simp [go_sem, *]
  have HH_w4 := Lib.hid hb_w4
  have hB_w4 : Below w.heap.size w w4 := Below.trans (by (repeat (first | with_reducible exact Below.refl _ _ | with_reducible assumption | with_reducible refine Below.drew ?_ | (with_reducible refine Below.setCell ?_ ?_ _; rotate_left; (first | omega | (simp <;> omega))) | (with_reducible refine Below.alloc ?_ ?_ _; rotate_left; (first | omega | (simp <;> omega))) | exact Below.refl _ _ | assumption))) (hb_w4.mono (by first | omega | (simp <;> omega)))
  clear hb_w4 c4__0 f4__0 c4__1 f4__1
  try clear c3__0_0 f3__0_0 c3__0_1 f3__0_1 c3__0_2 f3__0_2 c3__0_3 f3__0_3 c3__0_4 f3__0_4 c3__0_5 f3__0_5 c3__0_6 f3__0_6 c3__1_0 f3__1_0 c3__1_1 f3__1_1 c3__1_2 f3__1_2 c3__1_3 f3__1_3 c3__1_4 f3__1_4 c3__1_5 f3__1_5 far_w3_w_0 far_w3_w_1 hB_w3
  have far_w4_w_0 := far (show w.heap.size < w4.heap.size by omega)
  have far_w4_w_1 := far (show w.heap.size + 1 < w4.heap.size by omega)
  have HY := Lib.hid (fun (u : UU) (e : Int) hp (o : List UInt8) (g : Int) hf => HYES.out (by first | exact ⟨rfl, rfl, rfl⟩ | (refine ⟨?_, ?_, ?_⟩ <;> first | rfl | trivial)) (httpL ++ (h ++ t)) (by unfold askT; rw [hpf, if_neg (by simp), if_neg hh0]) u e hp o g hf)
  have UQ := Lib.hid (fun W hb => UP.out (httpL ++ (h ++ t)) (by have : httpL.length = 7 := rfl; simp only [List.length_append]; omega) W hb)
  obtain ⟨⟨u, e⟩, hpe⟩ : ∃ x, parseL (httpL ++ (h ++ t)) = x := ⟨_, rfl⟩
  rw [hpe] at UQ HY
  simp only at UQ HY
  have FQ := Lib.hid (fun W hb => FI.out u.h u.p W hb)
  obtain ⟨⟨o, g⟩, hfo⟩ : ∃ x, findR L u.h u.p = x := ⟨_, rfl⟩
  rw [hfo] at FQ
  simp only at FQ
  have HA := Lib.hid (HY.out u e rfl o g hfo)
  obtain ⟨a, hh, nn, pp, qq, yy⟩ := u
  unfold UU.v uv at UQ
  simp only at UQ FQ
  try unfold httpL at UQ
  try unfold localL at UQ
  try simp only [List.cons_append, List.nil_append] at UQ
  clear UP FI HYES HY hpe hfo
  go_wp2_with fail
  refine Calls.mono (UQ.out _ (by (repeat (first | with_reducible exact Below.refl _ _ | with_reducible assumption | with_reducible refine Below.drew ?_ | (with_reducible refine Below.setCell ?_ ?_ _; rotate_left; (first | omega | (simp <;> omega))) | (with_reducible refine Below.alloc ?_ ?_ _; rotate_left; (first | omega | (simp <;> omega))) | exact Below.refl _ _ | assumption)))) ?_
  rintro e w5 ⟨rfl, hb_w5⟩
  have hz_w5 := hb_w5.size
  try simp at hz_w5
  obtain ⟨c5__0, f5__0⟩ := bk hb_w5 (w.heap.size) (by first | omega | (simp <;> omega))
  have c5__0_0 := c5__0 0; conv at c5__0_0 => rhs; simp [go_sem, *]
  have f5__0_0 := f5__0 0; conv at f5__0_0 => rhs; simp [go_sem, *]
  have c5__0_1 := c5__0 1; conv at c5__0_1 => rhs; simp [go_sem, *]
  have f5__0_1 := f5__0 1; conv at f5__0_1 => rhs; simp [go_sem, *]
  have c5__0_2 := c5__0 2; conv at c5__0_2 => rhs; simp [go_sem, *]
  have f5__0_2 := f5__0 2; conv at f5__0_2 => rhs; simp [go_sem, *]
  have c5__0_3 := c5__0 3; conv at c5__0_3 => rhs; simp [go_sem, *]
  have f5__0_3 := f5__0 3; conv at f5__0_3 => rhs; simp [go_sem, *]
  have c5__0_4 := c5__0 4; conv at c5__0_4 => rhs; simp [go_sem, *]
  have f5__0_4 := f5__0 4; conv at f5__0_4 => rhs; simp [go_sem, *]
  have c5__0_5 := c5__0 5; conv at c5__0_5 => rhs; simp [go_sem, *]
  have f5__0_5 := f5__0 5; conv at f5__0_5 => rhs; simp [go_sem, *]
  have c5__0_6 := c5__0 6; conv at c5__0_6 => rhs; simp [go_sem, *]
  have f5__0_6 := f5__0 6; conv at f5__0_6 => rhs; simp [go_sem, *]
  obtain ⟨c5__1, f5__1⟩ := bk hb_w5 (w.heap.size + 1) (by first | omega | (simp <;> omega))
  have c5__1_0 := c5__1 0; conv at c5__1_0 => rhs; simp [go_sem, *]
  have f5__1_0 := f5__1 0; conv at f5__1_0 => rhs; simp [go_sem, *]
  have c5__1_1 := c5__1 1; conv at c5__1_1 => rhs; simp [go_sem, *]
  have f5__1_1 := f5__1 1; conv at f5__1_1 => rhs; simp [go_sem, *]
  have c5__1_2 := c5__1 2; conv at c5__1_2 => rhs; simp [go_sem, *]
  have f5__1_2 := f5__1 2; conv at f5__1_2 => rhs; simp [go_sem, *]
  have c5__1_3 := c5__1 3; conv at c5__1_3 => rhs; simp [go_sem, *]
  have f5__1_3 := f5__1 3; conv at f5__1_3 => rhs; simp [go_sem, *]
  have c5__1_4 := c5__1 4; conv at c5__1_4 => rhs; simp [go_sem, *]
  have f5__1_4 := f5__1 4; conv at f5__1_4 => rhs; simp [go_sem, *]
  have c5__1_5 := c5__1 5; conv at c5__1_5 => rhs; simp [go_sem, *]
  have f5__1_5 := f5__1 5; conv at f5__1_5 => rhs; simp [go_sem, *]
  have HH_w5 := Lib.hid hb_w5
  have hB_w5 : Below w.heap.size w w5 := Below.trans (by (repeat (first | with_reducible exact Below.refl _ _ | with_reducible assumption | with_reducible refine Below.drew ?_ | (with_reducible refine Below.setCell ?_ ?_ _; rotate_left; (first | omega | (simp <;> omega))) | (with_reducible refine Below.alloc ?_ ?_ _; rotate_left; (first | omega | (simp <;> omega))) | exact Below.refl _ _ | assumption))) (hb_w5.mono (by first | omega | (simp <;> omega)))
  clear hb_w5 c5__0 f5__0 c5__1 f5__1
  try clear c4__0_0 f4__0_0 c4__0_1 f4__0_1 c4__0_2 f4__0_2 c4__0_3 f4__0_3 c4__0_4 f4__0_4 c4__0_5 f4__0_5 c4__0_6 f4__0_6 c4__1_0 f4__1_0 c4__1_1 f4__1_1 c4__1_2 f4__1_2 c4__1_3 f4__1_3 c4__1_4 f4__1_4 c4__1_5 f4__1_5 far_w4_w_0 far_w4_w_1 hB_w4
  have far_w5_w_0 := far (show w.heap.size < w5.heap.size by omega)
  have far_w5_w_1 := far (show w.heap.size + 1 < w5.heap.size by omega)
  by_cases he : e = 0
  rotate_left
  · have he1 : (e == 0) = false := by simpa using he
    have he2 : (e != 0) = true := by unfold bne; rw [he1]; rfl
    have HA2 := HA.out
    rw [if_pos he] at HA2
    subst HA2
    go_wp2
    refine bodyPost_ret (v := .tuple #[uv false [] 0 [] false [], .string (S []), .int .i64 20]) (by simp [results, Tryz.results7, go_sem, *]) rfl ⟨rfl, ?_⟩
    (repeat (first | with_reducible exact Below.refl _ _ | with_reducible assumption | with_reducible refine Below.drew ?_ | (with_reducible refine Below.setCell ?_ ?_ _; rotate_left; (first | omega | (simp <;> omega))) | (with_reducible refine Below.alloc ?_ ?_ _; rotate_left; (first | omega | (simp <;> omega))) | exact Below.refl _ _ | assumption))
  · subst he
    go_wp2_with fail
    refine Calls.mono (FQ.out _ (by (repeat (first | with_reducible exact Below.refl _ _ | with_reducible assumption | with_reducible refine Below.drew ?_ | (with_reducible refine Below.setCell ?_ ?_ _; rotate_left; (first | omega | (simp <;> omega))) | (with_reducible refine Below.alloc ?_ ?_ _; rotate_left; (first | omega | (simp <;> omega))) | exact Below.refl _ _ | assumption)))) ?_
    rintro e w6 ⟨rfl, hb_w6⟩
    have hz_w6 := hb_w6.size
    try simp at hz_w6
    obtain ⟨c6__0, f6__0⟩ := bk hb_w6 (w.heap.size) (by first | omega | (simp <;> omega))
    have c6__0_0 := c6__0 0; conv at c6__0_0 => rhs; simp [go_sem, *]
    have f6__0_0 := f6__0 0; conv at f6__0_0 => rhs; simp [go_sem, *]
    have c6__0_1 := c6__0 1; conv at c6__0_1 => rhs; simp [go_sem, *]
    have f6__0_1 := f6__0 1; conv at f6__0_1 => rhs; simp [go_sem, *]
    have c6__0_2 := c6__0 2; conv at c6__0_2 => rhs; simp [go_sem, *]
    have f6__0_2 := f6__0 2; conv at f6__0_2 => rhs; simp [go_sem, *]
    have c6__0_3 := c6__0 3; conv at c6__0_3 => rhs; simp [go_sem, *]
    have f6__0_3 := f6__0 3; conv at f6__0_3 => rhs; simp [go_sem, *]
    have c6__0_4 := c6__0 4; conv at c6__0_4 => rhs; simp [go_sem, *]
    have f6__0_4 := f6__0 4; conv at f6__0_4 => rhs; simp [go_sem, *]
    have c6__0_5 := c6__0 5; conv at c6__0_5 => rhs; simp [go_sem, *]
    have f6__0_5 := f6__0 5; conv at f6__0_5 => rhs; simp [go_sem, *]
    have c6__0_6 := c6__0 6; conv at c6__0_6 => rhs; simp [go_sem, *]
    have f6__0_6 := f6__0 6; conv at f6__0_6 => rhs; simp [go_sem, *]
    obtain ⟨c6__1, f6__1⟩ := bk hb_w6 (w.heap.size + 1) (by first | omega | (simp <;> omega))
    have c6__1_0 := c6__1 0; conv at c6__1_0 => rhs; simp [go_sem, *]
    have f6__1_0 := f6__1 0; conv at f6__1_0 => rhs; simp [go_sem, *]
    have c6__1_1 := c6__1 1; conv at c6__1_1 => rhs; simp [go_sem, *]
    have f6__1_1 := f6__1 1; conv at f6__1_1 => rhs; simp [go_sem, *]
    have c6__1_2 := c6__1 2; conv at c6__1_2 => rhs; simp [go_sem, *]
    have f6__1_2 := f6__1 2; conv at f6__1_2 => rhs; simp [go_sem, *]
    have c6__1_3 := c6__1 3; conv at c6__1_3 => rhs; simp [go_sem, *]
    have f6__1_3 := f6__1 3; conv at f6__1_3 => rhs; simp [go_sem, *]
    have c6__1_4 := c6__1 4; conv at c6__1_4 => rhs; simp [go_sem, *]
    have f6__1_4 := f6__1 4; conv at f6__1_4 => rhs; simp [go_sem, *]
    have c6__1_5 := c6__1 5; conv at c6__1_5 => rhs; simp [go_sem, *]
    have f6__1_5 := f6__1 5; conv at f6__1_5 => rhs; simp [go_sem, *]
    obtain ⟨c6_5_0, f6_5_0⟩ := bk hb_w6 (w5.heap.size) (by first | omega | (simp <;> omega))
    have c6_5_0_0 := c6_5_0 0; conv at c6_5_0_0 => rhs; simp [go_sem, *]
    have f6_5_0_0 := f6_5_0 0; conv at f6_5_0_0 => rhs; simp [go_sem, *]
    have c6_5_0_1 := c6_5_0 1; conv at c6_5_0_1 => rhs; simp [go_sem, *]
    have f6_5_0_1 := f6_5_0 1; conv at f6_5_0_1 => rhs; simp [go_sem, *]
    have c6_5_0_2 := c6_5_0 2; conv at c6_5_0_2 => rhs; simp [go_sem, *]
    have f6_5_0_2 := f6_5_0 2; conv at f6_5_0_2 => rhs; simp [go_sem, *]
    have c6_5_0_3 := c6_5_0 3; conv at c6_5_0_3 => rhs; simp [go_sem, *]
    have f6_5_0_3 := f6_5_0 3; conv at f6_5_0_3 => rhs; simp [go_sem, *]
    have c6_5_0_4 := c6_5_0 4; conv at c6_5_0_4 => rhs; simp [go_sem, *]
    have f6_5_0_4 := f6_5_0 4; conv at f6_5_0_4 => rhs; simp [go_sem, *]
    have c6_5_0_5 := c6_5_0 5; conv at c6_5_0_5 => rhs; simp [go_sem, *]
    have f6_5_0_5 := f6_5_0 5; conv at f6_5_0_5 => rhs; simp [go_sem, *]
    have HH_w6 := Lib.hid hb_w6
    have hB_w6 : Below w.heap.size w w6 := Below.trans (by (repeat (first | with_reducible exact Below.refl _ _ | with_reducible assumption | with_reducible refine Below.drew ?_ | (with_reducible refine Below.setCell ?_ ?_ _; rotate_left; (first | omega | (simp <;> omega))) | (with_reducible refine Below.alloc ?_ ?_ _; rotate_left; (first | omega | (simp <;> omega))) | exact Below.refl _ _ | assumption))) (hb_w6.mono (by first | omega | (simp <;> omega)))
    clear hb_w6 c6__0 f6__0 c6__1 f6__1 c6_5_0 f6_5_0
    try clear c5__0_0 f5__0_0 c5__0_1 f5__0_1 c5__0_2 f5__0_2 c5__0_3 f5__0_3 c5__0_4 f5__0_4 c5__0_5 f5__0_5 c5__0_6 f5__0_6 c5__1_0 f5__1_0 c5__1_1 f5__1_1 c5__1_2 f5__1_2 c5__1_3 f5__1_3 c5__1_4 f5__1_4 c5__1_5 f5__1_5 far_w5_w_0 far_w5_w_1 hB_w5
    have far_w6_w_0 := far (show w.heap.size < w6.heap.size by omega)
    have far_w6_w_1 := far (show w.heap.size + 1 < w6.heap.size by omega)
    have far_w6_w5_0 := far (show w5.heap.size < w6.heap.size by omega)
    have HA2 := HA.out
    rw [if_neg (by simp)] at HA2
    by_cases hg : g = 0
    rotate_left
    · have hg1 : (g == 0) = false := by simpa using hg
      have hg2 : (g != 0) = true := by unfold bne; rw [hg1]; rfl
      rw [if_pos hg] at HA2
      subst HA2
      go_wp2
      refine bodyPost_ret (v := .tuple #[uv false [] 0 [] false [], .string (S []), .int .i64 g]) (by simp [results, Tryz.results7, go_sem, *]) rfl ⟨rfl, ?_⟩
      (repeat (first | with_reducible exact Below.refl _ _ | with_reducible assumption | with_reducible refine Below.drew ?_ | (with_reducible refine Below.setCell ?_ ?_ _; rotate_left; (first | omega | (simp <;> omega))) | (with_reducible refine Below.alloc ?_ ?_ _; rotate_left; (first | omega | (simp <;> omega))) | exact Below.refl _ _ | assumption))
    · subst hg
      rw [if_neg (by simp)] at HA2
      subst HA2
      go_wp2
      refine bodyPost_ret (v := .tuple #[uv a hh nn pp qq yy, .string (S o), .int .i64 0]) (by simp [results, Tryz.results7, go_sem, *]) rfl ⟨rfl, ?_⟩
      (repeat (first | with_reducible exact Below.refl _ _ | with_reducible assumption | with_reducible refine Below.drew ?_ | (with_reducible refine Below.setCell ?_ ?_ _; rotate_left; (first | omega | (simp <;> omega))) | (with_reducible refine Below.alloc ?_ ?_ _; rotate_left; (first | omega | (simp <;> omega))) | exact Below.refl _ _ | assumption))
end Go.Proofs.YtgjemgilanhdiaaGreatDoor
