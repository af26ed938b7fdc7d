/- The document's Ask refuses what may not be asked. Printed by tools/rtaskref.py. -/
import Derived.Test.YtgjemgilanhdiaaGreatDoorRf41
namespace Go.Proofs.YtgjemgilanhdiaaGreatDoor
open Go.RowKit Go.Sort Go.Shelf
set_option linter.unusedVariables false
set_option linter.unusedSimpArgs false

set_option maxHeartbeats 6400000 in
set_option maxRecDepth 100000 in
theorem refAskRt_no (v : Value) (L : List Wrd) (s : St) (fv : Value) (F : List Fld) (bo : List UInt8) (w : World) (hr : ReadsW w v L) (hl : ∀ f ∈ L, f.1.length ≤ 900 ∧ f.2.1.length ≤ 900 ∧ f.2.2.length ≤ 900) (hn : L.length ≤ 1000000)
    (hfr : ReadsF w fv F) (hfs : ∀ f ∈ F, f.1.length ≤ 140737488351232 ∧ f.2.length ≤ 140737488351232) (hfn : F.length ≤ 1000000) (h2 : s.t.length ≤ 140737488351232) (hLd : Laid w)
    (hSR : ∀ W, Calls Tryz.prog 23 #[.agg #[.string (S s.m), .string (S s.t), .int .i64 s.c, .string (S s.r), .int .i64 s.n]] W fun e w' => e = .returned (.bool (startOk s)) ∧ Below W.heap.size W w') (hno : ¬ (rightRt L = true ∧ startOk s = true ∧ s.c = 0)) :
    Calls Tryz.prog 8 #[v, .agg #[.string (S s.m), .string (S s.t), .int .i64 s.c, .string (S s.r), .int .i64 s.n, fv, .string (S bo)]] w fun e w' => e = .returned (askV (askR L s (getV F [72, 111, 115, 116]).1)) ∧ Below w.heap.size w w' := by
  have hgl := getV_len (F := F) (n := [72, 111, 115, 116]) (fun f hf => (hfs f hf).2)
  have hga := getV_all F
  have RR := Lib.hid (fun W (hb : Below w.heap.size w W) => refRoutesRight v L W (hr.below hb) hl hn (hLd.on hb))
  have SR := Lib.hid hSR
  clear hSR
  have AL := Lib.hid (fun W (hb : Below w.heap.size w W) => refAll fv F [104, 111, 115, 116] (by decide) W (hfr.below hb) (fun f hf => by have := hfs f hf; unfold Small; omega) (by omega))
  have UP := Lib.hid (fun (q : List UInt8) (hq : q.length ≤ 4611686018427387903) W (hb : Below w.heap.size w W) => refParse q hq W (hLd.on hb))
  have FI := Lib.hid (fun (h p : List UInt8) (hR : rightRt L = true) W (hb : Below w.heap.size w W) => (find_ref hR h p) ▸ refFindRt v L h p W (hr.below hb) hl)
  obtain ⟨ao, cap, rfl, _⟩ := hr
  obtain ⟨fo, fcap, rfl, _⟩ := hfr
  have HNO := Lib.hid (fun h => askR_no (L := L) (s := s) (h := (getV F [72, 111, 115, 116]).1) h)
  have HYES := Lib.hid (fun hy (q : List UInt8) hq (u : UU) (e : Int) hp (o : List UInt8) (g : Int) hf => askR_yes (L := L) (s := s) (h := (getV F [72, 111, 115, 116]).1) hy (q := q) hq (u := u) (e := e) hp (o := o) (g := g) hf)
  obtain ⟨h, hgv⟩ : ∃ x, (getV F [72, 111, 115, 116]).1 = x := ⟨_, rfl⟩
  rw [hgv] at HNO HYES hgl hga ⊢
  obtain ⟨xs, hxs⟩ : ∃ x, (namedL F [104, 111, 115, 116]).map (·.2) = x := ⟨_, rfl⟩
  rw [hxs] at AL hga
  obtain ⟨R, hR⟩ : ∃ x, rightRt L = x := ⟨_, rfl⟩
  obtain ⟨K, hK⟩ : ∃ x, startOk s = x := ⟨_, rfl⟩
  obtain ⟨A, hA⟩ : ∃ x, askR L s h = x := ⟨_, rfl⟩
  rw [hR] at RR FI
  rw [hK] at SR
  rw [hR, hK] at hno
  rw [hR, hK, hA] at HNO HYES
  rw [hA]
  obtain ⟨m, t, c, r, n⟩ := s
  simp only at *
  clear hgv hR hK hA hl hfs hLd hxs
  have h2i : (t.length : Int) ≤ 140737488351232 := by omega
  have hgi : (h.length : Int) ≤ 140737488351232 := by omega
  clear HYES AL UP FI hga
  cases R with
  | false =>
    clear SR
    obtain rfl : A = (UU.nil, [], 1) := HNO.out (by simp)
    go_enter Tryz.func8, Tryz.ntmps8
    go_wp2_with fail
    refine Calls.mono (RR.out _ (by (repeat (first | with_reducible exact Below.refl _ _ | with_reducible assumption | with_reducible refine Below.drew ?_ | (with_reducible refine Below.setCell ?_ ?_ _; rotate_left; (first | omega | (simp <;> omega))) | (with_reducible refine Below.alloc ?_ ?_ _; rotate_left; (first | omega | (simp <;> omega))) | exact Below.refl _ _ | assumption)))) ?_
    rintro e w1 ⟨rfl, hb_w1⟩
    have hz_w1 := hb_w1.size
    try simp at hz_w1
    obtain ⟨c1__0, f1__0⟩ := bk hb_w1 (w.heap.size) (by first | omega | (simp <;> omega))
    have c1__0_0 := c1__0 0; conv at c1__0_0 => rhs; simp [go_sem, *]
    have f1__0_0 := f1__0 0; conv at f1__0_0 => rhs; simp [go_sem, *]
    have c1__0_1 := c1__0 1; conv at c1__0_1 => rhs; simp [go_sem, *]
    have f1__0_1 := f1__0 1; conv at f1__0_1 => rhs; simp [go_sem, *]
    have c1__0_2 := c1__0 2; conv at c1__0_2 => rhs; simp [go_sem, *]
    have f1__0_2 := f1__0 2; conv at f1__0_2 => rhs; simp [go_sem, *]
    have c1__0_3 := c1__0 3; conv at c1__0_3 => rhs; simp [go_sem, *]
    have f1__0_3 := f1__0 3; conv at f1__0_3 => rhs; simp [go_sem, *]
    have c1__0_4 := c1__0 4; conv at c1__0_4 => rhs; simp [go_sem, *]
    have f1__0_4 := f1__0 4; conv at f1__0_4 => rhs; simp [go_sem, *]
    have c1__0_5 := c1__0 5; conv at c1__0_5 => rhs; simp [go_sem, *]
    have f1__0_5 := f1__0 5; conv at f1__0_5 => rhs; simp [go_sem, *]
    have c1__0_6 := c1__0 6; conv at c1__0_6 => rhs; simp [go_sem, *]
    have f1__0_6 := f1__0 6; conv at f1__0_6 => rhs; simp [go_sem, *]
    obtain ⟨c1__1, f1__1⟩ := bk hb_w1 (w.heap.size + 1) (by first | omega | (simp <;> omega))
    have c1__1_0 := c1__1 0; conv at c1__1_0 => rhs; simp [go_sem, *]
    have f1__1_0 := f1__1 0; conv at f1__1_0 => rhs; simp [go_sem, *]
    have c1__1_1 := c1__1 1; conv at c1__1_1 => rhs; simp [go_sem, *]
    have f1__1_1 := f1__1 1; conv at f1__1_1 => rhs; simp [go_sem, *]
    have c1__1_2 := c1__1 2; conv at c1__1_2 => rhs; simp [go_sem, *]
    have f1__1_2 := f1__1 2; conv at f1__1_2 => rhs; simp [go_sem, *]
    have c1__1_3 := c1__1 3; conv at c1__1_3 => rhs; simp [go_sem, *]
    have f1__1_3 := f1__1 3; conv at f1__1_3 => rhs; simp [go_sem, *]
    have c1__1_4 := c1__1 4; conv at c1__1_4 => rhs; simp [go_sem, *]
    have f1__1_4 := f1__1 4; conv at f1__1_4 => rhs; simp [go_sem, *]
    have c1__1_5 := c1__1 5; conv at c1__1_5 => rhs; simp [go_sem, *]
    have f1__1_5 := f1__1 5; conv at f1__1_5 => rhs; simp [go_sem, *]
    have HH_w1 := Lib.hid hb_w1
    have hB_w1 : Below w.heap.size w w1 := Below.trans (by (repeat (first | with_reducible exact Below.refl _ _ | with_reducible assumption | with_reducible refine Below.drew ?_ | (with_reducible refine Below.setCell ?_ ?_ _; rotate_left; (first | omega | (simp <;> omega))) | (with_reducible refine Below.alloc ?_ ?_ _; rotate_left; (first | omega | (simp <;> omega))) | exact Below.refl _ _ | assumption))) (hb_w1.mono (by first | omega | (simp <;> omega)))
    clear hb_w1 c1__0 f1__0 c1__1 f1__1
    have far_w1_w_0 := far (show w.heap.size < w1.heap.size by omega)
    have far_w1_w_1 := far (show w.heap.size + 1 < w1.heap.size by omega)
    go_wp2
    refine bodyPost_ret (v := .tuple #[uv false [] 0 [] false [], .string (S []), .int .i64 1]) (by simp [results, Tryz.results8, go_sem, *]) rfl ⟨rfl, ?_⟩
    (repeat (first | with_reducible exact Below.refl _ _ | with_reducible assumption | with_reducible refine Below.drew ?_ | (with_reducible refine Below.setCell ?_ ?_ _; rotate_left; (first | omega | (simp <;> omega))) | (with_reducible refine Below.alloc ?_ ?_ _; rotate_left; (first | omega | (simp <;> omega))) | exact Below.refl _ _ | assumption))
  | true =>
    cases K with
    | false =>
      obtain rfl : A = (UU.nil, [], 1) := HNO.out (by simp)
      go_enter Tryz.func8, Tryz.ntmps8
      go_wp2_with fail
      refine Calls.mono (RR.out _ (by (repeat (first | with_reducible exact Below.refl _ _ | with_reducible assumption | with_reducible refine Below.drew ?_ | (with_reducible refine Below.setCell ?_ ?_ _; rotate_left; (first | omega | (simp <;> omega))) | (with_reducible refine Below.alloc ?_ ?_ _; rotate_left; (first | omega | (simp <;> omega))) | exact Below.refl _ _ | assumption)))) ?_
      rintro e w1 ⟨rfl, hb_w1⟩
      have hz_w1 := hb_w1.size
      try simp at hz_w1
      obtain ⟨c1__0, f1__0⟩ := bk hb_w1 (w.heap.size) (by first | omega | (simp <;> omega))
      have c1__0_0 := c1__0 0; conv at c1__0_0 => rhs; simp [go_sem, *]
      have f1__0_0 := f1__0 0; conv at f1__0_0 => rhs; simp [go_sem, *]
      have c1__0_1 := c1__0 1; conv at c1__0_1 => rhs; simp [go_sem, *]
      have f1__0_1 := f1__0 1; conv at f1__0_1 => rhs; simp [go_sem, *]
      have c1__0_2 := c1__0 2; conv at c1__0_2 => rhs; simp [go_sem, *]
      have f1__0_2 := f1__0 2; conv at f1__0_2 => rhs; simp [go_sem, *]
      have c1__0_3 := c1__0 3; conv at c1__0_3 => rhs; simp [go_sem, *]
      have f1__0_3 := f1__0 3; conv at f1__0_3 => rhs; simp [go_sem, *]
      have c1__0_4 := c1__0 4; conv at c1__0_4 => rhs; simp [go_sem, *]
      have f1__0_4 := f1__0 4; conv at f1__0_4 => rhs; simp [go_sem, *]
      have c1__0_5 := c1__0 5; conv at c1__0_5 => rhs; simp [go_sem, *]
      have f1__0_5 := f1__0 5; conv at f1__0_5 => rhs; simp [go_sem, *]
      have c1__0_6 := c1__0 6; conv at c1__0_6 => rhs; simp [go_sem, *]
      have f1__0_6 := f1__0 6; conv at f1__0_6 => rhs; simp [go_sem, *]
      obtain ⟨c1__1, f1__1⟩ := bk hb_w1 (w.heap.size + 1) (by first | omega | (simp <;> omega))
      have c1__1_0 := c1__1 0; conv at c1__1_0 => rhs; simp [go_sem, *]
      have f1__1_0 := f1__1 0; conv at f1__1_0 => rhs; simp [go_sem, *]
      have c1__1_1 := c1__1 1; conv at c1__1_1 => rhs; simp [go_sem, *]
      have f1__1_1 := f1__1 1; conv at f1__1_1 => rhs; simp [go_sem, *]
      have c1__1_2 := c1__1 2; conv at c1__1_2 => rhs; simp [go_sem, *]
      have f1__1_2 := f1__1 2; conv at f1__1_2 => rhs; simp [go_sem, *]
      have c1__1_3 := c1__1 3; conv at c1__1_3 => rhs; simp [go_sem, *]
      have f1__1_3 := f1__1 3; conv at f1__1_3 => rhs; simp [go_sem, *]
      have c1__1_4 := c1__1 4; conv at c1__1_4 => rhs; simp [go_sem, *]
      have f1__1_4 := f1__1 4; conv at f1__1_4 => rhs; simp [go_sem, *]
      have c1__1_5 := c1__1 5; conv at c1__1_5 => rhs; simp [go_sem, *]
      have f1__1_5 := f1__1 5; conv at f1__1_5 => rhs; simp [go_sem, *]
      have HH_w1 := Lib.hid hb_w1
      have hB_w1 : Below w.heap.size w w1 := Below.trans (by (repeat (first | with_reducible exact Below.refl _ _ | with_reducible assumption | with_reducible refine Below.drew ?_ | (with_reducible refine Below.setCell ?_ ?_ _; rotate_left; (first | omega | (simp <;> omega))) | (with_reducible refine Below.alloc ?_ ?_ _; rotate_left; (first | omega | (simp <;> omega))) | exact Below.refl _ _ | assumption))) (hb_w1.mono (by first | omega | (simp <;> omega)))
      clear hb_w1 c1__0 f1__0 c1__1 f1__1
      have far_w1_w_0 := far (show w.heap.size < w1.heap.size by omega)
      have far_w1_w_1 := far (show w.heap.size + 1 < w1.heap.size by omega)
      go_wp2_with fail
      refine Calls.mono (SR.out _) ?_
      rintro e w2 ⟨rfl, hb_w2⟩
      have hz_w2 := hb_w2.size
      try simp at hz_w2
      obtain ⟨c2__0, f2__0⟩ := bk hb_w2 (w.heap.size) (by first | omega | (simp <;> omega))
      have c2__0_0 := c2__0 0; conv at c2__0_0 => rhs; simp [go_sem, *]
      have f2__0_0 := f2__0 0; conv at f2__0_0 => rhs; simp [go_sem, *]
      have c2__0_1 := c2__0 1; conv at c2__0_1 => rhs; simp [go_sem, *]
      have f2__0_1 := f2__0 1; conv at f2__0_1 => rhs; simp [go_sem, *]
      have c2__0_2 := c2__0 2; conv at c2__0_2 => rhs; simp [go_sem, *]
      have f2__0_2 := f2__0 2; conv at f2__0_2 => rhs; simp [go_sem, *]
      have c2__0_3 := c2__0 3; conv at c2__0_3 => rhs; simp [go_sem, *]
      have f2__0_3 := f2__0 3; conv at f2__0_3 => rhs; simp [go_sem, *]
      have c2__0_4 := c2__0 4; conv at c2__0_4 => rhs; simp [go_sem, *]
      have f2__0_4 := f2__0 4; conv at f2__0_4 => rhs; simp [go_sem, *]
      have c2__0_5 := c2__0 5; conv at c2__0_5 => rhs; simp [go_sem, *]
      have f2__0_5 := f2__0 5; conv at f2__0_5 => rhs; simp [go_sem, *]
      have c2__0_6 := c2__0 6; conv at c2__0_6 => rhs; simp [go_sem, *]
      have f2__0_6 := f2__0 6; conv at f2__0_6 => rhs; simp [go_sem, *]
      obtain ⟨c2__1, f2__1⟩ := bk hb_w2 (w.heap.size + 1) (by first | omega | (simp <;> omega))
      have c2__1_0 := c2__1 0; conv at c2__1_0 => rhs; simp [go_sem, *]
      have f2__1_0 := f2__1 0; conv at f2__1_0 => rhs; simp [go_sem, *]
      have c2__1_1 := c2__1 1; conv at c2__1_1 => rhs; simp [go_sem, *]
      have f2__1_1 := f2__1 1; conv at f2__1_1 => rhs; simp [go_sem, *]
      have c2__1_2 := c2__1 2; conv at c2__1_2 => rhs; simp [go_sem, *]
      have f2__1_2 := f2__1 2; conv at f2__1_2 => rhs; simp [go_sem, *]
      have c2__1_3 := c2__1 3; conv at c2__1_3 => rhs; simp [go_sem, *]
      have f2__1_3 := f2__1 3; conv at f2__1_3 => rhs; simp [go_sem, *]
      have c2__1_4 := c2__1 4; conv at c2__1_4 => rhs; simp [go_sem, *]
      have f2__1_4 := f2__1 4; conv at f2__1_4 => rhs; simp [go_sem, *]
      have c2__1_5 := c2__1 5; conv at c2__1_5 => rhs; simp [go_sem, *]
      have f2__1_5 := f2__1 5; conv at f2__1_5 => rhs; simp [go_sem, *]
      have HH_w2 := Lib.hid hb_w2
      have hB_w2 : Below w.heap.size w w2 := Below.trans (by (repeat (first | with_reducible exact Below.refl _ _ | with_reducible assumption | with_reducible refine Below.drew ?_ | (with_reducible refine Below.setCell ?_ ?_ _; rotate_left; (first | omega | (simp <;> omega))) | (with_reducible refine Below.alloc ?_ ?_ _; rotate_left; (first | omega | (simp <;> omega))) | exact Below.refl _ _ | assumption))) (hb_w2.mono (by first | omega | (simp <;> omega)))
      clear hb_w2 c2__0 f2__0 c2__1 f2__1
      try clear c1__0_0 f1__0_0 c1__0_1 f1__0_1 c1__0_2 f1__0_2 c1__0_3 f1__0_3 c1__0_4 f1__0_4 c1__0_5 f1__0_5 c1__0_6 f1__0_6 c1__1_0 f1__1_0 c1__1_1 f1__1_1 c1__1_2 f1__1_2 c1__1_3 f1__1_3 c1__1_4 f1__1_4 c1__1_5 f1__1_5 far_w1_w_0 far_w1_w_1 hB_w1
      have far_w2_w_0 := far (show w.heap.size < w2.heap.size by omega)
      have far_w2_w_1 := far (show w.heap.size + 1 < w2.heap.size by omega)
      go_wp2
      refine bodyPost_ret (v := .tuple #[uv false [] 0 [] false [], .string (S []), .int .i64 1]) (by simp [results, Tryz.results8, go_sem, *]) rfl ⟨rfl, ?_⟩
      (repeat (first | with_reducible exact Below.refl _ _ | with_reducible assumption | with_reducible refine Below.drew ?_ | (with_reducible refine Below.setCell ?_ ?_ _; rotate_left; (first | omega | (simp <;> omega))) | (with_reducible refine Below.alloc ?_ ?_ _; rotate_left; (first | omega | (simp <;> omega))) | exact Below.refl _ _ | assumption))
    | true =>
      have hc : c ≠ 0 := fun h => hno ⟨rfl, rfl, h⟩
      have hc1 : (c == 0) = false := by simpa using hc
      have hc2 : (c != 0) = true := by unfold bne; rw [hc1]; rfl
      clear hno
      obtain rfl : A = (UU.nil, [], 1) := HNO.out (by simp [hc])
      go_enter Tryz.func8, Tryz.ntmps8
      go_wp2_with fail
      refine Calls.mono (RR.out _ (by (repeat (first | with_reducible exact Below.refl _ _ | with_reducible assumption | with_reducible refine Below.drew ?_ | (with_reducible refine Below.setCell ?_ ?_ _; rotate_left; (first | omega | (simp <;> omega))) | (with_reducible refine Below.alloc ?_ ?_ _; rotate_left; (first | omega | (simp <;> omega))) | exact Below.refl _ _ | assumption)))) ?_
      rintro e w1 ⟨rfl, hb_w1⟩
      have hz_w1 := hb_w1.size
      try simp at hz_w1
      obtain ⟨c1__0, f1__0⟩ := bk hb_w1 (w.heap.size) (by first | omega | (simp <;> omega))
      have c1__0_0 := c1__0 0; conv at c1__0_0 => rhs; simp [go_sem, *]
      have f1__0_0 := f1__0 0; conv at f1__0_0 => rhs; simp [go_sem, *]
      have c1__0_1 := c1__0 1; conv at c1__0_1 => rhs; simp [go_sem, *]
      have f1__0_1 := f1__0 1; conv at f1__0_1 => rhs; simp [go_sem, *]
      have c1__0_2 := c1__0 2; conv at c1__0_2 => rhs; simp [go_sem, *]
      have f1__0_2 := f1__0 2; conv at f1__0_2 => rhs; simp [go_sem, *]
      have c1__0_3 := c1__0 3; conv at c1__0_3 => rhs; simp [go_sem, *]
      have f1__0_3 := f1__0 3; conv at f1__0_3 => rhs; simp [go_sem, *]
      have c1__0_4 := c1__0 4; conv at c1__0_4 => rhs; simp [go_sem, *]
      have f1__0_4 := f1__0 4; conv at f1__0_4 => rhs; simp [go_sem, *]
      have c1__0_5 := c1__0 5; conv at c1__0_5 => rhs; simp [go_sem, *]
      have f1__0_5 := f1__0 5; conv at f1__0_5 => rhs; simp [go_sem, *]
      have c1__0_6 := c1__0 6; conv at c1__0_6 => rhs; simp [go_sem, *]
      have f1__0_6 := f1__0 6; conv at f1__0_6 => rhs; simp [go_sem, *]
      obtain ⟨c1__1, f1__1⟩ := bk hb_w1 (w.heap.size + 1) (by first | omega | (simp <;> omega))
      have c1__1_0 := c1__1 0; conv at c1__1_0 => rhs; simp [go_sem, *]
      have f1__1_0 := f1__1 0; conv at f1__1_0 => rhs; simp [go_sem, *]
      have c1__1_1 := c1__1 1; conv at c1__1_1 => rhs; simp [go_sem, *]
      have f1__1_1 := f1__1 1; conv at f1__1_1 => rhs; simp [go_sem, *]
      have c1__1_2 := c1__1 2; conv at c1__1_2 => rhs; simp [go_sem, *]
      have f1__1_2 := f1__1 2; conv at f1__1_2 => rhs; simp [go_sem, *]
      have c1__1_3 := c1__1 3; conv at c1__1_3 => rhs; simp [go_sem, *]
      have f1__1_3 := f1__1 3; conv at f1__1_3 => rhs; simp [go_sem, *]
      have c1__1_4 := c1__1 4; conv at c1__1_4 => rhs; simp [go_sem, *]
      have f1__1_4 := f1__1 4; conv at f1__1_4 => rhs; simp [go_sem, *]
      have c1__1_5 := c1__1 5; conv at c1__1_5 => rhs; simp [go_sem, *]
      have f1__1_5 := f1__1 5; conv at f1__1_5 => rhs; simp [go_sem, *]
      have HH_w1 := Lib.hid hb_w1
      have hB_w1 : Below w.heap.size w w1 := Below.trans (by (repeat (first | with_reducible exact Below.refl _ _ | with_reducible assumption | with_reducible refine Below.drew ?_ | (with_reducible refine Below.setCell ?_ ?_ _; rotate_left; (first | omega | (simp <;> omega))) | (with_reducible refine Below.alloc ?_ ?_ _; rotate_left; (first | omega | (simp <;> omega))) | exact Below.refl _ _ | assumption))) (hb_w1.mono (by first | omega | (simp <;> omega)))
      clear hb_w1 c1__0 f1__0 c1__1 f1__1
      try clear c2__0_0 f2__0_0 c2__0_1 f2__0_1 c2__0_2 f2__0_2 c2__0_3 f2__0_3 c2__0_4 f2__0_4 c2__0_5 f2__0_5 c2__0_6 f2__0_6 c2__1_0 f2__1_0 c2__1_1 f2__1_1 c2__1_2 f2__1_2 c2__1_3 f2__1_3 c2__1_4 f2__1_4 c2__1_5 f2__1_5 far_w2_w_0 far_w2_w_1 hB_w2
      have far_w1_w_0 := far (show w.heap.size < w1.heap.size by omega)
      have far_w1_w_1 := far (show w.heap.size + 1 < w1.heap.size by omega)
      go_wp2_with fail
      refine Calls.mono (SR.out _) ?_
      rintro e w2 ⟨rfl, hb_w2⟩
      have hz_w2 := hb_w2.size
      try simp at hz_w2
      obtain ⟨c2__0, f2__0⟩ := bk hb_w2 (w.heap.size) (by first | omega | (simp <;> omega))
      have c2__0_0 := c2__0 0; conv at c2__0_0 => rhs; simp [go_sem, *]
      have f2__0_0 := f2__0 0; conv at f2__0_0 => rhs; simp [go_sem, *]
      have c2__0_1 := c2__0 1; conv at c2__0_1 => rhs; simp [go_sem, *]
      have f2__0_1 := f2__0 1; conv at f2__0_1 => rhs; simp [go_sem, *]
      have c2__0_2 := c2__0 2; conv at c2__0_2 => rhs; simp [go_sem, *]
      have f2__0_2 := f2__0 2; conv at f2__0_2 => rhs; simp [go_sem, *]
      have c2__0_3 := c2__0 3; conv at c2__0_3 => rhs; simp [go_sem, *]
      have f2__0_3 := f2__0 3; conv at f2__0_3 => rhs; simp [go_sem, *]
      have c2__0_4 := c2__0 4; conv at c2__0_4 => rhs; simp [go_sem, *]
      have f2__0_4 := f2__0 4; conv at f2__0_4 => rhs; simp [go_sem, *]
      have c2__0_5 := c2__0 5; conv at c2__0_5 => rhs; simp [go_sem, *]
      have f2__0_5 := f2__0 5; conv at f2__0_5 => rhs; simp [go_sem, *]
      have c2__0_6 := c2__0 6; conv at c2__0_6 => rhs; simp [go_sem, *]
      have f2__0_6 := f2__0 6; conv at f2__0_6 => rhs; simp [go_sem, *]
      obtain ⟨c2__1, f2__1⟩ := bk hb_w2 (w.heap.size + 1) (by first | omega | (simp <;> omega))
      have c2__1_0 := c2__1 0; conv at c2__1_0 => rhs; simp [go_sem, *]
      have f2__1_0 := f2__1 0; conv at f2__1_0 => rhs; simp [go_sem, *]
      have c2__1_1 := c2__1 1; conv at c2__1_1 => rhs; simp [go_sem, *]
      have f2__1_1 := f2__1 1; conv at f2__1_1 => rhs; simp [go_sem, *]
      have c2__1_2 := c2__1 2; conv at c2__1_2 => rhs; simp [go_sem, *]
      have f2__1_2 := f2__1 2; conv at f2__1_2 => rhs; simp [go_sem, *]
      have c2__1_3 := c2__1 3; conv at c2__1_3 => rhs; simp [go_sem, *]
      have f2__1_3 := f2__1 3; conv at f2__1_3 => rhs; simp [go_sem, *]
      have c2__1_4 := c2__1 4; conv at c2__1_4 => rhs; simp [go_sem, *]
      have f2__1_4 := f2__1 4; conv at f2__1_4 => rhs; simp [go_sem, *]
      have c2__1_5 := c2__1 5; conv at c2__1_5 => rhs; simp [go_sem, *]
      have f2__1_5 := f2__1 5; conv at f2__1_5 => rhs; simp [go_sem, *]
      have HH_w2 := Lib.hid hb_w2
      have hB_w2 : Below w.heap.size w w2 := Below.trans (by (repeat (first | with_reducible exact Below.refl _ _ | with_reducible assumption | with_reducible refine Below.drew ?_ | (with_reducible refine Below.setCell ?_ ?_ _; rotate_left; (first | omega | (simp <;> omega))) | (with_reducible refine Below.alloc ?_ ?_ _; rotate_left; (first | omega | (simp <;> omega))) | exact Below.refl _ _ | assumption))) (hb_w2.mono (by first | omega | (simp <;> omega)))
      clear hb_w2 c2__0 f2__0 c2__1 f2__1
      try clear c1__0_0 f1__0_0 c1__0_1 f1__0_1 c1__0_2 f1__0_2 c1__0_3 f1__0_3 c1__0_4 f1__0_4 c1__0_5 f1__0_5 c1__0_6 f1__0_6 c1__1_0 f1__1_0 c1__1_1 f1__1_1 c1__1_2 f1__1_2 c1__1_3 f1__1_3 c1__1_4 f1__1_4 c1__1_5 f1__1_5 far_w1_w_0 far_w1_w_1 hB_w1
      have far_w2_w_0 := far (show w.heap.size < w2.heap.size by omega)
      have far_w2_w_1 := far (show w.heap.size + 1 < w2.heap.size by omega)
      go_wp2
      refine bodyPost_ret (v := .tuple #[uv false [] 0 [] false [], .string (S []), .int .i64 1]) (by simp [results, Tryz.results8, go_sem, *]) rfl ⟨rfl, ?_⟩
      (repeat (first | with_reducible exact Below.refl _ _ | with_reducible assumption | with_reducible refine Below.drew ?_ | (with_reducible refine Below.setCell ?_ ?_ _; rotate_left; (first | omega | (simp <;> omega))) | (with_reducible refine Below.alloc ?_ ?_ _; rotate_left; (first | omega | (simp <;> omega))) | exact Below.refl _ _ | assumption))
end Go.Proofs.YtgjemgilanhdiaaGreatDoor
