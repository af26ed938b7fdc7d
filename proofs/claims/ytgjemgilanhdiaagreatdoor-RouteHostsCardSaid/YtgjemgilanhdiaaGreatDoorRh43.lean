/- route.Ask at a whole address. Printed by tools/rtask.py. -/
import Derived.Test.YtgjemgilanhdiaaGreatDoorRh42
namespace Go.Proofs.YtgjemgilanhdiaaGreatDoor
open Go.RowKit Go.Sort Go.Shelf
set_option linter.unusedVariables false
set_option linter.unusedSimpArgs false

set_option maxHeartbeats 6400000 in
set_option maxRecDepth 100000 in
theorem routeAsk_t (v : Value) (L : List Wrd) (s : St) (fv : Value) (F : List Fld) (bo : List UInt8) (w : World) (hr : ReadsW w v L) (hl : ∀ f ∈ L, f.1.length ≤ 900 ∧ f.2.1.length ≤ 900 ∧ f.2.2.length ≤ 900) (hn : L.length ≤ 1000000)
    (hfr : ReadsF w fv F) (hfs : ∀ f ∈ F, f.1.length ≤ 140737488351232 ∧ f.2.length ≤ 140737488351232) (h1 : s.m.length ≤ 140737488351232) (h2 : s.t.length ≤ 140737488351232) (h3 : s.r.length ≤ 140737488351232) (hLd : Laid w)
    (hSR : ∀ W, Calls Tryz.prog 20 #[.agg #[.string (S s.m), .string (S s.t), .int .i64 s.c, .string (S s.r), .int .i64 s.n]] W fun e w' => e = .returned (.bool (startOk s)) ∧ Below W.heap.size W w') (hR1 : rightRt L = true) (hK1 : startOk s = true) (hc : s.c = 0) (hpf : Lib.hasPrefix s.t httpL = true) :
    Calls Tryz.prog 7 #[v, .agg #[.string (S s.m), .string (S s.t), .int .i64 s.c, .string (S s.r), .int .i64 s.n, fv, .string (S bo)]] w fun e w' => e = .returned (askV (askR L s (getV F [72, 111, 115, 116]).1)) ∧ Below w.heap.size w w' := by
  have hgl := getV_len (F := F) (n := [72, 111, 115, 116]) (fun f hf => (hfs f hf).2)
  have RR := Lib.hid (fun W (hb : Below w.heap.size w W) => routesRight v L W (hr.below hb) hl hn (hLd.on hb))
  have SR := Lib.hid hSR
  clear hSR
  have TG := Lib.hid (fun W (hb : Below w.heap.size w W) => tableGet fv F [72, 111, 115, 116] (by decide) W (hfr.below hb) (fun f hf => by have := hfs f hf; unfold Small; omega))
  have UP := Lib.hid (fun (q : List UInt8) (hq : q.length ≤ 4611686018427387903) W (hb : Below w.heap.size w W) => uriParse q hq W (hLd.on hb))
  have FI := Lib.hid (fun (h p : List UInt8) W (hb : Below w.heap.size w W) => routeFind v L h p W (hr.below hb) hl hn (hLd.on hb))
  obtain ⟨ao, cap, rfl, _⟩ := hr
  obtain ⟨fo, fcap, rfl, _⟩ := hfr
  have HNO := Lib.hid (fun h => askR_no (L := L) (s := s) (h := (getV F [72, 111, 115, 116]).1) h)
  have HYES := Lib.hid (fun hy (q : List UInt8) hq (u : UU) (e : Int) hp (o : List UInt8) (g : Int) hf => askR_yes (L := L) (s := s) (h := (getV F [72, 111, 115, 116]).1) hy (q := q) hq (u := u) (e := e) hp (o := o) (g := g) hf)
  obtain ⟨⟨h, hb⟩, hgv⟩ : ∃ x, getV F [72, 111, 115, 116] = x := ⟨_, rfl⟩
  rw [hgv] at TG HNO HYES hgl ⊢
  simp only at TG HNO HYES hgl ⊢
  obtain ⟨R, hR⟩ : ∃ x, rightRt L = x := ⟨_, rfl⟩
  obtain ⟨K, hK⟩ : ∃ x, startOk s = x := ⟨_, rfl⟩
  obtain ⟨A, hA⟩ : ∃ x, askR L s h = x := ⟨_, rfl⟩
  rw [hR] at RR
  rw [hK] at SR
  rw [hR] at hR1
  rw [hK] at hK1
  rw [hR, hK, hA] at HNO HYES
  rw [hA]
  obtain ⟨m, t, c, r, n⟩ := s
  simp only at *
  clear hgv hR hK hA hl hfs hLd h3 h1
  have h2i : (t.length : Int) ≤ 140737488351232 := by omega
  have hgi : (h.length : Int) ≤ 140737488351232 := by omega
  subst hR1 hK1 hc
  clear HNO
  have HP := Lib.hid (fun W => hasPrefix_S hpf W)
  unfold httpL at HP
  have HY := Lib.hid (fun (u : UU) (e : Int) hp (o : List UInt8) (g : Int) hf => HYES.out ⟨rfl, rfl, rfl⟩ (t) (by unfold askT; rw [if_pos hpf]) u e hp o g hf)
  have UQ := Lib.hid (fun W hb => UP.out (t) (by omega) W hb)
  obtain ⟨⟨u, e⟩, hpe⟩ : ∃ x, parseL (t) = x := ⟨_, rfl⟩
  rw [hpe] at UQ HY
  simp only at UQ HY
  have FQ := Lib.hid (fun W hb => FI.out u.h u.p W hb)
  obtain ⟨⟨o, g⟩, hfo⟩ : ∃ x, findR L u.h u.p = x := ⟨_, rfl⟩
  rw [hfo] at FQ
  simp only at FQ
  have HA := HY.out u e rfl o g hfo
  obtain ⟨a, hh, nn, pp, qq, yy⟩ := u
  unfold UU.v uv at UQ
  simp only at UQ FQ
  try unfold httpL at UQ
  try unfold localL at UQ
  try simp only [List.cons_append, List.nil_append] at UQ
  clear UP FI HYES HY hpe hfo hpf
  by_cases he : e = 0
  rotate_left
  · have he1 : (e == 0) = false := by simpa using he
    have he2 : (e != 0) = true := by unfold bne; rw [he1]; rfl
    rw [if_pos he] at HA
    subst HA
    go_enter Tryz.func7, Tryz.ntmps7
    go_wp2_with fail
    refine Calls.mono (RR.out _ (by (repeat (first | (with_reducible exact Below.refl _ _) | (with_reducible assumption) | (with_reducible refine Below.drew ?_) | (focus ((with_reducible refine Below.setCell ?_ ?_ _); rotate_left; (first | omega | (simp <;> omega)))) | (focus ((with_reducible refine Below.alloc ?_ ?_ _); rotate_left; (first | omega | (simp <;> omega)))) | exact Below.refl _ _ | assumption | refine Below.drew ?_ | refine Below.alloc ?_ (by first | omega | (simp <;> omega)) _ | refine Below.setCell ?_ (by first | omega | (simp <;> omega)) _)))) ?_
    rintro e w1 ⟨rfl, hb_w1⟩
    have hz_w1 := hb_w1.size
    try simp at hz_w1
    obtain ⟨c_w1_w_0, f_w1_w_0⟩ := bk hb_w1 (w.heap.size) (by first | omega | (simp <;> omega))
    have c_w1_w_0_0 := c_w1_w_0 0
    conv at c_w1_w_0_0 => rhs; simp [go_sem, *]
    have f_w1_w_0_0 := f_w1_w_0 0
    conv at f_w1_w_0_0 => rhs; simp [go_sem, *]
    have c_w1_w_0_1 := c_w1_w_0 1
    conv at c_w1_w_0_1 => rhs; simp [go_sem, *]
    have f_w1_w_0_1 := f_w1_w_0 1
    conv at f_w1_w_0_1 => rhs; simp [go_sem, *]
    have c_w1_w_0_2 := c_w1_w_0 2
    conv at c_w1_w_0_2 => rhs; simp [go_sem, *]
    have f_w1_w_0_2 := f_w1_w_0 2
    conv at f_w1_w_0_2 => rhs; simp [go_sem, *]
    have c_w1_w_0_3 := c_w1_w_0 3
    conv at c_w1_w_0_3 => rhs; simp [go_sem, *]
    have f_w1_w_0_3 := f_w1_w_0 3
    conv at f_w1_w_0_3 => rhs; simp [go_sem, *]
    have c_w1_w_0_4 := c_w1_w_0 4
    conv at c_w1_w_0_4 => rhs; simp [go_sem, *]
    have f_w1_w_0_4 := f_w1_w_0 4
    conv at f_w1_w_0_4 => rhs; simp [go_sem, *]
    have c_w1_w_0_5 := c_w1_w_0 5
    conv at c_w1_w_0_5 => rhs; simp [go_sem, *]
    have f_w1_w_0_5 := f_w1_w_0 5
    conv at f_w1_w_0_5 => rhs; simp [go_sem, *]
    have c_w1_w_0_6 := c_w1_w_0 6
    conv at c_w1_w_0_6 => rhs; simp [go_sem, *]
    have f_w1_w_0_6 := f_w1_w_0 6
    conv at f_w1_w_0_6 => rhs; simp [go_sem, *]
    obtain ⟨c_w1_w_1, f_w1_w_1⟩ := bk hb_w1 (w.heap.size + 1) (by first | omega | (simp <;> omega))
    have c_w1_w_1_0 := c_w1_w_1 0
    conv at c_w1_w_1_0 => rhs; simp [go_sem, *]
    have f_w1_w_1_0 := f_w1_w_1 0
    conv at f_w1_w_1_0 => rhs; simp [go_sem, *]
    have c_w1_w_1_1 := c_w1_w_1 1
    conv at c_w1_w_1_1 => rhs; simp [go_sem, *]
    have f_w1_w_1_1 := f_w1_w_1 1
    conv at f_w1_w_1_1 => rhs; simp [go_sem, *]
    have c_w1_w_1_2 := c_w1_w_1 2
    conv at c_w1_w_1_2 => rhs; simp [go_sem, *]
    have f_w1_w_1_2 := f_w1_w_1 2
    conv at f_w1_w_1_2 => rhs; simp [go_sem, *]
    have c_w1_w_1_3 := c_w1_w_1 3
    conv at c_w1_w_1_3 => rhs; simp [go_sem, *]
    have f_w1_w_1_3 := f_w1_w_1 3
    conv at f_w1_w_1_3 => rhs; simp [go_sem, *]
    have c_w1_w_1_4 := c_w1_w_1 4
    conv at c_w1_w_1_4 => rhs; simp [go_sem, *]
    have f_w1_w_1_4 := f_w1_w_1 4
    conv at f_w1_w_1_4 => rhs; simp [go_sem, *]
    have c_w1_w_1_5 := c_w1_w_1 5
    conv at c_w1_w_1_5 => rhs; simp [go_sem, *]
    have f_w1_w_1_5 := f_w1_w_1 5
    conv at f_w1_w_1_5 => rhs; simp [go_sem, *]
    have HH_w1 := Lib.hid hb_w1
    have hB_w1 : Below w.heap.size w w1 := Below.trans (by (repeat (first | (with_reducible exact Below.refl _ _) | (with_reducible assumption) | (with_reducible refine Below.drew ?_) | (focus ((with_reducible refine Below.setCell ?_ ?_ _); rotate_left; (first | omega | (simp <;> omega)))) | (focus ((with_reducible refine Below.alloc ?_ ?_ _); rotate_left; (first | omega | (simp <;> omega)))) | exact Below.refl _ _ | assumption | refine Below.drew ?_ | refine Below.alloc ?_ (by first | omega | (simp <;> omega)) _ | refine Below.setCell ?_ (by first | omega | (simp <;> omega)) _))) (hb_w1.mono (by first | omega | (simp <;> omega)))
    clear hb_w1 c_w1_w_0 f_w1_w_0 c_w1_w_1 f_w1_w_1
    have far_w1_w_0 := far (show w.heap.size < w1.heap.size by omega)
    have far_w1_w_1 := far (show w.heap.size + 1 < w1.heap.size by omega)
    go_wp2_with fail
    refine Calls.mono (SR.out _) ?_
    rintro e w2 ⟨rfl, hb_w2⟩
    have hz_w2 := hb_w2.size
    try simp at hz_w2
    obtain ⟨c_w2_w_0, f_w2_w_0⟩ := bk hb_w2 (w.heap.size) (by first | omega | (simp <;> omega))
    have c_w2_w_0_0 := c_w2_w_0 0
    conv at c_w2_w_0_0 => rhs; simp [go_sem, *]
    have f_w2_w_0_0 := f_w2_w_0 0
    conv at f_w2_w_0_0 => rhs; simp [go_sem, *]
    have c_w2_w_0_1 := c_w2_w_0 1
    conv at c_w2_w_0_1 => rhs; simp [go_sem, *]
    have f_w2_w_0_1 := f_w2_w_0 1
    conv at f_w2_w_0_1 => rhs; simp [go_sem, *]
    have c_w2_w_0_2 := c_w2_w_0 2
    conv at c_w2_w_0_2 => rhs; simp [go_sem, *]
    have f_w2_w_0_2 := f_w2_w_0 2
    conv at f_w2_w_0_2 => rhs; simp [go_sem, *]
    have c_w2_w_0_3 := c_w2_w_0 3
    conv at c_w2_w_0_3 => rhs; simp [go_sem, *]
    have f_w2_w_0_3 := f_w2_w_0 3
    conv at f_w2_w_0_3 => rhs; simp [go_sem, *]
    have c_w2_w_0_4 := c_w2_w_0 4
    conv at c_w2_w_0_4 => rhs; simp [go_sem, *]
    have f_w2_w_0_4 := f_w2_w_0 4
    conv at f_w2_w_0_4 => rhs; simp [go_sem, *]
    have c_w2_w_0_5 := c_w2_w_0 5
    conv at c_w2_w_0_5 => rhs; simp [go_sem, *]
    have f_w2_w_0_5 := f_w2_w_0 5
    conv at f_w2_w_0_5 => rhs; simp [go_sem, *]
    have c_w2_w_0_6 := c_w2_w_0 6
    conv at c_w2_w_0_6 => rhs; simp [go_sem, *]
    have f_w2_w_0_6 := f_w2_w_0 6
    conv at f_w2_w_0_6 => rhs; simp [go_sem, *]
    obtain ⟨c_w2_w_1, f_w2_w_1⟩ := bk hb_w2 (w.heap.size + 1) (by first | omega | (simp <;> omega))
    have c_w2_w_1_0 := c_w2_w_1 0
    conv at c_w2_w_1_0 => rhs; simp [go_sem, *]
    have f_w2_w_1_0 := f_w2_w_1 0
    conv at f_w2_w_1_0 => rhs; simp [go_sem, *]
    have c_w2_w_1_1 := c_w2_w_1 1
    conv at c_w2_w_1_1 => rhs; simp [go_sem, *]
    have f_w2_w_1_1 := f_w2_w_1 1
    conv at f_w2_w_1_1 => rhs; simp [go_sem, *]
    have c_w2_w_1_2 := c_w2_w_1 2
    conv at c_w2_w_1_2 => rhs; simp [go_sem, *]
    have f_w2_w_1_2 := f_w2_w_1 2
    conv at f_w2_w_1_2 => rhs; simp [go_sem, *]
    have c_w2_w_1_3 := c_w2_w_1 3
    conv at c_w2_w_1_3 => rhs; simp [go_sem, *]
    have f_w2_w_1_3 := f_w2_w_1 3
    conv at f_w2_w_1_3 => rhs; simp [go_sem, *]
    have c_w2_w_1_4 := c_w2_w_1 4
    conv at c_w2_w_1_4 => rhs; simp [go_sem, *]
    have f_w2_w_1_4 := f_w2_w_1 4
    conv at f_w2_w_1_4 => rhs; simp [go_sem, *]
    have c_w2_w_1_5 := c_w2_w_1 5
    conv at c_w2_w_1_5 => rhs; simp [go_sem, *]
    have f_w2_w_1_5 := f_w2_w_1 5
    conv at f_w2_w_1_5 => rhs; simp [go_sem, *]
    have HH_w2 := Lib.hid hb_w2
    have hB_w2 : Below w.heap.size w w2 := Below.trans (by (repeat (first | (with_reducible exact Below.refl _ _) | (with_reducible assumption) | (with_reducible refine Below.drew ?_) | (focus ((with_reducible refine Below.setCell ?_ ?_ _); rotate_left; (first | omega | (simp <;> omega)))) | (focus ((with_reducible refine Below.alloc ?_ ?_ _); rotate_left; (first | omega | (simp <;> omega)))) | exact Below.refl _ _ | assumption | refine Below.drew ?_ | refine Below.alloc ?_ (by first | omega | (simp <;> omega)) _ | refine Below.setCell ?_ (by first | omega | (simp <;> omega)) _))) (hb_w2.mono (by first | omega | (simp <;> omega)))
    clear hb_w2 c_w2_w_0 f_w2_w_0 c_w2_w_1 f_w2_w_1
    try clear c_w1_w_0_0
    try clear f_w1_w_0_0
    try clear c_w1_w_0_1
    try clear f_w1_w_0_1
    try clear c_w1_w_0_2
    try clear f_w1_w_0_2
    try clear c_w1_w_0_3
    try clear f_w1_w_0_3
    try clear c_w1_w_0_4
    try clear f_w1_w_0_4
    try clear c_w1_w_0_5
    try clear f_w1_w_0_5
    try clear c_w1_w_0_6
    try clear f_w1_w_0_6
    try clear c_w1_w_1_0
    try clear f_w1_w_1_0
    try clear c_w1_w_1_1
    try clear f_w1_w_1_1
    try clear c_w1_w_1_2
    try clear f_w1_w_1_2
    try clear c_w1_w_1_3
    try clear f_w1_w_1_3
    try clear c_w1_w_1_4
    try clear f_w1_w_1_4
    try clear c_w1_w_1_5
    try clear f_w1_w_1_5
    try clear far_w1_w_0
    try clear far_w1_w_1
    try clear hB_w1
    have far_w2_w_0 := far (show w.heap.size < w2.heap.size by omega)
    have far_w2_w_1 := far (show w.heap.size + 1 < w2.heap.size by omega)
    go_wp2_with fail
    refine Calls.mono (same_below (HP.out _)) ?_
    rintro e w3 ⟨rfl, hb_w3⟩
    have hz_w3 := hb_w3.size
    try simp at hz_w3
    obtain ⟨c_w3_w_0, f_w3_w_0⟩ := bk hb_w3 (w.heap.size) (by first | omega | (simp <;> omega))
    have c_w3_w_0_0 := c_w3_w_0 0
    conv at c_w3_w_0_0 => rhs; simp [go_sem, *]
    have f_w3_w_0_0 := f_w3_w_0 0
    conv at f_w3_w_0_0 => rhs; simp [go_sem, *]
    have c_w3_w_0_1 := c_w3_w_0 1
    conv at c_w3_w_0_1 => rhs; simp [go_sem, *]
    have f_w3_w_0_1 := f_w3_w_0 1
    conv at f_w3_w_0_1 => rhs; simp [go_sem, *]
    have c_w3_w_0_2 := c_w3_w_0 2
    conv at c_w3_w_0_2 => rhs; simp [go_sem, *]
    have f_w3_w_0_2 := f_w3_w_0 2
    conv at f_w3_w_0_2 => rhs; simp [go_sem, *]
    have c_w3_w_0_3 := c_w3_w_0 3
    conv at c_w3_w_0_3 => rhs; simp [go_sem, *]
    have f_w3_w_0_3 := f_w3_w_0 3
    conv at f_w3_w_0_3 => rhs; simp [go_sem, *]
    have c_w3_w_0_4 := c_w3_w_0 4
    conv at c_w3_w_0_4 => rhs; simp [go_sem, *]
    have f_w3_w_0_4 := f_w3_w_0 4
    conv at f_w3_w_0_4 => rhs; simp [go_sem, *]
    have c_w3_w_0_5 := c_w3_w_0 5
    conv at c_w3_w_0_5 => rhs; simp [go_sem, *]
    have f_w3_w_0_5 := f_w3_w_0 5
    conv at f_w3_w_0_5 => rhs; simp [go_sem, *]
    have c_w3_w_0_6 := c_w3_w_0 6
    conv at c_w3_w_0_6 => rhs; simp [go_sem, *]
    have f_w3_w_0_6 := f_w3_w_0 6
    conv at f_w3_w_0_6 => rhs; simp [go_sem, *]
    obtain ⟨c_w3_w_1, f_w3_w_1⟩ := bk hb_w3 (w.heap.size + 1) (by first | omega | (simp <;> omega))
    have c_w3_w_1_0 := c_w3_w_1 0
    conv at c_w3_w_1_0 => rhs; simp [go_sem, *]
    have f_w3_w_1_0 := f_w3_w_1 0
    conv at f_w3_w_1_0 => rhs; simp [go_sem, *]
    have c_w3_w_1_1 := c_w3_w_1 1
    conv at c_w3_w_1_1 => rhs; simp [go_sem, *]
    have f_w3_w_1_1 := f_w3_w_1 1
    conv at f_w3_w_1_1 => rhs; simp [go_sem, *]
    have c_w3_w_1_2 := c_w3_w_1 2
    conv at c_w3_w_1_2 => rhs; simp [go_sem, *]
    have f_w3_w_1_2 := f_w3_w_1 2
    conv at f_w3_w_1_2 => rhs; simp [go_sem, *]
    have c_w3_w_1_3 := c_w3_w_1 3
    conv at c_w3_w_1_3 => rhs; simp [go_sem, *]
    have f_w3_w_1_3 := f_w3_w_1 3
    conv at f_w3_w_1_3 => rhs; simp [go_sem, *]
    have c_w3_w_1_4 := c_w3_w_1 4
    conv at c_w3_w_1_4 => rhs; simp [go_sem, *]
    have f_w3_w_1_4 := f_w3_w_1 4
    conv at f_w3_w_1_4 => rhs; simp [go_sem, *]
    have c_w3_w_1_5 := c_w3_w_1 5
    conv at c_w3_w_1_5 => rhs; simp [go_sem, *]
    have f_w3_w_1_5 := f_w3_w_1 5
    conv at f_w3_w_1_5 => rhs; simp [go_sem, *]
    have HH_w3 := Lib.hid hb_w3
    have hB_w3 : Below w.heap.size w w3 := Below.trans (by (repeat (first | (with_reducible exact Below.refl _ _) | (with_reducible assumption) | (with_reducible refine Below.drew ?_) | (focus ((with_reducible refine Below.setCell ?_ ?_ _); rotate_left; (first | omega | (simp <;> omega)))) | (focus ((with_reducible refine Below.alloc ?_ ?_ _); rotate_left; (first | omega | (simp <;> omega)))) | exact Below.refl _ _ | assumption | refine Below.drew ?_ | refine Below.alloc ?_ (by first | omega | (simp <;> omega)) _ | refine Below.setCell ?_ (by first | omega | (simp <;> omega)) _))) (hb_w3.mono (by first | omega | (simp <;> omega)))
    clear hb_w3 c_w3_w_0 f_w3_w_0 c_w3_w_1 f_w3_w_1
    try clear c_w2_w_0_0
    try clear f_w2_w_0_0
    try clear c_w2_w_0_1
    try clear f_w2_w_0_1
    try clear c_w2_w_0_2
    try clear f_w2_w_0_2
    try clear c_w2_w_0_3
    try clear f_w2_w_0_3
    try clear c_w2_w_0_4
    try clear f_w2_w_0_4
    try clear c_w2_w_0_5
    try clear f_w2_w_0_5
    try clear c_w2_w_0_6
    try clear f_w2_w_0_6
    try clear c_w2_w_1_0
    try clear f_w2_w_1_0
    try clear c_w2_w_1_1
    try clear f_w2_w_1_1
    try clear c_w2_w_1_2
    try clear f_w2_w_1_2
    try clear c_w2_w_1_3
    try clear f_w2_w_1_3
    try clear c_w2_w_1_4
    try clear f_w2_w_1_4
    try clear c_w2_w_1_5
    try clear f_w2_w_1_5
    try clear far_w2_w_0
    try clear far_w2_w_1
    try clear hB_w2
    have far_w3_w_0 := far (show w.heap.size < w3.heap.size by omega)
    have far_w3_w_1 := far (show w.heap.size + 1 < w3.heap.size by omega)
    go_wp2_with fail
    refine Calls.mono (UQ.out _ (by (repeat (first | (with_reducible exact Below.refl _ _) | (with_reducible assumption) | (with_reducible refine Below.drew ?_) | (focus ((with_reducible refine Below.setCell ?_ ?_ _); rotate_left; (first | omega | (simp <;> omega)))) | (focus ((with_reducible refine Below.alloc ?_ ?_ _); rotate_left; (first | omega | (simp <;> omega)))) | exact Below.refl _ _ | assumption | refine Below.drew ?_ | refine Below.alloc ?_ (by first | omega | (simp <;> omega)) _ | refine Below.setCell ?_ (by first | omega | (simp <;> omega)) _)))) ?_
    rintro e w5 ⟨rfl, hb_w5⟩
    have hz_w5 := hb_w5.size
    try simp at hz_w5
    obtain ⟨c_w5_w_0, f_w5_w_0⟩ := bk hb_w5 (w.heap.size) (by first | omega | (simp <;> omega))
    have c_w5_w_0_0 := c_w5_w_0 0
    conv at c_w5_w_0_0 => rhs; simp [go_sem, *]
    have f_w5_w_0_0 := f_w5_w_0 0
    conv at f_w5_w_0_0 => rhs; simp [go_sem, *]
    have c_w5_w_0_1 := c_w5_w_0 1
    conv at c_w5_w_0_1 => rhs; simp [go_sem, *]
    have f_w5_w_0_1 := f_w5_w_0 1
    conv at f_w5_w_0_1 => rhs; simp [go_sem, *]
    have c_w5_w_0_2 := c_w5_w_0 2
    conv at c_w5_w_0_2 => rhs; simp [go_sem, *]
    have f_w5_w_0_2 := f_w5_w_0 2
    conv at f_w5_w_0_2 => rhs; simp [go_sem, *]
    have c_w5_w_0_3 := c_w5_w_0 3
    conv at c_w5_w_0_3 => rhs; simp [go_sem, *]
    have f_w5_w_0_3 := f_w5_w_0 3
    conv at f_w5_w_0_3 => rhs; simp [go_sem, *]
    have c_w5_w_0_4 := c_w5_w_0 4
    conv at c_w5_w_0_4 => rhs; simp [go_sem, *]
    have f_w5_w_0_4 := f_w5_w_0 4
    conv at f_w5_w_0_4 => rhs; simp [go_sem, *]
    have c_w5_w_0_5 := c_w5_w_0 5
    conv at c_w5_w_0_5 => rhs; simp [go_sem, *]
    have f_w5_w_0_5 := f_w5_w_0 5
    conv at f_w5_w_0_5 => rhs; simp [go_sem, *]
    have c_w5_w_0_6 := c_w5_w_0 6
    conv at c_w5_w_0_6 => rhs; simp [go_sem, *]
    have f_w5_w_0_6 := f_w5_w_0 6
    conv at f_w5_w_0_6 => rhs; simp [go_sem, *]
    obtain ⟨c_w5_w_1, f_w5_w_1⟩ := bk hb_w5 (w.heap.size + 1) (by first | omega | (simp <;> omega))
    have c_w5_w_1_0 := c_w5_w_1 0
    conv at c_w5_w_1_0 => rhs; simp [go_sem, *]
    have f_w5_w_1_0 := f_w5_w_1 0
    conv at f_w5_w_1_0 => rhs; simp [go_sem, *]
    have c_w5_w_1_1 := c_w5_w_1 1
    conv at c_w5_w_1_1 => rhs; simp [go_sem, *]
    have f_w5_w_1_1 := f_w5_w_1 1
    conv at f_w5_w_1_1 => rhs; simp [go_sem, *]
    have c_w5_w_1_2 := c_w5_w_1 2
    conv at c_w5_w_1_2 => rhs; simp [go_sem, *]
    have f_w5_w_1_2 := f_w5_w_1 2
    conv at f_w5_w_1_2 => rhs; simp [go_sem, *]
    have c_w5_w_1_3 := c_w5_w_1 3
    conv at c_w5_w_1_3 => rhs; simp [go_sem, *]
    have f_w5_w_1_3 := f_w5_w_1 3
    conv at f_w5_w_1_3 => rhs; simp [go_sem, *]
    have c_w5_w_1_4 := c_w5_w_1 4
    conv at c_w5_w_1_4 => rhs; simp [go_sem, *]
    have f_w5_w_1_4 := f_w5_w_1 4
    conv at f_w5_w_1_4 => rhs; simp [go_sem, *]
    have c_w5_w_1_5 := c_w5_w_1 5
    conv at c_w5_w_1_5 => rhs; simp [go_sem, *]
    have f_w5_w_1_5 := f_w5_w_1 5
    conv at f_w5_w_1_5 => rhs; simp [go_sem, *]
    have HH_w5 := Lib.hid hb_w5
    have hB_w5 : Below w.heap.size w w5 := Below.trans (by (repeat (first | (with_reducible exact Below.refl _ _) | (with_reducible assumption) | (with_reducible refine Below.drew ?_) | (focus ((with_reducible refine Below.setCell ?_ ?_ _); rotate_left; (first | omega | (simp <;> omega)))) | (focus ((with_reducible refine Below.alloc ?_ ?_ _); rotate_left; (first | omega | (simp <;> omega)))) | exact Below.refl _ _ | assumption | refine Below.drew ?_ | refine Below.alloc ?_ (by first | omega | (simp <;> omega)) _ | refine Below.setCell ?_ (by first | omega | (simp <;> omega)) _))) (hb_w5.mono (by first | omega | (simp <;> omega)))
    clear hb_w5 c_w5_w_0 f_w5_w_0 c_w5_w_1 f_w5_w_1
    try clear c_w3_w_0_0
    try clear f_w3_w_0_0
    try clear c_w3_w_0_1
    try clear f_w3_w_0_1
    try clear c_w3_w_0_2
    try clear f_w3_w_0_2
    try clear c_w3_w_0_3
    try clear f_w3_w_0_3
    try clear c_w3_w_0_4
    try clear f_w3_w_0_4
    try clear c_w3_w_0_5
    try clear f_w3_w_0_5
    try clear c_w3_w_0_6
    try clear f_w3_w_0_6
    try clear c_w3_w_1_0
    try clear f_w3_w_1_0
    try clear c_w3_w_1_1
    try clear f_w3_w_1_1
    try clear c_w3_w_1_2
    try clear f_w3_w_1_2
    try clear c_w3_w_1_3
    try clear f_w3_w_1_3
    try clear c_w3_w_1_4
    try clear f_w3_w_1_4
    try clear c_w3_w_1_5
    try clear f_w3_w_1_5
    try clear far_w3_w_0
    try clear far_w3_w_1
    try clear hB_w3
    have far_w5_w_0 := far (show w.heap.size < w5.heap.size by omega)
    have far_w5_w_1 := far (show w.heap.size + 1 < w5.heap.size by omega)
    go_wp2
    refine bodyPost_ret (v := .tuple #[uv false [] 0 [] false [], .string (S []), .int .i64 20]) (by simp [results, Tryz.results7, go_sem, *]) rfl ⟨rfl, ?_⟩
    (repeat (first | (with_reducible exact Below.refl _ _) | (with_reducible assumption) | (with_reducible refine Below.drew ?_) | (focus ((with_reducible refine Below.setCell ?_ ?_ _); rotate_left; (first | omega | (simp <;> omega)))) | (focus ((with_reducible refine Below.alloc ?_ ?_ _); rotate_left; (first | omega | (simp <;> omega)))) | exact Below.refl _ _ | assumption | refine Below.drew ?_ | refine Below.alloc ?_ (by first | omega | (simp <;> omega)) _ | refine Below.setCell ?_ (by first | omega | (simp <;> omega)) _))
  · subst he
    rw [if_neg (by simp)] at HA
    by_cases hg : g = 0
    rotate_left
    · have hg1 : (g == 0) = false := by simpa using hg
      have hg2 : (g != 0) = true := by unfold bne; rw [hg1]; rfl
      rw [if_pos hg] at HA
      subst HA
      go_enter Tryz.func7, Tryz.ntmps7
      go_wp2_with fail
      refine Calls.mono (RR.out _ (by (repeat (first | (with_reducible exact Below.refl _ _) | (with_reducible assumption) | (with_reducible refine Below.drew ?_) | (focus ((with_reducible refine Below.setCell ?_ ?_ _); rotate_left; (first | omega | (simp <;> omega)))) | (focus ((with_reducible refine Below.alloc ?_ ?_ _); rotate_left; (first | omega | (simp <;> omega)))) | exact Below.refl _ _ | assumption | refine Below.drew ?_ | refine Below.alloc ?_ (by first | omega | (simp <;> omega)) _ | refine Below.setCell ?_ (by first | omega | (simp <;> omega)) _)))) ?_
      rintro e w1 ⟨rfl, hb_w1⟩
      have hz_w1 := hb_w1.size
      try simp at hz_w1
      obtain ⟨c_w1_w_0, f_w1_w_0⟩ := bk hb_w1 (w.heap.size) (by first | omega | (simp <;> omega))
      have c_w1_w_0_0 := c_w1_w_0 0
      conv at c_w1_w_0_0 => rhs; simp [go_sem, *]
      have f_w1_w_0_0 := f_w1_w_0 0
      conv at f_w1_w_0_0 => rhs; simp [go_sem, *]
      have c_w1_w_0_1 := c_w1_w_0 1
      conv at c_w1_w_0_1 => rhs; simp [go_sem, *]
      have f_w1_w_0_1 := f_w1_w_0 1
      conv at f_w1_w_0_1 => rhs; simp [go_sem, *]
      have c_w1_w_0_2 := c_w1_w_0 2
      conv at c_w1_w_0_2 => rhs; simp [go_sem, *]
      have f_w1_w_0_2 := f_w1_w_0 2
      conv at f_w1_w_0_2 => rhs; simp [go_sem, *]
      have c_w1_w_0_3 := c_w1_w_0 3
      conv at c_w1_w_0_3 => rhs; simp [go_sem, *]
      have f_w1_w_0_3 := f_w1_w_0 3
      conv at f_w1_w_0_3 => rhs; simp [go_sem, *]
      have c_w1_w_0_4 := c_w1_w_0 4
      conv at c_w1_w_0_4 => rhs; simp [go_sem, *]
      have f_w1_w_0_4 := f_w1_w_0 4
      conv at f_w1_w_0_4 => rhs; simp [go_sem, *]
      have c_w1_w_0_5 := c_w1_w_0 5
      conv at c_w1_w_0_5 => rhs; simp [go_sem, *]
      have f_w1_w_0_5 := f_w1_w_0 5
      conv at f_w1_w_0_5 => rhs; simp [go_sem, *]
      have c_w1_w_0_6 := c_w1_w_0 6
      conv at c_w1_w_0_6 => rhs; simp [go_sem, *]
      have f_w1_w_0_6 := f_w1_w_0 6
      conv at f_w1_w_0_6 => rhs; simp [go_sem, *]
      obtain ⟨c_w1_w_1, f_w1_w_1⟩ := bk hb_w1 (w.heap.size + 1) (by first | omega | (simp <;> omega))
      have c_w1_w_1_0 := c_w1_w_1 0
      conv at c_w1_w_1_0 => rhs; simp [go_sem, *]
      have f_w1_w_1_0 := f_w1_w_1 0
      conv at f_w1_w_1_0 => rhs; simp [go_sem, *]
      have c_w1_w_1_1 := c_w1_w_1 1
      conv at c_w1_w_1_1 => rhs; simp [go_sem, *]
      have f_w1_w_1_1 := f_w1_w_1 1
      conv at f_w1_w_1_1 => rhs; simp [go_sem, *]
      have c_w1_w_1_2 := c_w1_w_1 2
      conv at c_w1_w_1_2 => rhs; simp [go_sem, *]
      have f_w1_w_1_2 := f_w1_w_1 2
      conv at f_w1_w_1_2 => rhs; simp [go_sem, *]
      have c_w1_w_1_3 := c_w1_w_1 3
      conv at c_w1_w_1_3 => rhs; simp [go_sem, *]
      have f_w1_w_1_3 := f_w1_w_1 3
      conv at f_w1_w_1_3 => rhs; simp [go_sem, *]
      have c_w1_w_1_4 := c_w1_w_1 4
      conv at c_w1_w_1_4 => rhs; simp [go_sem, *]
      have f_w1_w_1_4 := f_w1_w_1 4
      conv at f_w1_w_1_4 => rhs; simp [go_sem, *]
      have c_w1_w_1_5 := c_w1_w_1 5
      conv at c_w1_w_1_5 => rhs; simp [go_sem, *]
      have f_w1_w_1_5 := f_w1_w_1 5
      conv at f_w1_w_1_5 => rhs; simp [go_sem, *]
      have HH_w1 := Lib.hid hb_w1
      have hB_w1 : Below w.heap.size w w1 := Below.trans (by (repeat (first | (with_reducible exact Below.refl _ _) | (with_reducible assumption) | (with_reducible refine Below.drew ?_) | (focus ((with_reducible refine Below.setCell ?_ ?_ _); rotate_left; (first | omega | (simp <;> omega)))) | (focus ((with_reducible refine Below.alloc ?_ ?_ _); rotate_left; (first | omega | (simp <;> omega)))) | exact Below.refl _ _ | assumption | refine Below.drew ?_ | refine Below.alloc ?_ (by first | omega | (simp <;> omega)) _ | refine Below.setCell ?_ (by first | omega | (simp <;> omega)) _))) (hb_w1.mono (by first | omega | (simp <;> omega)))
      clear hb_w1 c_w1_w_0 f_w1_w_0 c_w1_w_1 f_w1_w_1
      try clear c_w5_w_0_0
      try clear f_w5_w_0_0
      try clear c_w5_w_0_1
      try clear f_w5_w_0_1
      try clear c_w5_w_0_2
      try clear f_w5_w_0_2
      try clear c_w5_w_0_3
      try clear f_w5_w_0_3
      try clear c_w5_w_0_4
      try clear f_w5_w_0_4
      try clear c_w5_w_0_5
      try clear f_w5_w_0_5
      try clear c_w5_w_0_6
      try clear f_w5_w_0_6
      try clear c_w5_w_1_0
      try clear f_w5_w_1_0
      try clear c_w5_w_1_1
      try clear f_w5_w_1_1
      try clear c_w5_w_1_2
      try clear f_w5_w_1_2
      try clear c_w5_w_1_3
      try clear f_w5_w_1_3
      try clear c_w5_w_1_4
      try clear f_w5_w_1_4
      try clear c_w5_w_1_5
      try clear f_w5_w_1_5
      try clear far_w5_w_0
      try clear far_w5_w_1
      try clear hB_w5
      have far_w1_w_0 := far (show w.heap.size < w1.heap.size by omega)
      have far_w1_w_1 := far (show w.heap.size + 1 < w1.heap.size by omega)
      go_wp2_with fail
      refine Calls.mono (SR.out _) ?_
      rintro e w2 ⟨rfl, hb_w2⟩
      have hz_w2 := hb_w2.size
      try simp at hz_w2
      obtain ⟨c_w2_w_0, f_w2_w_0⟩ := bk hb_w2 (w.heap.size) (by first | omega | (simp <;> omega))
      have c_w2_w_0_0 := c_w2_w_0 0
      conv at c_w2_w_0_0 => rhs; simp [go_sem, *]
      have f_w2_w_0_0 := f_w2_w_0 0
      conv at f_w2_w_0_0 => rhs; simp [go_sem, *]
      have c_w2_w_0_1 := c_w2_w_0 1
      conv at c_w2_w_0_1 => rhs; simp [go_sem, *]
      have f_w2_w_0_1 := f_w2_w_0 1
      conv at f_w2_w_0_1 => rhs; simp [go_sem, *]
      have c_w2_w_0_2 := c_w2_w_0 2
      conv at c_w2_w_0_2 => rhs; simp [go_sem, *]
      have f_w2_w_0_2 := f_w2_w_0 2
      conv at f_w2_w_0_2 => rhs; simp [go_sem, *]
      have c_w2_w_0_3 := c_w2_w_0 3
      conv at c_w2_w_0_3 => rhs; simp [go_sem, *]
      have f_w2_w_0_3 := f_w2_w_0 3
      conv at f_w2_w_0_3 => rhs; simp [go_sem, *]
      have c_w2_w_0_4 := c_w2_w_0 4
      conv at c_w2_w_0_4 => rhs; simp [go_sem, *]
      have f_w2_w_0_4 := f_w2_w_0 4
      conv at f_w2_w_0_4 => rhs; simp [go_sem, *]
      have c_w2_w_0_5 := c_w2_w_0 5
      conv at c_w2_w_0_5 => rhs; simp [go_sem, *]
      have f_w2_w_0_5 := f_w2_w_0 5
      conv at f_w2_w_0_5 => rhs; simp [go_sem, *]
      have c_w2_w_0_6 := c_w2_w_0 6
      conv at c_w2_w_0_6 => rhs; simp [go_sem, *]
      have f_w2_w_0_6 := f_w2_w_0 6
      conv at f_w2_w_0_6 => rhs; simp [go_sem, *]
      obtain ⟨c_w2_w_1, f_w2_w_1⟩ := bk hb_w2 (w.heap.size + 1) (by first | omega | (simp <;> omega))
      have c_w2_w_1_0 := c_w2_w_1 0
      conv at c_w2_w_1_0 => rhs; simp [go_sem, *]
      have f_w2_w_1_0 := f_w2_w_1 0
      conv at f_w2_w_1_0 => rhs; simp [go_sem, *]
      have c_w2_w_1_1 := c_w2_w_1 1
      conv at c_w2_w_1_1 => rhs; simp [go_sem, *]
      have f_w2_w_1_1 := f_w2_w_1 1
      conv at f_w2_w_1_1 => rhs; simp [go_sem, *]
      have c_w2_w_1_2 := c_w2_w_1 2
      conv at c_w2_w_1_2 => rhs; simp [go_sem, *]
      have f_w2_w_1_2 := f_w2_w_1 2
      conv at f_w2_w_1_2 => rhs; simp [go_sem, *]
      have c_w2_w_1_3 := c_w2_w_1 3
      conv at c_w2_w_1_3 => rhs; simp [go_sem, *]
      have f_w2_w_1_3 := f_w2_w_1 3
      conv at f_w2_w_1_3 => rhs; simp [go_sem, *]
      have c_w2_w_1_4 := c_w2_w_1 4
      conv at c_w2_w_1_4 => rhs; simp [go_sem, *]
      have f_w2_w_1_4 := f_w2_w_1 4
      conv at f_w2_w_1_4 => rhs; simp [go_sem, *]
      have c_w2_w_1_5 := c_w2_w_1 5
      conv at c_w2_w_1_5 => rhs; simp [go_sem, *]
      have f_w2_w_1_5 := f_w2_w_1 5
      conv at f_w2_w_1_5 => rhs; simp [go_sem, *]
      have HH_w2 := Lib.hid hb_w2
      have hB_w2 : Below w.heap.size w w2 := Below.trans (by (repeat (first | (with_reducible exact Below.refl _ _) | (with_reducible assumption) | (with_reducible refine Below.drew ?_) | (focus ((with_reducible refine Below.setCell ?_ ?_ _); rotate_left; (first | omega | (simp <;> omega)))) | (focus ((with_reducible refine Below.alloc ?_ ?_ _); rotate_left; (first | omega | (simp <;> omega)))) | exact Below.refl _ _ | assumption | refine Below.drew ?_ | refine Below.alloc ?_ (by first | omega | (simp <;> omega)) _ | refine Below.setCell ?_ (by first | omega | (simp <;> omega)) _))) (hb_w2.mono (by first | omega | (simp <;> omega)))
      clear hb_w2 c_w2_w_0 f_w2_w_0 c_w2_w_1 f_w2_w_1
      try clear c_w1_w_0_0
      try clear f_w1_w_0_0
      try clear c_w1_w_0_1
      try clear f_w1_w_0_1
      try clear c_w1_w_0_2
      try clear f_w1_w_0_2
      try clear c_w1_w_0_3
      try clear f_w1_w_0_3
      try clear c_w1_w_0_4
      try clear f_w1_w_0_4
      try clear c_w1_w_0_5
      try clear f_w1_w_0_5
      try clear c_w1_w_0_6
      try clear f_w1_w_0_6
      try clear c_w1_w_1_0
      try clear f_w1_w_1_0
      try clear c_w1_w_1_1
      try clear f_w1_w_1_1
      try clear c_w1_w_1_2
      try clear f_w1_w_1_2
      try clear c_w1_w_1_3
      try clear f_w1_w_1_3
      try clear c_w1_w_1_4
      try clear f_w1_w_1_4
      try clear c_w1_w_1_5
      try clear f_w1_w_1_5
      try clear far_w1_w_0
      try clear far_w1_w_1
      try clear hB_w1
      have far_w2_w_0 := far (show w.heap.size < w2.heap.size by omega)
      have far_w2_w_1 := far (show w.heap.size + 1 < w2.heap.size by omega)
      go_wp2_with fail
      refine Calls.mono (same_below (HP.out _)) ?_
      rintro e w3 ⟨rfl, hb_w3⟩
      have hz_w3 := hb_w3.size
      try simp at hz_w3
      obtain ⟨c_w3_w_0, f_w3_w_0⟩ := bk hb_w3 (w.heap.size) (by first | omega | (simp <;> omega))
      have c_w3_w_0_0 := c_w3_w_0 0
      conv at c_w3_w_0_0 => rhs; simp [go_sem, *]
      have f_w3_w_0_0 := f_w3_w_0 0
      conv at f_w3_w_0_0 => rhs; simp [go_sem, *]
      have c_w3_w_0_1 := c_w3_w_0 1
      conv at c_w3_w_0_1 => rhs; simp [go_sem, *]
      have f_w3_w_0_1 := f_w3_w_0 1
      conv at f_w3_w_0_1 => rhs; simp [go_sem, *]
      have c_w3_w_0_2 := c_w3_w_0 2
      conv at c_w3_w_0_2 => rhs; simp [go_sem, *]
      have f_w3_w_0_2 := f_w3_w_0 2
      conv at f_w3_w_0_2 => rhs; simp [go_sem, *]
      have c_w3_w_0_3 := c_w3_w_0 3
      conv at c_w3_w_0_3 => rhs; simp [go_sem, *]
      have f_w3_w_0_3 := f_w3_w_0 3
      conv at f_w3_w_0_3 => rhs; simp [go_sem, *]
      have c_w3_w_0_4 := c_w3_w_0 4
      conv at c_w3_w_0_4 => rhs; simp [go_sem, *]
      have f_w3_w_0_4 := f_w3_w_0 4
      conv at f_w3_w_0_4 => rhs; simp [go_sem, *]
      have c_w3_w_0_5 := c_w3_w_0 5
      conv at c_w3_w_0_5 => rhs; simp [go_sem, *]
      have f_w3_w_0_5 := f_w3_w_0 5
      conv at f_w3_w_0_5 => rhs; simp [go_sem, *]
      have c_w3_w_0_6 := c_w3_w_0 6
      conv at c_w3_w_0_6 => rhs; simp [go_sem, *]
      have f_w3_w_0_6 := f_w3_w_0 6
      conv at f_w3_w_0_6 => rhs; simp [go_sem, *]
      obtain ⟨c_w3_w_1, f_w3_w_1⟩ := bk hb_w3 (w.heap.size + 1) (by first | omega | (simp <;> omega))
      have c_w3_w_1_0 := c_w3_w_1 0
      conv at c_w3_w_1_0 => rhs; simp [go_sem, *]
      have f_w3_w_1_0 := f_w3_w_1 0
      conv at f_w3_w_1_0 => rhs; simp [go_sem, *]
      have c_w3_w_1_1 := c_w3_w_1 1
      conv at c_w3_w_1_1 => rhs; simp [go_sem, *]
      have f_w3_w_1_1 := f_w3_w_1 1
      conv at f_w3_w_1_1 => rhs; simp [go_sem, *]
      have c_w3_w_1_2 := c_w3_w_1 2
      conv at c_w3_w_1_2 => rhs; simp [go_sem, *]
      have f_w3_w_1_2 := f_w3_w_1 2
      conv at f_w3_w_1_2 => rhs; simp [go_sem, *]
      have c_w3_w_1_3 := c_w3_w_1 3
      conv at c_w3_w_1_3 => rhs; simp [go_sem, *]
      have f_w3_w_1_3 := f_w3_w_1 3
      conv at f_w3_w_1_3 => rhs; simp [go_sem, *]
      have c_w3_w_1_4 := c_w3_w_1 4
      conv at c_w3_w_1_4 => rhs; simp [go_sem, *]
      have f_w3_w_1_4 := f_w3_w_1 4
      conv at f_w3_w_1_4 => rhs; simp [go_sem, *]
      have c_w3_w_1_5 := c_w3_w_1 5
      conv at c_w3_w_1_5 => rhs; simp [go_sem, *]
      have f_w3_w_1_5 := f_w3_w_1 5
      conv at f_w3_w_1_5 => rhs; simp [go_sem, *]
      have HH_w3 := Lib.hid hb_w3
      have hB_w3 : Below w.heap.size w w3 := Below.trans (by (repeat (first | (with_reducible exact Below.refl _ _) | (with_reducible assumption) | (with_reducible refine Below.drew ?_) | (focus ((with_reducible refine Below.setCell ?_ ?_ _); rotate_left; (first | omega | (simp <;> omega)))) | (focus ((with_reducible refine Below.alloc ?_ ?_ _); rotate_left; (first | omega | (simp <;> omega)))) | exact Below.refl _ _ | assumption | refine Below.drew ?_ | refine Below.alloc ?_ (by first | omega | (simp <;> omega)) _ | refine Below.setCell ?_ (by first | omega | (simp <;> omega)) _))) (hb_w3.mono (by first | omega | (simp <;> omega)))
      clear hb_w3 c_w3_w_0 f_w3_w_0 c_w3_w_1 f_w3_w_1
      try clear c_w2_w_0_0
      try clear f_w2_w_0_0
      try clear c_w2_w_0_1
      try clear f_w2_w_0_1
      try clear c_w2_w_0_2
      try clear f_w2_w_0_2
      try clear c_w2_w_0_3
      try clear f_w2_w_0_3
      try clear c_w2_w_0_4
      try clear f_w2_w_0_4
      try clear c_w2_w_0_5
      try clear f_w2_w_0_5
      try clear c_w2_w_0_6
      try clear f_w2_w_0_6
      try clear c_w2_w_1_0
      try clear f_w2_w_1_0
      try clear c_w2_w_1_1
      try clear f_w2_w_1_1
      try clear c_w2_w_1_2
      try clear f_w2_w_1_2
      try clear c_w2_w_1_3
      try clear f_w2_w_1_3
      try clear c_w2_w_1_4
      try clear f_w2_w_1_4
      try clear c_w2_w_1_5
      try clear f_w2_w_1_5
      try clear far_w2_w_0
      try clear far_w2_w_1
      try clear hB_w2
      have far_w3_w_0 := far (show w.heap.size < w3.heap.size by omega)
      have far_w3_w_1 := far (show w.heap.size + 1 < w3.heap.size by omega)
      go_wp2_with fail
      refine Calls.mono (UQ.out _ (by (repeat (first | (with_reducible exact Below.refl _ _) | (with_reducible assumption) | (with_reducible refine Below.drew ?_) | (focus ((with_reducible refine Below.setCell ?_ ?_ _); rotate_left; (first | omega | (simp <;> omega)))) | (focus ((with_reducible refine Below.alloc ?_ ?_ _); rotate_left; (first | omega | (simp <;> omega)))) | exact Below.refl _ _ | assumption | refine Below.drew ?_ | refine Below.alloc ?_ (by first | omega | (simp <;> omega)) _ | refine Below.setCell ?_ (by first | omega | (simp <;> omega)) _)))) ?_
      rintro e w5 ⟨rfl, hb_w5⟩
      have hz_w5 := hb_w5.size
      try simp at hz_w5
      obtain ⟨c_w5_w_0, f_w5_w_0⟩ := bk hb_w5 (w.heap.size) (by first | omega | (simp <;> omega))
      have c_w5_w_0_0 := c_w5_w_0 0
      conv at c_w5_w_0_0 => rhs; simp [go_sem, *]
      have f_w5_w_0_0 := f_w5_w_0 0
      conv at f_w5_w_0_0 => rhs; simp [go_sem, *]
      have c_w5_w_0_1 := c_w5_w_0 1
      conv at c_w5_w_0_1 => rhs; simp [go_sem, *]
      have f_w5_w_0_1 := f_w5_w_0 1
      conv at f_w5_w_0_1 => rhs; simp [go_sem, *]
      have c_w5_w_0_2 := c_w5_w_0 2
      conv at c_w5_w_0_2 => rhs; simp [go_sem, *]
      have f_w5_w_0_2 := f_w5_w_0 2
      conv at f_w5_w_0_2 => rhs; simp [go_sem, *]
      have c_w5_w_0_3 := c_w5_w_0 3
      conv at c_w5_w_0_3 => rhs; simp [go_sem, *]
      have f_w5_w_0_3 := f_w5_w_0 3
      conv at f_w5_w_0_3 => rhs; simp [go_sem, *]
      have c_w5_w_0_4 := c_w5_w_0 4
      conv at c_w5_w_0_4 => rhs; simp [go_sem, *]
      have f_w5_w_0_4 := f_w5_w_0 4
      conv at f_w5_w_0_4 => rhs; simp [go_sem, *]
      have c_w5_w_0_5 := c_w5_w_0 5
      conv at c_w5_w_0_5 => rhs; simp [go_sem, *]
      have f_w5_w_0_5 := f_w5_w_0 5
      conv at f_w5_w_0_5 => rhs; simp [go_sem, *]
      have c_w5_w_0_6 := c_w5_w_0 6
      conv at c_w5_w_0_6 => rhs; simp [go_sem, *]
      have f_w5_w_0_6 := f_w5_w_0 6
      conv at f_w5_w_0_6 => rhs; simp [go_sem, *]
      obtain ⟨c_w5_w_1, f_w5_w_1⟩ := bk hb_w5 (w.heap.size + 1) (by first | omega | (simp <;> omega))
      have c_w5_w_1_0 := c_w5_w_1 0
      conv at c_w5_w_1_0 => rhs; simp [go_sem, *]
      have f_w5_w_1_0 := f_w5_w_1 0
      conv at f_w5_w_1_0 => rhs; simp [go_sem, *]
      have c_w5_w_1_1 := c_w5_w_1 1
      conv at c_w5_w_1_1 => rhs; simp [go_sem, *]
      have f_w5_w_1_1 := f_w5_w_1 1
      conv at f_w5_w_1_1 => rhs; simp [go_sem, *]
      have c_w5_w_1_2 := c_w5_w_1 2
      conv at c_w5_w_1_2 => rhs; simp [go_sem, *]
      have f_w5_w_1_2 := f_w5_w_1 2
      conv at f_w5_w_1_2 => rhs; simp [go_sem, *]
      have c_w5_w_1_3 := c_w5_w_1 3
      conv at c_w5_w_1_3 => rhs; simp [go_sem, *]
      have f_w5_w_1_3 := f_w5_w_1 3
      conv at f_w5_w_1_3 => rhs; simp [go_sem, *]
      have c_w5_w_1_4 := c_w5_w_1 4
      conv at c_w5_w_1_4 => rhs; simp [go_sem, *]
      have f_w5_w_1_4 := f_w5_w_1 4
      conv at f_w5_w_1_4 => rhs; simp [go_sem, *]
      have c_w5_w_1_5 := c_w5_w_1 5
      conv at c_w5_w_1_5 => rhs; simp [go_sem, *]
      have f_w5_w_1_5 := f_w5_w_1 5
      conv at f_w5_w_1_5 => rhs; simp [go_sem, *]
      have HH_w5 := Lib.hid hb_w5
      have hB_w5 : Below w.heap.size w w5 := Below.trans (by (repeat (first | (with_reducible exact Below.refl _ _) | (with_reducible assumption) | (with_reducible refine Below.drew ?_) | (focus ((with_reducible refine Below.setCell ?_ ?_ _); rotate_left; (first | omega | (simp <;> omega)))) | (focus ((with_reducible refine Below.alloc ?_ ?_ _); rotate_left; (first | omega | (simp <;> omega)))) | exact Below.refl _ _ | assumption | refine Below.drew ?_ | refine Below.alloc ?_ (by first | omega | (simp <;> omega)) _ | refine Below.setCell ?_ (by first | omega | (simp <;> omega)) _))) (hb_w5.mono (by first | omega | (simp <;> omega)))
      clear hb_w5 c_w5_w_0 f_w5_w_0 c_w5_w_1 f_w5_w_1
      try clear c_w3_w_0_0
      try clear f_w3_w_0_0
      try clear c_w3_w_0_1
      try clear f_w3_w_0_1
      try clear c_w3_w_0_2
      try clear f_w3_w_0_2
      try clear c_w3_w_0_3
      try clear f_w3_w_0_3
      try clear c_w3_w_0_4
      try clear f_w3_w_0_4
      try clear c_w3_w_0_5
      try clear f_w3_w_0_5
      try clear c_w3_w_0_6
      try clear f_w3_w_0_6
      try clear c_w3_w_1_0
      try clear f_w3_w_1_0
      try clear c_w3_w_1_1
      try clear f_w3_w_1_1
      try clear c_w3_w_1_2
      try clear f_w3_w_1_2
      try clear c_w3_w_1_3
      try clear f_w3_w_1_3
      try clear c_w3_w_1_4
      try clear f_w3_w_1_4
      try clear c_w3_w_1_5
      try clear f_w3_w_1_5
      try clear far_w3_w_0
      try clear far_w3_w_1
      try clear hB_w3
      have far_w5_w_0 := far (show w.heap.size < w5.heap.size by omega)
      have far_w5_w_1 := far (show w.heap.size + 1 < w5.heap.size by omega)
      go_wp2_with fail
      refine Calls.mono (FQ.out _ (by (repeat (first | (with_reducible exact Below.refl _ _) | (with_reducible assumption) | (with_reducible refine Below.drew ?_) | (focus ((with_reducible refine Below.setCell ?_ ?_ _); rotate_left; (first | omega | (simp <;> omega)))) | (focus ((with_reducible refine Below.alloc ?_ ?_ _); rotate_left; (first | omega | (simp <;> omega)))) | exact Below.refl _ _ | assumption | refine Below.drew ?_ | refine Below.alloc ?_ (by first | omega | (simp <;> omega)) _ | refine Below.setCell ?_ (by first | omega | (simp <;> omega)) _)))) ?_
      rintro e w6 ⟨rfl, hb_w6⟩
      have hz_w6 := hb_w6.size
      try simp at hz_w6
      obtain ⟨c_w6_w_0, f_w6_w_0⟩ := bk hb_w6 (w.heap.size) (by first | omega | (simp <;> omega))
      have c_w6_w_0_0 := c_w6_w_0 0
      conv at c_w6_w_0_0 => rhs; simp [go_sem, *]
      have f_w6_w_0_0 := f_w6_w_0 0
      conv at f_w6_w_0_0 => rhs; simp [go_sem, *]
      have c_w6_w_0_1 := c_w6_w_0 1
      conv at c_w6_w_0_1 => rhs; simp [go_sem, *]
      have f_w6_w_0_1 := f_w6_w_0 1
      conv at f_w6_w_0_1 => rhs; simp [go_sem, *]
      have c_w6_w_0_2 := c_w6_w_0 2
      conv at c_w6_w_0_2 => rhs; simp [go_sem, *]
      have f_w6_w_0_2 := f_w6_w_0 2
      conv at f_w6_w_0_2 => rhs; simp [go_sem, *]
      have c_w6_w_0_3 := c_w6_w_0 3
      conv at c_w6_w_0_3 => rhs; simp [go_sem, *]
      have f_w6_w_0_3 := f_w6_w_0 3
      conv at f_w6_w_0_3 => rhs; simp [go_sem, *]
      have c_w6_w_0_4 := c_w6_w_0 4
      conv at c_w6_w_0_4 => rhs; simp [go_sem, *]
      have f_w6_w_0_4 := f_w6_w_0 4
      conv at f_w6_w_0_4 => rhs; simp [go_sem, *]
      have c_w6_w_0_5 := c_w6_w_0 5
      conv at c_w6_w_0_5 => rhs; simp [go_sem, *]
      have f_w6_w_0_5 := f_w6_w_0 5
      conv at f_w6_w_0_5 => rhs; simp [go_sem, *]
      have c_w6_w_0_6 := c_w6_w_0 6
      conv at c_w6_w_0_6 => rhs; simp [go_sem, *]
      have f_w6_w_0_6 := f_w6_w_0 6
      conv at f_w6_w_0_6 => rhs; simp [go_sem, *]
      obtain ⟨c_w6_w_1, f_w6_w_1⟩ := bk hb_w6 (w.heap.size + 1) (by first | omega | (simp <;> omega))
      have c_w6_w_1_0 := c_w6_w_1 0
      conv at c_w6_w_1_0 => rhs; simp [go_sem, *]
      have f_w6_w_1_0 := f_w6_w_1 0
      conv at f_w6_w_1_0 => rhs; simp [go_sem, *]
      have c_w6_w_1_1 := c_w6_w_1 1
      conv at c_w6_w_1_1 => rhs; simp [go_sem, *]
      have f_w6_w_1_1 := f_w6_w_1 1
      conv at f_w6_w_1_1 => rhs; simp [go_sem, *]
      have c_w6_w_1_2 := c_w6_w_1 2
      conv at c_w6_w_1_2 => rhs; simp [go_sem, *]
      have f_w6_w_1_2 := f_w6_w_1 2
      conv at f_w6_w_1_2 => rhs; simp [go_sem, *]
      have c_w6_w_1_3 := c_w6_w_1 3
      conv at c_w6_w_1_3 => rhs; simp [go_sem, *]
      have f_w6_w_1_3 := f_w6_w_1 3
      conv at f_w6_w_1_3 => rhs; simp [go_sem, *]
      have c_w6_w_1_4 := c_w6_w_1 4
      conv at c_w6_w_1_4 => rhs; simp [go_sem, *]
      have f_w6_w_1_4 := f_w6_w_1 4
      conv at f_w6_w_1_4 => rhs; simp [go_sem, *]
      have c_w6_w_1_5 := c_w6_w_1 5
      conv at c_w6_w_1_5 => rhs; simp [go_sem, *]
      have f_w6_w_1_5 := f_w6_w_1 5
      conv at f_w6_w_1_5 => rhs; simp [go_sem, *]
      obtain ⟨c_w6_w5_0, f_w6_w5_0⟩ := bk hb_w6 (w5.heap.size) (by first | omega | (simp <;> omega))
      have c_w6_w5_0_0 := c_w6_w5_0 0
      conv at c_w6_w5_0_0 => rhs; simp [go_sem, *]
      have f_w6_w5_0_0 := f_w6_w5_0 0
      conv at f_w6_w5_0_0 => rhs; simp [go_sem, *]
      have c_w6_w5_0_1 := c_w6_w5_0 1
      conv at c_w6_w5_0_1 => rhs; simp [go_sem, *]
      have f_w6_w5_0_1 := f_w6_w5_0 1
      conv at f_w6_w5_0_1 => rhs; simp [go_sem, *]
      have c_w6_w5_0_2 := c_w6_w5_0 2
      conv at c_w6_w5_0_2 => rhs; simp [go_sem, *]
      have f_w6_w5_0_2 := f_w6_w5_0 2
      conv at f_w6_w5_0_2 => rhs; simp [go_sem, *]
      have c_w6_w5_0_3 := c_w6_w5_0 3
      conv at c_w6_w5_0_3 => rhs; simp [go_sem, *]
      have f_w6_w5_0_3 := f_w6_w5_0 3
      conv at f_w6_w5_0_3 => rhs; simp [go_sem, *]
      have c_w6_w5_0_4 := c_w6_w5_0 4
      conv at c_w6_w5_0_4 => rhs; simp [go_sem, *]
      have f_w6_w5_0_4 := f_w6_w5_0 4
      conv at f_w6_w5_0_4 => rhs; simp [go_sem, *]
      have c_w6_w5_0_5 := c_w6_w5_0 5
      conv at c_w6_w5_0_5 => rhs; simp [go_sem, *]
      have f_w6_w5_0_5 := f_w6_w5_0 5
      conv at f_w6_w5_0_5 => rhs; simp [go_sem, *]
      have HH_w6 := Lib.hid hb_w6
      have hB_w6 : Below w.heap.size w w6 := Below.trans (by (repeat (first | (with_reducible exact Below.refl _ _) | (with_reducible assumption) | (with_reducible refine Below.drew ?_) | (focus ((with_reducible refine Below.setCell ?_ ?_ _); rotate_left; (first | omega | (simp <;> omega)))) | (focus ((with_reducible refine Below.alloc ?_ ?_ _); rotate_left; (first | omega | (simp <;> omega)))) | exact Below.refl _ _ | assumption | refine Below.drew ?_ | refine Below.alloc ?_ (by first | omega | (simp <;> omega)) _ | refine Below.setCell ?_ (by first | omega | (simp <;> omega)) _))) (hb_w6.mono (by first | omega | (simp <;> omega)))
      clear hb_w6 c_w6_w_0 f_w6_w_0 c_w6_w_1 f_w6_w_1 c_w6_w5_0 f_w6_w5_0
      try clear c_w5_w_0_0
      try clear f_w5_w_0_0
      try clear c_w5_w_0_1
      try clear f_w5_w_0_1
      try clear c_w5_w_0_2
      try clear f_w5_w_0_2
      try clear c_w5_w_0_3
      try clear f_w5_w_0_3
      try clear c_w5_w_0_4
      try clear f_w5_w_0_4
      try clear c_w5_w_0_5
      try clear f_w5_w_0_5
      try clear c_w5_w_0_6
      try clear f_w5_w_0_6
      try clear c_w5_w_1_0
      try clear f_w5_w_1_0
      try clear c_w5_w_1_1
      try clear f_w5_w_1_1
      try clear c_w5_w_1_2
      try clear f_w5_w_1_2
      try clear c_w5_w_1_3
      try clear f_w5_w_1_3
      try clear c_w5_w_1_4
      try clear f_w5_w_1_4
      try clear c_w5_w_1_5
      try clear f_w5_w_1_5
      try clear far_w5_w_0
      try clear far_w5_w_1
      try clear hB_w5
      have far_w6_w_0 := far (show w.heap.size < w6.heap.size by omega)
      have far_w6_w_1 := far (show w.heap.size + 1 < w6.heap.size by omega)
      have far_w6_w5_0 := far (show w5.heap.size < w6.heap.size by omega)
      go_wp2
      refine bodyPost_ret (v := .tuple #[uv false [] 0 [] false [], .string (S []), .int .i64 g]) (by simp [results, Tryz.results7, go_sem, *]) rfl ⟨rfl, ?_⟩
      (repeat (first | (with_reducible exact Below.refl _ _) | (with_reducible assumption) | (with_reducible refine Below.drew ?_) | (focus ((with_reducible refine Below.setCell ?_ ?_ _); rotate_left; (first | omega | (simp <;> omega)))) | (focus ((with_reducible refine Below.alloc ?_ ?_ _); rotate_left; (first | omega | (simp <;> omega)))) | exact Below.refl _ _ | assumption | refine Below.drew ?_ | refine Below.alloc ?_ (by first | omega | (simp <;> omega)) _ | refine Below.setCell ?_ (by first | omega | (simp <;> omega)) _))
    · subst hg
      rw [if_neg (by simp)] at HA
      subst HA
      go_enter Tryz.func7, Tryz.ntmps7
      go_wp2_with fail
      refine Calls.mono (RR.out _ (by (repeat (first | (with_reducible exact Below.refl _ _) | (with_reducible assumption) | (with_reducible refine Below.drew ?_) | (focus ((with_reducible refine Below.setCell ?_ ?_ _); rotate_left; (first | omega | (simp <;> omega)))) | (focus ((with_reducible refine Below.alloc ?_ ?_ _); rotate_left; (first | omega | (simp <;> omega)))) | exact Below.refl _ _ | assumption | refine Below.drew ?_ | refine Below.alloc ?_ (by first | omega | (simp <;> omega)) _ | refine Below.setCell ?_ (by first | omega | (simp <;> omega)) _)))) ?_
      rintro e w1 ⟨rfl, hb_w1⟩
      have hz_w1 := hb_w1.size
      try simp at hz_w1
      obtain ⟨c_w1_w_0, f_w1_w_0⟩ := bk hb_w1 (w.heap.size) (by first | omega | (simp <;> omega))
      have c_w1_w_0_0 := c_w1_w_0 0
      conv at c_w1_w_0_0 => rhs; simp [go_sem, *]
      have f_w1_w_0_0 := f_w1_w_0 0
      conv at f_w1_w_0_0 => rhs; simp [go_sem, *]
      have c_w1_w_0_1 := c_w1_w_0 1
      conv at c_w1_w_0_1 => rhs; simp [go_sem, *]
      have f_w1_w_0_1 := f_w1_w_0 1
      conv at f_w1_w_0_1 => rhs; simp [go_sem, *]
      have c_w1_w_0_2 := c_w1_w_0 2
      conv at c_w1_w_0_2 => rhs; simp [go_sem, *]
      have f_w1_w_0_2 := f_w1_w_0 2
      conv at f_w1_w_0_2 => rhs; simp [go_sem, *]
      have c_w1_w_0_3 := c_w1_w_0 3
      conv at c_w1_w_0_3 => rhs; simp [go_sem, *]
      have f_w1_w_0_3 := f_w1_w_0 3
      conv at f_w1_w_0_3 => rhs; simp [go_sem, *]
      have c_w1_w_0_4 := c_w1_w_0 4
      conv at c_w1_w_0_4 => rhs; simp [go_sem, *]
      have f_w1_w_0_4 := f_w1_w_0 4
      conv at f_w1_w_0_4 => rhs; simp [go_sem, *]
      have c_w1_w_0_5 := c_w1_w_0 5
      conv at c_w1_w_0_5 => rhs; simp [go_sem, *]
      have f_w1_w_0_5 := f_w1_w_0 5
      conv at f_w1_w_0_5 => rhs; simp [go_sem, *]
      have c_w1_w_0_6 := c_w1_w_0 6
      conv at c_w1_w_0_6 => rhs; simp [go_sem, *]
      have f_w1_w_0_6 := f_w1_w_0 6
      conv at f_w1_w_0_6 => rhs; simp [go_sem, *]
      obtain ⟨c_w1_w_1, f_w1_w_1⟩ := bk hb_w1 (w.heap.size + 1) (by first | omega | (simp <;> omega))
      have c_w1_w_1_0 := c_w1_w_1 0
      conv at c_w1_w_1_0 => rhs; simp [go_sem, *]
      have f_w1_w_1_0 := f_w1_w_1 0
      conv at f_w1_w_1_0 => rhs; simp [go_sem, *]
      have c_w1_w_1_1 := c_w1_w_1 1
      conv at c_w1_w_1_1 => rhs; simp [go_sem, *]
      have f_w1_w_1_1 := f_w1_w_1 1
      conv at f_w1_w_1_1 => rhs; simp [go_sem, *]
      have c_w1_w_1_2 := c_w1_w_1 2
      conv at c_w1_w_1_2 => rhs; simp [go_sem, *]
      have f_w1_w_1_2 := f_w1_w_1 2
      conv at f_w1_w_1_2 => rhs; simp [go_sem, *]
      have c_w1_w_1_3 := c_w1_w_1 3
      conv at c_w1_w_1_3 => rhs; simp [go_sem, *]
      have f_w1_w_1_3 := f_w1_w_1 3
      conv at f_w1_w_1_3 => rhs; simp [go_sem, *]
      have c_w1_w_1_4 := c_w1_w_1 4
      conv at c_w1_w_1_4 => rhs; simp [go_sem, *]
      have f_w1_w_1_4 := f_w1_w_1 4
      conv at f_w1_w_1_4 => rhs; simp [go_sem, *]
      have c_w1_w_1_5 := c_w1_w_1 5
      conv at c_w1_w_1_5 => rhs; simp [go_sem, *]
      have f_w1_w_1_5 := f_w1_w_1 5
      conv at f_w1_w_1_5 => rhs; simp [go_sem, *]
      have HH_w1 := Lib.hid hb_w1
      have hB_w1 : Below w.heap.size w w1 := Below.trans (by (repeat (first | (with_reducible exact Below.refl _ _) | (with_reducible assumption) | (with_reducible refine Below.drew ?_) | (focus ((with_reducible refine Below.setCell ?_ ?_ _); rotate_left; (first | omega | (simp <;> omega)))) | (focus ((with_reducible refine Below.alloc ?_ ?_ _); rotate_left; (first | omega | (simp <;> omega)))) | exact Below.refl _ _ | assumption | refine Below.drew ?_ | refine Below.alloc ?_ (by first | omega | (simp <;> omega)) _ | refine Below.setCell ?_ (by first | omega | (simp <;> omega)) _))) (hb_w1.mono (by first | omega | (simp <;> omega)))
      clear hb_w1 c_w1_w_0 f_w1_w_0 c_w1_w_1 f_w1_w_1
      try clear c_w6_w_0_0
      try clear f_w6_w_0_0
      try clear c_w6_w_0_1
      try clear f_w6_w_0_1
      try clear c_w6_w_0_2
      try clear f_w6_w_0_2
      try clear c_w6_w_0_3
      try clear f_w6_w_0_3
      try clear c_w6_w_0_4
      try clear f_w6_w_0_4
      try clear c_w6_w_0_5
      try clear f_w6_w_0_5
      try clear c_w6_w_0_6
      try clear f_w6_w_0_6
      try clear c_w6_w_1_0
      try clear f_w6_w_1_0
      try clear c_w6_w_1_1
      try clear f_w6_w_1_1
      try clear c_w6_w_1_2
      try clear f_w6_w_1_2
      try clear c_w6_w_1_3
      try clear f_w6_w_1_3
      try clear c_w6_w_1_4
      try clear f_w6_w_1_4
      try clear c_w6_w_1_5
      try clear f_w6_w_1_5
      try clear c_w6_w5_0_0
      try clear f_w6_w5_0_0
      try clear c_w6_w5_0_1
      try clear f_w6_w5_0_1
      try clear c_w6_w5_0_2
      try clear f_w6_w5_0_2
      try clear c_w6_w5_0_3
      try clear f_w6_w5_0_3
      try clear c_w6_w5_0_4
      try clear f_w6_w5_0_4
      try clear c_w6_w5_0_5
      try clear f_w6_w5_0_5
      try clear far_w6_w_0
      try clear far_w6_w_1
      try clear far_w6_w5_0
      try clear hB_w6
      have far_w1_w_0 := far (show w.heap.size < w1.heap.size by omega)
      have far_w1_w_1 := far (show w.heap.size + 1 < w1.heap.size by omega)
      go_wp2_with fail
      refine Calls.mono (SR.out _) ?_
      rintro e w2 ⟨rfl, hb_w2⟩
      have hz_w2 := hb_w2.size
      try simp at hz_w2
      obtain ⟨c_w2_w_0, f_w2_w_0⟩ := bk hb_w2 (w.heap.size) (by first | omega | (simp <;> omega))
      have c_w2_w_0_0 := c_w2_w_0 0
      conv at c_w2_w_0_0 => rhs; simp [go_sem, *]
      have f_w2_w_0_0 := f_w2_w_0 0
      conv at f_w2_w_0_0 => rhs; simp [go_sem, *]
      have c_w2_w_0_1 := c_w2_w_0 1
      conv at c_w2_w_0_1 => rhs; simp [go_sem, *]
      have f_w2_w_0_1 := f_w2_w_0 1
      conv at f_w2_w_0_1 => rhs; simp [go_sem, *]
      have c_w2_w_0_2 := c_w2_w_0 2
      conv at c_w2_w_0_2 => rhs; simp [go_sem, *]
      have f_w2_w_0_2 := f_w2_w_0 2
      conv at f_w2_w_0_2 => rhs; simp [go_sem, *]
      have c_w2_w_0_3 := c_w2_w_0 3
      conv at c_w2_w_0_3 => rhs; simp [go_sem, *]
      have f_w2_w_0_3 := f_w2_w_0 3
      conv at f_w2_w_0_3 => rhs; simp [go_sem, *]
      have c_w2_w_0_4 := c_w2_w_0 4
      conv at c_w2_w_0_4 => rhs; simp [go_sem, *]
      have f_w2_w_0_4 := f_w2_w_0 4
      conv at f_w2_w_0_4 => rhs; simp [go_sem, *]
      have c_w2_w_0_5 := c_w2_w_0 5
      conv at c_w2_w_0_5 => rhs; simp [go_sem, *]
      have f_w2_w_0_5 := f_w2_w_0 5
      conv at f_w2_w_0_5 => rhs; simp [go_sem, *]
      have c_w2_w_0_6 := c_w2_w_0 6
      conv at c_w2_w_0_6 => rhs; simp [go_sem, *]
      have f_w2_w_0_6 := f_w2_w_0 6
      conv at f_w2_w_0_6 => rhs; simp [go_sem, *]
      obtain ⟨c_w2_w_1, f_w2_w_1⟩ := bk hb_w2 (w.heap.size + 1) (by first | omega | (simp <;> omega))
      have c_w2_w_1_0 := c_w2_w_1 0
      conv at c_w2_w_1_0 => rhs; simp [go_sem, *]
      have f_w2_w_1_0 := f_w2_w_1 0
      conv at f_w2_w_1_0 => rhs; simp [go_sem, *]
      have c_w2_w_1_1 := c_w2_w_1 1
      conv at c_w2_w_1_1 => rhs; simp [go_sem, *]
      have f_w2_w_1_1 := f_w2_w_1 1
      conv at f_w2_w_1_1 => rhs; simp [go_sem, *]
      have c_w2_w_1_2 := c_w2_w_1 2
      conv at c_w2_w_1_2 => rhs; simp [go_sem, *]
      have f_w2_w_1_2 := f_w2_w_1 2
      conv at f_w2_w_1_2 => rhs; simp [go_sem, *]
      have c_w2_w_1_3 := c_w2_w_1 3
      conv at c_w2_w_1_3 => rhs; simp [go_sem, *]
      have f_w2_w_1_3 := f_w2_w_1 3
      conv at f_w2_w_1_3 => rhs; simp [go_sem, *]
      have c_w2_w_1_4 := c_w2_w_1 4
      conv at c_w2_w_1_4 => rhs; simp [go_sem, *]
      have f_w2_w_1_4 := f_w2_w_1 4
      conv at f_w2_w_1_4 => rhs; simp [go_sem, *]
      have c_w2_w_1_5 := c_w2_w_1 5
      conv at c_w2_w_1_5 => rhs; simp [go_sem, *]
      have f_w2_w_1_5 := f_w2_w_1 5
      conv at f_w2_w_1_5 => rhs; simp [go_sem, *]
      have HH_w2 := Lib.hid hb_w2
      have hB_w2 : Below w.heap.size w w2 := Below.trans (by (repeat (first | (with_reducible exact Below.refl _ _) | (with_reducible assumption) | (with_reducible refine Below.drew ?_) | (focus ((with_reducible refine Below.setCell ?_ ?_ _); rotate_left; (first | omega | (simp <;> omega)))) | (focus ((with_reducible refine Below.alloc ?_ ?_ _); rotate_left; (first | omega | (simp <;> omega)))) | exact Below.refl _ _ | assumption | refine Below.drew ?_ | refine Below.alloc ?_ (by first | omega | (simp <;> omega)) _ | refine Below.setCell ?_ (by first | omega | (simp <;> omega)) _))) (hb_w2.mono (by first | omega | (simp <;> omega)))
      clear hb_w2 c_w2_w_0 f_w2_w_0 c_w2_w_1 f_w2_w_1
      try clear c_w1_w_0_0
      try clear f_w1_w_0_0
      try clear c_w1_w_0_1
      try clear f_w1_w_0_1
      try clear c_w1_w_0_2
      try clear f_w1_w_0_2
      try clear c_w1_w_0_3
      try clear f_w1_w_0_3
      try clear c_w1_w_0_4
      try clear f_w1_w_0_4
      try clear c_w1_w_0_5
      try clear f_w1_w_0_5
      try clear c_w1_w_0_6
      try clear f_w1_w_0_6
      try clear c_w1_w_1_0
      try clear f_w1_w_1_0
      try clear c_w1_w_1_1
      try clear f_w1_w_1_1
      try clear c_w1_w_1_2
      try clear f_w1_w_1_2
      try clear c_w1_w_1_3
      try clear f_w1_w_1_3
      try clear c_w1_w_1_4
      try clear f_w1_w_1_4
      try clear c_w1_w_1_5
      try clear f_w1_w_1_5
      try clear far_w1_w_0
      try clear far_w1_w_1
      try clear hB_w1
      have far_w2_w_0 := far (show w.heap.size < w2.heap.size by omega)
      have far_w2_w_1 := far (show w.heap.size + 1 < w2.heap.size by omega)
      go_wp2_with fail
      refine Calls.mono (same_below (HP.out _)) ?_
      rintro e w3 ⟨rfl, hb_w3⟩
      have hz_w3 := hb_w3.size
      try simp at hz_w3
      obtain ⟨c_w3_w_0, f_w3_w_0⟩ := bk hb_w3 (w.heap.size) (by first | omega | (simp <;> omega))
      have c_w3_w_0_0 := c_w3_w_0 0
      conv at c_w3_w_0_0 => rhs; simp [go_sem, *]
      have f_w3_w_0_0 := f_w3_w_0 0
      conv at f_w3_w_0_0 => rhs; simp [go_sem, *]
      have c_w3_w_0_1 := c_w3_w_0 1
      conv at c_w3_w_0_1 => rhs; simp [go_sem, *]
      have f_w3_w_0_1 := f_w3_w_0 1
      conv at f_w3_w_0_1 => rhs; simp [go_sem, *]
      have c_w3_w_0_2 := c_w3_w_0 2
      conv at c_w3_w_0_2 => rhs; simp [go_sem, *]
      have f_w3_w_0_2 := f_w3_w_0 2
      conv at f_w3_w_0_2 => rhs; simp [go_sem, *]
      have c_w3_w_0_3 := c_w3_w_0 3
      conv at c_w3_w_0_3 => rhs; simp [go_sem, *]
      have f_w3_w_0_3 := f_w3_w_0 3
      conv at f_w3_w_0_3 => rhs; simp [go_sem, *]
      have c_w3_w_0_4 := c_w3_w_0 4
      conv at c_w3_w_0_4 => rhs; simp [go_sem, *]
      have f_w3_w_0_4 := f_w3_w_0 4
      conv at f_w3_w_0_4 => rhs; simp [go_sem, *]
      have c_w3_w_0_5 := c_w3_w_0 5
      conv at c_w3_w_0_5 => rhs; simp [go_sem, *]
      have f_w3_w_0_5 := f_w3_w_0 5
      conv at f_w3_w_0_5 => rhs; simp [go_sem, *]
      have c_w3_w_0_6 := c_w3_w_0 6
      conv at c_w3_w_0_6 => rhs; simp [go_sem, *]
      have f_w3_w_0_6 := f_w3_w_0 6
      conv at f_w3_w_0_6 => rhs; simp [go_sem, *]
      obtain ⟨c_w3_w_1, f_w3_w_1⟩ := bk hb_w3 (w.heap.size + 1) (by first | omega | (simp <;> omega))
      have c_w3_w_1_0 := c_w3_w_1 0
      conv at c_w3_w_1_0 => rhs; simp [go_sem, *]
      have f_w3_w_1_0 := f_w3_w_1 0
      conv at f_w3_w_1_0 => rhs; simp [go_sem, *]
      have c_w3_w_1_1 := c_w3_w_1 1
      conv at c_w3_w_1_1 => rhs; simp [go_sem, *]
      have f_w3_w_1_1 := f_w3_w_1 1
      conv at f_w3_w_1_1 => rhs; simp [go_sem, *]
      have c_w3_w_1_2 := c_w3_w_1 2
      conv at c_w3_w_1_2 => rhs; simp [go_sem, *]
      have f_w3_w_1_2 := f_w3_w_1 2
      conv at f_w3_w_1_2 => rhs; simp [go_sem, *]
      have c_w3_w_1_3 := c_w3_w_1 3
      conv at c_w3_w_1_3 => rhs; simp [go_sem, *]
      have f_w3_w_1_3 := f_w3_w_1 3
      conv at f_w3_w_1_3 => rhs; simp [go_sem, *]
      have c_w3_w_1_4 := c_w3_w_1 4
      conv at c_w3_w_1_4 => rhs; simp [go_sem, *]
      have f_w3_w_1_4 := f_w3_w_1 4
      conv at f_w3_w_1_4 => rhs; simp [go_sem, *]
      have c_w3_w_1_5 := c_w3_w_1 5
      conv at c_w3_w_1_5 => rhs; simp [go_sem, *]
      have f_w3_w_1_5 := f_w3_w_1 5
      conv at f_w3_w_1_5 => rhs; simp [go_sem, *]
      have HH_w3 := Lib.hid hb_w3
      have hB_w3 : Below w.heap.size w w3 := Below.trans (by (repeat (first | (with_reducible exact Below.refl _ _) | (with_reducible assumption) | (with_reducible refine Below.drew ?_) | (focus ((with_reducible refine Below.setCell ?_ ?_ _); rotate_left; (first | omega | (simp <;> omega)))) | (focus ((with_reducible refine Below.alloc ?_ ?_ _); rotate_left; (first | omega | (simp <;> omega)))) | exact Below.refl _ _ | assumption | refine Below.drew ?_ | refine Below.alloc ?_ (by first | omega | (simp <;> omega)) _ | refine Below.setCell ?_ (by first | omega | (simp <;> omega)) _))) (hb_w3.mono (by first | omega | (simp <;> omega)))
      clear hb_w3 c_w3_w_0 f_w3_w_0 c_w3_w_1 f_w3_w_1
      try clear c_w2_w_0_0
      try clear f_w2_w_0_0
      try clear c_w2_w_0_1
      try clear f_w2_w_0_1
      try clear c_w2_w_0_2
      try clear f_w2_w_0_2
      try clear c_w2_w_0_3
      try clear f_w2_w_0_3
      try clear c_w2_w_0_4
      try clear f_w2_w_0_4
      try clear c_w2_w_0_5
      try clear f_w2_w_0_5
      try clear c_w2_w_0_6
      try clear f_w2_w_0_6
      try clear c_w2_w_1_0
      try clear f_w2_w_1_0
      try clear c_w2_w_1_1
      try clear f_w2_w_1_1
      try clear c_w2_w_1_2
      try clear f_w2_w_1_2
      try clear c_w2_w_1_3
      try clear f_w2_w_1_3
      try clear c_w2_w_1_4
      try clear f_w2_w_1_4
      try clear c_w2_w_1_5
      try clear f_w2_w_1_5
      try clear far_w2_w_0
      try clear far_w2_w_1
      try clear hB_w2
      have far_w3_w_0 := far (show w.heap.size < w3.heap.size by omega)
      have far_w3_w_1 := far (show w.heap.size + 1 < w3.heap.size by omega)
      go_wp2_with fail
      refine Calls.mono (UQ.out _ (by (repeat (first | (with_reducible exact Below.refl _ _) | (with_reducible assumption) | (with_reducible refine Below.drew ?_) | (focus ((with_reducible refine Below.setCell ?_ ?_ _); rotate_left; (first | omega | (simp <;> omega)))) | (focus ((with_reducible refine Below.alloc ?_ ?_ _); rotate_left; (first | omega | (simp <;> omega)))) | exact Below.refl _ _ | assumption | refine Below.drew ?_ | refine Below.alloc ?_ (by first | omega | (simp <;> omega)) _ | refine Below.setCell ?_ (by first | omega | (simp <;> omega)) _)))) ?_
      rintro e w5 ⟨rfl, hb_w5⟩
      have hz_w5 := hb_w5.size
      try simp at hz_w5
      obtain ⟨c_w5_w_0, f_w5_w_0⟩ := bk hb_w5 (w.heap.size) (by first | omega | (simp <;> omega))
      have c_w5_w_0_0 := c_w5_w_0 0
      conv at c_w5_w_0_0 => rhs; simp [go_sem, *]
      have f_w5_w_0_0 := f_w5_w_0 0
      conv at f_w5_w_0_0 => rhs; simp [go_sem, *]
      have c_w5_w_0_1 := c_w5_w_0 1
      conv at c_w5_w_0_1 => rhs; simp [go_sem, *]
      have f_w5_w_0_1 := f_w5_w_0 1
      conv at f_w5_w_0_1 => rhs; simp [go_sem, *]
      have c_w5_w_0_2 := c_w5_w_0 2
      conv at c_w5_w_0_2 => rhs; simp [go_sem, *]
      have f_w5_w_0_2 := f_w5_w_0 2
      conv at f_w5_w_0_2 => rhs; simp [go_sem, *]
      have c_w5_w_0_3 := c_w5_w_0 3
      conv at c_w5_w_0_3 => rhs; simp [go_sem, *]
      have f_w5_w_0_3 := f_w5_w_0 3
      conv at f_w5_w_0_3 => rhs; simp [go_sem, *]
      have c_w5_w_0_4 := c_w5_w_0 4
      conv at c_w5_w_0_4 => rhs; simp [go_sem, *]
      have f_w5_w_0_4 := f_w5_w_0 4
      conv at f_w5_w_0_4 => rhs; simp [go_sem, *]
      have c_w5_w_0_5 := c_w5_w_0 5
      conv at c_w5_w_0_5 => rhs; simp [go_sem, *]
      have f_w5_w_0_5 := f_w5_w_0 5
      conv at f_w5_w_0_5 => rhs; simp [go_sem, *]
      have c_w5_w_0_6 := c_w5_w_0 6
      conv at c_w5_w_0_6 => rhs; simp [go_sem, *]
      have f_w5_w_0_6 := f_w5_w_0 6
      conv at f_w5_w_0_6 => rhs; simp [go_sem, *]
      obtain ⟨c_w5_w_1, f_w5_w_1⟩ := bk hb_w5 (w.heap.size + 1) (by first | omega | (simp <;> omega))
      have c_w5_w_1_0 := c_w5_w_1 0
      conv at c_w5_w_1_0 => rhs; simp [go_sem, *]
      have f_w5_w_1_0 := f_w5_w_1 0
      conv at f_w5_w_1_0 => rhs; simp [go_sem, *]
      have c_w5_w_1_1 := c_w5_w_1 1
      conv at c_w5_w_1_1 => rhs; simp [go_sem, *]
      have f_w5_w_1_1 := f_w5_w_1 1
      conv at f_w5_w_1_1 => rhs; simp [go_sem, *]
      have c_w5_w_1_2 := c_w5_w_1 2
      conv at c_w5_w_1_2 => rhs; simp [go_sem, *]
      have f_w5_w_1_2 := f_w5_w_1 2
      conv at f_w5_w_1_2 => rhs; simp [go_sem, *]
      have c_w5_w_1_3 := c_w5_w_1 3
      conv at c_w5_w_1_3 => rhs; simp [go_sem, *]
      have f_w5_w_1_3 := f_w5_w_1 3
      conv at f_w5_w_1_3 => rhs; simp [go_sem, *]
      have c_w5_w_1_4 := c_w5_w_1 4
      conv at c_w5_w_1_4 => rhs; simp [go_sem, *]
      have f_w5_w_1_4 := f_w5_w_1 4
      conv at f_w5_w_1_4 => rhs; simp [go_sem, *]
      have c_w5_w_1_5 := c_w5_w_1 5
      conv at c_w5_w_1_5 => rhs; simp [go_sem, *]
      have f_w5_w_1_5 := f_w5_w_1 5
      conv at f_w5_w_1_5 => rhs; simp [go_sem, *]
      have HH_w5 := Lib.hid hb_w5
      have hB_w5 : Below w.heap.size w w5 := Below.trans (by (repeat (first | (with_reducible exact Below.refl _ _) | (with_reducible assumption) | (with_reducible refine Below.drew ?_) | (focus ((with_reducible refine Below.setCell ?_ ?_ _); rotate_left; (first | omega | (simp <;> omega)))) | (focus ((with_reducible refine Below.alloc ?_ ?_ _); rotate_left; (first | omega | (simp <;> omega)))) | exact Below.refl _ _ | assumption | refine Below.drew ?_ | refine Below.alloc ?_ (by first | omega | (simp <;> omega)) _ | refine Below.setCell ?_ (by first | omega | (simp <;> omega)) _))) (hb_w5.mono (by first | omega | (simp <;> omega)))
      clear hb_w5 c_w5_w_0 f_w5_w_0 c_w5_w_1 f_w5_w_1
      try clear c_w3_w_0_0
      try clear f_w3_w_0_0
      try clear c_w3_w_0_1
      try clear f_w3_w_0_1
      try clear c_w3_w_0_2
      try clear f_w3_w_0_2
      try clear c_w3_w_0_3
      try clear f_w3_w_0_3
      try clear c_w3_w_0_4
      try clear f_w3_w_0_4
      try clear c_w3_w_0_5
      try clear f_w3_w_0_5
      try clear c_w3_w_0_6
      try clear f_w3_w_0_6
      try clear c_w3_w_1_0
      try clear f_w3_w_1_0
      try clear c_w3_w_1_1
      try clear f_w3_w_1_1
      try clear c_w3_w_1_2
      try clear f_w3_w_1_2
      try clear c_w3_w_1_3
      try clear f_w3_w_1_3
      try clear c_w3_w_1_4
      try clear f_w3_w_1_4
      try clear c_w3_w_1_5
      try clear f_w3_w_1_5
      try clear far_w3_w_0
      try clear far_w3_w_1
      try clear hB_w3
      have far_w5_w_0 := far (show w.heap.size < w5.heap.size by omega)
      have far_w5_w_1 := far (show w.heap.size + 1 < w5.heap.size by omega)
      go_wp2_with fail
      refine Calls.mono (FQ.out _ (by (repeat (first | (with_reducible exact Below.refl _ _) | (with_reducible assumption) | (with_reducible refine Below.drew ?_) | (focus ((with_reducible refine Below.setCell ?_ ?_ _); rotate_left; (first | omega | (simp <;> omega)))) | (focus ((with_reducible refine Below.alloc ?_ ?_ _); rotate_left; (first | omega | (simp <;> omega)))) | exact Below.refl _ _ | assumption | refine Below.drew ?_ | refine Below.alloc ?_ (by first | omega | (simp <;> omega)) _ | refine Below.setCell ?_ (by first | omega | (simp <;> omega)) _)))) ?_
      rintro e w6 ⟨rfl, hb_w6⟩
      have hz_w6 := hb_w6.size
      try simp at hz_w6
      obtain ⟨c_w6_w_0, f_w6_w_0⟩ := bk hb_w6 (w.heap.size) (by first | omega | (simp <;> omega))
      have c_w6_w_0_0 := c_w6_w_0 0
      conv at c_w6_w_0_0 => rhs; simp [go_sem, *]
      have f_w6_w_0_0 := f_w6_w_0 0
      conv at f_w6_w_0_0 => rhs; simp [go_sem, *]
      have c_w6_w_0_1 := c_w6_w_0 1
      conv at c_w6_w_0_1 => rhs; simp [go_sem, *]
      have f_w6_w_0_1 := f_w6_w_0 1
      conv at f_w6_w_0_1 => rhs; simp [go_sem, *]
      have c_w6_w_0_2 := c_w6_w_0 2
      conv at c_w6_w_0_2 => rhs; simp [go_sem, *]
      have f_w6_w_0_2 := f_w6_w_0 2
      conv at f_w6_w_0_2 => rhs; simp [go_sem, *]
      have c_w6_w_0_3 := c_w6_w_0 3
      conv at c_w6_w_0_3 => rhs; simp [go_sem, *]
      have f_w6_w_0_3 := f_w6_w_0 3
      conv at f_w6_w_0_3 => rhs; simp [go_sem, *]
      have c_w6_w_0_4 := c_w6_w_0 4
      conv at c_w6_w_0_4 => rhs; simp [go_sem, *]
      have f_w6_w_0_4 := f_w6_w_0 4
      conv at f_w6_w_0_4 => rhs; simp [go_sem, *]
      have c_w6_w_0_5 := c_w6_w_0 5
      conv at c_w6_w_0_5 => rhs; simp [go_sem, *]
      have f_w6_w_0_5 := f_w6_w_0 5
      conv at f_w6_w_0_5 => rhs; simp [go_sem, *]
      have c_w6_w_0_6 := c_w6_w_0 6
      conv at c_w6_w_0_6 => rhs; simp [go_sem, *]
      have f_w6_w_0_6 := f_w6_w_0 6
      conv at f_w6_w_0_6 => rhs; simp [go_sem, *]
      obtain ⟨c_w6_w_1, f_w6_w_1⟩ := bk hb_w6 (w.heap.size + 1) (by first | omega | (simp <;> omega))
      have c_w6_w_1_0 := c_w6_w_1 0
      conv at c_w6_w_1_0 => rhs; simp [go_sem, *]
      have f_w6_w_1_0 := f_w6_w_1 0
      conv at f_w6_w_1_0 => rhs; simp [go_sem, *]
      have c_w6_w_1_1 := c_w6_w_1 1
      conv at c_w6_w_1_1 => rhs; simp [go_sem, *]
      have f_w6_w_1_1 := f_w6_w_1 1
      conv at f_w6_w_1_1 => rhs; simp [go_sem, *]
      have c_w6_w_1_2 := c_w6_w_1 2
      conv at c_w6_w_1_2 => rhs; simp [go_sem, *]
      have f_w6_w_1_2 := f_w6_w_1 2
      conv at f_w6_w_1_2 => rhs; simp [go_sem, *]
      have c_w6_w_1_3 := c_w6_w_1 3
      conv at c_w6_w_1_3 => rhs; simp [go_sem, *]
      have f_w6_w_1_3 := f_w6_w_1 3
      conv at f_w6_w_1_3 => rhs; simp [go_sem, *]
      have c_w6_w_1_4 := c_w6_w_1 4
      conv at c_w6_w_1_4 => rhs; simp [go_sem, *]
      have f_w6_w_1_4 := f_w6_w_1 4
      conv at f_w6_w_1_4 => rhs; simp [go_sem, *]
      have c_w6_w_1_5 := c_w6_w_1 5
      conv at c_w6_w_1_5 => rhs; simp [go_sem, *]
      have f_w6_w_1_5 := f_w6_w_1 5
      conv at f_w6_w_1_5 => rhs; simp [go_sem, *]
      obtain ⟨c_w6_w5_0, f_w6_w5_0⟩ := bk hb_w6 (w5.heap.size) (by first | omega | (simp <;> omega))
      have c_w6_w5_0_0 := c_w6_w5_0 0
      conv at c_w6_w5_0_0 => rhs; simp [go_sem, *]
      have f_w6_w5_0_0 := f_w6_w5_0 0
      conv at f_w6_w5_0_0 => rhs; simp [go_sem, *]
      have c_w6_w5_0_1 := c_w6_w5_0 1
      conv at c_w6_w5_0_1 => rhs; simp [go_sem, *]
      have f_w6_w5_0_1 := f_w6_w5_0 1
      conv at f_w6_w5_0_1 => rhs; simp [go_sem, *]
      have c_w6_w5_0_2 := c_w6_w5_0 2
      conv at c_w6_w5_0_2 => rhs; simp [go_sem, *]
      have f_w6_w5_0_2 := f_w6_w5_0 2
      conv at f_w6_w5_0_2 => rhs; simp [go_sem, *]
      have c_w6_w5_0_3 := c_w6_w5_0 3
      conv at c_w6_w5_0_3 => rhs; simp [go_sem, *]
      have f_w6_w5_0_3 := f_w6_w5_0 3
      conv at f_w6_w5_0_3 => rhs; simp [go_sem, *]
      have c_w6_w5_0_4 := c_w6_w5_0 4
      conv at c_w6_w5_0_4 => rhs; simp [go_sem, *]
      have f_w6_w5_0_4 := f_w6_w5_0 4
      conv at f_w6_w5_0_4 => rhs; simp [go_sem, *]
      have c_w6_w5_0_5 := c_w6_w5_0 5
      conv at c_w6_w5_0_5 => rhs; simp [go_sem, *]
      have f_w6_w5_0_5 := f_w6_w5_0 5
      conv at f_w6_w5_0_5 => rhs; simp [go_sem, *]
      have HH_w6 := Lib.hid hb_w6
      have hB_w6 : Below w.heap.size w w6 := Below.trans (by (repeat (first | (with_reducible exact Below.refl _ _) | (with_reducible assumption) | (with_reducible refine Below.drew ?_) | (focus ((with_reducible refine Below.setCell ?_ ?_ _); rotate_left; (first | omega | (simp <;> omega)))) | (focus ((with_reducible refine Below.alloc ?_ ?_ _); rotate_left; (first | omega | (simp <;> omega)))) | exact Below.refl _ _ | assumption | refine Below.drew ?_ | refine Below.alloc ?_ (by first | omega | (simp <;> omega)) _ | refine Below.setCell ?_ (by first | omega | (simp <;> omega)) _))) (hb_w6.mono (by first | omega | (simp <;> omega)))
      clear hb_w6 c_w6_w_0 f_w6_w_0 c_w6_w_1 f_w6_w_1 c_w6_w5_0 f_w6_w5_0
      try clear c_w5_w_0_0
      try clear f_w5_w_0_0
      try clear c_w5_w_0_1
      try clear f_w5_w_0_1
      try clear c_w5_w_0_2
      try clear f_w5_w_0_2
      try clear c_w5_w_0_3
      try clear f_w5_w_0_3
      try clear c_w5_w_0_4
      try clear f_w5_w_0_4
      try clear c_w5_w_0_5
      try clear f_w5_w_0_5
      try clear c_w5_w_0_6
      try clear f_w5_w_0_6
      try clear c_w5_w_1_0
      try clear f_w5_w_1_0
      try clear c_w5_w_1_1
      try clear f_w5_w_1_1
      try clear c_w5_w_1_2
      try clear f_w5_w_1_2
      try clear c_w5_w_1_3
      try clear f_w5_w_1_3
      try clear c_w5_w_1_4
      try clear f_w5_w_1_4
      try clear c_w5_w_1_5
      try clear f_w5_w_1_5
      try clear far_w5_w_0
      try clear far_w5_w_1
      try clear hB_w5
      have far_w6_w_0 := far (show w.heap.size < w6.heap.size by omega)
      have far_w6_w_1 := far (show w.heap.size + 1 < w6.heap.size by omega)
      have far_w6_w5_0 := far (show w5.heap.size < w6.heap.size by omega)
      go_wp2
      refine bodyPost_ret (v := .tuple #[uv a hh nn pp qq yy, .string (S o), .int .i64 0]) (by simp [results, Tryz.results7, go_sem, *]) rfl ⟨rfl, ?_⟩
      (repeat (first | (with_reducible exact Below.refl _ _) | (with_reducible assumption) | (with_reducible refine Below.drew ?_) | (focus ((with_reducible refine Below.setCell ?_ ?_ _); rotate_left; (first | omega | (simp <;> omega)))) | (focus ((with_reducible refine Below.alloc ?_ ?_ _); rotate_left; (first | omega | (simp <;> omega)))) | exact Below.refl _ _ | assumption | refine Below.drew ?_ | refine Below.alloc ?_ (by first | omega | (simp <;> omega)) _ | refine Below.setCell ?_ (by first | omega | (simp <;> omega)) _))
end Go.Proofs.YtgjemgilanhdiaaGreatDoor
