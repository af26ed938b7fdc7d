/- The law ChunkCuts: its walk: what is read. Printed by tools/chunkcuts.py. -/
import Derived.Test.YtngaofoedkankaaDoorChunkCutsM
namespace Go.Proofs.YtngaofoedkankaaDoor
open Go.RowKit Go.Sort Go.Shelf
set_option linter.unusedVariables false
set_option linter.unusedSimpArgs false

set_option maxHeartbeats 12800000 in
set_option maxRecDepth 100000 in
theorem chunkCuts_ok (c0 : Ck) (hc0 : c0.Ok) (cR : Ck) (dR : List UInt8) (nR : Nat) (l0 m0 : List UInt8) (v : Value) (cs : List Int) (w : World) (k2 : l0.length ≤ 9223372036854775807) (k5 : m0.length ≤ 9223372036854775807) (hcs : ReadsI w v cs) (hln : l0.take 300 = c0.ln) (hR : runC c0 (m0.take 3000) = .inr (cR, dR, nR)) :
    Calls Tryd.prog 3 #[.agg #[.int .i64 c0.st, .string (S l0), .int .i64 c0.lf, .int .i64 c0.sz], .string (S m0), v] w fun e w' => e = .returned (.bool true) ∧ Below w.heap.size w w' := by
  have hm : maxLen = 9223372036854775807 := rfl
  obtain ⟨p, hp, hp1, hp2, hp3⟩ : ∃ k : Nat, min (m0.length : Int) 3000 = k ∧ k ≤ m0.length ∧ k ≤ 3000 ∧ m0.take k = m0.take 3000 := ⟨min m0.length 3000, by omega, by omega, by omega, by rw [Nat.min_comm, ← List.take_take, List.take_length]⟩
  obtain ⟨s, hs⟩ : ∃ s, m0.take 3000 = s := ⟨_, rfl⟩
  rw [hs] at hp3 hR
  have hsl : s.length ≤ 3000 := by rw [← hs, List.length_take]; omega
  have hs2 : (m0.take p).drop 0 = s := hp3
  have C0 := Lib.hid (fun W => ckFew c0.st l0 c0.lf c0.sz k2 W)
  have hll : (l0.take 300).length ≤ 300 := by simp; omega
  rw [hln] at C0 hll
  unfold ckV at C0
  have AL := Lib.hid (fun W => ck_alive W)
  have HCS := Lib.hid hcs
  obtain ⟨ao, cap, rfl, hc1, hc2, -, -⟩ := hcs
  rw [hm] at hc2
  obtain ⟨q, hq, hq1, hq2⟩ : ∃ k : Nat, min (cs.length : Int) 20 = k ∧ k ≤ cs.length ∧ k ≤ 20 := ⟨min cs.length 20, by omega, by omega, by omega⟩
  have hsI : (s.length : Int) ≤ 3000 := by omega
  have FD := Lib.hid (fun (c : Ck) (hc : c.Ok) (t : List UInt8) (ht : t.length ≤ 100000) W => ckFeed_ok c hc t ht W)
  unfold Ck.v ckV at FD
  have F1 := Lib.hid (fun W => FD.out c0 hc0 s (by omega) W)
  have HC0 := Lib.hid hc0
  rw [hR] at F1
  have HR := Lib.hid hR
  clear hs hm k2 hp3 hR hc0 hln
  go_enter Tryd.func3, Tryd.ntmps3
  go_upto_region 1 with fail
  go_cut [1] (fun sv wx => sv = .string (S s) ∧ (∀ i, wx.frozen? ⟨w.heap.size, i, none⟩ = false) ∧ wx.cell? ⟨w.heap.size, 0, none⟩ = some (.int .i64 c0.st) ∧ wx.cell? ⟨w.heap.size, 1, none⟩ = some (.string (S c0.ln)) ∧ wx.cell? ⟨w.heap.size, 2, none⟩ = some (.int .i64 c0.lf) ∧ wx.cell? ⟨w.heap.size, 3, none⟩ = some (.int .i64 c0.sz) ∧ w.heap.size < wx.heap.size ∧ Below w.heap.size w wx)
  case first =>
    as_aux_lemma =>
      go_region_with (go_at_call 9; refine (C0.out _).mono ?_; rintro e w1 ⟨rfl, hb1⟩; obtain ⟨cc, ff⟩ := bk hb1 w.heap.size (by (first | omega | (simp <;> omega))); have hz1 := hb1.size; (try simp at hz1); have fr1 := far (show w.heap.size < w1.heap.size by omega); have hB1 : Below w.heap.size w w1 := Below.trans (by (repeat (first | (with_reducible exact Below.refl _ _) | (with_reducible assumption) | (with_reducible refine Below.drew ?_) | (focus ((with_reducible refine Below.setCell ?_ ?_ _); rotate_left; (first | omega | (simp <;> omega)))) | (focus ((with_reducible refine Below.alloc ?_ ?_ _); rotate_left; (first | omega | (simp <;> omega)))) | exact Below.refl _ _ | assumption | refine Below.drew ?_ | refine Below.alloc ?_ (by first | omega | (simp <;> omega)) _ | refine Below.setCell ?_ (by first | omega | (simp <;> omega)) _))) (hb1.mono (by (first | omega | (simp <;> omega)))); clear hb1)
      all_goals (go_wp2_with fail; go_meet; exact ⟨by simp [go_sem, *], fun i => by simp [go_sem, *], by simp [go_sem, *], by simp [go_sem, *], by simp [go_sem, *], by simp [go_sem, *], by simp; omega, by (repeat (first | (with_reducible exact Below.refl _ _) | (with_reducible assumption) | (with_reducible refine Below.drew ?_) | (focus ((with_reducible refine Below.setCell ?_ ?_ _); rotate_left; (first | omega | (simp <;> omega)))) | (focus ((with_reducible refine Below.alloc ?_ ?_ _); rotate_left; (first | omega | (simp <;> omega)))) | exact Below.refl _ _ | assumption | refine Below.drew ?_ | refine Below.alloc ?_ (by first | omega | (simp <;> omega)) _ | refine Below.setCell ?_ (by first | omega | (simp <;> omega)) _))⟩)
  case rest =>
    obtain ⟨rfl, fz, q0, q1, q2, q3, hlt, hb1⟩ := hcut
    obtain ⟨w1, hw1⟩ : ∃ x, x = wc := ⟨_, rfl⟩
    rw [← hw1] at fz q0 q1 q2 q3 hlt hb1 ⊢
    clear hw1 C0
    have HB1 := Lib.hid hb1
    have hz1 := hb1.size
    have hf1 := far hlt
    obtain ⟨K, hK⟩ : ∃ K, cs.take q ++ [(s.length : Int)] = K := ⟨_, rfl⟩
    have hK0 : 0 < K.length := by rw [← hK]; simp
    have hK1 : K.length ≤ 21 := by rw [← hK]; simp; omega
    have hKL : ∀ i (h : i < K.length), i + 1 = K.length → K[i] = (s.length : Int) := by
      intro i h e
      subst hK
      rw [List.getElem_append_right (by simp at e ⊢; omega)]
      simp
    have HKL := Lib.hid hKL
    have HKK := Lib.hid hK
    clear hK hKL
    rw [feedV_c] at F1
    go_wp2_with fail
    refine Calls.mono (F1.out _) ?_
    rintro e w2 ⟨rfl, hb_w2⟩
    have hz_w2 := hb_w2.size
    try simp at hz_w2
    obtain ⟨c_w2_w_0, f_w2_w_0⟩ := bk hb_w2 (w.heap.size) (by first | omega | (simp <;> omega))
    have c_w2_w_0_0 := c_w2_w_0 0
    conv at c_w2_w_0_0 => rhs; simp [go_sem, *]
    have f_w2_w_0_0 := f_w2_w_0 0
    conv at f_w2_w_0_0 => rhs; simp [go_sem, *]
    have c_w2_w_0_1 := c_w2_w_0 1
    conv at c_w2_w_0_1 => rhs; simp [go_sem, *]
    have f_w2_w_0_1 := f_w2_w_0 1
    conv at f_w2_w_0_1 => rhs; simp [go_sem, *]
    have c_w2_w_0_2 := c_w2_w_0 2
    conv at c_w2_w_0_2 => rhs; simp [go_sem, *]
    have f_w2_w_0_2 := f_w2_w_0 2
    conv at f_w2_w_0_2 => rhs; simp [go_sem, *]
    have c_w2_w_0_3 := c_w2_w_0 3
    conv at c_w2_w_0_3 => rhs; simp [go_sem, *]
    have f_w2_w_0_3 := f_w2_w_0 3
    conv at f_w2_w_0_3 => rhs; simp [go_sem, *]
    have HH_w2 := Lib.hid hb_w2
    have hB_w2 : Below w.heap.size w w2 := Below.trans (by (repeat (first | (with_reducible exact Below.refl _ _) | (with_reducible assumption) | (with_reducible refine Below.drew ?_) | (focus ((with_reducible refine Below.setCell ?_ ?_ _); rotate_left; (first | omega | (simp <;> omega)))) | (focus ((with_reducible refine Below.alloc ?_ ?_ _); rotate_left; (first | omega | (simp <;> omega)))) | exact Below.refl _ _ | assumption | refine Below.drew ?_ | refine Below.alloc ?_ (by first | omega | (simp <;> omega)) _ | refine Below.setCell ?_ (by first | omega | (simp <;> omega)) _))) (hb_w2.mono (by first | omega | (simp <;> omega)))
    clear hb_w2 c_w2_w_0 f_w2_w_0
    have far_w2_w_0 := far (show w.heap.size < w2.heap.size by omega)
    have hz2 := hB_w2.size
    go_wp2_with (first
      | (at_builtin; refine wp_append_ints rfl _ _ rfl _ (w2.heap.size + 1 + 1) _ [] (OwnsI.made_at _ _ _ (by simp) (by (first | omega | (simp <;> omega)))) rfl ao q cap (cs.take q) ((HCS.out.take hq1).below (by have h1 := hB_w2; (repeat (first | (with_reducible exact Below.refl _ _) | (with_reducible assumption) | (with_reducible refine Below.drew ?_) | (focus ((with_reducible refine Below.setCell ?_ ?_ _); rotate_left; (first | omega | (simp <;> omega)))) | (focus ((with_reducible refine Below.alloc ?_ ?_ _); rotate_left; (first | omega | (simp <;> omega)))) | exact Below.refl _ _ | assumption | refine Below.drew ?_ | refine Below.alloc ?_ (by first | omega | (simp <;> omega)) _ | refine Below.setCell ?_ (by first | omega | (simp <;> omega)) _)))) rfl (by simp; omega) (by (first | omega | (simp <;> omega))) ?_; intro v3 w3 ho3 hb3; have HO3 := Lib.hid ho3; have hz3 := hb3.size; (try simp at hz3); clear ho3)
      | (at_builtin; refine wp_append_ints rfl _ _ rfl _ (w2.heap.size + 1 + 1) _ (cs.take q) (OwnsI.below HO3.out (by (repeat (first | (with_reducible exact Below.refl _ _) | (with_reducible assumption) | (with_reducible refine Below.drew ?_) | (focus ((with_reducible refine Below.setCell ?_ ?_ _); rotate_left; (first | omega | (simp <;> omega)))) | (focus ((with_reducible refine Below.alloc ?_ ?_ _); rotate_left; (first | omega | (simp <;> omega)))) | exact Below.refl _ _ | assumption | refine Below.drew ?_ | refine Below.alloc ?_ (by first | omega | (simp <;> omega)) _ | refine Below.setCell ?_ (by first | omega | (simp <;> omega)) _)))) rfl _ 1 1 [(s.length : Int)] (reads_one_at _ _ (by simp)) rfl (by simp; omega) (by (first | omega | (simp <;> omega))) ?_; intro v4 w4 ho4 hb4; (rw [HKK.out] at ho4); have hz4 := hb4.size; (try simp at hz4); obtain ⟨g4, cap4, h4, hk1, hk2, hg4, hbg4, hcell4⟩ := ho4.at 0 hK0; subst h4; have HC4 := Lib.hid hcell4; clear ho4 hcell4)
      | fail)
    have x30 := hb3.cell (p := ⟨w2.heap.size, 0, none⟩) (by show w2.heap.size < _; omega)
    conv at x30 => rhs; simp [go_sem, *]
    have y30 := hb3.cell (p := ⟨w2.heap.size + 1, 0, none⟩) (by show w2.heap.size + 1 < _; omega)
    conv at y30 => rhs; simp [go_sem, *]
    have x31 := hb3.cell (p := ⟨w2.heap.size, 1, none⟩) (by show w2.heap.size < _; omega)
    conv at x31 => rhs; simp [go_sem, *]
    have y31 := hb3.cell (p := ⟨w2.heap.size + 1, 1, none⟩) (by show w2.heap.size + 1 < _; omega)
    conv at y31 => rhs; simp [go_sem, *]
    have x32 := hb3.cell (p := ⟨w2.heap.size, 2, none⟩) (by show w2.heap.size < _; omega)
    conv at x32 => rhs; simp [go_sem, *]
    have y32 := hb3.cell (p := ⟨w2.heap.size + 1, 2, none⟩) (by show w2.heap.size + 1 < _; omega)
    conv at y32 => rhs; simp [go_sem, *]
    have x33 := hb3.cell (p := ⟨w2.heap.size, 3, none⟩) (by show w2.heap.size < _; omega)
    conv at x33 => rhs; simp [go_sem, *]
    have y33 := hb3.cell (p := ⟨w2.heap.size + 1, 3, none⟩) (by show w2.heap.size + 1 < _; omega)
    conv at y33 => rhs; simp [go_sem, *]
    have xf3 : ∀ o, w3.frozen? ⟨w2.heap.size, o, none⟩ = false := fun o => by rw [hb3.frozen (p := ⟨w2.heap.size, o, none⟩) (by show w2.heap.size < _; omega)]; simp [go_sem, *]
    have yf3 : ∀ o, w3.frozen? ⟨w2.heap.size + 1, o, none⟩ = false := fun o => by rw [hb3.frozen (p := ⟨w2.heap.size + 1, o, none⟩) (by show w2.heap.size + 1 < _; omega)]; simp [go_sem, *]
    have far3x := far (show w2.heap.size < w3.heap.size by omega)
    have far3y := far (show w2.heap.size + 1 < w3.heap.size by omega)
    have x40 := hb4.cell (p := ⟨w2.heap.size, 0, none⟩) (by show w2.heap.size < _; omega)
    conv at x40 => rhs; simp [go_sem, *]
    have y40 := hb4.cell (p := ⟨w2.heap.size + 1, 0, none⟩) (by show w2.heap.size + 1 < _; omega)
    conv at y40 => rhs; simp [go_sem, *]
    have x41 := hb4.cell (p := ⟨w2.heap.size, 1, none⟩) (by show w2.heap.size < _; omega)
    conv at x41 => rhs; simp [go_sem, *]
    have y41 := hb4.cell (p := ⟨w2.heap.size + 1, 1, none⟩) (by show w2.heap.size + 1 < _; omega)
    conv at y41 => rhs; simp [go_sem, *]
    have x42 := hb4.cell (p := ⟨w2.heap.size, 2, none⟩) (by show w2.heap.size < _; omega)
    conv at x42 => rhs; simp [go_sem, *]
    have y42 := hb4.cell (p := ⟨w2.heap.size + 1, 2, none⟩) (by show w2.heap.size + 1 < _; omega)
    conv at y42 => rhs; simp [go_sem, *]
    have x43 := hb4.cell (p := ⟨w2.heap.size, 3, none⟩) (by show w2.heap.size < _; omega)
    conv at x43 => rhs; simp [go_sem, *]
    have y43 := hb4.cell (p := ⟨w2.heap.size + 1, 3, none⟩) (by show w2.heap.size + 1 < _; omega)
    conv at y43 => rhs; simp [go_sem, *]
    have xf4 : ∀ o, w4.frozen? ⟨w2.heap.size, o, none⟩ = false := fun o => by rw [hb4.frozen (p := ⟨w2.heap.size, o, none⟩) (by show w2.heap.size < _; omega)]; exact (World.frozen?_of_block (a := ⟨w2.heap.size, o, none⟩) (Below.heap_alloc _ _ _ (show w2.heap.size < _ by omega))).trans (xf3 o)
    have yf4 : ∀ o, w4.frozen? ⟨w2.heap.size + 1, o, none⟩ = false := fun o => by rw [hb4.frozen (p := ⟨w2.heap.size + 1, o, none⟩) (by show w2.heap.size + 1 < _; omega)]; exact (World.frozen?_of_block (a := ⟨w2.heap.size + 1, o, none⟩) (Below.heap_alloc _ _ _ (show w2.heap.size + 1 < _ by omega))).trans (yf3 o)
    clear x30 x31 x32 x33 y30 y31 y32 y33 xf3 yf3
    have hB4 : Below w.heap.size w w4 := Below.trans (Below.trans (Below.trans (by (repeat (first | (with_reducible exact Below.refl _ _) | (with_reducible assumption) | (with_reducible refine Below.drew ?_) | (focus ((with_reducible refine Below.setCell ?_ ?_ _); rotate_left; (first | omega | (simp <;> omega)))) | (focus ((with_reducible refine Below.alloc ?_ ?_ _); rotate_left; (first | omega | (simp <;> omega)))) | exact Below.refl _ _ | assumption | refine Below.drew ?_ | refine Below.alloc ?_ (by first | omega | (simp <;> omega)) _ | refine Below.setCell ?_ (by first | omega | (simp <;> omega)) _))) (hb3.mono (by omega))) (show Below w.heap.size w3 _ by (repeat (first | (with_reducible exact Below.refl _ _) | (with_reducible assumption) | (with_reducible refine Below.drew ?_) | (focus ((with_reducible refine Below.setCell ?_ ?_ _); rotate_left; (first | omega | (simp <;> omega)))) | (focus ((with_reducible refine Below.alloc ?_ ?_ _); rotate_left; (first | omega | (simp <;> omega)))) | exact Below.refl _ _ | assumption | refine Below.drew ?_ | refine Below.alloc ?_ (by first | omega | (simp <;> omega)) _ | refine Below.setCell ?_ (by first | omega | (simp <;> omega)) _)))) (hb4.mono (by omega))
    have HB4 := Lib.hid hB4
    have hmk : maxLen = 9223372036854775807 := rfl
    rw [hmk] at hk2
    clear hb3 hb4 hB_w2 HH_w2 hB4 hmk
    try clear f_w2_w_0_0 f_w2_w_0_1 f_w2_w_0_2 f_w2_w_0_3 c_w2_w_0_0 c_w2_w_0_1 c_w2_w_0_2 c_w2_w_0_3 far_w2_w_0
    go_wp2_with fail
    (try simp only [mk_S])
    go_loopw [12, 13, 49] (fun gv av iv wr => ∃ (i n : Nat) (d : List UInt8) (c : Ck), iv = .int .i64 i ∧ i ≤ K.length ∧ av = .int .i64 n ∧ n ≤ s.length ∧ gv = .string (S d) ∧ c.Ok ∧ (.inr (cR, dR, nR) : Nat ⊕ (Ck × List UInt8 × Nat)) = thenC d n (runC c (s.drop n)) ∧ d.length ≤ n ∧ (i = K.length → n = s.length) ∧ w4.grownBy wr (some (w2.heap.size + 1)) ∧ wr.cell? ⟨w2.heap.size + 1, 0, none⟩ = some (.int .i64 c.st) ∧ wr.cell? ⟨w2.heap.size + 1, 1, none⟩ = some (.string (S c.ln)) ∧ wr.cell? ⟨w2.heap.size + 1, 2, none⟩ = some (.int .i64 c.lf) ∧ wr.cell? ⟨w2.heap.size + 1, 3, none⟩ = some (.int .i64 c.sz) ∧ (∀ o, wr.frozen? ⟨w2.heap.size + 1, o, none⟩ = false)) (fun _ _ iv _ => K.length - (intOf iv).toNat)
    case atStart => exact ⟨0, 0, [], c0, rfl, Nat.zero_le _, rfl, Nat.zero_le _, rfl, HC0.out, by rw [List.drop_zero, thenC_nil]; exact HR.out.symm, Nat.le_refl _, (fun h => by omega), gr_refl _ _, y40, y41, y42, y43, yf4⟩
    case round =>
      obtain ⟨i, n, d, c, rfl, hi, rfl, hn, rfl, hck, hrun, hdl, hend, hgr, r0, r1, r2, r3, rf⟩ := hrel
      have hzr := hgr.size
      have HGR := Lib.hid hgr
      have hx7 := hgr.block w2.heap.size (by omega) (by simp)
      have e70 := (World.cell?_of_block (a := ⟨w2.heap.size, 0, none⟩) hx7).trans x40
      have e71 := (World.cell?_of_block (a := ⟨w2.heap.size, 1, none⟩) hx7).trans x41
      have e72 := (World.cell?_of_block (a := ⟨w2.heap.size, 2, none⟩) hx7).trans x42
      have e73 := (World.cell?_of_block (a := ⟨w2.heap.size, 3, none⟩) hx7).trans x43
      have e7f := fun o => (World.frozen?_of_block (a := ⟨w2.heap.size, o, none⟩) hx7).trans (xf4 o)
      clear hx7
      have HCK := Lib.hid hck
      have HRN := Lib.hid hrun
      have HEND := Lib.hid hend
      clear hck hrun hend hgr
      by_cases hik : i < K.length
      · have ek := (World.cell?_of_block (a := ⟨g4, i, none⟩) (HGR.out.block g4 hg4 (by simp; omega))).trans (HC4.out i hik)
        have hlast := HKL.out i hik
        obtain ⟨kv, hkv⟩ : ∃ kv, K[i]'hik = kv := ⟨_, rfl⟩
        rw [hkv] at ek hlast
        obtain ⟨m, hm, hnm, hml⟩ : ∃ m : Nat, min (max kv (n : Int)) (s.length : Int) = m ∧ n ≤ m ∧ m ≤ s.length := ⟨(min (max kv (n : Int)) (s.length : Int)).toNat, by omega, by omega, by omega⟩
        have hmlast : i + 1 = K.length → m = s.length := fun e => by have := hlast e; omega
        have HML := Lib.hid hmlast
        have hmI : (m : Int) ≤ (s.length : Int) := by omega
        have hnmI : (n : Int) ≤ (m : Int) := by omega
        have hg4r : g4 < wr.heap.size := by omega
        have hrp := run_piece (c := c) hnm hml
        have hpl : ((s.take m).drop n).length = m - n := by simp; omega
        obtain ⟨p, hp⟩ : ∃ p, (s.take m).drop n = p := ⟨_, rfl⟩
        rw [hp] at hrp hpl
        have FC := Lib.hid (fun W => FD.out c HCK.out p (by omega) W)
        clear hkv hlast hmlast
        cases hrc : runC c p with
        | inl e2 =>
          rw [hrc] at hrp FC
          have hRR := HRN.out
          rw [hrp] at hRR
          cases hRR
        | inr x2 =>
          obtain ⟨c2, d2, n2⟩ := x2
          obtain ⟨hn2, hn3⟩ := run_len _ _ _ _ _ hrc
          have hd2 := run_dlen _ _ _ _ _ hrc
          have hc2 := run_ok _ _ _ _ _ HCK.out hrc
          rw [hrc] at hrp FC
          rw [feedV_c] at FC
          have hRR := HRN.out
          rw [hrp] at hRR
          simp only at hRR
          have hnx : (.inr (cR, dR, nR) : Nat ⊕ (Ck × List UInt8 × Nat)) = thenC (d ++ d2) (n + n2) (runC c2 (s.drop m)) := by
            rw [hRR]
            by_cases h4 : c2.st = 4
            · rw [if_pos h4, run_done h4]; simp [thenC]
            · rw [if_neg h4, thenC_thenC]
          have HNX := Lib.hid hnx
          have HC2 := Lib.hid hc2
          have HN3 := Lib.hid hn3
          have HST4 := Lib.hid (fun (h : n + n2 < m) => (show c2.st = 4 from by
            by_cases h4 : c2.st = 4
            · exact h4
            · have := hn3 h4; omega))
          have hn2I : (n2 : Int) ≤ (p.length : Int) := by omega
          have hplI : (p.length : Int) ≤ 3000 := by omega
          have hd2I : (d2.length : Int) ≤ 3000 := by omega
          have hdI : (d.length : Int) ≤ 3000 := by omega
          have hnI : (n : Int) ≤ 3000 := by omega
          have hn0 : ((n2 : Int) < 0) = False := eq_false (by omega)
          have hgt : ((m : Int) < (n : Int) + (n2 : Int)) = False := eq_false (by omega)
          clear hrp hrc hRR hnx hc2 hn3
          have fy0 := far (show w2.heap.size + 1 < wr.heap.size by omega)
          go_upto_region 8 with fail
          go_cut [17, 18, 19, 20] (fun xv gv nv ev wx => ∃ g, xv = .pointer (some ⟨g, 0, none⟩) ∧ gv = .string (S d2) ∧ nv = .int .i64 n2 ∧ ev = .int .i64 0 ∧ wr.heap.size ≤ g ∧ g < wx.heap.size ∧ wx.cell? ⟨g, 0, none⟩ = some (.int .i64 c2.st) ∧ wx.cell? ⟨g, 1, none⟩ = some (.string (S c2.ln)) ∧ wx.cell? ⟨g, 2, none⟩ = some (.int .i64 c2.lf) ∧ wx.cell? ⟨g, 3, none⟩ = some (.int .i64 c2.sz) ∧ (∀ o, wx.frozen? ⟨g, o, none⟩ = false) ∧ Below wr.heap.size wr wx)
          case first =>
            as_aux_lemma =>
              go_region_with (go_at_call 10; refine Calls.mono (FC.out _) ?_; rintro e w5 ⟨rfl, hb5⟩; have hz5 := hb5.size; (try simp at hz5); have hB5 : Below wr.heap.size wr w5 := Below.trans (by (repeat (first | (with_reducible exact Below.refl _ _) | (with_reducible assumption) | (with_reducible refine Below.drew ?_) | (focus ((with_reducible refine Below.setCell ?_ ?_ _); rotate_left; (first | omega | (simp <;> omega)))) | (focus ((with_reducible refine Below.alloc ?_ ?_ _); rotate_left; (first | omega | (simp <;> omega)))) | exact Below.refl _ _ | assumption | refine Below.drew ?_ | refine Below.alloc ?_ (by first | omega | (simp <;> omega)) _ | refine Below.setCell ?_ (by first | omega | (simp <;> omega)) _))) (hb5.mono (by (first | omega | (simp <;> omega)))); (try (refine keepc hb5 (wr.heap.size) ?_ ?_; (focus (first | omega | (simp <;> omega))); intro c5 f5)); clear hb5)
              all_goals (go_wp2_with fail; go_meet; exact ⟨_, rfl, rfl, rfl, rfl, (by first | exact Nat.le_refl _ | (simp; done) | omega), (by simp; (try omega)), (by simp [go_sem, *]), (by simp [go_sem, *]), (by simp [go_sem, *]), (by simp [go_sem, *]), (fun o => by simp [go_sem, *]), (by (repeat (first | (with_reducible exact Below.refl _ _) | (with_reducible assumption) | (with_reducible refine Below.drew ?_) | (focus ((with_reducible refine Below.setCell ?_ ?_ _); rotate_left; (first | omega | (simp <;> omega)))) | (focus ((with_reducible refine Below.alloc ?_ ?_ _); rotate_left; (first | omega | (simp <;> omega)))) | exact Below.refl _ _ | assumption | refine Below.drew ?_ | refine Below.alloc ?_ (by first | omega | (simp <;> omega)) _ | refine Below.setCell ?_ (by first | omega | (simp <;> omega)) _)))⟩)
          case rest =>
            obtain ⟨g, rfl, rfl, rfl, rfl, hgw, hgx, v0, v1, v2, v3, vf, hBx⟩ := hcut
            obtain ⟨wx, hwx⟩ : ∃ x, x = wc := ⟨_, rfl⟩
            rw [← hwx] at hgx v0 v1 v2 v3 vf hBx ⊢
            clear hwx
            have HBX := Lib.hid hBx
            have hzx := hBx.size
            have x60 := (HBX.out.cell (p := ⟨w2.heap.size, 0, none⟩) (show w2.heap.size < _ by omega)).trans e70
            have x61 := (HBX.out.cell (p := ⟨w2.heap.size, 1, none⟩) (show w2.heap.size < _ by omega)).trans e71
            have x62 := (HBX.out.cell (p := ⟨w2.heap.size, 2, none⟩) (show w2.heap.size < _ by omega)).trans e72
            have x63 := (HBX.out.cell (p := ⟨w2.heap.size, 3, none⟩) (show w2.heap.size < _ by omega)).trans e73
            have xf6 : ∀ o, wx.frozen? ⟨w2.heap.size, o, none⟩ = false := fun o => (HBX.out.frozen (p := ⟨w2.heap.size, o, none⟩) (show w2.heap.size < _ by omega)).trans (e7f o)
            have y60 := (HBX.out.cell (p := ⟨w2.heap.size + 1, 0, none⟩) (show w2.heap.size + 1 < _ by omega)).trans r0
            have y61 := (HBX.out.cell (p := ⟨w2.heap.size + 1, 1, none⟩) (show w2.heap.size + 1 < _ by omega)).trans r1
            have y62 := (HBX.out.cell (p := ⟨w2.heap.size + 1, 2, none⟩) (show w2.heap.size + 1 < _ by omega)).trans r2
            have y63 := (HBX.out.cell (p := ⟨w2.heap.size + 1, 3, none⟩) (show w2.heap.size + 1 < _ by omega)).trans r3
            have yf6 : ∀ o, wx.frozen? ⟨w2.heap.size + 1, o, none⟩ = false := fun o => (HBX.out.frozen (p := ⟨w2.heap.size + 1, o, none⟩) (show w2.heap.size + 1 < _ by omega)).trans (rf o)
            have fx := far (show w2.heap.size < wx.heap.size by omega)
            have fy := far (show w2.heap.size + 1 < wx.heap.size by omega)
            have fg := far hgx
            have fxg := far (show w2.heap.size < g by omega)
            have fyg := far (show w2.heap.size + 1 < g by omega)
            by_cases hlt : n + n2 < m
            · have hf := HNX.out
              rw [run_done (HST4.out hlt)] at hf
              simp only [thenC, List.append_nil, Nat.add_zero] at hf
              injection hf with hf
              injection hf with hf1 hf2
              injection hf2 with hf2 hf3
              subst hf1
              subst hf2
              subst hf3
              have hltI : ((n : Int) + (n2 : Int) < (m : Int)) = True := eq_true (by omega)
              clear hlt
              go_wp2_with fail
              refine Calls.mono (AL.out _) ?_
              rintro e w7 ⟨rfl, hb7⟩
              have x80 := hb7.cell (p := ⟨w2.heap.size, 0, none⟩) (by simp; omega)
              conv at x80 => rhs; simp [go_sem, *]
              have x81 := hb7.cell (p := ⟨w2.heap.size, 1, none⟩) (by simp; omega)
              conv at x81 => rhs; simp [go_sem, *]
              have x82 := hb7.cell (p := ⟨w2.heap.size, 2, none⟩) (by simp; omega)
              conv at x82 => rhs; simp [go_sem, *]
              have x83 := hb7.cell (p := ⟨w2.heap.size, 3, none⟩) (by simp; omega)
              conv at x83 => rhs; simp [go_sem, *]
              have y80 := hb7.cell (p := ⟨w2.heap.size + 1, 0, none⟩) (by simp; omega)
              conv at y80 => rhs; simp [go_sem, *]
              have y81 := hb7.cell (p := ⟨w2.heap.size + 1, 1, none⟩) (by simp; omega)
              conv at y81 => rhs; simp [go_sem, *]
              have y82 := hb7.cell (p := ⟨w2.heap.size + 1, 2, none⟩) (by simp; omega)
              conv at y82 => rhs; simp [go_sem, *]
              have y83 := hb7.cell (p := ⟨w2.heap.size + 1, 3, none⟩) (by simp; omega)
              conv at y83 => rhs; simp [go_sem, *]
              have f7x := far (show w2.heap.size < w7.heap.size by have := hb7.size; simp at this; omega)
              have f7y := far (show w2.heap.size + 1 < w7.heap.size by have := hb7.size; simp at this; omega)
              go_wp2
              go_ret
              exact ⟨ret_bool (by simp), (HB4.out.trans (gr_to HGR.out (by omega) (by omega))).trans ((HBX.out.mono (by omega)).trans (Below.trans (show Below w.heap.size wx _ by (repeat (first | (with_reducible exact Below.refl _ _) | (with_reducible assumption) | (with_reducible refine Below.drew ?_) | (focus ((with_reducible refine Below.setCell ?_ ?_ _); rotate_left; (first | omega | (simp <;> omega)))) | (focus ((with_reducible refine Below.alloc ?_ ?_ _); rotate_left; (first | omega | (simp <;> omega)))) | exact Below.refl _ _ | assumption | refine Below.drew ?_ | refine Below.alloc ?_ (by first | omega | (simp <;> omega)) _ | refine Below.setCell ?_ (by first | omega | (simp <;> omega)) _))) (hb7.mono (by simp; omega))))⟩
            · have hltI : ((n : Int) + (n2 : Int) < (m : Int)) = False := eq_false (by omega)
              have hnn : n + n2 = m := by omega
              have HNN := Lib.hid hnn
              clear hlt hnn
              go_wp2
              go_roundw
              case rel =>
                refine ⟨i + 1, n + n2, d ++ d2, c2, by go_num, by omega, by go_num, by have := HNN.out; omega, by simp, HC2.out, by rw [HNX.out, HNN.out], by rw [List.length_append]; omega, (fun e => by have := HML.out e; have := HNN.out; omega), gr_set4 (gr_trans HGR.out (gr_below HBX.out _)), by simp [go_sem, *], by simp [go_sem, *], by simp [go_sem, *], by simp [go_sem, *], fun o => by simp [go_sem, *]⟩
              case measure => simp [intOf]; omega
      · obtain rfl : i = K.length := by omega
        have hns := HEND.out rfl
        have hf := HRN.out
        rw [hns, List.drop_length, run_nil] at hf
        simp only [thenC, List.append_nil, Nat.add_zero] at hf
        injection hf with hf
        injection hf with hf1 hf2
        injection hf2 with hf2 hf3
        subst hf1
        subst hf2
        subst hns
        subst hf3
        have fx := far (show w2.heap.size < wr.heap.size by omega)
        have fy := far (show w2.heap.size + 1 < wr.heap.size by omega)
        go_wp2_with fail
        refine Calls.mono (AL.out _) ?_
        rintro e w7 ⟨rfl, hb_w7⟩
        have hz_w7 := hb_w7.size
        try simp at hz_w7
        obtain ⟨c_w7_w2_0, f_w7_w2_0⟩ := bk hb_w7 (w2.heap.size) (by first | omega | (simp <;> omega))
        have c_w7_w2_0_0 := c_w7_w2_0 0
        conv at c_w7_w2_0_0 => rhs; simp [go_sem, *]
        have f_w7_w2_0_0 := f_w7_w2_0 0
        conv at f_w7_w2_0_0 => rhs; simp [go_sem, *]
        have c_w7_w2_0_1 := c_w7_w2_0 1
        conv at c_w7_w2_0_1 => rhs; simp [go_sem, *]
        have f_w7_w2_0_1 := f_w7_w2_0 1
        conv at f_w7_w2_0_1 => rhs; simp [go_sem, *]
        have c_w7_w2_0_2 := c_w7_w2_0 2
        conv at c_w7_w2_0_2 => rhs; simp [go_sem, *]
        have f_w7_w2_0_2 := f_w7_w2_0 2
        conv at f_w7_w2_0_2 => rhs; simp [go_sem, *]
        have c_w7_w2_0_3 := c_w7_w2_0 3
        conv at c_w7_w2_0_3 => rhs; simp [go_sem, *]
        have f_w7_w2_0_3 := f_w7_w2_0 3
        conv at f_w7_w2_0_3 => rhs; simp [go_sem, *]
        obtain ⟨c_w7_w2_1, f_w7_w2_1⟩ := bk hb_w7 (w2.heap.size + 1) (by first | omega | (simp <;> omega))
        have c_w7_w2_1_0 := c_w7_w2_1 0
        conv at c_w7_w2_1_0 => rhs; simp [go_sem, *]
        have f_w7_w2_1_0 := f_w7_w2_1 0
        conv at f_w7_w2_1_0 => rhs; simp [go_sem, *]
        have c_w7_w2_1_1 := c_w7_w2_1 1
        conv at c_w7_w2_1_1 => rhs; simp [go_sem, *]
        have f_w7_w2_1_1 := f_w7_w2_1 1
        conv at f_w7_w2_1_1 => rhs; simp [go_sem, *]
        have c_w7_w2_1_2 := c_w7_w2_1 2
        conv at c_w7_w2_1_2 => rhs; simp [go_sem, *]
        have f_w7_w2_1_2 := f_w7_w2_1 2
        conv at f_w7_w2_1_2 => rhs; simp [go_sem, *]
        have c_w7_w2_1_3 := c_w7_w2_1 3
        conv at c_w7_w2_1_3 => rhs; simp [go_sem, *]
        have f_w7_w2_1_3 := f_w7_w2_1 3
        conv at f_w7_w2_1_3 => rhs; simp [go_sem, *]
        have HH_w7 := Lib.hid hb_w7
        have hB_w7 : Below wr.heap.size wr w7 := Below.trans (by (repeat (first | (with_reducible exact Below.refl _ _) | (with_reducible assumption) | (with_reducible refine Below.drew ?_) | (focus ((with_reducible refine Below.setCell ?_ ?_ _); rotate_left; (first | omega | (simp <;> omega)))) | (focus ((with_reducible refine Below.alloc ?_ ?_ _); rotate_left; (first | omega | (simp <;> omega)))) | exact Below.refl _ _ | assumption | refine Below.drew ?_ | refine Below.alloc ?_ (by first | omega | (simp <;> omega)) _ | refine Below.setCell ?_ (by first | omega | (simp <;> omega)) _))) (hb_w7.mono (by first | omega | (simp <;> omega)))
        clear hb_w7 c_w7_w2_0 f_w7_w2_0 c_w7_w2_1 f_w7_w2_1
        try clear c_w2_w_0_0
        try clear f_w2_w_0_0
        try clear c_w2_w_0_1
        try clear f_w2_w_0_1
        try clear c_w2_w_0_2
        try clear f_w2_w_0_2
        try clear c_w2_w_0_3
        try clear f_w2_w_0_3
        try clear far_w2_w_0
        try clear hB_w2
        have far_w7_w2_0 := far (show w2.heap.size < w7.heap.size by omega)
        have far_w7_w2_1 := far (show w2.heap.size + 1 < w7.heap.size by omega)
        go_wp2
        go_ret
        exact ⟨ret_bool (by simp), (HB4.out.trans (gr_to HGR.out (by omega) (by omega))).trans (hB_w7.mono (by omega))⟩
end Go.Proofs.YtngaofoedkankaaDoor
