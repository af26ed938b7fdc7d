/- The walk of the law QueueTwice. -/
import Derived.Test.YtfkojlfbdongpaaQRef
import Derived.Deep.RegionWith
import Derived.Deep.DeepCutAuto
namespace Go.Proofs.Ytfkojlfbdongpaa
open Go.RowKit
set_option linter.unusedVariables false

/-- 'few', over a list of bytes. -/
theorem few_S {s l : List UInt8} {c : Int} (hs : s.length ≤ maxLen) (h : s.take 70000 = l) (w : World) : Calls Try.prog 8 #[.agg #[.string (S s), .int .i64 c]] w fun e w' =>
    e = .returned (.agg #[.string (S l), .int .i64 c]) ∧ Below w.heap.size w w' := by
  refine (few_any (S s) c w (by rw [S_size]; exact hs)).mono fun e w' ⟨he, hb⟩ => ⟨he.trans ?_, hb⟩
  rw [← h]
  unfold fewS
  rw [S_extract, S_size, List.drop_zero]
  congr 5
  by_cases h : s.length ≤ 70000
  · rw [Nat.min_eq_left h, List.take_length, List.take_of_length_le h]
  · rw [Nat.min_eq_right (by omega)]

/-- A number held between two. -/
theorem clamp (n a b : Int) (h : a ≤ b) : ∃ r : Int, min (max n a) b = r ∧ a ≤ r ∧ r ≤ b := ⟨_, rfl, by omega, by omega⟩

theorem put_parts {l s : List UInt8} {c : Int} {p : Nat} (hr : rightL l c = true) (hp : p ≤ s.length) :
    ∃ i j k : Nat, ∃ b1 b2 a : List UInt8, putN l c s = k ∧ l ++ s.take k = a ∧ putN l c (s.take p) = i ∧ l ++ (s.take p).take i = b1 ∧ putN b1 c (s.drop p) = j ∧ b1 ++ (s.drop p).take j = b2 ∧ rightL b1 c = true ∧
      i ≤ p ∧ (i = p → b2 = a ∧ k = p + j) ∧ (i < p → i = k) ∧ j ≤ (s.drop p).length := by
  obtain ⟨h1, h2, h3⟩ := rightL_true hr
  refine ⟨_, _, _, _, _, _, rfl, rfl, rfl, rfl, rfl, rfl, ?_, ?_, ?_, ?_, ?_⟩
  · simp only [rightL, decide_eq_true_eq]
    refine ⟨h1, h2, ?_⟩
    simp [putN]
    omega
  · simp [putN]; omega
  · intro hi
    have hi' : putN l c (s.take p) = p := hi
    have e1 : (s.take p).take p = s.take p := by rw [List.take_take, Nat.min_self]
    rw [hi', e1]
    have hk : putN l c s = p + putN (l ++ s.take p) c (s.drop p) := by
      simp [putN] at hi' ⊢
      omega
    refine ⟨?_, hk⟩
    rw [hk, List.append_assoc, ← List.take_add]
  · intro hi
    have hi' : putN l c (s.take p) < p := hi
    show putN l c (s.take p) = putN l c s
    simp [putN] at hi' ⊢
    omega
  · simp only [putN]; exact Nat.min_le_left _ _

theorem take_parts {l : List UInt8} {n m : Int} (hn : 0 ≤ n) (hm : 0 ≤ m) :
    ∃ k1 k2 k3 : Nat, ∃ y z u v : List UInt8, takeN l n = k1 ∧ l.drop k1 = y ∧ l.take k1 = u ∧ takeN y m = k2 ∧ y.drop k2 = z ∧ y.take k2 = v ∧ takeN l (n + m) = k3 ∧ l.drop k3 = z ∧ l.take k3 = u ++ v ∧ u.length ≤ l.length ∧ v.length ≤ l.length := by
  refine ⟨_, _, _, _, _, _, _, rfl, rfl, rfl, rfl, rfl, rfl, rfl, ?_, ?_, ?_, ?_⟩
  · rw [List.drop_drop]
    congr 1
    simp [takeN]; omega
  · have e : takeN l (n + m) = takeN l n + takeN (l.drop (takeN l n)) m := by simp [takeN]; omega
    rw [e, List.take_add]
  · simp; omega
  · simp; omega

theorem take_S {l x y : List UInt8} {c n : Int} {k : Nat} (h : 0 ≤ n) (hr : rightL l c = true) (hk : takeN l n = k) (hn : n ≤ 9223372036854775807) (hx : l.drop k = x) (hy : l.take k = y) (w : World) : Calls Try.prog 15 #[.agg #[.string (S l), .int .i64 c], .int .i64 n] w fun e w' =>
    e = .returned (.tuple #[.agg #[.string (S x), .int .i64 c], .string (S y), .int .i64 0]) ∧ Below w.heap.size w w' := by
  subst hx; subst hy; exact take_yes h hr hk hn w
theorem right_drop {l : List UInt8} {c : Int} {k : Nat} (hr : rightL l c = true) : rightL (l.drop k) c = true := by
  obtain ⟨h1, h2, h3⟩ := rightL_true hr
  simp only [rightL, decide_eq_true_eq]
  simp; omega

set_option maxHeartbeats 1600000 in
set_option maxRecDepth 100000 in
theorem twice_no {l0 t0 : List UInt8} {c cut n m : Int} (w : World) (hl0 : l0.length ≤ maxLen) (ht0 : t0.length ≤ maxLen) (hr : rightL (l0.take 70000) c = false) :
    Calls Try.prog 5 #[.agg #[.string (S l0), .int .i64 c], .string (S t0), .int .i64 cut, .int .i64 n, .int .i64 m] w fun e w' => e = .returned (.bool true) ∧ Below w.heap.size w w' := by
  obtain ⟨l, hl⟩ : ∃ l, l0.take 70000 = l := ⟨_, rfl⟩
  obtain ⟨k, hk, hk1, hk2⟩ : ∃ k : Nat, min (t0.length : Int) 500 = k ∧ k ≤ t0.length ∧ k ≤ 500 := ⟨min t0.length 500, by omega, by omega, by omega⟩
  obtain ⟨s, hs, hsl⟩ : ∃ s, t0.take k = s ∧ s.length = k := ⟨_, rfl, by simp; omega⟩
  obtain ⟨p, hp, hp1, hp2⟩ := clamp cut 0 k (by omega)
  obtain ⟨n1, hn, hn1, hn2⟩ := clamp n 0 1000 (by omega)
  obtain ⟨m1, hm, hm1, hm2⟩ := clamp m 0 1000 (by omega)
  rw [hl] at hr
  have HL := Lib.hid hl
  have HR := Lib.hid hr
  have HF := Lib.hid hl0
  clear hl hr hl0
  unfold maxLen at ht0
  go_enter Try.func5, Try.ntmps5
  go_upto_region 1 with fail
  go_cut [1] (fun v wx => v = .string (S s) ∧ wx.cell? ⟨w.heap.size, 0, none⟩ = some (.string (S l)) ∧ wx.cell? ⟨w.heap.size, 1, none⟩ = some (.int .i64 c) ∧ w.heap.size < wx.heap.size ∧ Below w.heap.size w wx)
  case first =>
    go_region_with (go_at_call 8; refine (few_S HF.out HL.out _).mono ?_; rintro e w1 ⟨rfl, hb⟩; obtain ⟨hcc, hff⟩ := bk hb (w.heap.size) (by simp); have hz := hb.size; simp at hz)
    all_goals (go_wp2_with fail; go_meet; exact ⟨rfl, by simp [go_sem, *], by simp [go_sem, *], by simp <;> omega, by refine Below.setCell (Below.setCell (Below.trans ?_ (hb.mono (by simp <;> omega))) (by simp) _) (by simp) _; (repeat (first | exact Below.refl _ _ | assumption | refine Below.drew ?_ | refine Below.alloc ?_ (by first | omega | (simp <;> omega)) _ | refine Below.setCell ?_ (by first | omega | (simp <;> omega)) _))⟩)
  case rest =>
    obtain ⟨rfl, hc0, hc1, hlt, hB⟩ := hcut
    have hfar := far hlt
    go_wp2_with fail
    refine Calls.mono (put_no_S HR.out _) ?_
    rintro e w2 ⟨rfl, hb_w2⟩
    have hz_w2 := hb_w2.size
    try simp at hz_w2
    obtain ⟨c_w2_w_0, f_w2_w_0⟩ := bk hb_w2 (w.heap.size) (by first | omega | (simp <;> omega))
    have c_w2_w_0_0 := c_w2_w_0 0
    conv at c_w2_w_0_0 => rhs; simp [go_sem, *]
    have f_w2_w_0_0 := f_w2_w_0 0
    conv at f_w2_w_0_0 => rhs; simp [go_sem, *]
    have c_w2_w_0_1 := c_w2_w_0 1
    conv at c_w2_w_0_1 => rhs; simp [go_sem, *]
    have f_w2_w_0_1 := f_w2_w_0 1
    conv at f_w2_w_0_1 => rhs; simp [go_sem, *]
    have hB_w2 : Below w.heap.size w w2 := Below.trans (by (repeat (first | exact Below.refl _ _ | assumption | refine Below.drew ?_ | refine Below.alloc ?_ (by first | omega | (simp <;> omega)) _ | refine Below.setCell ?_ (by first | omega | (simp <;> omega)) _))) (hb_w2.mono (by first | omega | (simp <;> omega)))
    clear hb_w2 c_w2_w_0 f_w2_w_0
    have far_w2_w_0 := far (show w.heap.size < w2.heap.size by omega)
    go_wp2_with fail
    refine Calls.mono (alive_any _) ?_
    rintro e w3 ⟨rfl, hb_w3⟩
    have hz_w3 := hb_w3.size
    try simp at hz_w3
    obtain ⟨c_w3_w_0, f_w3_w_0⟩ := bk hb_w3 (w.heap.size) (by first | omega | (simp <;> omega))
    have c_w3_w_0_0 := c_w3_w_0 0
    conv at c_w3_w_0_0 => rhs; simp [go_sem, *]
    have f_w3_w_0_0 := f_w3_w_0 0
    conv at f_w3_w_0_0 => rhs; simp [go_sem, *]
    have c_w3_w_0_1 := c_w3_w_0 1
    conv at c_w3_w_0_1 => rhs; simp [go_sem, *]
    have f_w3_w_0_1 := f_w3_w_0 1
    conv at f_w3_w_0_1 => rhs; simp [go_sem, *]
    obtain ⟨c_w3_w2_0, f_w3_w2_0⟩ := bk hb_w3 (w2.heap.size) (by first | omega | (simp <;> omega))
    have c_w3_w2_0_0 := c_w3_w2_0 0
    conv at c_w3_w2_0_0 => rhs; simp [go_sem, *]
    have f_w3_w2_0_0 := f_w3_w2_0 0
    conv at f_w3_w2_0_0 => rhs; simp [go_sem, *]
    have c_w3_w2_0_1 := c_w3_w2_0 1
    conv at c_w3_w2_0_1 => rhs; simp [go_sem, *]
    have f_w3_w2_0_1 := f_w3_w2_0 1
    conv at f_w3_w2_0_1 => rhs; simp [go_sem, *]
    have hB_w3 : Below w.heap.size w w3 := Below.trans (by (repeat (first | exact Below.refl _ _ | assumption | refine Below.drew ?_ | refine Below.alloc ?_ (by first | omega | (simp <;> omega)) _ | refine Below.setCell ?_ (by first | omega | (simp <;> omega)) _))) (hb_w3.mono (by first | omega | (simp <;> omega)))
    clear hb_w3 c_w3_w_0 f_w3_w_0 c_w3_w2_0 f_w3_w2_0
    try clear c_w2_w_0_0
    try clear f_w2_w_0_0
    try clear c_w2_w_0_1
    try clear f_w2_w_0_1
    try clear far_w2_w_0
    try clear hB_w2
    have far_w3_w_0 := far (show w.heap.size < w3.heap.size by omega)
    have far_w3_w2_0 := far (show w2.heap.size < w3.heap.size by omega)
    go_wp2
    go_ret
    exact ⟨rfl, by (repeat (first | exact Below.refl _ _ | assumption | refine Below.drew ?_ | refine Below.alloc ?_ (by first | omega | (simp <;> omega)) _ | refine Below.setCell ?_ (by first | omega | (simp <;> omega)) _))⟩

set_option maxHeartbeats 3200000 in
set_option maxRecDepth 100000 in
theorem twice_yes {l0 t0 : List UInt8} {c cut n m : Int} (w : World) (hl0 : l0.length ≤ maxLen) (ht0 : t0.length ≤ maxLen) (hr : rightL (l0.take 70000) c = true) :
    Calls Try.prog 5 #[.agg #[.string (S l0), .int .i64 c], .string (S t0), .int .i64 cut, .int .i64 n, .int .i64 m] w fun e w' => e = .returned (.bool true) ∧ Below w.heap.size w w' := by
  obtain ⟨l, hl⟩ : ∃ l, l0.take 70000 = l := ⟨_, rfl⟩
  obtain ⟨k, hk, hk1, hk2⟩ : ∃ k : Nat, min (t0.length : Int) 500 = k ∧ k ≤ t0.length ∧ k ≤ 500 := ⟨min t0.length 500, by omega, by omega, by omega⟩
  obtain ⟨s, hs, hsl⟩ : ∃ s, t0.take k = s ∧ s.length = k := ⟨_, rfl, by simp; omega⟩
  obtain ⟨p', hp', hp1, hp2⟩ := clamp cut 0 k (by omega)
  obtain ⟨p, rfl⟩ := Int.eq_ofNat_of_zero_le hp1
  obtain ⟨n1, hn, hn1, hn2⟩ := clamp n 0 1000 (by omega)
  obtain ⟨m1, hm, hm1, hm2⟩ := clamp m 0 1000 (by omega)
  rw [hl] at hr
  have hp3 : p ≤ k := by omega
  obtain ⟨hr1, hr2, hr3⟩ := rightL_true hr
  obtain ⟨i, j, K, b1, b2, a, e1, e2, e3, e4, e5, e6, e7, hip, hA, hB, hj⟩ := put_parts (l := l) (s := s) (c := c) (p := p) hr (by omega)
  obtain ⟨k1, k2, k3, y, z, u, v, g1, g2, g3, g4, g5, g6, g7, g8, g9, hul, hvl⟩ := take_parts (l := l) hn1 hm1
  obtain ⟨s1, hs1, hs1l⟩ : ∃ s1, s.take p = s1 ∧ s1.length ≤ 500 := ⟨_, rfl, by simp; omega⟩
  obtain ⟨s2, hs2, hs2l⟩ : ∃ s2, s.drop p = s2 ∧ s2.length ≤ 500 := ⟨_, rfl, by simp; omega⟩
  rw [hs1] at e3 e4
  rw [hs2] at e5 e6 hj
  have hj5 : j ≤ 500 := by omega
  clear hj
  have P1 := Lib.hid (put_yes_S hr (show s.length ≤ maxLen by unfold maxLen; omega) e1 e2)
  have P2 := Lib.hid (put_yes_S hr (show s1.length ≤ maxLen by unfold maxLen; omega) e3 e4)
  have P3 := Lib.hid (put_yes_S e7 (show s2.length ≤ maxLen by unfold maxLen; omega) e5 e6)
  have yr : rightL y c = true := g2 ▸ right_drop hr
  have T1 := Lib.hid (take_S (show 0 ≤ n1 + m1 by omega) hr g7 (by omega) g8 g9)
  have T2 := Lib.hid (take_S hn1 hr g1 (by omega) g2 g3)
  have T3 := Lib.hid (take_S hm1 yr g4 (by omega) g5 g6)
  have HL := Lib.hid hl
  have HF := Lib.hid hl0
  have HA := Lib.hid hA
  have HB := Lib.hid hB
  have hstake : s.take k = s := List.take_of_length_le (by omega)
  clear hl hr hl0 e1 e2 e3 e4 e5 e6 e7 g1 g2 g3 g4 g5 g6 g7 g8 g9 yr hA hB
  unfold maxLen at ht0
  go_enter Try.func5, Try.ntmps5
  go_upto_region 1 with fail
  go_cut [1] (fun v wx => v = .string (S s) ∧ wx.cell? ⟨w.heap.size, 0, none⟩ = some (.string (S l)) ∧ wx.cell? ⟨w.heap.size, 1, none⟩ = some (.int .i64 c) ∧ w.heap.size < wx.heap.size ∧ Below w.heap.size w wx)
  case first =>
    as_aux_lemma =>
      go_region_with (go_at_call 8; refine (few_S HF.out HL.out _).mono ?_; rintro e w1 ⟨rfl, hb⟩; obtain ⟨hcc, hff⟩ := bk hb (w.heap.size) (by simp); have hz := hb.size; simp at hz)
      all_goals (go_wp2_with fail; go_meet; exact ⟨rfl, by simp [go_sem, *], by simp [go_sem, *], by simp <;> omega, by refine Below.setCell (Below.setCell (Below.trans ?_ (hb.mono (by simp <;> omega))) (by simp) _) (by simp) _; (repeat (first | exact Below.refl _ _ | assumption | refine Below.drew ?_ | refine Below.alloc ?_ (by first | omega | (simp <;> omega)) _ | refine Below.setCell ?_ (by first | omega | (simp <;> omega)) _))⟩)
  case rest =>
    obtain ⟨rfl, hc0, hc1, hlt, hB⟩ := hcut
    have hfar := far hlt
    go_wp2_with fail
    refine Calls.mono (P1.out _) ?_
    rintro e w2 ⟨rfl, hb_w2⟩
    have hz_w2 := hb_w2.size
    try simp at hz_w2
    obtain ⟨c_w2_w_0, f_w2_w_0⟩ := bk hb_w2 (w.heap.size) (by first | omega | (simp <;> omega))
    have c_w2_w_0_0 := c_w2_w_0 0
    conv at c_w2_w_0_0 => rhs; simp [go_sem, *]
    have f_w2_w_0_0 := f_w2_w_0 0
    conv at f_w2_w_0_0 => rhs; simp [go_sem, *]
    have c_w2_w_0_1 := c_w2_w_0 1
    conv at c_w2_w_0_1 => rhs; simp [go_sem, *]
    have f_w2_w_0_1 := f_w2_w_0 1
    conv at f_w2_w_0_1 => rhs; simp [go_sem, *]
    have hB_w2 : Below w.heap.size w w2 := Below.trans (by (repeat (first | exact Below.refl _ _ | assumption | refine Below.drew ?_ | refine Below.alloc ?_ (by first | omega | (simp <;> omega)) _ | refine Below.setCell ?_ (by first | omega | (simp <;> omega)) _))) (hb_w2.mono (by first | omega | (simp <;> omega)))
    clear hb_w2 c_w2_w_0 f_w2_w_0
    have far_w2_w_0 := far (show w.heap.size < w2.heap.size by omega)
    have hw2 : w.heap.size < w2.heap.size := by omega
    go_upto_region 7 with fail
    go_cut [14, 15, 16] (fun b iv f wx => ∃ g, b = .pointer (some ⟨g, 0, none⟩) ∧ iv = .int .i64 i ∧ f = .int .i64 0 ∧ wx.cell? ⟨g, 0, none⟩ = some (.string (S b1)) ∧ wx.cell? ⟨g, 1, none⟩ = some (.int .i64 c) ∧ w2.heap.size < g ∧ g < wx.heap.size ∧
      wx.cell? ⟨w.heap.size, 0, none⟩ = some (.string (S l)) ∧ wx.cell? ⟨w.heap.size, 1, none⟩ = some (.int .i64 c) ∧ wx.cell? ⟨w2.heap.size, 0, none⟩ = some (.string (S a)) ∧ wx.cell? ⟨w2.heap.size, 1, none⟩ = some (.int .i64 c) ∧ Below w.heap.size w wx)
    case first =>
      as_aux_lemma =>
        go_region_with (go_at_call 14; refine (P2.out _).mono ?_; rintro e w3 ⟨rfl, hb⟩; obtain ⟨hcc, hff⟩ := bk hb (w.heap.size) (by simp <;> omega); obtain ⟨hcc2, hff2⟩ := bk hb (w2.heap.size) (by simp <;> omega); have hz := hb.size; simp at hz; have far1 := far (show w.heap.size < w3.heap.size by omega); have far2 := far (show w2.heap.size < w3.heap.size by omega); have hcg := bk hb (w2.heap.size + 1))
        all_goals (go_wp2_with fail; go_meet)
        all_goals (refine ⟨_, rfl, rfl, rfl, ?_, ?_, ?_, ?_, ?_, ?_, ?_, ?_, ?_⟩)
        all_goals first | (simp [go_sem, *]; done) | (simp; omega) | ((repeat (first | exact Below.refl _ _ | assumption | refine Below.drew ?_ | refine Below.alloc ?_ (by first | omega | (simp <;> omega)) _ | refine Below.setCell ?_ (by first | omega | (simp <;> omega)) _)); refine Below.trans ?_ (hb.mono (by simp <;> omega)); (repeat (first | exact Below.refl _ _ | assumption | refine Below.drew ?_ | refine Below.alloc ?_ (by first | omega | (simp <;> omega)) _ | refine Below.setCell ?_ (by first | omega | (simp <;> omega)) _)))
    case rest =>
      obtain ⟨g, rfl, rfl, rfl, d0, d1, dg, dg', d2, d3, d4, d5, dB⟩ := hcut
      have fa := far (show w.heap.size < wc.heap.size by omega)
      have fb := far (show w2.heap.size < wc.heap.size by omega)
      have fc := far dg'
      have twg : w.heap.size < g := by omega
      obtain ⟨wa, ewa⟩ : ∃ x, x = wc := ⟨_, rfl⟩
      rw [← ewa] at d0 d1 dg' d2 d3 d4 d5 dB fa fb fc
      rw [← ewa]
      clear ewa hc0 hc1 hlt hfar hB
      go_upto_region 8 with fail
      go_cut [17, 18, 19] (fun b iv f wx => ∃ g2, b = .pointer (some ⟨g2, 0, none⟩) ∧ iv = .int .i64 j ∧ f = .int .i64 0 ∧ wx.cell? ⟨g2, 0, none⟩ = some (.string (S b2)) ∧ wx.cell? ⟨g2, 1, none⟩ = some (.int .i64 c) ∧ g < g2 ∧ g2 < wx.heap.size ∧
        wx.cell? ⟨w.heap.size, 0, none⟩ = some (.string (S l)) ∧ wx.cell? ⟨w.heap.size, 1, none⟩ = some (.int .i64 c) ∧ wx.cell? ⟨w2.heap.size, 0, none⟩ = some (.string (S a)) ∧ wx.cell? ⟨w2.heap.size, 1, none⟩ = some (.int .i64 c) ∧ Below w.heap.size w wx)
      case first =>
        as_aux_lemma =>
          go_region_with (go_at_call 14; refine (P3.out _).mono ?_; rintro e w3 ⟨rfl, hb⟩; obtain ⟨hcc, hff⟩ := bk hb (w.heap.size) (by simp <;> omega); obtain ⟨hcc2, hff2⟩ := bk hb (w2.heap.size) (by simp <;> omega); have hz := hb.size; simp at hz; have far1 := far (show w.heap.size < w3.heap.size by omega); have far2 := far (show w2.heap.size < w3.heap.size by omega); have far3 := far (show g < w3.heap.size by omega); have hcg := bk hb wa.heap.size)
          all_goals (go_wp2_with fail; go_meet)
          all_goals (refine ⟨_, rfl, rfl, rfl, ?_, ?_, ?_, ?_, ?_, ?_, ?_, ?_, ?_⟩)
          all_goals first | (simp [go_sem, *]; done) | (simp; omega) | ((repeat (first | exact Below.refl _ _ | assumption | refine Below.drew ?_ | refine Below.alloc ?_ (by first | omega | (simp <;> omega)) _ | refine Below.setCell ?_ (by first | omega | (simp <;> omega)) _)); refine Below.trans ?_ (hb.mono (by simp <;> omega)); (repeat (first | exact Below.refl _ _ | assumption | refine Below.drew ?_ | refine Below.alloc ?_ (by first | omega | (simp <;> omega)) _ | refine Below.setCell ?_ (by first | omega | (simp <;> omega)) _)))
      case rest =>
        obtain ⟨g2, rfl, rfl, rfl, q0, q1, qg, qg', q2, q3, q4, q5, qB⟩ := hcut
        have ga := far (show w.heap.size < wc.heap.size by omega)
        have gb := far (show w2.heap.size < wc.heap.size by omega)
        have gc := far qg'
        clear d0 d1 dg dg' d2 d3 d4 d5 dB fa fb fc twg
        by_cases hi : i = p
        · as_aux_lemma =>
            obtain ⟨rfl, rfl⟩ := HA.out hi
            subst hi
            go_wp2_with fail
            refine Calls.mono (T1.out _) ?_
            rintro e w3 ⟨rfl, hb_w3⟩
            have hz_w3 := hb_w3.size
            try simp at hz_w3
            obtain ⟨c_w3_w_0, f_w3_w_0⟩ := bk hb_w3 (w.heap.size) (by first | omega | (simp <;> omega))
            have c_w3_w_0_0 := c_w3_w_0 0
            conv at c_w3_w_0_0 => rhs; simp [go_sem, *]
            have f_w3_w_0_0 := f_w3_w_0 0
            conv at f_w3_w_0_0 => rhs; simp [go_sem, *]
            have c_w3_w_0_1 := c_w3_w_0 1
            conv at c_w3_w_0_1 => rhs; simp [go_sem, *]
            have f_w3_w_0_1 := f_w3_w_0 1
            conv at f_w3_w_0_1 => rhs; simp [go_sem, *]
            have hB_w3 : Below w.heap.size w w3 := Below.trans (by (repeat (first | exact Below.refl _ _ | assumption | refine Below.drew ?_ | refine Below.alloc ?_ (by first | omega | (simp <;> omega)) _ | refine Below.setCell ?_ (by first | omega | (simp <;> omega)) _))) (hb_w3.mono (by first | omega | (simp <;> omega)))
            clear hb_w3 c_w3_w_0 f_w3_w_0
            try clear c_w2_w_0_0
            try clear f_w2_w_0_0
            try clear c_w2_w_0_1
            try clear f_w2_w_0_1
            try clear far_w2_w_0
            try clear hB_w2
            have far_w3_w_0 := far (show w.heap.size < w3.heap.size by omega)
            go_wp2_with fail
            refine Calls.mono (T2.out _) ?_
            rintro e w4 ⟨rfl, hb_w4⟩
            have hz_w4 := hb_w4.size
            try simp at hz_w4
            obtain ⟨c_w4_w_0, f_w4_w_0⟩ := bk hb_w4 (w.heap.size) (by first | omega | (simp <;> omega))
            have c_w4_w_0_0 := c_w4_w_0 0
            conv at c_w4_w_0_0 => rhs; simp [go_sem, *]
            have f_w4_w_0_0 := f_w4_w_0 0
            conv at f_w4_w_0_0 => rhs; simp [go_sem, *]
            have c_w4_w_0_1 := c_w4_w_0 1
            conv at c_w4_w_0_1 => rhs; simp [go_sem, *]
            have f_w4_w_0_1 := f_w4_w_0 1
            conv at f_w4_w_0_1 => rhs; simp [go_sem, *]
            obtain ⟨c_w4_w3_0, f_w4_w3_0⟩ := bk hb_w4 (w3.heap.size) (by first | omega | (simp <;> omega))
            have c_w4_w3_0_0 := c_w4_w3_0 0
            conv at c_w4_w3_0_0 => rhs; simp [go_sem, *]
            have f_w4_w3_0_0 := f_w4_w3_0 0
            conv at f_w4_w3_0_0 => rhs; simp [go_sem, *]
            have c_w4_w3_0_1 := c_w4_w3_0 1
            conv at c_w4_w3_0_1 => rhs; simp [go_sem, *]
            have f_w4_w3_0_1 := f_w4_w3_0 1
            conv at f_w4_w3_0_1 => rhs; simp [go_sem, *]
            have hB_w4 : Below w.heap.size w w4 := Below.trans (by (repeat (first | exact Below.refl _ _ | assumption | refine Below.drew ?_ | refine Below.alloc ?_ (by first | omega | (simp <;> omega)) _ | refine Below.setCell ?_ (by first | omega | (simp <;> omega)) _))) (hb_w4.mono (by first | omega | (simp <;> omega)))
            clear hb_w4 c_w4_w_0 f_w4_w_0 c_w4_w3_0 f_w4_w3_0
            try clear c_w3_w_0_0
            try clear f_w3_w_0_0
            try clear c_w3_w_0_1
            try clear f_w3_w_0_1
            try clear far_w3_w_0
            try clear hB_w3
            have far_w4_w_0 := far (show w.heap.size < w4.heap.size by omega)
            have far_w4_w3_0 := far (show w3.heap.size < w4.heap.size by omega)
            go_wp2_with fail
            refine Calls.mono (T3.out _) ?_
            rintro e w5 ⟨rfl, hb_w5⟩
            have hz_w5 := hb_w5.size
            try simp at hz_w5
            obtain ⟨c_w5_w_0, f_w5_w_0⟩ := bk hb_w5 (w.heap.size) (by first | omega | (simp <;> omega))
            have c_w5_w_0_0 := c_w5_w_0 0
            conv at c_w5_w_0_0 => rhs; simp [go_sem, *]
            have f_w5_w_0_0 := f_w5_w_0 0
            conv at f_w5_w_0_0 => rhs; simp [go_sem, *]
            have c_w5_w_0_1 := c_w5_w_0 1
            conv at c_w5_w_0_1 => rhs; simp [go_sem, *]
            have f_w5_w_0_1 := f_w5_w_0 1
            conv at f_w5_w_0_1 => rhs; simp [go_sem, *]
            obtain ⟨c_w5_w3_0, f_w5_w3_0⟩ := bk hb_w5 (w3.heap.size) (by first | omega | (simp <;> omega))
            have c_w5_w3_0_0 := c_w5_w3_0 0
            conv at c_w5_w3_0_0 => rhs; simp [go_sem, *]
            have f_w5_w3_0_0 := f_w5_w3_0 0
            conv at f_w5_w3_0_0 => rhs; simp [go_sem, *]
            have c_w5_w3_0_1 := c_w5_w3_0 1
            conv at c_w5_w3_0_1 => rhs; simp [go_sem, *]
            have f_w5_w3_0_1 := f_w5_w3_0 1
            conv at f_w5_w3_0_1 => rhs; simp [go_sem, *]
            obtain ⟨c_w5_w4_0, f_w5_w4_0⟩ := bk hb_w5 (w4.heap.size) (by first | omega | (simp <;> omega))
            have c_w5_w4_0_0 := c_w5_w4_0 0
            conv at c_w5_w4_0_0 => rhs; simp [go_sem, *]
            have f_w5_w4_0_0 := f_w5_w4_0 0
            conv at f_w5_w4_0_0 => rhs; simp [go_sem, *]
            have c_w5_w4_0_1 := c_w5_w4_0 1
            conv at c_w5_w4_0_1 => rhs; simp [go_sem, *]
            have f_w5_w4_0_1 := f_w5_w4_0 1
            conv at f_w5_w4_0_1 => rhs; simp [go_sem, *]
            have hB_w5 : Below w.heap.size w w5 := Below.trans (by (repeat (first | exact Below.refl _ _ | assumption | refine Below.drew ?_ | refine Below.alloc ?_ (by first | omega | (simp <;> omega)) _ | refine Below.setCell ?_ (by first | omega | (simp <;> omega)) _))) (hb_w5.mono (by first | omega | (simp <;> omega)))
            clear hb_w5 c_w5_w_0 f_w5_w_0 c_w5_w3_0 f_w5_w3_0 c_w5_w4_0 f_w5_w4_0
            try clear c_w4_w_0_0
            try clear f_w4_w_0_0
            try clear c_w4_w_0_1
            try clear f_w4_w_0_1
            try clear c_w4_w3_0_0
            try clear f_w4_w3_0_0
            try clear c_w4_w3_0_1
            try clear f_w4_w3_0_1
            try clear far_w4_w_0
            try clear far_w4_w3_0
            try clear hB_w4
            have far_w5_w_0 := far (show w.heap.size < w5.heap.size by omega)
            have far_w5_w3_0 := far (show w3.heap.size < w5.heap.size by omega)
            have far_w5_w4_0 := far (show w4.heap.size < w5.heap.size by omega)
            go_wp2_with fail
            refine Calls.mono (alive_any _) ?_
            rintro e w6 ⟨rfl, hb_w6⟩
            have hz_w6 := hb_w6.size
            try simp at hz_w6
            obtain ⟨c_w6_w_0, f_w6_w_0⟩ := bk hb_w6 (w.heap.size) (by first | omega | (simp <;> omega))
            have c_w6_w_0_0 := c_w6_w_0 0
            conv at c_w6_w_0_0 => rhs; simp [go_sem, *]
            have f_w6_w_0_0 := f_w6_w_0 0
            conv at f_w6_w_0_0 => rhs; simp [go_sem, *]
            have c_w6_w_0_1 := c_w6_w_0 1
            conv at c_w6_w_0_1 => rhs; simp [go_sem, *]
            have f_w6_w_0_1 := f_w6_w_0 1
            conv at f_w6_w_0_1 => rhs; simp [go_sem, *]
            obtain ⟨c_w6_w3_0, f_w6_w3_0⟩ := bk hb_w6 (w3.heap.size) (by first | omega | (simp <;> omega))
            have c_w6_w3_0_0 := c_w6_w3_0 0
            conv at c_w6_w3_0_0 => rhs; simp [go_sem, *]
            have f_w6_w3_0_0 := f_w6_w3_0 0
            conv at f_w6_w3_0_0 => rhs; simp [go_sem, *]
            have c_w6_w3_0_1 := c_w6_w3_0 1
            conv at c_w6_w3_0_1 => rhs; simp [go_sem, *]
            have f_w6_w3_0_1 := f_w6_w3_0 1
            conv at f_w6_w3_0_1 => rhs; simp [go_sem, *]
            obtain ⟨c_w6_w4_0, f_w6_w4_0⟩ := bk hb_w6 (w4.heap.size) (by first | omega | (simp <;> omega))
            have c_w6_w4_0_0 := c_w6_w4_0 0
            conv at c_w6_w4_0_0 => rhs; simp [go_sem, *]
            have f_w6_w4_0_0 := f_w6_w4_0 0
            conv at f_w6_w4_0_0 => rhs; simp [go_sem, *]
            have c_w6_w4_0_1 := c_w6_w4_0 1
            conv at c_w6_w4_0_1 => rhs; simp [go_sem, *]
            have f_w6_w4_0_1 := f_w6_w4_0 1
            conv at f_w6_w4_0_1 => rhs; simp [go_sem, *]
            obtain ⟨c_w6_w5_0, f_w6_w5_0⟩ := bk hb_w6 (w5.heap.size) (by first | omega | (simp <;> omega))
            have c_w6_w5_0_0 := c_w6_w5_0 0
            conv at c_w6_w5_0_0 => rhs; simp [go_sem, *]
            have f_w6_w5_0_0 := f_w6_w5_0 0
            conv at f_w6_w5_0_0 => rhs; simp [go_sem, *]
            have c_w6_w5_0_1 := c_w6_w5_0 1
            conv at c_w6_w5_0_1 => rhs; simp [go_sem, *]
            have f_w6_w5_0_1 := f_w6_w5_0 1
            conv at f_w6_w5_0_1 => rhs; simp [go_sem, *]
            have hB_w6 : Below w.heap.size w w6 := Below.trans (by (repeat (first | exact Below.refl _ _ | assumption | refine Below.drew ?_ | refine Below.alloc ?_ (by first | omega | (simp <;> omega)) _ | refine Below.setCell ?_ (by first | omega | (simp <;> omega)) _))) (hb_w6.mono (by first | omega | (simp <;> omega)))
            clear hb_w6 c_w6_w_0 f_w6_w_0 c_w6_w3_0 f_w6_w3_0 c_w6_w4_0 f_w6_w4_0 c_w6_w5_0 f_w6_w5_0
            try clear c_w5_w_0_0
            try clear f_w5_w_0_0
            try clear c_w5_w_0_1
            try clear f_w5_w_0_1
            try clear c_w5_w3_0_0
            try clear f_w5_w3_0_0
            try clear c_w5_w3_0_1
            try clear f_w5_w3_0_1
            try clear c_w5_w4_0_0
            try clear f_w5_w4_0_0
            try clear c_w5_w4_0_1
            try clear f_w5_w4_0_1
            try clear far_w5_w_0
            try clear far_w5_w3_0
            try clear far_w5_w4_0
            try clear hB_w5
            have far_w6_w_0 := far (show w.heap.size < w6.heap.size by omega)
            have far_w6_w3_0 := far (show w3.heap.size < w6.heap.size by omega)
            have far_w6_w4_0 := far (show w4.heap.size < w6.heap.size by omega)
            have far_w6_w5_0 := far (show w5.heap.size < w6.heap.size by omega)
            go_wp2
            go_ret
            exact ⟨rfl, by (repeat (first | exact Below.refl _ _ | assumption | refine Below.drew ?_ | refine Below.alloc ?_ (by first | omega | (simp <;> omega)) _ | refine Below.setCell ?_ (by first | omega | (simp <;> omega)) _))⟩
        · as_aux_lemma =>
            have hlt : i < p := by omega
            obtain rfl := HB.out hlt
            have h1 : ((i : Int) == (p : Int)) = false := by simp; omega
            have h2 : (i : Int) < (p : Int) := by omega
            clear hi
            go_wp2_with fail
            refine Calls.mono (T1.out _) ?_
            rintro e w3 ⟨rfl, hb_w3⟩
            have hz_w3 := hb_w3.size
            try simp at hz_w3
            obtain ⟨c_w3_w_0, f_w3_w_0⟩ := bk hb_w3 (w.heap.size) (by first | omega | (simp <;> omega))
            have c_w3_w_0_0 := c_w3_w_0 0
            conv at c_w3_w_0_0 => rhs; simp [go_sem, *]
            have f_w3_w_0_0 := f_w3_w_0 0
            conv at f_w3_w_0_0 => rhs; simp [go_sem, *]
            have c_w3_w_0_1 := c_w3_w_0 1
            conv at c_w3_w_0_1 => rhs; simp [go_sem, *]
            have f_w3_w_0_1 := f_w3_w_0 1
            conv at f_w3_w_0_1 => rhs; simp [go_sem, *]
            have hB_w3 : Below w.heap.size w w3 := Below.trans (by (repeat (first | exact Below.refl _ _ | assumption | refine Below.drew ?_ | refine Below.alloc ?_ (by first | omega | (simp <;> omega)) _ | refine Below.setCell ?_ (by first | omega | (simp <;> omega)) _))) (hb_w3.mono (by first | omega | (simp <;> omega)))
            clear hb_w3 c_w3_w_0 f_w3_w_0
            try clear c_w6_w_0_0
            try clear f_w6_w_0_0
            try clear c_w6_w_0_1
            try clear f_w6_w_0_1
            try clear c_w6_w3_0_0
            try clear f_w6_w3_0_0
            try clear c_w6_w3_0_1
            try clear f_w6_w3_0_1
            try clear c_w6_w4_0_0
            try clear f_w6_w4_0_0
            try clear c_w6_w4_0_1
            try clear f_w6_w4_0_1
            try clear c_w6_w5_0_0
            try clear f_w6_w5_0_0
            try clear c_w6_w5_0_1
            try clear f_w6_w5_0_1
            try clear far_w6_w_0
            try clear far_w6_w3_0
            try clear far_w6_w4_0
            try clear far_w6_w5_0
            try clear hB_w6
            have far_w3_w_0 := far (show w.heap.size < w3.heap.size by omega)
            go_wp2_with fail
            refine Calls.mono (T2.out _) ?_
            rintro e w4 ⟨rfl, hb_w4⟩
            have hz_w4 := hb_w4.size
            try simp at hz_w4
            obtain ⟨c_w4_w_0, f_w4_w_0⟩ := bk hb_w4 (w.heap.size) (by first | omega | (simp <;> omega))
            have c_w4_w_0_0 := c_w4_w_0 0
            conv at c_w4_w_0_0 => rhs; simp [go_sem, *]
            have f_w4_w_0_0 := f_w4_w_0 0
            conv at f_w4_w_0_0 => rhs; simp [go_sem, *]
            have c_w4_w_0_1 := c_w4_w_0 1
            conv at c_w4_w_0_1 => rhs; simp [go_sem, *]
            have f_w4_w_0_1 := f_w4_w_0 1
            conv at f_w4_w_0_1 => rhs; simp [go_sem, *]
            obtain ⟨c_w4_w3_0, f_w4_w3_0⟩ := bk hb_w4 (w3.heap.size) (by first | omega | (simp <;> omega))
            have c_w4_w3_0_0 := c_w4_w3_0 0
            conv at c_w4_w3_0_0 => rhs; simp [go_sem, *]
            have f_w4_w3_0_0 := f_w4_w3_0 0
            conv at f_w4_w3_0_0 => rhs; simp [go_sem, *]
            have c_w4_w3_0_1 := c_w4_w3_0 1
            conv at c_w4_w3_0_1 => rhs; simp [go_sem, *]
            have f_w4_w3_0_1 := f_w4_w3_0 1
            conv at f_w4_w3_0_1 => rhs; simp [go_sem, *]
            have hB_w4 : Below w.heap.size w w4 := Below.trans (by (repeat (first | exact Below.refl _ _ | assumption | refine Below.drew ?_ | refine Below.alloc ?_ (by first | omega | (simp <;> omega)) _ | refine Below.setCell ?_ (by first | omega | (simp <;> omega)) _))) (hb_w4.mono (by first | omega | (simp <;> omega)))
            clear hb_w4 c_w4_w_0 f_w4_w_0 c_w4_w3_0 f_w4_w3_0
            try clear c_w3_w_0_0
            try clear f_w3_w_0_0
            try clear c_w3_w_0_1
            try clear f_w3_w_0_1
            try clear far_w3_w_0
            try clear hB_w3
            have far_w4_w_0 := far (show w.heap.size < w4.heap.size by omega)
            have far_w4_w3_0 := far (show w3.heap.size < w4.heap.size by omega)
            go_wp2_with fail
            refine Calls.mono (T3.out _) ?_
            rintro e w5 ⟨rfl, hb_w5⟩
            have hz_w5 := hb_w5.size
            try simp at hz_w5
            obtain ⟨c_w5_w_0, f_w5_w_0⟩ := bk hb_w5 (w.heap.size) (by first | omega | (simp <;> omega))
            have c_w5_w_0_0 := c_w5_w_0 0
            conv at c_w5_w_0_0 => rhs; simp [go_sem, *]
            have f_w5_w_0_0 := f_w5_w_0 0
            conv at f_w5_w_0_0 => rhs; simp [go_sem, *]
            have c_w5_w_0_1 := c_w5_w_0 1
            conv at c_w5_w_0_1 => rhs; simp [go_sem, *]
            have f_w5_w_0_1 := f_w5_w_0 1
            conv at f_w5_w_0_1 => rhs; simp [go_sem, *]
            obtain ⟨c_w5_w3_0, f_w5_w3_0⟩ := bk hb_w5 (w3.heap.size) (by first | omega | (simp <;> omega))
            have c_w5_w3_0_0 := c_w5_w3_0 0
            conv at c_w5_w3_0_0 => rhs; simp [go_sem, *]
            have f_w5_w3_0_0 := f_w5_w3_0 0
            conv at f_w5_w3_0_0 => rhs; simp [go_sem, *]
            have c_w5_w3_0_1 := c_w5_w3_0 1
            conv at c_w5_w3_0_1 => rhs; simp [go_sem, *]
            have f_w5_w3_0_1 := f_w5_w3_0 1
            conv at f_w5_w3_0_1 => rhs; simp [go_sem, *]
            obtain ⟨c_w5_w4_0, f_w5_w4_0⟩ := bk hb_w5 (w4.heap.size) (by first | omega | (simp <;> omega))
            have c_w5_w4_0_0 := c_w5_w4_0 0
            conv at c_w5_w4_0_0 => rhs; simp [go_sem, *]
            have f_w5_w4_0_0 := f_w5_w4_0 0
            conv at f_w5_w4_0_0 => rhs; simp [go_sem, *]
            have c_w5_w4_0_1 := c_w5_w4_0 1
            conv at c_w5_w4_0_1 => rhs; simp [go_sem, *]
            have f_w5_w4_0_1 := f_w5_w4_0 1
            conv at f_w5_w4_0_1 => rhs; simp [go_sem, *]
            have hB_w5 : Below w.heap.size w w5 := Below.trans (by (repeat (first | exact Below.refl _ _ | assumption | refine Below.drew ?_ | refine Below.alloc ?_ (by first | omega | (simp <;> omega)) _ | refine Below.setCell ?_ (by first | omega | (simp <;> omega)) _))) (hb_w5.mono (by first | omega | (simp <;> omega)))
            clear hb_w5 c_w5_w_0 f_w5_w_0 c_w5_w3_0 f_w5_w3_0 c_w5_w4_0 f_w5_w4_0
            try clear c_w4_w_0_0
            try clear f_w4_w_0_0
            try clear c_w4_w_0_1
            try clear f_w4_w_0_1
            try clear c_w4_w3_0_0
            try clear f_w4_w3_0_0
            try clear c_w4_w3_0_1
            try clear f_w4_w3_0_1
            try clear far_w4_w_0
            try clear far_w4_w3_0
            try clear hB_w4
            have far_w5_w_0 := far (show w.heap.size < w5.heap.size by omega)
            have far_w5_w3_0 := far (show w3.heap.size < w5.heap.size by omega)
            have far_w5_w4_0 := far (show w4.heap.size < w5.heap.size by omega)
            go_wp2_with fail
            refine Calls.mono (alive_any _) ?_
            rintro e w6 ⟨rfl, hb_w6⟩
            have hz_w6 := hb_w6.size
            try simp at hz_w6
            obtain ⟨c_w6_w_0, f_w6_w_0⟩ := bk hb_w6 (w.heap.size) (by first | omega | (simp <;> omega))
            have c_w6_w_0_0 := c_w6_w_0 0
            conv at c_w6_w_0_0 => rhs; simp [go_sem, *]
            have f_w6_w_0_0 := f_w6_w_0 0
            conv at f_w6_w_0_0 => rhs; simp [go_sem, *]
            have c_w6_w_0_1 := c_w6_w_0 1
            conv at c_w6_w_0_1 => rhs; simp [go_sem, *]
            have f_w6_w_0_1 := f_w6_w_0 1
            conv at f_w6_w_0_1 => rhs; simp [go_sem, *]
            obtain ⟨c_w6_w3_0, f_w6_w3_0⟩ := bk hb_w6 (w3.heap.size) (by first | omega | (simp <;> omega))
            have c_w6_w3_0_0 := c_w6_w3_0 0
            conv at c_w6_w3_0_0 => rhs; simp [go_sem, *]
            have f_w6_w3_0_0 := f_w6_w3_0 0
            conv at f_w6_w3_0_0 => rhs; simp [go_sem, *]
            have c_w6_w3_0_1 := c_w6_w3_0 1
            conv at c_w6_w3_0_1 => rhs; simp [go_sem, *]
            have f_w6_w3_0_1 := f_w6_w3_0 1
            conv at f_w6_w3_0_1 => rhs; simp [go_sem, *]
            obtain ⟨c_w6_w4_0, f_w6_w4_0⟩ := bk hb_w6 (w4.heap.size) (by first | omega | (simp <;> omega))
            have c_w6_w4_0_0 := c_w6_w4_0 0
            conv at c_w6_w4_0_0 => rhs; simp [go_sem, *]
            have f_w6_w4_0_0 := f_w6_w4_0 0
            conv at f_w6_w4_0_0 => rhs; simp [go_sem, *]
            have c_w6_w4_0_1 := c_w6_w4_0 1
            conv at c_w6_w4_0_1 => rhs; simp [go_sem, *]
            have f_w6_w4_0_1 := f_w6_w4_0 1
            conv at f_w6_w4_0_1 => rhs; simp [go_sem, *]
            obtain ⟨c_w6_w5_0, f_w6_w5_0⟩ := bk hb_w6 (w5.heap.size) (by first | omega | (simp <;> omega))
            have c_w6_w5_0_0 := c_w6_w5_0 0
            conv at c_w6_w5_0_0 => rhs; simp [go_sem, *]
            have f_w6_w5_0_0 := f_w6_w5_0 0
            conv at f_w6_w5_0_0 => rhs; simp [go_sem, *]
            have c_w6_w5_0_1 := c_w6_w5_0 1
            conv at c_w6_w5_0_1 => rhs; simp [go_sem, *]
            have f_w6_w5_0_1 := f_w6_w5_0 1
            conv at f_w6_w5_0_1 => rhs; simp [go_sem, *]
            have hB_w6 : Below w.heap.size w w6 := Below.trans (by (repeat (first | exact Below.refl _ _ | assumption | refine Below.drew ?_ | refine Below.alloc ?_ (by first | omega | (simp <;> omega)) _ | refine Below.setCell ?_ (by first | omega | (simp <;> omega)) _))) (hb_w6.mono (by first | omega | (simp <;> omega)))
            clear hb_w6 c_w6_w_0 f_w6_w_0 c_w6_w3_0 f_w6_w3_0 c_w6_w4_0 f_w6_w4_0 c_w6_w5_0 f_w6_w5_0
            try clear c_w5_w_0_0
            try clear f_w5_w_0_0
            try clear c_w5_w_0_1
            try clear f_w5_w_0_1
            try clear c_w5_w3_0_0
            try clear f_w5_w3_0_0
            try clear c_w5_w3_0_1
            try clear f_w5_w3_0_1
            try clear c_w5_w4_0_0
            try clear f_w5_w4_0_0
            try clear c_w5_w4_0_1
            try clear f_w5_w4_0_1
            try clear far_w5_w_0
            try clear far_w5_w3_0
            try clear far_w5_w4_0
            try clear hB_w5
            have far_w6_w_0 := far (show w.heap.size < w6.heap.size by omega)
            have far_w6_w3_0 := far (show w3.heap.size < w6.heap.size by omega)
            have far_w6_w4_0 := far (show w4.heap.size < w6.heap.size by omega)
            have far_w6_w5_0 := far (show w5.heap.size < w6.heap.size by omega)
            go_wp2
            go_ret
            exact ⟨rfl, by (repeat (first | exact Below.refl _ _ | assumption | refine Below.drew ?_ | refine Below.alloc ?_ (by first | omega | (simp <;> omega)) _ | refine Below.setCell ?_ (by first | omega | (simp <;> omega)) _))⟩

theorem twice_any (s0 : ByteArray) (c : Int) (t0 : ByteArray) (cut n m : Int) (w : World) (hs0 : s0.size ≤ maxLen) (_hc : (Lit.int .i64 c).wf = true) (ht0 : t0.size ≤ maxLen) (_h1 : (Lit.int .i64 cut).wf = true) (_h2 : (Lit.int .i64 n).wf = true) (_h3 : (Lit.int .i64 m).wf = true) :
    Calls Try.prog 5 #[.agg #[.string s0, .int .i64 c], .string t0, .int .i64 cut, .int .i64 n, .int .i64 m] w fun e w' => e = .returned (.bool true) ∧ Below w.heap.size w w' := by
  obtain ⟨l0, rfl⟩ := S_of s0
  obtain ⟨l1, rfl⟩ := S_of t0
  rw [S_size] at hs0 ht0
  cases hr : rightL (l0.take 70000) c
  · exact twice_no w hs0 ht0 hr
  · exact twice_yes w hs0 ht0 hr
end Go.Proofs.Ytfkojlfbdongpaa
