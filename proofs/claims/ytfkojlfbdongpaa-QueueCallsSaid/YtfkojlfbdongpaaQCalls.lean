/- The walk of the law QueueCalls. -/
import Derived.Test.YtfkojlfbdongpaaQTwice
namespace Go.Proofs.Ytfkojlfbdongpaa
open Go.RowKit
set_option linter.unusedVariables false

theorem take_bad {l : List UInt8} {c n : Int} (hr : rightL l c = false) (w : World) : Calls Try.prog 15 #[.agg #[.string (S l), .int .i64 c], .int .i64 n] w fun e w' =>
    e = .returned (.tuple #[.agg #[.string (S []), .int .i64 0], .string (S []), .int .i64 1]) ∧ Below w.heap.size w w' := by
  by_cases h : n < 0
  · exact take_neg h w
  · exact take_no (by omega) hr w

set_option maxHeartbeats 1600000 in
set_option maxRecDepth 100000 in
theorem calls_no {l0 t0 : List UInt8} {c n : Int} (w : World) (hl0 : l0.length ≤ maxLen) (ht0 : t0.length ≤ maxLen) (hr : rightL (l0.take 70000) c = false) :
    Calls Try.prog 7 #[.agg #[.string (S l0), .int .i64 c], .string (S t0), .int .i64 n] w fun e w' => e = .returned (.bool true) ∧ Below w.heap.size w w' := by
  obtain ⟨l, hl⟩ : ∃ l, l0.take 70000 = l := ⟨_, rfl⟩
  obtain ⟨k, hk, hk1, hk2⟩ : ∃ k : Nat, min (t0.length : Int) 1000 = k ∧ k ≤ t0.length ∧ k ≤ 1000 := ⟨min t0.length 1000, by omega, by omega, by omega⟩
  obtain ⟨s, hs, hsl⟩ : ∃ s, t0.take k = s ∧ s.length = k := ⟨_, rfl, by simp; omega⟩
  rw [hl] at hr
  have HL := Lib.hid hl
  have HR := Lib.hid hr
  have HF := Lib.hid hl0
  clear hl hr hl0
  unfold maxLen at ht0
  go_enter Try.func7, Try.ntmps7
  go_upto_region 1 with fail
  go_cut [1] (fun v wx => v = .string (S s) ∧ wx.cell? ⟨w.heap.size, 0, none⟩ = some (.string (S l)) ∧ wx.cell? ⟨w.heap.size, 1, none⟩ = some (.int .i64 c) ∧ w.heap.size < wx.heap.size ∧ Below w.heap.size w wx)
  case first =>
    as_aux_lemma =>
      go_region_with (go_at_call 8; refine (few_S HF.out HL.out _).mono ?_; rintro e w1 ⟨rfl, hb⟩; obtain ⟨hcc, hff⟩ := bk hb (w.heap.size) (by simp); have hz := hb.size; simp at hz)
      all_goals (go_wp2_with fail; go_meet; exact ⟨rfl, by simp [go_sem, *], by simp [go_sem, *], by simp <;> omega, by refine Below.setCell (Below.setCell (Below.trans ?_ (hb.mono (by simp <;> omega))) (by simp) _) (by simp) _; (repeat (first | exact Below.refl _ _ | assumption | refine Below.drew ?_ | refine Below.alloc ?_ (by first | omega | (simp <;> omega)) _ | refine Below.setCell ?_ (by first | omega | (simp <;> omega)) _))⟩)
  case rest =>
    obtain ⟨rfl, hc0, hc1, hlt, hB⟩ := hcut
    have hfar := far hlt
    go_wp2_with fail
    refine Calls.mono (put_no_S HR.out _) ?_
    rintro e w2 ⟨rfl, hb_w2⟩
    have hz_w2 := hb_w2.size
    try simp at hz_w2
    obtain ⟨c_w2_w_0, f_w2_w_0⟩ := bk hb_w2 (w.heap.size) (by first | omega | (simp <;> omega))
    have c_w2_w_0_0 := c_w2_w_0 0
    conv at c_w2_w_0_0 => rhs; simp [go_sem, *]
    have f_w2_w_0_0 := f_w2_w_0 0
    conv at f_w2_w_0_0 => rhs; simp [go_sem, *]
    have c_w2_w_0_1 := c_w2_w_0 1
    conv at c_w2_w_0_1 => rhs; simp [go_sem, *]
    have f_w2_w_0_1 := f_w2_w_0 1
    conv at f_w2_w_0_1 => rhs; simp [go_sem, *]
    have hB_w2 : Below w.heap.size w w2 := Below.trans (by (repeat (first | exact Below.refl _ _ | assumption | refine Below.drew ?_ | refine Below.alloc ?_ (by first | omega | (simp <;> omega)) _ | refine Below.setCell ?_ (by first | omega | (simp <;> omega)) _))) (hb_w2.mono (by first | omega | (simp <;> omega)))
    clear hb_w2 c_w2_w_0 f_w2_w_0
    have far_w2_w_0 := far (show w.heap.size < w2.heap.size by omega)
    go_wp2_with fail
    refine Calls.mono (take_bad HR.out _) ?_
    rintro e w3 ⟨rfl, hb_w3⟩
    have hz_w3 := hb_w3.size
    try simp at hz_w3
    obtain ⟨c_w3_w_0, f_w3_w_0⟩ := bk hb_w3 (w.heap.size) (by first | omega | (simp <;> omega))
    have c_w3_w_0_0 := c_w3_w_0 0
    conv at c_w3_w_0_0 => rhs; simp [go_sem, *]
    have f_w3_w_0_0 := f_w3_w_0 0
    conv at f_w3_w_0_0 => rhs; simp [go_sem, *]
    have c_w3_w_0_1 := c_w3_w_0 1
    conv at c_w3_w_0_1 => rhs; simp [go_sem, *]
    have f_w3_w_0_1 := f_w3_w_0 1
    conv at f_w3_w_0_1 => rhs; simp [go_sem, *]
    obtain ⟨c_w3_w2_0, f_w3_w2_0⟩ := bk hb_w3 (w2.heap.size) (by first | omega | (simp <;> omega))
    have c_w3_w2_0_0 := c_w3_w2_0 0
    conv at c_w3_w2_0_0 => rhs; simp [go_sem, *]
    have f_w3_w2_0_0 := f_w3_w2_0 0
    conv at f_w3_w2_0_0 => rhs; simp [go_sem, *]
    have c_w3_w2_0_1 := c_w3_w2_0 1
    conv at c_w3_w2_0_1 => rhs; simp [go_sem, *]
    have f_w3_w2_0_1 := f_w3_w2_0 1
    conv at f_w3_w2_0_1 => rhs; simp [go_sem, *]
    have hB_w3 : Below w.heap.size w w3 := Below.trans (by (repeat (first | exact Below.refl _ _ | assumption | refine Below.drew ?_ | refine Below.alloc ?_ (by first | omega | (simp <;> omega)) _ | refine Below.setCell ?_ (by first | omega | (simp <;> omega)) _))) (hb_w3.mono (by first | omega | (simp <;> omega)))
    clear hb_w3 c_w3_w_0 f_w3_w_0 c_w3_w2_0 f_w3_w2_0
    try clear c_w2_w_0_0
    try clear f_w2_w_0_0
    try clear c_w2_w_0_1
    try clear f_w2_w_0_1
    try clear far_w2_w_0
    try clear hB_w2
    have far_w3_w_0 := far (show w.heap.size < w3.heap.size by omega)
    have far_w3_w2_0 := far (show w2.heap.size < w3.heap.size by omega)
    go_wp2_with fail
    refine Calls.mono (line_not HR.out _) ?_
    rintro e w4 ⟨rfl, hb_w4⟩
    have hz_w4 := hb_w4.size
    try simp at hz_w4
    obtain ⟨c_w4_w_0, f_w4_w_0⟩ := bk hb_w4 (w.heap.size) (by first | omega | (simp <;> omega))
    have c_w4_w_0_0 := c_w4_w_0 0
    conv at c_w4_w_0_0 => rhs; simp [go_sem, *]
    have f_w4_w_0_0 := f_w4_w_0 0
    conv at f_w4_w_0_0 => rhs; simp [go_sem, *]
    have c_w4_w_0_1 := c_w4_w_0 1
    conv at c_w4_w_0_1 => rhs; simp [go_sem, *]
    have f_w4_w_0_1 := f_w4_w_0 1
    conv at f_w4_w_0_1 => rhs; simp [go_sem, *]
    obtain ⟨c_w4_w2_0, f_w4_w2_0⟩ := bk hb_w4 (w2.heap.size) (by first | omega | (simp <;> omega))
    have c_w4_w2_0_0 := c_w4_w2_0 0
    conv at c_w4_w2_0_0 => rhs; simp [go_sem, *]
    have f_w4_w2_0_0 := f_w4_w2_0 0
    conv at f_w4_w2_0_0 => rhs; simp [go_sem, *]
    have c_w4_w2_0_1 := c_w4_w2_0 1
    conv at c_w4_w2_0_1 => rhs; simp [go_sem, *]
    have f_w4_w2_0_1 := f_w4_w2_0 1
    conv at f_w4_w2_0_1 => rhs; simp [go_sem, *]
    obtain ⟨c_w4_w3_0, f_w4_w3_0⟩ := bk hb_w4 (w3.heap.size) (by first | omega | (simp <;> omega))
    have c_w4_w3_0_0 := c_w4_w3_0 0
    conv at c_w4_w3_0_0 => rhs; simp [go_sem, *]
    have f_w4_w3_0_0 := f_w4_w3_0 0
    conv at f_w4_w3_0_0 => rhs; simp [go_sem, *]
    have c_w4_w3_0_1 := c_w4_w3_0 1
    conv at c_w4_w3_0_1 => rhs; simp [go_sem, *]
    have f_w4_w3_0_1 := f_w4_w3_0 1
    conv at f_w4_w3_0_1 => rhs; simp [go_sem, *]
    have hB_w4 : Below w.heap.size w w4 := Below.trans (by (repeat (first | exact Below.refl _ _ | assumption | refine Below.drew ?_ | refine Below.alloc ?_ (by first | omega | (simp <;> omega)) _ | refine Below.setCell ?_ (by first | omega | (simp <;> omega)) _))) (hb_w4.mono (by first | omega | (simp <;> omega)))
    clear hb_w4 c_w4_w_0 f_w4_w_0 c_w4_w2_0 f_w4_w2_0 c_w4_w3_0 f_w4_w3_0
    try clear c_w3_w_0_0
    try clear f_w3_w_0_0
    try clear c_w3_w_0_1
    try clear f_w3_w_0_1
    try clear c_w3_w2_0_0
    try clear f_w3_w2_0_0
    try clear c_w3_w2_0_1
    try clear f_w3_w2_0_1
    try clear far_w3_w_0
    try clear far_w3_w2_0
    try clear hB_w3
    have far_w4_w_0 := far (show w.heap.size < w4.heap.size by omega)
    have far_w4_w2_0 := far (show w2.heap.size < w4.heap.size by omega)
    have far_w4_w3_0 := far (show w3.heap.size < w4.heap.size by omega)
    go_wp2_with fail
    refine Calls.mono (ref_right_S HR.out _) ?_
    rintro e w5 ⟨rfl, hb_w5⟩
    have hz_w5 := hb_w5.size
    try simp at hz_w5
    obtain ⟨c_w5_w_0, f_w5_w_0⟩ := bk hb_w5 (w.heap.size) (by first | omega | (simp <;> omega))
    have c_w5_w_0_0 := c_w5_w_0 0
    conv at c_w5_w_0_0 => rhs; simp [go_sem, *]
    have f_w5_w_0_0 := f_w5_w_0 0
    conv at f_w5_w_0_0 => rhs; simp [go_sem, *]
    have c_w5_w_0_1 := c_w5_w_0 1
    conv at c_w5_w_0_1 => rhs; simp [go_sem, *]
    have f_w5_w_0_1 := f_w5_w_0 1
    conv at f_w5_w_0_1 => rhs; simp [go_sem, *]
    obtain ⟨c_w5_w2_0, f_w5_w2_0⟩ := bk hb_w5 (w2.heap.size) (by first | omega | (simp <;> omega))
    have c_w5_w2_0_0 := c_w5_w2_0 0
    conv at c_w5_w2_0_0 => rhs; simp [go_sem, *]
    have f_w5_w2_0_0 := f_w5_w2_0 0
    conv at f_w5_w2_0_0 => rhs; simp [go_sem, *]
    have c_w5_w2_0_1 := c_w5_w2_0 1
    conv at c_w5_w2_0_1 => rhs; simp [go_sem, *]
    have f_w5_w2_0_1 := f_w5_w2_0 1
    conv at f_w5_w2_0_1 => rhs; simp [go_sem, *]
    obtain ⟨c_w5_w3_0, f_w5_w3_0⟩ := bk hb_w5 (w3.heap.size) (by first | omega | (simp <;> omega))
    have c_w5_w3_0_0 := c_w5_w3_0 0
    conv at c_w5_w3_0_0 => rhs; simp [go_sem, *]
    have f_w5_w3_0_0 := f_w5_w3_0 0
    conv at f_w5_w3_0_0 => rhs; simp [go_sem, *]
    have c_w5_w3_0_1 := c_w5_w3_0 1
    conv at c_w5_w3_0_1 => rhs; simp [go_sem, *]
    have f_w5_w3_0_1 := f_w5_w3_0 1
    conv at f_w5_w3_0_1 => rhs; simp [go_sem, *]
    obtain ⟨c_w5_w4_0, f_w5_w4_0⟩ := bk hb_w5 (w4.heap.size) (by first | omega | (simp <;> omega))
    have c_w5_w4_0_0 := c_w5_w4_0 0
    conv at c_w5_w4_0_0 => rhs; simp [go_sem, *]
    have f_w5_w4_0_0 := f_w5_w4_0 0
    conv at f_w5_w4_0_0 => rhs; simp [go_sem, *]
    have c_w5_w4_0_1 := c_w5_w4_0 1
    conv at c_w5_w4_0_1 => rhs; simp [go_sem, *]
    have f_w5_w4_0_1 := f_w5_w4_0 1
    conv at f_w5_w4_0_1 => rhs; simp [go_sem, *]
    have hB_w5 : Below w.heap.size w w5 := Below.trans (by (repeat (first | exact Below.refl _ _ | assumption | refine Below.drew ?_ | refine Below.alloc ?_ (by first | omega | (simp <;> omega)) _ | refine Below.setCell ?_ (by first | omega | (simp <;> omega)) _))) (hb_w5.mono (by first | omega | (simp <;> omega)))
    clear hb_w5 c_w5_w_0 f_w5_w_0 c_w5_w2_0 f_w5_w2_0 c_w5_w3_0 f_w5_w3_0 c_w5_w4_0 f_w5_w4_0
    try clear c_w4_w_0_0
    try clear f_w4_w_0_0
    try clear c_w4_w_0_1
    try clear f_w4_w_0_1
    try clear c_w4_w2_0_0
    try clear f_w4_w2_0_0
    try clear c_w4_w2_0_1
    try clear f_w4_w2_0_1
    try clear c_w4_w3_0_0
    try clear f_w4_w3_0_0
    try clear c_w4_w3_0_1
    try clear f_w4_w3_0_1
    try clear far_w4_w_0
    try clear far_w4_w2_0
    try clear far_w4_w3_0
    try clear hB_w4
    have far_w5_w_0 := far (show w.heap.size < w5.heap.size by omega)
    have far_w5_w2_0 := far (show w2.heap.size < w5.heap.size by omega)
    have far_w5_w3_0 := far (show w3.heap.size < w5.heap.size by omega)
    have far_w5_w4_0 := far (show w4.heap.size < w5.heap.size by omega)
    go_wp2_with fail
    refine Calls.mono (alive_any _) ?_
    rintro e w6 ⟨rfl, hb_w6⟩
    have hz_w6 := hb_w6.size
    try simp at hz_w6
    obtain ⟨c_w6_w_0, f_w6_w_0⟩ := bk hb_w6 (w.heap.size) (by first | omega | (simp <;> omega))
    have c_w6_w_0_0 := c_w6_w_0 0
    conv at c_w6_w_0_0 => rhs; simp [go_sem, *]
    have f_w6_w_0_0 := f_w6_w_0 0
    conv at f_w6_w_0_0 => rhs; simp [go_sem, *]
    have c_w6_w_0_1 := c_w6_w_0 1
    conv at c_w6_w_0_1 => rhs; simp [go_sem, *]
    have f_w6_w_0_1 := f_w6_w_0 1
    conv at f_w6_w_0_1 => rhs; simp [go_sem, *]
    obtain ⟨c_w6_w2_0, f_w6_w2_0⟩ := bk hb_w6 (w2.heap.size) (by first | omega | (simp <;> omega))
    have c_w6_w2_0_0 := c_w6_w2_0 0
    conv at c_w6_w2_0_0 => rhs; simp [go_sem, *]
    have f_w6_w2_0_0 := f_w6_w2_0 0
    conv at f_w6_w2_0_0 => rhs; simp [go_sem, *]
    have c_w6_w2_0_1 := c_w6_w2_0 1
    conv at c_w6_w2_0_1 => rhs; simp [go_sem, *]
    have f_w6_w2_0_1 := f_w6_w2_0 1
    conv at f_w6_w2_0_1 => rhs; simp [go_sem, *]
    obtain ⟨c_w6_w3_0, f_w6_w3_0⟩ := bk hb_w6 (w3.heap.size) (by first | omega | (simp <;> omega))
    have c_w6_w3_0_0 := c_w6_w3_0 0
    conv at c_w6_w3_0_0 => rhs; simp [go_sem, *]
    have f_w6_w3_0_0 := f_w6_w3_0 0
    conv at f_w6_w3_0_0 => rhs; simp [go_sem, *]
    have c_w6_w3_0_1 := c_w6_w3_0 1
    conv at c_w6_w3_0_1 => rhs; simp [go_sem, *]
    have f_w6_w3_0_1 := f_w6_w3_0 1
    conv at f_w6_w3_0_1 => rhs; simp [go_sem, *]
    obtain ⟨c_w6_w4_0, f_w6_w4_0⟩ := bk hb_w6 (w4.heap.size) (by first | omega | (simp <;> omega))
    have c_w6_w4_0_0 := c_w6_w4_0 0
    conv at c_w6_w4_0_0 => rhs; simp [go_sem, *]
    have f_w6_w4_0_0 := f_w6_w4_0 0
    conv at f_w6_w4_0_0 => rhs; simp [go_sem, *]
    have c_w6_w4_0_1 := c_w6_w4_0 1
    conv at c_w6_w4_0_1 => rhs; simp [go_sem, *]
    have f_w6_w4_0_1 := f_w6_w4_0 1
    conv at f_w6_w4_0_1 => rhs; simp [go_sem, *]
    have hB_w6 : Below w.heap.size w w6 := Below.trans (by (repeat (first | exact Below.refl _ _ | assumption | refine Below.drew ?_ | refine Below.alloc ?_ (by first | omega | (simp <;> omega)) _ | refine Below.setCell ?_ (by first | omega | (simp <;> omega)) _))) (hb_w6.mono (by first | omega | (simp <;> omega)))
    clear hb_w6 c_w6_w_0 f_w6_w_0 c_w6_w2_0 f_w6_w2_0 c_w6_w3_0 f_w6_w3_0 c_w6_w4_0 f_w6_w4_0
    try clear c_w5_w_0_0
    try clear f_w5_w_0_0
    try clear c_w5_w_0_1
    try clear f_w5_w_0_1
    try clear c_w5_w2_0_0
    try clear f_w5_w2_0_0
    try clear c_w5_w2_0_1
    try clear f_w5_w2_0_1
    try clear c_w5_w3_0_0
    try clear f_w5_w3_0_0
    try clear c_w5_w3_0_1
    try clear f_w5_w3_0_1
    try clear c_w5_w4_0_0
    try clear f_w5_w4_0_0
    try clear c_w5_w4_0_1
    try clear f_w5_w4_0_1
    try clear far_w5_w_0
    try clear far_w5_w2_0
    try clear far_w5_w3_0
    try clear far_w5_w4_0
    try clear hB_w5
    have far_w6_w_0 := far (show w.heap.size < w6.heap.size by omega)
    have far_w6_w2_0 := far (show w2.heap.size < w6.heap.size by omega)
    have far_w6_w3_0 := far (show w3.heap.size < w6.heap.size by omega)
    have far_w6_w4_0 := far (show w4.heap.size < w6.heap.size by omega)
    go_wp2
    go_ret
    exact ⟨rfl, by (repeat (first | exact Below.refl _ _ | assumption | refine Below.drew ?_ | refine Below.alloc ?_ (by first | omega | (simp <;> omega)) _ | refine Below.setCell ?_ (by first | omega | (simp <;> omega)) _))⟩

set_option maxHeartbeats 1600000 in
set_option maxRecDepth 100000 in
theorem calls_ns {l0 t0 l s a z x y u : List UInt8} {c n : Int} {k K : Nat} (w : World) (hl0 : l0.length ≤ maxLen) (ht0 : t0.length ≤ maxLen) (hl : l0.take 70000 = l) (hk : min (t0.length : Int) 1000 = k) (hk1 : k ≤ t0.length) (hs : t0.take k = s) (hsl : s.length = k)
    (hr : rightL l c = true) (h : n < 0)
    (P : ∀ w, Calls Try.prog 14 #[.agg #[.string (S l), .int .i64 c], .string (S s)] w fun e w' => e = .returned (.tuple #[.agg #[.string (S a), .int .i64 c], .int .i64 K, .int .i64 0]) ∧ Below w.heap.size w w')
    (Q : ∀ w, Calls Try.prog 17 #[.agg #[.string (S l), .int .i64 c], .string (S s)] w fun e w' => e = .returned (.tuple #[.agg #[.string (S a), .int .i64 c], .int .i64 K]) ∧ Below w.heap.size w w')
    (T : ∀ w, Calls Try.prog 15 #[.agg #[.string (S l), .int .i64 c], .int .i64 n] w fun e w' => e = .returned (.tuple #[.agg #[.string (S []), .int .i64 0], .string (S []), .int .i64 1]) ∧ Below w.heap.size w w')
    (U : 0 ≤ n → ∀ w, Calls Try.prog 19 #[.agg #[.string (S l), .int .i64 c], .int .i64 n] w fun e w' => e = .returned (.tuple #[.agg #[.string (S y), .int .i64 c], .string (S u)]) ∧ Below w.heap.size w w')
    (X : ∀ w, Calls Try.prog 16 #[.agg #[.string (S l), .int .i64 c]] w fun e w' => e = .returned (.tuple #[.agg #[.string (S z), .int .i64 c], .string (S x), .int .i64 0]) ∧ Below w.heap.size w w')
    (Y : ∀ w, Calls Try.prog 18 #[.agg #[.string (S l), .int .i64 c]] w fun e w' => e = .returned (.tuple #[.agg #[.string (S z), .int .i64 c], .string (S x), .bool true]) ∧ Below w.heap.size w w') :
    Calls Try.prog 7 #[.agg #[.string (S l0), .int .i64 c], .string (S t0), .int .i64 n] w fun e w' => e = .returned (.bool true) ∧ Below w.heap.size w w' := by
  have HL := Lib.hid hl
  have HR := Lib.hid hr
  have HF := Lib.hid hl0
  have P := Lib.hid P
  have Q := Lib.hid Q
  have T := Lib.hid T
  have U := Lib.hid U
  have X := Lib.hid X
  have Y := Lib.hid Y
  have H := Lib.hid h
  clear hl hr hl0
  unfold maxLen at ht0
  go_enter Try.func7, Try.ntmps7
  go_upto_region 1 with fail
  go_cut [1] (fun v wx => v = .string (S s) ∧ wx.cell? ⟨w.heap.size, 0, none⟩ = some (.string (S l)) ∧ wx.cell? ⟨w.heap.size, 1, none⟩ = some (.int .i64 c) ∧ w.heap.size < wx.heap.size ∧ Below w.heap.size w wx)
  case first =>
    as_aux_lemma =>
      go_region_with (go_at_call 8; refine (few_S HF.out HL.out _).mono ?_; rintro e w1 ⟨rfl, hb⟩; obtain ⟨hcc, hff⟩ := bk hb (w.heap.size) (by simp); have hz := hb.size; simp at hz)
      all_goals (go_wp2_with fail; go_meet; exact ⟨rfl, by simp [go_sem, *], by simp [go_sem, *], by simp <;> omega, by refine Below.setCell (Below.setCell (Below.trans ?_ (hb.mono (by simp <;> omega))) (by simp) _) (by simp) _; (repeat (first | exact Below.refl _ _ | assumption | refine Below.drew ?_ | refine Below.alloc ?_ (by first | omega | (simp <;> omega)) _ | refine Below.setCell ?_ (by first | omega | (simp <;> omega)) _))⟩)
  case rest =>
    obtain ⟨rfl, hc0, hc1, hlt, hB⟩ := hcut
    have hfar := far hlt
    go_wp2_with fail
    refine Calls.mono (P.out _) ?_
    rintro e w2 ⟨rfl, hb_w2⟩
    have hz_w2 := hb_w2.size
    try simp at hz_w2
    obtain ⟨c_w2_w_0, f_w2_w_0⟩ := bk hb_w2 (w.heap.size) (by first | omega | (simp <;> omega))
    have c_w2_w_0_0 := c_w2_w_0 0
    conv at c_w2_w_0_0 => rhs; simp [go_sem, *]
    have f_w2_w_0_0 := f_w2_w_0 0
    conv at f_w2_w_0_0 => rhs; simp [go_sem, *]
    have c_w2_w_0_1 := c_w2_w_0 1
    conv at c_w2_w_0_1 => rhs; simp [go_sem, *]
    have f_w2_w_0_1 := f_w2_w_0 1
    conv at f_w2_w_0_1 => rhs; simp [go_sem, *]
    have hB_w2 : Below w.heap.size w w2 := Below.trans (by (repeat (first | exact Below.refl _ _ | assumption | refine Below.drew ?_ | refine Below.alloc ?_ (by first | omega | (simp <;> omega)) _ | refine Below.setCell ?_ (by first | omega | (simp <;> omega)) _))) (hb_w2.mono (by first | omega | (simp <;> omega)))
    clear hb_w2 c_w2_w_0 f_w2_w_0
    have far_w2_w_0 := far (show w.heap.size < w2.heap.size by omega)
    go_wp2_with fail
    refine Calls.mono (T.out _) ?_
    rintro e w3 ⟨rfl, hb_w3⟩
    have hz_w3 := hb_w3.size
    try simp at hz_w3
    obtain ⟨c_w3_w_0, f_w3_w_0⟩ := bk hb_w3 (w.heap.size) (by first | omega | (simp <;> omega))
    have c_w3_w_0_0 := c_w3_w_0 0
    conv at c_w3_w_0_0 => rhs; simp [go_sem, *]
    have f_w3_w_0_0 := f_w3_w_0 0
    conv at f_w3_w_0_0 => rhs; simp [go_sem, *]
    have c_w3_w_0_1 := c_w3_w_0 1
    conv at c_w3_w_0_1 => rhs; simp [go_sem, *]
    have f_w3_w_0_1 := f_w3_w_0 1
    conv at f_w3_w_0_1 => rhs; simp [go_sem, *]
    obtain ⟨c_w3_w2_0, f_w3_w2_0⟩ := bk hb_w3 (w2.heap.size) (by first | omega | (simp <;> omega))
    have c_w3_w2_0_0 := c_w3_w2_0 0
    conv at c_w3_w2_0_0 => rhs; simp [go_sem, *]
    have f_w3_w2_0_0 := f_w3_w2_0 0
    conv at f_w3_w2_0_0 => rhs; simp [go_sem, *]
    have c_w3_w2_0_1 := c_w3_w2_0 1
    conv at c_w3_w2_0_1 => rhs; simp [go_sem, *]
    have f_w3_w2_0_1 := f_w3_w2_0 1
    conv at f_w3_w2_0_1 => rhs; simp [go_sem, *]
    have hB_w3 : Below w.heap.size w w3 := Below.trans (by (repeat (first | exact Below.refl _ _ | assumption | refine Below.drew ?_ | refine Below.alloc ?_ (by first | omega | (simp <;> omega)) _ | refine Below.setCell ?_ (by first | omega | (simp <;> omega)) _))) (hb_w3.mono (by first | omega | (simp <;> omega)))
    clear hb_w3 c_w3_w_0 f_w3_w_0 c_w3_w2_0 f_w3_w2_0
    try clear c_w2_w_0_0
    try clear f_w2_w_0_0
    try clear c_w2_w_0_1
    try clear f_w2_w_0_1
    try clear far_w2_w_0
    try clear hB_w2
    have far_w3_w_0 := far (show w.heap.size < w3.heap.size by omega)
    have far_w3_w2_0 := far (show w2.heap.size < w3.heap.size by omega)
    go_wp2_with fail
    refine Calls.mono (X.out _) ?_
    rintro e w4 ⟨rfl, hb_w4⟩
    have hz_w4 := hb_w4.size
    try simp at hz_w4
    obtain ⟨c_w4_w_0, f_w4_w_0⟩ := bk hb_w4 (w.heap.size) (by first | omega | (simp <;> omega))
    have c_w4_w_0_0 := c_w4_w_0 0
    conv at c_w4_w_0_0 => rhs; simp [go_sem, *]
    have f_w4_w_0_0 := f_w4_w_0 0
    conv at f_w4_w_0_0 => rhs; simp [go_sem, *]
    have c_w4_w_0_1 := c_w4_w_0 1
    conv at c_w4_w_0_1 => rhs; simp [go_sem, *]
    have f_w4_w_0_1 := f_w4_w_0 1
    conv at f_w4_w_0_1 => rhs; simp [go_sem, *]
    obtain ⟨c_w4_w2_0, f_w4_w2_0⟩ := bk hb_w4 (w2.heap.size) (by first | omega | (simp <;> omega))
    have c_w4_w2_0_0 := c_w4_w2_0 0
    conv at c_w4_w2_0_0 => rhs; simp [go_sem, *]
    have f_w4_w2_0_0 := f_w4_w2_0 0
    conv at f_w4_w2_0_0 => rhs; simp [go_sem, *]
    have c_w4_w2_0_1 := c_w4_w2_0 1
    conv at c_w4_w2_0_1 => rhs; simp [go_sem, *]
    have f_w4_w2_0_1 := f_w4_w2_0 1
    conv at f_w4_w2_0_1 => rhs; simp [go_sem, *]
    obtain ⟨c_w4_w3_0, f_w4_w3_0⟩ := bk hb_w4 (w3.heap.size) (by first | omega | (simp <;> omega))
    have c_w4_w3_0_0 := c_w4_w3_0 0
    conv at c_w4_w3_0_0 => rhs; simp [go_sem, *]
    have f_w4_w3_0_0 := f_w4_w3_0 0
    conv at f_w4_w3_0_0 => rhs; simp [go_sem, *]
    have c_w4_w3_0_1 := c_w4_w3_0 1
    conv at c_w4_w3_0_1 => rhs; simp [go_sem, *]
    have f_w4_w3_0_1 := f_w4_w3_0 1
    conv at f_w4_w3_0_1 => rhs; simp [go_sem, *]
    have hB_w4 : Below w.heap.size w w4 := Below.trans (by (repeat (first | exact Below.refl _ _ | assumption | refine Below.drew ?_ | refine Below.alloc ?_ (by first | omega | (simp <;> omega)) _ | refine Below.setCell ?_ (by first | omega | (simp <;> omega)) _))) (hb_w4.mono (by first | omega | (simp <;> omega)))
    clear hb_w4 c_w4_w_0 f_w4_w_0 c_w4_w2_0 f_w4_w2_0 c_w4_w3_0 f_w4_w3_0
    try clear c_w3_w_0_0
    try clear f_w3_w_0_0
    try clear c_w3_w_0_1
    try clear f_w3_w_0_1
    try clear c_w3_w2_0_0
    try clear f_w3_w2_0_0
    try clear c_w3_w2_0_1
    try clear f_w3_w2_0_1
    try clear far_w3_w_0
    try clear far_w3_w2_0
    try clear hB_w3
    have far_w4_w_0 := far (show w.heap.size < w4.heap.size by omega)
    have far_w4_w2_0 := far (show w2.heap.size < w4.heap.size by omega)
    have far_w4_w3_0 := far (show w3.heap.size < w4.heap.size by omega)
    go_wp2_with fail
    refine Calls.mono (ref_right_S HR.out _) ?_
    rintro e w5 ⟨rfl, hb_w5⟩
    have hz_w5 := hb_w5.size
    try simp at hz_w5
    obtain ⟨c_w5_w_0, f_w5_w_0⟩ := bk hb_w5 (w.heap.size) (by first | omega | (simp <;> omega))
    have c_w5_w_0_0 := c_w5_w_0 0
    conv at c_w5_w_0_0 => rhs; simp [go_sem, *]
    have f_w5_w_0_0 := f_w5_w_0 0
    conv at f_w5_w_0_0 => rhs; simp [go_sem, *]
    have c_w5_w_0_1 := c_w5_w_0 1
    conv at c_w5_w_0_1 => rhs; simp [go_sem, *]
    have f_w5_w_0_1 := f_w5_w_0 1
    conv at f_w5_w_0_1 => rhs; simp [go_sem, *]
    obtain ⟨c_w5_w2_0, f_w5_w2_0⟩ := bk hb_w5 (w2.heap.size) (by first | omega | (simp <;> omega))
    have c_w5_w2_0_0 := c_w5_w2_0 0
    conv at c_w5_w2_0_0 => rhs; simp [go_sem, *]
    have f_w5_w2_0_0 := f_w5_w2_0 0
    conv at f_w5_w2_0_0 => rhs; simp [go_sem, *]
    have c_w5_w2_0_1 := c_w5_w2_0 1
    conv at c_w5_w2_0_1 => rhs; simp [go_sem, *]
    have f_w5_w2_0_1 := f_w5_w2_0 1
    conv at f_w5_w2_0_1 => rhs; simp [go_sem, *]
    obtain ⟨c_w5_w3_0, f_w5_w3_0⟩ := bk hb_w5 (w3.heap.size) (by first | omega | (simp <;> omega))
    have c_w5_w3_0_0 := c_w5_w3_0 0
    conv at c_w5_w3_0_0 => rhs; simp [go_sem, *]
    have f_w5_w3_0_0 := f_w5_w3_0 0
    conv at f_w5_w3_0_0 => rhs; simp [go_sem, *]
    have c_w5_w3_0_1 := c_w5_w3_0 1
    conv at c_w5_w3_0_1 => rhs; simp [go_sem, *]
    have f_w5_w3_0_1 := f_w5_w3_0 1
    conv at f_w5_w3_0_1 => rhs; simp [go_sem, *]
    obtain ⟨c_w5_w4_0, f_w5_w4_0⟩ := bk hb_w5 (w4.heap.size) (by first | omega | (simp <;> omega))
    have c_w5_w4_0_0 := c_w5_w4_0 0
    conv at c_w5_w4_0_0 => rhs; simp [go_sem, *]
    have f_w5_w4_0_0 := f_w5_w4_0 0
    conv at f_w5_w4_0_0 => rhs; simp [go_sem, *]
    have c_w5_w4_0_1 := c_w5_w4_0 1
    conv at c_w5_w4_0_1 => rhs; simp [go_sem, *]
    have f_w5_w4_0_1 := f_w5_w4_0 1
    conv at f_w5_w4_0_1 => rhs; simp [go_sem, *]
    have hB_w5 : Below w.heap.size w w5 := Below.trans (by (repeat (first | exact Below.refl _ _ | assumption | refine Below.drew ?_ | refine Below.alloc ?_ (by first | omega | (simp <;> omega)) _ | refine Below.setCell ?_ (by first | omega | (simp <;> omega)) _))) (hb_w5.mono (by first | omega | (simp <;> omega)))
    clear hb_w5 c_w5_w_0 f_w5_w_0 c_w5_w2_0 f_w5_w2_0 c_w5_w3_0 f_w5_w3_0 c_w5_w4_0 f_w5_w4_0
    try clear c_w4_w_0_0
    try clear f_w4_w_0_0
    try clear c_w4_w_0_1
    try clear f_w4_w_0_1
    try clear c_w4_w2_0_0
    try clear f_w4_w2_0_0
    try clear c_w4_w2_0_1
    try clear f_w4_w2_0_1
    try clear c_w4_w3_0_0
    try clear f_w4_w3_0_0
    try clear c_w4_w3_0_1
    try clear f_w4_w3_0_1
    try clear far_w4_w_0
    try clear far_w4_w2_0
    try clear far_w4_w3_0
    try clear hB_w4
    have far_w5_w_0 := far (show w.heap.size < w5.heap.size by omega)
    have far_w5_w2_0 := far (show w2.heap.size < w5.heap.size by omega)
    have far_w5_w3_0 := far (show w3.heap.size < w5.heap.size by omega)
    have far_w5_w4_0 := far (show w4.heap.size < w5.heap.size by omega)
    go_wp2_with fail
    refine Calls.mono (Q.out _) ?_
    rintro e w6 ⟨rfl, hb_w6⟩
    have hz_w6 := hb_w6.size
    try simp at hz_w6
    obtain ⟨c_w6_w_0, f_w6_w_0⟩ := bk hb_w6 (w.heap.size) (by first | omega | (simp <;> omega))
    have c_w6_w_0_0 := c_w6_w_0 0
    conv at c_w6_w_0_0 => rhs; simp [go_sem, *]
    have f_w6_w_0_0 := f_w6_w_0 0
    conv at f_w6_w_0_0 => rhs; simp [go_sem, *]
    have c_w6_w_0_1 := c_w6_w_0 1
    conv at c_w6_w_0_1 => rhs; simp [go_sem, *]
    have f_w6_w_0_1 := f_w6_w_0 1
    conv at f_w6_w_0_1 => rhs; simp [go_sem, *]
    obtain ⟨c_w6_w2_0, f_w6_w2_0⟩ := bk hb_w6 (w2.heap.size) (by first | omega | (simp <;> omega))
    have c_w6_w2_0_0 := c_w6_w2_0 0
    conv at c_w6_w2_0_0 => rhs; simp [go_sem, *]
    have f_w6_w2_0_0 := f_w6_w2_0 0
    conv at f_w6_w2_0_0 => rhs; simp [go_sem, *]
    have c_w6_w2_0_1 := c_w6_w2_0 1
    conv at c_w6_w2_0_1 => rhs; simp [go_sem, *]
    have f_w6_w2_0_1 := f_w6_w2_0 1
    conv at f_w6_w2_0_1 => rhs; simp [go_sem, *]
    obtain ⟨c_w6_w3_0, f_w6_w3_0⟩ := bk hb_w6 (w3.heap.size) (by first | omega | (simp <;> omega))
    have c_w6_w3_0_0 := c_w6_w3_0 0
    conv at c_w6_w3_0_0 => rhs; simp [go_sem, *]
    have f_w6_w3_0_0 := f_w6_w3_0 0
    conv at f_w6_w3_0_0 => rhs; simp [go_sem, *]
    have c_w6_w3_0_1 := c_w6_w3_0 1
    conv at c_w6_w3_0_1 => rhs; simp [go_sem, *]
    have f_w6_w3_0_1 := f_w6_w3_0 1
    conv at f_w6_w3_0_1 => rhs; simp [go_sem, *]
    obtain ⟨c_w6_w4_0, f_w6_w4_0⟩ := bk hb_w6 (w4.heap.size) (by first | omega | (simp <;> omega))
    have c_w6_w4_0_0 := c_w6_w4_0 0
    conv at c_w6_w4_0_0 => rhs; simp [go_sem, *]
    have f_w6_w4_0_0 := f_w6_w4_0 0
    conv at f_w6_w4_0_0 => rhs; simp [go_sem, *]
    have c_w6_w4_0_1 := c_w6_w4_0 1
    conv at c_w6_w4_0_1 => rhs; simp [go_sem, *]
    have f_w6_w4_0_1 := f_w6_w4_0 1
    conv at f_w6_w4_0_1 => rhs; simp [go_sem, *]
    have hB_w6 : Below w.heap.size w w6 := Below.trans (by (repeat (first | exact Below.refl _ _ | assumption | refine Below.drew ?_ | refine Below.alloc ?_ (by first | omega | (simp <;> omega)) _ | refine Below.setCell ?_ (by first | omega | (simp <;> omega)) _))) (hb_w6.mono (by first | omega | (simp <;> omega)))
    clear hb_w6 c_w6_w_0 f_w6_w_0 c_w6_w2_0 f_w6_w2_0 c_w6_w3_0 f_w6_w3_0 c_w6_w4_0 f_w6_w4_0
    try clear c_w5_w_0_0
    try clear f_w5_w_0_0
    try clear c_w5_w_0_1
    try clear f_w5_w_0_1
    try clear c_w5_w2_0_0
    try clear f_w5_w2_0_0
    try clear c_w5_w2_0_1
    try clear f_w5_w2_0_1
    try clear c_w5_w3_0_0
    try clear f_w5_w3_0_0
    try clear c_w5_w3_0_1
    try clear f_w5_w3_0_1
    try clear c_w5_w4_0_0
    try clear f_w5_w4_0_0
    try clear c_w5_w4_0_1
    try clear f_w5_w4_0_1
    try clear far_w5_w_0
    try clear far_w5_w2_0
    try clear far_w5_w3_0
    try clear far_w5_w4_0
    try clear hB_w5
    have far_w6_w_0 := far (show w.heap.size < w6.heap.size by omega)
    have far_w6_w2_0 := far (show w2.heap.size < w6.heap.size by omega)
    have far_w6_w3_0 := far (show w3.heap.size < w6.heap.size by omega)
    have far_w6_w4_0 := far (show w4.heap.size < w6.heap.size by omega)
    go_wp2_with fail
    refine Calls.mono (Y.out _) ?_
    rintro e w7 ⟨rfl, hb_w7⟩
    have hz_w7 := hb_w7.size
    try simp at hz_w7
    obtain ⟨c_w7_w_0, f_w7_w_0⟩ := bk hb_w7 (w.heap.size) (by first | omega | (simp <;> omega))
    have c_w7_w_0_0 := c_w7_w_0 0
    conv at c_w7_w_0_0 => rhs; simp [go_sem, *]
    have f_w7_w_0_0 := f_w7_w_0 0
    conv at f_w7_w_0_0 => rhs; simp [go_sem, *]
    have c_w7_w_0_1 := c_w7_w_0 1
    conv at c_w7_w_0_1 => rhs; simp [go_sem, *]
    have f_w7_w_0_1 := f_w7_w_0 1
    conv at f_w7_w_0_1 => rhs; simp [go_sem, *]
    obtain ⟨c_w7_w2_0, f_w7_w2_0⟩ := bk hb_w7 (w2.heap.size) (by first | omega | (simp <;> omega))
    have c_w7_w2_0_0 := c_w7_w2_0 0
    conv at c_w7_w2_0_0 => rhs; simp [go_sem, *]
    have f_w7_w2_0_0 := f_w7_w2_0 0
    conv at f_w7_w2_0_0 => rhs; simp [go_sem, *]
    have c_w7_w2_0_1 := c_w7_w2_0 1
    conv at c_w7_w2_0_1 => rhs; simp [go_sem, *]
    have f_w7_w2_0_1 := f_w7_w2_0 1
    conv at f_w7_w2_0_1 => rhs; simp [go_sem, *]
    obtain ⟨c_w7_w3_0, f_w7_w3_0⟩ := bk hb_w7 (w3.heap.size) (by first | omega | (simp <;> omega))
    have c_w7_w3_0_0 := c_w7_w3_0 0
    conv at c_w7_w3_0_0 => rhs; simp [go_sem, *]
    have f_w7_w3_0_0 := f_w7_w3_0 0
    conv at f_w7_w3_0_0 => rhs; simp [go_sem, *]
    have c_w7_w3_0_1 := c_w7_w3_0 1
    conv at c_w7_w3_0_1 => rhs; simp [go_sem, *]
    have f_w7_w3_0_1 := f_w7_w3_0 1
    conv at f_w7_w3_0_1 => rhs; simp [go_sem, *]
    obtain ⟨c_w7_w4_0, f_w7_w4_0⟩ := bk hb_w7 (w4.heap.size) (by first | omega | (simp <;> omega))
    have c_w7_w4_0_0 := c_w7_w4_0 0
    conv at c_w7_w4_0_0 => rhs; simp [go_sem, *]
    have f_w7_w4_0_0 := f_w7_w4_0 0
    conv at f_w7_w4_0_0 => rhs; simp [go_sem, *]
    have c_w7_w4_0_1 := c_w7_w4_0 1
    conv at c_w7_w4_0_1 => rhs; simp [go_sem, *]
    have f_w7_w4_0_1 := f_w7_w4_0 1
    conv at f_w7_w4_0_1 => rhs; simp [go_sem, *]
    obtain ⟨c_w7_w6_0, f_w7_w6_0⟩ := bk hb_w7 (w6.heap.size) (by first | omega | (simp <;> omega))
    have c_w7_w6_0_0 := c_w7_w6_0 0
    conv at c_w7_w6_0_0 => rhs; simp [go_sem, *]
    have f_w7_w6_0_0 := f_w7_w6_0 0
    conv at f_w7_w6_0_0 => rhs; simp [go_sem, *]
    have c_w7_w6_0_1 := c_w7_w6_0 1
    conv at c_w7_w6_0_1 => rhs; simp [go_sem, *]
    have f_w7_w6_0_1 := f_w7_w6_0 1
    conv at f_w7_w6_0_1 => rhs; simp [go_sem, *]
    have hB_w7 : Below w.heap.size w w7 := Below.trans (by (repeat (first | exact Below.refl _ _ | assumption | refine Below.drew ?_ | refine Below.alloc ?_ (by first | omega | (simp <;> omega)) _ | refine Below.setCell ?_ (by first | omega | (simp <;> omega)) _))) (hb_w7.mono (by first | omega | (simp <;> omega)))
    clear hb_w7 c_w7_w_0 f_w7_w_0 c_w7_w2_0 f_w7_w2_0 c_w7_w3_0 f_w7_w3_0 c_w7_w4_0 f_w7_w4_0 c_w7_w6_0 f_w7_w6_0
    try clear c_w6_w_0_0
    try clear f_w6_w_0_0
    try clear c_w6_w_0_1
    try clear f_w6_w_0_1
    try clear c_w6_w2_0_0
    try clear f_w6_w2_0_0
    try clear c_w6_w2_0_1
    try clear f_w6_w2_0_1
    try clear c_w6_w3_0_0
    try clear f_w6_w3_0_0
    try clear c_w6_w3_0_1
    try clear f_w6_w3_0_1
    try clear c_w6_w4_0_0
    try clear f_w6_w4_0_0
    try clear c_w6_w4_0_1
    try clear f_w6_w4_0_1
    try clear far_w6_w_0
    try clear far_w6_w2_0
    try clear far_w6_w3_0
    try clear far_w6_w4_0
    try clear hB_w6
    have far_w7_w_0 := far (show w.heap.size < w7.heap.size by omega)
    have far_w7_w2_0 := far (show w2.heap.size < w7.heap.size by omega)
    have far_w7_w3_0 := far (show w3.heap.size < w7.heap.size by omega)
    have far_w7_w4_0 := far (show w4.heap.size < w7.heap.size by omega)
    have far_w7_w6_0 := far (show w6.heap.size < w7.heap.size by omega)
    go_wp2_with fail
    refine Calls.mono (alive_any _) ?_
    rintro e w8 ⟨rfl, hb_w8⟩
    have hz_w8 := hb_w8.size
    try simp at hz_w8
    obtain ⟨c_w8_w_0, f_w8_w_0⟩ := bk hb_w8 (w.heap.size) (by first | omega | (simp <;> omega))
    have c_w8_w_0_0 := c_w8_w_0 0
    conv at c_w8_w_0_0 => rhs; simp [go_sem, *]
    have f_w8_w_0_0 := f_w8_w_0 0
    conv at f_w8_w_0_0 => rhs; simp [go_sem, *]
    have c_w8_w_0_1 := c_w8_w_0 1
    conv at c_w8_w_0_1 => rhs; simp [go_sem, *]
    have f_w8_w_0_1 := f_w8_w_0 1
    conv at f_w8_w_0_1 => rhs; simp [go_sem, *]
    obtain ⟨c_w8_w2_0, f_w8_w2_0⟩ := bk hb_w8 (w2.heap.size) (by first | omega | (simp <;> omega))
    have c_w8_w2_0_0 := c_w8_w2_0 0
    conv at c_w8_w2_0_0 => rhs; simp [go_sem, *]
    have f_w8_w2_0_0 := f_w8_w2_0 0
    conv at f_w8_w2_0_0 => rhs; simp [go_sem, *]
    have c_w8_w2_0_1 := c_w8_w2_0 1
    conv at c_w8_w2_0_1 => rhs; simp [go_sem, *]
    have f_w8_w2_0_1 := f_w8_w2_0 1
    conv at f_w8_w2_0_1 => rhs; simp [go_sem, *]
    obtain ⟨c_w8_w3_0, f_w8_w3_0⟩ := bk hb_w8 (w3.heap.size) (by first | omega | (simp <;> omega))
    have c_w8_w3_0_0 := c_w8_w3_0 0
    conv at c_w8_w3_0_0 => rhs; simp [go_sem, *]
    have f_w8_w3_0_0 := f_w8_w3_0 0
    conv at f_w8_w3_0_0 => rhs; simp [go_sem, *]
    have c_w8_w3_0_1 := c_w8_w3_0 1
    conv at c_w8_w3_0_1 => rhs; simp [go_sem, *]
    have f_w8_w3_0_1 := f_w8_w3_0 1
    conv at f_w8_w3_0_1 => rhs; simp [go_sem, *]
    obtain ⟨c_w8_w4_0, f_w8_w4_0⟩ := bk hb_w8 (w4.heap.size) (by first | omega | (simp <;> omega))
    have c_w8_w4_0_0 := c_w8_w4_0 0
    conv at c_w8_w4_0_0 => rhs; simp [go_sem, *]
    have f_w8_w4_0_0 := f_w8_w4_0 0
    conv at f_w8_w4_0_0 => rhs; simp [go_sem, *]
    have c_w8_w4_0_1 := c_w8_w4_0 1
    conv at c_w8_w4_0_1 => rhs; simp [go_sem, *]
    have f_w8_w4_0_1 := f_w8_w4_0 1
    conv at f_w8_w4_0_1 => rhs; simp [go_sem, *]
    obtain ⟨c_w8_w6_0, f_w8_w6_0⟩ := bk hb_w8 (w6.heap.size) (by first | omega | (simp <;> omega))
    have c_w8_w6_0_0 := c_w8_w6_0 0
    conv at c_w8_w6_0_0 => rhs; simp [go_sem, *]
    have f_w8_w6_0_0 := f_w8_w6_0 0
    conv at f_w8_w6_0_0 => rhs; simp [go_sem, *]
    have c_w8_w6_0_1 := c_w8_w6_0 1
    conv at c_w8_w6_0_1 => rhs; simp [go_sem, *]
    have f_w8_w6_0_1 := f_w8_w6_0 1
    conv at f_w8_w6_0_1 => rhs; simp [go_sem, *]
    obtain ⟨c_w8_w7_0, f_w8_w7_0⟩ := bk hb_w8 (w7.heap.size) (by first | omega | (simp <;> omega))
    have c_w8_w7_0_0 := c_w8_w7_0 0
    conv at c_w8_w7_0_0 => rhs; simp [go_sem, *]
    have f_w8_w7_0_0 := f_w8_w7_0 0
    conv at f_w8_w7_0_0 => rhs; simp [go_sem, *]
    have c_w8_w7_0_1 := c_w8_w7_0 1
    conv at c_w8_w7_0_1 => rhs; simp [go_sem, *]
    have f_w8_w7_0_1 := f_w8_w7_0 1
    conv at f_w8_w7_0_1 => rhs; simp [go_sem, *]
    have hB_w8 : Below w.heap.size w w8 := Below.trans (by (repeat (first | exact Below.refl _ _ | assumption | refine Below.drew ?_ | refine Below.alloc ?_ (by first | omega | (simp <;> omega)) _ | refine Below.setCell ?_ (by first | omega | (simp <;> omega)) _))) (hb_w8.mono (by first | omega | (simp <;> omega)))
    clear hb_w8 c_w8_w_0 f_w8_w_0 c_w8_w2_0 f_w8_w2_0 c_w8_w3_0 f_w8_w3_0 c_w8_w4_0 f_w8_w4_0 c_w8_w6_0 f_w8_w6_0 c_w8_w7_0 f_w8_w7_0
    try clear c_w7_w_0_0
    try clear f_w7_w_0_0
    try clear c_w7_w_0_1
    try clear f_w7_w_0_1
    try clear c_w7_w2_0_0
    try clear f_w7_w2_0_0
    try clear c_w7_w2_0_1
    try clear f_w7_w2_0_1
    try clear c_w7_w3_0_0
    try clear f_w7_w3_0_0
    try clear c_w7_w3_0_1
    try clear f_w7_w3_0_1
    try clear c_w7_w4_0_0
    try clear f_w7_w4_0_0
    try clear c_w7_w4_0_1
    try clear f_w7_w4_0_1
    try clear c_w7_w6_0_0
    try clear f_w7_w6_0_0
    try clear c_w7_w6_0_1
    try clear f_w7_w6_0_1
    try clear far_w7_w_0
    try clear far_w7_w2_0
    try clear far_w7_w3_0
    try clear far_w7_w4_0
    try clear far_w7_w6_0
    try clear hB_w7
    have far_w8_w_0 := far (show w.heap.size < w8.heap.size by omega)
    have far_w8_w2_0 := far (show w2.heap.size < w8.heap.size by omega)
    have far_w8_w3_0 := far (show w3.heap.size < w8.heap.size by omega)
    have far_w8_w4_0 := far (show w4.heap.size < w8.heap.size by omega)
    have far_w8_w6_0 := far (show w6.heap.size < w8.heap.size by omega)
    have far_w8_w7_0 := far (show w7.heap.size < w8.heap.size by omega)
    go_wp2
    go_wp2
    go_ret
    exact ⟨rfl, by (repeat (first | exact Below.refl _ _ | assumption | refine Below.drew ?_ | refine Below.alloc ?_ (by first | omega | (simp <;> omega)) _ | refine Below.setCell ?_ (by first | omega | (simp <;> omega)) _))⟩

set_option maxHeartbeats 1600000 in
set_option maxRecDepth 100000 in
theorem calls_ys {l0 t0 l s a z x y u : List UInt8} {c n : Int} {k K : Nat} (w : World) (hl0 : l0.length ≤ maxLen) (ht0 : t0.length ≤ maxLen) (hl : l0.take 70000 = l) (hk : min (t0.length : Int) 1000 = k) (hk1 : k ≤ t0.length) (hs : t0.take k = s) (hsl : s.length = k)
    (hr : rightL l c = true) (h : 0 ≤ n)
    (P : ∀ w, Calls Try.prog 14 #[.agg #[.string (S l), .int .i64 c], .string (S s)] w fun e w' => e = .returned (.tuple #[.agg #[.string (S a), .int .i64 c], .int .i64 K, .int .i64 0]) ∧ Below w.heap.size w w')
    (Q : ∀ w, Calls Try.prog 17 #[.agg #[.string (S l), .int .i64 c], .string (S s)] w fun e w' => e = .returned (.tuple #[.agg #[.string (S a), .int .i64 c], .int .i64 K]) ∧ Below w.heap.size w w')
    (T : ∀ w, Calls Try.prog 15 #[.agg #[.string (S l), .int .i64 c], .int .i64 n] w fun e w' => e = .returned (.tuple #[.agg #[.string (S y), .int .i64 c], .string (S u), .int .i64 0]) ∧ Below w.heap.size w w')
    (U : 0 ≤ n → ∀ w, Calls Try.prog 19 #[.agg #[.string (S l), .int .i64 c], .int .i64 n] w fun e w' => e = .returned (.tuple #[.agg #[.string (S y), .int .i64 c], .string (S u)]) ∧ Below w.heap.size w w')
    (X : ∀ w, Calls Try.prog 16 #[.agg #[.string (S l), .int .i64 c]] w fun e w' => e = .returned (.tuple #[.agg #[.string (S z), .int .i64 c], .string (S x), .int .i64 0]) ∧ Below w.heap.size w w')
    (Y : ∀ w, Calls Try.prog 18 #[.agg #[.string (S l), .int .i64 c]] w fun e w' => e = .returned (.tuple #[.agg #[.string (S z), .int .i64 c], .string (S x), .bool true]) ∧ Below w.heap.size w w') :
    Calls Try.prog 7 #[.agg #[.string (S l0), .int .i64 c], .string (S t0), .int .i64 n] w fun e w' => e = .returned (.bool true) ∧ Below w.heap.size w w' := by
  have HL := Lib.hid hl
  have HR := Lib.hid hr
  have HF := Lib.hid hl0
  have P := Lib.hid P
  have Q := Lib.hid Q
  have T := Lib.hid T
  have U := Lib.hid U
  have X := Lib.hid X
  have Y := Lib.hid Y
  have H := Lib.hid h
  clear hl hr hl0
  unfold maxLen at ht0
  go_enter Try.func7, Try.ntmps7
  go_upto_region 1 with fail
  go_cut [1] (fun v wx => v = .string (S s) ∧ wx.cell? ⟨w.heap.size, 0, none⟩ = some (.string (S l)) ∧ wx.cell? ⟨w.heap.size, 1, none⟩ = some (.int .i64 c) ∧ w.heap.size < wx.heap.size ∧ Below w.heap.size w wx)
  case first =>
    as_aux_lemma =>
      go_region_with (go_at_call 8; refine (few_S HF.out HL.out _).mono ?_; rintro e w1 ⟨rfl, hb⟩; obtain ⟨hcc, hff⟩ := bk hb (w.heap.size) (by simp); have hz := hb.size; simp at hz)
      all_goals (go_wp2_with fail; go_meet; exact ⟨rfl, by simp [go_sem, *], by simp [go_sem, *], by simp <;> omega, by refine Below.setCell (Below.setCell (Below.trans ?_ (hb.mono (by simp <;> omega))) (by simp) _) (by simp) _; (repeat (first | exact Below.refl _ _ | assumption | refine Below.drew ?_ | refine Below.alloc ?_ (by first | omega | (simp <;> omega)) _ | refine Below.setCell ?_ (by first | omega | (simp <;> omega)) _))⟩)
  case rest =>
    obtain ⟨rfl, hc0, hc1, hlt, hB⟩ := hcut
    have hfar := far hlt
    go_wp2_with fail
    refine Calls.mono (P.out _) ?_
    rintro e w2 ⟨rfl, hb_w2⟩
    have hz_w2 := hb_w2.size
    try simp at hz_w2
    obtain ⟨c_w2_w_0, f_w2_w_0⟩ := bk hb_w2 (w.heap.size) (by first | omega | (simp <;> omega))
    have c_w2_w_0_0 := c_w2_w_0 0
    conv at c_w2_w_0_0 => rhs; simp [go_sem, *]
    have f_w2_w_0_0 := f_w2_w_0 0
    conv at f_w2_w_0_0 => rhs; simp [go_sem, *]
    have c_w2_w_0_1 := c_w2_w_0 1
    conv at c_w2_w_0_1 => rhs; simp [go_sem, *]
    have f_w2_w_0_1 := f_w2_w_0 1
    conv at f_w2_w_0_1 => rhs; simp [go_sem, *]
    have hB_w2 : Below w.heap.size w w2 := Below.trans (by (repeat (first | exact Below.refl _ _ | assumption | refine Below.drew ?_ | refine Below.alloc ?_ (by first | omega | (simp <;> omega)) _ | refine Below.setCell ?_ (by first | omega | (simp <;> omega)) _))) (hb_w2.mono (by first | omega | (simp <;> omega)))
    clear hb_w2 c_w2_w_0 f_w2_w_0
    have far_w2_w_0 := far (show w.heap.size < w2.heap.size by omega)
    go_wp2_with fail
    refine Calls.mono (T.out _) ?_
    rintro e w3 ⟨rfl, hb_w3⟩
    have hz_w3 := hb_w3.size
    try simp at hz_w3
    obtain ⟨c_w3_w_0, f_w3_w_0⟩ := bk hb_w3 (w.heap.size) (by first | omega | (simp <;> omega))
    have c_w3_w_0_0 := c_w3_w_0 0
    conv at c_w3_w_0_0 => rhs; simp [go_sem, *]
    have f_w3_w_0_0 := f_w3_w_0 0
    conv at f_w3_w_0_0 => rhs; simp [go_sem, *]
    have c_w3_w_0_1 := c_w3_w_0 1
    conv at c_w3_w_0_1 => rhs; simp [go_sem, *]
    have f_w3_w_0_1 := f_w3_w_0 1
    conv at f_w3_w_0_1 => rhs; simp [go_sem, *]
    obtain ⟨c_w3_w2_0, f_w3_w2_0⟩ := bk hb_w3 (w2.heap.size) (by first | omega | (simp <;> omega))
    have c_w3_w2_0_0 := c_w3_w2_0 0
    conv at c_w3_w2_0_0 => rhs; simp [go_sem, *]
    have f_w3_w2_0_0 := f_w3_w2_0 0
    conv at f_w3_w2_0_0 => rhs; simp [go_sem, *]
    have c_w3_w2_0_1 := c_w3_w2_0 1
    conv at c_w3_w2_0_1 => rhs; simp [go_sem, *]
    have f_w3_w2_0_1 := f_w3_w2_0 1
    conv at f_w3_w2_0_1 => rhs; simp [go_sem, *]
    have hB_w3 : Below w.heap.size w w3 := Below.trans (by (repeat (first | exact Below.refl _ _ | assumption | refine Below.drew ?_ | refine Below.alloc ?_ (by first | omega | (simp <;> omega)) _ | refine Below.setCell ?_ (by first | omega | (simp <;> omega)) _))) (hb_w3.mono (by first | omega | (simp <;> omega)))
    clear hb_w3 c_w3_w_0 f_w3_w_0 c_w3_w2_0 f_w3_w2_0
    try clear c_w2_w_0_0
    try clear f_w2_w_0_0
    try clear c_w2_w_0_1
    try clear f_w2_w_0_1
    try clear far_w2_w_0
    try clear hB_w2
    have far_w3_w_0 := far (show w.heap.size < w3.heap.size by omega)
    have far_w3_w2_0 := far (show w2.heap.size < w3.heap.size by omega)
    go_wp2_with fail
    refine Calls.mono (X.out _) ?_
    rintro e w4 ⟨rfl, hb_w4⟩
    have hz_w4 := hb_w4.size
    try simp at hz_w4
    obtain ⟨c_w4_w_0, f_w4_w_0⟩ := bk hb_w4 (w.heap.size) (by first | omega | (simp <;> omega))
    have c_w4_w_0_0 := c_w4_w_0 0
    conv at c_w4_w_0_0 => rhs; simp [go_sem, *]
    have f_w4_w_0_0 := f_w4_w_0 0
    conv at f_w4_w_0_0 => rhs; simp [go_sem, *]
    have c_w4_w_0_1 := c_w4_w_0 1
    conv at c_w4_w_0_1 => rhs; simp [go_sem, *]
    have f_w4_w_0_1 := f_w4_w_0 1
    conv at f_w4_w_0_1 => rhs; simp [go_sem, *]
    obtain ⟨c_w4_w2_0, f_w4_w2_0⟩ := bk hb_w4 (w2.heap.size) (by first | omega | (simp <;> omega))
    have c_w4_w2_0_0 := c_w4_w2_0 0
    conv at c_w4_w2_0_0 => rhs; simp [go_sem, *]
    have f_w4_w2_0_0 := f_w4_w2_0 0
    conv at f_w4_w2_0_0 => rhs; simp [go_sem, *]
    have c_w4_w2_0_1 := c_w4_w2_0 1
    conv at c_w4_w2_0_1 => rhs; simp [go_sem, *]
    have f_w4_w2_0_1 := f_w4_w2_0 1
    conv at f_w4_w2_0_1 => rhs; simp [go_sem, *]
    obtain ⟨c_w4_w3_0, f_w4_w3_0⟩ := bk hb_w4 (w3.heap.size) (by first | omega | (simp <;> omega))
    have c_w4_w3_0_0 := c_w4_w3_0 0
    conv at c_w4_w3_0_0 => rhs; simp [go_sem, *]
    have f_w4_w3_0_0 := f_w4_w3_0 0
    conv at f_w4_w3_0_0 => rhs; simp [go_sem, *]
    have c_w4_w3_0_1 := c_w4_w3_0 1
    conv at c_w4_w3_0_1 => rhs; simp [go_sem, *]
    have f_w4_w3_0_1 := f_w4_w3_0 1
    conv at f_w4_w3_0_1 => rhs; simp [go_sem, *]
    have hB_w4 : Below w.heap.size w w4 := Below.trans (by (repeat (first | exact Below.refl _ _ | assumption | refine Below.drew ?_ | refine Below.alloc ?_ (by first | omega | (simp <;> omega)) _ | refine Below.setCell ?_ (by first | omega | (simp <;> omega)) _))) (hb_w4.mono (by first | omega | (simp <;> omega)))
    clear hb_w4 c_w4_w_0 f_w4_w_0 c_w4_w2_0 f_w4_w2_0 c_w4_w3_0 f_w4_w3_0
    try clear c_w3_w_0_0
    try clear f_w3_w_0_0
    try clear c_w3_w_0_1
    try clear f_w3_w_0_1
    try clear c_w3_w2_0_0
    try clear f_w3_w2_0_0
    try clear c_w3_w2_0_1
    try clear f_w3_w2_0_1
    try clear far_w3_w_0
    try clear far_w3_w2_0
    try clear hB_w3
    have far_w4_w_0 := far (show w.heap.size < w4.heap.size by omega)
    have far_w4_w2_0 := far (show w2.heap.size < w4.heap.size by omega)
    have far_w4_w3_0 := far (show w3.heap.size < w4.heap.size by omega)
    go_wp2_with fail
    refine Calls.mono (ref_right_S HR.out _) ?_
    rintro e w5 ⟨rfl, hb_w5⟩
    have hz_w5 := hb_w5.size
    try simp at hz_w5
    obtain ⟨c_w5_w_0, f_w5_w_0⟩ := bk hb_w5 (w.heap.size) (by first | omega | (simp <;> omega))
    have c_w5_w_0_0 := c_w5_w_0 0
    conv at c_w5_w_0_0 => rhs; simp [go_sem, *]
    have f_w5_w_0_0 := f_w5_w_0 0
    conv at f_w5_w_0_0 => rhs; simp [go_sem, *]
    have c_w5_w_0_1 := c_w5_w_0 1
    conv at c_w5_w_0_1 => rhs; simp [go_sem, *]
    have f_w5_w_0_1 := f_w5_w_0 1
    conv at f_w5_w_0_1 => rhs; simp [go_sem, *]
    obtain ⟨c_w5_w2_0, f_w5_w2_0⟩ := bk hb_w5 (w2.heap.size) (by first | omega | (simp <;> omega))
    have c_w5_w2_0_0 := c_w5_w2_0 0
    conv at c_w5_w2_0_0 => rhs; simp [go_sem, *]
    have f_w5_w2_0_0 := f_w5_w2_0 0
    conv at f_w5_w2_0_0 => rhs; simp [go_sem, *]
    have c_w5_w2_0_1 := c_w5_w2_0 1
    conv at c_w5_w2_0_1 => rhs; simp [go_sem, *]
    have f_w5_w2_0_1 := f_w5_w2_0 1
    conv at f_w5_w2_0_1 => rhs; simp [go_sem, *]
    obtain ⟨c_w5_w3_0, f_w5_w3_0⟩ := bk hb_w5 (w3.heap.size) (by first | omega | (simp <;> omega))
    have c_w5_w3_0_0 := c_w5_w3_0 0
    conv at c_w5_w3_0_0 => rhs; simp [go_sem, *]
    have f_w5_w3_0_0 := f_w5_w3_0 0
    conv at f_w5_w3_0_0 => rhs; simp [go_sem, *]
    have c_w5_w3_0_1 := c_w5_w3_0 1
    conv at c_w5_w3_0_1 => rhs; simp [go_sem, *]
    have f_w5_w3_0_1 := f_w5_w3_0 1
    conv at f_w5_w3_0_1 => rhs; simp [go_sem, *]
    obtain ⟨c_w5_w4_0, f_w5_w4_0⟩ := bk hb_w5 (w4.heap.size) (by first | omega | (simp <;> omega))
    have c_w5_w4_0_0 := c_w5_w4_0 0
    conv at c_w5_w4_0_0 => rhs; simp [go_sem, *]
    have f_w5_w4_0_0 := f_w5_w4_0 0
    conv at f_w5_w4_0_0 => rhs; simp [go_sem, *]
    have c_w5_w4_0_1 := c_w5_w4_0 1
    conv at c_w5_w4_0_1 => rhs; simp [go_sem, *]
    have f_w5_w4_0_1 := f_w5_w4_0 1
    conv at f_w5_w4_0_1 => rhs; simp [go_sem, *]
    have hB_w5 : Below w.heap.size w w5 := Below.trans (by (repeat (first | exact Below.refl _ _ | assumption | refine Below.drew ?_ | refine Below.alloc ?_ (by first | omega | (simp <;> omega)) _ | refine Below.setCell ?_ (by first | omega | (simp <;> omega)) _))) (hb_w5.mono (by first | omega | (simp <;> omega)))
    clear hb_w5 c_w5_w_0 f_w5_w_0 c_w5_w2_0 f_w5_w2_0 c_w5_w3_0 f_w5_w3_0 c_w5_w4_0 f_w5_w4_0
    try clear c_w4_w_0_0
    try clear f_w4_w_0_0
    try clear c_w4_w_0_1
    try clear f_w4_w_0_1
    try clear c_w4_w2_0_0
    try clear f_w4_w2_0_0
    try clear c_w4_w2_0_1
    try clear f_w4_w2_0_1
    try clear c_w4_w3_0_0
    try clear f_w4_w3_0_0
    try clear c_w4_w3_0_1
    try clear f_w4_w3_0_1
    try clear far_w4_w_0
    try clear far_w4_w2_0
    try clear far_w4_w3_0
    try clear hB_w4
    have far_w5_w_0 := far (show w.heap.size < w5.heap.size by omega)
    have far_w5_w2_0 := far (show w2.heap.size < w5.heap.size by omega)
    have far_w5_w3_0 := far (show w3.heap.size < w5.heap.size by omega)
    have far_w5_w4_0 := far (show w4.heap.size < w5.heap.size by omega)
    go_wp2_with fail
    refine Calls.mono (Q.out _) ?_
    rintro e w6 ⟨rfl, hb_w6⟩
    have hz_w6 := hb_w6.size
    try simp at hz_w6
    obtain ⟨c_w6_w_0, f_w6_w_0⟩ := bk hb_w6 (w.heap.size) (by first | omega | (simp <;> omega))
    have c_w6_w_0_0 := c_w6_w_0 0
    conv at c_w6_w_0_0 => rhs; simp [go_sem, *]
    have f_w6_w_0_0 := f_w6_w_0 0
    conv at f_w6_w_0_0 => rhs; simp [go_sem, *]
    have c_w6_w_0_1 := c_w6_w_0 1
    conv at c_w6_w_0_1 => rhs; simp [go_sem, *]
    have f_w6_w_0_1 := f_w6_w_0 1
    conv at f_w6_w_0_1 => rhs; simp [go_sem, *]
    obtain ⟨c_w6_w2_0, f_w6_w2_0⟩ := bk hb_w6 (w2.heap.size) (by first | omega | (simp <;> omega))
    have c_w6_w2_0_0 := c_w6_w2_0 0
    conv at c_w6_w2_0_0 => rhs; simp [go_sem, *]
    have f_w6_w2_0_0 := f_w6_w2_0 0
    conv at f_w6_w2_0_0 => rhs; simp [go_sem, *]
    have c_w6_w2_0_1 := c_w6_w2_0 1
    conv at c_w6_w2_0_1 => rhs; simp [go_sem, *]
    have f_w6_w2_0_1 := f_w6_w2_0 1
    conv at f_w6_w2_0_1 => rhs; simp [go_sem, *]
    obtain ⟨c_w6_w3_0, f_w6_w3_0⟩ := bk hb_w6 (w3.heap.size) (by first | omega | (simp <;> omega))
    have c_w6_w3_0_0 := c_w6_w3_0 0
    conv at c_w6_w3_0_0 => rhs; simp [go_sem, *]
    have f_w6_w3_0_0 := f_w6_w3_0 0
    conv at f_w6_w3_0_0 => rhs; simp [go_sem, *]
    have c_w6_w3_0_1 := c_w6_w3_0 1
    conv at c_w6_w3_0_1 => rhs; simp [go_sem, *]
    have f_w6_w3_0_1 := f_w6_w3_0 1
    conv at f_w6_w3_0_1 => rhs; simp [go_sem, *]
    obtain ⟨c_w6_w4_0, f_w6_w4_0⟩ := bk hb_w6 (w4.heap.size) (by first | omega | (simp <;> omega))
    have c_w6_w4_0_0 := c_w6_w4_0 0
    conv at c_w6_w4_0_0 => rhs; simp [go_sem, *]
    have f_w6_w4_0_0 := f_w6_w4_0 0
    conv at f_w6_w4_0_0 => rhs; simp [go_sem, *]
    have c_w6_w4_0_1 := c_w6_w4_0 1
    conv at c_w6_w4_0_1 => rhs; simp [go_sem, *]
    have f_w6_w4_0_1 := f_w6_w4_0 1
    conv at f_w6_w4_0_1 => rhs; simp [go_sem, *]
    have hB_w6 : Below w.heap.size w w6 := Below.trans (by (repeat (first | exact Below.refl _ _ | assumption | refine Below.drew ?_ | refine Below.alloc ?_ (by first | omega | (simp <;> omega)) _ | refine Below.setCell ?_ (by first | omega | (simp <;> omega)) _))) (hb_w6.mono (by first | omega | (simp <;> omega)))
    clear hb_w6 c_w6_w_0 f_w6_w_0 c_w6_w2_0 f_w6_w2_0 c_w6_w3_0 f_w6_w3_0 c_w6_w4_0 f_w6_w4_0
    try clear c_w5_w_0_0
    try clear f_w5_w_0_0
    try clear c_w5_w_0_1
    try clear f_w5_w_0_1
    try clear c_w5_w2_0_0
    try clear f_w5_w2_0_0
    try clear c_w5_w2_0_1
    try clear f_w5_w2_0_1
    try clear c_w5_w3_0_0
    try clear f_w5_w3_0_0
    try clear c_w5_w3_0_1
    try clear f_w5_w3_0_1
    try clear c_w5_w4_0_0
    try clear f_w5_w4_0_0
    try clear c_w5_w4_0_1
    try clear f_w5_w4_0_1
    try clear far_w5_w_0
    try clear far_w5_w2_0
    try clear far_w5_w3_0
    try clear far_w5_w4_0
    try clear hB_w5
    have far_w6_w_0 := far (show w.heap.size < w6.heap.size by omega)
    have far_w6_w2_0 := far (show w2.heap.size < w6.heap.size by omega)
    have far_w6_w3_0 := far (show w3.heap.size < w6.heap.size by omega)
    have far_w6_w4_0 := far (show w4.heap.size < w6.heap.size by omega)
    go_wp2_with fail
    refine Calls.mono (Y.out _) ?_
    rintro e w7 ⟨rfl, hb_w7⟩
    have hz_w7 := hb_w7.size
    try simp at hz_w7
    obtain ⟨c_w7_w_0, f_w7_w_0⟩ := bk hb_w7 (w.heap.size) (by first | omega | (simp <;> omega))
    have c_w7_w_0_0 := c_w7_w_0 0
    conv at c_w7_w_0_0 => rhs; simp [go_sem, *]
    have f_w7_w_0_0 := f_w7_w_0 0
    conv at f_w7_w_0_0 => rhs; simp [go_sem, *]
    have c_w7_w_0_1 := c_w7_w_0 1
    conv at c_w7_w_0_1 => rhs; simp [go_sem, *]
    have f_w7_w_0_1 := f_w7_w_0 1
    conv at f_w7_w_0_1 => rhs; simp [go_sem, *]
    obtain ⟨c_w7_w2_0, f_w7_w2_0⟩ := bk hb_w7 (w2.heap.size) (by first | omega | (simp <;> omega))
    have c_w7_w2_0_0 := c_w7_w2_0 0
    conv at c_w7_w2_0_0 => rhs; simp [go_sem, *]
    have f_w7_w2_0_0 := f_w7_w2_0 0
    conv at f_w7_w2_0_0 => rhs; simp [go_sem, *]
    have c_w7_w2_0_1 := c_w7_w2_0 1
    conv at c_w7_w2_0_1 => rhs; simp [go_sem, *]
    have f_w7_w2_0_1 := f_w7_w2_0 1
    conv at f_w7_w2_0_1 => rhs; simp [go_sem, *]
    obtain ⟨c_w7_w3_0, f_w7_w3_0⟩ := bk hb_w7 (w3.heap.size) (by first | omega | (simp <;> omega))
    have c_w7_w3_0_0 := c_w7_w3_0 0
    conv at c_w7_w3_0_0 => rhs; simp [go_sem, *]
    have f_w7_w3_0_0 := f_w7_w3_0 0
    conv at f_w7_w3_0_0 => rhs; simp [go_sem, *]
    have c_w7_w3_0_1 := c_w7_w3_0 1
    conv at c_w7_w3_0_1 => rhs; simp [go_sem, *]
    have f_w7_w3_0_1 := f_w7_w3_0 1
    conv at f_w7_w3_0_1 => rhs; simp [go_sem, *]
    obtain ⟨c_w7_w4_0, f_w7_w4_0⟩ := bk hb_w7 (w4.heap.size) (by first | omega | (simp <;> omega))
    have c_w7_w4_0_0 := c_w7_w4_0 0
    conv at c_w7_w4_0_0 => rhs; simp [go_sem, *]
    have f_w7_w4_0_0 := f_w7_w4_0 0
    conv at f_w7_w4_0_0 => rhs; simp [go_sem, *]
    have c_w7_w4_0_1 := c_w7_w4_0 1
    conv at c_w7_w4_0_1 => rhs; simp [go_sem, *]
    have f_w7_w4_0_1 := f_w7_w4_0 1
    conv at f_w7_w4_0_1 => rhs; simp [go_sem, *]
    obtain ⟨c_w7_w6_0, f_w7_w6_0⟩ := bk hb_w7 (w6.heap.size) (by first | omega | (simp <;> omega))
    have c_w7_w6_0_0 := c_w7_w6_0 0
    conv at c_w7_w6_0_0 => rhs; simp [go_sem, *]
    have f_w7_w6_0_0 := f_w7_w6_0 0
    conv at f_w7_w6_0_0 => rhs; simp [go_sem, *]
    have c_w7_w6_0_1 := c_w7_w6_0 1
    conv at c_w7_w6_0_1 => rhs; simp [go_sem, *]
    have f_w7_w6_0_1 := f_w7_w6_0 1
    conv at f_w7_w6_0_1 => rhs; simp [go_sem, *]
    have hB_w7 : Below w.heap.size w w7 := Below.trans (by (repeat (first | exact Below.refl _ _ | assumption | refine Below.drew ?_ | refine Below.alloc ?_ (by first | omega | (simp <;> omega)) _ | refine Below.setCell ?_ (by first | omega | (simp <;> omega)) _))) (hb_w7.mono (by first | omega | (simp <;> omega)))
    clear hb_w7 c_w7_w_0 f_w7_w_0 c_w7_w2_0 f_w7_w2_0 c_w7_w3_0 f_w7_w3_0 c_w7_w4_0 f_w7_w4_0 c_w7_w6_0 f_w7_w6_0
    try clear c_w6_w_0_0
    try clear f_w6_w_0_0
    try clear c_w6_w_0_1
    try clear f_w6_w_0_1
    try clear c_w6_w2_0_0
    try clear f_w6_w2_0_0
    try clear c_w6_w2_0_1
    try clear f_w6_w2_0_1
    try clear c_w6_w3_0_0
    try clear f_w6_w3_0_0
    try clear c_w6_w3_0_1
    try clear f_w6_w3_0_1
    try clear c_w6_w4_0_0
    try clear f_w6_w4_0_0
    try clear c_w6_w4_0_1
    try clear f_w6_w4_0_1
    try clear far_w6_w_0
    try clear far_w6_w2_0
    try clear far_w6_w3_0
    try clear far_w6_w4_0
    try clear hB_w6
    have far_w7_w_0 := far (show w.heap.size < w7.heap.size by omega)
    have far_w7_w2_0 := far (show w2.heap.size < w7.heap.size by omega)
    have far_w7_w3_0 := far (show w3.heap.size < w7.heap.size by omega)
    have far_w7_w4_0 := far (show w4.heap.size < w7.heap.size by omega)
    have far_w7_w6_0 := far (show w6.heap.size < w7.heap.size by omega)
    go_wp2_with fail
    refine Calls.mono (alive_any _) ?_
    rintro e w8 ⟨rfl, hb_w8⟩
    have hz_w8 := hb_w8.size
    try simp at hz_w8
    obtain ⟨c_w8_w_0, f_w8_w_0⟩ := bk hb_w8 (w.heap.size) (by first | omega | (simp <;> omega))
    have c_w8_w_0_0 := c_w8_w_0 0
    conv at c_w8_w_0_0 => rhs; simp [go_sem, *]
    have f_w8_w_0_0 := f_w8_w_0 0
    conv at f_w8_w_0_0 => rhs; simp [go_sem, *]
    have c_w8_w_0_1 := c_w8_w_0 1
    conv at c_w8_w_0_1 => rhs; simp [go_sem, *]
    have f_w8_w_0_1 := f_w8_w_0 1
    conv at f_w8_w_0_1 => rhs; simp [go_sem, *]
    obtain ⟨c_w8_w2_0, f_w8_w2_0⟩ := bk hb_w8 (w2.heap.size) (by first | omega | (simp <;> omega))
    have c_w8_w2_0_0 := c_w8_w2_0 0
    conv at c_w8_w2_0_0 => rhs; simp [go_sem, *]
    have f_w8_w2_0_0 := f_w8_w2_0 0
    conv at f_w8_w2_0_0 => rhs; simp [go_sem, *]
    have c_w8_w2_0_1 := c_w8_w2_0 1
    conv at c_w8_w2_0_1 => rhs; simp [go_sem, *]
    have f_w8_w2_0_1 := f_w8_w2_0 1
    conv at f_w8_w2_0_1 => rhs; simp [go_sem, *]
    obtain ⟨c_w8_w3_0, f_w8_w3_0⟩ := bk hb_w8 (w3.heap.size) (by first | omega | (simp <;> omega))
    have c_w8_w3_0_0 := c_w8_w3_0 0
    conv at c_w8_w3_0_0 => rhs; simp [go_sem, *]
    have f_w8_w3_0_0 := f_w8_w3_0 0
    conv at f_w8_w3_0_0 => rhs; simp [go_sem, *]
    have c_w8_w3_0_1 := c_w8_w3_0 1
    conv at c_w8_w3_0_1 => rhs; simp [go_sem, *]
    have f_w8_w3_0_1 := f_w8_w3_0 1
    conv at f_w8_w3_0_1 => rhs; simp [go_sem, *]
    obtain ⟨c_w8_w4_0, f_w8_w4_0⟩ := bk hb_w8 (w4.heap.size) (by first | omega | (simp <;> omega))
    have c_w8_w4_0_0 := c_w8_w4_0 0
    conv at c_w8_w4_0_0 => rhs; simp [go_sem, *]
    have f_w8_w4_0_0 := f_w8_w4_0 0
    conv at f_w8_w4_0_0 => rhs; simp [go_sem, *]
    have c_w8_w4_0_1 := c_w8_w4_0 1
    conv at c_w8_w4_0_1 => rhs; simp [go_sem, *]
    have f_w8_w4_0_1 := f_w8_w4_0 1
    conv at f_w8_w4_0_1 => rhs; simp [go_sem, *]
    obtain ⟨c_w8_w6_0, f_w8_w6_0⟩ := bk hb_w8 (w6.heap.size) (by first | omega | (simp <;> omega))
    have c_w8_w6_0_0 := c_w8_w6_0 0
    conv at c_w8_w6_0_0 => rhs; simp [go_sem, *]
    have f_w8_w6_0_0 := f_w8_w6_0 0
    conv at f_w8_w6_0_0 => rhs; simp [go_sem, *]
    have c_w8_w6_0_1 := c_w8_w6_0 1
    conv at c_w8_w6_0_1 => rhs; simp [go_sem, *]
    have f_w8_w6_0_1 := f_w8_w6_0 1
    conv at f_w8_w6_0_1 => rhs; simp [go_sem, *]
    obtain ⟨c_w8_w7_0, f_w8_w7_0⟩ := bk hb_w8 (w7.heap.size) (by first | omega | (simp <;> omega))
    have c_w8_w7_0_0 := c_w8_w7_0 0
    conv at c_w8_w7_0_0 => rhs; simp [go_sem, *]
    have f_w8_w7_0_0 := f_w8_w7_0 0
    conv at f_w8_w7_0_0 => rhs; simp [go_sem, *]
    have c_w8_w7_0_1 := c_w8_w7_0 1
    conv at c_w8_w7_0_1 => rhs; simp [go_sem, *]
    have f_w8_w7_0_1 := f_w8_w7_0 1
    conv at f_w8_w7_0_1 => rhs; simp [go_sem, *]
    have hB_w8 : Below w.heap.size w w8 := Below.trans (by (repeat (first | exact Below.refl _ _ | assumption | refine Below.drew ?_ | refine Below.alloc ?_ (by first | omega | (simp <;> omega)) _ | refine Below.setCell ?_ (by first | omega | (simp <;> omega)) _))) (hb_w8.mono (by first | omega | (simp <;> omega)))
    clear hb_w8 c_w8_w_0 f_w8_w_0 c_w8_w2_0 f_w8_w2_0 c_w8_w3_0 f_w8_w3_0 c_w8_w4_0 f_w8_w4_0 c_w8_w6_0 f_w8_w6_0 c_w8_w7_0 f_w8_w7_0
    try clear c_w7_w_0_0
    try clear f_w7_w_0_0
    try clear c_w7_w_0_1
    try clear f_w7_w_0_1
    try clear c_w7_w2_0_0
    try clear f_w7_w2_0_0
    try clear c_w7_w2_0_1
    try clear f_w7_w2_0_1
    try clear c_w7_w3_0_0
    try clear f_w7_w3_0_0
    try clear c_w7_w3_0_1
    try clear f_w7_w3_0_1
    try clear c_w7_w4_0_0
    try clear f_w7_w4_0_0
    try clear c_w7_w4_0_1
    try clear f_w7_w4_0_1
    try clear c_w7_w6_0_0
    try clear f_w7_w6_0_0
    try clear c_w7_w6_0_1
    try clear f_w7_w6_0_1
    try clear far_w7_w_0
    try clear far_w7_w2_0
    try clear far_w7_w3_0
    try clear far_w7_w4_0
    try clear far_w7_w6_0
    try clear hB_w7
    have far_w8_w_0 := far (show w.heap.size < w8.heap.size by omega)
    have far_w8_w2_0 := far (show w2.heap.size < w8.heap.size by omega)
    have far_w8_w3_0 := far (show w3.heap.size < w8.heap.size by omega)
    have far_w8_w4_0 := far (show w4.heap.size < w8.heap.size by omega)
    have far_w8_w6_0 := far (show w6.heap.size < w8.heap.size by omega)
    have far_w8_w7_0 := far (show w7.heap.size < w8.heap.size by omega)
    go_wp2_with fail
    refine Calls.mono (U.out H.out _) ?_
    rintro e w9 ⟨rfl, hb_w9⟩
    have hz_w9 := hb_w9.size
    try simp at hz_w9
    obtain ⟨c_w9_w_0, f_w9_w_0⟩ := bk hb_w9 (w.heap.size) (by first | omega | (simp <;> omega))
    have c_w9_w_0_0 := c_w9_w_0 0
    conv at c_w9_w_0_0 => rhs; simp [go_sem, *]
    have f_w9_w_0_0 := f_w9_w_0 0
    conv at f_w9_w_0_0 => rhs; simp [go_sem, *]
    have c_w9_w_0_1 := c_w9_w_0 1
    conv at c_w9_w_0_1 => rhs; simp [go_sem, *]
    have f_w9_w_0_1 := f_w9_w_0 1
    conv at f_w9_w_0_1 => rhs; simp [go_sem, *]
    obtain ⟨c_w9_w2_0, f_w9_w2_0⟩ := bk hb_w9 (w2.heap.size) (by first | omega | (simp <;> omega))
    have c_w9_w2_0_0 := c_w9_w2_0 0
    conv at c_w9_w2_0_0 => rhs; simp [go_sem, *]
    have f_w9_w2_0_0 := f_w9_w2_0 0
    conv at f_w9_w2_0_0 => rhs; simp [go_sem, *]
    have c_w9_w2_0_1 := c_w9_w2_0 1
    conv at c_w9_w2_0_1 => rhs; simp [go_sem, *]
    have f_w9_w2_0_1 := f_w9_w2_0 1
    conv at f_w9_w2_0_1 => rhs; simp [go_sem, *]
    obtain ⟨c_w9_w3_0, f_w9_w3_0⟩ := bk hb_w9 (w3.heap.size) (by first | omega | (simp <;> omega))
    have c_w9_w3_0_0 := c_w9_w3_0 0
    conv at c_w9_w3_0_0 => rhs; simp [go_sem, *]
    have f_w9_w3_0_0 := f_w9_w3_0 0
    conv at f_w9_w3_0_0 => rhs; simp [go_sem, *]
    have c_w9_w3_0_1 := c_w9_w3_0 1
    conv at c_w9_w3_0_1 => rhs; simp [go_sem, *]
    have f_w9_w3_0_1 := f_w9_w3_0 1
    conv at f_w9_w3_0_1 => rhs; simp [go_sem, *]
    obtain ⟨c_w9_w4_0, f_w9_w4_0⟩ := bk hb_w9 (w4.heap.size) (by first | omega | (simp <;> omega))
    have c_w9_w4_0_0 := c_w9_w4_0 0
    conv at c_w9_w4_0_0 => rhs; simp [go_sem, *]
    have f_w9_w4_0_0 := f_w9_w4_0 0
    conv at f_w9_w4_0_0 => rhs; simp [go_sem, *]
    have c_w9_w4_0_1 := c_w9_w4_0 1
    conv at c_w9_w4_0_1 => rhs; simp [go_sem, *]
    have f_w9_w4_0_1 := f_w9_w4_0 1
    conv at f_w9_w4_0_1 => rhs; simp [go_sem, *]
    obtain ⟨c_w9_w6_0, f_w9_w6_0⟩ := bk hb_w9 (w6.heap.size) (by first | omega | (simp <;> omega))
    have c_w9_w6_0_0 := c_w9_w6_0 0
    conv at c_w9_w6_0_0 => rhs; simp [go_sem, *]
    have f_w9_w6_0_0 := f_w9_w6_0 0
    conv at f_w9_w6_0_0 => rhs; simp [go_sem, *]
    have c_w9_w6_0_1 := c_w9_w6_0 1
    conv at c_w9_w6_0_1 => rhs; simp [go_sem, *]
    have f_w9_w6_0_1 := f_w9_w6_0 1
    conv at f_w9_w6_0_1 => rhs; simp [go_sem, *]
    obtain ⟨c_w9_w7_0, f_w9_w7_0⟩ := bk hb_w9 (w7.heap.size) (by first | omega | (simp <;> omega))
    have c_w9_w7_0_0 := c_w9_w7_0 0
    conv at c_w9_w7_0_0 => rhs; simp [go_sem, *]
    have f_w9_w7_0_0 := f_w9_w7_0 0
    conv at f_w9_w7_0_0 => rhs; simp [go_sem, *]
    have c_w9_w7_0_1 := c_w9_w7_0 1
    conv at c_w9_w7_0_1 => rhs; simp [go_sem, *]
    have f_w9_w7_0_1 := f_w9_w7_0 1
    conv at f_w9_w7_0_1 => rhs; simp [go_sem, *]
    have hB_w9 : Below w.heap.size w w9 := Below.trans (by (repeat (first | exact Below.refl _ _ | assumption | refine Below.drew ?_ | refine Below.alloc ?_ (by first | omega | (simp <;> omega)) _ | refine Below.setCell ?_ (by first | omega | (simp <;> omega)) _))) (hb_w9.mono (by first | omega | (simp <;> omega)))
    clear hb_w9 c_w9_w_0 f_w9_w_0 c_w9_w2_0 f_w9_w2_0 c_w9_w3_0 f_w9_w3_0 c_w9_w4_0 f_w9_w4_0 c_w9_w6_0 f_w9_w6_0 c_w9_w7_0 f_w9_w7_0
    try clear c_w8_w_0_0
    try clear f_w8_w_0_0
    try clear c_w8_w_0_1
    try clear f_w8_w_0_1
    try clear c_w8_w2_0_0
    try clear f_w8_w2_0_0
    try clear c_w8_w2_0_1
    try clear f_w8_w2_0_1
    try clear c_w8_w3_0_0
    try clear f_w8_w3_0_0
    try clear c_w8_w3_0_1
    try clear f_w8_w3_0_1
    try clear c_w8_w4_0_0
    try clear f_w8_w4_0_0
    try clear c_w8_w4_0_1
    try clear f_w8_w4_0_1
    try clear c_w8_w6_0_0
    try clear f_w8_w6_0_0
    try clear c_w8_w6_0_1
    try clear f_w8_w6_0_1
    try clear c_w8_w7_0_0
    try clear f_w8_w7_0_0
    try clear c_w8_w7_0_1
    try clear f_w8_w7_0_1
    try clear far_w8_w_0
    try clear far_w8_w2_0
    try clear far_w8_w3_0
    try clear far_w8_w4_0
    try clear far_w8_w6_0
    try clear far_w8_w7_0
    try clear hB_w8
    have far_w9_w_0 := far (show w.heap.size < w9.heap.size by omega)
    have far_w9_w2_0 := far (show w2.heap.size < w9.heap.size by omega)
    have far_w9_w3_0 := far (show w3.heap.size < w9.heap.size by omega)
    have far_w9_w4_0 := far (show w4.heap.size < w9.heap.size by omega)
    have far_w9_w6_0 := far (show w6.heap.size < w9.heap.size by omega)
    have far_w9_w7_0 := far (show w7.heap.size < w9.heap.size by omega)
    go_wp2
    go_ret
    exact ⟨rfl, by (repeat (first | exact Below.refl _ _ | assumption | refine Below.drew ?_ | refine Below.alloc ?_ (by first | omega | (simp <;> omega)) _ | refine Below.setCell ?_ (by first | omega | (simp <;> omega)) _))⟩

set_option maxHeartbeats 1600000 in
set_option maxRecDepth 100000 in
theorem calls_nn {l0 t0 l s a z x y u : List UInt8} {c n : Int} {k K : Nat} (w : World) (hl0 : l0.length ≤ maxLen) (ht0 : t0.length ≤ maxLen) (hl : l0.take 70000 = l) (hk : min (t0.length : Int) 1000 = k) (hk1 : k ≤ t0.length) (hs : t0.take k = s) (hsl : s.length = k)
    (hr : rightL l c = true) (h : n < 0)
    (P : ∀ w, Calls Try.prog 14 #[.agg #[.string (S l), .int .i64 c], .string (S s)] w fun e w' => e = .returned (.tuple #[.agg #[.string (S a), .int .i64 c], .int .i64 K, .int .i64 0]) ∧ Below w.heap.size w w')
    (Q : ∀ w, Calls Try.prog 17 #[.agg #[.string (S l), .int .i64 c], .string (S s)] w fun e w' => e = .returned (.tuple #[.agg #[.string (S a), .int .i64 c], .int .i64 K]) ∧ Below w.heap.size w w')
    (T : ∀ w, Calls Try.prog 15 #[.agg #[.string (S l), .int .i64 c], .int .i64 n] w fun e w' => e = .returned (.tuple #[.agg #[.string (S []), .int .i64 0], .string (S []), .int .i64 1]) ∧ Below w.heap.size w w')
    (U : 0 ≤ n → ∀ w, Calls Try.prog 19 #[.agg #[.string (S l), .int .i64 c], .int .i64 n] w fun e w' => e = .returned (.tuple #[.agg #[.string (S y), .int .i64 c], .string (S u)]) ∧ Below w.heap.size w w')
    (X : ∀ w, Calls Try.prog 16 #[.agg #[.string (S l), .int .i64 c]] w fun e w' => e = .returned (.tuple #[.agg #[.string (S z), .int .i64 c], .string (S []), .int .i64 3]) ∧ Below w.heap.size w w')
    (Y : ∀ w, Calls Try.prog 18 #[.agg #[.string (S l), .int .i64 c]] w fun e w' => e = .returned (.tuple #[.agg #[.string (S z), .int .i64 c], .string (S []), .bool false]) ∧ Below w.heap.size w w') :
    Calls Try.prog 7 #[.agg #[.string (S l0), .int .i64 c], .string (S t0), .int .i64 n] w fun e w' => e = .returned (.bool true) ∧ Below w.heap.size w w' := by
  have HL := Lib.hid hl
  have HR := Lib.hid hr
  have HF := Lib.hid hl0
  have P := Lib.hid P
  have Q := Lib.hid Q
  have T := Lib.hid T
  have U := Lib.hid U
  have X := Lib.hid X
  have Y := Lib.hid Y
  have H := Lib.hid h
  clear hl hr hl0
  unfold maxLen at ht0
  go_enter Try.func7, Try.ntmps7
  go_upto_region 1 with fail
  go_cut [1] (fun v wx => v = .string (S s) ∧ wx.cell? ⟨w.heap.size, 0, none⟩ = some (.string (S l)) ∧ wx.cell? ⟨w.heap.size, 1, none⟩ = some (.int .i64 c) ∧ w.heap.size < wx.heap.size ∧ Below w.heap.size w wx)
  case first =>
    as_aux_lemma =>
      go_region_with (go_at_call 8; refine (few_S HF.out HL.out _).mono ?_; rintro e w1 ⟨rfl, hb⟩; obtain ⟨hcc, hff⟩ := bk hb (w.heap.size) (by simp); have hz := hb.size; simp at hz)
      all_goals (go_wp2_with fail; go_meet; exact ⟨rfl, by simp [go_sem, *], by simp [go_sem, *], by simp <;> omega, by refine Below.setCell (Below.setCell (Below.trans ?_ (hb.mono (by simp <;> omega))) (by simp) _) (by simp) _; (repeat (first | exact Below.refl _ _ | assumption | refine Below.drew ?_ | refine Below.alloc ?_ (by first | omega | (simp <;> omega)) _ | refine Below.setCell ?_ (by first | omega | (simp <;> omega)) _))⟩)
  case rest =>
    obtain ⟨rfl, hc0, hc1, hlt, hB⟩ := hcut
    have hfar := far hlt
    go_wp2_with fail
    refine Calls.mono (P.out _) ?_
    rintro e w2 ⟨rfl, hb_w2⟩
    have hz_w2 := hb_w2.size
    try simp at hz_w2
    obtain ⟨c_w2_w_0, f_w2_w_0⟩ := bk hb_w2 (w.heap.size) (by first | omega | (simp <;> omega))
    have c_w2_w_0_0 := c_w2_w_0 0
    conv at c_w2_w_0_0 => rhs; simp [go_sem, *]
    have f_w2_w_0_0 := f_w2_w_0 0
    conv at f_w2_w_0_0 => rhs; simp [go_sem, *]
    have c_w2_w_0_1 := c_w2_w_0 1
    conv at c_w2_w_0_1 => rhs; simp [go_sem, *]
    have f_w2_w_0_1 := f_w2_w_0 1
    conv at f_w2_w_0_1 => rhs; simp [go_sem, *]
    have hB_w2 : Below w.heap.size w w2 := Below.trans (by (repeat (first | exact Below.refl _ _ | assumption | refine Below.drew ?_ | refine Below.alloc ?_ (by first | omega | (simp <;> omega)) _ | refine Below.setCell ?_ (by first | omega | (simp <;> omega)) _))) (hb_w2.mono (by first | omega | (simp <;> omega)))
    clear hb_w2 c_w2_w_0 f_w2_w_0
    have far_w2_w_0 := far (show w.heap.size < w2.heap.size by omega)
    go_wp2_with fail
    refine Calls.mono (T.out _) ?_
    rintro e w3 ⟨rfl, hb_w3⟩
    have hz_w3 := hb_w3.size
    try simp at hz_w3
    obtain ⟨c_w3_w_0, f_w3_w_0⟩ := bk hb_w3 (w.heap.size) (by first | omega | (simp <;> omega))
    have c_w3_w_0_0 := c_w3_w_0 0
    conv at c_w3_w_0_0 => rhs; simp [go_sem, *]
    have f_w3_w_0_0 := f_w3_w_0 0
    conv at f_w3_w_0_0 => rhs; simp [go_sem, *]
    have c_w3_w_0_1 := c_w3_w_0 1
    conv at c_w3_w_0_1 => rhs; simp [go_sem, *]
    have f_w3_w_0_1 := f_w3_w_0 1
    conv at f_w3_w_0_1 => rhs; simp [go_sem, *]
    obtain ⟨c_w3_w2_0, f_w3_w2_0⟩ := bk hb_w3 (w2.heap.size) (by first | omega | (simp <;> omega))
    have c_w3_w2_0_0 := c_w3_w2_0 0
    conv at c_w3_w2_0_0 => rhs; simp [go_sem, *]
    have f_w3_w2_0_0 := f_w3_w2_0 0
    conv at f_w3_w2_0_0 => rhs; simp [go_sem, *]
    have c_w3_w2_0_1 := c_w3_w2_0 1
    conv at c_w3_w2_0_1 => rhs; simp [go_sem, *]
    have f_w3_w2_0_1 := f_w3_w2_0 1
    conv at f_w3_w2_0_1 => rhs; simp [go_sem, *]
    have hB_w3 : Below w.heap.size w w3 := Below.trans (by (repeat (first | exact Below.refl _ _ | assumption | refine Below.drew ?_ | refine Below.alloc ?_ (by first | omega | (simp <;> omega)) _ | refine Below.setCell ?_ (by first | omega | (simp <;> omega)) _))) (hb_w3.mono (by first | omega | (simp <;> omega)))
    clear hb_w3 c_w3_w_0 f_w3_w_0 c_w3_w2_0 f_w3_w2_0
    try clear c_w2_w_0_0
    try clear f_w2_w_0_0
    try clear c_w2_w_0_1
    try clear f_w2_w_0_1
    try clear far_w2_w_0
    try clear hB_w2
    have far_w3_w_0 := far (show w.heap.size < w3.heap.size by omega)
    have far_w3_w2_0 := far (show w2.heap.size < w3.heap.size by omega)
    go_wp2_with fail
    refine Calls.mono (X.out _) ?_
    rintro e w4 ⟨rfl, hb_w4⟩
    have hz_w4 := hb_w4.size
    try simp at hz_w4
    obtain ⟨c_w4_w_0, f_w4_w_0⟩ := bk hb_w4 (w.heap.size) (by first | omega | (simp <;> omega))
    have c_w4_w_0_0 := c_w4_w_0 0
    conv at c_w4_w_0_0 => rhs; simp [go_sem, *]
    have f_w4_w_0_0 := f_w4_w_0 0
    conv at f_w4_w_0_0 => rhs; simp [go_sem, *]
    have c_w4_w_0_1 := c_w4_w_0 1
    conv at c_w4_w_0_1 => rhs; simp [go_sem, *]
    have f_w4_w_0_1 := f_w4_w_0 1
    conv at f_w4_w_0_1 => rhs; simp [go_sem, *]
    obtain ⟨c_w4_w2_0, f_w4_w2_0⟩ := bk hb_w4 (w2.heap.size) (by first | omega | (simp <;> omega))
    have c_w4_w2_0_0 := c_w4_w2_0 0
    conv at c_w4_w2_0_0 => rhs; simp [go_sem, *]
    have f_w4_w2_0_0 := f_w4_w2_0 0
    conv at f_w4_w2_0_0 => rhs; simp [go_sem, *]
    have c_w4_w2_0_1 := c_w4_w2_0 1
    conv at c_w4_w2_0_1 => rhs; simp [go_sem, *]
    have f_w4_w2_0_1 := f_w4_w2_0 1
    conv at f_w4_w2_0_1 => rhs; simp [go_sem, *]
    obtain ⟨c_w4_w3_0, f_w4_w3_0⟩ := bk hb_w4 (w3.heap.size) (by first | omega | (simp <;> omega))
    have c_w4_w3_0_0 := c_w4_w3_0 0
    conv at c_w4_w3_0_0 => rhs; simp [go_sem, *]
    have f_w4_w3_0_0 := f_w4_w3_0 0
    conv at f_w4_w3_0_0 => rhs; simp [go_sem, *]
    have c_w4_w3_0_1 := c_w4_w3_0 1
    conv at c_w4_w3_0_1 => rhs; simp [go_sem, *]
    have f_w4_w3_0_1 := f_w4_w3_0 1
    conv at f_w4_w3_0_1 => rhs; simp [go_sem, *]
    have hB_w4 : Below w.heap.size w w4 := Below.trans (by (repeat (first | exact Below.refl _ _ | assumption | refine Below.drew ?_ | refine Below.alloc ?_ (by first | omega | (simp <;> omega)) _ | refine Below.setCell ?_ (by first | omega | (simp <;> omega)) _))) (hb_w4.mono (by first | omega | (simp <;> omega)))
    clear hb_w4 c_w4_w_0 f_w4_w_0 c_w4_w2_0 f_w4_w2_0 c_w4_w3_0 f_w4_w3_0
    try clear c_w3_w_0_0
    try clear f_w3_w_0_0
    try clear c_w3_w_0_1
    try clear f_w3_w_0_1
    try clear c_w3_w2_0_0
    try clear f_w3_w2_0_0
    try clear c_w3_w2_0_1
    try clear f_w3_w2_0_1
    try clear far_w3_w_0
    try clear far_w3_w2_0
    try clear hB_w3
    have far_w4_w_0 := far (show w.heap.size < w4.heap.size by omega)
    have far_w4_w2_0 := far (show w2.heap.size < w4.heap.size by omega)
    have far_w4_w3_0 := far (show w3.heap.size < w4.heap.size by omega)
    go_wp2_with fail
    refine Calls.mono (ref_right_S HR.out _) ?_
    rintro e w5 ⟨rfl, hb_w5⟩
    have hz_w5 := hb_w5.size
    try simp at hz_w5
    obtain ⟨c_w5_w_0, f_w5_w_0⟩ := bk hb_w5 (w.heap.size) (by first | omega | (simp <;> omega))
    have c_w5_w_0_0 := c_w5_w_0 0
    conv at c_w5_w_0_0 => rhs; simp [go_sem, *]
    have f_w5_w_0_0 := f_w5_w_0 0
    conv at f_w5_w_0_0 => rhs; simp [go_sem, *]
    have c_w5_w_0_1 := c_w5_w_0 1
    conv at c_w5_w_0_1 => rhs; simp [go_sem, *]
    have f_w5_w_0_1 := f_w5_w_0 1
    conv at f_w5_w_0_1 => rhs; simp [go_sem, *]
    obtain ⟨c_w5_w2_0, f_w5_w2_0⟩ := bk hb_w5 (w2.heap.size) (by first | omega | (simp <;> omega))
    have c_w5_w2_0_0 := c_w5_w2_0 0
    conv at c_w5_w2_0_0 => rhs; simp [go_sem, *]
    have f_w5_w2_0_0 := f_w5_w2_0 0
    conv at f_w5_w2_0_0 => rhs; simp [go_sem, *]
    have c_w5_w2_0_1 := c_w5_w2_0 1
    conv at c_w5_w2_0_1 => rhs; simp [go_sem, *]
    have f_w5_w2_0_1 := f_w5_w2_0 1
    conv at f_w5_w2_0_1 => rhs; simp [go_sem, *]
    obtain ⟨c_w5_w3_0, f_w5_w3_0⟩ := bk hb_w5 (w3.heap.size) (by first | omega | (simp <;> omega))
    have c_w5_w3_0_0 := c_w5_w3_0 0
    conv at c_w5_w3_0_0 => rhs; simp [go_sem, *]
    have f_w5_w3_0_0 := f_w5_w3_0 0
    conv at f_w5_w3_0_0 => rhs; simp [go_sem, *]
    have c_w5_w3_0_1 := c_w5_w3_0 1
    conv at c_w5_w3_0_1 => rhs; simp [go_sem, *]
    have f_w5_w3_0_1 := f_w5_w3_0 1
    conv at f_w5_w3_0_1 => rhs; simp [go_sem, *]
    obtain ⟨c_w5_w4_0, f_w5_w4_0⟩ := bk hb_w5 (w4.heap.size) (by first | omega | (simp <;> omega))
    have c_w5_w4_0_0 := c_w5_w4_0 0
    conv at c_w5_w4_0_0 => rhs; simp [go_sem, *]
    have f_w5_w4_0_0 := f_w5_w4_0 0
    conv at f_w5_w4_0_0 => rhs; simp [go_sem, *]
    have c_w5_w4_0_1 := c_w5_w4_0 1
    conv at c_w5_w4_0_1 => rhs; simp [go_sem, *]
    have f_w5_w4_0_1 := f_w5_w4_0 1
    conv at f_w5_w4_0_1 => rhs; simp [go_sem, *]
    have hB_w5 : Below w.heap.size w w5 := Below.trans (by (repeat (first | exact Below.refl _ _ | assumption | refine Below.drew ?_ | refine Below.alloc ?_ (by first | omega | (simp <;> omega)) _ | refine Below.setCell ?_ (by first | omega | (simp <;> omega)) _))) (hb_w5.mono (by first | omega | (simp <;> omega)))
    clear hb_w5 c_w5_w_0 f_w5_w_0 c_w5_w2_0 f_w5_w2_0 c_w5_w3_0 f_w5_w3_0 c_w5_w4_0 f_w5_w4_0
    try clear c_w4_w_0_0
    try clear f_w4_w_0_0
    try clear c_w4_w_0_1
    try clear f_w4_w_0_1
    try clear c_w4_w2_0_0
    try clear f_w4_w2_0_0
    try clear c_w4_w2_0_1
    try clear f_w4_w2_0_1
    try clear c_w4_w3_0_0
    try clear f_w4_w3_0_0
    try clear c_w4_w3_0_1
    try clear f_w4_w3_0_1
    try clear far_w4_w_0
    try clear far_w4_w2_0
    try clear far_w4_w3_0
    try clear hB_w4
    have far_w5_w_0 := far (show w.heap.size < w5.heap.size by omega)
    have far_w5_w2_0 := far (show w2.heap.size < w5.heap.size by omega)
    have far_w5_w3_0 := far (show w3.heap.size < w5.heap.size by omega)
    have far_w5_w4_0 := far (show w4.heap.size < w5.heap.size by omega)
    go_wp2_with fail
    refine Calls.mono (Q.out _) ?_
    rintro e w6 ⟨rfl, hb_w6⟩
    have hz_w6 := hb_w6.size
    try simp at hz_w6
    obtain ⟨c_w6_w_0, f_w6_w_0⟩ := bk hb_w6 (w.heap.size) (by first | omega | (simp <;> omega))
    have c_w6_w_0_0 := c_w6_w_0 0
    conv at c_w6_w_0_0 => rhs; simp [go_sem, *]
    have f_w6_w_0_0 := f_w6_w_0 0
    conv at f_w6_w_0_0 => rhs; simp [go_sem, *]
    have c_w6_w_0_1 := c_w6_w_0 1
    conv at c_w6_w_0_1 => rhs; simp [go_sem, *]
    have f_w6_w_0_1 := f_w6_w_0 1
    conv at f_w6_w_0_1 => rhs; simp [go_sem, *]
    obtain ⟨c_w6_w2_0, f_w6_w2_0⟩ := bk hb_w6 (w2.heap.size) (by first | omega | (simp <;> omega))
    have c_w6_w2_0_0 := c_w6_w2_0 0
    conv at c_w6_w2_0_0 => rhs; simp [go_sem, *]
    have f_w6_w2_0_0 := f_w6_w2_0 0
    conv at f_w6_w2_0_0 => rhs; simp [go_sem, *]
    have c_w6_w2_0_1 := c_w6_w2_0 1
    conv at c_w6_w2_0_1 => rhs; simp [go_sem, *]
    have f_w6_w2_0_1 := f_w6_w2_0 1
    conv at f_w6_w2_0_1 => rhs; simp [go_sem, *]
    obtain ⟨c_w6_w3_0, f_w6_w3_0⟩ := bk hb_w6 (w3.heap.size) (by first | omega | (simp <;> omega))
    have c_w6_w3_0_0 := c_w6_w3_0 0
    conv at c_w6_w3_0_0 => rhs; simp [go_sem, *]
    have f_w6_w3_0_0 := f_w6_w3_0 0
    conv at f_w6_w3_0_0 => rhs; simp [go_sem, *]
    have c_w6_w3_0_1 := c_w6_w3_0 1
    conv at c_w6_w3_0_1 => rhs; simp [go_sem, *]
    have f_w6_w3_0_1 := f_w6_w3_0 1
    conv at f_w6_w3_0_1 => rhs; simp [go_sem, *]
    obtain ⟨c_w6_w4_0, f_w6_w4_0⟩ := bk hb_w6 (w4.heap.size) (by first | omega | (simp <;> omega))
    have c_w6_w4_0_0 := c_w6_w4_0 0
    conv at c_w6_w4_0_0 => rhs; simp [go_sem, *]
    have f_w6_w4_0_0 := f_w6_w4_0 0
    conv at f_w6_w4_0_0 => rhs; simp [go_sem, *]
    have c_w6_w4_0_1 := c_w6_w4_0 1
    conv at c_w6_w4_0_1 => rhs; simp [go_sem, *]
    have f_w6_w4_0_1 := f_w6_w4_0 1
    conv at f_w6_w4_0_1 => rhs; simp [go_sem, *]
    have hB_w6 : Below w.heap.size w w6 := Below.trans (by (repeat (first | exact Below.refl _ _ | assumption | refine Below.drew ?_ | refine Below.alloc ?_ (by first | omega | (simp <;> omega)) _ | refine Below.setCell ?_ (by first | omega | (simp <;> omega)) _))) (hb_w6.mono (by first | omega | (simp <;> omega)))
    clear hb_w6 c_w6_w_0 f_w6_w_0 c_w6_w2_0 f_w6_w2_0 c_w6_w3_0 f_w6_w3_0 c_w6_w4_0 f_w6_w4_0
    try clear c_w5_w_0_0
    try clear f_w5_w_0_0
    try clear c_w5_w_0_1
    try clear f_w5_w_0_1
    try clear c_w5_w2_0_0
    try clear f_w5_w2_0_0
    try clear c_w5_w2_0_1
    try clear f_w5_w2_0_1
    try clear c_w5_w3_0_0
    try clear f_w5_w3_0_0
    try clear c_w5_w3_0_1
    try clear f_w5_w3_0_1
    try clear c_w5_w4_0_0
    try clear f_w5_w4_0_0
    try clear c_w5_w4_0_1
    try clear f_w5_w4_0_1
    try clear far_w5_w_0
    try clear far_w5_w2_0
    try clear far_w5_w3_0
    try clear far_w5_w4_0
    try clear hB_w5
    have far_w6_w_0 := far (show w.heap.size < w6.heap.size by omega)
    have far_w6_w2_0 := far (show w2.heap.size < w6.heap.size by omega)
    have far_w6_w3_0 := far (show w3.heap.size < w6.heap.size by omega)
    have far_w6_w4_0 := far (show w4.heap.size < w6.heap.size by omega)
    go_wp2_with fail
    refine Calls.mono (Y.out _) ?_
    rintro e w7 ⟨rfl, hb_w7⟩
    have hz_w7 := hb_w7.size
    try simp at hz_w7
    obtain ⟨c_w7_w_0, f_w7_w_0⟩ := bk hb_w7 (w.heap.size) (by first | omega | (simp <;> omega))
    have c_w7_w_0_0 := c_w7_w_0 0
    conv at c_w7_w_0_0 => rhs; simp [go_sem, *]
    have f_w7_w_0_0 := f_w7_w_0 0
    conv at f_w7_w_0_0 => rhs; simp [go_sem, *]
    have c_w7_w_0_1 := c_w7_w_0 1
    conv at c_w7_w_0_1 => rhs; simp [go_sem, *]
    have f_w7_w_0_1 := f_w7_w_0 1
    conv at f_w7_w_0_1 => rhs; simp [go_sem, *]
    obtain ⟨c_w7_w2_0, f_w7_w2_0⟩ := bk hb_w7 (w2.heap.size) (by first | omega | (simp <;> omega))
    have c_w7_w2_0_0 := c_w7_w2_0 0
    conv at c_w7_w2_0_0 => rhs; simp [go_sem, *]
    have f_w7_w2_0_0 := f_w7_w2_0 0
    conv at f_w7_w2_0_0 => rhs; simp [go_sem, *]
    have c_w7_w2_0_1 := c_w7_w2_0 1
    conv at c_w7_w2_0_1 => rhs; simp [go_sem, *]
    have f_w7_w2_0_1 := f_w7_w2_0 1
    conv at f_w7_w2_0_1 => rhs; simp [go_sem, *]
    obtain ⟨c_w7_w3_0, f_w7_w3_0⟩ := bk hb_w7 (w3.heap.size) (by first | omega | (simp <;> omega))
    have c_w7_w3_0_0 := c_w7_w3_0 0
    conv at c_w7_w3_0_0 => rhs; simp [go_sem, *]
    have f_w7_w3_0_0 := f_w7_w3_0 0
    conv at f_w7_w3_0_0 => rhs; simp [go_sem, *]
    have c_w7_w3_0_1 := c_w7_w3_0 1
    conv at c_w7_w3_0_1 => rhs; simp [go_sem, *]
    have f_w7_w3_0_1 := f_w7_w3_0 1
    conv at f_w7_w3_0_1 => rhs; simp [go_sem, *]
    obtain ⟨c_w7_w4_0, f_w7_w4_0⟩ := bk hb_w7 (w4.heap.size) (by first | omega | (simp <;> omega))
    have c_w7_w4_0_0 := c_w7_w4_0 0
    conv at c_w7_w4_0_0 => rhs; simp [go_sem, *]
    have f_w7_w4_0_0 := f_w7_w4_0 0
    conv at f_w7_w4_0_0 => rhs; simp [go_sem, *]
    have c_w7_w4_0_1 := c_w7_w4_0 1
    conv at c_w7_w4_0_1 => rhs; simp [go_sem, *]
    have f_w7_w4_0_1 := f_w7_w4_0 1
    conv at f_w7_w4_0_1 => rhs; simp [go_sem, *]
    obtain ⟨c_w7_w6_0, f_w7_w6_0⟩ := bk hb_w7 (w6.heap.size) (by first | omega | (simp <;> omega))
    have c_w7_w6_0_0 := c_w7_w6_0 0
    conv at c_w7_w6_0_0 => rhs; simp [go_sem, *]
    have f_w7_w6_0_0 := f_w7_w6_0 0
    conv at f_w7_w6_0_0 => rhs; simp [go_sem, *]
    have c_w7_w6_0_1 := c_w7_w6_0 1
    conv at c_w7_w6_0_1 => rhs; simp [go_sem, *]
    have f_w7_w6_0_1 := f_w7_w6_0 1
    conv at f_w7_w6_0_1 => rhs; simp [go_sem, *]
    have hB_w7 : Below w.heap.size w w7 := Below.trans (by (repeat (first | exact Below.refl _ _ | assumption | refine Below.drew ?_ | refine Below.alloc ?_ (by first | omega | (simp <;> omega)) _ | refine Below.setCell ?_ (by first | omega | (simp <;> omega)) _))) (hb_w7.mono (by first | omega | (simp <;> omega)))
    clear hb_w7 c_w7_w_0 f_w7_w_0 c_w7_w2_0 f_w7_w2_0 c_w7_w3_0 f_w7_w3_0 c_w7_w4_0 f_w7_w4_0 c_w7_w6_0 f_w7_w6_0
    try clear c_w6_w_0_0
    try clear f_w6_w_0_0
    try clear c_w6_w_0_1
    try clear f_w6_w_0_1
    try clear c_w6_w2_0_0
    try clear f_w6_w2_0_0
    try clear c_w6_w2_0_1
    try clear f_w6_w2_0_1
    try clear c_w6_w3_0_0
    try clear f_w6_w3_0_0
    try clear c_w6_w3_0_1
    try clear f_w6_w3_0_1
    try clear c_w6_w4_0_0
    try clear f_w6_w4_0_0
    try clear c_w6_w4_0_1
    try clear f_w6_w4_0_1
    try clear far_w6_w_0
    try clear far_w6_w2_0
    try clear far_w6_w3_0
    try clear far_w6_w4_0
    try clear hB_w6
    have far_w7_w_0 := far (show w.heap.size < w7.heap.size by omega)
    have far_w7_w2_0 := far (show w2.heap.size < w7.heap.size by omega)
    have far_w7_w3_0 := far (show w3.heap.size < w7.heap.size by omega)
    have far_w7_w4_0 := far (show w4.heap.size < w7.heap.size by omega)
    have far_w7_w6_0 := far (show w6.heap.size < w7.heap.size by omega)
    go_wp2_with fail
    refine Calls.mono (alive_any _) ?_
    rintro e w8 ⟨rfl, hb_w8⟩
    have hz_w8 := hb_w8.size
    try simp at hz_w8
    obtain ⟨c_w8_w_0, f_w8_w_0⟩ := bk hb_w8 (w.heap.size) (by first | omega | (simp <;> omega))
    have c_w8_w_0_0 := c_w8_w_0 0
    conv at c_w8_w_0_0 => rhs; simp [go_sem, *]
    have f_w8_w_0_0 := f_w8_w_0 0
    conv at f_w8_w_0_0 => rhs; simp [go_sem, *]
    have c_w8_w_0_1 := c_w8_w_0 1
    conv at c_w8_w_0_1 => rhs; simp [go_sem, *]
    have f_w8_w_0_1 := f_w8_w_0 1
    conv at f_w8_w_0_1 => rhs; simp [go_sem, *]
    obtain ⟨c_w8_w2_0, f_w8_w2_0⟩ := bk hb_w8 (w2.heap.size) (by first | omega | (simp <;> omega))
    have c_w8_w2_0_0 := c_w8_w2_0 0
    conv at c_w8_w2_0_0 => rhs; simp [go_sem, *]
    have f_w8_w2_0_0 := f_w8_w2_0 0
    conv at f_w8_w2_0_0 => rhs; simp [go_sem, *]
    have c_w8_w2_0_1 := c_w8_w2_0 1
    conv at c_w8_w2_0_1 => rhs; simp [go_sem, *]
    have f_w8_w2_0_1 := f_w8_w2_0 1
    conv at f_w8_w2_0_1 => rhs; simp [go_sem, *]
    obtain ⟨c_w8_w3_0, f_w8_w3_0⟩ := bk hb_w8 (w3.heap.size) (by first | omega | (simp <;> omega))
    have c_w8_w3_0_0 := c_w8_w3_0 0
    conv at c_w8_w3_0_0 => rhs; simp [go_sem, *]
    have f_w8_w3_0_0 := f_w8_w3_0 0
    conv at f_w8_w3_0_0 => rhs; simp [go_sem, *]
    have c_w8_w3_0_1 := c_w8_w3_0 1
    conv at c_w8_w3_0_1 => rhs; simp [go_sem, *]
    have f_w8_w3_0_1 := f_w8_w3_0 1
    conv at f_w8_w3_0_1 => rhs; simp [go_sem, *]
    obtain ⟨c_w8_w4_0, f_w8_w4_0⟩ := bk hb_w8 (w4.heap.size) (by first | omega | (simp <;> omega))
    have c_w8_w4_0_0 := c_w8_w4_0 0
    conv at c_w8_w4_0_0 => rhs; simp [go_sem, *]
    have f_w8_w4_0_0 := f_w8_w4_0 0
    conv at f_w8_w4_0_0 => rhs; simp [go_sem, *]
    have c_w8_w4_0_1 := c_w8_w4_0 1
    conv at c_w8_w4_0_1 => rhs; simp [go_sem, *]
    have f_w8_w4_0_1 := f_w8_w4_0 1
    conv at f_w8_w4_0_1 => rhs; simp [go_sem, *]
    obtain ⟨c_w8_w6_0, f_w8_w6_0⟩ := bk hb_w8 (w6.heap.size) (by first | omega | (simp <;> omega))
    have c_w8_w6_0_0 := c_w8_w6_0 0
    conv at c_w8_w6_0_0 => rhs; simp [go_sem, *]
    have f_w8_w6_0_0 := f_w8_w6_0 0
    conv at f_w8_w6_0_0 => rhs; simp [go_sem, *]
    have c_w8_w6_0_1 := c_w8_w6_0 1
    conv at c_w8_w6_0_1 => rhs; simp [go_sem, *]
    have f_w8_w6_0_1 := f_w8_w6_0 1
    conv at f_w8_w6_0_1 => rhs; simp [go_sem, *]
    obtain ⟨c_w8_w7_0, f_w8_w7_0⟩ := bk hb_w8 (w7.heap.size) (by first | omega | (simp <;> omega))
    have c_w8_w7_0_0 := c_w8_w7_0 0
    conv at c_w8_w7_0_0 => rhs; simp [go_sem, *]
    have f_w8_w7_0_0 := f_w8_w7_0 0
    conv at f_w8_w7_0_0 => rhs; simp [go_sem, *]
    have c_w8_w7_0_1 := c_w8_w7_0 1
    conv at c_w8_w7_0_1 => rhs; simp [go_sem, *]
    have f_w8_w7_0_1 := f_w8_w7_0 1
    conv at f_w8_w7_0_1 => rhs; simp [go_sem, *]
    have hB_w8 : Below w.heap.size w w8 := Below.trans (by (repeat (first | exact Below.refl _ _ | assumption | refine Below.drew ?_ | refine Below.alloc ?_ (by first | omega | (simp <;> omega)) _ | refine Below.setCell ?_ (by first | omega | (simp <;> omega)) _))) (hb_w8.mono (by first | omega | (simp <;> omega)))
    clear hb_w8 c_w8_w_0 f_w8_w_0 c_w8_w2_0 f_w8_w2_0 c_w8_w3_0 f_w8_w3_0 c_w8_w4_0 f_w8_w4_0 c_w8_w6_0 f_w8_w6_0 c_w8_w7_0 f_w8_w7_0
    try clear c_w7_w_0_0
    try clear f_w7_w_0_0
    try clear c_w7_w_0_1
    try clear f_w7_w_0_1
    try clear c_w7_w2_0_0
    try clear f_w7_w2_0_0
    try clear c_w7_w2_0_1
    try clear f_w7_w2_0_1
    try clear c_w7_w3_0_0
    try clear f_w7_w3_0_0
    try clear c_w7_w3_0_1
    try clear f_w7_w3_0_1
    try clear c_w7_w4_0_0
    try clear f_w7_w4_0_0
    try clear c_w7_w4_0_1
    try clear f_w7_w4_0_1
    try clear c_w7_w6_0_0
    try clear f_w7_w6_0_0
    try clear c_w7_w6_0_1
    try clear f_w7_w6_0_1
    try clear far_w7_w_0
    try clear far_w7_w2_0
    try clear far_w7_w3_0
    try clear far_w7_w4_0
    try clear far_w7_w6_0
    try clear hB_w7
    have far_w8_w_0 := far (show w.heap.size < w8.heap.size by omega)
    have far_w8_w2_0 := far (show w2.heap.size < w8.heap.size by omega)
    have far_w8_w3_0 := far (show w3.heap.size < w8.heap.size by omega)
    have far_w8_w4_0 := far (show w4.heap.size < w8.heap.size by omega)
    have far_w8_w6_0 := far (show w6.heap.size < w8.heap.size by omega)
    have far_w8_w7_0 := far (show w7.heap.size < w8.heap.size by omega)
    go_wp2
    go_wp2
    go_ret
    exact ⟨rfl, by (repeat (first | exact Below.refl _ _ | assumption | refine Below.drew ?_ | refine Below.alloc ?_ (by first | omega | (simp <;> omega)) _ | refine Below.setCell ?_ (by first | omega | (simp <;> omega)) _))⟩

set_option maxHeartbeats 1600000 in
set_option maxRecDepth 100000 in
theorem calls_yn {l0 t0 l s a z x y u : List UInt8} {c n : Int} {k K : Nat} (w : World) (hl0 : l0.length ≤ maxLen) (ht0 : t0.length ≤ maxLen) (hl : l0.take 70000 = l) (hk : min (t0.length : Int) 1000 = k) (hk1 : k ≤ t0.length) (hs : t0.take k = s) (hsl : s.length = k)
    (hr : rightL l c = true) (h : 0 ≤ n)
    (P : ∀ w, Calls Try.prog 14 #[.agg #[.string (S l), .int .i64 c], .string (S s)] w fun e w' => e = .returned (.tuple #[.agg #[.string (S a), .int .i64 c], .int .i64 K, .int .i64 0]) ∧ Below w.heap.size w w')
    (Q : ∀ w, Calls Try.prog 17 #[.agg #[.string (S l), .int .i64 c], .string (S s)] w fun e w' => e = .returned (.tuple #[.agg #[.string (S a), .int .i64 c], .int .i64 K]) ∧ Below w.heap.size w w')
    (T : ∀ w, Calls Try.prog 15 #[.agg #[.string (S l), .int .i64 c], .int .i64 n] w fun e w' => e = .returned (.tuple #[.agg #[.string (S y), .int .i64 c], .string (S u), .int .i64 0]) ∧ Below w.heap.size w w')
    (U : 0 ≤ n → ∀ w, Calls Try.prog 19 #[.agg #[.string (S l), .int .i64 c], .int .i64 n] w fun e w' => e = .returned (.tuple #[.agg #[.string (S y), .int .i64 c], .string (S u)]) ∧ Below w.heap.size w w')
    (X : ∀ w, Calls Try.prog 16 #[.agg #[.string (S l), .int .i64 c]] w fun e w' => e = .returned (.tuple #[.agg #[.string (S z), .int .i64 c], .string (S []), .int .i64 3]) ∧ Below w.heap.size w w')
    (Y : ∀ w, Calls Try.prog 18 #[.agg #[.string (S l), .int .i64 c]] w fun e w' => e = .returned (.tuple #[.agg #[.string (S z), .int .i64 c], .string (S []), .bool false]) ∧ Below w.heap.size w w') :
    Calls Try.prog 7 #[.agg #[.string (S l0), .int .i64 c], .string (S t0), .int .i64 n] w fun e w' => e = .returned (.bool true) ∧ Below w.heap.size w w' := by
  have HL := Lib.hid hl
  have HR := Lib.hid hr
  have HF := Lib.hid hl0
  have P := Lib.hid P
  have Q := Lib.hid Q
  have T := Lib.hid T
  have U := Lib.hid U
  have X := Lib.hid X
  have Y := Lib.hid Y
  have H := Lib.hid h
  clear hl hr hl0
  unfold maxLen at ht0
  go_enter Try.func7, Try.ntmps7
  go_upto_region 1 with fail
  go_cut [1] (fun v wx => v = .string (S s) ∧ wx.cell? ⟨w.heap.size, 0, none⟩ = some (.string (S l)) ∧ wx.cell? ⟨w.heap.size, 1, none⟩ = some (.int .i64 c) ∧ w.heap.size < wx.heap.size ∧ Below w.heap.size w wx)
  case first =>
    as_aux_lemma =>
      go_region_with (go_at_call 8; refine (few_S HF.out HL.out _).mono ?_; rintro e w1 ⟨rfl, hb⟩; obtain ⟨hcc, hff⟩ := bk hb (w.heap.size) (by simp); have hz := hb.size; simp at hz)
      all_goals (go_wp2_with fail; go_meet; exact ⟨rfl, by simp [go_sem, *], by simp [go_sem, *], by simp <;> omega, by refine Below.setCell (Below.setCell (Below.trans ?_ (hb.mono (by simp <;> omega))) (by simp) _) (by simp) _; (repeat (first | exact Below.refl _ _ | assumption | refine Below.drew ?_ | refine Below.alloc ?_ (by first | omega | (simp <;> omega)) _ | refine Below.setCell ?_ (by first | omega | (simp <;> omega)) _))⟩)
  case rest =>
    obtain ⟨rfl, hc0, hc1, hlt, hB⟩ := hcut
    have hfar := far hlt
    go_wp2_with fail
    refine Calls.mono (P.out _) ?_
    rintro e w2 ⟨rfl, hb_w2⟩
    have hz_w2 := hb_w2.size
    try simp at hz_w2
    obtain ⟨c_w2_w_0, f_w2_w_0⟩ := bk hb_w2 (w.heap.size) (by first | omega | (simp <;> omega))
    have c_w2_w_0_0 := c_w2_w_0 0
    conv at c_w2_w_0_0 => rhs; simp [go_sem, *]
    have f_w2_w_0_0 := f_w2_w_0 0
    conv at f_w2_w_0_0 => rhs; simp [go_sem, *]
    have c_w2_w_0_1 := c_w2_w_0 1
    conv at c_w2_w_0_1 => rhs; simp [go_sem, *]
    have f_w2_w_0_1 := f_w2_w_0 1
    conv at f_w2_w_0_1 => rhs; simp [go_sem, *]
    have hB_w2 : Below w.heap.size w w2 := Below.trans (by (repeat (first | exact Below.refl _ _ | assumption | refine Below.drew ?_ | refine Below.alloc ?_ (by first | omega | (simp <;> omega)) _ | refine Below.setCell ?_ (by first | omega | (simp <;> omega)) _))) (hb_w2.mono (by first | omega | (simp <;> omega)))
    clear hb_w2 c_w2_w_0 f_w2_w_0
    have far_w2_w_0 := far (show w.heap.size < w2.heap.size by omega)
    go_wp2_with fail
    refine Calls.mono (T.out _) ?_
    rintro e w3 ⟨rfl, hb_w3⟩
    have hz_w3 := hb_w3.size
    try simp at hz_w3
    obtain ⟨c_w3_w_0, f_w3_w_0⟩ := bk hb_w3 (w.heap.size) (by first | omega | (simp <;> omega))
    have c_w3_w_0_0 := c_w3_w_0 0
    conv at c_w3_w_0_0 => rhs; simp [go_sem, *]
    have f_w3_w_0_0 := f_w3_w_0 0
    conv at f_w3_w_0_0 => rhs; simp [go_sem, *]
    have c_w3_w_0_1 := c_w3_w_0 1
    conv at c_w3_w_0_1 => rhs; simp [go_sem, *]
    have f_w3_w_0_1 := f_w3_w_0 1
    conv at f_w3_w_0_1 => rhs; simp [go_sem, *]
    obtain ⟨c_w3_w2_0, f_w3_w2_0⟩ := bk hb_w3 (w2.heap.size) (by first | omega | (simp <;> omega))
    have c_w3_w2_0_0 := c_w3_w2_0 0
    conv at c_w3_w2_0_0 => rhs; simp [go_sem, *]
    have f_w3_w2_0_0 := f_w3_w2_0 0
    conv at f_w3_w2_0_0 => rhs; simp [go_sem, *]
    have c_w3_w2_0_1 := c_w3_w2_0 1
    conv at c_w3_w2_0_1 => rhs; simp [go_sem, *]
    have f_w3_w2_0_1 := f_w3_w2_0 1
    conv at f_w3_w2_0_1 => rhs; simp [go_sem, *]
    have hB_w3 : Below w.heap.size w w3 := Below.trans (by (repeat (first | exact Below.refl _ _ | assumption | refine Below.drew ?_ | refine Below.alloc ?_ (by first | omega | (simp <;> omega)) _ | refine Below.setCell ?_ (by first | omega | (simp <;> omega)) _))) (hb_w3.mono (by first | omega | (simp <;> omega)))
    clear hb_w3 c_w3_w_0 f_w3_w_0 c_w3_w2_0 f_w3_w2_0
    try clear c_w2_w_0_0
    try clear f_w2_w_0_0
    try clear c_w2_w_0_1
    try clear f_w2_w_0_1
    try clear far_w2_w_0
    try clear hB_w2
    have far_w3_w_0 := far (show w.heap.size < w3.heap.size by omega)
    have far_w3_w2_0 := far (show w2.heap.size < w3.heap.size by omega)
    go_wp2_with fail
    refine Calls.mono (X.out _) ?_
    rintro e w4 ⟨rfl, hb_w4⟩
    have hz_w4 := hb_w4.size
    try simp at hz_w4
    obtain ⟨c_w4_w_0, f_w4_w_0⟩ := bk hb_w4 (w.heap.size) (by first | omega | (simp <;> omega))
    have c_w4_w_0_0 := c_w4_w_0 0
    conv at c_w4_w_0_0 => rhs; simp [go_sem, *]
    have f_w4_w_0_0 := f_w4_w_0 0
    conv at f_w4_w_0_0 => rhs; simp [go_sem, *]
    have c_w4_w_0_1 := c_w4_w_0 1
    conv at c_w4_w_0_1 => rhs; simp [go_sem, *]
    have f_w4_w_0_1 := f_w4_w_0 1
    conv at f_w4_w_0_1 => rhs; simp [go_sem, *]
    obtain ⟨c_w4_w2_0, f_w4_w2_0⟩ := bk hb_w4 (w2.heap.size) (by first | omega | (simp <;> omega))
    have c_w4_w2_0_0 := c_w4_w2_0 0
    conv at c_w4_w2_0_0 => rhs; simp [go_sem, *]
    have f_w4_w2_0_0 := f_w4_w2_0 0
    conv at f_w4_w2_0_0 => rhs; simp [go_sem, *]
    have c_w4_w2_0_1 := c_w4_w2_0 1
    conv at c_w4_w2_0_1 => rhs; simp [go_sem, *]
    have f_w4_w2_0_1 := f_w4_w2_0 1
    conv at f_w4_w2_0_1 => rhs; simp [go_sem, *]
    obtain ⟨c_w4_w3_0, f_w4_w3_0⟩ := bk hb_w4 (w3.heap.size) (by first | omega | (simp <;> omega))
    have c_w4_w3_0_0 := c_w4_w3_0 0
    conv at c_w4_w3_0_0 => rhs; simp [go_sem, *]
    have f_w4_w3_0_0 := f_w4_w3_0 0
    conv at f_w4_w3_0_0 => rhs; simp [go_sem, *]
    have c_w4_w3_0_1 := c_w4_w3_0 1
    conv at c_w4_w3_0_1 => rhs; simp [go_sem, *]
    have f_w4_w3_0_1 := f_w4_w3_0 1
    conv at f_w4_w3_0_1 => rhs; simp [go_sem, *]
    have hB_w4 : Below w.heap.size w w4 := Below.trans (by (repeat (first | exact Below.refl _ _ | assumption | refine Below.drew ?_ | refine Below.alloc ?_ (by first | omega | (simp <;> omega)) _ | refine Below.setCell ?_ (by first | omega | (simp <;> omega)) _))) (hb_w4.mono (by first | omega | (simp <;> omega)))
    clear hb_w4 c_w4_w_0 f_w4_w_0 c_w4_w2_0 f_w4_w2_0 c_w4_w3_0 f_w4_w3_0
    try clear c_w3_w_0_0
    try clear f_w3_w_0_0
    try clear c_w3_w_0_1
    try clear f_w3_w_0_1
    try clear c_w3_w2_0_0
    try clear f_w3_w2_0_0
    try clear c_w3_w2_0_1
    try clear f_w3_w2_0_1
    try clear far_w3_w_0
    try clear far_w3_w2_0
    try clear hB_w3
    have far_w4_w_0 := far (show w.heap.size < w4.heap.size by omega)
    have far_w4_w2_0 := far (show w2.heap.size < w4.heap.size by omega)
    have far_w4_w3_0 := far (show w3.heap.size < w4.heap.size by omega)
    go_wp2_with fail
    refine Calls.mono (ref_right_S HR.out _) ?_
    rintro e w5 ⟨rfl, hb_w5⟩
    have hz_w5 := hb_w5.size
    try simp at hz_w5
    obtain ⟨c_w5_w_0, f_w5_w_0⟩ := bk hb_w5 (w.heap.size) (by first | omega | (simp <;> omega))
    have c_w5_w_0_0 := c_w5_w_0 0
    conv at c_w5_w_0_0 => rhs; simp [go_sem, *]
    have f_w5_w_0_0 := f_w5_w_0 0
    conv at f_w5_w_0_0 => rhs; simp [go_sem, *]
    have c_w5_w_0_1 := c_w5_w_0 1
    conv at c_w5_w_0_1 => rhs; simp [go_sem, *]
    have f_w5_w_0_1 := f_w5_w_0 1
    conv at f_w5_w_0_1 => rhs; simp [go_sem, *]
    obtain ⟨c_w5_w2_0, f_w5_w2_0⟩ := bk hb_w5 (w2.heap.size) (by first | omega | (simp <;> omega))
    have c_w5_w2_0_0 := c_w5_w2_0 0
    conv at c_w5_w2_0_0 => rhs; simp [go_sem, *]
    have f_w5_w2_0_0 := f_w5_w2_0 0
    conv at f_w5_w2_0_0 => rhs; simp [go_sem, *]
    have c_w5_w2_0_1 := c_w5_w2_0 1
    conv at c_w5_w2_0_1 => rhs; simp [go_sem, *]
    have f_w5_w2_0_1 := f_w5_w2_0 1
    conv at f_w5_w2_0_1 => rhs; simp [go_sem, *]
    obtain ⟨c_w5_w3_0, f_w5_w3_0⟩ := bk hb_w5 (w3.heap.size) (by first | omega | (simp <;> omega))
    have c_w5_w3_0_0 := c_w5_w3_0 0
    conv at c_w5_w3_0_0 => rhs; simp [go_sem, *]
    have f_w5_w3_0_0 := f_w5_w3_0 0
    conv at f_w5_w3_0_0 => rhs; simp [go_sem, *]
    have c_w5_w3_0_1 := c_w5_w3_0 1
    conv at c_w5_w3_0_1 => rhs; simp [go_sem, *]
    have f_w5_w3_0_1 := f_w5_w3_0 1
    conv at f_w5_w3_0_1 => rhs; simp [go_sem, *]
    obtain ⟨c_w5_w4_0, f_w5_w4_0⟩ := bk hb_w5 (w4.heap.size) (by first | omega | (simp <;> omega))
    have c_w5_w4_0_0 := c_w5_w4_0 0
    conv at c_w5_w4_0_0 => rhs; simp [go_sem, *]
    have f_w5_w4_0_0 := f_w5_w4_0 0
    conv at f_w5_w4_0_0 => rhs; simp [go_sem, *]
    have c_w5_w4_0_1 := c_w5_w4_0 1
    conv at c_w5_w4_0_1 => rhs; simp [go_sem, *]
    have f_w5_w4_0_1 := f_w5_w4_0 1
    conv at f_w5_w4_0_1 => rhs; simp [go_sem, *]
    have hB_w5 : Below w.heap.size w w5 := Below.trans (by (repeat (first | exact Below.refl _ _ | assumption | refine Below.drew ?_ | refine Below.alloc ?_ (by first | omega | (simp <;> omega)) _ | refine Below.setCell ?_ (by first | omega | (simp <;> omega)) _))) (hb_w5.mono (by first | omega | (simp <;> omega)))
    clear hb_w5 c_w5_w_0 f_w5_w_0 c_w5_w2_0 f_w5_w2_0 c_w5_w3_0 f_w5_w3_0 c_w5_w4_0 f_w5_w4_0
    try clear c_w4_w_0_0
    try clear f_w4_w_0_0
    try clear c_w4_w_0_1
    try clear f_w4_w_0_1
    try clear c_w4_w2_0_0
    try clear f_w4_w2_0_0
    try clear c_w4_w2_0_1
    try clear f_w4_w2_0_1
    try clear c_w4_w3_0_0
    try clear f_w4_w3_0_0
    try clear c_w4_w3_0_1
    try clear f_w4_w3_0_1
    try clear far_w4_w_0
    try clear far_w4_w2_0
    try clear far_w4_w3_0
    try clear hB_w4
    have far_w5_w_0 := far (show w.heap.size < w5.heap.size by omega)
    have far_w5_w2_0 := far (show w2.heap.size < w5.heap.size by omega)
    have far_w5_w3_0 := far (show w3.heap.size < w5.heap.size by omega)
    have far_w5_w4_0 := far (show w4.heap.size < w5.heap.size by omega)
    go_wp2_with fail
    refine Calls.mono (Q.out _) ?_
    rintro e w6 ⟨rfl, hb_w6⟩
    have hz_w6 := hb_w6.size
    try simp at hz_w6
    obtain ⟨c_w6_w_0, f_w6_w_0⟩ := bk hb_w6 (w.heap.size) (by first | omega | (simp <;> omega))
    have c_w6_w_0_0 := c_w6_w_0 0
    conv at c_w6_w_0_0 => rhs; simp [go_sem, *]
    have f_w6_w_0_0 := f_w6_w_0 0
    conv at f_w6_w_0_0 => rhs; simp [go_sem, *]
    have c_w6_w_0_1 := c_w6_w_0 1
    conv at c_w6_w_0_1 => rhs; simp [go_sem, *]
    have f_w6_w_0_1 := f_w6_w_0 1
    conv at f_w6_w_0_1 => rhs; simp [go_sem, *]
    obtain ⟨c_w6_w2_0, f_w6_w2_0⟩ := bk hb_w6 (w2.heap.size) (by first | omega | (simp <;> omega))
    have c_w6_w2_0_0 := c_w6_w2_0 0
    conv at c_w6_w2_0_0 => rhs; simp [go_sem, *]
    have f_w6_w2_0_0 := f_w6_w2_0 0
    conv at f_w6_w2_0_0 => rhs; simp [go_sem, *]
    have c_w6_w2_0_1 := c_w6_w2_0 1
    conv at c_w6_w2_0_1 => rhs; simp [go_sem, *]
    have f_w6_w2_0_1 := f_w6_w2_0 1
    conv at f_w6_w2_0_1 => rhs; simp [go_sem, *]
    obtain ⟨c_w6_w3_0, f_w6_w3_0⟩ := bk hb_w6 (w3.heap.size) (by first | omega | (simp <;> omega))
    have c_w6_w3_0_0 := c_w6_w3_0 0
    conv at c_w6_w3_0_0 => rhs; simp [go_sem, *]
    have f_w6_w3_0_0 := f_w6_w3_0 0
    conv at f_w6_w3_0_0 => rhs; simp [go_sem, *]
    have c_w6_w3_0_1 := c_w6_w3_0 1
    conv at c_w6_w3_0_1 => rhs; simp [go_sem, *]
    have f_w6_w3_0_1 := f_w6_w3_0 1
    conv at f_w6_w3_0_1 => rhs; simp [go_sem, *]
    obtain ⟨c_w6_w4_0, f_w6_w4_0⟩ := bk hb_w6 (w4.heap.size) (by first | omega | (simp <;> omega))
    have c_w6_w4_0_0 := c_w6_w4_0 0
    conv at c_w6_w4_0_0 => rhs; simp [go_sem, *]
    have f_w6_w4_0_0 := f_w6_w4_0 0
    conv at f_w6_w4_0_0 => rhs; simp [go_sem, *]
    have c_w6_w4_0_1 := c_w6_w4_0 1
    conv at c_w6_w4_0_1 => rhs; simp [go_sem, *]
    have f_w6_w4_0_1 := f_w6_w4_0 1
    conv at f_w6_w4_0_1 => rhs; simp [go_sem, *]
    have hB_w6 : Below w.heap.size w w6 := Below.trans (by (repeat (first | exact Below.refl _ _ | assumption | refine Below.drew ?_ | refine Below.alloc ?_ (by first | omega | (simp <;> omega)) _ | refine Below.setCell ?_ (by first | omega | (simp <;> omega)) _))) (hb_w6.mono (by first | omega | (simp <;> omega)))
    clear hb_w6 c_w6_w_0 f_w6_w_0 c_w6_w2_0 f_w6_w2_0 c_w6_w3_0 f_w6_w3_0 c_w6_w4_0 f_w6_w4_0
    try clear c_w5_w_0_0
    try clear f_w5_w_0_0
    try clear c_w5_w_0_1
    try clear f_w5_w_0_1
    try clear c_w5_w2_0_0
    try clear f_w5_w2_0_0
    try clear c_w5_w2_0_1
    try clear f_w5_w2_0_1
    try clear c_w5_w3_0_0
    try clear f_w5_w3_0_0
    try clear c_w5_w3_0_1
    try clear f_w5_w3_0_1
    try clear c_w5_w4_0_0
    try clear f_w5_w4_0_0
    try clear c_w5_w4_0_1
    try clear f_w5_w4_0_1
    try clear far_w5_w_0
    try clear far_w5_w2_0
    try clear far_w5_w3_0
    try clear far_w5_w4_0
    try clear hB_w5
    have far_w6_w_0 := far (show w.heap.size < w6.heap.size by omega)
    have far_w6_w2_0 := far (show w2.heap.size < w6.heap.size by omega)
    have far_w6_w3_0 := far (show w3.heap.size < w6.heap.size by omega)
    have far_w6_w4_0 := far (show w4.heap.size < w6.heap.size by omega)
    go_wp2_with fail
    refine Calls.mono (Y.out _) ?_
    rintro e w7 ⟨rfl, hb_w7⟩
    have hz_w7 := hb_w7.size
    try simp at hz_w7
    obtain ⟨c_w7_w_0, f_w7_w_0⟩ := bk hb_w7 (w.heap.size) (by first | omega | (simp <;> omega))
    have c_w7_w_0_0 := c_w7_w_0 0
    conv at c_w7_w_0_0 => rhs; simp [go_sem, *]
    have f_w7_w_0_0 := f_w7_w_0 0
    conv at f_w7_w_0_0 => rhs; simp [go_sem, *]
    have c_w7_w_0_1 := c_w7_w_0 1
    conv at c_w7_w_0_1 => rhs; simp [go_sem, *]
    have f_w7_w_0_1 := f_w7_w_0 1
    conv at f_w7_w_0_1 => rhs; simp [go_sem, *]
    obtain ⟨c_w7_w2_0, f_w7_w2_0⟩ := bk hb_w7 (w2.heap.size) (by first | omega | (simp <;> omega))
    have c_w7_w2_0_0 := c_w7_w2_0 0
    conv at c_w7_w2_0_0 => rhs; simp [go_sem, *]
    have f_w7_w2_0_0 := f_w7_w2_0 0
    conv at f_w7_w2_0_0 => rhs; simp [go_sem, *]
    have c_w7_w2_0_1 := c_w7_w2_0 1
    conv at c_w7_w2_0_1 => rhs; simp [go_sem, *]
    have f_w7_w2_0_1 := f_w7_w2_0 1
    conv at f_w7_w2_0_1 => rhs; simp [go_sem, *]
    obtain ⟨c_w7_w3_0, f_w7_w3_0⟩ := bk hb_w7 (w3.heap.size) (by first | omega | (simp <;> omega))
    have c_w7_w3_0_0 := c_w7_w3_0 0
    conv at c_w7_w3_0_0 => rhs; simp [go_sem, *]
    have f_w7_w3_0_0 := f_w7_w3_0 0
    conv at f_w7_w3_0_0 => rhs; simp [go_sem, *]
    have c_w7_w3_0_1 := c_w7_w3_0 1
    conv at c_w7_w3_0_1 => rhs; simp [go_sem, *]
    have f_w7_w3_0_1 := f_w7_w3_0 1
    conv at f_w7_w3_0_1 => rhs; simp [go_sem, *]
    obtain ⟨c_w7_w4_0, f_w7_w4_0⟩ := bk hb_w7 (w4.heap.size) (by first | omega | (simp <;> omega))
    have c_w7_w4_0_0 := c_w7_w4_0 0
    conv at c_w7_w4_0_0 => rhs; simp [go_sem, *]
    have f_w7_w4_0_0 := f_w7_w4_0 0
    conv at f_w7_w4_0_0 => rhs; simp [go_sem, *]
    have c_w7_w4_0_1 := c_w7_w4_0 1
    conv at c_w7_w4_0_1 => rhs; simp [go_sem, *]
    have f_w7_w4_0_1 := f_w7_w4_0 1
    conv at f_w7_w4_0_1 => rhs; simp [go_sem, *]
    obtain ⟨c_w7_w6_0, f_w7_w6_0⟩ := bk hb_w7 (w6.heap.size) (by first | omega | (simp <;> omega))
    have c_w7_w6_0_0 := c_w7_w6_0 0
    conv at c_w7_w6_0_0 => rhs; simp [go_sem, *]
    have f_w7_w6_0_0 := f_w7_w6_0 0
    conv at f_w7_w6_0_0 => rhs; simp [go_sem, *]
    have c_w7_w6_0_1 := c_w7_w6_0 1
    conv at c_w7_w6_0_1 => rhs; simp [go_sem, *]
    have f_w7_w6_0_1 := f_w7_w6_0 1
    conv at f_w7_w6_0_1 => rhs; simp [go_sem, *]
    have hB_w7 : Below w.heap.size w w7 := Below.trans (by (repeat (first | exact Below.refl _ _ | assumption | refine Below.drew ?_ | refine Below.alloc ?_ (by first | omega | (simp <;> omega)) _ | refine Below.setCell ?_ (by first | omega | (simp <;> omega)) _))) (hb_w7.mono (by first | omega | (simp <;> omega)))
    clear hb_w7 c_w7_w_0 f_w7_w_0 c_w7_w2_0 f_w7_w2_0 c_w7_w3_0 f_w7_w3_0 c_w7_w4_0 f_w7_w4_0 c_w7_w6_0 f_w7_w6_0
    try clear c_w6_w_0_0
    try clear f_w6_w_0_0
    try clear c_w6_w_0_1
    try clear f_w6_w_0_1
    try clear c_w6_w2_0_0
    try clear f_w6_w2_0_0
    try clear c_w6_w2_0_1
    try clear f_w6_w2_0_1
    try clear c_w6_w3_0_0
    try clear f_w6_w3_0_0
    try clear c_w6_w3_0_1
    try clear f_w6_w3_0_1
    try clear c_w6_w4_0_0
    try clear f_w6_w4_0_0
    try clear c_w6_w4_0_1
    try clear f_w6_w4_0_1
    try clear far_w6_w_0
    try clear far_w6_w2_0
    try clear far_w6_w3_0
    try clear far_w6_w4_0
    try clear hB_w6
    have far_w7_w_0 := far (show w.heap.size < w7.heap.size by omega)
    have far_w7_w2_0 := far (show w2.heap.size < w7.heap.size by omega)
    have far_w7_w3_0 := far (show w3.heap.size < w7.heap.size by omega)
    have far_w7_w4_0 := far (show w4.heap.size < w7.heap.size by omega)
    have far_w7_w6_0 := far (show w6.heap.size < w7.heap.size by omega)
    go_wp2_with fail
    refine Calls.mono (alive_any _) ?_
    rintro e w8 ⟨rfl, hb_w8⟩
    have hz_w8 := hb_w8.size
    try simp at hz_w8
    obtain ⟨c_w8_w_0, f_w8_w_0⟩ := bk hb_w8 (w.heap.size) (by first | omega | (simp <;> omega))
    have c_w8_w_0_0 := c_w8_w_0 0
    conv at c_w8_w_0_0 => rhs; simp [go_sem, *]
    have f_w8_w_0_0 := f_w8_w_0 0
    conv at f_w8_w_0_0 => rhs; simp [go_sem, *]
    have c_w8_w_0_1 := c_w8_w_0 1
    conv at c_w8_w_0_1 => rhs; simp [go_sem, *]
    have f_w8_w_0_1 := f_w8_w_0 1
    conv at f_w8_w_0_1 => rhs; simp [go_sem, *]
    obtain ⟨c_w8_w2_0, f_w8_w2_0⟩ := bk hb_w8 (w2.heap.size) (by first | omega | (simp <;> omega))
    have c_w8_w2_0_0 := c_w8_w2_0 0
    conv at c_w8_w2_0_0 => rhs; simp [go_sem, *]
    have f_w8_w2_0_0 := f_w8_w2_0 0
    conv at f_w8_w2_0_0 => rhs; simp [go_sem, *]
    have c_w8_w2_0_1 := c_w8_w2_0 1
    conv at c_w8_w2_0_1 => rhs; simp [go_sem, *]
    have f_w8_w2_0_1 := f_w8_w2_0 1
    conv at f_w8_w2_0_1 => rhs; simp [go_sem, *]
    obtain ⟨c_w8_w3_0, f_w8_w3_0⟩ := bk hb_w8 (w3.heap.size) (by first | omega | (simp <;> omega))
    have c_w8_w3_0_0 := c_w8_w3_0 0
    conv at c_w8_w3_0_0 => rhs; simp [go_sem, *]
    have f_w8_w3_0_0 := f_w8_w3_0 0
    conv at f_w8_w3_0_0 => rhs; simp [go_sem, *]
    have c_w8_w3_0_1 := c_w8_w3_0 1
    conv at c_w8_w3_0_1 => rhs; simp [go_sem, *]
    have f_w8_w3_0_1 := f_w8_w3_0 1
    conv at f_w8_w3_0_1 => rhs; simp [go_sem, *]
    obtain ⟨c_w8_w4_0, f_w8_w4_0⟩ := bk hb_w8 (w4.heap.size) (by first | omega | (simp <;> omega))
    have c_w8_w4_0_0 := c_w8_w4_0 0
    conv at c_w8_w4_0_0 => rhs; simp [go_sem, *]
    have f_w8_w4_0_0 := f_w8_w4_0 0
    conv at f_w8_w4_0_0 => rhs; simp [go_sem, *]
    have c_w8_w4_0_1 := c_w8_w4_0 1
    conv at c_w8_w4_0_1 => rhs; simp [go_sem, *]
    have f_w8_w4_0_1 := f_w8_w4_0 1
    conv at f_w8_w4_0_1 => rhs; simp [go_sem, *]
    obtain ⟨c_w8_w6_0, f_w8_w6_0⟩ := bk hb_w8 (w6.heap.size) (by first | omega | (simp <;> omega))
    have c_w8_w6_0_0 := c_w8_w6_0 0
    conv at c_w8_w6_0_0 => rhs; simp [go_sem, *]
    have f_w8_w6_0_0 := f_w8_w6_0 0
    conv at f_w8_w6_0_0 => rhs; simp [go_sem, *]
    have c_w8_w6_0_1 := c_w8_w6_0 1
    conv at c_w8_w6_0_1 => rhs; simp [go_sem, *]
    have f_w8_w6_0_1 := f_w8_w6_0 1
    conv at f_w8_w6_0_1 => rhs; simp [go_sem, *]
    obtain ⟨c_w8_w7_0, f_w8_w7_0⟩ := bk hb_w8 (w7.heap.size) (by first | omega | (simp <;> omega))
    have c_w8_w7_0_0 := c_w8_w7_0 0
    conv at c_w8_w7_0_0 => rhs; simp [go_sem, *]
    have f_w8_w7_0_0 := f_w8_w7_0 0
    conv at f_w8_w7_0_0 => rhs; simp [go_sem, *]
    have c_w8_w7_0_1 := c_w8_w7_0 1
    conv at c_w8_w7_0_1 => rhs; simp [go_sem, *]
    have f_w8_w7_0_1 := f_w8_w7_0 1
    conv at f_w8_w7_0_1 => rhs; simp [go_sem, *]
    have hB_w8 : Below w.heap.size w w8 := Below.trans (by (repeat (first | exact Below.refl _ _ | assumption | refine Below.drew ?_ | refine Below.alloc ?_ (by first | omega | (simp <;> omega)) _ | refine Below.setCell ?_ (by first | omega | (simp <;> omega)) _))) (hb_w8.mono (by first | omega | (simp <;> omega)))
    clear hb_w8 c_w8_w_0 f_w8_w_0 c_w8_w2_0 f_w8_w2_0 c_w8_w3_0 f_w8_w3_0 c_w8_w4_0 f_w8_w4_0 c_w8_w6_0 f_w8_w6_0 c_w8_w7_0 f_w8_w7_0
    try clear c_w7_w_0_0
    try clear f_w7_w_0_0
    try clear c_w7_w_0_1
    try clear f_w7_w_0_1
    try clear c_w7_w2_0_0
    try clear f_w7_w2_0_0
    try clear c_w7_w2_0_1
    try clear f_w7_w2_0_1
    try clear c_w7_w3_0_0
    try clear f_w7_w3_0_0
    try clear c_w7_w3_0_1
    try clear f_w7_w3_0_1
    try clear c_w7_w4_0_0
    try clear f_w7_w4_0_0
    try clear c_w7_w4_0_1
    try clear f_w7_w4_0_1
    try clear c_w7_w6_0_0
    try clear f_w7_w6_0_0
    try clear c_w7_w6_0_1
    try clear f_w7_w6_0_1
    try clear far_w7_w_0
    try clear far_w7_w2_0
    try clear far_w7_w3_0
    try clear far_w7_w4_0
    try clear far_w7_w6_0
    try clear hB_w7
    have far_w8_w_0 := far (show w.heap.size < w8.heap.size by omega)
    have far_w8_w2_0 := far (show w2.heap.size < w8.heap.size by omega)
    have far_w8_w3_0 := far (show w3.heap.size < w8.heap.size by omega)
    have far_w8_w4_0 := far (show w4.heap.size < w8.heap.size by omega)
    have far_w8_w6_0 := far (show w6.heap.size < w8.heap.size by omega)
    have far_w8_w7_0 := far (show w7.heap.size < w8.heap.size by omega)
    go_wp2_with fail
    refine Calls.mono (U.out H.out _) ?_
    rintro e w9 ⟨rfl, hb_w9⟩
    have hz_w9 := hb_w9.size
    try simp at hz_w9
    obtain ⟨c_w9_w_0, f_w9_w_0⟩ := bk hb_w9 (w.heap.size) (by first | omega | (simp <;> omega))
    have c_w9_w_0_0 := c_w9_w_0 0
    conv at c_w9_w_0_0 => rhs; simp [go_sem, *]
    have f_w9_w_0_0 := f_w9_w_0 0
    conv at f_w9_w_0_0 => rhs; simp [go_sem, *]
    have c_w9_w_0_1 := c_w9_w_0 1
    conv at c_w9_w_0_1 => rhs; simp [go_sem, *]
    have f_w9_w_0_1 := f_w9_w_0 1
    conv at f_w9_w_0_1 => rhs; simp [go_sem, *]
    obtain ⟨c_w9_w2_0, f_w9_w2_0⟩ := bk hb_w9 (w2.heap.size) (by first | omega | (simp <;> omega))
    have c_w9_w2_0_0 := c_w9_w2_0 0
    conv at c_w9_w2_0_0 => rhs; simp [go_sem, *]
    have f_w9_w2_0_0 := f_w9_w2_0 0
    conv at f_w9_w2_0_0 => rhs; simp [go_sem, *]
    have c_w9_w2_0_1 := c_w9_w2_0 1
    conv at c_w9_w2_0_1 => rhs; simp [go_sem, *]
    have f_w9_w2_0_1 := f_w9_w2_0 1
    conv at f_w9_w2_0_1 => rhs; simp [go_sem, *]
    obtain ⟨c_w9_w3_0, f_w9_w3_0⟩ := bk hb_w9 (w3.heap.size) (by first | omega | (simp <;> omega))
    have c_w9_w3_0_0 := c_w9_w3_0 0
    conv at c_w9_w3_0_0 => rhs; simp [go_sem, *]
    have f_w9_w3_0_0 := f_w9_w3_0 0
    conv at f_w9_w3_0_0 => rhs; simp [go_sem, *]
    have c_w9_w3_0_1 := c_w9_w3_0 1
    conv at c_w9_w3_0_1 => rhs; simp [go_sem, *]
    have f_w9_w3_0_1 := f_w9_w3_0 1
    conv at f_w9_w3_0_1 => rhs; simp [go_sem, *]
    obtain ⟨c_w9_w4_0, f_w9_w4_0⟩ := bk hb_w9 (w4.heap.size) (by first | omega | (simp <;> omega))
    have c_w9_w4_0_0 := c_w9_w4_0 0
    conv at c_w9_w4_0_0 => rhs; simp [go_sem, *]
    have f_w9_w4_0_0 := f_w9_w4_0 0
    conv at f_w9_w4_0_0 => rhs; simp [go_sem, *]
    have c_w9_w4_0_1 := c_w9_w4_0 1
    conv at c_w9_w4_0_1 => rhs; simp [go_sem, *]
    have f_w9_w4_0_1 := f_w9_w4_0 1
    conv at f_w9_w4_0_1 => rhs; simp [go_sem, *]
    obtain ⟨c_w9_w6_0, f_w9_w6_0⟩ := bk hb_w9 (w6.heap.size) (by first | omega | (simp <;> omega))
    have c_w9_w6_0_0 := c_w9_w6_0 0
    conv at c_w9_w6_0_0 => rhs; simp [go_sem, *]
    have f_w9_w6_0_0 := f_w9_w6_0 0
    conv at f_w9_w6_0_0 => rhs; simp [go_sem, *]
    have c_w9_w6_0_1 := c_w9_w6_0 1
    conv at c_w9_w6_0_1 => rhs; simp [go_sem, *]
    have f_w9_w6_0_1 := f_w9_w6_0 1
    conv at f_w9_w6_0_1 => rhs; simp [go_sem, *]
    obtain ⟨c_w9_w7_0, f_w9_w7_0⟩ := bk hb_w9 (w7.heap.size) (by first | omega | (simp <;> omega))
    have c_w9_w7_0_0 := c_w9_w7_0 0
    conv at c_w9_w7_0_0 => rhs; simp [go_sem, *]
    have f_w9_w7_0_0 := f_w9_w7_0 0
    conv at f_w9_w7_0_0 => rhs; simp [go_sem, *]
    have c_w9_w7_0_1 := c_w9_w7_0 1
    conv at c_w9_w7_0_1 => rhs; simp [go_sem, *]
    have f_w9_w7_0_1 := f_w9_w7_0 1
    conv at f_w9_w7_0_1 => rhs; simp [go_sem, *]
    have hB_w9 : Below w.heap.size w w9 := Below.trans (by (repeat (first | exact Below.refl _ _ | assumption | refine Below.drew ?_ | refine Below.alloc ?_ (by first | omega | (simp <;> omega)) _ | refine Below.setCell ?_ (by first | omega | (simp <;> omega)) _))) (hb_w9.mono (by first | omega | (simp <;> omega)))
    clear hb_w9 c_w9_w_0 f_w9_w_0 c_w9_w2_0 f_w9_w2_0 c_w9_w3_0 f_w9_w3_0 c_w9_w4_0 f_w9_w4_0 c_w9_w6_0 f_w9_w6_0 c_w9_w7_0 f_w9_w7_0
    try clear c_w8_w_0_0
    try clear f_w8_w_0_0
    try clear c_w8_w_0_1
    try clear f_w8_w_0_1
    try clear c_w8_w2_0_0
    try clear f_w8_w2_0_0
    try clear c_w8_w2_0_1
    try clear f_w8_w2_0_1
    try clear c_w8_w3_0_0
    try clear f_w8_w3_0_0
    try clear c_w8_w3_0_1
    try clear f_w8_w3_0_1
    try clear c_w8_w4_0_0
    try clear f_w8_w4_0_0
    try clear c_w8_w4_0_1
    try clear f_w8_w4_0_1
    try clear c_w8_w6_0_0
    try clear f_w8_w6_0_0
    try clear c_w8_w6_0_1
    try clear f_w8_w6_0_1
    try clear c_w8_w7_0_0
    try clear f_w8_w7_0_0
    try clear c_w8_w7_0_1
    try clear f_w8_w7_0_1
    try clear far_w8_w_0
    try clear far_w8_w2_0
    try clear far_w8_w3_0
    try clear far_w8_w4_0
    try clear far_w8_w6_0
    try clear far_w8_w7_0
    try clear hB_w8
    have far_w9_w_0 := far (show w.heap.size < w9.heap.size by omega)
    have far_w9_w2_0 := far (show w2.heap.size < w9.heap.size by omega)
    have far_w9_w3_0 := far (show w3.heap.size < w9.heap.size by omega)
    have far_w9_w4_0 := far (show w4.heap.size < w9.heap.size by omega)
    have far_w9_w6_0 := far (show w6.heap.size < w9.heap.size by omega)
    have far_w9_w7_0 := far (show w7.heap.size < w9.heap.size by omega)
    go_wp2
    go_ret
    exact ⟨rfl, by (repeat (first | exact Below.refl _ _ | assumption | refine Below.drew ?_ | refine Below.alloc ?_ (by first | omega | (simp <;> omega)) _ | refine Below.setCell ?_ (by first | omega | (simp <;> omega)) _))⟩

theorem calls_any (s0 : ByteArray) (c : Int) (t0 : ByteArray) (n : Int) (w : World) (hs0 : s0.size ≤ maxLen) (_hc : (Lit.int .i64 c).wf = true) (ht0 : t0.size ≤ maxLen) (hn : (Lit.int .i64 n).wf = true) :
    Calls Try.prog 7 #[.agg #[.string s0, .int .i64 c], .string t0, .int .i64 n] w fun e w' => e = .returned (.bool true) ∧ Below w.heap.size w w' := by
  obtain ⟨l0, rfl⟩ := S_of s0
  obtain ⟨l1, rfl⟩ := S_of t0
  rw [S_size] at hs0 ht0
  cases hr : rightL (l0.take 70000) c
  · exact calls_no w hs0 ht0 hr
  · obtain ⟨l, hl⟩ : ∃ l, l0.take 70000 = l := ⟨_, rfl⟩
    obtain ⟨k, hk, hk1, hk2⟩ : ∃ k : Nat, min (l1.length : Int) 1000 = k ∧ k ≤ l1.length ∧ k ≤ 1000 := ⟨min l1.length 1000, by omega, by omega, by omega⟩
    obtain ⟨s, hs, hsl⟩ : ∃ s, l1.take k = s ∧ s.length = k := ⟨_, rfl, by simp; omega⟩
    rw [hl] at hr
    have hll : l.length ≤ 65536 := by obtain ⟨_, _, _⟩ := rightL_true hr; omega
    have hn9 : n ≤ 9223372036854775807 := by simp [Lit.wf] at hn; omega
    have P := put_yes_S hr (show s.length ≤ maxLen by unfold maxLen; omega) rfl rfl
    have Q := ref_put hr (show s.length ≤ 1000 by omega) rfl rfl
    have U := fun h : 0 ≤ n => ref_take (c := c) h rfl hll rfl rfl
    have hge := idx_le l
    by_cases hi : idx10 l = -1
    · have X := line_none hr hi
      have Y := ref_line_none (c := c) hll hi
      by_cases h : n < 0
      · exact calls_nn (u := []) (x := []) (y := l) w hs0 ht0 hl hk hk1 hs hsl hr h P Q (take_neg h) (fun h' => absurd h' (by omega)) X Y
      · exact calls_yn (x := []) w hs0 ht0 hl hk hk1 hs hsl hr (by omega) P Q (take_S (by omega) hr rfl hn9 rfl rfl) U X Y
    · obtain ⟨i, hi⟩ : ∃ i : Nat, idx10 l = i := ⟨(idx10 l).toNat, by unfold idx10 at *; omega⟩
      have X := line_some hr hi rfl
      have Y := ref_line_some (c := c) hll hi rfl
      by_cases h : n < 0
      · exact calls_ns (u := []) (y := l) w hs0 ht0 hl hk hk1 hs hsl hr h P Q (take_neg h) (fun h' => absurd h' (by omega)) X Y
      · exact calls_ys w hs0 ht0 hl hk hk1 hs hsl hr (by omega) P Q (take_S (by omega) hr rfl hn9 rfl rfl) U X Y
end Go.Proofs.Ytfkojlfbdongpaa
