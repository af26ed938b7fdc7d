/- The walk of the law QueueOrder. -/
import Derived.Test.YtfkojlfbdongpaaQRef
import Derived.Test.YtfkojlfbdongpaaFrame
namespace Go.Proofs.Ytfkojlfbdongpaa
open Go.RowKit
set_option linter.unusedVariables false

/-- An act's cells. -/
def actCells (x : List UInt8 × Int) : List Value := [.string (S x.1), .int .i64 x.2]
def ActOk (x : List UInt8 × Int) : Prop := x.1.length ≤ maxLen ∧ (Lit.int .i64 x.2).wf = true
theorem act_dec (c : List Value) (h : AllSh [.str, .int .i64] c) : ∃ x, c = actCells x ∧ ActOk x := by
  obtain ⟨_, _, rfl, ⟨s, rfl, hs⟩, _, _, rfl, ⟨n, rfl, hn⟩, rfl⟩ := h
  obtain ⟨l, rfl⟩ := S_of s
  exact ⟨(l, n), rfl, by rw [S_size] at hs; exact hs, hn⟩

theorem right_take {l t : List UInt8} {c : Int} (hr : rightL l c = true) : rightL (l ++ t.take (putN l c t)) c = true := by
  obtain ⟨h1, h2, h3⟩ := rightL_true hr
  simp only [rightL, decide_eq_true_eq]
  simp [putN]; omega

set_option maxHeartbeats 1600000 in
set_option maxRecDepth 100000 in
theorem order_any (size : Int) (v : Value) (L : List (List Value)) (w : World) (_hn : (Lit.int .i64 size).wf = true) (hv : RowsIn w 2 v L ∧ ∀ c ∈ L, AllSh [.str, .int .i64] c) :
    Calls Try.prog 4 #[.int .i64 size, v] w fun e w' => e = .returned (.bool true) ∧ Below w.heap.size w w' := by
  obtain ⟨hrow, hsh⟩ := hv
  obtain ⟨xs, rfl, hxs⟩ := decode actCells act_dec L hsh
  obtain ⟨a, len, cap, rfl, hl, hm, hlen, _, hcell⟩ := hrow
  rw [List.length_map] at hlen
  have hm' : cap ≤ 9223372036854775807 := by unfold maxLen at hm; omega
  obtain ⟨c, hc, hc1, hc2⟩ : ∃ c : Int, min (max size 1) 2000 = c ∧ 1 ≤ c ∧ c ≤ 2000 := ⟨_, rfl, by omega, by omega⟩
  have HC := Lib.hid hcell
  clear hcell hm hsh
  go_enter Try.func4, Try.ntmps4
  go_wp2_with fail
  refine Calls.mono (new_ok c _ hc1 (by omega)) ?_
  rintro e w1 ⟨rfl, hb_w1⟩
  have hz_w1 := hb_w1.size
  try simp at hz_w1
  have hB_w1 : Below w.heap.size w w1 := Below.trans (by (repeat (first | exact Below.refl _ _ | assumption | refine Below.drew ?_ | refine Below.alloc ?_ (by first | omega | (simp <;> omega)) _ | refine Below.setCell ?_ (by first | omega | (simp <;> omega)) _))) (hb_w1.mono (by first | omega | (simp <;> omega)))
  clear hb_w1
  go_wp2_with fail
  refine Calls.mono (alive_any _) ?_
  rintro e w2 ⟨rfl, hb_w2⟩
  have hz_w2 := hb_w2.size
  try simp at hz_w2
  obtain ⟨c_w2_w1_0, f_w2_w1_0⟩ := bk hb_w2 (w1.heap.size) (by first | omega | (simp <;> omega))
  have c_w2_w1_0_0 := c_w2_w1_0 0
  conv at c_w2_w1_0_0 => rhs; simp [go_sem, *]
  have f_w2_w1_0_0 := f_w2_w1_0 0
  conv at f_w2_w1_0_0 => rhs; simp [go_sem, *]
  have c_w2_w1_0_1 := c_w2_w1_0 1
  conv at c_w2_w1_0_1 => rhs; simp [go_sem, *]
  have f_w2_w1_0_1 := f_w2_w1_0 1
  conv at f_w2_w1_0_1 => rhs; simp [go_sem, *]
  have hB_w2 : Below w.heap.size w w2 := Below.trans (by (repeat (first | exact Below.refl _ _ | assumption | refine Below.drew ?_ | refine Below.alloc ?_ (by first | omega | (simp <;> omega)) _ | refine Below.setCell ?_ (by first | omega | (simp <;> omega)) _))) (hb_w2.mono (by first | omega | (simp <;> omega)))
  clear hb_w2 c_w2_w1_0 f_w2_w1_0
  try clear hB_w1
  have far_w2_w1_0 := far (show w1.heap.size < w2.heap.size by omega)
  go_wp2
  go_loopw [7, 8, 34] (fun inn out cnt wr => ∃ k : Nat, ∃ li lo l : List UInt8, inn = .string (S li) ∧ out = .string (S lo) ∧ cnt = .int .i64 k ∧ k ≤ len ∧ k ≤ 40 ∧ li = lo ++ l ∧ rightL l c = true ∧ li.length ≤ 300 * k ∧
      wr.cell? ⟨w1.heap.size, 0, none⟩ = some (.string (S l)) ∧ wr.cell? ⟨w1.heap.size, 1, none⟩ = some (.int .i64 c) ∧ wr.frozen? ⟨w1.heap.size, 0, none⟩ = false ∧ wr.frozen? ⟨w1.heap.size, 1, none⟩ = false ∧
      w1.heap.size < wr.heap.size ∧ Below w.heap.size w wr) (fun _ _ cnt _ => len - (intOf cnt).toNat)
  case atStart => exact ⟨0, [], [], [], rfl, rfl, rfl, Nat.zero_le _, Nat.zero_le _, rfl, by simp only [rightL, decide_eq_true_eq]; simp; omega, Nat.zero_le _, by simp [go_sem, *], by simp [go_sem, *], by simp [go_sem, *], by simp [go_sem, *], by (first | omega | (simp <;> omega)), by (repeat (first | exact Below.refl _ _ | assumption | refine Below.drew ?_ | refine Below.alloc ?_ (by first | omega | (simp <;> omega)) _ | refine Below.setCell ?_ (by first | omega | (simp <;> omega)) _))⟩
  case round =>
    obtain ⟨k, li, lo, l, rfl, rfl, rfl, hk1, hk2, hli, hr, hlil, hc0, hc1', hf0, hf1, hlt, hB⟩ := hrel
    have hfar := far hlt
    obtain ⟨hr1, hr2, hr3⟩ := rightL_true hr
    have HLI := Lib.hid hli
    have HR := Lib.hid hr
    clear hli hr
    have hll : lo.length ≤ li.length := by rw [HLI.out]; simp
    have heq : (li == lo ++ l) = true := by rw [HLI.out]; simp
    by_cases hkl : k < len
    · obtain ⟨b, off, rfl, hb, hcl⟩ := HC.out (by omega) (by omega)
      have hx : k < xs.length := by omega
      obtain ⟨⟨s, n⟩, ex⟩ : ∃ x, x = xs[k] := ⟨_, rfl⟩
      have hok : ActOk (s, n) := ex ▸ hxs _ (List.getElem_mem hx)
      have hg : (xs.map actCells).getD k [] = actCells (s, n) := by rw [ex]; simp [List.getD, List.getElem?_eq_getElem hx]
      have e0 := hcl k 0 hkl (by omega)
      have e1 := hcl k 1 hkl (by omega)
      rw [hg] at e0 e1
      simp only [actCells, List.getElem?_cons_zero, List.getElem?_cons_succ] at e0 e1
      rw [← hB.cell (p := ⟨b, _, none⟩) hb] at e0 e1
      rw [show off + (k * 2 + 0) = off + k * 2 from rfl] at e0
      rw [show off + (k * 2 + 1) = off + k * 2 + 1 from rfl] at e1
      clear hcl hg
      obtain ⟨hs1, hs2⟩ := hok
      unfold maxLen at hs1
      by_cases hk40 : k < 40
      · obtain ⟨q, hq, hq1, hq2⟩ : ∃ q : Nat, min (s.length : Int) 300 = q ∧ q ≤ s.length ∧ q ≤ 300 := ⟨min s.length 300, by omega, by omega, by omega⟩
        obtain ⟨s', hs', hs'l⟩ : ∃ s', s.take q = s' ∧ s'.length = q := ⟨_, rfl, by simp; omega⟩
        obtain ⟨R, hR⟩ : ∃ R, roomL l c = R := ⟨_, rfl⟩
        obtain ⟨N, hN⟩ : ∃ N, putN l c s' = N := ⟨_, rfl⟩
        obtain ⟨l2, hl2⟩ : ∃ l2, l ++ s'.take N = l2 := ⟨_, rfl⟩
        have hRv : R = c - l.length := by rw [← hR]; unfold roomL; rw [HR.out]; rfl
        have hmin : min R (q : Int) = N := by rw [hRv, ← hN]; unfold putN; omega
        have hNq : N ≤ q := by rw [← hN]; unfold putN; omega
        have r2 : rightL l2 c = true := by rw [← hl2, ← hN]; exact right_take HR.out
        obtain ⟨n', hn', hn1, hn2⟩ : ∃ n', max n 0 = n' ∧ 0 ≤ n' ∧ n' ≤ 9223372036854775807 := ⟨_, rfl, by omega, by
          have := hs2; simp [Lit.wf] at this; omega⟩
        obtain ⟨K, hK⟩ : ∃ K, takeN l2 n' = K := ⟨_, rfl⟩
        obtain ⟨y, hy⟩ : ∃ y, l2.drop K = y := ⟨_, rfl⟩
        obtain ⟨u, hu⟩ : ∃ u, l2.take K = u := ⟨_, rfl⟩
        obtain ⟨z, hz⟩ : ∃ z, s'.take N = z := ⟨_, rfl⟩
        have hzl : z.length ≤ 300 := by rw [← hz]; simp; omega
        have huy : l2 = u ++ y := by rw [← hu, ← hy, List.take_append_drop]
        have hul : u.length ≤ 65536 := by rw [← hu]; simp; obtain ⟨_, _, _⟩ := rightL_true r2; omega
        have yr : rightL y c = true := by rw [← hy]; obtain ⟨h1, h2, h3⟩ := rightL_true r2; simp only [rightL, decide_eq_true_eq]; simp; omega
        have C1 := Lib.hid (room_S hR)
        have C2 := Lib.hid (put_yes_S HR.out (show s'.length ≤ maxLen by unfold maxLen; omega) hN hl2)
        have C3 := Lib.hid (take_yes hn1 r2 hK hn2)
        rw [hy, hu] at C3
        have HL2 := Lib.hid hl2
        have HUY := Lib.hid huy
        have HYR := Lib.hid yr
        have HZ := Lib.hid hz
        have hRN : 0 ≤ R := by rw [hRv]; omega
        clear hR hN hl2 hRv r2 hK hy hu huy yr
        go_wp2_with fail
        refine Calls.mono (C1.out _) ?_
        rintro e w3 ⟨rfl, hb_w3⟩
        have hz_w3 := hb_w3.size
        try simp at hz_w3
        obtain ⟨c_w3_w1_0, f_w3_w1_0⟩ := bk hb_w3 (w1.heap.size) (by first | omega | (simp <;> omega))
        have c_w3_w1_0_0 := c_w3_w1_0 0
        conv at c_w3_w1_0_0 => rhs; simp [go_sem, *]
        have f_w3_w1_0_0 := f_w3_w1_0 0
        conv at f_w3_w1_0_0 => rhs; simp [go_sem, *]
        have c_w3_w1_0_1 := c_w3_w1_0 1
        conv at c_w3_w1_0_1 => rhs; simp [go_sem, *]
        have f_w3_w1_0_1 := f_w3_w1_0 1
        conv at f_w3_w1_0_1 => rhs; simp [go_sem, *]
        obtain ⟨c_w3_wr_0, f_w3_wr_0⟩ := bk hb_w3 (wr.heap.size) (by first | omega | (simp <;> omega))
        have c_w3_wr_0_0 := c_w3_wr_0 0
        conv at c_w3_wr_0_0 => rhs; simp [go_sem, *]
        have f_w3_wr_0_0 := f_w3_wr_0 0
        conv at f_w3_wr_0_0 => rhs; simp [go_sem, *]
        have c_w3_wr_0_1 := c_w3_wr_0 1
        conv at c_w3_wr_0_1 => rhs; simp [go_sem, *]
        have f_w3_wr_0_1 := f_w3_wr_0 1
        conv at f_w3_wr_0_1 => rhs; simp [go_sem, *]
        have hB_w3 : Below w.heap.size w w3 := Below.trans (by (repeat (first | exact Below.refl _ _ | assumption | refine Below.drew ?_ | refine Below.alloc ?_ (by first | omega | (simp <;> omega)) _ | refine Below.setCell ?_ (by first | omega | (simp <;> omega)) _))) (hb_w3.mono (by first | omega | (simp <;> omega)))
        clear hb_w3 c_w3_w1_0 f_w3_w1_0 c_w3_wr_0 f_w3_wr_0
        try clear c_w2_w1_0_0
        try clear f_w2_w1_0_0
        try clear c_w2_w1_0_1
        try clear f_w2_w1_0_1
        try clear far_w2_w1_0
        try clear hB_w2
        have far_w3_w1_0 := far (show w1.heap.size < w3.heap.size by omega)
        have far_w3_wr_0 := far (show wr.heap.size < w3.heap.size by omega)
        go_wp2_with fail
        refine Calls.mono (C2.out _) ?_
        rintro e w4 ⟨rfl, hb_w4⟩
        have hz_w4 := hb_w4.size
        try simp at hz_w4
        obtain ⟨c_w4_w1_0, f_w4_w1_0⟩ := bk hb_w4 (w1.heap.size) (by first | omega | (simp <;> omega))
        have c_w4_w1_0_0 := c_w4_w1_0 0
        conv at c_w4_w1_0_0 => rhs; simp [go_sem, *]
        have f_w4_w1_0_0 := f_w4_w1_0 0
        conv at f_w4_w1_0_0 => rhs; simp [go_sem, *]
        have c_w4_w1_0_1 := c_w4_w1_0 1
        conv at c_w4_w1_0_1 => rhs; simp [go_sem, *]
        have f_w4_w1_0_1 := f_w4_w1_0 1
        conv at f_w4_w1_0_1 => rhs; simp [go_sem, *]
        obtain ⟨c_w4_wr_0, f_w4_wr_0⟩ := bk hb_w4 (wr.heap.size) (by first | omega | (simp <;> omega))
        have c_w4_wr_0_0 := c_w4_wr_0 0
        conv at c_w4_wr_0_0 => rhs; simp [go_sem, *]
        have f_w4_wr_0_0 := f_w4_wr_0 0
        conv at f_w4_wr_0_0 => rhs; simp [go_sem, *]
        have c_w4_wr_0_1 := c_w4_wr_0 1
        conv at c_w4_wr_0_1 => rhs; simp [go_sem, *]
        have f_w4_wr_0_1 := f_w4_wr_0 1
        conv at f_w4_wr_0_1 => rhs; simp [go_sem, *]
        have hB_w4 : Below w.heap.size w w4 := Below.trans (by (repeat (first | exact Below.refl _ _ | assumption | refine Below.drew ?_ | refine Below.alloc ?_ (by first | omega | (simp <;> omega)) _ | refine Below.setCell ?_ (by first | omega | (simp <;> omega)) _))) (hb_w4.mono (by first | omega | (simp <;> omega)))
        clear hb_w4 c_w4_w1_0 f_w4_w1_0 c_w4_wr_0 f_w4_wr_0
        try clear c_w3_w1_0_0
        try clear f_w3_w1_0_0
        try clear c_w3_w1_0_1
        try clear f_w3_w1_0_1
        try clear c_w3_wr_0_0
        try clear f_w3_wr_0_0
        try clear c_w3_wr_0_1
        try clear f_w3_wr_0_1
        try clear far_w3_w1_0
        try clear far_w3_wr_0
        try clear hB_w3
        have far_w4_w1_0 := far (show w1.heap.size < w4.heap.size by omega)
        have far_w4_wr_0 := far (show wr.heap.size < w4.heap.size by omega)
        go_wp2_with fail
        refine Calls.mono (C3.out _) ?_
        rintro e w5 ⟨rfl, hb_w5⟩
        have hz_w5 := hb_w5.size
        try simp at hz_w5
        obtain ⟨c_w5_w1_0, f_w5_w1_0⟩ := bk hb_w5 (w1.heap.size) (by first | omega | (simp <;> omega))
        have c_w5_w1_0_0 := c_w5_w1_0 0
        conv at c_w5_w1_0_0 => rhs; simp [go_sem, *]
        have f_w5_w1_0_0 := f_w5_w1_0 0
        conv at f_w5_w1_0_0 => rhs; simp [go_sem, *]
        have c_w5_w1_0_1 := c_w5_w1_0 1
        conv at c_w5_w1_0_1 => rhs; simp [go_sem, *]
        have f_w5_w1_0_1 := f_w5_w1_0 1
        conv at f_w5_w1_0_1 => rhs; simp [go_sem, *]
        obtain ⟨c_w5_wr_0, f_w5_wr_0⟩ := bk hb_w5 (wr.heap.size) (by first | omega | (simp <;> omega))
        have c_w5_wr_0_0 := c_w5_wr_0 0
        conv at c_w5_wr_0_0 => rhs; simp [go_sem, *]
        have f_w5_wr_0_0 := f_w5_wr_0 0
        conv at f_w5_wr_0_0 => rhs; simp [go_sem, *]
        have c_w5_wr_0_1 := c_w5_wr_0 1
        conv at c_w5_wr_0_1 => rhs; simp [go_sem, *]
        have f_w5_wr_0_1 := f_w5_wr_0 1
        conv at f_w5_wr_0_1 => rhs; simp [go_sem, *]
        have hB_w5 : Below w.heap.size w w5 := Below.trans (by (repeat (first | exact Below.refl _ _ | assumption | refine Below.drew ?_ | refine Below.alloc ?_ (by first | omega | (simp <;> omega)) _ | refine Below.setCell ?_ (by first | omega | (simp <;> omega)) _))) (hb_w5.mono (by first | omega | (simp <;> omega)))
        clear hb_w5 c_w5_w1_0 f_w5_w1_0 c_w5_wr_0 f_w5_wr_0
        try clear c_w4_w1_0_0
        try clear f_w4_w1_0_0
        try clear c_w4_w1_0_1
        try clear f_w4_w1_0_1
        try clear c_w4_wr_0_0
        try clear f_w4_wr_0_0
        try clear c_w4_wr_0_1
        try clear f_w4_wr_0_1
        try clear far_w4_w1_0
        try clear far_w4_wr_0
        try clear hB_w4
        have far_w5_w1_0 := far (show w1.heap.size < w5.heap.size by omega)
        have far_w5_wr_0 := far (show wr.heap.size < w5.heap.size by omega)
        go_wp2
        go_roundw
        case rel =>
          refine ⟨k + 1, li ++ z, lo ++ u, y, rfl, rfl, by go_num, by omega, by omega, ?_, HYR.out, ?_, by simp [go_sem, *], by simp [go_sem, *], by simp [go_sem, *], by simp [go_sem, *], by (first | omega | (simp <;> omega)), by (repeat (first | exact Below.refl _ _ | assumption | refine Below.drew ?_ | refine Below.alloc ?_ (by first | omega | (simp <;> omega)) _ | refine Below.setCell ?_ (by first | omega | (simp <;> omega)) _))⟩
          · rw [HLI.out, ← HZ.out, List.append_assoc, HL2.out, HUY.out, List.append_assoc]
          · simp; omega
        case measure => simp [intOf]; omega
      · obtain rfl : k = 40 := by omega
        go_wp2_with fail
        refine Calls.mono (right_S HR.out _) ?_
        rintro e w3 ⟨rfl, hb_w3⟩
        have hz_w3 := hb_w3.size
        try simp at hz_w3
        obtain ⟨c_w3_w1_0, f_w3_w1_0⟩ := bk hb_w3 (w1.heap.size) (by first | omega | (simp <;> omega))
        have c_w3_w1_0_0 := c_w3_w1_0 0
        conv at c_w3_w1_0_0 => rhs; simp [go_sem, *]
        have f_w3_w1_0_0 := f_w3_w1_0 0
        conv at f_w3_w1_0_0 => rhs; simp [go_sem, *]
        have c_w3_w1_0_1 := c_w3_w1_0 1
        conv at c_w3_w1_0_1 => rhs; simp [go_sem, *]
        have f_w3_w1_0_1 := f_w3_w1_0 1
        conv at f_w3_w1_0_1 => rhs; simp [go_sem, *]
        have hB_w3 : Below w.heap.size w w3 := Below.trans (by (repeat (first | exact Below.refl _ _ | assumption | refine Below.drew ?_ | refine Below.alloc ?_ (by first | omega | (simp <;> omega)) _ | refine Below.setCell ?_ (by first | omega | (simp <;> omega)) _))) (hb_w3.mono (by first | omega | (simp <;> omega)))
        clear hb_w3 c_w3_w1_0 f_w3_w1_0
        try clear c_w5_w1_0_0
        try clear f_w5_w1_0_0
        try clear c_w5_w1_0_1
        try clear f_w5_w1_0_1
        try clear c_w5_wr_0_0
        try clear f_w5_wr_0_0
        try clear c_w5_wr_0_1
        try clear f_w5_wr_0_1
        try clear far_w5_w1_0
        try clear far_w5_wr_0
        try clear hB_w5
        have far_w3_w1_0 := far (show w1.heap.size < w3.heap.size by omega)
        go_wp2
        go_ret
        exact ⟨rfl, by (repeat (first | exact Below.refl _ _ | assumption | refine Below.drew ?_ | refine Below.alloc ?_ (by first | omega | (simp <;> omega)) _ | refine Below.setCell ?_ (by first | omega | (simp <;> omega)) _))⟩
    · go_wp2_with fail
      refine Calls.mono (right_S HR.out _) ?_
      rintro e w3 ⟨rfl, hb_w3⟩
      have hz_w3 := hb_w3.size
      try simp at hz_w3
      obtain ⟨c_w3_w1_0, f_w3_w1_0⟩ := bk hb_w3 (w1.heap.size) (by first | omega | (simp <;> omega))
      have c_w3_w1_0_0 := c_w3_w1_0 0
      conv at c_w3_w1_0_0 => rhs; simp [go_sem, *]
      have f_w3_w1_0_0 := f_w3_w1_0 0
      conv at f_w3_w1_0_0 => rhs; simp [go_sem, *]
      have c_w3_w1_0_1 := c_w3_w1_0 1
      conv at c_w3_w1_0_1 => rhs; simp [go_sem, *]
      have f_w3_w1_0_1 := f_w3_w1_0 1
      conv at f_w3_w1_0_1 => rhs; simp [go_sem, *]
      have hB_w3 : Below w.heap.size w w3 := Below.trans (by (repeat (first | exact Below.refl _ _ | assumption | refine Below.drew ?_ | refine Below.alloc ?_ (by first | omega | (simp <;> omega)) _ | refine Below.setCell ?_ (by first | omega | (simp <;> omega)) _))) (hb_w3.mono (by first | omega | (simp <;> omega)))
      clear hb_w3 c_w3_w1_0 f_w3_w1_0
      have far_w3_w1_0 := far (show w1.heap.size < w3.heap.size by omega)
      go_wp2
      go_ret
      exact ⟨rfl, by (repeat (first | exact Below.refl _ _ | assumption | refine Below.drew ?_ | refine Below.alloc ?_ (by first | omega | (simp <;> omega)) _ | refine Below.setCell ?_ (by first | omega | (simp <;> omega)) _))⟩
end Go.Proofs.Ytfkojlfbdongpaa
