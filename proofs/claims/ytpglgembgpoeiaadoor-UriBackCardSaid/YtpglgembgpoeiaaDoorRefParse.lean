/- The walk of the document's Parse. Written by tools/refparse.py. -/
import Derived.Test.YtpglgembgpoeiaaDoorParseMath2
import Derived.Test.YtpglgembgpoeiaaDoorUriRef2
namespace Go.Proofs.YtpglgembgpoeiaaDoor
open Go.RowKit Go.Shelf
set_option linter.unusedVariables false

set_option maxHeartbeats 3200000 in
set_option maxRecDepth 100000 in
theorem refParse_rel (s : List UInt8) (hs : s.length ≤ 500) (hB : httpB s = false) (w : World) (hL : Laid w) :
    Calls Tryd.prog 9 #[.string (S s)] w fun e w' => e = .returned (.tuple #[(parseL s).1.v, .int .i64 (parseL s).2]) ∧ Below w.heap.size w w' := by
  have CL := Lib.hid (fun W => refLower s (by omega) W)
  have CB := Lib.hid (fun W => begins_S (s := lower s) (t := httpL) (b := false) (by rw [lower_len]; omega) (by decide) (by rw [httpB_ref, hB]) W)
  unfold httpL at CB
  have CF := Lib.hid (fun W => refFind s 63 (by omega) W)
  have CR := Lib.hid (fun W (hbl : Below w.heap.size w W) => refRightC (relOf s) (relOf_mid s hs) (W := W) hL hbl)
  have HP := show parseL s = if (relOf s).ok then (relOf s, 0) else (UU.nil, 20) by unfold parseL; rw [if_neg (by omega), hB]; simp
  obtain ⟨p, hp⟩ : ∃ x, parseL s = x := ⟨_, rfl⟩
  rw [hp] at HP ⊢
  obtain ⟨ok, hok⟩ : ∃ x, (relOf s).ok = x := ⟨_, rfl⟩
  rw [hok] at CR HP
  have HN := Lib.hid (show ok = false → p = (UU.nil, 20) from fun h => by rw [HP, h]; simp)
  have HY := Lib.hid (show ok = true → p = (relOf s, 0) from fun h => by rw [HP, h]; simp)
  clear HP hp hok hB hL
  unfold relOf at CR HY
  have hge := Lib.indexByte_ge s 63
  have hlt := indexByte_lt s 63
  obtain ⟨ix, hix⟩ : ∃ x, Lib.indexByte s 63 = x := ⟨_, rfl⟩
  rw [hix] at CF hge hlt
  simp only [UU.v] at CR ⊢
  have hle : ¬ 500 < (s.length : Int) := by omega
  go_enter Tryd.func9, Tryd.ntmps9
  go_wp2_with fail
  refine Calls.mono (CL.out _) ?_
  rintro e w1 ⟨rfl, hb_w1⟩
  have hz_w1 := hb_w1.size
  try simp at hz_w1
  obtain ⟨c_w1_w_0, f_w1_w_0⟩ := bk hb_w1 (w.heap.size) (by first | omega | (simp <;> omega))
  have c_w1_w_0_0 := c_w1_w_0 0
  conv at c_w1_w_0_0 => rhs; simp [go_sem, *]
  have f_w1_w_0_0 := f_w1_w_0 0
  conv at f_w1_w_0_0 => rhs; simp [go_sem, *]
  have c_w1_w_0_1 := c_w1_w_0 1
  conv at c_w1_w_0_1 => rhs; simp [go_sem, *]
  have f_w1_w_0_1 := f_w1_w_0 1
  conv at f_w1_w_0_1 => rhs; simp [go_sem, *]
  have c_w1_w_0_2 := c_w1_w_0 2
  conv at c_w1_w_0_2 => rhs; simp [go_sem, *]
  have f_w1_w_0_2 := f_w1_w_0 2
  conv at f_w1_w_0_2 => rhs; simp [go_sem, *]
  have c_w1_w_0_3 := c_w1_w_0 3
  conv at c_w1_w_0_3 => rhs; simp [go_sem, *]
  have f_w1_w_0_3 := f_w1_w_0 3
  conv at f_w1_w_0_3 => rhs; simp [go_sem, *]
  have c_w1_w_0_4 := c_w1_w_0 4
  conv at c_w1_w_0_4 => rhs; simp [go_sem, *]
  have f_w1_w_0_4 := f_w1_w_0 4
  conv at f_w1_w_0_4 => rhs; simp [go_sem, *]
  have c_w1_w_0_5 := c_w1_w_0 5
  conv at c_w1_w_0_5 => rhs; simp [go_sem, *]
  have f_w1_w_0_5 := f_w1_w_0 5
  conv at f_w1_w_0_5 => rhs; simp [go_sem, *]
  obtain ⟨c_w1_w_1, f_w1_w_1⟩ := bk hb_w1 (w.heap.size + 1) (by first | omega | (simp <;> omega))
  have c_w1_w_1_0 := c_w1_w_1 0
  conv at c_w1_w_1_0 => rhs; simp [go_sem, *]
  have f_w1_w_1_0 := f_w1_w_1 0
  conv at f_w1_w_1_0 => rhs; simp [go_sem, *]
  have c_w1_w_1_1 := c_w1_w_1 1
  conv at c_w1_w_1_1 => rhs; simp [go_sem, *]
  have f_w1_w_1_1 := f_w1_w_1 1
  conv at f_w1_w_1_1 => rhs; simp [go_sem, *]
  have c_w1_w_1_2 := c_w1_w_1 2
  conv at c_w1_w_1_2 => rhs; simp [go_sem, *]
  have f_w1_w_1_2 := f_w1_w_1 2
  conv at f_w1_w_1_2 => rhs; simp [go_sem, *]
  have c_w1_w_1_3 := c_w1_w_1 3
  conv at c_w1_w_1_3 => rhs; simp [go_sem, *]
  have f_w1_w_1_3 := f_w1_w_1 3
  conv at f_w1_w_1_3 => rhs; simp [go_sem, *]
  have c_w1_w_1_4 := c_w1_w_1 4
  conv at c_w1_w_1_4 => rhs; simp [go_sem, *]
  have f_w1_w_1_4 := f_w1_w_1 4
  conv at f_w1_w_1_4 => rhs; simp [go_sem, *]
  have c_w1_w_1_5 := c_w1_w_1 5
  conv at c_w1_w_1_5 => rhs; simp [go_sem, *]
  have f_w1_w_1_5 := f_w1_w_1 5
  conv at f_w1_w_1_5 => rhs; simp [go_sem, *]
  have hB_w1 : Below w.heap.size w w1 := Below.trans (by (repeat (first | (with_reducible exact Below.refl _ _) | (with_reducible assumption) | (with_reducible refine Below.drew ?_) | (focus ((with_reducible refine Below.setCell ?_ ?_ _); rotate_left; (first | omega | (simp <;> omega)))) | (focus ((with_reducible refine Below.alloc ?_ ?_ _); rotate_left; (first | omega | (simp <;> omega)))) | exact Below.refl _ _ | assumption | refine Below.drew ?_ | refine Below.alloc ?_ (by first | omega | (simp <;> omega)) _ | refine Below.setCell ?_ (by first | omega | (simp <;> omega)) _))) (hb_w1.mono (by first | omega | (simp <;> omega)))
  clear hb_w1 c_w1_w_0 f_w1_w_0 c_w1_w_1 f_w1_w_1
  have far_w1_w_0 := far (show w.heap.size < w1.heap.size by omega)
  have far_w1_w_1 := far (show w.heap.size + 1 < w1.heap.size by omega)
  go_wp2_with fail
  refine Calls.mono (same_below (CB.out _)) ?_
  rintro e w2 ⟨rfl, hb_w2⟩
  have hz_w2 := hb_w2.size
  try simp at hz_w2
  obtain ⟨c_w2_w_0, f_w2_w_0⟩ := bk hb_w2 (w.heap.size) (by first | omega | (simp <;> omega))
  have c_w2_w_0_0 := c_w2_w_0 0
  conv at c_w2_w_0_0 => rhs; simp [go_sem, *]
  have f_w2_w_0_0 := f_w2_w_0 0
  conv at f_w2_w_0_0 => rhs; simp [go_sem, *]
  have c_w2_w_0_1 := c_w2_w_0 1
  conv at c_w2_w_0_1 => rhs; simp [go_sem, *]
  have f_w2_w_0_1 := f_w2_w_0 1
  conv at f_w2_w_0_1 => rhs; simp [go_sem, *]
  have c_w2_w_0_2 := c_w2_w_0 2
  conv at c_w2_w_0_2 => rhs; simp [go_sem, *]
  have f_w2_w_0_2 := f_w2_w_0 2
  conv at f_w2_w_0_2 => rhs; simp [go_sem, *]
  have c_w2_w_0_3 := c_w2_w_0 3
  conv at c_w2_w_0_3 => rhs; simp [go_sem, *]
  have f_w2_w_0_3 := f_w2_w_0 3
  conv at f_w2_w_0_3 => rhs; simp [go_sem, *]
  have c_w2_w_0_4 := c_w2_w_0 4
  conv at c_w2_w_0_4 => rhs; simp [go_sem, *]
  have f_w2_w_0_4 := f_w2_w_0 4
  conv at f_w2_w_0_4 => rhs; simp [go_sem, *]
  have c_w2_w_0_5 := c_w2_w_0 5
  conv at c_w2_w_0_5 => rhs; simp [go_sem, *]
  have f_w2_w_0_5 := f_w2_w_0 5
  conv at f_w2_w_0_5 => rhs; simp [go_sem, *]
  obtain ⟨c_w2_w_1, f_w2_w_1⟩ := bk hb_w2 (w.heap.size + 1) (by first | omega | (simp <;> omega))
  have c_w2_w_1_0 := c_w2_w_1 0
  conv at c_w2_w_1_0 => rhs; simp [go_sem, *]
  have f_w2_w_1_0 := f_w2_w_1 0
  conv at f_w2_w_1_0 => rhs; simp [go_sem, *]
  have c_w2_w_1_1 := c_w2_w_1 1
  conv at c_w2_w_1_1 => rhs; simp [go_sem, *]
  have f_w2_w_1_1 := f_w2_w_1 1
  conv at f_w2_w_1_1 => rhs; simp [go_sem, *]
  have c_w2_w_1_2 := c_w2_w_1 2
  conv at c_w2_w_1_2 => rhs; simp [go_sem, *]
  have f_w2_w_1_2 := f_w2_w_1 2
  conv at f_w2_w_1_2 => rhs; simp [go_sem, *]
  have c_w2_w_1_3 := c_w2_w_1 3
  conv at c_w2_w_1_3 => rhs; simp [go_sem, *]
  have f_w2_w_1_3 := f_w2_w_1 3
  conv at f_w2_w_1_3 => rhs; simp [go_sem, *]
  have c_w2_w_1_4 := c_w2_w_1 4
  conv at c_w2_w_1_4 => rhs; simp [go_sem, *]
  have f_w2_w_1_4 := f_w2_w_1 4
  conv at f_w2_w_1_4 => rhs; simp [go_sem, *]
  have c_w2_w_1_5 := c_w2_w_1 5
  conv at c_w2_w_1_5 => rhs; simp [go_sem, *]
  have f_w2_w_1_5 := f_w2_w_1 5
  conv at f_w2_w_1_5 => rhs; simp [go_sem, *]
  have hB_w2 : Below w.heap.size w w2 := Below.trans (by (repeat (first | (with_reducible exact Below.refl _ _) | (with_reducible assumption) | (with_reducible refine Below.drew ?_) | (focus ((with_reducible refine Below.setCell ?_ ?_ _); rotate_left; (first | omega | (simp <;> omega)))) | (focus ((with_reducible refine Below.alloc ?_ ?_ _); rotate_left; (first | omega | (simp <;> omega)))) | exact Below.refl _ _ | assumption | refine Below.drew ?_ | refine Below.alloc ?_ (by first | omega | (simp <;> omega)) _ | refine Below.setCell ?_ (by first | omega | (simp <;> omega)) _))) (hb_w2.mono (by first | omega | (simp <;> omega)))
  clear hb_w2 c_w2_w_0 f_w2_w_0 c_w2_w_1 f_w2_w_1
  try clear c_w1_w_0_0
  try clear f_w1_w_0_0
  try clear c_w1_w_0_1
  try clear f_w1_w_0_1
  try clear c_w1_w_0_2
  try clear f_w1_w_0_2
  try clear c_w1_w_0_3
  try clear f_w1_w_0_3
  try clear c_w1_w_0_4
  try clear f_w1_w_0_4
  try clear c_w1_w_0_5
  try clear f_w1_w_0_5
  try clear c_w1_w_1_0
  try clear f_w1_w_1_0
  try clear c_w1_w_1_1
  try clear f_w1_w_1_1
  try clear c_w1_w_1_2
  try clear f_w1_w_1_2
  try clear c_w1_w_1_3
  try clear f_w1_w_1_3
  try clear c_w1_w_1_4
  try clear f_w1_w_1_4
  try clear c_w1_w_1_5
  try clear f_w1_w_1_5
  try clear far_w1_w_0
  try clear far_w1_w_1
  try clear hB_w1
  have far_w2_w_0 := far (show w.heap.size < w2.heap.size by omega)
  have far_w2_w_1 := far (show w.heap.size + 1 < w2.heap.size by omega)
  go_wp2_with fail
  refine Calls.mono (same_below (CF.out _)) ?_
  rintro e w7 ⟨rfl, hb_w7⟩
  have hz_w7 := hb_w7.size
  try simp at hz_w7
  obtain ⟨c_w7_w_0, f_w7_w_0⟩ := bk hb_w7 (w.heap.size) (by first | omega | (simp <;> omega))
  have c_w7_w_0_0 := c_w7_w_0 0
  conv at c_w7_w_0_0 => rhs; simp [go_sem, *]
  have f_w7_w_0_0 := f_w7_w_0 0
  conv at f_w7_w_0_0 => rhs; simp [go_sem, *]
  have c_w7_w_0_1 := c_w7_w_0 1
  conv at c_w7_w_0_1 => rhs; simp [go_sem, *]
  have f_w7_w_0_1 := f_w7_w_0 1
  conv at f_w7_w_0_1 => rhs; simp [go_sem, *]
  have c_w7_w_0_2 := c_w7_w_0 2
  conv at c_w7_w_0_2 => rhs; simp [go_sem, *]
  have f_w7_w_0_2 := f_w7_w_0 2
  conv at f_w7_w_0_2 => rhs; simp [go_sem, *]
  have c_w7_w_0_3 := c_w7_w_0 3
  conv at c_w7_w_0_3 => rhs; simp [go_sem, *]
  have f_w7_w_0_3 := f_w7_w_0 3
  conv at f_w7_w_0_3 => rhs; simp [go_sem, *]
  have c_w7_w_0_4 := c_w7_w_0 4
  conv at c_w7_w_0_4 => rhs; simp [go_sem, *]
  have f_w7_w_0_4 := f_w7_w_0 4
  conv at f_w7_w_0_4 => rhs; simp [go_sem, *]
  have c_w7_w_0_5 := c_w7_w_0 5
  conv at c_w7_w_0_5 => rhs; simp [go_sem, *]
  have f_w7_w_0_5 := f_w7_w_0 5
  conv at f_w7_w_0_5 => rhs; simp [go_sem, *]
  obtain ⟨c_w7_w_1, f_w7_w_1⟩ := bk hb_w7 (w.heap.size + 1) (by first | omega | (simp <;> omega))
  have c_w7_w_1_0 := c_w7_w_1 0
  conv at c_w7_w_1_0 => rhs; simp [go_sem, *]
  have f_w7_w_1_0 := f_w7_w_1 0
  conv at f_w7_w_1_0 => rhs; simp [go_sem, *]
  have c_w7_w_1_1 := c_w7_w_1 1
  conv at c_w7_w_1_1 => rhs; simp [go_sem, *]
  have f_w7_w_1_1 := f_w7_w_1 1
  conv at f_w7_w_1_1 => rhs; simp [go_sem, *]
  have c_w7_w_1_2 := c_w7_w_1 2
  conv at c_w7_w_1_2 => rhs; simp [go_sem, *]
  have f_w7_w_1_2 := f_w7_w_1 2
  conv at f_w7_w_1_2 => rhs; simp [go_sem, *]
  have c_w7_w_1_3 := c_w7_w_1 3
  conv at c_w7_w_1_3 => rhs; simp [go_sem, *]
  have f_w7_w_1_3 := f_w7_w_1 3
  conv at f_w7_w_1_3 => rhs; simp [go_sem, *]
  have c_w7_w_1_4 := c_w7_w_1 4
  conv at c_w7_w_1_4 => rhs; simp [go_sem, *]
  have f_w7_w_1_4 := f_w7_w_1 4
  conv at f_w7_w_1_4 => rhs; simp [go_sem, *]
  have c_w7_w_1_5 := c_w7_w_1 5
  conv at c_w7_w_1_5 => rhs; simp [go_sem, *]
  have f_w7_w_1_5 := f_w7_w_1 5
  conv at f_w7_w_1_5 => rhs; simp [go_sem, *]
  have hB_w7 : Below w.heap.size w w7 := Below.trans (by (repeat (first | (with_reducible exact Below.refl _ _) | (with_reducible assumption) | (with_reducible refine Below.drew ?_) | (focus ((with_reducible refine Below.setCell ?_ ?_ _); rotate_left; (first | omega | (simp <;> omega)))) | (focus ((with_reducible refine Below.alloc ?_ ?_ _); rotate_left; (first | omega | (simp <;> omega)))) | exact Below.refl _ _ | assumption | refine Below.drew ?_ | refine Below.alloc ?_ (by first | omega | (simp <;> omega)) _ | refine Below.setCell ?_ (by first | omega | (simp <;> omega)) _))) (hb_w7.mono (by first | omega | (simp <;> omega)))
  clear hb_w7 c_w7_w_0 f_w7_w_0 c_w7_w_1 f_w7_w_1
  try clear c_w2_w_0_0
  try clear f_w2_w_0_0
  try clear c_w2_w_0_1
  try clear f_w2_w_0_1
  try clear c_w2_w_0_2
  try clear f_w2_w_0_2
  try clear c_w2_w_0_3
  try clear f_w2_w_0_3
  try clear c_w2_w_0_4
  try clear f_w2_w_0_4
  try clear c_w2_w_0_5
  try clear f_w2_w_0_5
  try clear c_w2_w_1_0
  try clear f_w2_w_1_0
  try clear c_w2_w_1_1
  try clear f_w2_w_1_1
  try clear c_w2_w_1_2
  try clear f_w2_w_1_2
  try clear c_w2_w_1_3
  try clear f_w2_w_1_3
  try clear c_w2_w_1_4
  try clear f_w2_w_1_4
  try clear c_w2_w_1_5
  try clear f_w2_w_1_5
  try clear far_w2_w_0
  try clear far_w2_w_1
  try clear hB_w2
  have far_w7_w_0 := far (show w.heap.size < w7.heap.size by omega)
  have far_w7_w_1 := far (show w.heap.size + 1 < w7.heap.size by omega)
  by_cases hq : 0 ≤ ix
  · obtain ⟨m, rfl⟩ : ∃ m : Nat, ix = m := ⟨ix.toNat, by omega⟩
    have HC := Lib.hid (show cut1 s 63 = (s.take m, s.drop (m + 1), true) by unfold cut1; rw [hix]; simp)
    simp only [HC.out] at CR HY
    go_wp2_with fail
    refine Calls.mono (CR.out _ (by (repeat (first | (with_reducible exact Below.refl _ _) | (with_reducible assumption) | (with_reducible refine Below.drew ?_) | (focus ((with_reducible refine Below.setCell ?_ ?_ _); rotate_left; (first | omega | (simp <;> omega)))) | (focus ((with_reducible refine Below.alloc ?_ ?_ _); rotate_left; (first | omega | (simp <;> omega)))) | exact Below.refl _ _ | assumption | refine Below.drew ?_ | refine Below.alloc ?_ (by first | omega | (simp <;> omega)) _ | refine Below.setCell ?_ (by first | omega | (simp <;> omega)) _)))) ?_
    rintro e w8 ⟨rfl, hb_w8⟩
    have hz_w8 := hb_w8.size
    try simp at hz_w8
    obtain ⟨c_w8_w_0, f_w8_w_0⟩ := bk hb_w8 (w.heap.size) (by first | omega | (simp <;> omega))
    have c_w8_w_0_0 := c_w8_w_0 0
    conv at c_w8_w_0_0 => rhs; simp [go_sem, *]
    have f_w8_w_0_0 := f_w8_w_0 0
    conv at f_w8_w_0_0 => rhs; simp [go_sem, *]
    have c_w8_w_0_1 := c_w8_w_0 1
    conv at c_w8_w_0_1 => rhs; simp [go_sem, *]
    have f_w8_w_0_1 := f_w8_w_0 1
    conv at f_w8_w_0_1 => rhs; simp [go_sem, *]
    have c_w8_w_0_2 := c_w8_w_0 2
    conv at c_w8_w_0_2 => rhs; simp [go_sem, *]
    have f_w8_w_0_2 := f_w8_w_0 2
    conv at f_w8_w_0_2 => rhs; simp [go_sem, *]
    have c_w8_w_0_3 := c_w8_w_0 3
    conv at c_w8_w_0_3 => rhs; simp [go_sem, *]
    have f_w8_w_0_3 := f_w8_w_0 3
    conv at f_w8_w_0_3 => rhs; simp [go_sem, *]
    have c_w8_w_0_4 := c_w8_w_0 4
    conv at c_w8_w_0_4 => rhs; simp [go_sem, *]
    have f_w8_w_0_4 := f_w8_w_0 4
    conv at f_w8_w_0_4 => rhs; simp [go_sem, *]
    have c_w8_w_0_5 := c_w8_w_0 5
    conv at c_w8_w_0_5 => rhs; simp [go_sem, *]
    have f_w8_w_0_5 := f_w8_w_0 5
    conv at f_w8_w_0_5 => rhs; simp [go_sem, *]
    obtain ⟨c_w8_w_1, f_w8_w_1⟩ := bk hb_w8 (w.heap.size + 1) (by first | omega | (simp <;> omega))
    have c_w8_w_1_0 := c_w8_w_1 0
    conv at c_w8_w_1_0 => rhs; simp [go_sem, *]
    have f_w8_w_1_0 := f_w8_w_1 0
    conv at f_w8_w_1_0 => rhs; simp [go_sem, *]
    have c_w8_w_1_1 := c_w8_w_1 1
    conv at c_w8_w_1_1 => rhs; simp [go_sem, *]
    have f_w8_w_1_1 := f_w8_w_1 1
    conv at f_w8_w_1_1 => rhs; simp [go_sem, *]
    have c_w8_w_1_2 := c_w8_w_1 2
    conv at c_w8_w_1_2 => rhs; simp [go_sem, *]
    have f_w8_w_1_2 := f_w8_w_1 2
    conv at f_w8_w_1_2 => rhs; simp [go_sem, *]
    have c_w8_w_1_3 := c_w8_w_1 3
    conv at c_w8_w_1_3 => rhs; simp [go_sem, *]
    have f_w8_w_1_3 := f_w8_w_1 3
    conv at f_w8_w_1_3 => rhs; simp [go_sem, *]
    have c_w8_w_1_4 := c_w8_w_1 4
    conv at c_w8_w_1_4 => rhs; simp [go_sem, *]
    have f_w8_w_1_4 := f_w8_w_1 4
    conv at f_w8_w_1_4 => rhs; simp [go_sem, *]
    have c_w8_w_1_5 := c_w8_w_1 5
    conv at c_w8_w_1_5 => rhs; simp [go_sem, *]
    have f_w8_w_1_5 := f_w8_w_1 5
    conv at f_w8_w_1_5 => rhs; simp [go_sem, *]
    have hB_w8 : Below w.heap.size w w8 := Below.trans (by (repeat (first | (with_reducible exact Below.refl _ _) | (with_reducible assumption) | (with_reducible refine Below.drew ?_) | (focus ((with_reducible refine Below.setCell ?_ ?_ _); rotate_left; (first | omega | (simp <;> omega)))) | (focus ((with_reducible refine Below.alloc ?_ ?_ _); rotate_left; (first | omega | (simp <;> omega)))) | exact Below.refl _ _ | assumption | refine Below.drew ?_ | refine Below.alloc ?_ (by first | omega | (simp <;> omega)) _ | refine Below.setCell ?_ (by first | omega | (simp <;> omega)) _))) (hb_w8.mono (by first | omega | (simp <;> omega)))
    clear hb_w8 c_w8_w_0 f_w8_w_0 c_w8_w_1 f_w8_w_1
    try clear c_w7_w_0_0
    try clear f_w7_w_0_0
    try clear c_w7_w_0_1
    try clear f_w7_w_0_1
    try clear c_w7_w_0_2
    try clear f_w7_w_0_2
    try clear c_w7_w_0_3
    try clear f_w7_w_0_3
    try clear c_w7_w_0_4
    try clear f_w7_w_0_4
    try clear c_w7_w_0_5
    try clear f_w7_w_0_5
    try clear c_w7_w_1_0
    try clear f_w7_w_1_0
    try clear c_w7_w_1_1
    try clear f_w7_w_1_1
    try clear c_w7_w_1_2
    try clear f_w7_w_1_2
    try clear c_w7_w_1_3
    try clear f_w7_w_1_3
    try clear c_w7_w_1_4
    try clear f_w7_w_1_4
    try clear c_w7_w_1_5
    try clear f_w7_w_1_5
    try clear far_w7_w_0
    try clear far_w7_w_1
    try clear hB_w7
    have far_w8_w_0 := far (show w.heap.size < w8.heap.size by omega)
    have far_w8_w_1 := far (show w.heap.size + 1 < w8.heap.size by omega)
    cases ok with
    | false =>
      go_wp2
      refine bodyPost_ret (v := .tuple #[uv false [] 0 [] false [], .int .i64 20]) (by simp [results, Tryd.results9, go_sem, *]) rfl ⟨by rw [HN.out (by simp)]; rfl, ?_⟩
      (repeat (first | (with_reducible exact Below.refl _ _) | (with_reducible assumption) | (with_reducible refine Below.drew ?_) | (focus ((with_reducible refine Below.setCell ?_ ?_ _); rotate_left; (first | omega | (simp <;> omega)))) | (focus ((with_reducible refine Below.alloc ?_ ?_ _); rotate_left; (first | omega | (simp <;> omega)))) | exact Below.refl _ _ | assumption | refine Below.drew ?_ | refine Below.alloc ?_ (by first | omega | (simp <;> omega)) _ | refine Below.setCell ?_ (by first | omega | (simp <;> omega)) _))
    | true =>
      go_wp2
      refine bodyPost_ret (v := .tuple #[uv false [] 0 (s.take m) true (s.drop (m + 1)), .int .i64 0]) (by simp [results, Tryd.results9, go_sem, *]) rfl ⟨by rw [HY.out (by simp)], ?_⟩
      (repeat (first | (with_reducible exact Below.refl _ _) | (with_reducible assumption) | (with_reducible refine Below.drew ?_) | (focus ((with_reducible refine Below.setCell ?_ ?_ _); rotate_left; (first | omega | (simp <;> omega)))) | (focus ((with_reducible refine Below.alloc ?_ ?_ _); rotate_left; (first | omega | (simp <;> omega)))) | exact Below.refl _ _ | assumption | refine Below.drew ?_ | refine Below.alloc ?_ (by first | omega | (simp <;> omega)) _ | refine Below.setCell ?_ (by first | omega | (simp <;> omega)) _))
  · skip
    have HC := Lib.hid (show cut1 s 63 = (s, [], false) by unfold cut1; rw [hix]; simp [hq])
    simp only [HC.out] at CR HY
    go_wp2_with fail
    refine Calls.mono (CR.out _ (by (repeat (first | (with_reducible exact Below.refl _ _) | (with_reducible assumption) | (with_reducible refine Below.drew ?_) | (focus ((with_reducible refine Below.setCell ?_ ?_ _); rotate_left; (first | omega | (simp <;> omega)))) | (focus ((with_reducible refine Below.alloc ?_ ?_ _); rotate_left; (first | omega | (simp <;> omega)))) | exact Below.refl _ _ | assumption | refine Below.drew ?_ | refine Below.alloc ?_ (by first | omega | (simp <;> omega)) _ | refine Below.setCell ?_ (by first | omega | (simp <;> omega)) _)))) ?_
    rintro e w8 ⟨rfl, hb_w8⟩
    have hz_w8 := hb_w8.size
    try simp at hz_w8
    obtain ⟨c_w8_w_0, f_w8_w_0⟩ := bk hb_w8 (w.heap.size) (by first | omega | (simp <;> omega))
    have c_w8_w_0_0 := c_w8_w_0 0
    conv at c_w8_w_0_0 => rhs; simp [go_sem, *]
    have f_w8_w_0_0 := f_w8_w_0 0
    conv at f_w8_w_0_0 => rhs; simp [go_sem, *]
    have c_w8_w_0_1 := c_w8_w_0 1
    conv at c_w8_w_0_1 => rhs; simp [go_sem, *]
    have f_w8_w_0_1 := f_w8_w_0 1
    conv at f_w8_w_0_1 => rhs; simp [go_sem, *]
    have c_w8_w_0_2 := c_w8_w_0 2
    conv at c_w8_w_0_2 => rhs; simp [go_sem, *]
    have f_w8_w_0_2 := f_w8_w_0 2
    conv at f_w8_w_0_2 => rhs; simp [go_sem, *]
    have c_w8_w_0_3 := c_w8_w_0 3
    conv at c_w8_w_0_3 => rhs; simp [go_sem, *]
    have f_w8_w_0_3 := f_w8_w_0 3
    conv at f_w8_w_0_3 => rhs; simp [go_sem, *]
    have c_w8_w_0_4 := c_w8_w_0 4
    conv at c_w8_w_0_4 => rhs; simp [go_sem, *]
    have f_w8_w_0_4 := f_w8_w_0 4
    conv at f_w8_w_0_4 => rhs; simp [go_sem, *]
    have c_w8_w_0_5 := c_w8_w_0 5
    conv at c_w8_w_0_5 => rhs; simp [go_sem, *]
    have f_w8_w_0_5 := f_w8_w_0 5
    conv at f_w8_w_0_5 => rhs; simp [go_sem, *]
    obtain ⟨c_w8_w_1, f_w8_w_1⟩ := bk hb_w8 (w.heap.size + 1) (by first | omega | (simp <;> omega))
    have c_w8_w_1_0 := c_w8_w_1 0
    conv at c_w8_w_1_0 => rhs; simp [go_sem, *]
    have f_w8_w_1_0 := f_w8_w_1 0
    conv at f_w8_w_1_0 => rhs; simp [go_sem, *]
    have c_w8_w_1_1 := c_w8_w_1 1
    conv at c_w8_w_1_1 => rhs; simp [go_sem, *]
    have f_w8_w_1_1 := f_w8_w_1 1
    conv at f_w8_w_1_1 => rhs; simp [go_sem, *]
    have c_w8_w_1_2 := c_w8_w_1 2
    conv at c_w8_w_1_2 => rhs; simp [go_sem, *]
    have f_w8_w_1_2 := f_w8_w_1 2
    conv at f_w8_w_1_2 => rhs; simp [go_sem, *]
    have c_w8_w_1_3 := c_w8_w_1 3
    conv at c_w8_w_1_3 => rhs; simp [go_sem, *]
    have f_w8_w_1_3 := f_w8_w_1 3
    conv at f_w8_w_1_3 => rhs; simp [go_sem, *]
    have c_w8_w_1_4 := c_w8_w_1 4
    conv at c_w8_w_1_4 => rhs; simp [go_sem, *]
    have f_w8_w_1_4 := f_w8_w_1 4
    conv at f_w8_w_1_4 => rhs; simp [go_sem, *]
    have c_w8_w_1_5 := c_w8_w_1 5
    conv at c_w8_w_1_5 => rhs; simp [go_sem, *]
    have f_w8_w_1_5 := f_w8_w_1 5
    conv at f_w8_w_1_5 => rhs; simp [go_sem, *]
    have hB_w8 : Below w.heap.size w w8 := Below.trans (by (repeat (first | (with_reducible exact Below.refl _ _) | (with_reducible assumption) | (with_reducible refine Below.drew ?_) | (focus ((with_reducible refine Below.setCell ?_ ?_ _); rotate_left; (first | omega | (simp <;> omega)))) | (focus ((with_reducible refine Below.alloc ?_ ?_ _); rotate_left; (first | omega | (simp <;> omega)))) | exact Below.refl _ _ | assumption | refine Below.drew ?_ | refine Below.alloc ?_ (by first | omega | (simp <;> omega)) _ | refine Below.setCell ?_ (by first | omega | (simp <;> omega)) _))) (hb_w8.mono (by first | omega | (simp <;> omega)))
    clear hb_w8 c_w8_w_0 f_w8_w_0 c_w8_w_1 f_w8_w_1
    have far_w8_w_0 := far (show w.heap.size < w8.heap.size by omega)
    have far_w8_w_1 := far (show w.heap.size + 1 < w8.heap.size by omega)
    cases ok with
    | false =>
      go_wp2
      refine bodyPost_ret (v := .tuple #[uv false [] 0 [] false [], .int .i64 20]) (by simp [results, Tryd.results9, go_sem, *]) rfl ⟨by rw [HN.out (by simp)]; rfl, ?_⟩
      (repeat (first | (with_reducible exact Below.refl _ _) | (with_reducible assumption) | (with_reducible refine Below.drew ?_) | (focus ((with_reducible refine Below.setCell ?_ ?_ _); rotate_left; (first | omega | (simp <;> omega)))) | (focus ((with_reducible refine Below.alloc ?_ ?_ _); rotate_left; (first | omega | (simp <;> omega)))) | exact Below.refl _ _ | assumption | refine Below.drew ?_ | refine Below.alloc ?_ (by first | omega | (simp <;> omega)) _ | refine Below.setCell ?_ (by first | omega | (simp <;> omega)) _))
    | true =>
      go_wp2
      refine bodyPost_ret (v := .tuple #[uv false [] 0 s false [], .int .i64 0]) (by simp [results, Tryd.results9, go_sem, *]) rfl ⟨by rw [HY.out (by simp)], ?_⟩
      (repeat (first | (with_reducible exact Below.refl _ _) | (with_reducible assumption) | (with_reducible refine Below.drew ?_) | (focus ((with_reducible refine Below.setCell ?_ ?_ _); rotate_left; (first | omega | (simp <;> omega)))) | (focus ((with_reducible refine Below.alloc ?_ ?_ _); rotate_left; (first | omega | (simp <;> omega)))) | exact Below.refl _ _ | assumption | refine Below.drew ?_ | refine Below.alloc ?_ (by first | omega | (simp <;> omega)) _ | refine Below.setCell ?_ (by first | omega | (simp <;> omega)) _))

set_option maxHeartbeats 6400000 in
set_option maxRecDepth 100000 in
theorem refParse_abs (s : List UInt8) (hs : s.length ≤ 500) (hB : httpB s = true) (hpb : placeB ((s.drop 7).take (endOf (s.drop 7))) = true) (w : World) (hL : Laid w) :
    Calls Tryd.prog 9 #[.string (S s)] w fun e w' => e = .returned (.tuple #[(parseL s).1.v, .int .i64 (parseL s).2]) ∧ Below w.heap.size w w' := by
  obtain ⟨t, ht⟩ : ∃ t, s.drop 7 = t := ⟨_, rfl⟩
  have htl : t.length ≤ 493 := by rw [← ht, List.length_drop]; have : 7 ≤ s.length := by (unfold httpB at hB; simp at hB; omega)
                                  omega
  have h7 : 7 ≤ s.length := by unfold httpB at hB; simp at hB; omega
  have CL := Lib.hid (fun W => refLower s (by omega) W)
  have CB := Lib.hid (fun W => begins_S (s := lower s) (t := httpL) (b := true) (by rw [lower_len]; omega) (by decide) (by rw [httpB_ref, hB]) W)
  unfold httpL at CB
  have hel := endOf_le t
  have CP := Lib.hid (fun W => refPlace (t.take (endOf t)) (by rw [List.length_take]; omega) W)
  have htail := tailOf_len t
  have CF := Lib.hid (fun W => refFind (tailOf t) 63 (by omega) W)
  have CR := Lib.hid (fun W (hbl : Below w.heap.size w W) => refRightC (absOf t) (absOf_mid t (by omega)) (W := W) hL hbl)
  have HP := show parseL s = if placeB (t.take (endOf t)) && (absOf t).ok then (absOf t, 0) else (UU.nil, 20) by unfold parseL; rw [if_neg (by omega), hB, ht]; simp
  obtain ⟨p, hp⟩ : ∃ x, parseL s = x := ⟨_, rfl⟩
  rw [hp] at HP ⊢
  rw [ht] at hpb
  rw [hpb] at CP HP
  obtain ⟨ok, hok⟩ : ∃ x, (absOf t).ok = x := ⟨_, rfl⟩
  rw [hok] at HP
  rw [hok] at CR
  have HN := Lib.hid (show ok = false → p = (UU.nil, 20) from fun h => by rw [HP, h]; simp)
  have HY := Lib.hid (show true = true → ok = true → p = (absOf t, 0) from fun h h' => by rw [HP, ← h, h']; simp)
  clear HP hp hok hpb hB hL
  unfold absOf at CR HY
  have HT := tailOf_ref t
  obtain ⟨E1, E2⟩ := endOf_spec t
  obtain ⟨r, hr⟩ : ∃ x, tailOf t = x := ⟨_, rfl⟩
  rw [hr] at CF CR HY HT htail
  obtain ⟨e, he⟩ : ∃ x, endOf t = x := ⟨_, rfl⟩
  rw [he] at CP CR HY HT hel E1 E2
  obtain ⟨hh, hhh⟩ : ∃ x, placeH (t.take e) = x := ⟨_, rfl⟩
  obtain ⟨nn, hnn⟩ : ∃ x, placeN (t.take e) = x := ⟨_, rfl⟩
  simp only [hhh, hnn] at CP CR HY
  obtain ⟨d, hd⟩ : ∃ x, t.drop e = x := ⟨_, rfl⟩
  rw [hd] at HT
  have hge := Lib.indexByte_ge r 63
  have hlt := indexByte_lt r 63
  obtain ⟨ix, hix⟩ : ∃ x, Lib.indexByte r 63 = x := ⟨_, rfl⟩
  rw [hix] at CF hge hlt
  have hdl : d.length ≤ t.length := by rw [← hd, List.length_drop]; omega
  have CD := Lib.hid (fun W => begins_S (s := d) (t := [47]) (by omega) (by decide) rfl W)
  obtain ⟨bd, hbd⟩ : ∃ x, Lib.hasPrefix d [47] = x := ⟨_, rfl⟩
  rw [hbd] at CD HT
  clear hr he hhh hnn hbd
  have hE1 := Lib.hid E1
  have hE2 := Lib.hid E2
  clear E1 E2
  simp only [UU.v] at CR ⊢
  have hle : ¬ 500 < (s.length : Int) := by omega
  go_enter Tryd.func9, Tryd.ntmps9
  go_wp2_with fail
  refine Calls.mono (CL.out _) ?_
  rintro e w1 ⟨rfl, hb_w1⟩
  have hz_w1 := hb_w1.size
  try simp at hz_w1
  obtain ⟨c_w1_w_0, f_w1_w_0⟩ := bk hb_w1 (w.heap.size) (by first | omega | (simp <;> omega))
  have c_w1_w_0_0 := c_w1_w_0 0
  conv at c_w1_w_0_0 => rhs; simp [go_sem, *]
  have f_w1_w_0_0 := f_w1_w_0 0
  conv at f_w1_w_0_0 => rhs; simp [go_sem, *]
  have c_w1_w_0_1 := c_w1_w_0 1
  conv at c_w1_w_0_1 => rhs; simp [go_sem, *]
  have f_w1_w_0_1 := f_w1_w_0 1
  conv at f_w1_w_0_1 => rhs; simp [go_sem, *]
  have c_w1_w_0_2 := c_w1_w_0 2
  conv at c_w1_w_0_2 => rhs; simp [go_sem, *]
  have f_w1_w_0_2 := f_w1_w_0 2
  conv at f_w1_w_0_2 => rhs; simp [go_sem, *]
  have c_w1_w_0_3 := c_w1_w_0 3
  conv at c_w1_w_0_3 => rhs; simp [go_sem, *]
  have f_w1_w_0_3 := f_w1_w_0 3
  conv at f_w1_w_0_3 => rhs; simp [go_sem, *]
  have c_w1_w_0_4 := c_w1_w_0 4
  conv at c_w1_w_0_4 => rhs; simp [go_sem, *]
  have f_w1_w_0_4 := f_w1_w_0 4
  conv at f_w1_w_0_4 => rhs; simp [go_sem, *]
  have c_w1_w_0_5 := c_w1_w_0 5
  conv at c_w1_w_0_5 => rhs; simp [go_sem, *]
  have f_w1_w_0_5 := f_w1_w_0 5
  conv at f_w1_w_0_5 => rhs; simp [go_sem, *]
  obtain ⟨c_w1_w_1, f_w1_w_1⟩ := bk hb_w1 (w.heap.size + 1) (by first | omega | (simp <;> omega))
  have c_w1_w_1_0 := c_w1_w_1 0
  conv at c_w1_w_1_0 => rhs; simp [go_sem, *]
  have f_w1_w_1_0 := f_w1_w_1 0
  conv at f_w1_w_1_0 => rhs; simp [go_sem, *]
  have c_w1_w_1_1 := c_w1_w_1 1
  conv at c_w1_w_1_1 => rhs; simp [go_sem, *]
  have f_w1_w_1_1 := f_w1_w_1 1
  conv at f_w1_w_1_1 => rhs; simp [go_sem, *]
  have c_w1_w_1_2 := c_w1_w_1 2
  conv at c_w1_w_1_2 => rhs; simp [go_sem, *]
  have f_w1_w_1_2 := f_w1_w_1 2
  conv at f_w1_w_1_2 => rhs; simp [go_sem, *]
  have c_w1_w_1_3 := c_w1_w_1 3
  conv at c_w1_w_1_3 => rhs; simp [go_sem, *]
  have f_w1_w_1_3 := f_w1_w_1 3
  conv at f_w1_w_1_3 => rhs; simp [go_sem, *]
  have c_w1_w_1_4 := c_w1_w_1 4
  conv at c_w1_w_1_4 => rhs; simp [go_sem, *]
  have f_w1_w_1_4 := f_w1_w_1 4
  conv at f_w1_w_1_4 => rhs; simp [go_sem, *]
  have c_w1_w_1_5 := c_w1_w_1 5
  conv at c_w1_w_1_5 => rhs; simp [go_sem, *]
  have f_w1_w_1_5 := f_w1_w_1 5
  conv at f_w1_w_1_5 => rhs; simp [go_sem, *]
  have hB_w1 : Below w.heap.size w w1 := Below.trans (by (repeat (first | (with_reducible exact Below.refl _ _) | (with_reducible assumption) | (with_reducible refine Below.drew ?_) | (focus ((with_reducible refine Below.setCell ?_ ?_ _); rotate_left; (first | omega | (simp <;> omega)))) | (focus ((with_reducible refine Below.alloc ?_ ?_ _); rotate_left; (first | omega | (simp <;> omega)))) | exact Below.refl _ _ | assumption | refine Below.drew ?_ | refine Below.alloc ?_ (by first | omega | (simp <;> omega)) _ | refine Below.setCell ?_ (by first | omega | (simp <;> omega)) _))) (hb_w1.mono (by first | omega | (simp <;> omega)))
  clear hb_w1 c_w1_w_0 f_w1_w_0 c_w1_w_1 f_w1_w_1
  have far_w1_w_0 := far (show w.heap.size < w1.heap.size by omega)
  have far_w1_w_1 := far (show w.heap.size + 1 < w1.heap.size by omega)
  go_wp2_with fail
  refine Calls.mono (same_below (CB.out _)) ?_
  rintro e w2 ⟨rfl, hb_w2⟩
  have hz_w2 := hb_w2.size
  try simp at hz_w2
  obtain ⟨c_w2_w_0, f_w2_w_0⟩ := bk hb_w2 (w.heap.size) (by first | omega | (simp <;> omega))
  have c_w2_w_0_0 := c_w2_w_0 0
  conv at c_w2_w_0_0 => rhs; simp [go_sem, *]
  have f_w2_w_0_0 := f_w2_w_0 0
  conv at f_w2_w_0_0 => rhs; simp [go_sem, *]
  have c_w2_w_0_1 := c_w2_w_0 1
  conv at c_w2_w_0_1 => rhs; simp [go_sem, *]
  have f_w2_w_0_1 := f_w2_w_0 1
  conv at f_w2_w_0_1 => rhs; simp [go_sem, *]
  have c_w2_w_0_2 := c_w2_w_0 2
  conv at c_w2_w_0_2 => rhs; simp [go_sem, *]
  have f_w2_w_0_2 := f_w2_w_0 2
  conv at f_w2_w_0_2 => rhs; simp [go_sem, *]
  have c_w2_w_0_3 := c_w2_w_0 3
  conv at c_w2_w_0_3 => rhs; simp [go_sem, *]
  have f_w2_w_0_3 := f_w2_w_0 3
  conv at f_w2_w_0_3 => rhs; simp [go_sem, *]
  have c_w2_w_0_4 := c_w2_w_0 4
  conv at c_w2_w_0_4 => rhs; simp [go_sem, *]
  have f_w2_w_0_4 := f_w2_w_0 4
  conv at f_w2_w_0_4 => rhs; simp [go_sem, *]
  have c_w2_w_0_5 := c_w2_w_0 5
  conv at c_w2_w_0_5 => rhs; simp [go_sem, *]
  have f_w2_w_0_5 := f_w2_w_0 5
  conv at f_w2_w_0_5 => rhs; simp [go_sem, *]
  obtain ⟨c_w2_w_1, f_w2_w_1⟩ := bk hb_w2 (w.heap.size + 1) (by first | omega | (simp <;> omega))
  have c_w2_w_1_0 := c_w2_w_1 0
  conv at c_w2_w_1_0 => rhs; simp [go_sem, *]
  have f_w2_w_1_0 := f_w2_w_1 0
  conv at f_w2_w_1_0 => rhs; simp [go_sem, *]
  have c_w2_w_1_1 := c_w2_w_1 1
  conv at c_w2_w_1_1 => rhs; simp [go_sem, *]
  have f_w2_w_1_1 := f_w2_w_1 1
  conv at f_w2_w_1_1 => rhs; simp [go_sem, *]
  have c_w2_w_1_2 := c_w2_w_1 2
  conv at c_w2_w_1_2 => rhs; simp [go_sem, *]
  have f_w2_w_1_2 := f_w2_w_1 2
  conv at f_w2_w_1_2 => rhs; simp [go_sem, *]
  have c_w2_w_1_3 := c_w2_w_1 3
  conv at c_w2_w_1_3 => rhs; simp [go_sem, *]
  have f_w2_w_1_3 := f_w2_w_1 3
  conv at f_w2_w_1_3 => rhs; simp [go_sem, *]
  have c_w2_w_1_4 := c_w2_w_1 4
  conv at c_w2_w_1_4 => rhs; simp [go_sem, *]
  have f_w2_w_1_4 := f_w2_w_1 4
  conv at f_w2_w_1_4 => rhs; simp [go_sem, *]
  have c_w2_w_1_5 := c_w2_w_1 5
  conv at c_w2_w_1_5 => rhs; simp [go_sem, *]
  have f_w2_w_1_5 := f_w2_w_1 5
  conv at f_w2_w_1_5 => rhs; simp [go_sem, *]
  have hB_w2 : Below w.heap.size w w2 := Below.trans (by (repeat (first | (with_reducible exact Below.refl _ _) | (with_reducible assumption) | (with_reducible refine Below.drew ?_) | (focus ((with_reducible refine Below.setCell ?_ ?_ _); rotate_left; (first | omega | (simp <;> omega)))) | (focus ((with_reducible refine Below.alloc ?_ ?_ _); rotate_left; (first | omega | (simp <;> omega)))) | exact Below.refl _ _ | assumption | refine Below.drew ?_ | refine Below.alloc ?_ (by first | omega | (simp <;> omega)) _ | refine Below.setCell ?_ (by first | omega | (simp <;> omega)) _))) (hb_w2.mono (by first | omega | (simp <;> omega)))
  clear hb_w2 c_w2_w_0 f_w2_w_0 c_w2_w_1 f_w2_w_1
  try clear c_w1_w_0_0
  try clear f_w1_w_0_0
  try clear c_w1_w_0_1
  try clear f_w1_w_0_1
  try clear c_w1_w_0_2
  try clear f_w1_w_0_2
  try clear c_w1_w_0_3
  try clear f_w1_w_0_3
  try clear c_w1_w_0_4
  try clear f_w1_w_0_4
  try clear c_w1_w_0_5
  try clear f_w1_w_0_5
  try clear c_w1_w_1_0
  try clear f_w1_w_1_0
  try clear c_w1_w_1_1
  try clear f_w1_w_1_1
  try clear c_w1_w_1_2
  try clear f_w1_w_1_2
  try clear c_w1_w_1_3
  try clear f_w1_w_1_3
  try clear c_w1_w_1_4
  try clear f_w1_w_1_4
  try clear c_w1_w_1_5
  try clear f_w1_w_1_5
  try clear far_w1_w_0
  try clear far_w1_w_1
  try clear hB_w1
  have far_w2_w_0 := far (show w.heap.size < w2.heap.size by omega)
  have far_w2_w_1 := far (show w.heap.size + 1 < w2.heap.size by omega)
  go_wp2_with fail
  go_loop [5] (fun nv => ∃ k : Nat, nv = .int .i64 k ∧ k ≤ e) (fun nv => e - (intOf nv).toNat)
  case atStart => exact ⟨0, rfl, Nat.zero_le _⟩
  case round =>
    obtain ⟨k, rfl, hk⟩ := hrel
    by_cases hke : k < e
    · have hkt : k < t.length := by omega
      obtain ⟨n1, n2⟩ := hE1.out k hke
      go_wp2
      go_round
      case rel => exact ⟨k + 1, by go_num, by omega⟩
      case measure => simp [intOf]; omega
    · obtain rfl : k = e := by omega
      have hcase : ¬ (k < t.length) ∨ (k < t.length ∧ (bAt t k != 47) = false) ∨ (k < t.length ∧ (bAt t k != 47) = true ∧ (bAt t k != 63) = false) := by
        by_cases h : k < t.length
        · rcases hE2.out h with h1 | h1
          · exact .inr (.inl ⟨h, by simp [h1]⟩)
          · exact .inr (.inr ⟨h, by simp [h1], by simp [h1]⟩)
        · exact .inl h
      rcases hcase with h9 | ⟨h9, h10⟩ | ⟨h9, h10, h11⟩
      all_goals
        go_wp2_with fail
        refine Calls.mono (CP.out _) ?_
        rintro e w3 ⟨rfl, hb_w3⟩
        have hz_w3 := hb_w3.size
        try simp at hz_w3
        obtain ⟨c_w3_w_0, f_w3_w_0⟩ := bk hb_w3 (w.heap.size) (by first | omega | (simp <;> omega))
        have c_w3_w_0_0 := c_w3_w_0 0
        conv at c_w3_w_0_0 => rhs; simp [go_sem, *]
        have f_w3_w_0_0 := f_w3_w_0 0
        conv at f_w3_w_0_0 => rhs; simp [go_sem, *]
        have c_w3_w_0_1 := c_w3_w_0 1
        conv at c_w3_w_0_1 => rhs; simp [go_sem, *]
        have f_w3_w_0_1 := f_w3_w_0 1
        conv at f_w3_w_0_1 => rhs; simp [go_sem, *]
        have c_w3_w_0_2 := c_w3_w_0 2
        conv at c_w3_w_0_2 => rhs; simp [go_sem, *]
        have f_w3_w_0_2 := f_w3_w_0 2
        conv at f_w3_w_0_2 => rhs; simp [go_sem, *]
        have c_w3_w_0_3 := c_w3_w_0 3
        conv at c_w3_w_0_3 => rhs; simp [go_sem, *]
        have f_w3_w_0_3 := f_w3_w_0 3
        conv at f_w3_w_0_3 => rhs; simp [go_sem, *]
        have c_w3_w_0_4 := c_w3_w_0 4
        conv at c_w3_w_0_4 => rhs; simp [go_sem, *]
        have f_w3_w_0_4 := f_w3_w_0 4
        conv at f_w3_w_0_4 => rhs; simp [go_sem, *]
        have c_w3_w_0_5 := c_w3_w_0 5
        conv at c_w3_w_0_5 => rhs; simp [go_sem, *]
        have f_w3_w_0_5 := f_w3_w_0 5
        conv at f_w3_w_0_5 => rhs; simp [go_sem, *]
        obtain ⟨c_w3_w_1, f_w3_w_1⟩ := bk hb_w3 (w.heap.size + 1) (by first | omega | (simp <;> omega))
        have c_w3_w_1_0 := c_w3_w_1 0
        conv at c_w3_w_1_0 => rhs; simp [go_sem, *]
        have f_w3_w_1_0 := f_w3_w_1 0
        conv at f_w3_w_1_0 => rhs; simp [go_sem, *]
        have c_w3_w_1_1 := c_w3_w_1 1
        conv at c_w3_w_1_1 => rhs; simp [go_sem, *]
        have f_w3_w_1_1 := f_w3_w_1 1
        conv at f_w3_w_1_1 => rhs; simp [go_sem, *]
        have c_w3_w_1_2 := c_w3_w_1 2
        conv at c_w3_w_1_2 => rhs; simp [go_sem, *]
        have f_w3_w_1_2 := f_w3_w_1 2
        conv at f_w3_w_1_2 => rhs; simp [go_sem, *]
        have c_w3_w_1_3 := c_w3_w_1 3
        conv at c_w3_w_1_3 => rhs; simp [go_sem, *]
        have f_w3_w_1_3 := f_w3_w_1 3
        conv at f_w3_w_1_3 => rhs; simp [go_sem, *]
        have c_w3_w_1_4 := c_w3_w_1 4
        conv at c_w3_w_1_4 => rhs; simp [go_sem, *]
        have f_w3_w_1_4 := f_w3_w_1 4
        conv at f_w3_w_1_4 => rhs; simp [go_sem, *]
        have c_w3_w_1_5 := c_w3_w_1 5
        conv at c_w3_w_1_5 => rhs; simp [go_sem, *]
        have f_w3_w_1_5 := f_w3_w_1 5
        conv at f_w3_w_1_5 => rhs; simp [go_sem, *]
        have hB_w3 : Below w.heap.size w w3 := Below.trans (by (repeat (first | (with_reducible exact Below.refl _ _) | (with_reducible assumption) | (with_reducible refine Below.drew ?_) | (focus ((with_reducible refine Below.setCell ?_ ?_ _); rotate_left; (first | omega | (simp <;> omega)))) | (focus ((with_reducible refine Below.alloc ?_ ?_ _); rotate_left; (first | omega | (simp <;> omega)))) | exact Below.refl _ _ | assumption | refine Below.drew ?_ | refine Below.alloc ?_ (by first | omega | (simp <;> omega)) _ | refine Below.setCell ?_ (by first | omega | (simp <;> omega)) _))) (hb_w3.mono (by first | omega | (simp <;> omega)))
        clear hb_w3 c_w3_w_0 f_w3_w_0 c_w3_w_1 f_w3_w_1
        try clear c_w2_w_0_0
        try clear f_w2_w_0_0
        try clear c_w2_w_0_1
        try clear f_w2_w_0_1
        try clear c_w2_w_0_2
        try clear f_w2_w_0_2
        try clear c_w2_w_0_3
        try clear f_w2_w_0_3
        try clear c_w2_w_0_4
        try clear f_w2_w_0_4
        try clear c_w2_w_0_5
        try clear f_w2_w_0_5
        try clear c_w2_w_1_0
        try clear f_w2_w_1_0
        try clear c_w2_w_1_1
        try clear f_w2_w_1_1
        try clear c_w2_w_1_2
        try clear f_w2_w_1_2
        try clear c_w2_w_1_3
        try clear f_w2_w_1_3
        try clear c_w2_w_1_4
        try clear f_w2_w_1_4
        try clear c_w2_w_1_5
        try clear f_w2_w_1_5
        try clear far_w2_w_0
        try clear far_w2_w_1
        try clear hB_w2
        have far_w3_w_0 := far (show w.heap.size < w3.heap.size by omega)
        have far_w3_w_1 := far (show w.heap.size + 1 < w3.heap.size by omega)
        go_wp2_with fail
        refine Calls.mono (same_below (CD.out _)) ?_
        rintro e w4 ⟨rfl, hb_w4⟩
        have hz_w4 := hb_w4.size
        try simp at hz_w4
        obtain ⟨c_w4_w_0, f_w4_w_0⟩ := bk hb_w4 (w.heap.size) (by first | omega | (simp <;> omega))
        have c_w4_w_0_0 := c_w4_w_0 0
        conv at c_w4_w_0_0 => rhs; simp [go_sem, *]
        have f_w4_w_0_0 := f_w4_w_0 0
        conv at f_w4_w_0_0 => rhs; simp [go_sem, *]
        have c_w4_w_0_1 := c_w4_w_0 1
        conv at c_w4_w_0_1 => rhs; simp [go_sem, *]
        have f_w4_w_0_1 := f_w4_w_0 1
        conv at f_w4_w_0_1 => rhs; simp [go_sem, *]
        have c_w4_w_0_2 := c_w4_w_0 2
        conv at c_w4_w_0_2 => rhs; simp [go_sem, *]
        have f_w4_w_0_2 := f_w4_w_0 2
        conv at f_w4_w_0_2 => rhs; simp [go_sem, *]
        have c_w4_w_0_3 := c_w4_w_0 3
        conv at c_w4_w_0_3 => rhs; simp [go_sem, *]
        have f_w4_w_0_3 := f_w4_w_0 3
        conv at f_w4_w_0_3 => rhs; simp [go_sem, *]
        have c_w4_w_0_4 := c_w4_w_0 4
        conv at c_w4_w_0_4 => rhs; simp [go_sem, *]
        have f_w4_w_0_4 := f_w4_w_0 4
        conv at f_w4_w_0_4 => rhs; simp [go_sem, *]
        have c_w4_w_0_5 := c_w4_w_0 5
        conv at c_w4_w_0_5 => rhs; simp [go_sem, *]
        have f_w4_w_0_5 := f_w4_w_0 5
        conv at f_w4_w_0_5 => rhs; simp [go_sem, *]
        obtain ⟨c_w4_w_1, f_w4_w_1⟩ := bk hb_w4 (w.heap.size + 1) (by first | omega | (simp <;> omega))
        have c_w4_w_1_0 := c_w4_w_1 0
        conv at c_w4_w_1_0 => rhs; simp [go_sem, *]
        have f_w4_w_1_0 := f_w4_w_1 0
        conv at f_w4_w_1_0 => rhs; simp [go_sem, *]
        have c_w4_w_1_1 := c_w4_w_1 1
        conv at c_w4_w_1_1 => rhs; simp [go_sem, *]
        have f_w4_w_1_1 := f_w4_w_1 1
        conv at f_w4_w_1_1 => rhs; simp [go_sem, *]
        have c_w4_w_1_2 := c_w4_w_1 2
        conv at c_w4_w_1_2 => rhs; simp [go_sem, *]
        have f_w4_w_1_2 := f_w4_w_1 2
        conv at f_w4_w_1_2 => rhs; simp [go_sem, *]
        have c_w4_w_1_3 := c_w4_w_1 3
        conv at c_w4_w_1_3 => rhs; simp [go_sem, *]
        have f_w4_w_1_3 := f_w4_w_1 3
        conv at f_w4_w_1_3 => rhs; simp [go_sem, *]
        have c_w4_w_1_4 := c_w4_w_1 4
        conv at c_w4_w_1_4 => rhs; simp [go_sem, *]
        have f_w4_w_1_4 := f_w4_w_1 4
        conv at f_w4_w_1_4 => rhs; simp [go_sem, *]
        have c_w4_w_1_5 := c_w4_w_1 5
        conv at c_w4_w_1_5 => rhs; simp [go_sem, *]
        have f_w4_w_1_5 := f_w4_w_1 5
        conv at f_w4_w_1_5 => rhs; simp [go_sem, *]
        have hB_w4 : Below w.heap.size w w4 := Below.trans (by (repeat (first | (with_reducible exact Below.refl _ _) | (with_reducible assumption) | (with_reducible refine Below.drew ?_) | (focus ((with_reducible refine Below.setCell ?_ ?_ _); rotate_left; (first | omega | (simp <;> omega)))) | (focus ((with_reducible refine Below.alloc ?_ ?_ _); rotate_left; (first | omega | (simp <;> omega)))) | exact Below.refl _ _ | assumption | refine Below.drew ?_ | refine Below.alloc ?_ (by first | omega | (simp <;> omega)) _ | refine Below.setCell ?_ (by first | omega | (simp <;> omega)) _))) (hb_w4.mono (by first | omega | (simp <;> omega)))
        clear hb_w4 c_w4_w_0 f_w4_w_0 c_w4_w_1 f_w4_w_1
        try clear c_w3_w_0_0
        try clear f_w3_w_0_0
        try clear c_w3_w_0_1
        try clear f_w3_w_0_1
        try clear c_w3_w_0_2
        try clear f_w3_w_0_2
        try clear c_w3_w_0_3
        try clear f_w3_w_0_3
        try clear c_w3_w_0_4
        try clear f_w3_w_0_4
        try clear c_w3_w_0_5
        try clear f_w3_w_0_5
        try clear c_w3_w_1_0
        try clear f_w3_w_1_0
        try clear c_w3_w_1_1
        try clear f_w3_w_1_1
        try clear c_w3_w_1_2
        try clear f_w3_w_1_2
        try clear c_w3_w_1_3
        try clear f_w3_w_1_3
        try clear c_w3_w_1_4
        try clear f_w3_w_1_4
        try clear c_w3_w_1_5
        try clear f_w3_w_1_5
        try clear far_w3_w_0
        try clear far_w3_w_1
        try clear hB_w3
        have far_w4_w_0 := far (show w.heap.size < w4.heap.size by omega)
        have far_w4_w_1 := far (show w.heap.size + 1 < w4.heap.size by omega)
        cases bd with
        | true =>
          obtain rfl : r = d := by rw [HT]; simp
          clear HT
          go_wp2_with fail
          refine Calls.mono (same_below (CF.out _)) ?_
          rintro e w7 ⟨rfl, hb_w7⟩
          have hz_w7 := hb_w7.size
          try simp at hz_w7
          obtain ⟨c_w7_w_0, f_w7_w_0⟩ := bk hb_w7 (w.heap.size) (by first | omega | (simp <;> omega))
          have c_w7_w_0_0 := c_w7_w_0 0
          conv at c_w7_w_0_0 => rhs; simp [go_sem, *]
          have f_w7_w_0_0 := f_w7_w_0 0
          conv at f_w7_w_0_0 => rhs; simp [go_sem, *]
          have c_w7_w_0_1 := c_w7_w_0 1
          conv at c_w7_w_0_1 => rhs; simp [go_sem, *]
          have f_w7_w_0_1 := f_w7_w_0 1
          conv at f_w7_w_0_1 => rhs; simp [go_sem, *]
          have c_w7_w_0_2 := c_w7_w_0 2
          conv at c_w7_w_0_2 => rhs; simp [go_sem, *]
          have f_w7_w_0_2 := f_w7_w_0 2
          conv at f_w7_w_0_2 => rhs; simp [go_sem, *]
          have c_w7_w_0_3 := c_w7_w_0 3
          conv at c_w7_w_0_3 => rhs; simp [go_sem, *]
          have f_w7_w_0_3 := f_w7_w_0 3
          conv at f_w7_w_0_3 => rhs; simp [go_sem, *]
          have c_w7_w_0_4 := c_w7_w_0 4
          conv at c_w7_w_0_4 => rhs; simp [go_sem, *]
          have f_w7_w_0_4 := f_w7_w_0 4
          conv at f_w7_w_0_4 => rhs; simp [go_sem, *]
          have c_w7_w_0_5 := c_w7_w_0 5
          conv at c_w7_w_0_5 => rhs; simp [go_sem, *]
          have f_w7_w_0_5 := f_w7_w_0 5
          conv at f_w7_w_0_5 => rhs; simp [go_sem, *]
          obtain ⟨c_w7_w_1, f_w7_w_1⟩ := bk hb_w7 (w.heap.size + 1) (by first | omega | (simp <;> omega))
          have c_w7_w_1_0 := c_w7_w_1 0
          conv at c_w7_w_1_0 => rhs; simp [go_sem, *]
          have f_w7_w_1_0 := f_w7_w_1 0
          conv at f_w7_w_1_0 => rhs; simp [go_sem, *]
          have c_w7_w_1_1 := c_w7_w_1 1
          conv at c_w7_w_1_1 => rhs; simp [go_sem, *]
          have f_w7_w_1_1 := f_w7_w_1 1
          conv at f_w7_w_1_1 => rhs; simp [go_sem, *]
          have c_w7_w_1_2 := c_w7_w_1 2
          conv at c_w7_w_1_2 => rhs; simp [go_sem, *]
          have f_w7_w_1_2 := f_w7_w_1 2
          conv at f_w7_w_1_2 => rhs; simp [go_sem, *]
          have c_w7_w_1_3 := c_w7_w_1 3
          conv at c_w7_w_1_3 => rhs; simp [go_sem, *]
          have f_w7_w_1_3 := f_w7_w_1 3
          conv at f_w7_w_1_3 => rhs; simp [go_sem, *]
          have c_w7_w_1_4 := c_w7_w_1 4
          conv at c_w7_w_1_4 => rhs; simp [go_sem, *]
          have f_w7_w_1_4 := f_w7_w_1 4
          conv at f_w7_w_1_4 => rhs; simp [go_sem, *]
          have c_w7_w_1_5 := c_w7_w_1 5
          conv at c_w7_w_1_5 => rhs; simp [go_sem, *]
          have f_w7_w_1_5 := f_w7_w_1 5
          conv at f_w7_w_1_5 => rhs; simp [go_sem, *]
          have hB_w7 : Below w.heap.size w w7 := Below.trans (by (repeat (first | (with_reducible exact Below.refl _ _) | (with_reducible assumption) | (with_reducible refine Below.drew ?_) | (focus ((with_reducible refine Below.setCell ?_ ?_ _); rotate_left; (first | omega | (simp <;> omega)))) | (focus ((with_reducible refine Below.alloc ?_ ?_ _); rotate_left; (first | omega | (simp <;> omega)))) | exact Below.refl _ _ | assumption | refine Below.drew ?_ | refine Below.alloc ?_ (by first | omega | (simp <;> omega)) _ | refine Below.setCell ?_ (by first | omega | (simp <;> omega)) _))) (hb_w7.mono (by first | omega | (simp <;> omega)))
          clear hb_w7 c_w7_w_0 f_w7_w_0 c_w7_w_1 f_w7_w_1
          try clear c_w4_w_0_0
          try clear f_w4_w_0_0
          try clear c_w4_w_0_1
          try clear f_w4_w_0_1
          try clear c_w4_w_0_2
          try clear f_w4_w_0_2
          try clear c_w4_w_0_3
          try clear f_w4_w_0_3
          try clear c_w4_w_0_4
          try clear f_w4_w_0_4
          try clear c_w4_w_0_5
          try clear f_w4_w_0_5
          try clear c_w4_w_1_0
          try clear f_w4_w_1_0
          try clear c_w4_w_1_1
          try clear f_w4_w_1_1
          try clear c_w4_w_1_2
          try clear f_w4_w_1_2
          try clear c_w4_w_1_3
          try clear f_w4_w_1_3
          try clear c_w4_w_1_4
          try clear f_w4_w_1_4
          try clear c_w4_w_1_5
          try clear f_w4_w_1_5
          try clear far_w4_w_0
          try clear far_w4_w_1
          try clear hB_w4
          have far_w7_w_0 := far (show w.heap.size < w7.heap.size by omega)
          have far_w7_w_1 := far (show w.heap.size + 1 < w7.heap.size by omega)
          by_cases hq : 0 ≤ ix
          · obtain ⟨m, rfl⟩ : ∃ m : Nat, ix = m := ⟨ix.toNat, by omega⟩
            have HC := Lib.hid (show cut1 r 63 = (r.take m, r.drop (m + 1), true) by unfold cut1; rw [hix]; simp)
            simp only [HC.out] at CR HY
            go_wp2_with fail
            refine Calls.mono (CR.out _ (by (repeat (first | (with_reducible exact Below.refl _ _) | (with_reducible assumption) | (with_reducible refine Below.drew ?_) | (focus ((with_reducible refine Below.setCell ?_ ?_ _); rotate_left; (first | omega | (simp <;> omega)))) | (focus ((with_reducible refine Below.alloc ?_ ?_ _); rotate_left; (first | omega | (simp <;> omega)))) | exact Below.refl _ _ | assumption | refine Below.drew ?_ | refine Below.alloc ?_ (by first | omega | (simp <;> omega)) _ | refine Below.setCell ?_ (by first | omega | (simp <;> omega)) _)))) ?_
            rintro e w8 ⟨rfl, hb_w8⟩
            have hz_w8 := hb_w8.size
            try simp at hz_w8
            obtain ⟨c_w8_w_0, f_w8_w_0⟩ := bk hb_w8 (w.heap.size) (by first | omega | (simp <;> omega))
            have c_w8_w_0_0 := c_w8_w_0 0
            conv at c_w8_w_0_0 => rhs; simp [go_sem, *]
            have f_w8_w_0_0 := f_w8_w_0 0
            conv at f_w8_w_0_0 => rhs; simp [go_sem, *]
            have c_w8_w_0_1 := c_w8_w_0 1
            conv at c_w8_w_0_1 => rhs; simp [go_sem, *]
            have f_w8_w_0_1 := f_w8_w_0 1
            conv at f_w8_w_0_1 => rhs; simp [go_sem, *]
            have c_w8_w_0_2 := c_w8_w_0 2
            conv at c_w8_w_0_2 => rhs; simp [go_sem, *]
            have f_w8_w_0_2 := f_w8_w_0 2
            conv at f_w8_w_0_2 => rhs; simp [go_sem, *]
            have c_w8_w_0_3 := c_w8_w_0 3
            conv at c_w8_w_0_3 => rhs; simp [go_sem, *]
            have f_w8_w_0_3 := f_w8_w_0 3
            conv at f_w8_w_0_3 => rhs; simp [go_sem, *]
            have c_w8_w_0_4 := c_w8_w_0 4
            conv at c_w8_w_0_4 => rhs; simp [go_sem, *]
            have f_w8_w_0_4 := f_w8_w_0 4
            conv at f_w8_w_0_4 => rhs; simp [go_sem, *]
            have c_w8_w_0_5 := c_w8_w_0 5
            conv at c_w8_w_0_5 => rhs; simp [go_sem, *]
            have f_w8_w_0_5 := f_w8_w_0 5
            conv at f_w8_w_0_5 => rhs; simp [go_sem, *]
            obtain ⟨c_w8_w_1, f_w8_w_1⟩ := bk hb_w8 (w.heap.size + 1) (by first | omega | (simp <;> omega))
            have c_w8_w_1_0 := c_w8_w_1 0
            conv at c_w8_w_1_0 => rhs; simp [go_sem, *]
            have f_w8_w_1_0 := f_w8_w_1 0
            conv at f_w8_w_1_0 => rhs; simp [go_sem, *]
            have c_w8_w_1_1 := c_w8_w_1 1
            conv at c_w8_w_1_1 => rhs; simp [go_sem, *]
            have f_w8_w_1_1 := f_w8_w_1 1
            conv at f_w8_w_1_1 => rhs; simp [go_sem, *]
            have c_w8_w_1_2 := c_w8_w_1 2
            conv at c_w8_w_1_2 => rhs; simp [go_sem, *]
            have f_w8_w_1_2 := f_w8_w_1 2
            conv at f_w8_w_1_2 => rhs; simp [go_sem, *]
            have c_w8_w_1_3 := c_w8_w_1 3
            conv at c_w8_w_1_3 => rhs; simp [go_sem, *]
            have f_w8_w_1_3 := f_w8_w_1 3
            conv at f_w8_w_1_3 => rhs; simp [go_sem, *]
            have c_w8_w_1_4 := c_w8_w_1 4
            conv at c_w8_w_1_4 => rhs; simp [go_sem, *]
            have f_w8_w_1_4 := f_w8_w_1 4
            conv at f_w8_w_1_4 => rhs; simp [go_sem, *]
            have c_w8_w_1_5 := c_w8_w_1 5
            conv at c_w8_w_1_5 => rhs; simp [go_sem, *]
            have f_w8_w_1_5 := f_w8_w_1 5
            conv at f_w8_w_1_5 => rhs; simp [go_sem, *]
            have hB_w8 : Below w.heap.size w w8 := Below.trans (by (repeat (first | (with_reducible exact Below.refl _ _) | (with_reducible assumption) | (with_reducible refine Below.drew ?_) | (focus ((with_reducible refine Below.setCell ?_ ?_ _); rotate_left; (first | omega | (simp <;> omega)))) | (focus ((with_reducible refine Below.alloc ?_ ?_ _); rotate_left; (first | omega | (simp <;> omega)))) | exact Below.refl _ _ | assumption | refine Below.drew ?_ | refine Below.alloc ?_ (by first | omega | (simp <;> omega)) _ | refine Below.setCell ?_ (by first | omega | (simp <;> omega)) _))) (hb_w8.mono (by first | omega | (simp <;> omega)))
            clear hb_w8 c_w8_w_0 f_w8_w_0 c_w8_w_1 f_w8_w_1
            try clear c_w7_w_0_0
            try clear f_w7_w_0_0
            try clear c_w7_w_0_1
            try clear f_w7_w_0_1
            try clear c_w7_w_0_2
            try clear f_w7_w_0_2
            try clear c_w7_w_0_3
            try clear f_w7_w_0_3
            try clear c_w7_w_0_4
            try clear f_w7_w_0_4
            try clear c_w7_w_0_5
            try clear f_w7_w_0_5
            try clear c_w7_w_1_0
            try clear f_w7_w_1_0
            try clear c_w7_w_1_1
            try clear f_w7_w_1_1
            try clear c_w7_w_1_2
            try clear f_w7_w_1_2
            try clear c_w7_w_1_3
            try clear f_w7_w_1_3
            try clear c_w7_w_1_4
            try clear f_w7_w_1_4
            try clear c_w7_w_1_5
            try clear f_w7_w_1_5
            try clear far_w7_w_0
            try clear far_w7_w_1
            try clear hB_w7
            have far_w8_w_0 := far (show w.heap.size < w8.heap.size by omega)
            have far_w8_w_1 := far (show w.heap.size + 1 < w8.heap.size by omega)
            cases ok with
            | false =>
              go_wp2
              refine bodyPost_ret (v := .tuple #[uv false [] 0 [] false [], .int .i64 20]) (by simp [results, Tryd.results9, go_sem, *]) rfl ⟨by rw [HN.out (by simp)]; rfl, ?_⟩
              (repeat (first | (with_reducible exact Below.refl _ _) | (with_reducible assumption) | (with_reducible refine Below.drew ?_) | (focus ((with_reducible refine Below.setCell ?_ ?_ _); rotate_left; (first | omega | (simp <;> omega)))) | (focus ((with_reducible refine Below.alloc ?_ ?_ _); rotate_left; (first | omega | (simp <;> omega)))) | exact Below.refl _ _ | assumption | refine Below.drew ?_ | refine Below.alloc ?_ (by first | omega | (simp <;> omega)) _ | refine Below.setCell ?_ (by first | omega | (simp <;> omega)) _))
            | true =>
              go_wp2
              refine bodyPost_ret (v := .tuple #[uv true hh nn (r.take m) true (r.drop (m + 1)), .int .i64 0]) (by simp [results, Tryd.results9, go_sem, *]) rfl ⟨by rw [HY.out (by simp) (by simp)], ?_⟩
              (repeat (first | (with_reducible exact Below.refl _ _) | (with_reducible assumption) | (with_reducible refine Below.drew ?_) | (focus ((with_reducible refine Below.setCell ?_ ?_ _); rotate_left; (first | omega | (simp <;> omega)))) | (focus ((with_reducible refine Below.alloc ?_ ?_ _); rotate_left; (first | omega | (simp <;> omega)))) | exact Below.refl _ _ | assumption | refine Below.drew ?_ | refine Below.alloc ?_ (by first | omega | (simp <;> omega)) _ | refine Below.setCell ?_ (by first | omega | (simp <;> omega)) _))
          · skip
            have HC := Lib.hid (show cut1 r 63 = (r, [], false) by unfold cut1; rw [hix]; simp [hq])
            simp only [HC.out] at CR HY
            go_wp2_with fail
            refine Calls.mono (CR.out _ (by (repeat (first | (with_reducible exact Below.refl _ _) | (with_reducible assumption) | (with_reducible refine Below.drew ?_) | (focus ((with_reducible refine Below.setCell ?_ ?_ _); rotate_left; (first | omega | (simp <;> omega)))) | (focus ((with_reducible refine Below.alloc ?_ ?_ _); rotate_left; (first | omega | (simp <;> omega)))) | exact Below.refl _ _ | assumption | refine Below.drew ?_ | refine Below.alloc ?_ (by first | omega | (simp <;> omega)) _ | refine Below.setCell ?_ (by first | omega | (simp <;> omega)) _)))) ?_
            rintro e w8 ⟨rfl, hb_w8⟩
            have hz_w8 := hb_w8.size
            try simp at hz_w8
            obtain ⟨c_w8_w_0, f_w8_w_0⟩ := bk hb_w8 (w.heap.size) (by first | omega | (simp <;> omega))
            have c_w8_w_0_0 := c_w8_w_0 0
            conv at c_w8_w_0_0 => rhs; simp [go_sem, *]
            have f_w8_w_0_0 := f_w8_w_0 0
            conv at f_w8_w_0_0 => rhs; simp [go_sem, *]
            have c_w8_w_0_1 := c_w8_w_0 1
            conv at c_w8_w_0_1 => rhs; simp [go_sem, *]
            have f_w8_w_0_1 := f_w8_w_0 1
            conv at f_w8_w_0_1 => rhs; simp [go_sem, *]
            have c_w8_w_0_2 := c_w8_w_0 2
            conv at c_w8_w_0_2 => rhs; simp [go_sem, *]
            have f_w8_w_0_2 := f_w8_w_0 2
            conv at f_w8_w_0_2 => rhs; simp [go_sem, *]
            have c_w8_w_0_3 := c_w8_w_0 3
            conv at c_w8_w_0_3 => rhs; simp [go_sem, *]
            have f_w8_w_0_3 := f_w8_w_0 3
            conv at f_w8_w_0_3 => rhs; simp [go_sem, *]
            have c_w8_w_0_4 := c_w8_w_0 4
            conv at c_w8_w_0_4 => rhs; simp [go_sem, *]
            have f_w8_w_0_4 := f_w8_w_0 4
            conv at f_w8_w_0_4 => rhs; simp [go_sem, *]
            have c_w8_w_0_5 := c_w8_w_0 5
            conv at c_w8_w_0_5 => rhs; simp [go_sem, *]
            have f_w8_w_0_5 := f_w8_w_0 5
            conv at f_w8_w_0_5 => rhs; simp [go_sem, *]
            obtain ⟨c_w8_w_1, f_w8_w_1⟩ := bk hb_w8 (w.heap.size + 1) (by first | omega | (simp <;> omega))
            have c_w8_w_1_0 := c_w8_w_1 0
            conv at c_w8_w_1_0 => rhs; simp [go_sem, *]
            have f_w8_w_1_0 := f_w8_w_1 0
            conv at f_w8_w_1_0 => rhs; simp [go_sem, *]
            have c_w8_w_1_1 := c_w8_w_1 1
            conv at c_w8_w_1_1 => rhs; simp [go_sem, *]
            have f_w8_w_1_1 := f_w8_w_1 1
            conv at f_w8_w_1_1 => rhs; simp [go_sem, *]
            have c_w8_w_1_2 := c_w8_w_1 2
            conv at c_w8_w_1_2 => rhs; simp [go_sem, *]
            have f_w8_w_1_2 := f_w8_w_1 2
            conv at f_w8_w_1_2 => rhs; simp [go_sem, *]
            have c_w8_w_1_3 := c_w8_w_1 3
            conv at c_w8_w_1_3 => rhs; simp [go_sem, *]
            have f_w8_w_1_3 := f_w8_w_1 3
            conv at f_w8_w_1_3 => rhs; simp [go_sem, *]
            have c_w8_w_1_4 := c_w8_w_1 4
            conv at c_w8_w_1_4 => rhs; simp [go_sem, *]
            have f_w8_w_1_4 := f_w8_w_1 4
            conv at f_w8_w_1_4 => rhs; simp [go_sem, *]
            have c_w8_w_1_5 := c_w8_w_1 5
            conv at c_w8_w_1_5 => rhs; simp [go_sem, *]
            have f_w8_w_1_5 := f_w8_w_1 5
            conv at f_w8_w_1_5 => rhs; simp [go_sem, *]
            have hB_w8 : Below w.heap.size w w8 := Below.trans (by (repeat (first | (with_reducible exact Below.refl _ _) | (with_reducible assumption) | (with_reducible refine Below.drew ?_) | (focus ((with_reducible refine Below.setCell ?_ ?_ _); rotate_left; (first | omega | (simp <;> omega)))) | (focus ((with_reducible refine Below.alloc ?_ ?_ _); rotate_left; (first | omega | (simp <;> omega)))) | exact Below.refl _ _ | assumption | refine Below.drew ?_ | refine Below.alloc ?_ (by first | omega | (simp <;> omega)) _ | refine Below.setCell ?_ (by first | omega | (simp <;> omega)) _))) (hb_w8.mono (by first | omega | (simp <;> omega)))
            clear hb_w8 c_w8_w_0 f_w8_w_0 c_w8_w_1 f_w8_w_1
            have far_w8_w_0 := far (show w.heap.size < w8.heap.size by omega)
            have far_w8_w_1 := far (show w.heap.size + 1 < w8.heap.size by omega)
            cases ok with
            | false =>
              go_wp2
              refine bodyPost_ret (v := .tuple #[uv false [] 0 [] false [], .int .i64 20]) (by simp [results, Tryd.results9, go_sem, *]) rfl ⟨by rw [HN.out (by simp)]; rfl, ?_⟩
              (repeat (first | (with_reducible exact Below.refl _ _) | (with_reducible assumption) | (with_reducible refine Below.drew ?_) | (focus ((with_reducible refine Below.setCell ?_ ?_ _); rotate_left; (first | omega | (simp <;> omega)))) | (focus ((with_reducible refine Below.alloc ?_ ?_ _); rotate_left; (first | omega | (simp <;> omega)))) | exact Below.refl _ _ | assumption | refine Below.drew ?_ | refine Below.alloc ?_ (by first | omega | (simp <;> omega)) _ | refine Below.setCell ?_ (by first | omega | (simp <;> omega)) _))
            | true =>
              go_wp2
              refine bodyPost_ret (v := .tuple #[uv true hh nn r false [], .int .i64 0]) (by simp [results, Tryd.results9, go_sem, *]) rfl ⟨by rw [HY.out (by simp) (by simp)], ?_⟩
              (repeat (first | (with_reducible exact Below.refl _ _) | (with_reducible assumption) | (with_reducible refine Below.drew ?_) | (focus ((with_reducible refine Below.setCell ?_ ?_ _); rotate_left; (first | omega | (simp <;> omega)))) | (focus ((with_reducible refine Below.alloc ?_ ?_ _); rotate_left; (first | omega | (simp <;> omega)))) | exact Below.refl _ _ | assumption | refine Below.drew ?_ | refine Below.alloc ?_ (by first | omega | (simp <;> omega)) _ | refine Below.setCell ?_ (by first | omega | (simp <;> omega)) _))
        | false =>
          have hrd : 47 :: d = r := by rw [HT]; simp
          clear HT
          go_wp2_with fail
          refine Calls.mono (same_below (CF.out _)) ?_
          rintro e w7 ⟨rfl, hb_w7⟩
          have hz_w7 := hb_w7.size
          try simp at hz_w7
          obtain ⟨c_w7_w_0, f_w7_w_0⟩ := bk hb_w7 (w.heap.size) (by first | omega | (simp <;> omega))
          have c_w7_w_0_0 := c_w7_w_0 0
          conv at c_w7_w_0_0 => rhs; simp [go_sem, *]
          have f_w7_w_0_0 := f_w7_w_0 0
          conv at f_w7_w_0_0 => rhs; simp [go_sem, *]
          have c_w7_w_0_1 := c_w7_w_0 1
          conv at c_w7_w_0_1 => rhs; simp [go_sem, *]
          have f_w7_w_0_1 := f_w7_w_0 1
          conv at f_w7_w_0_1 => rhs; simp [go_sem, *]
          have c_w7_w_0_2 := c_w7_w_0 2
          conv at c_w7_w_0_2 => rhs; simp [go_sem, *]
          have f_w7_w_0_2 := f_w7_w_0 2
          conv at f_w7_w_0_2 => rhs; simp [go_sem, *]
          have c_w7_w_0_3 := c_w7_w_0 3
          conv at c_w7_w_0_3 => rhs; simp [go_sem, *]
          have f_w7_w_0_3 := f_w7_w_0 3
          conv at f_w7_w_0_3 => rhs; simp [go_sem, *]
          have c_w7_w_0_4 := c_w7_w_0 4
          conv at c_w7_w_0_4 => rhs; simp [go_sem, *]
          have f_w7_w_0_4 := f_w7_w_0 4
          conv at f_w7_w_0_4 => rhs; simp [go_sem, *]
          have c_w7_w_0_5 := c_w7_w_0 5
          conv at c_w7_w_0_5 => rhs; simp [go_sem, *]
          have f_w7_w_0_5 := f_w7_w_0 5
          conv at f_w7_w_0_5 => rhs; simp [go_sem, *]
          obtain ⟨c_w7_w_1, f_w7_w_1⟩ := bk hb_w7 (w.heap.size + 1) (by first | omega | (simp <;> omega))
          have c_w7_w_1_0 := c_w7_w_1 0
          conv at c_w7_w_1_0 => rhs; simp [go_sem, *]
          have f_w7_w_1_0 := f_w7_w_1 0
          conv at f_w7_w_1_0 => rhs; simp [go_sem, *]
          have c_w7_w_1_1 := c_w7_w_1 1
          conv at c_w7_w_1_1 => rhs; simp [go_sem, *]
          have f_w7_w_1_1 := f_w7_w_1 1
          conv at f_w7_w_1_1 => rhs; simp [go_sem, *]
          have c_w7_w_1_2 := c_w7_w_1 2
          conv at c_w7_w_1_2 => rhs; simp [go_sem, *]
          have f_w7_w_1_2 := f_w7_w_1 2
          conv at f_w7_w_1_2 => rhs; simp [go_sem, *]
          have c_w7_w_1_3 := c_w7_w_1 3
          conv at c_w7_w_1_3 => rhs; simp [go_sem, *]
          have f_w7_w_1_3 := f_w7_w_1 3
          conv at f_w7_w_1_3 => rhs; simp [go_sem, *]
          have c_w7_w_1_4 := c_w7_w_1 4
          conv at c_w7_w_1_4 => rhs; simp [go_sem, *]
          have f_w7_w_1_4 := f_w7_w_1 4
          conv at f_w7_w_1_4 => rhs; simp [go_sem, *]
          have c_w7_w_1_5 := c_w7_w_1 5
          conv at c_w7_w_1_5 => rhs; simp [go_sem, *]
          have f_w7_w_1_5 := f_w7_w_1 5
          conv at f_w7_w_1_5 => rhs; simp [go_sem, *]
          have hB_w7 : Below w.heap.size w w7 := Below.trans (by (repeat (first | (with_reducible exact Below.refl _ _) | (with_reducible assumption) | (with_reducible refine Below.drew ?_) | (focus ((with_reducible refine Below.setCell ?_ ?_ _); rotate_left; (first | omega | (simp <;> omega)))) | (focus ((with_reducible refine Below.alloc ?_ ?_ _); rotate_left; (first | omega | (simp <;> omega)))) | exact Below.refl _ _ | assumption | refine Below.drew ?_ | refine Below.alloc ?_ (by first | omega | (simp <;> omega)) _ | refine Below.setCell ?_ (by first | omega | (simp <;> omega)) _))) (hb_w7.mono (by first | omega | (simp <;> omega)))
          clear hb_w7 c_w7_w_0 f_w7_w_0 c_w7_w_1 f_w7_w_1
          try clear c_w8_w_0_0
          try clear f_w8_w_0_0
          try clear c_w8_w_0_1
          try clear f_w8_w_0_1
          try clear c_w8_w_0_2
          try clear f_w8_w_0_2
          try clear c_w8_w_0_3
          try clear f_w8_w_0_3
          try clear c_w8_w_0_4
          try clear f_w8_w_0_4
          try clear c_w8_w_0_5
          try clear f_w8_w_0_5
          try clear c_w8_w_1_0
          try clear f_w8_w_1_0
          try clear c_w8_w_1_1
          try clear f_w8_w_1_1
          try clear c_w8_w_1_2
          try clear f_w8_w_1_2
          try clear c_w8_w_1_3
          try clear f_w8_w_1_3
          try clear c_w8_w_1_4
          try clear f_w8_w_1_4
          try clear c_w8_w_1_5
          try clear f_w8_w_1_5
          try clear far_w8_w_0
          try clear far_w8_w_1
          try clear hB_w8
          have far_w7_w_0 := far (show w.heap.size < w7.heap.size by omega)
          have far_w7_w_1 := far (show w.heap.size + 1 < w7.heap.size by omega)
          by_cases hq : 0 ≤ ix
          · obtain ⟨m, rfl⟩ : ∃ m : Nat, ix = m := ⟨ix.toNat, by omega⟩
            have HC := Lib.hid (show cut1 r 63 = (r.take m, r.drop (m + 1), true) by unfold cut1; rw [hix]; simp)
            simp only [HC.out] at CR HY
            go_wp2_with fail
            refine Calls.mono (CR.out _ (by (repeat (first | (with_reducible exact Below.refl _ _) | (with_reducible assumption) | (with_reducible refine Below.drew ?_) | (focus ((with_reducible refine Below.setCell ?_ ?_ _); rotate_left; (first | omega | (simp <;> omega)))) | (focus ((with_reducible refine Below.alloc ?_ ?_ _); rotate_left; (first | omega | (simp <;> omega)))) | exact Below.refl _ _ | assumption | refine Below.drew ?_ | refine Below.alloc ?_ (by first | omega | (simp <;> omega)) _ | refine Below.setCell ?_ (by first | omega | (simp <;> omega)) _)))) ?_
            rintro e w8 ⟨rfl, hb_w8⟩
            have hz_w8 := hb_w8.size
            try simp at hz_w8
            obtain ⟨c_w8_w_0, f_w8_w_0⟩ := bk hb_w8 (w.heap.size) (by first | omega | (simp <;> omega))
            have c_w8_w_0_0 := c_w8_w_0 0
            conv at c_w8_w_0_0 => rhs; simp [go_sem, *]
            have f_w8_w_0_0 := f_w8_w_0 0
            conv at f_w8_w_0_0 => rhs; simp [go_sem, *]
            have c_w8_w_0_1 := c_w8_w_0 1
            conv at c_w8_w_0_1 => rhs; simp [go_sem, *]
            have f_w8_w_0_1 := f_w8_w_0 1
            conv at f_w8_w_0_1 => rhs; simp [go_sem, *]
            have c_w8_w_0_2 := c_w8_w_0 2
            conv at c_w8_w_0_2 => rhs; simp [go_sem, *]
            have f_w8_w_0_2 := f_w8_w_0 2
            conv at f_w8_w_0_2 => rhs; simp [go_sem, *]
            have c_w8_w_0_3 := c_w8_w_0 3
            conv at c_w8_w_0_3 => rhs; simp [go_sem, *]
            have f_w8_w_0_3 := f_w8_w_0 3
            conv at f_w8_w_0_3 => rhs; simp [go_sem, *]
            have c_w8_w_0_4 := c_w8_w_0 4
            conv at c_w8_w_0_4 => rhs; simp [go_sem, *]
            have f_w8_w_0_4 := f_w8_w_0 4
            conv at f_w8_w_0_4 => rhs; simp [go_sem, *]
            have c_w8_w_0_5 := c_w8_w_0 5
            conv at c_w8_w_0_5 => rhs; simp [go_sem, *]
            have f_w8_w_0_5 := f_w8_w_0 5
            conv at f_w8_w_0_5 => rhs; simp [go_sem, *]
            obtain ⟨c_w8_w_1, f_w8_w_1⟩ := bk hb_w8 (w.heap.size + 1) (by first | omega | (simp <;> omega))
            have c_w8_w_1_0 := c_w8_w_1 0
            conv at c_w8_w_1_0 => rhs; simp [go_sem, *]
            have f_w8_w_1_0 := f_w8_w_1 0
            conv at f_w8_w_1_0 => rhs; simp [go_sem, *]
            have c_w8_w_1_1 := c_w8_w_1 1
            conv at c_w8_w_1_1 => rhs; simp [go_sem, *]
            have f_w8_w_1_1 := f_w8_w_1 1
            conv at f_w8_w_1_1 => rhs; simp [go_sem, *]
            have c_w8_w_1_2 := c_w8_w_1 2
            conv at c_w8_w_1_2 => rhs; simp [go_sem, *]
            have f_w8_w_1_2 := f_w8_w_1 2
            conv at f_w8_w_1_2 => rhs; simp [go_sem, *]
            have c_w8_w_1_3 := c_w8_w_1 3
            conv at c_w8_w_1_3 => rhs; simp [go_sem, *]
            have f_w8_w_1_3 := f_w8_w_1 3
            conv at f_w8_w_1_3 => rhs; simp [go_sem, *]
            have c_w8_w_1_4 := c_w8_w_1 4
            conv at c_w8_w_1_4 => rhs; simp [go_sem, *]
            have f_w8_w_1_4 := f_w8_w_1 4
            conv at f_w8_w_1_4 => rhs; simp [go_sem, *]
            have c_w8_w_1_5 := c_w8_w_1 5
            conv at c_w8_w_1_5 => rhs; simp [go_sem, *]
            have f_w8_w_1_5 := f_w8_w_1 5
            conv at f_w8_w_1_5 => rhs; simp [go_sem, *]
            have hB_w8 : Below w.heap.size w w8 := Below.trans (by (repeat (first | (with_reducible exact Below.refl _ _) | (with_reducible assumption) | (with_reducible refine Below.drew ?_) | (focus ((with_reducible refine Below.setCell ?_ ?_ _); rotate_left; (first | omega | (simp <;> omega)))) | (focus ((with_reducible refine Below.alloc ?_ ?_ _); rotate_left; (first | omega | (simp <;> omega)))) | exact Below.refl _ _ | assumption | refine Below.drew ?_ | refine Below.alloc ?_ (by first | omega | (simp <;> omega)) _ | refine Below.setCell ?_ (by first | omega | (simp <;> omega)) _))) (hb_w8.mono (by first | omega | (simp <;> omega)))
            clear hb_w8 c_w8_w_0 f_w8_w_0 c_w8_w_1 f_w8_w_1
            try clear c_w7_w_0_0
            try clear f_w7_w_0_0
            try clear c_w7_w_0_1
            try clear f_w7_w_0_1
            try clear c_w7_w_0_2
            try clear f_w7_w_0_2
            try clear c_w7_w_0_3
            try clear f_w7_w_0_3
            try clear c_w7_w_0_4
            try clear f_w7_w_0_4
            try clear c_w7_w_0_5
            try clear f_w7_w_0_5
            try clear c_w7_w_1_0
            try clear f_w7_w_1_0
            try clear c_w7_w_1_1
            try clear f_w7_w_1_1
            try clear c_w7_w_1_2
            try clear f_w7_w_1_2
            try clear c_w7_w_1_3
            try clear f_w7_w_1_3
            try clear c_w7_w_1_4
            try clear f_w7_w_1_4
            try clear c_w7_w_1_5
            try clear f_w7_w_1_5
            try clear far_w7_w_0
            try clear far_w7_w_1
            try clear hB_w7
            have far_w8_w_0 := far (show w.heap.size < w8.heap.size by omega)
            have far_w8_w_1 := far (show w.heap.size + 1 < w8.heap.size by omega)
            cases ok with
            | false =>
              go_wp2
              refine bodyPost_ret (v := .tuple #[uv false [] 0 [] false [], .int .i64 20]) (by simp [results, Tryd.results9, go_sem, *]) rfl ⟨by rw [HN.out (by simp)]; rfl, ?_⟩
              (repeat (first | (with_reducible exact Below.refl _ _) | (with_reducible assumption) | (with_reducible refine Below.drew ?_) | (focus ((with_reducible refine Below.setCell ?_ ?_ _); rotate_left; (first | omega | (simp <;> omega)))) | (focus ((with_reducible refine Below.alloc ?_ ?_ _); rotate_left; (first | omega | (simp <;> omega)))) | exact Below.refl _ _ | assumption | refine Below.drew ?_ | refine Below.alloc ?_ (by first | omega | (simp <;> omega)) _ | refine Below.setCell ?_ (by first | omega | (simp <;> omega)) _))
            | true =>
              go_wp2
              refine bodyPost_ret (v := .tuple #[uv true hh nn (r.take m) true (r.drop (m + 1)), .int .i64 0]) (by simp [results, Tryd.results9, go_sem, *]) rfl ⟨by rw [HY.out (by simp) (by simp)], ?_⟩
              (repeat (first | (with_reducible exact Below.refl _ _) | (with_reducible assumption) | (with_reducible refine Below.drew ?_) | (focus ((with_reducible refine Below.setCell ?_ ?_ _); rotate_left; (first | omega | (simp <;> omega)))) | (focus ((with_reducible refine Below.alloc ?_ ?_ _); rotate_left; (first | omega | (simp <;> omega)))) | exact Below.refl _ _ | assumption | refine Below.drew ?_ | refine Below.alloc ?_ (by first | omega | (simp <;> omega)) _ | refine Below.setCell ?_ (by first | omega | (simp <;> omega)) _))
          · skip
            have HC := Lib.hid (show cut1 r 63 = (r, [], false) by unfold cut1; rw [hix]; simp [hq])
            simp only [HC.out] at CR HY
            go_wp2_with fail
            refine Calls.mono (CR.out _ (by (repeat (first | (with_reducible exact Below.refl _ _) | (with_reducible assumption) | (with_reducible refine Below.drew ?_) | (focus ((with_reducible refine Below.setCell ?_ ?_ _); rotate_left; (first | omega | (simp <;> omega)))) | (focus ((with_reducible refine Below.alloc ?_ ?_ _); rotate_left; (first | omega | (simp <;> omega)))) | exact Below.refl _ _ | assumption | refine Below.drew ?_ | refine Below.alloc ?_ (by first | omega | (simp <;> omega)) _ | refine Below.setCell ?_ (by first | omega | (simp <;> omega)) _)))) ?_
            rintro e w8 ⟨rfl, hb_w8⟩
            have hz_w8 := hb_w8.size
            try simp at hz_w8
            obtain ⟨c_w8_w_0, f_w8_w_0⟩ := bk hb_w8 (w.heap.size) (by first | omega | (simp <;> omega))
            have c_w8_w_0_0 := c_w8_w_0 0
            conv at c_w8_w_0_0 => rhs; simp [go_sem, *]
            have f_w8_w_0_0 := f_w8_w_0 0
            conv at f_w8_w_0_0 => rhs; simp [go_sem, *]
            have c_w8_w_0_1 := c_w8_w_0 1
            conv at c_w8_w_0_1 => rhs; simp [go_sem, *]
            have f_w8_w_0_1 := f_w8_w_0 1
            conv at f_w8_w_0_1 => rhs; simp [go_sem, *]
            have c_w8_w_0_2 := c_w8_w_0 2
            conv at c_w8_w_0_2 => rhs; simp [go_sem, *]
            have f_w8_w_0_2 := f_w8_w_0 2
            conv at f_w8_w_0_2 => rhs; simp [go_sem, *]
            have c_w8_w_0_3 := c_w8_w_0 3
            conv at c_w8_w_0_3 => rhs; simp [go_sem, *]
            have f_w8_w_0_3 := f_w8_w_0 3
            conv at f_w8_w_0_3 => rhs; simp [go_sem, *]
            have c_w8_w_0_4 := c_w8_w_0 4
            conv at c_w8_w_0_4 => rhs; simp [go_sem, *]
            have f_w8_w_0_4 := f_w8_w_0 4
            conv at f_w8_w_0_4 => rhs; simp [go_sem, *]
            have c_w8_w_0_5 := c_w8_w_0 5
            conv at c_w8_w_0_5 => rhs; simp [go_sem, *]
            have f_w8_w_0_5 := f_w8_w_0 5
            conv at f_w8_w_0_5 => rhs; simp [go_sem, *]
            obtain ⟨c_w8_w_1, f_w8_w_1⟩ := bk hb_w8 (w.heap.size + 1) (by first | omega | (simp <;> omega))
            have c_w8_w_1_0 := c_w8_w_1 0
            conv at c_w8_w_1_0 => rhs; simp [go_sem, *]
            have f_w8_w_1_0 := f_w8_w_1 0
            conv at f_w8_w_1_0 => rhs; simp [go_sem, *]
            have c_w8_w_1_1 := c_w8_w_1 1
            conv at c_w8_w_1_1 => rhs; simp [go_sem, *]
            have f_w8_w_1_1 := f_w8_w_1 1
            conv at f_w8_w_1_1 => rhs; simp [go_sem, *]
            have c_w8_w_1_2 := c_w8_w_1 2
            conv at c_w8_w_1_2 => rhs; simp [go_sem, *]
            have f_w8_w_1_2 := f_w8_w_1 2
            conv at f_w8_w_1_2 => rhs; simp [go_sem, *]
            have c_w8_w_1_3 := c_w8_w_1 3
            conv at c_w8_w_1_3 => rhs; simp [go_sem, *]
            have f_w8_w_1_3 := f_w8_w_1 3
            conv at f_w8_w_1_3 => rhs; simp [go_sem, *]
            have c_w8_w_1_4 := c_w8_w_1 4
            conv at c_w8_w_1_4 => rhs; simp [go_sem, *]
            have f_w8_w_1_4 := f_w8_w_1 4
            conv at f_w8_w_1_4 => rhs; simp [go_sem, *]
            have c_w8_w_1_5 := c_w8_w_1 5
            conv at c_w8_w_1_5 => rhs; simp [go_sem, *]
            have f_w8_w_1_5 := f_w8_w_1 5
            conv at f_w8_w_1_5 => rhs; simp [go_sem, *]
            have hB_w8 : Below w.heap.size w w8 := Below.trans (by (repeat (first | (with_reducible exact Below.refl _ _) | (with_reducible assumption) | (with_reducible refine Below.drew ?_) | (focus ((with_reducible refine Below.setCell ?_ ?_ _); rotate_left; (first | omega | (simp <;> omega)))) | (focus ((with_reducible refine Below.alloc ?_ ?_ _); rotate_left; (first | omega | (simp <;> omega)))) | exact Below.refl _ _ | assumption | refine Below.drew ?_ | refine Below.alloc ?_ (by first | omega | (simp <;> omega)) _ | refine Below.setCell ?_ (by first | omega | (simp <;> omega)) _))) (hb_w8.mono (by first | omega | (simp <;> omega)))
            clear hb_w8 c_w8_w_0 f_w8_w_0 c_w8_w_1 f_w8_w_1
            have far_w8_w_0 := far (show w.heap.size < w8.heap.size by omega)
            have far_w8_w_1 := far (show w.heap.size + 1 < w8.heap.size by omega)
            cases ok with
            | false =>
              go_wp2
              refine bodyPost_ret (v := .tuple #[uv false [] 0 [] false [], .int .i64 20]) (by simp [results, Tryd.results9, go_sem, *]) rfl ⟨by rw [HN.out (by simp)]; rfl, ?_⟩
              (repeat (first | (with_reducible exact Below.refl _ _) | (with_reducible assumption) | (with_reducible refine Below.drew ?_) | (focus ((with_reducible refine Below.setCell ?_ ?_ _); rotate_left; (first | omega | (simp <;> omega)))) | (focus ((with_reducible refine Below.alloc ?_ ?_ _); rotate_left; (first | omega | (simp <;> omega)))) | exact Below.refl _ _ | assumption | refine Below.drew ?_ | refine Below.alloc ?_ (by first | omega | (simp <;> omega)) _ | refine Below.setCell ?_ (by first | omega | (simp <;> omega)) _))
            | true =>
              go_wp2
              refine bodyPost_ret (v := .tuple #[uv true hh nn r false [], .int .i64 0]) (by simp [results, Tryd.results9, go_sem, *]) rfl ⟨by rw [HY.out (by simp) (by simp)], ?_⟩
              (repeat (first | (with_reducible exact Below.refl _ _) | (with_reducible assumption) | (with_reducible refine Below.drew ?_) | (focus ((with_reducible refine Below.setCell ?_ ?_ _); rotate_left; (first | omega | (simp <;> omega)))) | (focus ((with_reducible refine Below.alloc ?_ ?_ _); rotate_left; (first | omega | (simp <;> omega)))) | exact Below.refl _ _ | assumption | refine Below.drew ?_ | refine Below.alloc ?_ (by first | omega | (simp <;> omega)) _ | refine Below.setCell ?_ (by first | omega | (simp <;> omega)) _))

set_option maxHeartbeats 6400000 in
set_option maxRecDepth 100000 in
theorem refParse_bad (s : List UInt8) (hs : s.length ≤ 500) (hB : httpB s = true) (hpb : placeB ((s.drop 7).take (endOf (s.drop 7))) = false) (w : World) (hL : Laid w) :
    Calls Tryd.prog 9 #[.string (S s)] w fun e w' => e = .returned (.tuple #[(parseL s).1.v, .int .i64 (parseL s).2]) ∧ Below w.heap.size w w' := by
  obtain ⟨t, ht⟩ : ∃ t, s.drop 7 = t := ⟨_, rfl⟩
  have htl : t.length ≤ 493 := by rw [← ht, List.length_drop]; have : 7 ≤ s.length := by (unfold httpB at hB; simp at hB; omega)
                                  omega
  have h7 : 7 ≤ s.length := by unfold httpB at hB; simp at hB; omega
  have CL := Lib.hid (fun W => refLower s (by omega) W)
  have CB := Lib.hid (fun W => begins_S (s := lower s) (t := httpL) (b := true) (by rw [lower_len]; omega) (by decide) (by rw [httpB_ref, hB]) W)
  unfold httpL at CB
  have hel := endOf_le t
  have CP := Lib.hid (fun W => refPlace (t.take (endOf t)) (by rw [List.length_take]; omega) W)
  have htail := tailOf_len t
  have CF := Lib.hid (fun W => refFind (tailOf t) 63 (by omega) W)
  have CR := Lib.hid (fun W (hbl : Below w.heap.size w W) => refRightC ⟨true, placeH (t.take (endOf t)), -1, (cut1 (tailOf t) 63).1, (cut1 (tailOf t) 63).2.2, (cut1 (tailOf t) 63).2.1⟩ (absOf_mid t (by omega)) (W := W) hL hbl)
  have HP := show parseL s = if placeB (t.take (endOf t)) && (absOf t).ok then (absOf t, 0) else (UU.nil, 20) by unfold parseL; rw [if_neg (by omega), hB, ht]; simp
  obtain ⟨p, hp⟩ : ∃ x, parseL s = x := ⟨_, rfl⟩
  rw [hp] at HP ⊢
  rw [ht] at hpb
  rw [hpb] at CP HP
  obtain ⟨ok, hok⟩ : ∃ x, (absOf t).ok = x := ⟨_, rfl⟩
  rw [hok] at HP
  rw [show UU.ok ⟨true, placeH (t.take (endOf t)), -1, (cut1 (tailOf t) 63).1, (cut1 (tailOf t) 63).2.2, (cut1 (tailOf t) 63).2.1⟩ = false from neg_port ..] at CR
  have HN := Lib.hid (show True → p = (UU.nil, 20) from fun h => by rw [HP]; simp)
  have HY := Lib.hid (show true = false → ok = true → p = (absOf t, 0) from fun h h' => by rw [HP, ← h, h']; simp)
  clear HP hp hok hpb hB hL
  unfold absOf at HY
  have HT := tailOf_ref t
  obtain ⟨E1, E2⟩ := endOf_spec t
  obtain ⟨r, hr⟩ : ∃ x, tailOf t = x := ⟨_, rfl⟩
  rw [hr] at CF CR HY HT htail
  obtain ⟨e, he⟩ : ∃ x, endOf t = x := ⟨_, rfl⟩
  rw [he] at CP CR HY HT hel E1 E2
  obtain ⟨hh, hhh⟩ : ∃ x, placeH (t.take e) = x := ⟨_, rfl⟩
  obtain ⟨nn, hnn⟩ : ∃ x, placeN (t.take e) = x := ⟨_, rfl⟩
  simp only [hhh, hnn] at CP CR HY
  obtain ⟨d, hd⟩ : ∃ x, t.drop e = x := ⟨_, rfl⟩
  rw [hd] at HT
  have hge := Lib.indexByte_ge r 63
  have hlt := indexByte_lt r 63
  obtain ⟨ix, hix⟩ : ∃ x, Lib.indexByte r 63 = x := ⟨_, rfl⟩
  rw [hix] at CF hge hlt
  have hdl : d.length ≤ t.length := by rw [← hd, List.length_drop]; omega
  have CD := Lib.hid (fun W => begins_S (s := d) (t := [47]) (by omega) (by decide) rfl W)
  obtain ⟨bd, hbd⟩ : ∃ x, Lib.hasPrefix d [47] = x := ⟨_, rfl⟩
  rw [hbd] at CD HT
  clear hr he hhh hnn hbd
  have hE1 := Lib.hid E1
  have hE2 := Lib.hid E2
  clear E1 E2
  simp only [UU.v] at CR ⊢
  have hle : ¬ 500 < (s.length : Int) := by omega
  go_enter Tryd.func9, Tryd.ntmps9
  go_wp2_with fail
  refine Calls.mono (CL.out _) ?_
  rintro e w1 ⟨rfl, hb_w1⟩
  have hz_w1 := hb_w1.size
  try simp at hz_w1
  obtain ⟨c_w1_w_0, f_w1_w_0⟩ := bk hb_w1 (w.heap.size) (by first | omega | (simp <;> omega))
  have c_w1_w_0_0 := c_w1_w_0 0
  conv at c_w1_w_0_0 => rhs; simp [go_sem, *]
  have f_w1_w_0_0 := f_w1_w_0 0
  conv at f_w1_w_0_0 => rhs; simp [go_sem, *]
  have c_w1_w_0_1 := c_w1_w_0 1
  conv at c_w1_w_0_1 => rhs; simp [go_sem, *]
  have f_w1_w_0_1 := f_w1_w_0 1
  conv at f_w1_w_0_1 => rhs; simp [go_sem, *]
  have c_w1_w_0_2 := c_w1_w_0 2
  conv at c_w1_w_0_2 => rhs; simp [go_sem, *]
  have f_w1_w_0_2 := f_w1_w_0 2
  conv at f_w1_w_0_2 => rhs; simp [go_sem, *]
  have c_w1_w_0_3 := c_w1_w_0 3
  conv at c_w1_w_0_3 => rhs; simp [go_sem, *]
  have f_w1_w_0_3 := f_w1_w_0 3
  conv at f_w1_w_0_3 => rhs; simp [go_sem, *]
  have c_w1_w_0_4 := c_w1_w_0 4
  conv at c_w1_w_0_4 => rhs; simp [go_sem, *]
  have f_w1_w_0_4 := f_w1_w_0 4
  conv at f_w1_w_0_4 => rhs; simp [go_sem, *]
  have c_w1_w_0_5 := c_w1_w_0 5
  conv at c_w1_w_0_5 => rhs; simp [go_sem, *]
  have f_w1_w_0_5 := f_w1_w_0 5
  conv at f_w1_w_0_5 => rhs; simp [go_sem, *]
  obtain ⟨c_w1_w_1, f_w1_w_1⟩ := bk hb_w1 (w.heap.size + 1) (by first | omega | (simp <;> omega))
  have c_w1_w_1_0 := c_w1_w_1 0
  conv at c_w1_w_1_0 => rhs; simp [go_sem, *]
  have f_w1_w_1_0 := f_w1_w_1 0
  conv at f_w1_w_1_0 => rhs; simp [go_sem, *]
  have c_w1_w_1_1 := c_w1_w_1 1
  conv at c_w1_w_1_1 => rhs; simp [go_sem, *]
  have f_w1_w_1_1 := f_w1_w_1 1
  conv at f_w1_w_1_1 => rhs; simp [go_sem, *]
  have c_w1_w_1_2 := c_w1_w_1 2
  conv at c_w1_w_1_2 => rhs; simp [go_sem, *]
  have f_w1_w_1_2 := f_w1_w_1 2
  conv at f_w1_w_1_2 => rhs; simp [go_sem, *]
  have c_w1_w_1_3 := c_w1_w_1 3
  conv at c_w1_w_1_3 => rhs; simp [go_sem, *]
  have f_w1_w_1_3 := f_w1_w_1 3
  conv at f_w1_w_1_3 => rhs; simp [go_sem, *]
  have c_w1_w_1_4 := c_w1_w_1 4
  conv at c_w1_w_1_4 => rhs; simp [go_sem, *]
  have f_w1_w_1_4 := f_w1_w_1 4
  conv at f_w1_w_1_4 => rhs; simp [go_sem, *]
  have c_w1_w_1_5 := c_w1_w_1 5
  conv at c_w1_w_1_5 => rhs; simp [go_sem, *]
  have f_w1_w_1_5 := f_w1_w_1 5
  conv at f_w1_w_1_5 => rhs; simp [go_sem, *]
  have hB_w1 : Below w.heap.size w w1 := Below.trans (by (repeat (first | (with_reducible exact Below.refl _ _) | (with_reducible assumption) | (with_reducible refine Below.drew ?_) | (focus ((with_reducible refine Below.setCell ?_ ?_ _); rotate_left; (first | omega | (simp <;> omega)))) | (focus ((with_reducible refine Below.alloc ?_ ?_ _); rotate_left; (first | omega | (simp <;> omega)))) | exact Below.refl _ _ | assumption | refine Below.drew ?_ | refine Below.alloc ?_ (by first | omega | (simp <;> omega)) _ | refine Below.setCell ?_ (by first | omega | (simp <;> omega)) _))) (hb_w1.mono (by first | omega | (simp <;> omega)))
  clear hb_w1 c_w1_w_0 f_w1_w_0 c_w1_w_1 f_w1_w_1
  have far_w1_w_0 := far (show w.heap.size < w1.heap.size by omega)
  have far_w1_w_1 := far (show w.heap.size + 1 < w1.heap.size by omega)
  go_wp2_with fail
  refine Calls.mono (same_below (CB.out _)) ?_
  rintro e w2 ⟨rfl, hb_w2⟩
  have hz_w2 := hb_w2.size
  try simp at hz_w2
  obtain ⟨c_w2_w_0, f_w2_w_0⟩ := bk hb_w2 (w.heap.size) (by first | omega | (simp <;> omega))
  have c_w2_w_0_0 := c_w2_w_0 0
  conv at c_w2_w_0_0 => rhs; simp [go_sem, *]
  have f_w2_w_0_0 := f_w2_w_0 0
  conv at f_w2_w_0_0 => rhs; simp [go_sem, *]
  have c_w2_w_0_1 := c_w2_w_0 1
  conv at c_w2_w_0_1 => rhs; simp [go_sem, *]
  have f_w2_w_0_1 := f_w2_w_0 1
  conv at f_w2_w_0_1 => rhs; simp [go_sem, *]
  have c_w2_w_0_2 := c_w2_w_0 2
  conv at c_w2_w_0_2 => rhs; simp [go_sem, *]
  have f_w2_w_0_2 := f_w2_w_0 2
  conv at f_w2_w_0_2 => rhs; simp [go_sem, *]
  have c_w2_w_0_3 := c_w2_w_0 3
  conv at c_w2_w_0_3 => rhs; simp [go_sem, *]
  have f_w2_w_0_3 := f_w2_w_0 3
  conv at f_w2_w_0_3 => rhs; simp [go_sem, *]
  have c_w2_w_0_4 := c_w2_w_0 4
  conv at c_w2_w_0_4 => rhs; simp [go_sem, *]
  have f_w2_w_0_4 := f_w2_w_0 4
  conv at f_w2_w_0_4 => rhs; simp [go_sem, *]
  have c_w2_w_0_5 := c_w2_w_0 5
  conv at c_w2_w_0_5 => rhs; simp [go_sem, *]
  have f_w2_w_0_5 := f_w2_w_0 5
  conv at f_w2_w_0_5 => rhs; simp [go_sem, *]
  obtain ⟨c_w2_w_1, f_w2_w_1⟩ := bk hb_w2 (w.heap.size + 1) (by first | omega | (simp <;> omega))
  have c_w2_w_1_0 := c_w2_w_1 0
  conv at c_w2_w_1_0 => rhs; simp [go_sem, *]
  have f_w2_w_1_0 := f_w2_w_1 0
  conv at f_w2_w_1_0 => rhs; simp [go_sem, *]
  have c_w2_w_1_1 := c_w2_w_1 1
  conv at c_w2_w_1_1 => rhs; simp [go_sem, *]
  have f_w2_w_1_1 := f_w2_w_1 1
  conv at f_w2_w_1_1 => rhs; simp [go_sem, *]
  have c_w2_w_1_2 := c_w2_w_1 2
  conv at c_w2_w_1_2 => rhs; simp [go_sem, *]
  have f_w2_w_1_2 := f_w2_w_1 2
  conv at f_w2_w_1_2 => rhs; simp [go_sem, *]
  have c_w2_w_1_3 := c_w2_w_1 3
  conv at c_w2_w_1_3 => rhs; simp [go_sem, *]
  have f_w2_w_1_3 := f_w2_w_1 3
  conv at f_w2_w_1_3 => rhs; simp [go_sem, *]
  have c_w2_w_1_4 := c_w2_w_1 4
  conv at c_w2_w_1_4 => rhs; simp [go_sem, *]
  have f_w2_w_1_4 := f_w2_w_1 4
  conv at f_w2_w_1_4 => rhs; simp [go_sem, *]
  have c_w2_w_1_5 := c_w2_w_1 5
  conv at c_w2_w_1_5 => rhs; simp [go_sem, *]
  have f_w2_w_1_5 := f_w2_w_1 5
  conv at f_w2_w_1_5 => rhs; simp [go_sem, *]
  have hB_w2 : Below w.heap.size w w2 := Below.trans (by (repeat (first | (with_reducible exact Below.refl _ _) | (with_reducible assumption) | (with_reducible refine Below.drew ?_) | (focus ((with_reducible refine Below.setCell ?_ ?_ _); rotate_left; (first | omega | (simp <;> omega)))) | (focus ((with_reducible refine Below.alloc ?_ ?_ _); rotate_left; (first | omega | (simp <;> omega)))) | exact Below.refl _ _ | assumption | refine Below.drew ?_ | refine Below.alloc ?_ (by first | omega | (simp <;> omega)) _ | refine Below.setCell ?_ (by first | omega | (simp <;> omega)) _))) (hb_w2.mono (by first | omega | (simp <;> omega)))
  clear hb_w2 c_w2_w_0 f_w2_w_0 c_w2_w_1 f_w2_w_1
  try clear c_w1_w_0_0
  try clear f_w1_w_0_0
  try clear c_w1_w_0_1
  try clear f_w1_w_0_1
  try clear c_w1_w_0_2
  try clear f_w1_w_0_2
  try clear c_w1_w_0_3
  try clear f_w1_w_0_3
  try clear c_w1_w_0_4
  try clear f_w1_w_0_4
  try clear c_w1_w_0_5
  try clear f_w1_w_0_5
  try clear c_w1_w_1_0
  try clear f_w1_w_1_0
  try clear c_w1_w_1_1
  try clear f_w1_w_1_1
  try clear c_w1_w_1_2
  try clear f_w1_w_1_2
  try clear c_w1_w_1_3
  try clear f_w1_w_1_3
  try clear c_w1_w_1_4
  try clear f_w1_w_1_4
  try clear c_w1_w_1_5
  try clear f_w1_w_1_5
  try clear far_w1_w_0
  try clear far_w1_w_1
  try clear hB_w1
  have far_w2_w_0 := far (show w.heap.size < w2.heap.size by omega)
  have far_w2_w_1 := far (show w.heap.size + 1 < w2.heap.size by omega)
  go_wp2_with fail
  go_loop [5] (fun nv => ∃ k : Nat, nv = .int .i64 k ∧ k ≤ e) (fun nv => e - (intOf nv).toNat)
  case atStart => exact ⟨0, rfl, Nat.zero_le _⟩
  case round =>
    obtain ⟨k, rfl, hk⟩ := hrel
    by_cases hke : k < e
    · have hkt : k < t.length := by omega
      obtain ⟨n1, n2⟩ := hE1.out k hke
      go_wp2
      go_round
      case rel => exact ⟨k + 1, by go_num, by omega⟩
      case measure => simp [intOf]; omega
    · obtain rfl : k = e := by omega
      have hcase : ¬ (k < t.length) ∨ (k < t.length ∧ (bAt t k != 47) = false) ∨ (k < t.length ∧ (bAt t k != 47) = true ∧ (bAt t k != 63) = false) := by
        by_cases h : k < t.length
        · rcases hE2.out h with h1 | h1
          · exact .inr (.inl ⟨h, by simp [h1]⟩)
          · exact .inr (.inr ⟨h, by simp [h1], by simp [h1]⟩)
        · exact .inl h
      rcases hcase with h9 | ⟨h9, h10⟩ | ⟨h9, h10, h11⟩
      all_goals
        go_wp2_with fail
        refine Calls.mono (CP.out _) ?_
        rintro e w3 ⟨rfl, hb_w3⟩
        have hz_w3 := hb_w3.size
        try simp at hz_w3
        obtain ⟨c_w3_w_0, f_w3_w_0⟩ := bk hb_w3 (w.heap.size) (by first | omega | (simp <;> omega))
        have c_w3_w_0_0 := c_w3_w_0 0
        conv at c_w3_w_0_0 => rhs; simp [go_sem, *]
        have f_w3_w_0_0 := f_w3_w_0 0
        conv at f_w3_w_0_0 => rhs; simp [go_sem, *]
        have c_w3_w_0_1 := c_w3_w_0 1
        conv at c_w3_w_0_1 => rhs; simp [go_sem, *]
        have f_w3_w_0_1 := f_w3_w_0 1
        conv at f_w3_w_0_1 => rhs; simp [go_sem, *]
        have c_w3_w_0_2 := c_w3_w_0 2
        conv at c_w3_w_0_2 => rhs; simp [go_sem, *]
        have f_w3_w_0_2 := f_w3_w_0 2
        conv at f_w3_w_0_2 => rhs; simp [go_sem, *]
        have c_w3_w_0_3 := c_w3_w_0 3
        conv at c_w3_w_0_3 => rhs; simp [go_sem, *]
        have f_w3_w_0_3 := f_w3_w_0 3
        conv at f_w3_w_0_3 => rhs; simp [go_sem, *]
        have c_w3_w_0_4 := c_w3_w_0 4
        conv at c_w3_w_0_4 => rhs; simp [go_sem, *]
        have f_w3_w_0_4 := f_w3_w_0 4
        conv at f_w3_w_0_4 => rhs; simp [go_sem, *]
        have c_w3_w_0_5 := c_w3_w_0 5
        conv at c_w3_w_0_5 => rhs; simp [go_sem, *]
        have f_w3_w_0_5 := f_w3_w_0 5
        conv at f_w3_w_0_5 => rhs; simp [go_sem, *]
        obtain ⟨c_w3_w_1, f_w3_w_1⟩ := bk hb_w3 (w.heap.size + 1) (by first | omega | (simp <;> omega))
        have c_w3_w_1_0 := c_w3_w_1 0
        conv at c_w3_w_1_0 => rhs; simp [go_sem, *]
        have f_w3_w_1_0 := f_w3_w_1 0
        conv at f_w3_w_1_0 => rhs; simp [go_sem, *]
        have c_w3_w_1_1 := c_w3_w_1 1
        conv at c_w3_w_1_1 => rhs; simp [go_sem, *]
        have f_w3_w_1_1 := f_w3_w_1 1
        conv at f_w3_w_1_1 => rhs; simp [go_sem, *]
        have c_w3_w_1_2 := c_w3_w_1 2
        conv at c_w3_w_1_2 => rhs; simp [go_sem, *]
        have f_w3_w_1_2 := f_w3_w_1 2
        conv at f_w3_w_1_2 => rhs; simp [go_sem, *]
        have c_w3_w_1_3 := c_w3_w_1 3
        conv at c_w3_w_1_3 => rhs; simp [go_sem, *]
        have f_w3_w_1_3 := f_w3_w_1 3
        conv at f_w3_w_1_3 => rhs; simp [go_sem, *]
        have c_w3_w_1_4 := c_w3_w_1 4
        conv at c_w3_w_1_4 => rhs; simp [go_sem, *]
        have f_w3_w_1_4 := f_w3_w_1 4
        conv at f_w3_w_1_4 => rhs; simp [go_sem, *]
        have c_w3_w_1_5 := c_w3_w_1 5
        conv at c_w3_w_1_5 => rhs; simp [go_sem, *]
        have f_w3_w_1_5 := f_w3_w_1 5
        conv at f_w3_w_1_5 => rhs; simp [go_sem, *]
        have hB_w3 : Below w.heap.size w w3 := Below.trans (by (repeat (first | (with_reducible exact Below.refl _ _) | (with_reducible assumption) | (with_reducible refine Below.drew ?_) | (focus ((with_reducible refine Below.setCell ?_ ?_ _); rotate_left; (first | omega | (simp <;> omega)))) | (focus ((with_reducible refine Below.alloc ?_ ?_ _); rotate_left; (first | omega | (simp <;> omega)))) | exact Below.refl _ _ | assumption | refine Below.drew ?_ | refine Below.alloc ?_ (by first | omega | (simp <;> omega)) _ | refine Below.setCell ?_ (by first | omega | (simp <;> omega)) _))) (hb_w3.mono (by first | omega | (simp <;> omega)))
        clear hb_w3 c_w3_w_0 f_w3_w_0 c_w3_w_1 f_w3_w_1
        try clear c_w2_w_0_0
        try clear f_w2_w_0_0
        try clear c_w2_w_0_1
        try clear f_w2_w_0_1
        try clear c_w2_w_0_2
        try clear f_w2_w_0_2
        try clear c_w2_w_0_3
        try clear f_w2_w_0_3
        try clear c_w2_w_0_4
        try clear f_w2_w_0_4
        try clear c_w2_w_0_5
        try clear f_w2_w_0_5
        try clear c_w2_w_1_0
        try clear f_w2_w_1_0
        try clear c_w2_w_1_1
        try clear f_w2_w_1_1
        try clear c_w2_w_1_2
        try clear f_w2_w_1_2
        try clear c_w2_w_1_3
        try clear f_w2_w_1_3
        try clear c_w2_w_1_4
        try clear f_w2_w_1_4
        try clear c_w2_w_1_5
        try clear f_w2_w_1_5
        try clear far_w2_w_0
        try clear far_w2_w_1
        try clear hB_w2
        have far_w3_w_0 := far (show w.heap.size < w3.heap.size by omega)
        have far_w3_w_1 := far (show w.heap.size + 1 < w3.heap.size by omega)
        go_wp2_with fail
        refine Calls.mono (same_below (CD.out _)) ?_
        rintro e w4 ⟨rfl, hb_w4⟩
        have hz_w4 := hb_w4.size
        try simp at hz_w4
        obtain ⟨c_w4_w_0, f_w4_w_0⟩ := bk hb_w4 (w.heap.size) (by first | omega | (simp <;> omega))
        have c_w4_w_0_0 := c_w4_w_0 0
        conv at c_w4_w_0_0 => rhs; simp [go_sem, *]
        have f_w4_w_0_0 := f_w4_w_0 0
        conv at f_w4_w_0_0 => rhs; simp [go_sem, *]
        have c_w4_w_0_1 := c_w4_w_0 1
        conv at c_w4_w_0_1 => rhs; simp [go_sem, *]
        have f_w4_w_0_1 := f_w4_w_0 1
        conv at f_w4_w_0_1 => rhs; simp [go_sem, *]
        have c_w4_w_0_2 := c_w4_w_0 2
        conv at c_w4_w_0_2 => rhs; simp [go_sem, *]
        have f_w4_w_0_2 := f_w4_w_0 2
        conv at f_w4_w_0_2 => rhs; simp [go_sem, *]
        have c_w4_w_0_3 := c_w4_w_0 3
        conv at c_w4_w_0_3 => rhs; simp [go_sem, *]
        have f_w4_w_0_3 := f_w4_w_0 3
        conv at f_w4_w_0_3 => rhs; simp [go_sem, *]
        have c_w4_w_0_4 := c_w4_w_0 4
        conv at c_w4_w_0_4 => rhs; simp [go_sem, *]
        have f_w4_w_0_4 := f_w4_w_0 4
        conv at f_w4_w_0_4 => rhs; simp [go_sem, *]
        have c_w4_w_0_5 := c_w4_w_0 5
        conv at c_w4_w_0_5 => rhs; simp [go_sem, *]
        have f_w4_w_0_5 := f_w4_w_0 5
        conv at f_w4_w_0_5 => rhs; simp [go_sem, *]
        obtain ⟨c_w4_w_1, f_w4_w_1⟩ := bk hb_w4 (w.heap.size + 1) (by first | omega | (simp <;> omega))
        have c_w4_w_1_0 := c_w4_w_1 0
        conv at c_w4_w_1_0 => rhs; simp [go_sem, *]
        have f_w4_w_1_0 := f_w4_w_1 0
        conv at f_w4_w_1_0 => rhs; simp [go_sem, *]
        have c_w4_w_1_1 := c_w4_w_1 1
        conv at c_w4_w_1_1 => rhs; simp [go_sem, *]
        have f_w4_w_1_1 := f_w4_w_1 1
        conv at f_w4_w_1_1 => rhs; simp [go_sem, *]
        have c_w4_w_1_2 := c_w4_w_1 2
        conv at c_w4_w_1_2 => rhs; simp [go_sem, *]
        have f_w4_w_1_2 := f_w4_w_1 2
        conv at f_w4_w_1_2 => rhs; simp [go_sem, *]
        have c_w4_w_1_3 := c_w4_w_1 3
        conv at c_w4_w_1_3 => rhs; simp [go_sem, *]
        have f_w4_w_1_3 := f_w4_w_1 3
        conv at f_w4_w_1_3 => rhs; simp [go_sem, *]
        have c_w4_w_1_4 := c_w4_w_1 4
        conv at c_w4_w_1_4 => rhs; simp [go_sem, *]
        have f_w4_w_1_4 := f_w4_w_1 4
        conv at f_w4_w_1_4 => rhs; simp [go_sem, *]
        have c_w4_w_1_5 := c_w4_w_1 5
        conv at c_w4_w_1_5 => rhs; simp [go_sem, *]
        have f_w4_w_1_5 := f_w4_w_1 5
        conv at f_w4_w_1_5 => rhs; simp [go_sem, *]
        have hB_w4 : Below w.heap.size w w4 := Below.trans (by (repeat (first | (with_reducible exact Below.refl _ _) | (with_reducible assumption) | (with_reducible refine Below.drew ?_) | (focus ((with_reducible refine Below.setCell ?_ ?_ _); rotate_left; (first | omega | (simp <;> omega)))) | (focus ((with_reducible refine Below.alloc ?_ ?_ _); rotate_left; (first | omega | (simp <;> omega)))) | exact Below.refl _ _ | assumption | refine Below.drew ?_ | refine Below.alloc ?_ (by first | omega | (simp <;> omega)) _ | refine Below.setCell ?_ (by first | omega | (simp <;> omega)) _))) (hb_w4.mono (by first | omega | (simp <;> omega)))
        clear hb_w4 c_w4_w_0 f_w4_w_0 c_w4_w_1 f_w4_w_1
        try clear c_w3_w_0_0
        try clear f_w3_w_0_0
        try clear c_w3_w_0_1
        try clear f_w3_w_0_1
        try clear c_w3_w_0_2
        try clear f_w3_w_0_2
        try clear c_w3_w_0_3
        try clear f_w3_w_0_3
        try clear c_w3_w_0_4
        try clear f_w3_w_0_4
        try clear c_w3_w_0_5
        try clear f_w3_w_0_5
        try clear c_w3_w_1_0
        try clear f_w3_w_1_0
        try clear c_w3_w_1_1
        try clear f_w3_w_1_1
        try clear c_w3_w_1_2
        try clear f_w3_w_1_2
        try clear c_w3_w_1_3
        try clear f_w3_w_1_3
        try clear c_w3_w_1_4
        try clear f_w3_w_1_4
        try clear c_w3_w_1_5
        try clear f_w3_w_1_5
        try clear far_w3_w_0
        try clear far_w3_w_1
        try clear hB_w3
        have far_w4_w_0 := far (show w.heap.size < w4.heap.size by omega)
        have far_w4_w_1 := far (show w.heap.size + 1 < w4.heap.size by omega)
        cases bd with
        | true =>
          obtain rfl : r = d := by rw [HT]; simp
          clear HT
          go_wp2_with fail
          refine Calls.mono (same_below (CF.out _)) ?_
          rintro e w7 ⟨rfl, hb_w7⟩
          have hz_w7 := hb_w7.size
          try simp at hz_w7
          obtain ⟨c_w7_w_0, f_w7_w_0⟩ := bk hb_w7 (w.heap.size) (by first | omega | (simp <;> omega))
          have c_w7_w_0_0 := c_w7_w_0 0
          conv at c_w7_w_0_0 => rhs; simp [go_sem, *]
          have f_w7_w_0_0 := f_w7_w_0 0
          conv at f_w7_w_0_0 => rhs; simp [go_sem, *]
          have c_w7_w_0_1 := c_w7_w_0 1
          conv at c_w7_w_0_1 => rhs; simp [go_sem, *]
          have f_w7_w_0_1 := f_w7_w_0 1
          conv at f_w7_w_0_1 => rhs; simp [go_sem, *]
          have c_w7_w_0_2 := c_w7_w_0 2
          conv at c_w7_w_0_2 => rhs; simp [go_sem, *]
          have f_w7_w_0_2 := f_w7_w_0 2
          conv at f_w7_w_0_2 => rhs; simp [go_sem, *]
          have c_w7_w_0_3 := c_w7_w_0 3
          conv at c_w7_w_0_3 => rhs; simp [go_sem, *]
          have f_w7_w_0_3 := f_w7_w_0 3
          conv at f_w7_w_0_3 => rhs; simp [go_sem, *]
          have c_w7_w_0_4 := c_w7_w_0 4
          conv at c_w7_w_0_4 => rhs; simp [go_sem, *]
          have f_w7_w_0_4 := f_w7_w_0 4
          conv at f_w7_w_0_4 => rhs; simp [go_sem, *]
          have c_w7_w_0_5 := c_w7_w_0 5
          conv at c_w7_w_0_5 => rhs; simp [go_sem, *]
          have f_w7_w_0_5 := f_w7_w_0 5
          conv at f_w7_w_0_5 => rhs; simp [go_sem, *]
          obtain ⟨c_w7_w_1, f_w7_w_1⟩ := bk hb_w7 (w.heap.size + 1) (by first | omega | (simp <;> omega))
          have c_w7_w_1_0 := c_w7_w_1 0
          conv at c_w7_w_1_0 => rhs; simp [go_sem, *]
          have f_w7_w_1_0 := f_w7_w_1 0
          conv at f_w7_w_1_0 => rhs; simp [go_sem, *]
          have c_w7_w_1_1 := c_w7_w_1 1
          conv at c_w7_w_1_1 => rhs; simp [go_sem, *]
          have f_w7_w_1_1 := f_w7_w_1 1
          conv at f_w7_w_1_1 => rhs; simp [go_sem, *]
          have c_w7_w_1_2 := c_w7_w_1 2
          conv at c_w7_w_1_2 => rhs; simp [go_sem, *]
          have f_w7_w_1_2 := f_w7_w_1 2
          conv at f_w7_w_1_2 => rhs; simp [go_sem, *]
          have c_w7_w_1_3 := c_w7_w_1 3
          conv at c_w7_w_1_3 => rhs; simp [go_sem, *]
          have f_w7_w_1_3 := f_w7_w_1 3
          conv at f_w7_w_1_3 => rhs; simp [go_sem, *]
          have c_w7_w_1_4 := c_w7_w_1 4
          conv at c_w7_w_1_4 => rhs; simp [go_sem, *]
          have f_w7_w_1_4 := f_w7_w_1 4
          conv at f_w7_w_1_4 => rhs; simp [go_sem, *]
          have c_w7_w_1_5 := c_w7_w_1 5
          conv at c_w7_w_1_5 => rhs; simp [go_sem, *]
          have f_w7_w_1_5 := f_w7_w_1 5
          conv at f_w7_w_1_5 => rhs; simp [go_sem, *]
          have hB_w7 : Below w.heap.size w w7 := Below.trans (by (repeat (first | (with_reducible exact Below.refl _ _) | (with_reducible assumption) | (with_reducible refine Below.drew ?_) | (focus ((with_reducible refine Below.setCell ?_ ?_ _); rotate_left; (first | omega | (simp <;> omega)))) | (focus ((with_reducible refine Below.alloc ?_ ?_ _); rotate_left; (first | omega | (simp <;> omega)))) | exact Below.refl _ _ | assumption | refine Below.drew ?_ | refine Below.alloc ?_ (by first | omega | (simp <;> omega)) _ | refine Below.setCell ?_ (by first | omega | (simp <;> omega)) _))) (hb_w7.mono (by first | omega | (simp <;> omega)))
          clear hb_w7 c_w7_w_0 f_w7_w_0 c_w7_w_1 f_w7_w_1
          try clear c_w4_w_0_0
          try clear f_w4_w_0_0
          try clear c_w4_w_0_1
          try clear f_w4_w_0_1
          try clear c_w4_w_0_2
          try clear f_w4_w_0_2
          try clear c_w4_w_0_3
          try clear f_w4_w_0_3
          try clear c_w4_w_0_4
          try clear f_w4_w_0_4
          try clear c_w4_w_0_5
          try clear f_w4_w_0_5
          try clear c_w4_w_1_0
          try clear f_w4_w_1_0
          try clear c_w4_w_1_1
          try clear f_w4_w_1_1
          try clear c_w4_w_1_2
          try clear f_w4_w_1_2
          try clear c_w4_w_1_3
          try clear f_w4_w_1_3
          try clear c_w4_w_1_4
          try clear f_w4_w_1_4
          try clear c_w4_w_1_5
          try clear f_w4_w_1_5
          try clear far_w4_w_0
          try clear far_w4_w_1
          try clear hB_w4
          have far_w7_w_0 := far (show w.heap.size < w7.heap.size by omega)
          have far_w7_w_1 := far (show w.heap.size + 1 < w7.heap.size by omega)
          by_cases hq : 0 ≤ ix
          · obtain ⟨m, rfl⟩ : ∃ m : Nat, ix = m := ⟨ix.toNat, by omega⟩
            have HC := Lib.hid (show cut1 r 63 = (r.take m, r.drop (m + 1), true) by unfold cut1; rw [hix]; simp)
            simp only [HC.out] at CR HY
            go_wp2_with fail
            refine Calls.mono (CR.out _ (by (repeat (first | (with_reducible exact Below.refl _ _) | (with_reducible assumption) | (with_reducible refine Below.drew ?_) | (focus ((with_reducible refine Below.setCell ?_ ?_ _); rotate_left; (first | omega | (simp <;> omega)))) | (focus ((with_reducible refine Below.alloc ?_ ?_ _); rotate_left; (first | omega | (simp <;> omega)))) | exact Below.refl _ _ | assumption | refine Below.drew ?_ | refine Below.alloc ?_ (by first | omega | (simp <;> omega)) _ | refine Below.setCell ?_ (by first | omega | (simp <;> omega)) _)))) ?_
            rintro e w8 ⟨rfl, hb_w8⟩
            have hz_w8 := hb_w8.size
            try simp at hz_w8
            obtain ⟨c_w8_w_0, f_w8_w_0⟩ := bk hb_w8 (w.heap.size) (by first | omega | (simp <;> omega))
            have c_w8_w_0_0 := c_w8_w_0 0
            conv at c_w8_w_0_0 => rhs; simp [go_sem, *]
            have f_w8_w_0_0 := f_w8_w_0 0
            conv at f_w8_w_0_0 => rhs; simp [go_sem, *]
            have c_w8_w_0_1 := c_w8_w_0 1
            conv at c_w8_w_0_1 => rhs; simp [go_sem, *]
            have f_w8_w_0_1 := f_w8_w_0 1
            conv at f_w8_w_0_1 => rhs; simp [go_sem, *]
            have c_w8_w_0_2 := c_w8_w_0 2
            conv at c_w8_w_0_2 => rhs; simp [go_sem, *]
            have f_w8_w_0_2 := f_w8_w_0 2
            conv at f_w8_w_0_2 => rhs; simp [go_sem, *]
            have c_w8_w_0_3 := c_w8_w_0 3
            conv at c_w8_w_0_3 => rhs; simp [go_sem, *]
            have f_w8_w_0_3 := f_w8_w_0 3
            conv at f_w8_w_0_3 => rhs; simp [go_sem, *]
            have c_w8_w_0_4 := c_w8_w_0 4
            conv at c_w8_w_0_4 => rhs; simp [go_sem, *]
            have f_w8_w_0_4 := f_w8_w_0 4
            conv at f_w8_w_0_4 => rhs; simp [go_sem, *]
            have c_w8_w_0_5 := c_w8_w_0 5
            conv at c_w8_w_0_5 => rhs; simp [go_sem, *]
            have f_w8_w_0_5 := f_w8_w_0 5
            conv at f_w8_w_0_5 => rhs; simp [go_sem, *]
            obtain ⟨c_w8_w_1, f_w8_w_1⟩ := bk hb_w8 (w.heap.size + 1) (by first | omega | (simp <;> omega))
            have c_w8_w_1_0 := c_w8_w_1 0
            conv at c_w8_w_1_0 => rhs; simp [go_sem, *]
            have f_w8_w_1_0 := f_w8_w_1 0
            conv at f_w8_w_1_0 => rhs; simp [go_sem, *]
            have c_w8_w_1_1 := c_w8_w_1 1
            conv at c_w8_w_1_1 => rhs; simp [go_sem, *]
            have f_w8_w_1_1 := f_w8_w_1 1
            conv at f_w8_w_1_1 => rhs; simp [go_sem, *]
            have c_w8_w_1_2 := c_w8_w_1 2
            conv at c_w8_w_1_2 => rhs; simp [go_sem, *]
            have f_w8_w_1_2 := f_w8_w_1 2
            conv at f_w8_w_1_2 => rhs; simp [go_sem, *]
            have c_w8_w_1_3 := c_w8_w_1 3
            conv at c_w8_w_1_3 => rhs; simp [go_sem, *]
            have f_w8_w_1_3 := f_w8_w_1 3
            conv at f_w8_w_1_3 => rhs; simp [go_sem, *]
            have c_w8_w_1_4 := c_w8_w_1 4
            conv at c_w8_w_1_4 => rhs; simp [go_sem, *]
            have f_w8_w_1_4 := f_w8_w_1 4
            conv at f_w8_w_1_4 => rhs; simp [go_sem, *]
            have c_w8_w_1_5 := c_w8_w_1 5
            conv at c_w8_w_1_5 => rhs; simp [go_sem, *]
            have f_w8_w_1_5 := f_w8_w_1 5
            conv at f_w8_w_1_5 => rhs; simp [go_sem, *]
            have hB_w8 : Below w.heap.size w w8 := Below.trans (by (repeat (first | (with_reducible exact Below.refl _ _) | (with_reducible assumption) | (with_reducible refine Below.drew ?_) | (focus ((with_reducible refine Below.setCell ?_ ?_ _); rotate_left; (first | omega | (simp <;> omega)))) | (focus ((with_reducible refine Below.alloc ?_ ?_ _); rotate_left; (first | omega | (simp <;> omega)))) | exact Below.refl _ _ | assumption | refine Below.drew ?_ | refine Below.alloc ?_ (by first | omega | (simp <;> omega)) _ | refine Below.setCell ?_ (by first | omega | (simp <;> omega)) _))) (hb_w8.mono (by first | omega | (simp <;> omega)))
            clear hb_w8 c_w8_w_0 f_w8_w_0 c_w8_w_1 f_w8_w_1
            try clear c_w7_w_0_0
            try clear f_w7_w_0_0
            try clear c_w7_w_0_1
            try clear f_w7_w_0_1
            try clear c_w7_w_0_2
            try clear f_w7_w_0_2
            try clear c_w7_w_0_3
            try clear f_w7_w_0_3
            try clear c_w7_w_0_4
            try clear f_w7_w_0_4
            try clear c_w7_w_0_5
            try clear f_w7_w_0_5
            try clear c_w7_w_1_0
            try clear f_w7_w_1_0
            try clear c_w7_w_1_1
            try clear f_w7_w_1_1
            try clear c_w7_w_1_2
            try clear f_w7_w_1_2
            try clear c_w7_w_1_3
            try clear f_w7_w_1_3
            try clear c_w7_w_1_4
            try clear f_w7_w_1_4
            try clear c_w7_w_1_5
            try clear f_w7_w_1_5
            try clear far_w7_w_0
            try clear far_w7_w_1
            try clear hB_w7
            have far_w8_w_0 := far (show w.heap.size < w8.heap.size by omega)
            have far_w8_w_1 := far (show w.heap.size + 1 < w8.heap.size by omega)
            go_wp2
            refine bodyPost_ret (v := .tuple #[uv false [] 0 [] false [], .int .i64 20]) (by simp [results, Tryd.results9, go_sem, *]) rfl ⟨by rw [HN.out (by simp)]; rfl, ?_⟩
            (repeat (first | (with_reducible exact Below.refl _ _) | (with_reducible assumption) | (with_reducible refine Below.drew ?_) | (focus ((with_reducible refine Below.setCell ?_ ?_ _); rotate_left; (first | omega | (simp <;> omega)))) | (focus ((with_reducible refine Below.alloc ?_ ?_ _); rotate_left; (first | omega | (simp <;> omega)))) | exact Below.refl _ _ | assumption | refine Below.drew ?_ | refine Below.alloc ?_ (by first | omega | (simp <;> omega)) _ | refine Below.setCell ?_ (by first | omega | (simp <;> omega)) _))
          · skip
            have HC := Lib.hid (show cut1 r 63 = (r, [], false) by unfold cut1; rw [hix]; simp [hq])
            simp only [HC.out] at CR HY
            go_wp2_with fail
            refine Calls.mono (CR.out _ (by (repeat (first | (with_reducible exact Below.refl _ _) | (with_reducible assumption) | (with_reducible refine Below.drew ?_) | (focus ((with_reducible refine Below.setCell ?_ ?_ _); rotate_left; (first | omega | (simp <;> omega)))) | (focus ((with_reducible refine Below.alloc ?_ ?_ _); rotate_left; (first | omega | (simp <;> omega)))) | exact Below.refl _ _ | assumption | refine Below.drew ?_ | refine Below.alloc ?_ (by first | omega | (simp <;> omega)) _ | refine Below.setCell ?_ (by first | omega | (simp <;> omega)) _)))) ?_
            rintro e w8 ⟨rfl, hb_w8⟩
            have hz_w8 := hb_w8.size
            try simp at hz_w8
            obtain ⟨c_w8_w_0, f_w8_w_0⟩ := bk hb_w8 (w.heap.size) (by first | omega | (simp <;> omega))
            have c_w8_w_0_0 := c_w8_w_0 0
            conv at c_w8_w_0_0 => rhs; simp [go_sem, *]
            have f_w8_w_0_0 := f_w8_w_0 0
            conv at f_w8_w_0_0 => rhs; simp [go_sem, *]
            have c_w8_w_0_1 := c_w8_w_0 1
            conv at c_w8_w_0_1 => rhs; simp [go_sem, *]
            have f_w8_w_0_1 := f_w8_w_0 1
            conv at f_w8_w_0_1 => rhs; simp [go_sem, *]
            have c_w8_w_0_2 := c_w8_w_0 2
            conv at c_w8_w_0_2 => rhs; simp [go_sem, *]
            have f_w8_w_0_2 := f_w8_w_0 2
            conv at f_w8_w_0_2 => rhs; simp [go_sem, *]
            have c_w8_w_0_3 := c_w8_w_0 3
            conv at c_w8_w_0_3 => rhs; simp [go_sem, *]
            have f_w8_w_0_3 := f_w8_w_0 3
            conv at f_w8_w_0_3 => rhs; simp [go_sem, *]
            have c_w8_w_0_4 := c_w8_w_0 4
            conv at c_w8_w_0_4 => rhs; simp [go_sem, *]
            have f_w8_w_0_4 := f_w8_w_0 4
            conv at f_w8_w_0_4 => rhs; simp [go_sem, *]
            have c_w8_w_0_5 := c_w8_w_0 5
            conv at c_w8_w_0_5 => rhs; simp [go_sem, *]
            have f_w8_w_0_5 := f_w8_w_0 5
            conv at f_w8_w_0_5 => rhs; simp [go_sem, *]
            obtain ⟨c_w8_w_1, f_w8_w_1⟩ := bk hb_w8 (w.heap.size + 1) (by first | omega | (simp <;> omega))
            have c_w8_w_1_0 := c_w8_w_1 0
            conv at c_w8_w_1_0 => rhs; simp [go_sem, *]
            have f_w8_w_1_0 := f_w8_w_1 0
            conv at f_w8_w_1_0 => rhs; simp [go_sem, *]
            have c_w8_w_1_1 := c_w8_w_1 1
            conv at c_w8_w_1_1 => rhs; simp [go_sem, *]
            have f_w8_w_1_1 := f_w8_w_1 1
            conv at f_w8_w_1_1 => rhs; simp [go_sem, *]
            have c_w8_w_1_2 := c_w8_w_1 2
            conv at c_w8_w_1_2 => rhs; simp [go_sem, *]
            have f_w8_w_1_2 := f_w8_w_1 2
            conv at f_w8_w_1_2 => rhs; simp [go_sem, *]
            have c_w8_w_1_3 := c_w8_w_1 3
            conv at c_w8_w_1_3 => rhs; simp [go_sem, *]
            have f_w8_w_1_3 := f_w8_w_1 3
            conv at f_w8_w_1_3 => rhs; simp [go_sem, *]
            have c_w8_w_1_4 := c_w8_w_1 4
            conv at c_w8_w_1_4 => rhs; simp [go_sem, *]
            have f_w8_w_1_4 := f_w8_w_1 4
            conv at f_w8_w_1_4 => rhs; simp [go_sem, *]
            have c_w8_w_1_5 := c_w8_w_1 5
            conv at c_w8_w_1_5 => rhs; simp [go_sem, *]
            have f_w8_w_1_5 := f_w8_w_1 5
            conv at f_w8_w_1_5 => rhs; simp [go_sem, *]
            have hB_w8 : Below w.heap.size w w8 := Below.trans (by (repeat (first | (with_reducible exact Below.refl _ _) | (with_reducible assumption) | (with_reducible refine Below.drew ?_) | (focus ((with_reducible refine Below.setCell ?_ ?_ _); rotate_left; (first | omega | (simp <;> omega)))) | (focus ((with_reducible refine Below.alloc ?_ ?_ _); rotate_left; (first | omega | (simp <;> omega)))) | exact Below.refl _ _ | assumption | refine Below.drew ?_ | refine Below.alloc ?_ (by first | omega | (simp <;> omega)) _ | refine Below.setCell ?_ (by first | omega | (simp <;> omega)) _))) (hb_w8.mono (by first | omega | (simp <;> omega)))
            clear hb_w8 c_w8_w_0 f_w8_w_0 c_w8_w_1 f_w8_w_1
            have far_w8_w_0 := far (show w.heap.size < w8.heap.size by omega)
            have far_w8_w_1 := far (show w.heap.size + 1 < w8.heap.size by omega)
            go_wp2
            refine bodyPost_ret (v := .tuple #[uv false [] 0 [] false [], .int .i64 20]) (by simp [results, Tryd.results9, go_sem, *]) rfl ⟨by rw [HN.out (by simp)]; rfl, ?_⟩
            (repeat (first | (with_reducible exact Below.refl _ _) | (with_reducible assumption) | (with_reducible refine Below.drew ?_) | (focus ((with_reducible refine Below.setCell ?_ ?_ _); rotate_left; (first | omega | (simp <;> omega)))) | (focus ((with_reducible refine Below.alloc ?_ ?_ _); rotate_left; (first | omega | (simp <;> omega)))) | exact Below.refl _ _ | assumption | refine Below.drew ?_ | refine Below.alloc ?_ (by first | omega | (simp <;> omega)) _ | refine Below.setCell ?_ (by first | omega | (simp <;> omega)) _))
        | false =>
          have hrd : 47 :: d = r := by rw [HT]; simp
          clear HT
          go_wp2_with fail
          refine Calls.mono (same_below (CF.out _)) ?_
          rintro e w7 ⟨rfl, hb_w7⟩
          have hz_w7 := hb_w7.size
          try simp at hz_w7
          obtain ⟨c_w7_w_0, f_w7_w_0⟩ := bk hb_w7 (w.heap.size) (by first | omega | (simp <;> omega))
          have c_w7_w_0_0 := c_w7_w_0 0
          conv at c_w7_w_0_0 => rhs; simp [go_sem, *]
          have f_w7_w_0_0 := f_w7_w_0 0
          conv at f_w7_w_0_0 => rhs; simp [go_sem, *]
          have c_w7_w_0_1 := c_w7_w_0 1
          conv at c_w7_w_0_1 => rhs; simp [go_sem, *]
          have f_w7_w_0_1 := f_w7_w_0 1
          conv at f_w7_w_0_1 => rhs; simp [go_sem, *]
          have c_w7_w_0_2 := c_w7_w_0 2
          conv at c_w7_w_0_2 => rhs; simp [go_sem, *]
          have f_w7_w_0_2 := f_w7_w_0 2
          conv at f_w7_w_0_2 => rhs; simp [go_sem, *]
          have c_w7_w_0_3 := c_w7_w_0 3
          conv at c_w7_w_0_3 => rhs; simp [go_sem, *]
          have f_w7_w_0_3 := f_w7_w_0 3
          conv at f_w7_w_0_3 => rhs; simp [go_sem, *]
          have c_w7_w_0_4 := c_w7_w_0 4
          conv at c_w7_w_0_4 => rhs; simp [go_sem, *]
          have f_w7_w_0_4 := f_w7_w_0 4
          conv at f_w7_w_0_4 => rhs; simp [go_sem, *]
          have c_w7_w_0_5 := c_w7_w_0 5
          conv at c_w7_w_0_5 => rhs; simp [go_sem, *]
          have f_w7_w_0_5 := f_w7_w_0 5
          conv at f_w7_w_0_5 => rhs; simp [go_sem, *]
          obtain ⟨c_w7_w_1, f_w7_w_1⟩ := bk hb_w7 (w.heap.size + 1) (by first | omega | (simp <;> omega))
          have c_w7_w_1_0 := c_w7_w_1 0
          conv at c_w7_w_1_0 => rhs; simp [go_sem, *]
          have f_w7_w_1_0 := f_w7_w_1 0
          conv at f_w7_w_1_0 => rhs; simp [go_sem, *]
          have c_w7_w_1_1 := c_w7_w_1 1
          conv at c_w7_w_1_1 => rhs; simp [go_sem, *]
          have f_w7_w_1_1 := f_w7_w_1 1
          conv at f_w7_w_1_1 => rhs; simp [go_sem, *]
          have c_w7_w_1_2 := c_w7_w_1 2
          conv at c_w7_w_1_2 => rhs; simp [go_sem, *]
          have f_w7_w_1_2 := f_w7_w_1 2
          conv at f_w7_w_1_2 => rhs; simp [go_sem, *]
          have c_w7_w_1_3 := c_w7_w_1 3
          conv at c_w7_w_1_3 => rhs; simp [go_sem, *]
          have f_w7_w_1_3 := f_w7_w_1 3
          conv at f_w7_w_1_3 => rhs; simp [go_sem, *]
          have c_w7_w_1_4 := c_w7_w_1 4
          conv at c_w7_w_1_4 => rhs; simp [go_sem, *]
          have f_w7_w_1_4 := f_w7_w_1 4
          conv at f_w7_w_1_4 => rhs; simp [go_sem, *]
          have c_w7_w_1_5 := c_w7_w_1 5
          conv at c_w7_w_1_5 => rhs; simp [go_sem, *]
          have f_w7_w_1_5 := f_w7_w_1 5
          conv at f_w7_w_1_5 => rhs; simp [go_sem, *]
          have hB_w7 : Below w.heap.size w w7 := Below.trans (by (repeat (first | (with_reducible exact Below.refl _ _) | (with_reducible assumption) | (with_reducible refine Below.drew ?_) | (focus ((with_reducible refine Below.setCell ?_ ?_ _); rotate_left; (first | omega | (simp <;> omega)))) | (focus ((with_reducible refine Below.alloc ?_ ?_ _); rotate_left; (first | omega | (simp <;> omega)))) | exact Below.refl _ _ | assumption | refine Below.drew ?_ | refine Below.alloc ?_ (by first | omega | (simp <;> omega)) _ | refine Below.setCell ?_ (by first | omega | (simp <;> omega)) _))) (hb_w7.mono (by first | omega | (simp <;> omega)))
          clear hb_w7 c_w7_w_0 f_w7_w_0 c_w7_w_1 f_w7_w_1
          try clear c_w8_w_0_0
          try clear f_w8_w_0_0
          try clear c_w8_w_0_1
          try clear f_w8_w_0_1
          try clear c_w8_w_0_2
          try clear f_w8_w_0_2
          try clear c_w8_w_0_3
          try clear f_w8_w_0_3
          try clear c_w8_w_0_4
          try clear f_w8_w_0_4
          try clear c_w8_w_0_5
          try clear f_w8_w_0_5
          try clear c_w8_w_1_0
          try clear f_w8_w_1_0
          try clear c_w8_w_1_1
          try clear f_w8_w_1_1
          try clear c_w8_w_1_2
          try clear f_w8_w_1_2
          try clear c_w8_w_1_3
          try clear f_w8_w_1_3
          try clear c_w8_w_1_4
          try clear f_w8_w_1_4
          try clear c_w8_w_1_5
          try clear f_w8_w_1_5
          try clear far_w8_w_0
          try clear far_w8_w_1
          try clear hB_w8
          have far_w7_w_0 := far (show w.heap.size < w7.heap.size by omega)
          have far_w7_w_1 := far (show w.heap.size + 1 < w7.heap.size by omega)
          by_cases hq : 0 ≤ ix
          · obtain ⟨m, rfl⟩ : ∃ m : Nat, ix = m := ⟨ix.toNat, by omega⟩
            have HC := Lib.hid (show cut1 r 63 = (r.take m, r.drop (m + 1), true) by unfold cut1; rw [hix]; simp)
            simp only [HC.out] at CR HY
            go_wp2_with fail
            refine Calls.mono (CR.out _ (by (repeat (first | (with_reducible exact Below.refl _ _) | (with_reducible assumption) | (with_reducible refine Below.drew ?_) | (focus ((with_reducible refine Below.setCell ?_ ?_ _); rotate_left; (first | omega | (simp <;> omega)))) | (focus ((with_reducible refine Below.alloc ?_ ?_ _); rotate_left; (first | omega | (simp <;> omega)))) | exact Below.refl _ _ | assumption | refine Below.drew ?_ | refine Below.alloc ?_ (by first | omega | (simp <;> omega)) _ | refine Below.setCell ?_ (by first | omega | (simp <;> omega)) _)))) ?_
            rintro e w8 ⟨rfl, hb_w8⟩
            have hz_w8 := hb_w8.size
            try simp at hz_w8
            obtain ⟨c_w8_w_0, f_w8_w_0⟩ := bk hb_w8 (w.heap.size) (by first | omega | (simp <;> omega))
            have c_w8_w_0_0 := c_w8_w_0 0
            conv at c_w8_w_0_0 => rhs; simp [go_sem, *]
            have f_w8_w_0_0 := f_w8_w_0 0
            conv at f_w8_w_0_0 => rhs; simp [go_sem, *]
            have c_w8_w_0_1 := c_w8_w_0 1
            conv at c_w8_w_0_1 => rhs; simp [go_sem, *]
            have f_w8_w_0_1 := f_w8_w_0 1
            conv at f_w8_w_0_1 => rhs; simp [go_sem, *]
            have c_w8_w_0_2 := c_w8_w_0 2
            conv at c_w8_w_0_2 => rhs; simp [go_sem, *]
            have f_w8_w_0_2 := f_w8_w_0 2
            conv at f_w8_w_0_2 => rhs; simp [go_sem, *]
            have c_w8_w_0_3 := c_w8_w_0 3
            conv at c_w8_w_0_3 => rhs; simp [go_sem, *]
            have f_w8_w_0_3 := f_w8_w_0 3
            conv at f_w8_w_0_3 => rhs; simp [go_sem, *]
            have c_w8_w_0_4 := c_w8_w_0 4
            conv at c_w8_w_0_4 => rhs; simp [go_sem, *]
            have f_w8_w_0_4 := f_w8_w_0 4
            conv at f_w8_w_0_4 => rhs; simp [go_sem, *]
            have c_w8_w_0_5 := c_w8_w_0 5
            conv at c_w8_w_0_5 => rhs; simp [go_sem, *]
            have f_w8_w_0_5 := f_w8_w_0 5
            conv at f_w8_w_0_5 => rhs; simp [go_sem, *]
            obtain ⟨c_w8_w_1, f_w8_w_1⟩ := bk hb_w8 (w.heap.size + 1) (by first | omega | (simp <;> omega))
            have c_w8_w_1_0 := c_w8_w_1 0
            conv at c_w8_w_1_0 => rhs; simp [go_sem, *]
            have f_w8_w_1_0 := f_w8_w_1 0
            conv at f_w8_w_1_0 => rhs; simp [go_sem, *]
            have c_w8_w_1_1 := c_w8_w_1 1
            conv at c_w8_w_1_1 => rhs; simp [go_sem, *]
            have f_w8_w_1_1 := f_w8_w_1 1
            conv at f_w8_w_1_1 => rhs; simp [go_sem, *]
            have c_w8_w_1_2 := c_w8_w_1 2
            conv at c_w8_w_1_2 => rhs; simp [go_sem, *]
            have f_w8_w_1_2 := f_w8_w_1 2
            conv at f_w8_w_1_2 => rhs; simp [go_sem, *]
            have c_w8_w_1_3 := c_w8_w_1 3
            conv at c_w8_w_1_3 => rhs; simp [go_sem, *]
            have f_w8_w_1_3 := f_w8_w_1 3
            conv at f_w8_w_1_3 => rhs; simp [go_sem, *]
            have c_w8_w_1_4 := c_w8_w_1 4
            conv at c_w8_w_1_4 => rhs; simp [go_sem, *]
            have f_w8_w_1_4 := f_w8_w_1 4
            conv at f_w8_w_1_4 => rhs; simp [go_sem, *]
            have c_w8_w_1_5 := c_w8_w_1 5
            conv at c_w8_w_1_5 => rhs; simp [go_sem, *]
            have f_w8_w_1_5 := f_w8_w_1 5
            conv at f_w8_w_1_5 => rhs; simp [go_sem, *]
            have hB_w8 : Below w.heap.size w w8 := Below.trans (by (repeat (first | (with_reducible exact Below.refl _ _) | (with_reducible assumption) | (with_reducible refine Below.drew ?_) | (focus ((with_reducible refine Below.setCell ?_ ?_ _); rotate_left; (first | omega | (simp <;> omega)))) | (focus ((with_reducible refine Below.alloc ?_ ?_ _); rotate_left; (first | omega | (simp <;> omega)))) | exact Below.refl _ _ | assumption | refine Below.drew ?_ | refine Below.alloc ?_ (by first | omega | (simp <;> omega)) _ | refine Below.setCell ?_ (by first | omega | (simp <;> omega)) _))) (hb_w8.mono (by first | omega | (simp <;> omega)))
            clear hb_w8 c_w8_w_0 f_w8_w_0 c_w8_w_1 f_w8_w_1
            try clear c_w7_w_0_0
            try clear f_w7_w_0_0
            try clear c_w7_w_0_1
            try clear f_w7_w_0_1
            try clear c_w7_w_0_2
            try clear f_w7_w_0_2
            try clear c_w7_w_0_3
            try clear f_w7_w_0_3
            try clear c_w7_w_0_4
            try clear f_w7_w_0_4
            try clear c_w7_w_0_5
            try clear f_w7_w_0_5
            try clear c_w7_w_1_0
            try clear f_w7_w_1_0
            try clear c_w7_w_1_1
            try clear f_w7_w_1_1
            try clear c_w7_w_1_2
            try clear f_w7_w_1_2
            try clear c_w7_w_1_3
            try clear f_w7_w_1_3
            try clear c_w7_w_1_4
            try clear f_w7_w_1_4
            try clear c_w7_w_1_5
            try clear f_w7_w_1_5
            try clear far_w7_w_0
            try clear far_w7_w_1
            try clear hB_w7
            have far_w8_w_0 := far (show w.heap.size < w8.heap.size by omega)
            have far_w8_w_1 := far (show w.heap.size + 1 < w8.heap.size by omega)
            go_wp2
            refine bodyPost_ret (v := .tuple #[uv false [] 0 [] false [], .int .i64 20]) (by simp [results, Tryd.results9, go_sem, *]) rfl ⟨by rw [HN.out (by simp)]; rfl, ?_⟩
            (repeat (first | (with_reducible exact Below.refl _ _) | (with_reducible assumption) | (with_reducible refine Below.drew ?_) | (focus ((with_reducible refine Below.setCell ?_ ?_ _); rotate_left; (first | omega | (simp <;> omega)))) | (focus ((with_reducible refine Below.alloc ?_ ?_ _); rotate_left; (first | omega | (simp <;> omega)))) | exact Below.refl _ _ | assumption | refine Below.drew ?_ | refine Below.alloc ?_ (by first | omega | (simp <;> omega)) _ | refine Below.setCell ?_ (by first | omega | (simp <;> omega)) _))
          · skip
            have HC := Lib.hid (show cut1 r 63 = (r, [], false) by unfold cut1; rw [hix]; simp [hq])
            simp only [HC.out] at CR HY
            go_wp2_with fail
            refine Calls.mono (CR.out _ (by (repeat (first | (with_reducible exact Below.refl _ _) | (with_reducible assumption) | (with_reducible refine Below.drew ?_) | (focus ((with_reducible refine Below.setCell ?_ ?_ _); rotate_left; (first | omega | (simp <;> omega)))) | (focus ((with_reducible refine Below.alloc ?_ ?_ _); rotate_left; (first | omega | (simp <;> omega)))) | exact Below.refl _ _ | assumption | refine Below.drew ?_ | refine Below.alloc ?_ (by first | omega | (simp <;> omega)) _ | refine Below.setCell ?_ (by first | omega | (simp <;> omega)) _)))) ?_
            rintro e w8 ⟨rfl, hb_w8⟩
            have hz_w8 := hb_w8.size
            try simp at hz_w8
            obtain ⟨c_w8_w_0, f_w8_w_0⟩ := bk hb_w8 (w.heap.size) (by first | omega | (simp <;> omega))
            have c_w8_w_0_0 := c_w8_w_0 0
            conv at c_w8_w_0_0 => rhs; simp [go_sem, *]
            have f_w8_w_0_0 := f_w8_w_0 0
            conv at f_w8_w_0_0 => rhs; simp [go_sem, *]
            have c_w8_w_0_1 := c_w8_w_0 1
            conv at c_w8_w_0_1 => rhs; simp [go_sem, *]
            have f_w8_w_0_1 := f_w8_w_0 1
            conv at f_w8_w_0_1 => rhs; simp [go_sem, *]
            have c_w8_w_0_2 := c_w8_w_0 2
            conv at c_w8_w_0_2 => rhs; simp [go_sem, *]
            have f_w8_w_0_2 := f_w8_w_0 2
            conv at f_w8_w_0_2 => rhs; simp [go_sem, *]
            have c_w8_w_0_3 := c_w8_w_0 3
            conv at c_w8_w_0_3 => rhs; simp [go_sem, *]
            have f_w8_w_0_3 := f_w8_w_0 3
            conv at f_w8_w_0_3 => rhs; simp [go_sem, *]
            have c_w8_w_0_4 := c_w8_w_0 4
            conv at c_w8_w_0_4 => rhs; simp [go_sem, *]
            have f_w8_w_0_4 := f_w8_w_0 4
            conv at f_w8_w_0_4 => rhs; simp [go_sem, *]
            have c_w8_w_0_5 := c_w8_w_0 5
            conv at c_w8_w_0_5 => rhs; simp [go_sem, *]
            have f_w8_w_0_5 := f_w8_w_0 5
            conv at f_w8_w_0_5 => rhs; simp [go_sem, *]
            obtain ⟨c_w8_w_1, f_w8_w_1⟩ := bk hb_w8 (w.heap.size + 1) (by first | omega | (simp <;> omega))
            have c_w8_w_1_0 := c_w8_w_1 0
            conv at c_w8_w_1_0 => rhs; simp [go_sem, *]
            have f_w8_w_1_0 := f_w8_w_1 0
            conv at f_w8_w_1_0 => rhs; simp [go_sem, *]
            have c_w8_w_1_1 := c_w8_w_1 1
            conv at c_w8_w_1_1 => rhs; simp [go_sem, *]
            have f_w8_w_1_1 := f_w8_w_1 1
            conv at f_w8_w_1_1 => rhs; simp [go_sem, *]
            have c_w8_w_1_2 := c_w8_w_1 2
            conv at c_w8_w_1_2 => rhs; simp [go_sem, *]
            have f_w8_w_1_2 := f_w8_w_1 2
            conv at f_w8_w_1_2 => rhs; simp [go_sem, *]
            have c_w8_w_1_3 := c_w8_w_1 3
            conv at c_w8_w_1_3 => rhs; simp [go_sem, *]
            have f_w8_w_1_3 := f_w8_w_1 3
            conv at f_w8_w_1_3 => rhs; simp [go_sem, *]
            have c_w8_w_1_4 := c_w8_w_1 4
            conv at c_w8_w_1_4 => rhs; simp [go_sem, *]
            have f_w8_w_1_4 := f_w8_w_1 4
            conv at f_w8_w_1_4 => rhs; simp [go_sem, *]
            have c_w8_w_1_5 := c_w8_w_1 5
            conv at c_w8_w_1_5 => rhs; simp [go_sem, *]
            have f_w8_w_1_5 := f_w8_w_1 5
            conv at f_w8_w_1_5 => rhs; simp [go_sem, *]
            have hB_w8 : Below w.heap.size w w8 := Below.trans (by (repeat (first | (with_reducible exact Below.refl _ _) | (with_reducible assumption) | (with_reducible refine Below.drew ?_) | (focus ((with_reducible refine Below.setCell ?_ ?_ _); rotate_left; (first | omega | (simp <;> omega)))) | (focus ((with_reducible refine Below.alloc ?_ ?_ _); rotate_left; (first | omega | (simp <;> omega)))) | exact Below.refl _ _ | assumption | refine Below.drew ?_ | refine Below.alloc ?_ (by first | omega | (simp <;> omega)) _ | refine Below.setCell ?_ (by first | omega | (simp <;> omega)) _))) (hb_w8.mono (by first | omega | (simp <;> omega)))
            clear hb_w8 c_w8_w_0 f_w8_w_0 c_w8_w_1 f_w8_w_1
            have far_w8_w_0 := far (show w.heap.size < w8.heap.size by omega)
            have far_w8_w_1 := far (show w.heap.size + 1 < w8.heap.size by omega)
            go_wp2
            refine bodyPost_ret (v := .tuple #[uv false [] 0 [] false [], .int .i64 20]) (by simp [results, Tryd.results9, go_sem, *]) rfl ⟨by rw [HN.out (by simp)]; rfl, ?_⟩
            (repeat (first | (with_reducible exact Below.refl _ _) | (with_reducible assumption) | (with_reducible refine Below.drew ?_) | (focus ((with_reducible refine Below.setCell ?_ ?_ _); rotate_left; (first | omega | (simp <;> omega)))) | (focus ((with_reducible refine Below.alloc ?_ ?_ _); rotate_left; (first | omega | (simp <;> omega)))) | exact Below.refl _ _ | assumption | refine Below.drew ?_ | refine Below.alloc ?_ (by first | omega | (simp <;> omega)) _ | refine Below.setCell ?_ (by first | omega | (simp <;> omega)) _))

set_option maxHeartbeats 800000 in
theorem refParse (s : List UInt8) (hs : s.length ≤ 1000000) (w : World) (hL : Laid w) :
    Calls Tryd.prog 9 #[.string (S s)] w fun e w' => e = .returned (.tuple #[(parseL s).1.v, .int .i64 (parseL s).2]) ∧ Below w.heap.size w w' := by
  by_cases h : 500 < s.length
  · have hle : 500 < (s.length : Int) := by omega
    rw [show parseL s = (UU.nil, 2) by unfold parseL; rw [if_pos h]]
    go_enter Tryd.func9, Tryd.ntmps9
    go_wp2
    refine bodyPost_ret (v := .tuple #[uv false [] 0 [] false [], .int .i64 2]) (by simp [results, Tryd.results9, go_sem, *]) rfl ⟨rfl, ?_⟩
    (repeat (first | (with_reducible exact Below.refl _ _) | (with_reducible assumption) | (with_reducible refine Below.drew ?_) | (focus ((with_reducible refine Below.setCell ?_ ?_ _); rotate_left; (first | omega | (simp <;> omega)))) | (focus ((with_reducible refine Below.alloc ?_ ?_ _); rotate_left; (first | omega | (simp <;> omega)))) | exact Below.refl _ _ | assumption | refine Below.drew ?_ | refine Below.alloc ?_ (by first | omega | (simp <;> omega)) _ | refine Below.setCell ?_ (by first | omega | (simp <;> omega)) _))
  · cases hB : httpB s with
    | true =>
      cases hpb : placeB ((s.drop 7).take (endOf (s.drop 7))) with
      | true => exact refParse_abs s (by omega) hB hpb w hL
      | false => exact refParse_bad s (by omega) hB hpb w hL
    | false => exact refParse_rel s (by omega) hB w hL
end Go.Proofs.YtpglgembgpoeiaaDoor
