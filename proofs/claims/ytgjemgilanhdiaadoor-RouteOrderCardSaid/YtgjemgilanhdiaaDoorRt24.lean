/- The walk of uri.Parse. Written by tools/uriparse.py. -/
import Derived.Test.YtgjemgilanhdiaaDoorRt15
import Derived.Test.YtgjemgilanhdiaaDoorRt23
import Derived.Test.YtgjemgilanhdiaaDoorRt7
namespace Go.Proofs.YtgjemgilanhdiaaDoor
open Go.RowKit Go.Shelf
set_option linter.unusedVariables false

set_option maxHeartbeats 3200000 in
set_option maxRecDepth 100000 in
theorem parse_short (s : List UInt8) (hs : s.length ≤ 500) (hB : httpB s = false) (h7 : s.length < 7) (w : World) (hL : Laid w) :
    Calls Tryd.prog 30 #[.string (S s)] w fun e w' => e = .returned (.tuple #[(parseL s).1.v, .int .i64 (parseL s).2]) ∧ Below w.heap.size w w' := by
  have CQ := Lib.hid (fun W => uriPath s (by omega) false [] 0 [] false [] W)
  have CR := Lib.hid (fun W (hbl : Below w.heap.size w W) => rightC (relOf s) (relOf_mid s hs) (W := W) hL hbl)
  have HP := show parseL s = if (relOf s).ok then (relOf s, 0) else (UU.nil, 20) by unfold parseL; rw [if_neg (by omega), hB]; simp
  obtain ⟨p, hp⟩ : ∃ x, parseL s = x := ⟨_, rfl⟩
  rw [hp] at HP ⊢
  obtain ⟨ok, hok⟩ : ∃ x, (relOf s).ok = x := ⟨_, rfl⟩
  rw [hok] at CR HP
  have HN := Lib.hid (show ok = false → p = (UU.nil, 20) from fun h => by rw [HP, h]; simp)
  have HY := Lib.hid (show ok = true → p = (relOf s, 0) from fun h => by rw [HP, h]; simp)
  clear HP hp hok hB hL
  unfold relOf at CR HY
  obtain ⟨f, g, t, hcut⟩ : ∃ f g t, cut1 s 63 = (f, g, t) := ⟨_, _, _, rfl⟩
  rw [hcut] at CQ CR HY
  clear hcut
  simp only [UU.v] at CQ CR ⊢
  have hle : ¬ 500 < (s.length : Int) := by omega
  go_enter Tryd.func30, Tryd.ntmps30
  have h7b : ¬ (7 : Int) ≤ (s.length : Int) := by omega
  go_wp2_with fail
  refine Calls.mono (CQ.out _) ?_
  rintro e w7 ⟨rfl, hb_w7⟩
  have hz_w7 := hb_w7.size
  try simp at hz_w7
  obtain ⟨c_w7_w_0, f_w7_w_0⟩ := bk hb_w7 (w.heap.size) (by first | omega | (simp <;> omega))
  have c_w7_w_0_0 := c_w7_w_0 0
  conv at c_w7_w_0_0 => rhs; simp [go_sem, *]
  have f_w7_w_0_0 := f_w7_w_0 0
  conv at f_w7_w_0_0 => rhs; simp [go_sem, *]
  have c_w7_w_0_1 := c_w7_w_0 1
  conv at c_w7_w_0_1 => rhs; simp [go_sem, *]
  have f_w7_w_0_1 := f_w7_w_0 1
  conv at f_w7_w_0_1 => rhs; simp [go_sem, *]
  have c_w7_w_0_2 := c_w7_w_0 2
  conv at c_w7_w_0_2 => rhs; simp [go_sem, *]
  have f_w7_w_0_2 := f_w7_w_0 2
  conv at f_w7_w_0_2 => rhs; simp [go_sem, *]
  have c_w7_w_0_3 := c_w7_w_0 3
  conv at c_w7_w_0_3 => rhs; simp [go_sem, *]
  have f_w7_w_0_3 := f_w7_w_0 3
  conv at f_w7_w_0_3 => rhs; simp [go_sem, *]
  have c_w7_w_0_4 := c_w7_w_0 4
  conv at c_w7_w_0_4 => rhs; simp [go_sem, *]
  have f_w7_w_0_4 := f_w7_w_0 4
  conv at f_w7_w_0_4 => rhs; simp [go_sem, *]
  have c_w7_w_0_5 := c_w7_w_0 5
  conv at c_w7_w_0_5 => rhs; simp [go_sem, *]
  have f_w7_w_0_5 := f_w7_w_0 5
  conv at f_w7_w_0_5 => rhs; simp [go_sem, *]
  obtain ⟨c_w7_w_1, f_w7_w_1⟩ := bk hb_w7 (w.heap.size + 1) (by first | omega | (simp <;> omega))
  have c_w7_w_1_0 := c_w7_w_1 0
  conv at c_w7_w_1_0 => rhs; simp [go_sem, *]
  have f_w7_w_1_0 := f_w7_w_1 0
  conv at f_w7_w_1_0 => rhs; simp [go_sem, *]
  have c_w7_w_1_1 := c_w7_w_1 1
  conv at c_w7_w_1_1 => rhs; simp [go_sem, *]
  have f_w7_w_1_1 := f_w7_w_1 1
  conv at f_w7_w_1_1 => rhs; simp [go_sem, *]
  have c_w7_w_1_2 := c_w7_w_1 2
  conv at c_w7_w_1_2 => rhs; simp [go_sem, *]
  have f_w7_w_1_2 := f_w7_w_1 2
  conv at f_w7_w_1_2 => rhs; simp [go_sem, *]
  have c_w7_w_1_3 := c_w7_w_1 3
  conv at c_w7_w_1_3 => rhs; simp [go_sem, *]
  have f_w7_w_1_3 := f_w7_w_1 3
  conv at f_w7_w_1_3 => rhs; simp [go_sem, *]
  have c_w7_w_1_4 := c_w7_w_1 4
  conv at c_w7_w_1_4 => rhs; simp [go_sem, *]
  have f_w7_w_1_4 := f_w7_w_1 4
  conv at f_w7_w_1_4 => rhs; simp [go_sem, *]
  have c_w7_w_1_5 := c_w7_w_1 5
  conv at c_w7_w_1_5 => rhs; simp [go_sem, *]
  have f_w7_w_1_5 := f_w7_w_1 5
  conv at f_w7_w_1_5 => rhs; simp [go_sem, *]
  have HH_w7 := Lib.hid hb_w7
  have hB_w7 : Below w.heap.size w w7 := Below.trans (by (repeat (first | (with_reducible exact Below.refl _ _) | (with_reducible assumption) | (with_reducible refine Below.drew ?_) | (focus ((with_reducible refine Below.setCell ?_ ?_ _); rotate_left; (first | omega | (simp <;> omega)))) | (focus ((with_reducible refine Below.alloc ?_ ?_ _); rotate_left; (first | omega | (simp <;> omega)))) | exact Below.refl _ _ | assumption | refine Below.drew ?_ | refine Below.alloc ?_ (by first | omega | (simp <;> omega)) _ | refine Below.setCell ?_ (by first | omega | (simp <;> omega)) _))) (hb_w7.mono (by first | omega | (simp <;> omega)))
  clear hb_w7 c_w7_w_0 f_w7_w_0 c_w7_w_1 f_w7_w_1
  have far_w7_w_0 := far (show w.heap.size < w7.heap.size by omega)
  have far_w7_w_1 := far (show w.heap.size + 1 < w7.heap.size by omega)
  go_wp2_with fail
  refine Calls.mono (CR.out _ (by (repeat (first | (with_reducible exact Below.refl _ _) | (with_reducible assumption) | (with_reducible refine Below.drew ?_) | (focus ((with_reducible refine Below.setCell ?_ ?_ _); rotate_left; (first | omega | (simp <;> omega)))) | (focus ((with_reducible refine Below.alloc ?_ ?_ _); rotate_left; (first | omega | (simp <;> omega)))) | exact Below.refl _ _ | assumption | refine Below.drew ?_ | refine Below.alloc ?_ (by first | omega | (simp <;> omega)) _ | refine Below.setCell ?_ (by first | omega | (simp <;> omega)) _)))) ?_
  rintro e w8 ⟨rfl, hb_w8⟩
  have hz_w8 := hb_w8.size
  try simp at hz_w8
  obtain ⟨c_w8_w_0, f_w8_w_0⟩ := bk hb_w8 (w.heap.size) (by first | omega | (simp <;> omega))
  have c_w8_w_0_0 := c_w8_w_0 0
  conv at c_w8_w_0_0 => rhs; simp [go_sem, *]
  have f_w8_w_0_0 := f_w8_w_0 0
  conv at f_w8_w_0_0 => rhs; simp [go_sem, *]
  have c_w8_w_0_1 := c_w8_w_0 1
  conv at c_w8_w_0_1 => rhs; simp [go_sem, *]
  have f_w8_w_0_1 := f_w8_w_0 1
  conv at f_w8_w_0_1 => rhs; simp [go_sem, *]
  have c_w8_w_0_2 := c_w8_w_0 2
  conv at c_w8_w_0_2 => rhs; simp [go_sem, *]
  have f_w8_w_0_2 := f_w8_w_0 2
  conv at f_w8_w_0_2 => rhs; simp [go_sem, *]
  have c_w8_w_0_3 := c_w8_w_0 3
  conv at c_w8_w_0_3 => rhs; simp [go_sem, *]
  have f_w8_w_0_3 := f_w8_w_0 3
  conv at f_w8_w_0_3 => rhs; simp [go_sem, *]
  have c_w8_w_0_4 := c_w8_w_0 4
  conv at c_w8_w_0_4 => rhs; simp [go_sem, *]
  have f_w8_w_0_4 := f_w8_w_0 4
  conv at f_w8_w_0_4 => rhs; simp [go_sem, *]
  have c_w8_w_0_5 := c_w8_w_0 5
  conv at c_w8_w_0_5 => rhs; simp [go_sem, *]
  have f_w8_w_0_5 := f_w8_w_0 5
  conv at f_w8_w_0_5 => rhs; simp [go_sem, *]
  obtain ⟨c_w8_w_1, f_w8_w_1⟩ := bk hb_w8 (w.heap.size + 1) (by first | omega | (simp <;> omega))
  have c_w8_w_1_0 := c_w8_w_1 0
  conv at c_w8_w_1_0 => rhs; simp [go_sem, *]
  have f_w8_w_1_0 := f_w8_w_1 0
  conv at f_w8_w_1_0 => rhs; simp [go_sem, *]
  have c_w8_w_1_1 := c_w8_w_1 1
  conv at c_w8_w_1_1 => rhs; simp [go_sem, *]
  have f_w8_w_1_1 := f_w8_w_1 1
  conv at f_w8_w_1_1 => rhs; simp [go_sem, *]
  have c_w8_w_1_2 := c_w8_w_1 2
  conv at c_w8_w_1_2 => rhs; simp [go_sem, *]
  have f_w8_w_1_2 := f_w8_w_1 2
  conv at f_w8_w_1_2 => rhs; simp [go_sem, *]
  have c_w8_w_1_3 := c_w8_w_1 3
  conv at c_w8_w_1_3 => rhs; simp [go_sem, *]
  have f_w8_w_1_3 := f_w8_w_1 3
  conv at f_w8_w_1_3 => rhs; simp [go_sem, *]
  have c_w8_w_1_4 := c_w8_w_1 4
  conv at c_w8_w_1_4 => rhs; simp [go_sem, *]
  have f_w8_w_1_4 := f_w8_w_1 4
  conv at f_w8_w_1_4 => rhs; simp [go_sem, *]
  have c_w8_w_1_5 := c_w8_w_1 5
  conv at c_w8_w_1_5 => rhs; simp [go_sem, *]
  have f_w8_w_1_5 := f_w8_w_1 5
  conv at f_w8_w_1_5 => rhs; simp [go_sem, *]
  have HH_w8 := Lib.hid hb_w8
  have hB_w8 : Below w.heap.size w w8 := Below.trans (by (repeat (first | (with_reducible exact Below.refl _ _) | (with_reducible assumption) | (with_reducible refine Below.drew ?_) | (focus ((with_reducible refine Below.setCell ?_ ?_ _); rotate_left; (first | omega | (simp <;> omega)))) | (focus ((with_reducible refine Below.alloc ?_ ?_ _); rotate_left; (first | omega | (simp <;> omega)))) | exact Below.refl _ _ | assumption | refine Below.drew ?_ | refine Below.alloc ?_ (by first | omega | (simp <;> omega)) _ | refine Below.setCell ?_ (by first | omega | (simp <;> omega)) _))) (hb_w8.mono (by first | omega | (simp <;> omega)))
  clear hb_w8 c_w8_w_0 f_w8_w_0 c_w8_w_1 f_w8_w_1
  try clear c_w7_w_0_0
  try clear f_w7_w_0_0
  try clear c_w7_w_0_1
  try clear f_w7_w_0_1
  try clear c_w7_w_0_2
  try clear f_w7_w_0_2
  try clear c_w7_w_0_3
  try clear f_w7_w_0_3
  try clear c_w7_w_0_4
  try clear f_w7_w_0_4
  try clear c_w7_w_0_5
  try clear f_w7_w_0_5
  try clear c_w7_w_1_0
  try clear f_w7_w_1_0
  try clear c_w7_w_1_1
  try clear f_w7_w_1_1
  try clear c_w7_w_1_2
  try clear f_w7_w_1_2
  try clear c_w7_w_1_3
  try clear f_w7_w_1_3
  try clear c_w7_w_1_4
  try clear f_w7_w_1_4
  try clear c_w7_w_1_5
  try clear f_w7_w_1_5
  try clear far_w7_w_0
  try clear far_w7_w_1
  try clear hB_w7
  have far_w8_w_0 := far (show w.heap.size < w8.heap.size by omega)
  have far_w8_w_1 := far (show w.heap.size + 1 < w8.heap.size by omega)
  cases ok with
  | false =>
    go_wp2
    refine bodyPost_ret (v := .tuple #[uv false [] 0 [] false [], .int .i64 20]) (by simp [results, Tryd.results30, go_sem, *]) rfl ⟨by rw [HN.out (by simp)]; rfl, ?_⟩
    (repeat (first | (with_reducible exact Below.refl _ _) | (with_reducible assumption) | (with_reducible refine Below.drew ?_) | (focus ((with_reducible refine Below.setCell ?_ ?_ _); rotate_left; (first | omega | (simp <;> omega)))) | (focus ((with_reducible refine Below.alloc ?_ ?_ _); rotate_left; (first | omega | (simp <;> omega)))) | exact Below.refl _ _ | assumption | refine Below.drew ?_ | refine Below.alloc ?_ (by first | omega | (simp <;> omega)) _ | refine Below.setCell ?_ (by first | omega | (simp <;> omega)) _))
  | true =>
    go_wp2
    refine bodyPost_ret (v := .tuple #[uv false [] 0 f t g, .int .i64 0]) (by simp [results, Tryd.results30, go_sem, *]) rfl ⟨by rw [HY.out (by simp)], ?_⟩
    (repeat (first | (with_reducible exact Below.refl _ _) | (with_reducible assumption) | (with_reducible refine Below.drew ?_) | (focus ((with_reducible refine Below.setCell ?_ ?_ _); rotate_left; (first | omega | (simp <;> omega)))) | (focus ((with_reducible refine Below.alloc ?_ ?_ _); rotate_left; (first | omega | (simp <;> omega)))) | exact Below.refl _ _ | assumption | refine Below.drew ?_ | refine Below.alloc ?_ (by first | omega | (simp <;> omega)) _ | refine Below.setCell ?_ (by first | omega | (simp <;> omega)) _))

set_option maxHeartbeats 3200000 in
set_option maxRecDepth 100000 in
theorem parse_rel (s : List UInt8) (hs : s.length ≤ 500) (hB : httpB s = false) (h7 : 7 ≤ s.length) (w : World) (hL : Laid w) :
    Calls Tryd.prog 30 #[.string (S s)] w fun e w' => e = .returned (.tuple #[(parseL s).1.v, .int .i64 (parseL s).2]) ∧ Below w.heap.size w w' := by
  have hb2 : (lower (s.take 7) == httpL) = false := by unfold httpB at hB; simpa [h7] using hB
  have CS := Lib.hid (fun W => show Calls Tryd.prog 33 #[.string (S (s.take 7)), .string (S httpL)] W fun e w' => e = .returned (.bool false) ∧ Below W.heap.size W w' from by
    have := textSame (s.take 7) httpL (by rw [List.length_take]; omega) (by decide) W
    rw [lower_http, hb2] at this
    exact this)
  unfold httpL at CS
  have CQ := Lib.hid (fun W => uriPath s (by omega) false [] 0 [] false [] W)
  have CR := Lib.hid (fun W (hbl : Below w.heap.size w W) => rightC (relOf s) (relOf_mid s hs) (W := W) hL hbl)
  have HP := show parseL s = if (relOf s).ok then (relOf s, 0) else (UU.nil, 20) by unfold parseL; rw [if_neg (by omega), hB]; simp
  obtain ⟨p, hp⟩ : ∃ x, parseL s = x := ⟨_, rfl⟩
  rw [hp] at HP ⊢
  obtain ⟨ok, hok⟩ : ∃ x, (relOf s).ok = x := ⟨_, rfl⟩
  rw [hok] at CR HP
  have HN := Lib.hid (show ok = false → p = (UU.nil, 20) from fun h => by rw [HP, h]; simp)
  have HY := Lib.hid (show ok = true → p = (relOf s, 0) from fun h => by rw [HP, h]; simp)
  clear HP hp hok hB hL
  unfold relOf at CR HY
  obtain ⟨f, g, t, hcut⟩ : ∃ f g t, cut1 s 63 = (f, g, t) := ⟨_, _, _, rfl⟩
  rw [hcut] at CQ CR HY
  clear hcut
  simp only [UU.v] at CQ CR ⊢
  have hle : ¬ 500 < (s.length : Int) := by omega
  go_enter Tryd.func30, Tryd.ntmps30
  have h7b : (7 : Int) ≤ (s.length : Int) := by omega
  go_wp2_with fail
  refine Calls.mono (CS.out _) ?_
  rintro e w1 ⟨rfl, hb_w1⟩
  have hz_w1 := hb_w1.size
  try simp at hz_w1
  obtain ⟨c_w1_w_0, f_w1_w_0⟩ := bk hb_w1 (w.heap.size) (by first | omega | (simp <;> omega))
  have c_w1_w_0_0 := c_w1_w_0 0
  conv at c_w1_w_0_0 => rhs; simp [go_sem, *]
  have f_w1_w_0_0 := f_w1_w_0 0
  conv at f_w1_w_0_0 => rhs; simp [go_sem, *]
  have c_w1_w_0_1 := c_w1_w_0 1
  conv at c_w1_w_0_1 => rhs; simp [go_sem, *]
  have f_w1_w_0_1 := f_w1_w_0 1
  conv at f_w1_w_0_1 => rhs; simp [go_sem, *]
  have c_w1_w_0_2 := c_w1_w_0 2
  conv at c_w1_w_0_2 => rhs; simp [go_sem, *]
  have f_w1_w_0_2 := f_w1_w_0 2
  conv at f_w1_w_0_2 => rhs; simp [go_sem, *]
  have c_w1_w_0_3 := c_w1_w_0 3
  conv at c_w1_w_0_3 => rhs; simp [go_sem, *]
  have f_w1_w_0_3 := f_w1_w_0 3
  conv at f_w1_w_0_3 => rhs; simp [go_sem, *]
  have c_w1_w_0_4 := c_w1_w_0 4
  conv at c_w1_w_0_4 => rhs; simp [go_sem, *]
  have f_w1_w_0_4 := f_w1_w_0 4
  conv at f_w1_w_0_4 => rhs; simp [go_sem, *]
  have c_w1_w_0_5 := c_w1_w_0 5
  conv at c_w1_w_0_5 => rhs; simp [go_sem, *]
  have f_w1_w_0_5 := f_w1_w_0 5
  conv at f_w1_w_0_5 => rhs; simp [go_sem, *]
  obtain ⟨c_w1_w_1, f_w1_w_1⟩ := bk hb_w1 (w.heap.size + 1) (by first | omega | (simp <;> omega))
  have c_w1_w_1_0 := c_w1_w_1 0
  conv at c_w1_w_1_0 => rhs; simp [go_sem, *]
  have f_w1_w_1_0 := f_w1_w_1 0
  conv at f_w1_w_1_0 => rhs; simp [go_sem, *]
  have c_w1_w_1_1 := c_w1_w_1 1
  conv at c_w1_w_1_1 => rhs; simp [go_sem, *]
  have f_w1_w_1_1 := f_w1_w_1 1
  conv at f_w1_w_1_1 => rhs; simp [go_sem, *]
  have c_w1_w_1_2 := c_w1_w_1 2
  conv at c_w1_w_1_2 => rhs; simp [go_sem, *]
  have f_w1_w_1_2 := f_w1_w_1 2
  conv at f_w1_w_1_2 => rhs; simp [go_sem, *]
  have c_w1_w_1_3 := c_w1_w_1 3
  conv at c_w1_w_1_3 => rhs; simp [go_sem, *]
  have f_w1_w_1_3 := f_w1_w_1 3
  conv at f_w1_w_1_3 => rhs; simp [go_sem, *]
  have c_w1_w_1_4 := c_w1_w_1 4
  conv at c_w1_w_1_4 => rhs; simp [go_sem, *]
  have f_w1_w_1_4 := f_w1_w_1 4
  conv at f_w1_w_1_4 => rhs; simp [go_sem, *]
  have c_w1_w_1_5 := c_w1_w_1 5
  conv at c_w1_w_1_5 => rhs; simp [go_sem, *]
  have f_w1_w_1_5 := f_w1_w_1 5
  conv at f_w1_w_1_5 => rhs; simp [go_sem, *]
  have HH_w1 := Lib.hid hb_w1
  have hB_w1 : Below w.heap.size w w1 := Below.trans (by (repeat (first | (with_reducible exact Below.refl _ _) | (with_reducible assumption) | (with_reducible refine Below.drew ?_) | (focus ((with_reducible refine Below.setCell ?_ ?_ _); rotate_left; (first | omega | (simp <;> omega)))) | (focus ((with_reducible refine Below.alloc ?_ ?_ _); rotate_left; (first | omega | (simp <;> omega)))) | exact Below.refl _ _ | assumption | refine Below.drew ?_ | refine Below.alloc ?_ (by first | omega | (simp <;> omega)) _ | refine Below.setCell ?_ (by first | omega | (simp <;> omega)) _))) (hb_w1.mono (by first | omega | (simp <;> omega)))
  clear hb_w1 c_w1_w_0 f_w1_w_0 c_w1_w_1 f_w1_w_1
  have far_w1_w_0 := far (show w.heap.size < w1.heap.size by omega)
  have far_w1_w_1 := far (show w.heap.size + 1 < w1.heap.size by omega)
  go_wp2_with fail
  refine Calls.mono (CQ.out _) ?_
  rintro e w7 ⟨rfl, hb_w7⟩
  have hz_w7 := hb_w7.size
  try simp at hz_w7
  obtain ⟨c_w7_w_0, f_w7_w_0⟩ := bk hb_w7 (w.heap.size) (by first | omega | (simp <;> omega))
  have c_w7_w_0_0 := c_w7_w_0 0
  conv at c_w7_w_0_0 => rhs; simp [go_sem, *]
  have f_w7_w_0_0 := f_w7_w_0 0
  conv at f_w7_w_0_0 => rhs; simp [go_sem, *]
  have c_w7_w_0_1 := c_w7_w_0 1
  conv at c_w7_w_0_1 => rhs; simp [go_sem, *]
  have f_w7_w_0_1 := f_w7_w_0 1
  conv at f_w7_w_0_1 => rhs; simp [go_sem, *]
  have c_w7_w_0_2 := c_w7_w_0 2
  conv at c_w7_w_0_2 => rhs; simp [go_sem, *]
  have f_w7_w_0_2 := f_w7_w_0 2
  conv at f_w7_w_0_2 => rhs; simp [go_sem, *]
  have c_w7_w_0_3 := c_w7_w_0 3
  conv at c_w7_w_0_3 => rhs; simp [go_sem, *]
  have f_w7_w_0_3 := f_w7_w_0 3
  conv at f_w7_w_0_3 => rhs; simp [go_sem, *]
  have c_w7_w_0_4 := c_w7_w_0 4
  conv at c_w7_w_0_4 => rhs; simp [go_sem, *]
  have f_w7_w_0_4 := f_w7_w_0 4
  conv at f_w7_w_0_4 => rhs; simp [go_sem, *]
  have c_w7_w_0_5 := c_w7_w_0 5
  conv at c_w7_w_0_5 => rhs; simp [go_sem, *]
  have f_w7_w_0_5 := f_w7_w_0 5
  conv at f_w7_w_0_5 => rhs; simp [go_sem, *]
  obtain ⟨c_w7_w_1, f_w7_w_1⟩ := bk hb_w7 (w.heap.size + 1) (by first | omega | (simp <;> omega))
  have c_w7_w_1_0 := c_w7_w_1 0
  conv at c_w7_w_1_0 => rhs; simp [go_sem, *]
  have f_w7_w_1_0 := f_w7_w_1 0
  conv at f_w7_w_1_0 => rhs; simp [go_sem, *]
  have c_w7_w_1_1 := c_w7_w_1 1
  conv at c_w7_w_1_1 => rhs; simp [go_sem, *]
  have f_w7_w_1_1 := f_w7_w_1 1
  conv at f_w7_w_1_1 => rhs; simp [go_sem, *]
  have c_w7_w_1_2 := c_w7_w_1 2
  conv at c_w7_w_1_2 => rhs; simp [go_sem, *]
  have f_w7_w_1_2 := f_w7_w_1 2
  conv at f_w7_w_1_2 => rhs; simp [go_sem, *]
  have c_w7_w_1_3 := c_w7_w_1 3
  conv at c_w7_w_1_3 => rhs; simp [go_sem, *]
  have f_w7_w_1_3 := f_w7_w_1 3
  conv at f_w7_w_1_3 => rhs; simp [go_sem, *]
  have c_w7_w_1_4 := c_w7_w_1 4
  conv at c_w7_w_1_4 => rhs; simp [go_sem, *]
  have f_w7_w_1_4 := f_w7_w_1 4
  conv at f_w7_w_1_4 => rhs; simp [go_sem, *]
  have c_w7_w_1_5 := c_w7_w_1 5
  conv at c_w7_w_1_5 => rhs; simp [go_sem, *]
  have f_w7_w_1_5 := f_w7_w_1 5
  conv at f_w7_w_1_5 => rhs; simp [go_sem, *]
  have HH_w7 := Lib.hid hb_w7
  have hB_w7 : Below w.heap.size w w7 := Below.trans (by (repeat (first | (with_reducible exact Below.refl _ _) | (with_reducible assumption) | (with_reducible refine Below.drew ?_) | (focus ((with_reducible refine Below.setCell ?_ ?_ _); rotate_left; (first | omega | (simp <;> omega)))) | (focus ((with_reducible refine Below.alloc ?_ ?_ _); rotate_left; (first | omega | (simp <;> omega)))) | exact Below.refl _ _ | assumption | refine Below.drew ?_ | refine Below.alloc ?_ (by first | omega | (simp <;> omega)) _ | refine Below.setCell ?_ (by first | omega | (simp <;> omega)) _))) (hb_w7.mono (by first | omega | (simp <;> omega)))
  clear hb_w7 c_w7_w_0 f_w7_w_0 c_w7_w_1 f_w7_w_1
  try clear c_w1_w_0_0
  try clear f_w1_w_0_0
  try clear c_w1_w_0_1
  try clear f_w1_w_0_1
  try clear c_w1_w_0_2
  try clear f_w1_w_0_2
  try clear c_w1_w_0_3
  try clear f_w1_w_0_3
  try clear c_w1_w_0_4
  try clear f_w1_w_0_4
  try clear c_w1_w_0_5
  try clear f_w1_w_0_5
  try clear c_w1_w_1_0
  try clear f_w1_w_1_0
  try clear c_w1_w_1_1
  try clear f_w1_w_1_1
  try clear c_w1_w_1_2
  try clear f_w1_w_1_2
  try clear c_w1_w_1_3
  try clear f_w1_w_1_3
  try clear c_w1_w_1_4
  try clear f_w1_w_1_4
  try clear c_w1_w_1_5
  try clear f_w1_w_1_5
  try clear far_w1_w_0
  try clear far_w1_w_1
  try clear hB_w1
  have far_w7_w_0 := far (show w.heap.size < w7.heap.size by omega)
  have far_w7_w_1 := far (show w.heap.size + 1 < w7.heap.size by omega)
  go_wp2_with fail
  refine Calls.mono (CR.out _ (by (repeat (first | (with_reducible exact Below.refl _ _) | (with_reducible assumption) | (with_reducible refine Below.drew ?_) | (focus ((with_reducible refine Below.setCell ?_ ?_ _); rotate_left; (first | omega | (simp <;> omega)))) | (focus ((with_reducible refine Below.alloc ?_ ?_ _); rotate_left; (first | omega | (simp <;> omega)))) | exact Below.refl _ _ | assumption | refine Below.drew ?_ | refine Below.alloc ?_ (by first | omega | (simp <;> omega)) _ | refine Below.setCell ?_ (by first | omega | (simp <;> omega)) _)))) ?_
  rintro e w8 ⟨rfl, hb_w8⟩
  have hz_w8 := hb_w8.size
  try simp at hz_w8
  obtain ⟨c_w8_w_0, f_w8_w_0⟩ := bk hb_w8 (w.heap.size) (by first | omega | (simp <;> omega))
  have c_w8_w_0_0 := c_w8_w_0 0
  conv at c_w8_w_0_0 => rhs; simp [go_sem, *]
  have f_w8_w_0_0 := f_w8_w_0 0
  conv at f_w8_w_0_0 => rhs; simp [go_sem, *]
  have c_w8_w_0_1 := c_w8_w_0 1
  conv at c_w8_w_0_1 => rhs; simp [go_sem, *]
  have f_w8_w_0_1 := f_w8_w_0 1
  conv at f_w8_w_0_1 => rhs; simp [go_sem, *]
  have c_w8_w_0_2 := c_w8_w_0 2
  conv at c_w8_w_0_2 => rhs; simp [go_sem, *]
  have f_w8_w_0_2 := f_w8_w_0 2
  conv at f_w8_w_0_2 => rhs; simp [go_sem, *]
  have c_w8_w_0_3 := c_w8_w_0 3
  conv at c_w8_w_0_3 => rhs; simp [go_sem, *]
  have f_w8_w_0_3 := f_w8_w_0 3
  conv at f_w8_w_0_3 => rhs; simp [go_sem, *]
  have c_w8_w_0_4 := c_w8_w_0 4
  conv at c_w8_w_0_4 => rhs; simp [go_sem, *]
  have f_w8_w_0_4 := f_w8_w_0 4
  conv at f_w8_w_0_4 => rhs; simp [go_sem, *]
  have c_w8_w_0_5 := c_w8_w_0 5
  conv at c_w8_w_0_5 => rhs; simp [go_sem, *]
  have f_w8_w_0_5 := f_w8_w_0 5
  conv at f_w8_w_0_5 => rhs; simp [go_sem, *]
  obtain ⟨c_w8_w_1, f_w8_w_1⟩ := bk hb_w8 (w.heap.size + 1) (by first | omega | (simp <;> omega))
  have c_w8_w_1_0 := c_w8_w_1 0
  conv at c_w8_w_1_0 => rhs; simp [go_sem, *]
  have f_w8_w_1_0 := f_w8_w_1 0
  conv at f_w8_w_1_0 => rhs; simp [go_sem, *]
  have c_w8_w_1_1 := c_w8_w_1 1
  conv at c_w8_w_1_1 => rhs; simp [go_sem, *]
  have f_w8_w_1_1 := f_w8_w_1 1
  conv at f_w8_w_1_1 => rhs; simp [go_sem, *]
  have c_w8_w_1_2 := c_w8_w_1 2
  conv at c_w8_w_1_2 => rhs; simp [go_sem, *]
  have f_w8_w_1_2 := f_w8_w_1 2
  conv at f_w8_w_1_2 => rhs; simp [go_sem, *]
  have c_w8_w_1_3 := c_w8_w_1 3
  conv at c_w8_w_1_3 => rhs; simp [go_sem, *]
  have f_w8_w_1_3 := f_w8_w_1 3
  conv at f_w8_w_1_3 => rhs; simp [go_sem, *]
  have c_w8_w_1_4 := c_w8_w_1 4
  conv at c_w8_w_1_4 => rhs; simp [go_sem, *]
  have f_w8_w_1_4 := f_w8_w_1 4
  conv at f_w8_w_1_4 => rhs; simp [go_sem, *]
  have c_w8_w_1_5 := c_w8_w_1 5
  conv at c_w8_w_1_5 => rhs; simp [go_sem, *]
  have f_w8_w_1_5 := f_w8_w_1 5
  conv at f_w8_w_1_5 => rhs; simp [go_sem, *]
  have HH_w8 := Lib.hid hb_w8
  have hB_w8 : Below w.heap.size w w8 := Below.trans (by (repeat (first | (with_reducible exact Below.refl _ _) | (with_reducible assumption) | (with_reducible refine Below.drew ?_) | (focus ((with_reducible refine Below.setCell ?_ ?_ _); rotate_left; (first | omega | (simp <;> omega)))) | (focus ((with_reducible refine Below.alloc ?_ ?_ _); rotate_left; (first | omega | (simp <;> omega)))) | exact Below.refl _ _ | assumption | refine Below.drew ?_ | refine Below.alloc ?_ (by first | omega | (simp <;> omega)) _ | refine Below.setCell ?_ (by first | omega | (simp <;> omega)) _))) (hb_w8.mono (by first | omega | (simp <;> omega)))
  clear hb_w8 c_w8_w_0 f_w8_w_0 c_w8_w_1 f_w8_w_1
  try clear c_w7_w_0_0
  try clear f_w7_w_0_0
  try clear c_w7_w_0_1
  try clear f_w7_w_0_1
  try clear c_w7_w_0_2
  try clear f_w7_w_0_2
  try clear c_w7_w_0_3
  try clear f_w7_w_0_3
  try clear c_w7_w_0_4
  try clear f_w7_w_0_4
  try clear c_w7_w_0_5
  try clear f_w7_w_0_5
  try clear c_w7_w_1_0
  try clear f_w7_w_1_0
  try clear c_w7_w_1_1
  try clear f_w7_w_1_1
  try clear c_w7_w_1_2
  try clear f_w7_w_1_2
  try clear c_w7_w_1_3
  try clear f_w7_w_1_3
  try clear c_w7_w_1_4
  try clear f_w7_w_1_4
  try clear c_w7_w_1_5
  try clear f_w7_w_1_5
  try clear far_w7_w_0
  try clear far_w7_w_1
  try clear hB_w7
  have far_w8_w_0 := far (show w.heap.size < w8.heap.size by omega)
  have far_w8_w_1 := far (show w.heap.size + 1 < w8.heap.size by omega)
  cases ok with
  | false =>
    go_wp2
    refine bodyPost_ret (v := .tuple #[uv false [] 0 [] false [], .int .i64 20]) (by simp [results, Tryd.results30, go_sem, *]) rfl ⟨by rw [HN.out (by simp)]; rfl, ?_⟩
    (repeat (first | (with_reducible exact Below.refl _ _) | (with_reducible assumption) | (with_reducible refine Below.drew ?_) | (focus ((with_reducible refine Below.setCell ?_ ?_ _); rotate_left; (first | omega | (simp <;> omega)))) | (focus ((with_reducible refine Below.alloc ?_ ?_ _); rotate_left; (first | omega | (simp <;> omega)))) | exact Below.refl _ _ | assumption | refine Below.drew ?_ | refine Below.alloc ?_ (by first | omega | (simp <;> omega)) _ | refine Below.setCell ?_ (by first | omega | (simp <;> omega)) _))
  | true =>
    go_wp2
    refine bodyPost_ret (v := .tuple #[uv false [] 0 f t g, .int .i64 0]) (by simp [results, Tryd.results30, go_sem, *]) rfl ⟨by rw [HY.out (by simp)], ?_⟩
    (repeat (first | (with_reducible exact Below.refl _ _) | (with_reducible assumption) | (with_reducible refine Below.drew ?_) | (focus ((with_reducible refine Below.setCell ?_ ?_ _); rotate_left; (first | omega | (simp <;> omega)))) | (focus ((with_reducible refine Below.alloc ?_ ?_ _); rotate_left; (first | omega | (simp <;> omega)))) | exact Below.refl _ _ | assumption | refine Below.drew ?_ | refine Below.alloc ?_ (by first | omega | (simp <;> omega)) _ | refine Below.setCell ?_ (by first | omega | (simp <;> omega)) _))

set_option maxHeartbeats 6400000 in
set_option maxRecDepth 100000 in
theorem parse_abs (s : List UInt8) (hs : s.length ≤ 500) (hB : httpB s = true) (w : World) (hL : Laid w) :
    Calls Tryd.prog 30 #[.string (S s)] w fun e w' => e = .returned (.tuple #[(parseL s).1.v, .int .i64 (parseL s).2]) ∧ Below w.heap.size w w' := by
  obtain ⟨h7, hb2⟩ : 7 ≤ s.length ∧ (lower (s.take 7) == httpL) = true := by unfold httpB at hB; simpa using hB
  have CS := Lib.hid (fun W => show Calls Tryd.prog 33 #[.string (S (s.take 7)), .string (S httpL)] W fun e w' => e = .returned (.bool true) ∧ Below W.heap.size W w' from by
    have := textSame (s.take 7) httpL (by rw [List.length_take]; omega) (by decide) W
    rw [lower_http, hb2] at this
    exact this)
  unfold httpL at CS
  obtain ⟨t, ht⟩ : ∃ t, s.drop 7 = t := ⟨_, rfl⟩
  have htl : t.length ≤ 493 := by rw [← ht, List.length_drop]; omega
  have CI := Lib.hid (fun W => indexAny2 t (by omega) W)
  have hel := endOf_le t
  have CP := Lib.hid (fun W => uriPlace (t.take (endOf t)) (by rw [List.length_take]; omega) W)
  have htail := tailOf_len t
  have CQ := Lib.hid (fun W => uriPath (tailOf t) (by omega) true (placeH (t.take (endOf t))) (placeN (t.take (endOf t))) [] false [] W)
  have CR := Lib.hid (fun W (hbl : Below w.heap.size w W) => rightC (absOf t) (absOf_mid t (by omega)) (W := W) hL hbl)
  have HP := show parseL s = if placeB (t.take (endOf t)) && (absOf t).ok then (absOf t, 0) else (UU.nil, 20) by unfold parseL; rw [if_neg (by omega), hB, ht]; simp
  obtain ⟨p, hp⟩ : ∃ x, parseL s = x := ⟨_, rfl⟩
  rw [hp] at HP ⊢
  obtain ⟨ok, hok⟩ : ∃ x, (absOf t).ok = x := ⟨_, rfl⟩
  rw [hok] at CR HP
  obtain ⟨pb, hpb⟩ : ∃ x, placeB (t.take (endOf t)) = x := ⟨_, rfl⟩
  rw [hpb] at CP HP
  have HN := Lib.hid (show pb = false ∨ ok = false → p = (UU.nil, 20) from fun h => by rw [HP]; rcases h with h | h <;> rw [h] <;> simp)
  have HY := Lib.hid (show pb = true → ok = true → p = (absOf t, 0) from fun h h' => by rw [HP, h, h']; simp)
  clear HP hp hok hpb hB hL hb2
  unfold absOf at CR HY
  have HT := show tailOf t = if t.drop (endOf t) = [] ∨ bAt (t.drop (endOf t)) 0 = 63 then 47 :: t.drop (endOf t) else t.drop (endOf t) from rfl
  obtain ⟨r, hr⟩ : ∃ x, tailOf t = x := ⟨_, rfl⟩
  rw [hr] at CQ CR HY HT htail
  obtain ⟨f, g, tt, hcut⟩ : ∃ f g tt, cut1 r 63 = (f, g, tt) := ⟨_, _, _, rfl⟩
  rw [hcut] at CQ CR HY
  have hE := show endOf t = if Lib.indexAny t [47, 63] < 0 then t.length else (Lib.indexAny t [47, 63]).toNat from rfl
  have hilt := indexAny_lt t [47, 63]
  obtain ⟨e, he⟩ : ∃ x, endOf t = x := ⟨_, rfl⟩
  rw [he] at CP CQ CR HY HT hE hel
  obtain ⟨ia, hia⟩ : ∃ x, Lib.indexAny t [47, 63] = x := ⟨_, rfl⟩
  rw [hia] at CI hE hilt
  obtain ⟨hh, hhh⟩ : ∃ x, placeH (t.take e) = x := ⟨_, rfl⟩
  obtain ⟨nn, hnn⟩ : ∃ x, placeN (t.take e) = x := ⟨_, rfl⟩
  rw [hhh, hnn] at CP CQ CR HY
  obtain ⟨d, hd⟩ : ∃ x, t.drop e = x := ⟨_, rfl⟩
  have hdl : d.length = t.length - e := by rw [← hd, List.length_drop]
  rw [hd] at HT
  clear hr hcut he hia hhh hnn
  simp only [UU.v] at CP CQ CR ⊢
  have hle : ¬ 500 < (s.length : Int) := by omega
  have h7b : (7 : Int) ≤ (s.length : Int) := by omega
  by_cases h0 : ia < 0
  · obtain rfl : e = t.length := by rw [hE, if_pos h0]
    obtain rfl : d = [] := by rw [← hd]; simp
    have hd' : List.drop t.length t = [] := hd
    have htk : List.take t.length t = t := List.take_length
    rw [htk] at CP
    obtain rfl : r = [47] := by rw [HT]; simp
    clear HT hE
    go_enter Tryd.func30, Tryd.ntmps30
    go_wp2_with fail
    refine Calls.mono (CS.out _) ?_
    rintro e w1 ⟨rfl, hb_w1⟩
    have hz_w1 := hb_w1.size
    try simp at hz_w1
    obtain ⟨c_w1_w_0, f_w1_w_0⟩ := bk hb_w1 (w.heap.size) (by first | omega | (simp <;> omega))
    have c_w1_w_0_0 := c_w1_w_0 0
    conv at c_w1_w_0_0 => rhs; simp [go_sem, *]
    have f_w1_w_0_0 := f_w1_w_0 0
    conv at f_w1_w_0_0 => rhs; simp [go_sem, *]
    have c_w1_w_0_1 := c_w1_w_0 1
    conv at c_w1_w_0_1 => rhs; simp [go_sem, *]
    have f_w1_w_0_1 := f_w1_w_0 1
    conv at f_w1_w_0_1 => rhs; simp [go_sem, *]
    have c_w1_w_0_2 := c_w1_w_0 2
    conv at c_w1_w_0_2 => rhs; simp [go_sem, *]
    have f_w1_w_0_2 := f_w1_w_0 2
    conv at f_w1_w_0_2 => rhs; simp [go_sem, *]
    have c_w1_w_0_3 := c_w1_w_0 3
    conv at c_w1_w_0_3 => rhs; simp [go_sem, *]
    have f_w1_w_0_3 := f_w1_w_0 3
    conv at f_w1_w_0_3 => rhs; simp [go_sem, *]
    have c_w1_w_0_4 := c_w1_w_0 4
    conv at c_w1_w_0_4 => rhs; simp [go_sem, *]
    have f_w1_w_0_4 := f_w1_w_0 4
    conv at f_w1_w_0_4 => rhs; simp [go_sem, *]
    have c_w1_w_0_5 := c_w1_w_0 5
    conv at c_w1_w_0_5 => rhs; simp [go_sem, *]
    have f_w1_w_0_5 := f_w1_w_0 5
    conv at f_w1_w_0_5 => rhs; simp [go_sem, *]
    obtain ⟨c_w1_w_1, f_w1_w_1⟩ := bk hb_w1 (w.heap.size + 1) (by first | omega | (simp <;> omega))
    have c_w1_w_1_0 := c_w1_w_1 0
    conv at c_w1_w_1_0 => rhs; simp [go_sem, *]
    have f_w1_w_1_0 := f_w1_w_1 0
    conv at f_w1_w_1_0 => rhs; simp [go_sem, *]
    have c_w1_w_1_1 := c_w1_w_1 1
    conv at c_w1_w_1_1 => rhs; simp [go_sem, *]
    have f_w1_w_1_1 := f_w1_w_1 1
    conv at f_w1_w_1_1 => rhs; simp [go_sem, *]
    have c_w1_w_1_2 := c_w1_w_1 2
    conv at c_w1_w_1_2 => rhs; simp [go_sem, *]
    have f_w1_w_1_2 := f_w1_w_1 2
    conv at f_w1_w_1_2 => rhs; simp [go_sem, *]
    have c_w1_w_1_3 := c_w1_w_1 3
    conv at c_w1_w_1_3 => rhs; simp [go_sem, *]
    have f_w1_w_1_3 := f_w1_w_1 3
    conv at f_w1_w_1_3 => rhs; simp [go_sem, *]
    have c_w1_w_1_4 := c_w1_w_1 4
    conv at c_w1_w_1_4 => rhs; simp [go_sem, *]
    have f_w1_w_1_4 := f_w1_w_1 4
    conv at f_w1_w_1_4 => rhs; simp [go_sem, *]
    have c_w1_w_1_5 := c_w1_w_1 5
    conv at c_w1_w_1_5 => rhs; simp [go_sem, *]
    have f_w1_w_1_5 := f_w1_w_1 5
    conv at f_w1_w_1_5 => rhs; simp [go_sem, *]
    have HH_w1 := Lib.hid hb_w1
    have hB_w1 : Below w.heap.size w w1 := Below.trans (by (repeat (first | (with_reducible exact Below.refl _ _) | (with_reducible assumption) | (with_reducible refine Below.drew ?_) | (focus ((with_reducible refine Below.setCell ?_ ?_ _); rotate_left; (first | omega | (simp <;> omega)))) | (focus ((with_reducible refine Below.alloc ?_ ?_ _); rotate_left; (first | omega | (simp <;> omega)))) | exact Below.refl _ _ | assumption | refine Below.drew ?_ | refine Below.alloc ?_ (by first | omega | (simp <;> omega)) _ | refine Below.setCell ?_ (by first | omega | (simp <;> omega)) _))) (hb_w1.mono (by first | omega | (simp <;> omega)))
    clear hb_w1 c_w1_w_0 f_w1_w_0 c_w1_w_1 f_w1_w_1
    have far_w1_w_0 := far (show w.heap.size < w1.heap.size by omega)
    have far_w1_w_1 := far (show w.heap.size + 1 < w1.heap.size by omega)
    go_wp2_with fail
    refine Calls.mono (CI.out _) ?_
    rintro e w2 ⟨rfl, hb_w2⟩
    have hz_w2 := hb_w2.size
    try simp at hz_w2
    obtain ⟨c_w2_w_0, f_w2_w_0⟩ := bk hb_w2 (w.heap.size) (by first | omega | (simp <;> omega))
    have c_w2_w_0_0 := c_w2_w_0 0
    conv at c_w2_w_0_0 => rhs; simp [go_sem, *]
    have f_w2_w_0_0 := f_w2_w_0 0
    conv at f_w2_w_0_0 => rhs; simp [go_sem, *]
    have c_w2_w_0_1 := c_w2_w_0 1
    conv at c_w2_w_0_1 => rhs; simp [go_sem, *]
    have f_w2_w_0_1 := f_w2_w_0 1
    conv at f_w2_w_0_1 => rhs; simp [go_sem, *]
    have c_w2_w_0_2 := c_w2_w_0 2
    conv at c_w2_w_0_2 => rhs; simp [go_sem, *]
    have f_w2_w_0_2 := f_w2_w_0 2
    conv at f_w2_w_0_2 => rhs; simp [go_sem, *]
    have c_w2_w_0_3 := c_w2_w_0 3
    conv at c_w2_w_0_3 => rhs; simp [go_sem, *]
    have f_w2_w_0_3 := f_w2_w_0 3
    conv at f_w2_w_0_3 => rhs; simp [go_sem, *]
    have c_w2_w_0_4 := c_w2_w_0 4
    conv at c_w2_w_0_4 => rhs; simp [go_sem, *]
    have f_w2_w_0_4 := f_w2_w_0 4
    conv at f_w2_w_0_4 => rhs; simp [go_sem, *]
    have c_w2_w_0_5 := c_w2_w_0 5
    conv at c_w2_w_0_5 => rhs; simp [go_sem, *]
    have f_w2_w_0_5 := f_w2_w_0 5
    conv at f_w2_w_0_5 => rhs; simp [go_sem, *]
    obtain ⟨c_w2_w_1, f_w2_w_1⟩ := bk hb_w2 (w.heap.size + 1) (by first | omega | (simp <;> omega))
    have c_w2_w_1_0 := c_w2_w_1 0
    conv at c_w2_w_1_0 => rhs; simp [go_sem, *]
    have f_w2_w_1_0 := f_w2_w_1 0
    conv at f_w2_w_1_0 => rhs; simp [go_sem, *]
    have c_w2_w_1_1 := c_w2_w_1 1
    conv at c_w2_w_1_1 => rhs; simp [go_sem, *]
    have f_w2_w_1_1 := f_w2_w_1 1
    conv at f_w2_w_1_1 => rhs; simp [go_sem, *]
    have c_w2_w_1_2 := c_w2_w_1 2
    conv at c_w2_w_1_2 => rhs; simp [go_sem, *]
    have f_w2_w_1_2 := f_w2_w_1 2
    conv at f_w2_w_1_2 => rhs; simp [go_sem, *]
    have c_w2_w_1_3 := c_w2_w_1 3
    conv at c_w2_w_1_3 => rhs; simp [go_sem, *]
    have f_w2_w_1_3 := f_w2_w_1 3
    conv at f_w2_w_1_3 => rhs; simp [go_sem, *]
    have c_w2_w_1_4 := c_w2_w_1 4
    conv at c_w2_w_1_4 => rhs; simp [go_sem, *]
    have f_w2_w_1_4 := f_w2_w_1 4
    conv at f_w2_w_1_4 => rhs; simp [go_sem, *]
    have c_w2_w_1_5 := c_w2_w_1 5
    conv at c_w2_w_1_5 => rhs; simp [go_sem, *]
    have f_w2_w_1_5 := f_w2_w_1 5
    conv at f_w2_w_1_5 => rhs; simp [go_sem, *]
    have HH_w2 := Lib.hid hb_w2
    have hB_w2 : Below w.heap.size w w2 := Below.trans (by (repeat (first | (with_reducible exact Below.refl _ _) | (with_reducible assumption) | (with_reducible refine Below.drew ?_) | (focus ((with_reducible refine Below.setCell ?_ ?_ _); rotate_left; (first | omega | (simp <;> omega)))) | (focus ((with_reducible refine Below.alloc ?_ ?_ _); rotate_left; (first | omega | (simp <;> omega)))) | exact Below.refl _ _ | assumption | refine Below.drew ?_ | refine Below.alloc ?_ (by first | omega | (simp <;> omega)) _ | refine Below.setCell ?_ (by first | omega | (simp <;> omega)) _))) (hb_w2.mono (by first | omega | (simp <;> omega)))
    clear hb_w2 c_w2_w_0 f_w2_w_0 c_w2_w_1 f_w2_w_1
    try clear c_w1_w_0_0
    try clear f_w1_w_0_0
    try clear c_w1_w_0_1
    try clear f_w1_w_0_1
    try clear c_w1_w_0_2
    try clear f_w1_w_0_2
    try clear c_w1_w_0_3
    try clear f_w1_w_0_3
    try clear c_w1_w_0_4
    try clear f_w1_w_0_4
    try clear c_w1_w_0_5
    try clear f_w1_w_0_5
    try clear c_w1_w_1_0
    try clear f_w1_w_1_0
    try clear c_w1_w_1_1
    try clear f_w1_w_1_1
    try clear c_w1_w_1_2
    try clear f_w1_w_1_2
    try clear c_w1_w_1_3
    try clear f_w1_w_1_3
    try clear c_w1_w_1_4
    try clear f_w1_w_1_4
    try clear c_w1_w_1_5
    try clear f_w1_w_1_5
    try clear far_w1_w_0
    try clear far_w1_w_1
    try clear hB_w1
    have far_w2_w_0 := far (show w.heap.size < w2.heap.size by omega)
    have far_w2_w_1 := far (show w.heap.size + 1 < w2.heap.size by omega)
    go_wp2_with fail
    refine wp_region_callsV (w.heap.size + 2) [fun W => ((((((W.setCell ⟨w.heap.size + 1, 0, none⟩ (.bool true)).setCell ⟨w.heap.size + 1, 1, none⟩ (.string (S hh))).setCell ⟨w.heap.size + 1, 2, none⟩ (.int .i64 nn)).setCell ⟨w.heap.size + 1, 3, none⟩ (.string (S []))).setCell ⟨w.heap.size + 1, 4, none⟩ (.bool false)).setCell ⟨w.heap.size + 1, 5, none⟩ (.string (S []))), fun W => W] [] (fun r => [8, 9].getD r 0) (fun i => [0, 0, 0, 0, 0, 0, 0, 1, 0, 1].getD i 2) [(32, .string (S t)), (33, .int .i64 t.length), (34, .string (S t)), (35, uv false [] 0 [] false []), (36, .tuple #[uv true hh nn [] false [], .bool pb]), (31, .tuple #[uv true hh nn [] false [], .bool pb]), (37, uv true hh nn [] false []), (38, .bool pb), (5, .bool pb)] [] (by kernel_rfl) (by kernel_rfl) rfl ?_ ?_ ?_ ?_ ?_
    · simp only [puts, List.foldl_cons, List.foldl_nil, Act.put, List.setIfInBounds_toArray, List.set_cons_succ, List.set_cons_zero]; repeat (first | exact trivial | refine ⟨by first | exact Or.inr rfl | exact Or.inl (by kernel_rfl), ?_⟩)
    · simp only [puts, List.foldl_cons, List.foldl_nil, Act.put, List.setIfInBounds_toArray, List.set_cons_succ, List.set_cons_zero]; repeat (first | exact trivial | refine ⟨by first | exact Or.inr rfl | exact Or.inl (by kernel_rfl), ?_⟩)
    · simp only [puts, List.foldl_cons, List.foldl_nil, Act.put, List.setIfInBounds_toArray, List.set_cons_succ, List.set_cons_zero]; repeat (first | exact trivial | refine ⟨by first | exact Or.inr rfl | exact Or.inl (by kernel_rfl), ?_⟩)
    · simp only [puts, List.foldl_cons, List.foldl_nil, Act.put, List.setIfInBounds_toArray, List.set_cons_succ, List.set_cons_zero]
      refine And.intro ?_ ?_
      · exact opOK_headC 0 (by rfl) (upto0 (by exact oneC_val rfl rfl (fun x hx => by have cc0 := fun o => (show Below _ _ x from hx).cell (p := ⟨w.heap.size, o, none⟩) (by first | omega | (simp <;> omega)); have ff0 := fun o => (show Below _ _ x from hx).frozen (p := ⟨w.heap.size, o, none⟩) (by first | omega | (simp <;> omega)); have cc1 := fun o => (show Below _ _ x from hx).cell (p := ⟨w.heap.size + 1, o, none⟩) (by first | omega | (simp <;> omega)); have ff1 := fun o => (show Below _ _ x from hx).frozen (p := ⟨w.heap.size + 1, o, none⟩) (by first | omega | (simp <;> omega)); simp [go_sem, *])))
      refine And.intro ?_ ?_
      · exact opOK_headC 0 (by rfl) (upto0 (by exact oneC_val rfl rfl (fun x hx => by have cc0 := fun o => (show Below _ _ x from hx).cell (p := ⟨w.heap.size, o, none⟩) (by first | omega | (simp <;> omega)); have ff0 := fun o => (show Below _ _ x from hx).frozen (p := ⟨w.heap.size, o, none⟩) (by first | omega | (simp <;> omega)); have cc1 := fun o => (show Below _ _ x from hx).cell (p := ⟨w.heap.size + 1, o, none⟩) (by first | omega | (simp <;> omega)); have ff1 := fun o => (show Below _ _ x from hx).frozen (p := ⟨w.heap.size + 1, o, none⟩) (by first | omega | (simp <;> omega)); simp [go_sem, *])))
      refine And.intro ?_ ?_
      · exact opOK_headC 0 (by rfl) (upto0 (by exact oneC_val rfl rfl (fun x hx => by have cc0 := fun o => (show Below _ _ x from hx).cell (p := ⟨w.heap.size, o, none⟩) (by first | omega | (simp <;> omega)); have ff0 := fun o => (show Below _ _ x from hx).frozen (p := ⟨w.heap.size, o, none⟩) (by first | omega | (simp <;> omega)); have cc1 := fun o => (show Below _ _ x from hx).cell (p := ⟨w.heap.size + 1, o, none⟩) (by first | omega | (simp <;> omega)); have ff1 := fun o => (show Below _ _ x from hx).frozen (p := ⟨w.heap.size + 1, o, none⟩) (by first | omega | (simp <;> omega)); simp [go_sem, *])))
      refine And.intro ?_ ?_
      · exact opOK_headC 0 (by rfl) (upto0 (by exact oneC_val rfl rfl (fun x hx => by have cc0 := fun o => (show Below _ _ x from hx).cell (p := ⟨w.heap.size, o, none⟩) (by first | omega | (simp <;> omega)); have ff0 := fun o => (show Below _ _ x from hx).frozen (p := ⟨w.heap.size, o, none⟩) (by first | omega | (simp <;> omega)); have cc1 := fun o => (show Below _ _ x from hx).cell (p := ⟨w.heap.size + 1, o, none⟩) (by first | omega | (simp <;> omega)); have ff1 := fun o => (show Below _ _ x from hx).frozen (p := ⟨w.heap.size + 1, o, none⟩) (by first | omega | (simp <;> omega)); simp [go_sem, *])))
      refine And.intro ?_ ?_
      · exact opOK_headC 0 (by rfl) (upto0 (by exact oneC_call rfl rfl (fun x hx => by have cc0 := fun o => (show Below _ _ x from hx).cell (p := ⟨w.heap.size, o, none⟩) (by first | omega | (simp <;> omega)); have ff0 := fun o => (show Below _ _ x from hx).frozen (p := ⟨w.heap.size, o, none⟩) (by first | omega | (simp <;> omega)); have cc1 := fun o => (show Below _ _ x from hx).cell (p := ⟨w.heap.size + 1, o, none⟩) (by first | omega | (simp <;> omega)); have ff1 := fun o => (show Below _ _ x from hx).frozen (p := ⟨w.heap.size + 1, o, none⟩) (by first | omega | (simp <;> omega)); simp [go_sem, *]) (fun x hx => call_cls hx (by have := (show Below _ _ x from hx).size; simp at this; omega) (CP.out _))))
      refine And.intro ?_ ?_
      · exact opOK_headC 0 (by rfl) (upto0 (by exact oneC_val rfl rfl (fun x hx => by have cc0 := fun o => (show Below _ _ x from hx).cell (p := ⟨w.heap.size, o, none⟩) (by first | omega | (simp <;> omega)); have ff0 := fun o => (show Below _ _ x from hx).frozen (p := ⟨w.heap.size, o, none⟩) (by first | omega | (simp <;> omega)); have cc1 := fun o => (show Below _ _ x from hx).cell (p := ⟨w.heap.size + 1, o, none⟩) (by first | omega | (simp <;> omega)); have ff1 := fun o => (show Below _ _ x from hx).frozen (p := ⟨w.heap.size + 1, o, none⟩) (by first | omega | (simp <;> omega)); simp [go_sem, *])))
      refine And.intro ?_ ?_
      · exact opOK_headC 0 (by rfl) (upto0 (by exact oneC_val rfl rfl (fun x hx => by have cc0 := fun o => (show Below _ _ x from hx).cell (p := ⟨w.heap.size, o, none⟩) (by first | omega | (simp <;> omega)); have ff0 := fun o => (show Below _ _ x from hx).frozen (p := ⟨w.heap.size, o, none⟩) (by first | omega | (simp <;> omega)); have cc1 := fun o => (show Below _ _ x from hx).cell (p := ⟨w.heap.size + 1, o, none⟩) (by first | omega | (simp <;> omega)); have ff1 := fun o => (show Below _ _ x from hx).frozen (p := ⟨w.heap.size + 1, o, none⟩) (by first | omega | (simp <;> omega)); simp [go_sem, *])))
      refine And.intro ?_ ?_
      · exact opOK_headC 1 (by rfl) (upto1 (by exact oneC_val rfl rfl (fun x hx => by have cc0 := fun o => (show Below _ _ x from hx).cell (p := ⟨w.heap.size, o, none⟩) (by first | omega | (simp <;> omega)); have ff0 := fun o => (show Below _ _ x from hx).frozen (p := ⟨w.heap.size, o, none⟩) (by first | omega | (simp <;> omega)); have cc1 := fun o => (show Below _ _ x from hx).cell (p := ⟨w.heap.size + 1, o, none⟩) (by first | omega | (simp <;> omega)); have ff1 := fun o => (show Below _ _ x from hx).frozen (p := ⟨w.heap.size + 1, o, none⟩) (by first | omega | (simp <;> omega)); simp [go_sem, *])) (by exact oneC_val rfl rfl (fun x hx => by have cc0 := fun o => (show Below _ _ x from hx).cell (p := ⟨w.heap.size, o, none⟩) (by first | omega | (simp <;> omega)); have ff0 := fun o => (show Below _ _ x from hx).frozen (p := ⟨w.heap.size, o, none⟩) (by first | omega | (simp <;> omega)); have cc1 := fun o => (show Below _ _ x from hx).cell (p := ⟨w.heap.size + 1, o, none⟩) (by first | omega | (simp <;> omega)); have ff1 := fun o => (show Below _ _ x from hx).frozen (p := ⟨w.heap.size + 1, o, none⟩) (by first | omega | (simp <;> omega)); simp [go_sem, *])))
      refine And.intro ?_ ?_
      · exact opOK_atC 0 (by rfl) (oneC_store (g := fun W => ((((((W.setCell ⟨w.heap.size + 1, 0, none⟩ (.bool true)).setCell ⟨w.heap.size + 1, 1, none⟩ (.string (S hh))).setCell ⟨w.heap.size + 1, 2, none⟩ (.int .i64 nn)).setCell ⟨w.heap.size + 1, 3, none⟩ (.string (S []))).setCell ⟨w.heap.size + 1, 4, none⟩ (.bool false)).setCell ⟨w.heap.size + 1, 5, none⟩ (.string (S [])))) rfl (fun x hx => ⟨by have cc0 := fun o => (show Below _ _ x from hx).cell (p := ⟨w.heap.size, o, none⟩) (by first | omega | (simp <;> omega)); have ff0 := fun o => (show Below _ _ x from hx).frozen (p := ⟨w.heap.size, o, none⟩) (by first | omega | (simp <;> omega)); have cc1 := fun o => (show Below _ _ x from hx).cell (p := ⟨w.heap.size + 1, o, none⟩) (by first | omega | (simp <;> omega)); have ff1 := fun o => (show Below _ _ x from hx).frozen (p := ⟨w.heap.size + 1, o, none⟩) (by first | omega | (simp <;> omega)); simp [go_sem, *], by simp only [Cls, List.take_succ_cons, List.take_zero, List.foldl_cons, List.foldl_nil] at hx ⊢; repeat (first | (with_reducible exact hx) | (with_reducible refine below_both ?_ _ _))⟩))
      refine And.intro ?_ ?_
      · exact opOK_atC 1 (by rfl) (oneC_assign rfl rfl (fun x hx => ⟨by have cc0 := fun o => (show Below _ _ x from hx).cell (p := ⟨w.heap.size, o, none⟩) (by first | omega | (simp <;> omega)); have ff0 := fun o => (show Below _ _ x from hx).frozen (p := ⟨w.heap.size, o, none⟩) (by first | omega | (simp <;> omega)); have cc1 := fun o => (show Below _ _ x from hx).cell (p := ⟨w.heap.size + 1, o, none⟩) (by first | omega | (simp <;> omega)); have ff1 := fun o => (show Below _ _ x from hx).frozen (p := ⟨w.heap.size + 1, o, none⟩) (by first | omega | (simp <;> omega)); simp [go_sem, *], by simp only [Cls, List.take_succ_cons, List.take_zero, List.foldl_cons, List.foldl_nil] at hx ⊢; (with_reducible exact hx)⟩))
      exact trivial
    simp only [puts, List.foldl_cons, List.foldl_nil, Act.put, List.setIfInBounds_toArray, List.set_cons_succ, List.set_cons_zero]
    intro w3 hb_w3
    have hz_w3 := hb_w3.size
    try simp at hz_w3
    have c_w3_w_0 := fun o => hb_w3.cell (p := ⟨w.heap.size, o, none⟩) (by first | omega | (simp <;> omega))
    have f_w3_w_0 := fun o => hb_w3.frozen (p := ⟨w.heap.size, o, none⟩) (by first | omega | (simp <;> omega))
    have c_w3_w_0_0 := c_w3_w_0 0
    conv at c_w3_w_0_0 => rhs; simp [go_sem, *]
    have f_w3_w_0_0 := f_w3_w_0 0
    conv at f_w3_w_0_0 => rhs; simp [go_sem, *]
    have c_w3_w_0_1 := c_w3_w_0 1
    conv at c_w3_w_0_1 => rhs; simp [go_sem, *]
    have f_w3_w_0_1 := f_w3_w_0 1
    conv at f_w3_w_0_1 => rhs; simp [go_sem, *]
    have c_w3_w_0_2 := c_w3_w_0 2
    conv at c_w3_w_0_2 => rhs; simp [go_sem, *]
    have f_w3_w_0_2 := f_w3_w_0 2
    conv at f_w3_w_0_2 => rhs; simp [go_sem, *]
    have c_w3_w_0_3 := c_w3_w_0 3
    conv at c_w3_w_0_3 => rhs; simp [go_sem, *]
    have f_w3_w_0_3 := f_w3_w_0 3
    conv at f_w3_w_0_3 => rhs; simp [go_sem, *]
    have c_w3_w_0_4 := c_w3_w_0 4
    conv at c_w3_w_0_4 => rhs; simp [go_sem, *]
    have f_w3_w_0_4 := f_w3_w_0 4
    conv at f_w3_w_0_4 => rhs; simp [go_sem, *]
    have c_w3_w_0_5 := c_w3_w_0 5
    conv at c_w3_w_0_5 => rhs; simp [go_sem, *]
    have f_w3_w_0_5 := f_w3_w_0 5
    conv at f_w3_w_0_5 => rhs; simp [go_sem, *]
    have c_w3_w_1 := fun o => hb_w3.cell (p := ⟨w.heap.size + 1, o, none⟩) (by first | omega | (simp <;> omega))
    have f_w3_w_1 := fun o => hb_w3.frozen (p := ⟨w.heap.size + 1, o, none⟩) (by first | omega | (simp <;> omega))
    have c_w3_w_1_0 := c_w3_w_1 0
    conv at c_w3_w_1_0 => rhs; simp [go_sem, *]
    have f_w3_w_1_0 := f_w3_w_1 0
    conv at f_w3_w_1_0 => rhs; simp [go_sem, *]
    have c_w3_w_1_1 := c_w3_w_1 1
    conv at c_w3_w_1_1 => rhs; simp [go_sem, *]
    have f_w3_w_1_1 := f_w3_w_1 1
    conv at f_w3_w_1_1 => rhs; simp [go_sem, *]
    have c_w3_w_1_2 := c_w3_w_1 2
    conv at c_w3_w_1_2 => rhs; simp [go_sem, *]
    have f_w3_w_1_2 := f_w3_w_1 2
    conv at f_w3_w_1_2 => rhs; simp [go_sem, *]
    have c_w3_w_1_3 := c_w3_w_1 3
    conv at c_w3_w_1_3 => rhs; simp [go_sem, *]
    have f_w3_w_1_3 := f_w3_w_1 3
    conv at f_w3_w_1_3 => rhs; simp [go_sem, *]
    have c_w3_w_1_4 := c_w3_w_1 4
    conv at c_w3_w_1_4 => rhs; simp [go_sem, *]
    have f_w3_w_1_4 := f_w3_w_1 4
    conv at f_w3_w_1_4 => rhs; simp [go_sem, *]
    have c_w3_w_1_5 := c_w3_w_1 5
    conv at c_w3_w_1_5 => rhs; simp [go_sem, *]
    have f_w3_w_1_5 := f_w3_w_1 5
    conv at f_w3_w_1_5 => rhs; simp [go_sem, *]
    have HH_w3 := Lib.hid hb_w3
    have hB_w3 : Below w.heap.size w w3 := Below.trans (by (repeat (first | (with_reducible exact Below.refl _ _) | (with_reducible assumption) | (with_reducible refine Below.drew ?_) | (focus ((with_reducible refine Below.setCell ?_ ?_ _); rotate_left; (first | omega | (simp <;> omega)))) | (focus ((with_reducible refine Below.alloc ?_ ?_ _); rotate_left; (first | omega | (simp <;> omega)))) | exact Below.refl _ _ | assumption | refine Below.drew ?_ | refine Below.alloc ?_ (by first | omega | (simp <;> omega)) _ | refine Below.setCell ?_ (by first | omega | (simp <;> omega)) _))) (hb_w3.mono (by first | omega | (simp <;> omega)))
    clear hb_w3 c_w3_w_0 f_w3_w_0 c_w3_w_1 f_w3_w_1
    try clear c_w2_w_0_0
    try clear f_w2_w_0_0
    try clear c_w2_w_0_1
    try clear f_w2_w_0_1
    try clear c_w2_w_0_2
    try clear f_w2_w_0_2
    try clear c_w2_w_0_3
    try clear f_w2_w_0_3
    try clear c_w2_w_0_4
    try clear f_w2_w_0_4
    try clear c_w2_w_0_5
    try clear f_w2_w_0_5
    try clear c_w2_w_1_0
    try clear f_w2_w_1_0
    try clear c_w2_w_1_1
    try clear f_w2_w_1_1
    try clear c_w2_w_1_2
    try clear f_w2_w_1_2
    try clear c_w2_w_1_3
    try clear f_w2_w_1_3
    try clear c_w2_w_1_4
    try clear f_w2_w_1_4
    try clear c_w2_w_1_5
    try clear f_w2_w_1_5
    try clear far_w2_w_0
    try clear far_w2_w_1
    try clear hB_w2
    have far_w3_w_0 := far (show w.heap.size < w3.heap.size by omega)
    have far_w3_w_1 := far (show w.heap.size + 1 < w3.heap.size by omega)
    go_wp2_with fail
    refine Calls.mono (CQ.out _) ?_
    rintro e w7 ⟨rfl, hb_w7⟩
    have hz_w7 := hb_w7.size
    try simp at hz_w7
    obtain ⟨c_w7_w_0, f_w7_w_0⟩ := bk hb_w7 (w.heap.size) (by first | omega | (simp <;> omega))
    have c_w7_w_0_0 := c_w7_w_0 0
    conv at c_w7_w_0_0 => rhs; simp [go_sem, *]
    have f_w7_w_0_0 := f_w7_w_0 0
    conv at f_w7_w_0_0 => rhs; simp [go_sem, *]
    have c_w7_w_0_1 := c_w7_w_0 1
    conv at c_w7_w_0_1 => rhs; simp [go_sem, *]
    have f_w7_w_0_1 := f_w7_w_0 1
    conv at f_w7_w_0_1 => rhs; simp [go_sem, *]
    have c_w7_w_0_2 := c_w7_w_0 2
    conv at c_w7_w_0_2 => rhs; simp [go_sem, *]
    have f_w7_w_0_2 := f_w7_w_0 2
    conv at f_w7_w_0_2 => rhs; simp [go_sem, *]
    have c_w7_w_0_3 := c_w7_w_0 3
    conv at c_w7_w_0_3 => rhs; simp [go_sem, *]
    have f_w7_w_0_3 := f_w7_w_0 3
    conv at f_w7_w_0_3 => rhs; simp [go_sem, *]
    have c_w7_w_0_4 := c_w7_w_0 4
    conv at c_w7_w_0_4 => rhs; simp [go_sem, *]
    have f_w7_w_0_4 := f_w7_w_0 4
    conv at f_w7_w_0_4 => rhs; simp [go_sem, *]
    have c_w7_w_0_5 := c_w7_w_0 5
    conv at c_w7_w_0_5 => rhs; simp [go_sem, *]
    have f_w7_w_0_5 := f_w7_w_0 5
    conv at f_w7_w_0_5 => rhs; simp [go_sem, *]
    obtain ⟨c_w7_w_1, f_w7_w_1⟩ := bk hb_w7 (w.heap.size + 1) (by first | omega | (simp <;> omega))
    have c_w7_w_1_0 := c_w7_w_1 0
    conv at c_w7_w_1_0 => rhs; simp [go_sem, *]
    have f_w7_w_1_0 := f_w7_w_1 0
    conv at f_w7_w_1_0 => rhs; simp [go_sem, *]
    have c_w7_w_1_1 := c_w7_w_1 1
    conv at c_w7_w_1_1 => rhs; simp [go_sem, *]
    have f_w7_w_1_1 := f_w7_w_1 1
    conv at f_w7_w_1_1 => rhs; simp [go_sem, *]
    have c_w7_w_1_2 := c_w7_w_1 2
    conv at c_w7_w_1_2 => rhs; simp [go_sem, *]
    have f_w7_w_1_2 := f_w7_w_1 2
    conv at f_w7_w_1_2 => rhs; simp [go_sem, *]
    have c_w7_w_1_3 := c_w7_w_1 3
    conv at c_w7_w_1_3 => rhs; simp [go_sem, *]
    have f_w7_w_1_3 := f_w7_w_1 3
    conv at f_w7_w_1_3 => rhs; simp [go_sem, *]
    have c_w7_w_1_4 := c_w7_w_1 4
    conv at c_w7_w_1_4 => rhs; simp [go_sem, *]
    have f_w7_w_1_4 := f_w7_w_1 4
    conv at f_w7_w_1_4 => rhs; simp [go_sem, *]
    have c_w7_w_1_5 := c_w7_w_1 5
    conv at c_w7_w_1_5 => rhs; simp [go_sem, *]
    have f_w7_w_1_5 := f_w7_w_1 5
    conv at f_w7_w_1_5 => rhs; simp [go_sem, *]
    have HH_w7 := Lib.hid hb_w7
    have hB_w7 : Below w.heap.size w w7 := Below.trans (by (repeat (first | (with_reducible exact Below.refl _ _) | (with_reducible assumption) | (with_reducible refine Below.drew ?_) | (focus ((with_reducible refine Below.setCell ?_ ?_ _); rotate_left; (first | omega | (simp <;> omega)))) | (focus ((with_reducible refine Below.alloc ?_ ?_ _); rotate_left; (first | omega | (simp <;> omega)))) | exact Below.refl _ _ | assumption | refine Below.drew ?_ | refine Below.alloc ?_ (by first | omega | (simp <;> omega)) _ | refine Below.setCell ?_ (by first | omega | (simp <;> omega)) _))) (hb_w7.mono (by first | omega | (simp <;> omega)))
    clear hb_w7 c_w7_w_0 f_w7_w_0 c_w7_w_1 f_w7_w_1
    try clear c_w3_w_0_0
    try clear f_w3_w_0_0
    try clear c_w3_w_0_1
    try clear f_w3_w_0_1
    try clear c_w3_w_0_2
    try clear f_w3_w_0_2
    try clear c_w3_w_0_3
    try clear f_w3_w_0_3
    try clear c_w3_w_0_4
    try clear f_w3_w_0_4
    try clear c_w3_w_0_5
    try clear f_w3_w_0_5
    try clear c_w3_w_1_0
    try clear f_w3_w_1_0
    try clear c_w3_w_1_1
    try clear f_w3_w_1_1
    try clear c_w3_w_1_2
    try clear f_w3_w_1_2
    try clear c_w3_w_1_3
    try clear f_w3_w_1_3
    try clear c_w3_w_1_4
    try clear f_w3_w_1_4
    try clear c_w3_w_1_5
    try clear f_w3_w_1_5
    try clear far_w3_w_0
    try clear far_w3_w_1
    try clear hB_w3
    have far_w7_w_0 := far (show w.heap.size < w7.heap.size by omega)
    have far_w7_w_1 := far (show w.heap.size + 1 < w7.heap.size by omega)
    cases pb with
    | false =>
      go_wp2
      refine bodyPost_ret (v := .tuple #[uv false [] 0 [] false [], .int .i64 20]) (by simp [results, Tryd.results30, go_sem, *]) rfl ⟨by rw [HN.out (by simp)]; rfl, ?_⟩
      (repeat (first | (with_reducible exact Below.refl _ _) | (with_reducible assumption) | (with_reducible refine Below.drew ?_) | (focus ((with_reducible refine Below.setCell ?_ ?_ _); rotate_left; (first | omega | (simp <;> omega)))) | (focus ((with_reducible refine Below.alloc ?_ ?_ _); rotate_left; (first | omega | (simp <;> omega)))) | exact Below.refl _ _ | assumption | refine Below.drew ?_ | refine Below.alloc ?_ (by first | omega | (simp <;> omega)) _ | refine Below.setCell ?_ (by first | omega | (simp <;> omega)) _))
    | true =>
      go_wp2_with fail
      refine Calls.mono (CR.out _ (by (repeat (first | (with_reducible exact Below.refl _ _) | (with_reducible assumption) | (with_reducible refine Below.drew ?_) | (focus ((with_reducible refine Below.setCell ?_ ?_ _); rotate_left; (first | omega | (simp <;> omega)))) | (focus ((with_reducible refine Below.alloc ?_ ?_ _); rotate_left; (first | omega | (simp <;> omega)))) | exact Below.refl _ _ | assumption | refine Below.drew ?_ | refine Below.alloc ?_ (by first | omega | (simp <;> omega)) _ | refine Below.setCell ?_ (by first | omega | (simp <;> omega)) _)))) ?_
      rintro e w8 ⟨rfl, hb_w8⟩
      have hz_w8 := hb_w8.size
      try simp at hz_w8
      obtain ⟨c_w8_w_0, f_w8_w_0⟩ := bk hb_w8 (w.heap.size) (by first | omega | (simp <;> omega))
      have c_w8_w_0_0 := c_w8_w_0 0
      conv at c_w8_w_0_0 => rhs; simp [go_sem, *]
      have f_w8_w_0_0 := f_w8_w_0 0
      conv at f_w8_w_0_0 => rhs; simp [go_sem, *]
      have c_w8_w_0_1 := c_w8_w_0 1
      conv at c_w8_w_0_1 => rhs; simp [go_sem, *]
      have f_w8_w_0_1 := f_w8_w_0 1
      conv at f_w8_w_0_1 => rhs; simp [go_sem, *]
      have c_w8_w_0_2 := c_w8_w_0 2
      conv at c_w8_w_0_2 => rhs; simp [go_sem, *]
      have f_w8_w_0_2 := f_w8_w_0 2
      conv at f_w8_w_0_2 => rhs; simp [go_sem, *]
      have c_w8_w_0_3 := c_w8_w_0 3
      conv at c_w8_w_0_3 => rhs; simp [go_sem, *]
      have f_w8_w_0_3 := f_w8_w_0 3
      conv at f_w8_w_0_3 => rhs; simp [go_sem, *]
      have c_w8_w_0_4 := c_w8_w_0 4
      conv at c_w8_w_0_4 => rhs; simp [go_sem, *]
      have f_w8_w_0_4 := f_w8_w_0 4
      conv at f_w8_w_0_4 => rhs; simp [go_sem, *]
      have c_w8_w_0_5 := c_w8_w_0 5
      conv at c_w8_w_0_5 => rhs; simp [go_sem, *]
      have f_w8_w_0_5 := f_w8_w_0 5
      conv at f_w8_w_0_5 => rhs; simp [go_sem, *]
      obtain ⟨c_w8_w_1, f_w8_w_1⟩ := bk hb_w8 (w.heap.size + 1) (by first | omega | (simp <;> omega))
      have c_w8_w_1_0 := c_w8_w_1 0
      conv at c_w8_w_1_0 => rhs; simp [go_sem, *]
      have f_w8_w_1_0 := f_w8_w_1 0
      conv at f_w8_w_1_0 => rhs; simp [go_sem, *]
      have c_w8_w_1_1 := c_w8_w_1 1
      conv at c_w8_w_1_1 => rhs; simp [go_sem, *]
      have f_w8_w_1_1 := f_w8_w_1 1
      conv at f_w8_w_1_1 => rhs; simp [go_sem, *]
      have c_w8_w_1_2 := c_w8_w_1 2
      conv at c_w8_w_1_2 => rhs; simp [go_sem, *]
      have f_w8_w_1_2 := f_w8_w_1 2
      conv at f_w8_w_1_2 => rhs; simp [go_sem, *]
      have c_w8_w_1_3 := c_w8_w_1 3
      conv at c_w8_w_1_3 => rhs; simp [go_sem, *]
      have f_w8_w_1_3 := f_w8_w_1 3
      conv at f_w8_w_1_3 => rhs; simp [go_sem, *]
      have c_w8_w_1_4 := c_w8_w_1 4
      conv at c_w8_w_1_4 => rhs; simp [go_sem, *]
      have f_w8_w_1_4 := f_w8_w_1 4
      conv at f_w8_w_1_4 => rhs; simp [go_sem, *]
      have c_w8_w_1_5 := c_w8_w_1 5
      conv at c_w8_w_1_5 => rhs; simp [go_sem, *]
      have f_w8_w_1_5 := f_w8_w_1 5
      conv at f_w8_w_1_5 => rhs; simp [go_sem, *]
      have HH_w8 := Lib.hid hb_w8
      have hB_w8 : Below w.heap.size w w8 := Below.trans (by (repeat (first | (with_reducible exact Below.refl _ _) | (with_reducible assumption) | (with_reducible refine Below.drew ?_) | (focus ((with_reducible refine Below.setCell ?_ ?_ _); rotate_left; (first | omega | (simp <;> omega)))) | (focus ((with_reducible refine Below.alloc ?_ ?_ _); rotate_left; (first | omega | (simp <;> omega)))) | exact Below.refl _ _ | assumption | refine Below.drew ?_ | refine Below.alloc ?_ (by first | omega | (simp <;> omega)) _ | refine Below.setCell ?_ (by first | omega | (simp <;> omega)) _))) (hb_w8.mono (by first | omega | (simp <;> omega)))
      clear hb_w8 c_w8_w_0 f_w8_w_0 c_w8_w_1 f_w8_w_1
      try clear c_w7_w_0_0
      try clear f_w7_w_0_0
      try clear c_w7_w_0_1
      try clear f_w7_w_0_1
      try clear c_w7_w_0_2
      try clear f_w7_w_0_2
      try clear c_w7_w_0_3
      try clear f_w7_w_0_3
      try clear c_w7_w_0_4
      try clear f_w7_w_0_4
      try clear c_w7_w_0_5
      try clear f_w7_w_0_5
      try clear c_w7_w_1_0
      try clear f_w7_w_1_0
      try clear c_w7_w_1_1
      try clear f_w7_w_1_1
      try clear c_w7_w_1_2
      try clear f_w7_w_1_2
      try clear c_w7_w_1_3
      try clear f_w7_w_1_3
      try clear c_w7_w_1_4
      try clear f_w7_w_1_4
      try clear c_w7_w_1_5
      try clear f_w7_w_1_5
      try clear far_w7_w_0
      try clear far_w7_w_1
      try clear hB_w7
      have far_w8_w_0 := far (show w.heap.size < w8.heap.size by omega)
      have far_w8_w_1 := far (show w.heap.size + 1 < w8.heap.size by omega)
      cases ok with
      | false =>
        go_wp2
        refine bodyPost_ret (v := .tuple #[uv false [] 0 [] false [], .int .i64 20]) (by simp [results, Tryd.results30, go_sem, *]) rfl ⟨by rw [HN.out (by simp)]; rfl, ?_⟩
        (repeat (first | (with_reducible exact Below.refl _ _) | (with_reducible assumption) | (with_reducible refine Below.drew ?_) | (focus ((with_reducible refine Below.setCell ?_ ?_ _); rotate_left; (first | omega | (simp <;> omega)))) | (focus ((with_reducible refine Below.alloc ?_ ?_ _); rotate_left; (first | omega | (simp <;> omega)))) | exact Below.refl _ _ | assumption | refine Below.drew ?_ | refine Below.alloc ?_ (by first | omega | (simp <;> omega)) _ | refine Below.setCell ?_ (by first | omega | (simp <;> omega)) _))
      | true =>
        go_wp2
        refine bodyPost_ret (v := .tuple #[uv true hh nn f tt g, .int .i64 0]) (by simp [results, Tryd.results30, go_sem, *]) rfl ⟨by rw [HY.out (by simp) (by simp)], ?_⟩
        (repeat (first | (with_reducible exact Below.refl _ _) | (with_reducible assumption) | (with_reducible refine Below.drew ?_) | (focus ((with_reducible refine Below.setCell ?_ ?_ _); rotate_left; (first | omega | (simp <;> omega)))) | (focus ((with_reducible refine Below.alloc ?_ ?_ _); rotate_left; (first | omega | (simp <;> omega)))) | exact Below.refl _ _ | assumption | refine Below.drew ?_ | refine Below.alloc ?_ (by first | omega | (simp <;> omega)) _ | refine Below.setCell ?_ (by first | omega | (simp <;> omega)) _))
  · obtain ⟨k, rfl⟩ : ∃ k : Nat, ia = k := ⟨ia.toNat, by omega⟩
    obtain rfl : e = k := by rw [hE, if_neg h0]; simp
    clear hE
    have hdp : 0 < d.length := by omega
    have hdn : (d == []) = false := by cases d with
      | nil => simp at hdp
      | cons a b => rfl
    by_cases h63 : bAt d 0 = 63
    · have hb63 : (bAt d 0 == 63) = true := by simpa using h63
      obtain rfl : r = 47 :: d := by rw [HT, if_pos (.inr h63)]
      clear HT
      go_enter Tryd.func30, Tryd.ntmps30
      go_wp2_with fail
      refine Calls.mono (CS.out _) ?_
      rintro e w1 ⟨rfl, hb_w1⟩
      have hz_w1 := hb_w1.size
      try simp at hz_w1
      obtain ⟨c_w1_w_0, f_w1_w_0⟩ := bk hb_w1 (w.heap.size) (by first | omega | (simp <;> omega))
      have c_w1_w_0_0 := c_w1_w_0 0
      conv at c_w1_w_0_0 => rhs; simp [go_sem, *]
      have f_w1_w_0_0 := f_w1_w_0 0
      conv at f_w1_w_0_0 => rhs; simp [go_sem, *]
      have c_w1_w_0_1 := c_w1_w_0 1
      conv at c_w1_w_0_1 => rhs; simp [go_sem, *]
      have f_w1_w_0_1 := f_w1_w_0 1
      conv at f_w1_w_0_1 => rhs; simp [go_sem, *]
      have c_w1_w_0_2 := c_w1_w_0 2
      conv at c_w1_w_0_2 => rhs; simp [go_sem, *]
      have f_w1_w_0_2 := f_w1_w_0 2
      conv at f_w1_w_0_2 => rhs; simp [go_sem, *]
      have c_w1_w_0_3 := c_w1_w_0 3
      conv at c_w1_w_0_3 => rhs; simp [go_sem, *]
      have f_w1_w_0_3 := f_w1_w_0 3
      conv at f_w1_w_0_3 => rhs; simp [go_sem, *]
      have c_w1_w_0_4 := c_w1_w_0 4
      conv at c_w1_w_0_4 => rhs; simp [go_sem, *]
      have f_w1_w_0_4 := f_w1_w_0 4
      conv at f_w1_w_0_4 => rhs; simp [go_sem, *]
      have c_w1_w_0_5 := c_w1_w_0 5
      conv at c_w1_w_0_5 => rhs; simp [go_sem, *]
      have f_w1_w_0_5 := f_w1_w_0 5
      conv at f_w1_w_0_5 => rhs; simp [go_sem, *]
      obtain ⟨c_w1_w_1, f_w1_w_1⟩ := bk hb_w1 (w.heap.size + 1) (by first | omega | (simp <;> omega))
      have c_w1_w_1_0 := c_w1_w_1 0
      conv at c_w1_w_1_0 => rhs; simp [go_sem, *]
      have f_w1_w_1_0 := f_w1_w_1 0
      conv at f_w1_w_1_0 => rhs; simp [go_sem, *]
      have c_w1_w_1_1 := c_w1_w_1 1
      conv at c_w1_w_1_1 => rhs; simp [go_sem, *]
      have f_w1_w_1_1 := f_w1_w_1 1
      conv at f_w1_w_1_1 => rhs; simp [go_sem, *]
      have c_w1_w_1_2 := c_w1_w_1 2
      conv at c_w1_w_1_2 => rhs; simp [go_sem, *]
      have f_w1_w_1_2 := f_w1_w_1 2
      conv at f_w1_w_1_2 => rhs; simp [go_sem, *]
      have c_w1_w_1_3 := c_w1_w_1 3
      conv at c_w1_w_1_3 => rhs; simp [go_sem, *]
      have f_w1_w_1_3 := f_w1_w_1 3
      conv at f_w1_w_1_3 => rhs; simp [go_sem, *]
      have c_w1_w_1_4 := c_w1_w_1 4
      conv at c_w1_w_1_4 => rhs; simp [go_sem, *]
      have f_w1_w_1_4 := f_w1_w_1 4
      conv at f_w1_w_1_4 => rhs; simp [go_sem, *]
      have c_w1_w_1_5 := c_w1_w_1 5
      conv at c_w1_w_1_5 => rhs; simp [go_sem, *]
      have f_w1_w_1_5 := f_w1_w_1 5
      conv at f_w1_w_1_5 => rhs; simp [go_sem, *]
      have HH_w1 := Lib.hid hb_w1
      have hB_w1 : Below w.heap.size w w1 := Below.trans (by (repeat (first | (with_reducible exact Below.refl _ _) | (with_reducible assumption) | (with_reducible refine Below.drew ?_) | (focus ((with_reducible refine Below.setCell ?_ ?_ _); rotate_left; (first | omega | (simp <;> omega)))) | (focus ((with_reducible refine Below.alloc ?_ ?_ _); rotate_left; (first | omega | (simp <;> omega)))) | exact Below.refl _ _ | assumption | refine Below.drew ?_ | refine Below.alloc ?_ (by first | omega | (simp <;> omega)) _ | refine Below.setCell ?_ (by first | omega | (simp <;> omega)) _))) (hb_w1.mono (by first | omega | (simp <;> omega)))
      clear hb_w1 c_w1_w_0 f_w1_w_0 c_w1_w_1 f_w1_w_1
      try clear c_w8_w_0_0
      try clear f_w8_w_0_0
      try clear c_w8_w_0_1
      try clear f_w8_w_0_1
      try clear c_w8_w_0_2
      try clear f_w8_w_0_2
      try clear c_w8_w_0_3
      try clear f_w8_w_0_3
      try clear c_w8_w_0_4
      try clear f_w8_w_0_4
      try clear c_w8_w_0_5
      try clear f_w8_w_0_5
      try clear c_w8_w_1_0
      try clear f_w8_w_1_0
      try clear c_w8_w_1_1
      try clear f_w8_w_1_1
      try clear c_w8_w_1_2
      try clear f_w8_w_1_2
      try clear c_w8_w_1_3
      try clear f_w8_w_1_3
      try clear c_w8_w_1_4
      try clear f_w8_w_1_4
      try clear c_w8_w_1_5
      try clear f_w8_w_1_5
      try clear far_w8_w_0
      try clear far_w8_w_1
      try clear hB_w8
      have far_w1_w_0 := far (show w.heap.size < w1.heap.size by omega)
      have far_w1_w_1 := far (show w.heap.size + 1 < w1.heap.size by omega)
      go_wp2_with fail
      refine Calls.mono (CI.out _) ?_
      rintro e w2 ⟨rfl, hb_w2⟩
      have hz_w2 := hb_w2.size
      try simp at hz_w2
      obtain ⟨c_w2_w_0, f_w2_w_0⟩ := bk hb_w2 (w.heap.size) (by first | omega | (simp <;> omega))
      have c_w2_w_0_0 := c_w2_w_0 0
      conv at c_w2_w_0_0 => rhs; simp [go_sem, *]
      have f_w2_w_0_0 := f_w2_w_0 0
      conv at f_w2_w_0_0 => rhs; simp [go_sem, *]
      have c_w2_w_0_1 := c_w2_w_0 1
      conv at c_w2_w_0_1 => rhs; simp [go_sem, *]
      have f_w2_w_0_1 := f_w2_w_0 1
      conv at f_w2_w_0_1 => rhs; simp [go_sem, *]
      have c_w2_w_0_2 := c_w2_w_0 2
      conv at c_w2_w_0_2 => rhs; simp [go_sem, *]
      have f_w2_w_0_2 := f_w2_w_0 2
      conv at f_w2_w_0_2 => rhs; simp [go_sem, *]
      have c_w2_w_0_3 := c_w2_w_0 3
      conv at c_w2_w_0_3 => rhs; simp [go_sem, *]
      have f_w2_w_0_3 := f_w2_w_0 3
      conv at f_w2_w_0_3 => rhs; simp [go_sem, *]
      have c_w2_w_0_4 := c_w2_w_0 4
      conv at c_w2_w_0_4 => rhs; simp [go_sem, *]
      have f_w2_w_0_4 := f_w2_w_0 4
      conv at f_w2_w_0_4 => rhs; simp [go_sem, *]
      have c_w2_w_0_5 := c_w2_w_0 5
      conv at c_w2_w_0_5 => rhs; simp [go_sem, *]
      have f_w2_w_0_5 := f_w2_w_0 5
      conv at f_w2_w_0_5 => rhs; simp [go_sem, *]
      obtain ⟨c_w2_w_1, f_w2_w_1⟩ := bk hb_w2 (w.heap.size + 1) (by first | omega | (simp <;> omega))
      have c_w2_w_1_0 := c_w2_w_1 0
      conv at c_w2_w_1_0 => rhs; simp [go_sem, *]
      have f_w2_w_1_0 := f_w2_w_1 0
      conv at f_w2_w_1_0 => rhs; simp [go_sem, *]
      have c_w2_w_1_1 := c_w2_w_1 1
      conv at c_w2_w_1_1 => rhs; simp [go_sem, *]
      have f_w2_w_1_1 := f_w2_w_1 1
      conv at f_w2_w_1_1 => rhs; simp [go_sem, *]
      have c_w2_w_1_2 := c_w2_w_1 2
      conv at c_w2_w_1_2 => rhs; simp [go_sem, *]
      have f_w2_w_1_2 := f_w2_w_1 2
      conv at f_w2_w_1_2 => rhs; simp [go_sem, *]
      have c_w2_w_1_3 := c_w2_w_1 3
      conv at c_w2_w_1_3 => rhs; simp [go_sem, *]
      have f_w2_w_1_3 := f_w2_w_1 3
      conv at f_w2_w_1_3 => rhs; simp [go_sem, *]
      have c_w2_w_1_4 := c_w2_w_1 4
      conv at c_w2_w_1_4 => rhs; simp [go_sem, *]
      have f_w2_w_1_4 := f_w2_w_1 4
      conv at f_w2_w_1_4 => rhs; simp [go_sem, *]
      have c_w2_w_1_5 := c_w2_w_1 5
      conv at c_w2_w_1_5 => rhs; simp [go_sem, *]
      have f_w2_w_1_5 := f_w2_w_1 5
      conv at f_w2_w_1_5 => rhs; simp [go_sem, *]
      have HH_w2 := Lib.hid hb_w2
      have hB_w2 : Below w.heap.size w w2 := Below.trans (by (repeat (first | (with_reducible exact Below.refl _ _) | (with_reducible assumption) | (with_reducible refine Below.drew ?_) | (focus ((with_reducible refine Below.setCell ?_ ?_ _); rotate_left; (first | omega | (simp <;> omega)))) | (focus ((with_reducible refine Below.alloc ?_ ?_ _); rotate_left; (first | omega | (simp <;> omega)))) | exact Below.refl _ _ | assumption | refine Below.drew ?_ | refine Below.alloc ?_ (by first | omega | (simp <;> omega)) _ | refine Below.setCell ?_ (by first | omega | (simp <;> omega)) _))) (hb_w2.mono (by first | omega | (simp <;> omega)))
      clear hb_w2 c_w2_w_0 f_w2_w_0 c_w2_w_1 f_w2_w_1
      try clear c_w1_w_0_0
      try clear f_w1_w_0_0
      try clear c_w1_w_0_1
      try clear f_w1_w_0_1
      try clear c_w1_w_0_2
      try clear f_w1_w_0_2
      try clear c_w1_w_0_3
      try clear f_w1_w_0_3
      try clear c_w1_w_0_4
      try clear f_w1_w_0_4
      try clear c_w1_w_0_5
      try clear f_w1_w_0_5
      try clear c_w1_w_1_0
      try clear f_w1_w_1_0
      try clear c_w1_w_1_1
      try clear f_w1_w_1_1
      try clear c_w1_w_1_2
      try clear f_w1_w_1_2
      try clear c_w1_w_1_3
      try clear f_w1_w_1_3
      try clear c_w1_w_1_4
      try clear f_w1_w_1_4
      try clear c_w1_w_1_5
      try clear f_w1_w_1_5
      try clear far_w1_w_0
      try clear far_w1_w_1
      try clear hB_w1
      have far_w2_w_0 := far (show w.heap.size < w2.heap.size by omega)
      have far_w2_w_1 := far (show w.heap.size + 1 < w2.heap.size by omega)
      go_wp2_with fail
      refine wp_region_callsV (w.heap.size + 2) [fun W => ((((((W.setCell ⟨w.heap.size + 1, 0, none⟩ (.bool true)).setCell ⟨w.heap.size + 1, 1, none⟩ (.string (S hh))).setCell ⟨w.heap.size + 1, 2, none⟩ (.int .i64 nn)).setCell ⟨w.heap.size + 1, 3, none⟩ (.string (S []))).setCell ⟨w.heap.size + 1, 4, none⟩ (.bool false)).setCell ⟨w.heap.size + 1, 5, none⟩ (.string (S []))), fun W => W] [] (fun r => [8, 9].getD r 0) (fun i => [0, 0, 0, 0, 0, 0, 0, 1, 0, 1].getD i 2) [(32, .string (S t)), (33, .int .i64 e), (34, .string (S (t.take e))), (35, uv false [] 0 [] false []), (36, .tuple #[uv true hh nn [] false [], .bool pb]), (31, .tuple #[uv true hh nn [] false [], .bool pb]), (37, uv true hh nn [] false []), (38, .bool pb), (5, .bool pb)] [] (by kernel_rfl) (by kernel_rfl) rfl ?_ ?_ ?_ ?_ ?_
      · simp only [puts, List.foldl_cons, List.foldl_nil, Act.put, List.setIfInBounds_toArray, List.set_cons_succ, List.set_cons_zero]; repeat (first | exact trivial | refine ⟨by first | exact Or.inr rfl | exact Or.inl (by kernel_rfl), ?_⟩)
      · simp only [puts, List.foldl_cons, List.foldl_nil, Act.put, List.setIfInBounds_toArray, List.set_cons_succ, List.set_cons_zero]; repeat (first | exact trivial | refine ⟨by first | exact Or.inr rfl | exact Or.inl (by kernel_rfl), ?_⟩)
      · simp only [puts, List.foldl_cons, List.foldl_nil, Act.put, List.setIfInBounds_toArray, List.set_cons_succ, List.set_cons_zero]; repeat (first | exact trivial | refine ⟨by first | exact Or.inr rfl | exact Or.inl (by kernel_rfl), ?_⟩)
      · simp only [puts, List.foldl_cons, List.foldl_nil, Act.put, List.setIfInBounds_toArray, List.set_cons_succ, List.set_cons_zero]
        refine And.intro ?_ ?_
        · exact opOK_headC 0 (by rfl) (upto0 (by exact oneC_val rfl rfl (fun x hx => by have cc0 := fun o => (show Below _ _ x from hx).cell (p := ⟨w.heap.size, o, none⟩) (by first | omega | (simp <;> omega)); have ff0 := fun o => (show Below _ _ x from hx).frozen (p := ⟨w.heap.size, o, none⟩) (by first | omega | (simp <;> omega)); have cc1 := fun o => (show Below _ _ x from hx).cell (p := ⟨w.heap.size + 1, o, none⟩) (by first | omega | (simp <;> omega)); have ff1 := fun o => (show Below _ _ x from hx).frozen (p := ⟨w.heap.size + 1, o, none⟩) (by first | omega | (simp <;> omega)); simp [go_sem, *])))
        refine And.intro ?_ ?_
        · exact opOK_headC 0 (by rfl) (upto0 (by exact oneC_val rfl rfl (fun x hx => by have cc0 := fun o => (show Below _ _ x from hx).cell (p := ⟨w.heap.size, o, none⟩) (by first | omega | (simp <;> omega)); have ff0 := fun o => (show Below _ _ x from hx).frozen (p := ⟨w.heap.size, o, none⟩) (by first | omega | (simp <;> omega)); have cc1 := fun o => (show Below _ _ x from hx).cell (p := ⟨w.heap.size + 1, o, none⟩) (by first | omega | (simp <;> omega)); have ff1 := fun o => (show Below _ _ x from hx).frozen (p := ⟨w.heap.size + 1, o, none⟩) (by first | omega | (simp <;> omega)); simp [go_sem, *])))
        refine And.intro ?_ ?_
        · exact opOK_headC 0 (by rfl) (upto0 (by exact oneC_val rfl rfl (fun x hx => by have cc0 := fun o => (show Below _ _ x from hx).cell (p := ⟨w.heap.size, o, none⟩) (by first | omega | (simp <;> omega)); have ff0 := fun o => (show Below _ _ x from hx).frozen (p := ⟨w.heap.size, o, none⟩) (by first | omega | (simp <;> omega)); have cc1 := fun o => (show Below _ _ x from hx).cell (p := ⟨w.heap.size + 1, o, none⟩) (by first | omega | (simp <;> omega)); have ff1 := fun o => (show Below _ _ x from hx).frozen (p := ⟨w.heap.size + 1, o, none⟩) (by first | omega | (simp <;> omega)); simp [go_sem, *])))
        refine And.intro ?_ ?_
        · exact opOK_headC 0 (by rfl) (upto0 (by exact oneC_val rfl rfl (fun x hx => by have cc0 := fun o => (show Below _ _ x from hx).cell (p := ⟨w.heap.size, o, none⟩) (by first | omega | (simp <;> omega)); have ff0 := fun o => (show Below _ _ x from hx).frozen (p := ⟨w.heap.size, o, none⟩) (by first | omega | (simp <;> omega)); have cc1 := fun o => (show Below _ _ x from hx).cell (p := ⟨w.heap.size + 1, o, none⟩) (by first | omega | (simp <;> omega)); have ff1 := fun o => (show Below _ _ x from hx).frozen (p := ⟨w.heap.size + 1, o, none⟩) (by first | omega | (simp <;> omega)); simp [go_sem, *])))
        refine And.intro ?_ ?_
        · exact opOK_headC 0 (by rfl) (upto0 (by exact oneC_call rfl rfl (fun x hx => by have cc0 := fun o => (show Below _ _ x from hx).cell (p := ⟨w.heap.size, o, none⟩) (by first | omega | (simp <;> omega)); have ff0 := fun o => (show Below _ _ x from hx).frozen (p := ⟨w.heap.size, o, none⟩) (by first | omega | (simp <;> omega)); have cc1 := fun o => (show Below _ _ x from hx).cell (p := ⟨w.heap.size + 1, o, none⟩) (by first | omega | (simp <;> omega)); have ff1 := fun o => (show Below _ _ x from hx).frozen (p := ⟨w.heap.size + 1, o, none⟩) (by first | omega | (simp <;> omega)); simp [go_sem, *]) (fun x hx => call_cls hx (by have := (show Below _ _ x from hx).size; simp at this; omega) (CP.out _))))
        refine And.intro ?_ ?_
        · exact opOK_headC 0 (by rfl) (upto0 (by exact oneC_val rfl rfl (fun x hx => by have cc0 := fun o => (show Below _ _ x from hx).cell (p := ⟨w.heap.size, o, none⟩) (by first | omega | (simp <;> omega)); have ff0 := fun o => (show Below _ _ x from hx).frozen (p := ⟨w.heap.size, o, none⟩) (by first | omega | (simp <;> omega)); have cc1 := fun o => (show Below _ _ x from hx).cell (p := ⟨w.heap.size + 1, o, none⟩) (by first | omega | (simp <;> omega)); have ff1 := fun o => (show Below _ _ x from hx).frozen (p := ⟨w.heap.size + 1, o, none⟩) (by first | omega | (simp <;> omega)); simp [go_sem, *])))
        refine And.intro ?_ ?_
        · exact opOK_headC 0 (by rfl) (upto0 (by exact oneC_val rfl rfl (fun x hx => by have cc0 := fun o => (show Below _ _ x from hx).cell (p := ⟨w.heap.size, o, none⟩) (by first | omega | (simp <;> omega)); have ff0 := fun o => (show Below _ _ x from hx).frozen (p := ⟨w.heap.size, o, none⟩) (by first | omega | (simp <;> omega)); have cc1 := fun o => (show Below _ _ x from hx).cell (p := ⟨w.heap.size + 1, o, none⟩) (by first | omega | (simp <;> omega)); have ff1 := fun o => (show Below _ _ x from hx).frozen (p := ⟨w.heap.size + 1, o, none⟩) (by first | omega | (simp <;> omega)); simp [go_sem, *])))
        refine And.intro ?_ ?_
        · exact opOK_headC 1 (by rfl) (upto1 (by exact oneC_val rfl rfl (fun x hx => by have cc0 := fun o => (show Below _ _ x from hx).cell (p := ⟨w.heap.size, o, none⟩) (by first | omega | (simp <;> omega)); have ff0 := fun o => (show Below _ _ x from hx).frozen (p := ⟨w.heap.size, o, none⟩) (by first | omega | (simp <;> omega)); have cc1 := fun o => (show Below _ _ x from hx).cell (p := ⟨w.heap.size + 1, o, none⟩) (by first | omega | (simp <;> omega)); have ff1 := fun o => (show Below _ _ x from hx).frozen (p := ⟨w.heap.size + 1, o, none⟩) (by first | omega | (simp <;> omega)); simp [go_sem, *])) (by exact oneC_val rfl rfl (fun x hx => by have cc0 := fun o => (show Below _ _ x from hx).cell (p := ⟨w.heap.size, o, none⟩) (by first | omega | (simp <;> omega)); have ff0 := fun o => (show Below _ _ x from hx).frozen (p := ⟨w.heap.size, o, none⟩) (by first | omega | (simp <;> omega)); have cc1 := fun o => (show Below _ _ x from hx).cell (p := ⟨w.heap.size + 1, o, none⟩) (by first | omega | (simp <;> omega)); have ff1 := fun o => (show Below _ _ x from hx).frozen (p := ⟨w.heap.size + 1, o, none⟩) (by first | omega | (simp <;> omega)); simp [go_sem, *])))
        refine And.intro ?_ ?_
        · exact opOK_atC 0 (by rfl) (oneC_store (g := fun W => ((((((W.setCell ⟨w.heap.size + 1, 0, none⟩ (.bool true)).setCell ⟨w.heap.size + 1, 1, none⟩ (.string (S hh))).setCell ⟨w.heap.size + 1, 2, none⟩ (.int .i64 nn)).setCell ⟨w.heap.size + 1, 3, none⟩ (.string (S []))).setCell ⟨w.heap.size + 1, 4, none⟩ (.bool false)).setCell ⟨w.heap.size + 1, 5, none⟩ (.string (S [])))) rfl (fun x hx => ⟨by have cc0 := fun o => (show Below _ _ x from hx).cell (p := ⟨w.heap.size, o, none⟩) (by first | omega | (simp <;> omega)); have ff0 := fun o => (show Below _ _ x from hx).frozen (p := ⟨w.heap.size, o, none⟩) (by first | omega | (simp <;> omega)); have cc1 := fun o => (show Below _ _ x from hx).cell (p := ⟨w.heap.size + 1, o, none⟩) (by first | omega | (simp <;> omega)); have ff1 := fun o => (show Below _ _ x from hx).frozen (p := ⟨w.heap.size + 1, o, none⟩) (by first | omega | (simp <;> omega)); simp [go_sem, *], by simp only [Cls, List.take_succ_cons, List.take_zero, List.foldl_cons, List.foldl_nil] at hx ⊢; repeat (first | (with_reducible exact hx) | (with_reducible refine below_both ?_ _ _))⟩))
        refine And.intro ?_ ?_
        · exact opOK_atC 1 (by rfl) (oneC_assign rfl rfl (fun x hx => ⟨by have cc0 := fun o => (show Below _ _ x from hx).cell (p := ⟨w.heap.size, o, none⟩) (by first | omega | (simp <;> omega)); have ff0 := fun o => (show Below _ _ x from hx).frozen (p := ⟨w.heap.size, o, none⟩) (by first | omega | (simp <;> omega)); have cc1 := fun o => (show Below _ _ x from hx).cell (p := ⟨w.heap.size + 1, o, none⟩) (by first | omega | (simp <;> omega)); have ff1 := fun o => (show Below _ _ x from hx).frozen (p := ⟨w.heap.size + 1, o, none⟩) (by first | omega | (simp <;> omega)); simp [go_sem, *], by simp only [Cls, List.take_succ_cons, List.take_zero, List.foldl_cons, List.foldl_nil] at hx ⊢; (with_reducible exact hx)⟩))
        exact trivial
      simp only [puts, List.foldl_cons, List.foldl_nil, Act.put, List.setIfInBounds_toArray, List.set_cons_succ, List.set_cons_zero]
      intro w3 hb_w3
      have hz_w3 := hb_w3.size
      try simp at hz_w3
      have c_w3_w_0 := fun o => hb_w3.cell (p := ⟨w.heap.size, o, none⟩) (by first | omega | (simp <;> omega))
      have f_w3_w_0 := fun o => hb_w3.frozen (p := ⟨w.heap.size, o, none⟩) (by first | omega | (simp <;> omega))
      have c_w3_w_0_0 := c_w3_w_0 0
      conv at c_w3_w_0_0 => rhs; simp [go_sem, *]
      have f_w3_w_0_0 := f_w3_w_0 0
      conv at f_w3_w_0_0 => rhs; simp [go_sem, *]
      have c_w3_w_0_1 := c_w3_w_0 1
      conv at c_w3_w_0_1 => rhs; simp [go_sem, *]
      have f_w3_w_0_1 := f_w3_w_0 1
      conv at f_w3_w_0_1 => rhs; simp [go_sem, *]
      have c_w3_w_0_2 := c_w3_w_0 2
      conv at c_w3_w_0_2 => rhs; simp [go_sem, *]
      have f_w3_w_0_2 := f_w3_w_0 2
      conv at f_w3_w_0_2 => rhs; simp [go_sem, *]
      have c_w3_w_0_3 := c_w3_w_0 3
      conv at c_w3_w_0_3 => rhs; simp [go_sem, *]
      have f_w3_w_0_3 := f_w3_w_0 3
      conv at f_w3_w_0_3 => rhs; simp [go_sem, *]
      have c_w3_w_0_4 := c_w3_w_0 4
      conv at c_w3_w_0_4 => rhs; simp [go_sem, *]
      have f_w3_w_0_4 := f_w3_w_0 4
      conv at f_w3_w_0_4 => rhs; simp [go_sem, *]
      have c_w3_w_0_5 := c_w3_w_0 5
      conv at c_w3_w_0_5 => rhs; simp [go_sem, *]
      have f_w3_w_0_5 := f_w3_w_0 5
      conv at f_w3_w_0_5 => rhs; simp [go_sem, *]
      have c_w3_w_1 := fun o => hb_w3.cell (p := ⟨w.heap.size + 1, o, none⟩) (by first | omega | (simp <;> omega))
      have f_w3_w_1 := fun o => hb_w3.frozen (p := ⟨w.heap.size + 1, o, none⟩) (by first | omega | (simp <;> omega))
      have c_w3_w_1_0 := c_w3_w_1 0
      conv at c_w3_w_1_0 => rhs; simp [go_sem, *]
      have f_w3_w_1_0 := f_w3_w_1 0
      conv at f_w3_w_1_0 => rhs; simp [go_sem, *]
      have c_w3_w_1_1 := c_w3_w_1 1
      conv at c_w3_w_1_1 => rhs; simp [go_sem, *]
      have f_w3_w_1_1 := f_w3_w_1 1
      conv at f_w3_w_1_1 => rhs; simp [go_sem, *]
      have c_w3_w_1_2 := c_w3_w_1 2
      conv at c_w3_w_1_2 => rhs; simp [go_sem, *]
      have f_w3_w_1_2 := f_w3_w_1 2
      conv at f_w3_w_1_2 => rhs; simp [go_sem, *]
      have c_w3_w_1_3 := c_w3_w_1 3
      conv at c_w3_w_1_3 => rhs; simp [go_sem, *]
      have f_w3_w_1_3 := f_w3_w_1 3
      conv at f_w3_w_1_3 => rhs; simp [go_sem, *]
      have c_w3_w_1_4 := c_w3_w_1 4
      conv at c_w3_w_1_4 => rhs; simp [go_sem, *]
      have f_w3_w_1_4 := f_w3_w_1 4
      conv at f_w3_w_1_4 => rhs; simp [go_sem, *]
      have c_w3_w_1_5 := c_w3_w_1 5
      conv at c_w3_w_1_5 => rhs; simp [go_sem, *]
      have f_w3_w_1_5 := f_w3_w_1 5
      conv at f_w3_w_1_5 => rhs; simp [go_sem, *]
      have HH_w3 := Lib.hid hb_w3
      have hB_w3 : Below w.heap.size w w3 := Below.trans (by (repeat (first | (with_reducible exact Below.refl _ _) | (with_reducible assumption) | (with_reducible refine Below.drew ?_) | (focus ((with_reducible refine Below.setCell ?_ ?_ _); rotate_left; (first | omega | (simp <;> omega)))) | (focus ((with_reducible refine Below.alloc ?_ ?_ _); rotate_left; (first | omega | (simp <;> omega)))) | exact Below.refl _ _ | assumption | refine Below.drew ?_ | refine Below.alloc ?_ (by first | omega | (simp <;> omega)) _ | refine Below.setCell ?_ (by first | omega | (simp <;> omega)) _))) (hb_w3.mono (by first | omega | (simp <;> omega)))
      clear hb_w3 c_w3_w_0 f_w3_w_0 c_w3_w_1 f_w3_w_1
      try clear c_w2_w_0_0
      try clear f_w2_w_0_0
      try clear c_w2_w_0_1
      try clear f_w2_w_0_1
      try clear c_w2_w_0_2
      try clear f_w2_w_0_2
      try clear c_w2_w_0_3
      try clear f_w2_w_0_3
      try clear c_w2_w_0_4
      try clear f_w2_w_0_4
      try clear c_w2_w_0_5
      try clear f_w2_w_0_5
      try clear c_w2_w_1_0
      try clear f_w2_w_1_0
      try clear c_w2_w_1_1
      try clear f_w2_w_1_1
      try clear c_w2_w_1_2
      try clear f_w2_w_1_2
      try clear c_w2_w_1_3
      try clear f_w2_w_1_3
      try clear c_w2_w_1_4
      try clear f_w2_w_1_4
      try clear c_w2_w_1_5
      try clear f_w2_w_1_5
      try clear far_w2_w_0
      try clear far_w2_w_1
      try clear hB_w2
      have far_w3_w_0 := far (show w.heap.size < w3.heap.size by omega)
      have far_w3_w_1 := far (show w.heap.size + 1 < w3.heap.size by omega)
      go_wp2_with fail
      refine Calls.mono (CQ.out _) ?_
      rintro e w7 ⟨rfl, hb_w7⟩
      have hz_w7 := hb_w7.size
      try simp at hz_w7
      obtain ⟨c_w7_w_0, f_w7_w_0⟩ := bk hb_w7 (w.heap.size) (by first | omega | (simp <;> omega))
      have c_w7_w_0_0 := c_w7_w_0 0
      conv at c_w7_w_0_0 => rhs; simp [go_sem, *]
      have f_w7_w_0_0 := f_w7_w_0 0
      conv at f_w7_w_0_0 => rhs; simp [go_sem, *]
      have c_w7_w_0_1 := c_w7_w_0 1
      conv at c_w7_w_0_1 => rhs; simp [go_sem, *]
      have f_w7_w_0_1 := f_w7_w_0 1
      conv at f_w7_w_0_1 => rhs; simp [go_sem, *]
      have c_w7_w_0_2 := c_w7_w_0 2
      conv at c_w7_w_0_2 => rhs; simp [go_sem, *]
      have f_w7_w_0_2 := f_w7_w_0 2
      conv at f_w7_w_0_2 => rhs; simp [go_sem, *]
      have c_w7_w_0_3 := c_w7_w_0 3
      conv at c_w7_w_0_3 => rhs; simp [go_sem, *]
      have f_w7_w_0_3 := f_w7_w_0 3
      conv at f_w7_w_0_3 => rhs; simp [go_sem, *]
      have c_w7_w_0_4 := c_w7_w_0 4
      conv at c_w7_w_0_4 => rhs; simp [go_sem, *]
      have f_w7_w_0_4 := f_w7_w_0 4
      conv at f_w7_w_0_4 => rhs; simp [go_sem, *]
      have c_w7_w_0_5 := c_w7_w_0 5
      conv at c_w7_w_0_5 => rhs; simp [go_sem, *]
      have f_w7_w_0_5 := f_w7_w_0 5
      conv at f_w7_w_0_5 => rhs; simp [go_sem, *]
      obtain ⟨c_w7_w_1, f_w7_w_1⟩ := bk hb_w7 (w.heap.size + 1) (by first | omega | (simp <;> omega))
      have c_w7_w_1_0 := c_w7_w_1 0
      conv at c_w7_w_1_0 => rhs; simp [go_sem, *]
      have f_w7_w_1_0 := f_w7_w_1 0
      conv at f_w7_w_1_0 => rhs; simp [go_sem, *]
      have c_w7_w_1_1 := c_w7_w_1 1
      conv at c_w7_w_1_1 => rhs; simp [go_sem, *]
      have f_w7_w_1_1 := f_w7_w_1 1
      conv at f_w7_w_1_1 => rhs; simp [go_sem, *]
      have c_w7_w_1_2 := c_w7_w_1 2
      conv at c_w7_w_1_2 => rhs; simp [go_sem, *]
      have f_w7_w_1_2 := f_w7_w_1 2
      conv at f_w7_w_1_2 => rhs; simp [go_sem, *]
      have c_w7_w_1_3 := c_w7_w_1 3
      conv at c_w7_w_1_3 => rhs; simp [go_sem, *]
      have f_w7_w_1_3 := f_w7_w_1 3
      conv at f_w7_w_1_3 => rhs; simp [go_sem, *]
      have c_w7_w_1_4 := c_w7_w_1 4
      conv at c_w7_w_1_4 => rhs; simp [go_sem, *]
      have f_w7_w_1_4 := f_w7_w_1 4
      conv at f_w7_w_1_4 => rhs; simp [go_sem, *]
      have c_w7_w_1_5 := c_w7_w_1 5
      conv at c_w7_w_1_5 => rhs; simp [go_sem, *]
      have f_w7_w_1_5 := f_w7_w_1 5
      conv at f_w7_w_1_5 => rhs; simp [go_sem, *]
      have HH_w7 := Lib.hid hb_w7
      have hB_w7 : Below w.heap.size w w7 := Below.trans (by (repeat (first | (with_reducible exact Below.refl _ _) | (with_reducible assumption) | (with_reducible refine Below.drew ?_) | (focus ((with_reducible refine Below.setCell ?_ ?_ _); rotate_left; (first | omega | (simp <;> omega)))) | (focus ((with_reducible refine Below.alloc ?_ ?_ _); rotate_left; (first | omega | (simp <;> omega)))) | exact Below.refl _ _ | assumption | refine Below.drew ?_ | refine Below.alloc ?_ (by first | omega | (simp <;> omega)) _ | refine Below.setCell ?_ (by first | omega | (simp <;> omega)) _))) (hb_w7.mono (by first | omega | (simp <;> omega)))
      clear hb_w7 c_w7_w_0 f_w7_w_0 c_w7_w_1 f_w7_w_1
      try clear c_w3_w_0_0
      try clear f_w3_w_0_0
      try clear c_w3_w_0_1
      try clear f_w3_w_0_1
      try clear c_w3_w_0_2
      try clear f_w3_w_0_2
      try clear c_w3_w_0_3
      try clear f_w3_w_0_3
      try clear c_w3_w_0_4
      try clear f_w3_w_0_4
      try clear c_w3_w_0_5
      try clear f_w3_w_0_5
      try clear c_w3_w_1_0
      try clear f_w3_w_1_0
      try clear c_w3_w_1_1
      try clear f_w3_w_1_1
      try clear c_w3_w_1_2
      try clear f_w3_w_1_2
      try clear c_w3_w_1_3
      try clear f_w3_w_1_3
      try clear c_w3_w_1_4
      try clear f_w3_w_1_4
      try clear c_w3_w_1_5
      try clear f_w3_w_1_5
      try clear far_w3_w_0
      try clear far_w3_w_1
      try clear hB_w3
      have far_w7_w_0 := far (show w.heap.size < w7.heap.size by omega)
      have far_w7_w_1 := far (show w.heap.size + 1 < w7.heap.size by omega)
      cases pb with
      | false =>
        go_wp2
        refine bodyPost_ret (v := .tuple #[uv false [] 0 [] false [], .int .i64 20]) (by simp [results, Tryd.results30, go_sem, *]) rfl ⟨by rw [HN.out (by simp)]; rfl, ?_⟩
        (repeat (first | (with_reducible exact Below.refl _ _) | (with_reducible assumption) | (with_reducible refine Below.drew ?_) | (focus ((with_reducible refine Below.setCell ?_ ?_ _); rotate_left; (first | omega | (simp <;> omega)))) | (focus ((with_reducible refine Below.alloc ?_ ?_ _); rotate_left; (first | omega | (simp <;> omega)))) | exact Below.refl _ _ | assumption | refine Below.drew ?_ | refine Below.alloc ?_ (by first | omega | (simp <;> omega)) _ | refine Below.setCell ?_ (by first | omega | (simp <;> omega)) _))
      | true =>
        go_wp2_with fail
        refine Calls.mono (CR.out _ (by (repeat (first | (with_reducible exact Below.refl _ _) | (with_reducible assumption) | (with_reducible refine Below.drew ?_) | (focus ((with_reducible refine Below.setCell ?_ ?_ _); rotate_left; (first | omega | (simp <;> omega)))) | (focus ((with_reducible refine Below.alloc ?_ ?_ _); rotate_left; (first | omega | (simp <;> omega)))) | exact Below.refl _ _ | assumption | refine Below.drew ?_ | refine Below.alloc ?_ (by first | omega | (simp <;> omega)) _ | refine Below.setCell ?_ (by first | omega | (simp <;> omega)) _)))) ?_
        rintro e w8 ⟨rfl, hb_w8⟩
        have hz_w8 := hb_w8.size
        try simp at hz_w8
        obtain ⟨c_w8_w_0, f_w8_w_0⟩ := bk hb_w8 (w.heap.size) (by first | omega | (simp <;> omega))
        have c_w8_w_0_0 := c_w8_w_0 0
        conv at c_w8_w_0_0 => rhs; simp [go_sem, *]
        have f_w8_w_0_0 := f_w8_w_0 0
        conv at f_w8_w_0_0 => rhs; simp [go_sem, *]
        have c_w8_w_0_1 := c_w8_w_0 1
        conv at c_w8_w_0_1 => rhs; simp [go_sem, *]
        have f_w8_w_0_1 := f_w8_w_0 1
        conv at f_w8_w_0_1 => rhs; simp [go_sem, *]
        have c_w8_w_0_2 := c_w8_w_0 2
        conv at c_w8_w_0_2 => rhs; simp [go_sem, *]
        have f_w8_w_0_2 := f_w8_w_0 2
        conv at f_w8_w_0_2 => rhs; simp [go_sem, *]
        have c_w8_w_0_3 := c_w8_w_0 3
        conv at c_w8_w_0_3 => rhs; simp [go_sem, *]
        have f_w8_w_0_3 := f_w8_w_0 3
        conv at f_w8_w_0_3 => rhs; simp [go_sem, *]
        have c_w8_w_0_4 := c_w8_w_0 4
        conv at c_w8_w_0_4 => rhs; simp [go_sem, *]
        have f_w8_w_0_4 := f_w8_w_0 4
        conv at f_w8_w_0_4 => rhs; simp [go_sem, *]
        have c_w8_w_0_5 := c_w8_w_0 5
        conv at c_w8_w_0_5 => rhs; simp [go_sem, *]
        have f_w8_w_0_5 := f_w8_w_0 5
        conv at f_w8_w_0_5 => rhs; simp [go_sem, *]
        obtain ⟨c_w8_w_1, f_w8_w_1⟩ := bk hb_w8 (w.heap.size + 1) (by first | omega | (simp <;> omega))
        have c_w8_w_1_0 := c_w8_w_1 0
        conv at c_w8_w_1_0 => rhs; simp [go_sem, *]
        have f_w8_w_1_0 := f_w8_w_1 0
        conv at f_w8_w_1_0 => rhs; simp [go_sem, *]
        have c_w8_w_1_1 := c_w8_w_1 1
        conv at c_w8_w_1_1 => rhs; simp [go_sem, *]
        have f_w8_w_1_1 := f_w8_w_1 1
        conv at f_w8_w_1_1 => rhs; simp [go_sem, *]
        have c_w8_w_1_2 := c_w8_w_1 2
        conv at c_w8_w_1_2 => rhs; simp [go_sem, *]
        have f_w8_w_1_2 := f_w8_w_1 2
        conv at f_w8_w_1_2 => rhs; simp [go_sem, *]
        have c_w8_w_1_3 := c_w8_w_1 3
        conv at c_w8_w_1_3 => rhs; simp [go_sem, *]
        have f_w8_w_1_3 := f_w8_w_1 3
        conv at f_w8_w_1_3 => rhs; simp [go_sem, *]
        have c_w8_w_1_4 := c_w8_w_1 4
        conv at c_w8_w_1_4 => rhs; simp [go_sem, *]
        have f_w8_w_1_4 := f_w8_w_1 4
        conv at f_w8_w_1_4 => rhs; simp [go_sem, *]
        have c_w8_w_1_5 := c_w8_w_1 5
        conv at c_w8_w_1_5 => rhs; simp [go_sem, *]
        have f_w8_w_1_5 := f_w8_w_1 5
        conv at f_w8_w_1_5 => rhs; simp [go_sem, *]
        have HH_w8 := Lib.hid hb_w8
        have hB_w8 : Below w.heap.size w w8 := Below.trans (by (repeat (first | (with_reducible exact Below.refl _ _) | (with_reducible assumption) | (with_reducible refine Below.drew ?_) | (focus ((with_reducible refine Below.setCell ?_ ?_ _); rotate_left; (first | omega | (simp <;> omega)))) | (focus ((with_reducible refine Below.alloc ?_ ?_ _); rotate_left; (first | omega | (simp <;> omega)))) | exact Below.refl _ _ | assumption | refine Below.drew ?_ | refine Below.alloc ?_ (by first | omega | (simp <;> omega)) _ | refine Below.setCell ?_ (by first | omega | (simp <;> omega)) _))) (hb_w8.mono (by first | omega | (simp <;> omega)))
        clear hb_w8 c_w8_w_0 f_w8_w_0 c_w8_w_1 f_w8_w_1
        try clear c_w7_w_0_0
        try clear f_w7_w_0_0
        try clear c_w7_w_0_1
        try clear f_w7_w_0_1
        try clear c_w7_w_0_2
        try clear f_w7_w_0_2
        try clear c_w7_w_0_3
        try clear f_w7_w_0_3
        try clear c_w7_w_0_4
        try clear f_w7_w_0_4
        try clear c_w7_w_0_5
        try clear f_w7_w_0_5
        try clear c_w7_w_1_0
        try clear f_w7_w_1_0
        try clear c_w7_w_1_1
        try clear f_w7_w_1_1
        try clear c_w7_w_1_2
        try clear f_w7_w_1_2
        try clear c_w7_w_1_3
        try clear f_w7_w_1_3
        try clear c_w7_w_1_4
        try clear f_w7_w_1_4
        try clear c_w7_w_1_5
        try clear f_w7_w_1_5
        try clear far_w7_w_0
        try clear far_w7_w_1
        try clear hB_w7
        have far_w8_w_0 := far (show w.heap.size < w8.heap.size by omega)
        have far_w8_w_1 := far (show w.heap.size + 1 < w8.heap.size by omega)
        cases ok with
        | false =>
          go_wp2
          refine bodyPost_ret (v := .tuple #[uv false [] 0 [] false [], .int .i64 20]) (by simp [results, Tryd.results30, go_sem, *]) rfl ⟨by rw [HN.out (by simp)]; rfl, ?_⟩
          (repeat (first | (with_reducible exact Below.refl _ _) | (with_reducible assumption) | (with_reducible refine Below.drew ?_) | (focus ((with_reducible refine Below.setCell ?_ ?_ _); rotate_left; (first | omega | (simp <;> omega)))) | (focus ((with_reducible refine Below.alloc ?_ ?_ _); rotate_left; (first | omega | (simp <;> omega)))) | exact Below.refl _ _ | assumption | refine Below.drew ?_ | refine Below.alloc ?_ (by first | omega | (simp <;> omega)) _ | refine Below.setCell ?_ (by first | omega | (simp <;> omega)) _))
        | true =>
          go_wp2
          refine bodyPost_ret (v := .tuple #[uv true hh nn f tt g, .int .i64 0]) (by simp [results, Tryd.results30, go_sem, *]) rfl ⟨by rw [HY.out (by simp) (by simp)], ?_⟩
          (repeat (first | (with_reducible exact Below.refl _ _) | (with_reducible assumption) | (with_reducible refine Below.drew ?_) | (focus ((with_reducible refine Below.setCell ?_ ?_ _); rotate_left; (first | omega | (simp <;> omega)))) | (focus ((with_reducible refine Below.alloc ?_ ?_ _); rotate_left; (first | omega | (simp <;> omega)))) | exact Below.refl _ _ | assumption | refine Below.drew ?_ | refine Below.alloc ?_ (by first | omega | (simp <;> omega)) _ | refine Below.setCell ?_ (by first | omega | (simp <;> omega)) _))
    · have hb63 : (bAt d 0 == 63) = false := by simpa using h63
      obtain rfl : r = d := by rw [HT, if_neg]; intro h; rcases h with h | h; (rw [h] at hdp; simp at hdp); exact h63 h
      clear HT
      go_enter Tryd.func30, Tryd.ntmps30
      go_wp2_with fail
      refine Calls.mono (CS.out _) ?_
      rintro e w1 ⟨rfl, hb_w1⟩
      have hz_w1 := hb_w1.size
      try simp at hz_w1
      obtain ⟨c_w1_w_0, f_w1_w_0⟩ := bk hb_w1 (w.heap.size) (by first | omega | (simp <;> omega))
      have c_w1_w_0_0 := c_w1_w_0 0
      conv at c_w1_w_0_0 => rhs; simp [go_sem, *]
      have f_w1_w_0_0 := f_w1_w_0 0
      conv at f_w1_w_0_0 => rhs; simp [go_sem, *]
      have c_w1_w_0_1 := c_w1_w_0 1
      conv at c_w1_w_0_1 => rhs; simp [go_sem, *]
      have f_w1_w_0_1 := f_w1_w_0 1
      conv at f_w1_w_0_1 => rhs; simp [go_sem, *]
      have c_w1_w_0_2 := c_w1_w_0 2
      conv at c_w1_w_0_2 => rhs; simp [go_sem, *]
      have f_w1_w_0_2 := f_w1_w_0 2
      conv at f_w1_w_0_2 => rhs; simp [go_sem, *]
      have c_w1_w_0_3 := c_w1_w_0 3
      conv at c_w1_w_0_3 => rhs; simp [go_sem, *]
      have f_w1_w_0_3 := f_w1_w_0 3
      conv at f_w1_w_0_3 => rhs; simp [go_sem, *]
      have c_w1_w_0_4 := c_w1_w_0 4
      conv at c_w1_w_0_4 => rhs; simp [go_sem, *]
      have f_w1_w_0_4 := f_w1_w_0 4
      conv at f_w1_w_0_4 => rhs; simp [go_sem, *]
      have c_w1_w_0_5 := c_w1_w_0 5
      conv at c_w1_w_0_5 => rhs; simp [go_sem, *]
      have f_w1_w_0_5 := f_w1_w_0 5
      conv at f_w1_w_0_5 => rhs; simp [go_sem, *]
      obtain ⟨c_w1_w_1, f_w1_w_1⟩ := bk hb_w1 (w.heap.size + 1) (by first | omega | (simp <;> omega))
      have c_w1_w_1_0 := c_w1_w_1 0
      conv at c_w1_w_1_0 => rhs; simp [go_sem, *]
      have f_w1_w_1_0 := f_w1_w_1 0
      conv at f_w1_w_1_0 => rhs; simp [go_sem, *]
      have c_w1_w_1_1 := c_w1_w_1 1
      conv at c_w1_w_1_1 => rhs; simp [go_sem, *]
      have f_w1_w_1_1 := f_w1_w_1 1
      conv at f_w1_w_1_1 => rhs; simp [go_sem, *]
      have c_w1_w_1_2 := c_w1_w_1 2
      conv at c_w1_w_1_2 => rhs; simp [go_sem, *]
      have f_w1_w_1_2 := f_w1_w_1 2
      conv at f_w1_w_1_2 => rhs; simp [go_sem, *]
      have c_w1_w_1_3 := c_w1_w_1 3
      conv at c_w1_w_1_3 => rhs; simp [go_sem, *]
      have f_w1_w_1_3 := f_w1_w_1 3
      conv at f_w1_w_1_3 => rhs; simp [go_sem, *]
      have c_w1_w_1_4 := c_w1_w_1 4
      conv at c_w1_w_1_4 => rhs; simp [go_sem, *]
      have f_w1_w_1_4 := f_w1_w_1 4
      conv at f_w1_w_1_4 => rhs; simp [go_sem, *]
      have c_w1_w_1_5 := c_w1_w_1 5
      conv at c_w1_w_1_5 => rhs; simp [go_sem, *]
      have f_w1_w_1_5 := f_w1_w_1 5
      conv at f_w1_w_1_5 => rhs; simp [go_sem, *]
      have HH_w1 := Lib.hid hb_w1
      have hB_w1 : Below w.heap.size w w1 := Below.trans (by (repeat (first | (with_reducible exact Below.refl _ _) | (with_reducible assumption) | (with_reducible refine Below.drew ?_) | (focus ((with_reducible refine Below.setCell ?_ ?_ _); rotate_left; (first | omega | (simp <;> omega)))) | (focus ((with_reducible refine Below.alloc ?_ ?_ _); rotate_left; (first | omega | (simp <;> omega)))) | exact Below.refl _ _ | assumption | refine Below.drew ?_ | refine Below.alloc ?_ (by first | omega | (simp <;> omega)) _ | refine Below.setCell ?_ (by first | omega | (simp <;> omega)) _))) (hb_w1.mono (by first | omega | (simp <;> omega)))
      clear hb_w1 c_w1_w_0 f_w1_w_0 c_w1_w_1 f_w1_w_1
      try clear c_w8_w_0_0
      try clear f_w8_w_0_0
      try clear c_w8_w_0_1
      try clear f_w8_w_0_1
      try clear c_w8_w_0_2
      try clear f_w8_w_0_2
      try clear c_w8_w_0_3
      try clear f_w8_w_0_3
      try clear c_w8_w_0_4
      try clear f_w8_w_0_4
      try clear c_w8_w_0_5
      try clear f_w8_w_0_5
      try clear c_w8_w_1_0
      try clear f_w8_w_1_0
      try clear c_w8_w_1_1
      try clear f_w8_w_1_1
      try clear c_w8_w_1_2
      try clear f_w8_w_1_2
      try clear c_w8_w_1_3
      try clear f_w8_w_1_3
      try clear c_w8_w_1_4
      try clear f_w8_w_1_4
      try clear c_w8_w_1_5
      try clear f_w8_w_1_5
      try clear far_w8_w_0
      try clear far_w8_w_1
      try clear hB_w8
      have far_w1_w_0 := far (show w.heap.size < w1.heap.size by omega)
      have far_w1_w_1 := far (show w.heap.size + 1 < w1.heap.size by omega)
      go_wp2_with fail
      refine Calls.mono (CI.out _) ?_
      rintro e w2 ⟨rfl, hb_w2⟩
      have hz_w2 := hb_w2.size
      try simp at hz_w2
      obtain ⟨c_w2_w_0, f_w2_w_0⟩ := bk hb_w2 (w.heap.size) (by first | omega | (simp <;> omega))
      have c_w2_w_0_0 := c_w2_w_0 0
      conv at c_w2_w_0_0 => rhs; simp [go_sem, *]
      have f_w2_w_0_0 := f_w2_w_0 0
      conv at f_w2_w_0_0 => rhs; simp [go_sem, *]
      have c_w2_w_0_1 := c_w2_w_0 1
      conv at c_w2_w_0_1 => rhs; simp [go_sem, *]
      have f_w2_w_0_1 := f_w2_w_0 1
      conv at f_w2_w_0_1 => rhs; simp [go_sem, *]
      have c_w2_w_0_2 := c_w2_w_0 2
      conv at c_w2_w_0_2 => rhs; simp [go_sem, *]
      have f_w2_w_0_2 := f_w2_w_0 2
      conv at f_w2_w_0_2 => rhs; simp [go_sem, *]
      have c_w2_w_0_3 := c_w2_w_0 3
      conv at c_w2_w_0_3 => rhs; simp [go_sem, *]
      have f_w2_w_0_3 := f_w2_w_0 3
      conv at f_w2_w_0_3 => rhs; simp [go_sem, *]
      have c_w2_w_0_4 := c_w2_w_0 4
      conv at c_w2_w_0_4 => rhs; simp [go_sem, *]
      have f_w2_w_0_4 := f_w2_w_0 4
      conv at f_w2_w_0_4 => rhs; simp [go_sem, *]
      have c_w2_w_0_5 := c_w2_w_0 5
      conv at c_w2_w_0_5 => rhs; simp [go_sem, *]
      have f_w2_w_0_5 := f_w2_w_0 5
      conv at f_w2_w_0_5 => rhs; simp [go_sem, *]
      obtain ⟨c_w2_w_1, f_w2_w_1⟩ := bk hb_w2 (w.heap.size + 1) (by first | omega | (simp <;> omega))
      have c_w2_w_1_0 := c_w2_w_1 0
      conv at c_w2_w_1_0 => rhs; simp [go_sem, *]
      have f_w2_w_1_0 := f_w2_w_1 0
      conv at f_w2_w_1_0 => rhs; simp [go_sem, *]
      have c_w2_w_1_1 := c_w2_w_1 1
      conv at c_w2_w_1_1 => rhs; simp [go_sem, *]
      have f_w2_w_1_1 := f_w2_w_1 1
      conv at f_w2_w_1_1 => rhs; simp [go_sem, *]
      have c_w2_w_1_2 := c_w2_w_1 2
      conv at c_w2_w_1_2 => rhs; simp [go_sem, *]
      have f_w2_w_1_2 := f_w2_w_1 2
      conv at f_w2_w_1_2 => rhs; simp [go_sem, *]
      have c_w2_w_1_3 := c_w2_w_1 3
      conv at c_w2_w_1_3 => rhs; simp [go_sem, *]
      have f_w2_w_1_3 := f_w2_w_1 3
      conv at f_w2_w_1_3 => rhs; simp [go_sem, *]
      have c_w2_w_1_4 := c_w2_w_1 4
      conv at c_w2_w_1_4 => rhs; simp [go_sem, *]
      have f_w2_w_1_4 := f_w2_w_1 4
      conv at f_w2_w_1_4 => rhs; simp [go_sem, *]
      have c_w2_w_1_5 := c_w2_w_1 5
      conv at c_w2_w_1_5 => rhs; simp [go_sem, *]
      have f_w2_w_1_5 := f_w2_w_1 5
      conv at f_w2_w_1_5 => rhs; simp [go_sem, *]
      have HH_w2 := Lib.hid hb_w2
      have hB_w2 : Below w.heap.size w w2 := Below.trans (by (repeat (first | (with_reducible exact Below.refl _ _) | (with_reducible assumption) | (with_reducible refine Below.drew ?_) | (focus ((with_reducible refine Below.setCell ?_ ?_ _); rotate_left; (first | omega | (simp <;> omega)))) | (focus ((with_reducible refine Below.alloc ?_ ?_ _); rotate_left; (first | omega | (simp <;> omega)))) | exact Below.refl _ _ | assumption | refine Below.drew ?_ | refine Below.alloc ?_ (by first | omega | (simp <;> omega)) _ | refine Below.setCell ?_ (by first | omega | (simp <;> omega)) _))) (hb_w2.mono (by first | omega | (simp <;> omega)))
      clear hb_w2 c_w2_w_0 f_w2_w_0 c_w2_w_1 f_w2_w_1
      try clear c_w1_w_0_0
      try clear f_w1_w_0_0
      try clear c_w1_w_0_1
      try clear f_w1_w_0_1
      try clear c_w1_w_0_2
      try clear f_w1_w_0_2
      try clear c_w1_w_0_3
      try clear f_w1_w_0_3
      try clear c_w1_w_0_4
      try clear f_w1_w_0_4
      try clear c_w1_w_0_5
      try clear f_w1_w_0_5
      try clear c_w1_w_1_0
      try clear f_w1_w_1_0
      try clear c_w1_w_1_1
      try clear f_w1_w_1_1
      try clear c_w1_w_1_2
      try clear f_w1_w_1_2
      try clear c_w1_w_1_3
      try clear f_w1_w_1_3
      try clear c_w1_w_1_4
      try clear f_w1_w_1_4
      try clear c_w1_w_1_5
      try clear f_w1_w_1_5
      try clear far_w1_w_0
      try clear far_w1_w_1
      try clear hB_w1
      have far_w2_w_0 := far (show w.heap.size < w2.heap.size by omega)
      have far_w2_w_1 := far (show w.heap.size + 1 < w2.heap.size by omega)
      go_wp2_with fail
      refine wp_region_callsV (w.heap.size + 2) [fun W => ((((((W.setCell ⟨w.heap.size + 1, 0, none⟩ (.bool true)).setCell ⟨w.heap.size + 1, 1, none⟩ (.string (S hh))).setCell ⟨w.heap.size + 1, 2, none⟩ (.int .i64 nn)).setCell ⟨w.heap.size + 1, 3, none⟩ (.string (S []))).setCell ⟨w.heap.size + 1, 4, none⟩ (.bool false)).setCell ⟨w.heap.size + 1, 5, none⟩ (.string (S []))), fun W => W] [] (fun r => [8, 9].getD r 0) (fun i => [0, 0, 0, 0, 0, 0, 0, 1, 0, 1].getD i 2) [(32, .string (S t)), (33, .int .i64 e), (34, .string (S (t.take e))), (35, uv false [] 0 [] false []), (36, .tuple #[uv true hh nn [] false [], .bool pb]), (31, .tuple #[uv true hh nn [] false [], .bool pb]), (37, uv true hh nn [] false []), (38, .bool pb), (5, .bool pb)] [] (by kernel_rfl) (by kernel_rfl) rfl ?_ ?_ ?_ ?_ ?_
      · simp only [puts, List.foldl_cons, List.foldl_nil, Act.put, List.setIfInBounds_toArray, List.set_cons_succ, List.set_cons_zero]; repeat (first | exact trivial | refine ⟨by first | exact Or.inr rfl | exact Or.inl (by kernel_rfl), ?_⟩)
      · simp only [puts, List.foldl_cons, List.foldl_nil, Act.put, List.setIfInBounds_toArray, List.set_cons_succ, List.set_cons_zero]; repeat (first | exact trivial | refine ⟨by first | exact Or.inr rfl | exact Or.inl (by kernel_rfl), ?_⟩)
      · simp only [puts, List.foldl_cons, List.foldl_nil, Act.put, List.setIfInBounds_toArray, List.set_cons_succ, List.set_cons_zero]; repeat (first | exact trivial | refine ⟨by first | exact Or.inr rfl | exact Or.inl (by kernel_rfl), ?_⟩)
      · simp only [puts, List.foldl_cons, List.foldl_nil, Act.put, List.setIfInBounds_toArray, List.set_cons_succ, List.set_cons_zero]
        refine And.intro ?_ ?_
        · exact opOK_headC 0 (by rfl) (upto0 (by exact oneC_val rfl rfl (fun x hx => by have cc0 := fun o => (show Below _ _ x from hx).cell (p := ⟨w.heap.size, o, none⟩) (by first | omega | (simp <;> omega)); have ff0 := fun o => (show Below _ _ x from hx).frozen (p := ⟨w.heap.size, o, none⟩) (by first | omega | (simp <;> omega)); have cc1 := fun o => (show Below _ _ x from hx).cell (p := ⟨w.heap.size + 1, o, none⟩) (by first | omega | (simp <;> omega)); have ff1 := fun o => (show Below _ _ x from hx).frozen (p := ⟨w.heap.size + 1, o, none⟩) (by first | omega | (simp <;> omega)); simp [go_sem, *])))
        refine And.intro ?_ ?_
        · exact opOK_headC 0 (by rfl) (upto0 (by exact oneC_val rfl rfl (fun x hx => by have cc0 := fun o => (show Below _ _ x from hx).cell (p := ⟨w.heap.size, o, none⟩) (by first | omega | (simp <;> omega)); have ff0 := fun o => (show Below _ _ x from hx).frozen (p := ⟨w.heap.size, o, none⟩) (by first | omega | (simp <;> omega)); have cc1 := fun o => (show Below _ _ x from hx).cell (p := ⟨w.heap.size + 1, o, none⟩) (by first | omega | (simp <;> omega)); have ff1 := fun o => (show Below _ _ x from hx).frozen (p := ⟨w.heap.size + 1, o, none⟩) (by first | omega | (simp <;> omega)); simp [go_sem, *])))
        refine And.intro ?_ ?_
        · exact opOK_headC 0 (by rfl) (upto0 (by exact oneC_val rfl rfl (fun x hx => by have cc0 := fun o => (show Below _ _ x from hx).cell (p := ⟨w.heap.size, o, none⟩) (by first | omega | (simp <;> omega)); have ff0 := fun o => (show Below _ _ x from hx).frozen (p := ⟨w.heap.size, o, none⟩) (by first | omega | (simp <;> omega)); have cc1 := fun o => (show Below _ _ x from hx).cell (p := ⟨w.heap.size + 1, o, none⟩) (by first | omega | (simp <;> omega)); have ff1 := fun o => (show Below _ _ x from hx).frozen (p := ⟨w.heap.size + 1, o, none⟩) (by first | omega | (simp <;> omega)); simp [go_sem, *])))
        refine And.intro ?_ ?_
        · exact opOK_headC 0 (by rfl) (upto0 (by exact oneC_val rfl rfl (fun x hx => by have cc0 := fun o => (show Below _ _ x from hx).cell (p := ⟨w.heap.size, o, none⟩) (by first | omega | (simp <;> omega)); have ff0 := fun o => (show Below _ _ x from hx).frozen (p := ⟨w.heap.size, o, none⟩) (by first | omega | (simp <;> omega)); have cc1 := fun o => (show Below _ _ x from hx).cell (p := ⟨w.heap.size + 1, o, none⟩) (by first | omega | (simp <;> omega)); have ff1 := fun o => (show Below _ _ x from hx).frozen (p := ⟨w.heap.size + 1, o, none⟩) (by first | omega | (simp <;> omega)); simp [go_sem, *])))
        refine And.intro ?_ ?_
        · exact opOK_headC 0 (by rfl) (upto0 (by exact oneC_call rfl rfl (fun x hx => by have cc0 := fun o => (show Below _ _ x from hx).cell (p := ⟨w.heap.size, o, none⟩) (by first | omega | (simp <;> omega)); have ff0 := fun o => (show Below _ _ x from hx).frozen (p := ⟨w.heap.size, o, none⟩) (by first | omega | (simp <;> omega)); have cc1 := fun o => (show Below _ _ x from hx).cell (p := ⟨w.heap.size + 1, o, none⟩) (by first | omega | (simp <;> omega)); have ff1 := fun o => (show Below _ _ x from hx).frozen (p := ⟨w.heap.size + 1, o, none⟩) (by first | omega | (simp <;> omega)); simp [go_sem, *]) (fun x hx => call_cls hx (by have := (show Below _ _ x from hx).size; simp at this; omega) (CP.out _))))
        refine And.intro ?_ ?_
        · exact opOK_headC 0 (by rfl) (upto0 (by exact oneC_val rfl rfl (fun x hx => by have cc0 := fun o => (show Below _ _ x from hx).cell (p := ⟨w.heap.size, o, none⟩) (by first | omega | (simp <;> omega)); have ff0 := fun o => (show Below _ _ x from hx).frozen (p := ⟨w.heap.size, o, none⟩) (by first | omega | (simp <;> omega)); have cc1 := fun o => (show Below _ _ x from hx).cell (p := ⟨w.heap.size + 1, o, none⟩) (by first | omega | (simp <;> omega)); have ff1 := fun o => (show Below _ _ x from hx).frozen (p := ⟨w.heap.size + 1, o, none⟩) (by first | omega | (simp <;> omega)); simp [go_sem, *])))
        refine And.intro ?_ ?_
        · exact opOK_headC 0 (by rfl) (upto0 (by exact oneC_val rfl rfl (fun x hx => by have cc0 := fun o => (show Below _ _ x from hx).cell (p := ⟨w.heap.size, o, none⟩) (by first | omega | (simp <;> omega)); have ff0 := fun o => (show Below _ _ x from hx).frozen (p := ⟨w.heap.size, o, none⟩) (by first | omega | (simp <;> omega)); have cc1 := fun o => (show Below _ _ x from hx).cell (p := ⟨w.heap.size + 1, o, none⟩) (by first | omega | (simp <;> omega)); have ff1 := fun o => (show Below _ _ x from hx).frozen (p := ⟨w.heap.size + 1, o, none⟩) (by first | omega | (simp <;> omega)); simp [go_sem, *])))
        refine And.intro ?_ ?_
        · exact opOK_headC 1 (by rfl) (upto1 (by exact oneC_val rfl rfl (fun x hx => by have cc0 := fun o => (show Below _ _ x from hx).cell (p := ⟨w.heap.size, o, none⟩) (by first | omega | (simp <;> omega)); have ff0 := fun o => (show Below _ _ x from hx).frozen (p := ⟨w.heap.size, o, none⟩) (by first | omega | (simp <;> omega)); have cc1 := fun o => (show Below _ _ x from hx).cell (p := ⟨w.heap.size + 1, o, none⟩) (by first | omega | (simp <;> omega)); have ff1 := fun o => (show Below _ _ x from hx).frozen (p := ⟨w.heap.size + 1, o, none⟩) (by first | omega | (simp <;> omega)); simp [go_sem, *])) (by exact oneC_val rfl rfl (fun x hx => by have cc0 := fun o => (show Below _ _ x from hx).cell (p := ⟨w.heap.size, o, none⟩) (by first | omega | (simp <;> omega)); have ff0 := fun o => (show Below _ _ x from hx).frozen (p := ⟨w.heap.size, o, none⟩) (by first | omega | (simp <;> omega)); have cc1 := fun o => (show Below _ _ x from hx).cell (p := ⟨w.heap.size + 1, o, none⟩) (by first | omega | (simp <;> omega)); have ff1 := fun o => (show Below _ _ x from hx).frozen (p := ⟨w.heap.size + 1, o, none⟩) (by first | omega | (simp <;> omega)); simp [go_sem, *])))
        refine And.intro ?_ ?_
        · exact opOK_atC 0 (by rfl) (oneC_store (g := fun W => ((((((W.setCell ⟨w.heap.size + 1, 0, none⟩ (.bool true)).setCell ⟨w.heap.size + 1, 1, none⟩ (.string (S hh))).setCell ⟨w.heap.size + 1, 2, none⟩ (.int .i64 nn)).setCell ⟨w.heap.size + 1, 3, none⟩ (.string (S []))).setCell ⟨w.heap.size + 1, 4, none⟩ (.bool false)).setCell ⟨w.heap.size + 1, 5, none⟩ (.string (S [])))) rfl (fun x hx => ⟨by have cc0 := fun o => (show Below _ _ x from hx).cell (p := ⟨w.heap.size, o, none⟩) (by first | omega | (simp <;> omega)); have ff0 := fun o => (show Below _ _ x from hx).frozen (p := ⟨w.heap.size, o, none⟩) (by first | omega | (simp <;> omega)); have cc1 := fun o => (show Below _ _ x from hx).cell (p := ⟨w.heap.size + 1, o, none⟩) (by first | omega | (simp <;> omega)); have ff1 := fun o => (show Below _ _ x from hx).frozen (p := ⟨w.heap.size + 1, o, none⟩) (by first | omega | (simp <;> omega)); simp [go_sem, *], by simp only [Cls, List.take_succ_cons, List.take_zero, List.foldl_cons, List.foldl_nil] at hx ⊢; repeat (first | (with_reducible exact hx) | (with_reducible refine below_both ?_ _ _))⟩))
        refine And.intro ?_ ?_
        · exact opOK_atC 1 (by rfl) (oneC_assign rfl rfl (fun x hx => ⟨by have cc0 := fun o => (show Below _ _ x from hx).cell (p := ⟨w.heap.size, o, none⟩) (by first | omega | (simp <;> omega)); have ff0 := fun o => (show Below _ _ x from hx).frozen (p := ⟨w.heap.size, o, none⟩) (by first | omega | (simp <;> omega)); have cc1 := fun o => (show Below _ _ x from hx).cell (p := ⟨w.heap.size + 1, o, none⟩) (by first | omega | (simp <;> omega)); have ff1 := fun o => (show Below _ _ x from hx).frozen (p := ⟨w.heap.size + 1, o, none⟩) (by first | omega | (simp <;> omega)); simp [go_sem, *], by simp only [Cls, List.take_succ_cons, List.take_zero, List.foldl_cons, List.foldl_nil] at hx ⊢; (with_reducible exact hx)⟩))
        exact trivial
      simp only [puts, List.foldl_cons, List.foldl_nil, Act.put, List.setIfInBounds_toArray, List.set_cons_succ, List.set_cons_zero]
      intro w3 hb_w3
      have hz_w3 := hb_w3.size
      try simp at hz_w3
      have c_w3_w_0 := fun o => hb_w3.cell (p := ⟨w.heap.size, o, none⟩) (by first | omega | (simp <;> omega))
      have f_w3_w_0 := fun o => hb_w3.frozen (p := ⟨w.heap.size, o, none⟩) (by first | omega | (simp <;> omega))
      have c_w3_w_0_0 := c_w3_w_0 0
      conv at c_w3_w_0_0 => rhs; simp [go_sem, *]
      have f_w3_w_0_0 := f_w3_w_0 0
      conv at f_w3_w_0_0 => rhs; simp [go_sem, *]
      have c_w3_w_0_1 := c_w3_w_0 1
      conv at c_w3_w_0_1 => rhs; simp [go_sem, *]
      have f_w3_w_0_1 := f_w3_w_0 1
      conv at f_w3_w_0_1 => rhs; simp [go_sem, *]
      have c_w3_w_0_2 := c_w3_w_0 2
      conv at c_w3_w_0_2 => rhs; simp [go_sem, *]
      have f_w3_w_0_2 := f_w3_w_0 2
      conv at f_w3_w_0_2 => rhs; simp [go_sem, *]
      have c_w3_w_0_3 := c_w3_w_0 3
      conv at c_w3_w_0_3 => rhs; simp [go_sem, *]
      have f_w3_w_0_3 := f_w3_w_0 3
      conv at f_w3_w_0_3 => rhs; simp [go_sem, *]
      have c_w3_w_0_4 := c_w3_w_0 4
      conv at c_w3_w_0_4 => rhs; simp [go_sem, *]
      have f_w3_w_0_4 := f_w3_w_0 4
      conv at f_w3_w_0_4 => rhs; simp [go_sem, *]
      have c_w3_w_0_5 := c_w3_w_0 5
      conv at c_w3_w_0_5 => rhs; simp [go_sem, *]
      have f_w3_w_0_5 := f_w3_w_0 5
      conv at f_w3_w_0_5 => rhs; simp [go_sem, *]
      have c_w3_w_1 := fun o => hb_w3.cell (p := ⟨w.heap.size + 1, o, none⟩) (by first | omega | (simp <;> omega))
      have f_w3_w_1 := fun o => hb_w3.frozen (p := ⟨w.heap.size + 1, o, none⟩) (by first | omega | (simp <;> omega))
      have c_w3_w_1_0 := c_w3_w_1 0
      conv at c_w3_w_1_0 => rhs; simp [go_sem, *]
      have f_w3_w_1_0 := f_w3_w_1 0
      conv at f_w3_w_1_0 => rhs; simp [go_sem, *]
      have c_w3_w_1_1 := c_w3_w_1 1
      conv at c_w3_w_1_1 => rhs; simp [go_sem, *]
      have f_w3_w_1_1 := f_w3_w_1 1
      conv at f_w3_w_1_1 => rhs; simp [go_sem, *]
      have c_w3_w_1_2 := c_w3_w_1 2
      conv at c_w3_w_1_2 => rhs; simp [go_sem, *]
      have f_w3_w_1_2 := f_w3_w_1 2
      conv at f_w3_w_1_2 => rhs; simp [go_sem, *]
      have c_w3_w_1_3 := c_w3_w_1 3
      conv at c_w3_w_1_3 => rhs; simp [go_sem, *]
      have f_w3_w_1_3 := f_w3_w_1 3
      conv at f_w3_w_1_3 => rhs; simp [go_sem, *]
      have c_w3_w_1_4 := c_w3_w_1 4
      conv at c_w3_w_1_4 => rhs; simp [go_sem, *]
      have f_w3_w_1_4 := f_w3_w_1 4
      conv at f_w3_w_1_4 => rhs; simp [go_sem, *]
      have c_w3_w_1_5 := c_w3_w_1 5
      conv at c_w3_w_1_5 => rhs; simp [go_sem, *]
      have f_w3_w_1_5 := f_w3_w_1 5
      conv at f_w3_w_1_5 => rhs; simp [go_sem, *]
      have HH_w3 := Lib.hid hb_w3
      have hB_w3 : Below w.heap.size w w3 := Below.trans (by (repeat (first | (with_reducible exact Below.refl _ _) | (with_reducible assumption) | (with_reducible refine Below.drew ?_) | (focus ((with_reducible refine Below.setCell ?_ ?_ _); rotate_left; (first | omega | (simp <;> omega)))) | (focus ((with_reducible refine Below.alloc ?_ ?_ _); rotate_left; (first | omega | (simp <;> omega)))) | exact Below.refl _ _ | assumption | refine Below.drew ?_ | refine Below.alloc ?_ (by first | omega | (simp <;> omega)) _ | refine Below.setCell ?_ (by first | omega | (simp <;> omega)) _))) (hb_w3.mono (by first | omega | (simp <;> omega)))
      clear hb_w3 c_w3_w_0 f_w3_w_0 c_w3_w_1 f_w3_w_1
      try clear c_w2_w_0_0
      try clear f_w2_w_0_0
      try clear c_w2_w_0_1
      try clear f_w2_w_0_1
      try clear c_w2_w_0_2
      try clear f_w2_w_0_2
      try clear c_w2_w_0_3
      try clear f_w2_w_0_3
      try clear c_w2_w_0_4
      try clear f_w2_w_0_4
      try clear c_w2_w_0_5
      try clear f_w2_w_0_5
      try clear c_w2_w_1_0
      try clear f_w2_w_1_0
      try clear c_w2_w_1_1
      try clear f_w2_w_1_1
      try clear c_w2_w_1_2
      try clear f_w2_w_1_2
      try clear c_w2_w_1_3
      try clear f_w2_w_1_3
      try clear c_w2_w_1_4
      try clear f_w2_w_1_4
      try clear c_w2_w_1_5
      try clear f_w2_w_1_5
      try clear far_w2_w_0
      try clear far_w2_w_1
      try clear hB_w2
      have far_w3_w_0 := far (show w.heap.size < w3.heap.size by omega)
      have far_w3_w_1 := far (show w.heap.size + 1 < w3.heap.size by omega)
      go_wp2_with fail
      refine Calls.mono (CQ.out _) ?_
      rintro e w7 ⟨rfl, hb_w7⟩
      have hz_w7 := hb_w7.size
      try simp at hz_w7
      obtain ⟨c_w7_w_0, f_w7_w_0⟩ := bk hb_w7 (w.heap.size) (by first | omega | (simp <;> omega))
      have c_w7_w_0_0 := c_w7_w_0 0
      conv at c_w7_w_0_0 => rhs; simp [go_sem, *]
      have f_w7_w_0_0 := f_w7_w_0 0
      conv at f_w7_w_0_0 => rhs; simp [go_sem, *]
      have c_w7_w_0_1 := c_w7_w_0 1
      conv at c_w7_w_0_1 => rhs; simp [go_sem, *]
      have f_w7_w_0_1 := f_w7_w_0 1
      conv at f_w7_w_0_1 => rhs; simp [go_sem, *]
      have c_w7_w_0_2 := c_w7_w_0 2
      conv at c_w7_w_0_2 => rhs; simp [go_sem, *]
      have f_w7_w_0_2 := f_w7_w_0 2
      conv at f_w7_w_0_2 => rhs; simp [go_sem, *]
      have c_w7_w_0_3 := c_w7_w_0 3
      conv at c_w7_w_0_3 => rhs; simp [go_sem, *]
      have f_w7_w_0_3 := f_w7_w_0 3
      conv at f_w7_w_0_3 => rhs; simp [go_sem, *]
      have c_w7_w_0_4 := c_w7_w_0 4
      conv at c_w7_w_0_4 => rhs; simp [go_sem, *]
      have f_w7_w_0_4 := f_w7_w_0 4
      conv at f_w7_w_0_4 => rhs; simp [go_sem, *]
      have c_w7_w_0_5 := c_w7_w_0 5
      conv at c_w7_w_0_5 => rhs; simp [go_sem, *]
      have f_w7_w_0_5 := f_w7_w_0 5
      conv at f_w7_w_0_5 => rhs; simp [go_sem, *]
      obtain ⟨c_w7_w_1, f_w7_w_1⟩ := bk hb_w7 (w.heap.size + 1) (by first | omega | (simp <;> omega))
      have c_w7_w_1_0 := c_w7_w_1 0
      conv at c_w7_w_1_0 => rhs; simp [go_sem, *]
      have f_w7_w_1_0 := f_w7_w_1 0
      conv at f_w7_w_1_0 => rhs; simp [go_sem, *]
      have c_w7_w_1_1 := c_w7_w_1 1
      conv at c_w7_w_1_1 => rhs; simp [go_sem, *]
      have f_w7_w_1_1 := f_w7_w_1 1
      conv at f_w7_w_1_1 => rhs; simp [go_sem, *]
      have c_w7_w_1_2 := c_w7_w_1 2
      conv at c_w7_w_1_2 => rhs; simp [go_sem, *]
      have f_w7_w_1_2 := f_w7_w_1 2
      conv at f_w7_w_1_2 => rhs; simp [go_sem, *]
      have c_w7_w_1_3 := c_w7_w_1 3
      conv at c_w7_w_1_3 => rhs; simp [go_sem, *]
      have f_w7_w_1_3 := f_w7_w_1 3
      conv at f_w7_w_1_3 => rhs; simp [go_sem, *]
      have c_w7_w_1_4 := c_w7_w_1 4
      conv at c_w7_w_1_4 => rhs; simp [go_sem, *]
      have f_w7_w_1_4 := f_w7_w_1 4
      conv at f_w7_w_1_4 => rhs; simp [go_sem, *]
      have c_w7_w_1_5 := c_w7_w_1 5
      conv at c_w7_w_1_5 => rhs; simp [go_sem, *]
      have f_w7_w_1_5 := f_w7_w_1 5
      conv at f_w7_w_1_5 => rhs; simp [go_sem, *]
      have HH_w7 := Lib.hid hb_w7
      have hB_w7 : Below w.heap.size w w7 := Below.trans (by (repeat (first | (with_reducible exact Below.refl _ _) | (with_reducible assumption) | (with_reducible refine Below.drew ?_) | (focus ((with_reducible refine Below.setCell ?_ ?_ _); rotate_left; (first | omega | (simp <;> omega)))) | (focus ((with_reducible refine Below.alloc ?_ ?_ _); rotate_left; (first | omega | (simp <;> omega)))) | exact Below.refl _ _ | assumption | refine Below.drew ?_ | refine Below.alloc ?_ (by first | omega | (simp <;> omega)) _ | refine Below.setCell ?_ (by first | omega | (simp <;> omega)) _))) (hb_w7.mono (by first | omega | (simp <;> omega)))
      clear hb_w7 c_w7_w_0 f_w7_w_0 c_w7_w_1 f_w7_w_1
      try clear c_w3_w_0_0
      try clear f_w3_w_0_0
      try clear c_w3_w_0_1
      try clear f_w3_w_0_1
      try clear c_w3_w_0_2
      try clear f_w3_w_0_2
      try clear c_w3_w_0_3
      try clear f_w3_w_0_3
      try clear c_w3_w_0_4
      try clear f_w3_w_0_4
      try clear c_w3_w_0_5
      try clear f_w3_w_0_5
      try clear c_w3_w_1_0
      try clear f_w3_w_1_0
      try clear c_w3_w_1_1
      try clear f_w3_w_1_1
      try clear c_w3_w_1_2
      try clear f_w3_w_1_2
      try clear c_w3_w_1_3
      try clear f_w3_w_1_3
      try clear c_w3_w_1_4
      try clear f_w3_w_1_4
      try clear c_w3_w_1_5
      try clear f_w3_w_1_5
      try clear far_w3_w_0
      try clear far_w3_w_1
      try clear hB_w3
      have far_w7_w_0 := far (show w.heap.size < w7.heap.size by omega)
      have far_w7_w_1 := far (show w.heap.size + 1 < w7.heap.size by omega)
      cases pb with
      | false =>
        go_wp2
        refine bodyPost_ret (v := .tuple #[uv false [] 0 [] false [], .int .i64 20]) (by simp [results, Tryd.results30, go_sem, *]) rfl ⟨by rw [HN.out (by simp)]; rfl, ?_⟩
        (repeat (first | (with_reducible exact Below.refl _ _) | (with_reducible assumption) | (with_reducible refine Below.drew ?_) | (focus ((with_reducible refine Below.setCell ?_ ?_ _); rotate_left; (first | omega | (simp <;> omega)))) | (focus ((with_reducible refine Below.alloc ?_ ?_ _); rotate_left; (first | omega | (simp <;> omega)))) | exact Below.refl _ _ | assumption | refine Below.drew ?_ | refine Below.alloc ?_ (by first | omega | (simp <;> omega)) _ | refine Below.setCell ?_ (by first | omega | (simp <;> omega)) _))
      | true =>
        go_wp2_with fail
        refine Calls.mono (CR.out _ (by (repeat (first | (with_reducible exact Below.refl _ _) | (with_reducible assumption) | (with_reducible refine Below.drew ?_) | (focus ((with_reducible refine Below.setCell ?_ ?_ _); rotate_left; (first | omega | (simp <;> omega)))) | (focus ((with_reducible refine Below.alloc ?_ ?_ _); rotate_left; (first | omega | (simp <;> omega)))) | exact Below.refl _ _ | assumption | refine Below.drew ?_ | refine Below.alloc ?_ (by first | omega | (simp <;> omega)) _ | refine Below.setCell ?_ (by first | omega | (simp <;> omega)) _)))) ?_
        rintro e w8 ⟨rfl, hb_w8⟩
        have hz_w8 := hb_w8.size
        try simp at hz_w8
        obtain ⟨c_w8_w_0, f_w8_w_0⟩ := bk hb_w8 (w.heap.size) (by first | omega | (simp <;> omega))
        have c_w8_w_0_0 := c_w8_w_0 0
        conv at c_w8_w_0_0 => rhs; simp [go_sem, *]
        have f_w8_w_0_0 := f_w8_w_0 0
        conv at f_w8_w_0_0 => rhs; simp [go_sem, *]
        have c_w8_w_0_1 := c_w8_w_0 1
        conv at c_w8_w_0_1 => rhs; simp [go_sem, *]
        have f_w8_w_0_1 := f_w8_w_0 1
        conv at f_w8_w_0_1 => rhs; simp [go_sem, *]
        have c_w8_w_0_2 := c_w8_w_0 2
        conv at c_w8_w_0_2 => rhs; simp [go_sem, *]
        have f_w8_w_0_2 := f_w8_w_0 2
        conv at f_w8_w_0_2 => rhs; simp [go_sem, *]
        have c_w8_w_0_3 := c_w8_w_0 3
        conv at c_w8_w_0_3 => rhs; simp [go_sem, *]
        have f_w8_w_0_3 := f_w8_w_0 3
        conv at f_w8_w_0_3 => rhs; simp [go_sem, *]
        have c_w8_w_0_4 := c_w8_w_0 4
        conv at c_w8_w_0_4 => rhs; simp [go_sem, *]
        have f_w8_w_0_4 := f_w8_w_0 4
        conv at f_w8_w_0_4 => rhs; simp [go_sem, *]
        have c_w8_w_0_5 := c_w8_w_0 5
        conv at c_w8_w_0_5 => rhs; simp [go_sem, *]
        have f_w8_w_0_5 := f_w8_w_0 5
        conv at f_w8_w_0_5 => rhs; simp [go_sem, *]
        obtain ⟨c_w8_w_1, f_w8_w_1⟩ := bk hb_w8 (w.heap.size + 1) (by first | omega | (simp <;> omega))
        have c_w8_w_1_0 := c_w8_w_1 0
        conv at c_w8_w_1_0 => rhs; simp [go_sem, *]
        have f_w8_w_1_0 := f_w8_w_1 0
        conv at f_w8_w_1_0 => rhs; simp [go_sem, *]
        have c_w8_w_1_1 := c_w8_w_1 1
        conv at c_w8_w_1_1 => rhs; simp [go_sem, *]
        have f_w8_w_1_1 := f_w8_w_1 1
        conv at f_w8_w_1_1 => rhs; simp [go_sem, *]
        have c_w8_w_1_2 := c_w8_w_1 2
        conv at c_w8_w_1_2 => rhs; simp [go_sem, *]
        have f_w8_w_1_2 := f_w8_w_1 2
        conv at f_w8_w_1_2 => rhs; simp [go_sem, *]
        have c_w8_w_1_3 := c_w8_w_1 3
        conv at c_w8_w_1_3 => rhs; simp [go_sem, *]
        have f_w8_w_1_3 := f_w8_w_1 3
        conv at f_w8_w_1_3 => rhs; simp [go_sem, *]
        have c_w8_w_1_4 := c_w8_w_1 4
        conv at c_w8_w_1_4 => rhs; simp [go_sem, *]
        have f_w8_w_1_4 := f_w8_w_1 4
        conv at f_w8_w_1_4 => rhs; simp [go_sem, *]
        have c_w8_w_1_5 := c_w8_w_1 5
        conv at c_w8_w_1_5 => rhs; simp [go_sem, *]
        have f_w8_w_1_5 := f_w8_w_1 5
        conv at f_w8_w_1_5 => rhs; simp [go_sem, *]
        have HH_w8 := Lib.hid hb_w8
        have hB_w8 : Below w.heap.size w w8 := Below.trans (by (repeat (first | (with_reducible exact Below.refl _ _) | (with_reducible assumption) | (with_reducible refine Below.drew ?_) | (focus ((with_reducible refine Below.setCell ?_ ?_ _); rotate_left; (first | omega | (simp <;> omega)))) | (focus ((with_reducible refine Below.alloc ?_ ?_ _); rotate_left; (first | omega | (simp <;> omega)))) | exact Below.refl _ _ | assumption | refine Below.drew ?_ | refine Below.alloc ?_ (by first | omega | (simp <;> omega)) _ | refine Below.setCell ?_ (by first | omega | (simp <;> omega)) _))) (hb_w8.mono (by first | omega | (simp <;> omega)))
        clear hb_w8 c_w8_w_0 f_w8_w_0 c_w8_w_1 f_w8_w_1
        try clear c_w7_w_0_0
        try clear f_w7_w_0_0
        try clear c_w7_w_0_1
        try clear f_w7_w_0_1
        try clear c_w7_w_0_2
        try clear f_w7_w_0_2
        try clear c_w7_w_0_3
        try clear f_w7_w_0_3
        try clear c_w7_w_0_4
        try clear f_w7_w_0_4
        try clear c_w7_w_0_5
        try clear f_w7_w_0_5
        try clear c_w7_w_1_0
        try clear f_w7_w_1_0
        try clear c_w7_w_1_1
        try clear f_w7_w_1_1
        try clear c_w7_w_1_2
        try clear f_w7_w_1_2
        try clear c_w7_w_1_3
        try clear f_w7_w_1_3
        try clear c_w7_w_1_4
        try clear f_w7_w_1_4
        try clear c_w7_w_1_5
        try clear f_w7_w_1_5
        try clear far_w7_w_0
        try clear far_w7_w_1
        try clear hB_w7
        have far_w8_w_0 := far (show w.heap.size < w8.heap.size by omega)
        have far_w8_w_1 := far (show w.heap.size + 1 < w8.heap.size by omega)
        cases ok with
        | false =>
          go_wp2
          refine bodyPost_ret (v := .tuple #[uv false [] 0 [] false [], .int .i64 20]) (by simp [results, Tryd.results30, go_sem, *]) rfl ⟨by rw [HN.out (by simp)]; rfl, ?_⟩
          (repeat (first | (with_reducible exact Below.refl _ _) | (with_reducible assumption) | (with_reducible refine Below.drew ?_) | (focus ((with_reducible refine Below.setCell ?_ ?_ _); rotate_left; (first | omega | (simp <;> omega)))) | (focus ((with_reducible refine Below.alloc ?_ ?_ _); rotate_left; (first | omega | (simp <;> omega)))) | exact Below.refl _ _ | assumption | refine Below.drew ?_ | refine Below.alloc ?_ (by first | omega | (simp <;> omega)) _ | refine Below.setCell ?_ (by first | omega | (simp <;> omega)) _))
        | true =>
          go_wp2
          refine bodyPost_ret (v := .tuple #[uv true hh nn f tt g, .int .i64 0]) (by simp [results, Tryd.results30, go_sem, *]) rfl ⟨by rw [HY.out (by simp) (by simp)], ?_⟩
          (repeat (first | (with_reducible exact Below.refl _ _) | (with_reducible assumption) | (with_reducible refine Below.drew ?_) | (focus ((with_reducible refine Below.setCell ?_ ?_ _); rotate_left; (first | omega | (simp <;> omega)))) | (focus ((with_reducible refine Below.alloc ?_ ?_ _); rotate_left; (first | omega | (simp <;> omega)))) | exact Below.refl _ _ | assumption | refine Below.drew ?_ | refine Below.alloc ?_ (by first | omega | (simp <;> omega)) _ | refine Below.setCell ?_ (by first | omega | (simp <;> omega)) _))

set_option maxHeartbeats 800000 in
theorem uriParse (s : List UInt8) (hs : s.length ≤ 1000000) (w : World) (hL : Laid w) :
    Calls Tryd.prog 30 #[.string (S s)] w fun e w' => e = .returned (.tuple #[(parseL s).1.v, .int .i64 (parseL s).2]) ∧ Below w.heap.size w w' := by
  by_cases h : 500 < s.length
  · have hle : 500 < (s.length : Int) := by omega
    rw [show parseL s = (UU.nil, 2) by unfold parseL; rw [if_pos h]]
    go_enter Tryd.func30, Tryd.ntmps30
    go_wp2
    refine bodyPost_ret (v := .tuple #[uv false [] 0 [] false [], .int .i64 2]) (by simp [results, Tryd.results30, go_sem, *]) rfl ⟨rfl, ?_⟩
    (repeat (first | (with_reducible exact Below.refl _ _) | (with_reducible assumption) | (with_reducible refine Below.drew ?_) | (focus ((with_reducible refine Below.setCell ?_ ?_ _); rotate_left; (first | omega | (simp <;> omega)))) | (focus ((with_reducible refine Below.alloc ?_ ?_ _); rotate_left; (first | omega | (simp <;> omega)))) | exact Below.refl _ _ | assumption | refine Below.drew ?_ | refine Below.alloc ?_ (by first | omega | (simp <;> omega)) _ | refine Below.setCell ?_ (by first | omega | (simp <;> omega)) _))
  · cases hB : httpB s with
    | true => exact parse_abs s (by omega) hB w hL
    | false =>
      by_cases h7 : s.length < 7
      · exact parse_short s (by omega) hB h7 w hL
      · exact parse_rel s (by omega) hB (by omega) w hL
end Go.Proofs.YtgjemgilanhdiaaDoor
