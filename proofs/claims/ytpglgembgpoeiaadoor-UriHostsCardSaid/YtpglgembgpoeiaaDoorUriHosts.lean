/- The law UriHosts: its walk. -/
import Derived.Test.YtpglgembgpoeiaaDoorUriPrint
import Derived.Test.YtpglgembgpoeiaaDoorUriParse
import Derived.Test.YtpglgembgpoeiaaDoorCleanRef
import Derived.Test.YtpglgembgpoeiaaDoorUriResMath
import Derived.Test.YtpglgembgpoeiaaDoorInter2
import Derived.Test.YtpglgembgpoeiaaDoorHostMath
namespace Go.Proofs.YtpglgembgpoeiaaDoor
open Go.RowKit Go.Shelf
set_option linter.unusedVariables false

def UU.cut (u : UU) : UU := ⟨u.a, u.h.take 120, u.n, u.p.take 520, u.q, u.y.take 520⟩
theorem UU.cut_small (u : UU) : u.cut.small := ⟨List.length_take_le _ _, List.length_take_le _ _, List.length_take_le _ _⟩
theorem toUpper_S {l u : List UInt8} (h : Lib.toUpperA l = u) (hl : l.length ≤ 1000000) (ha : ∀ b ∈ l, b.toNat < 128) (w : World) : Calls Tryd.prog 14 #[.string (S l)] w fun e w' => e = .returned (.string (S u)) ∧ Below w.heap.size w w' :=
  (Tryd.strings_ToUpper_ascii (S l) w (by rw [S_size]; omega) (fun j b hj => ha b (by rw [S_data] at hj; exact List.mem_of_getElem? hj))).mono fun e w' ⟨h1, h2⟩ => ⟨by rw [h1, S_data, h]; rfl, h2⟩

theorem uriHosts_no (u : UU) (hu : u.h.length ≤ 9223372036854775807 ∧ u.p.length ≤ 9223372036854775807 ∧ u.y.length ≤ 9223372036854775807) (w : World) (hL : Laid w) (hno : u.cut.ok = false) :
    Calls Tryd.prog 5 #[u.v] w fun e w' => e = .returned (.bool true) ∧ Below w.heap.size w w' := by
  have F1 := Lib.hid (fun W => show Calls Tryd.prog 6 #[u.v] W fun e w' => e = .returned u.cut.v ∧ Below W.heap.size W w' from fewC u hu W)
  have C1 := Lib.hid (fun W (hbl : Below w.heap.size w W) => uriPrint u.cut u.cut_small.mid W (hL.on hbl))
  unfold printL at C1
  rw [hno] at C1
  clear hno hL
  obtain ⟨⟨xa, xh, xn, xp, xq, xy⟩, hx⟩ : ∃ x, u.cut = x := ⟨_, rfl⟩
  simp only [hx] at F1 C1
  clear hx
  obtain ⟨ua, uh, un, up, uq, uy⟩ := u
  clear hu
  simp only [UU.v, Bool.false_eq_true, if_false] at F1 C1 ⊢
  go_enter Tryd.func5, Tryd.ntmps5
  go_wp2_with fail
  refine Calls.mono (F1.out _) ?_
  rintro e w1 ⟨rfl, hb_w1⟩
  have hz_w1 := hb_w1.size
  try simp at hz_w1
  obtain ⟨c_w1_w_0, f_w1_w_0⟩ := bk hb_w1 (w.heap.size) (by first | omega | (simp <;> omega))
  have c_w1_w_0_0 := c_w1_w_0 0
  conv at c_w1_w_0_0 => rhs; simp [go_sem, *]
  have f_w1_w_0_0 := f_w1_w_0 0
  conv at f_w1_w_0_0 => rhs; simp [go_sem, *]
  have c_w1_w_0_1 := c_w1_w_0 1
  conv at c_w1_w_0_1 => rhs; simp [go_sem, *]
  have f_w1_w_0_1 := f_w1_w_0 1
  conv at f_w1_w_0_1 => rhs; simp [go_sem, *]
  have c_w1_w_0_2 := c_w1_w_0 2
  conv at c_w1_w_0_2 => rhs; simp [go_sem, *]
  have f_w1_w_0_2 := f_w1_w_0 2
  conv at f_w1_w_0_2 => rhs; simp [go_sem, *]
  have c_w1_w_0_3 := c_w1_w_0 3
  conv at c_w1_w_0_3 => rhs; simp [go_sem, *]
  have f_w1_w_0_3 := f_w1_w_0 3
  conv at f_w1_w_0_3 => rhs; simp [go_sem, *]
  have c_w1_w_0_4 := c_w1_w_0 4
  conv at c_w1_w_0_4 => rhs; simp [go_sem, *]
  have f_w1_w_0_4 := f_w1_w_0 4
  conv at f_w1_w_0_4 => rhs; simp [go_sem, *]
  have c_w1_w_0_5 := c_w1_w_0 5
  conv at c_w1_w_0_5 => rhs; simp [go_sem, *]
  have f_w1_w_0_5 := f_w1_w_0 5
  conv at f_w1_w_0_5 => rhs; simp [go_sem, *]
  have hB_w1 : Below w.heap.size w w1 := Below.trans (by (repeat (first | (with_reducible exact Below.refl _ _) | (with_reducible assumption) | (with_reducible refine Below.drew ?_) | (focus ((with_reducible refine Below.setCell ?_ ?_ _); rotate_left; (first | omega | (simp <;> omega)))) | (focus ((with_reducible refine Below.alloc ?_ ?_ _); rotate_left; (first | omega | (simp <;> omega)))) | exact Below.refl _ _ | assumption | refine Below.drew ?_ | refine Below.alloc ?_ (by first | omega | (simp <;> omega)) _ | refine Below.setCell ?_ (by first | omega | (simp <;> omega)) _))) (hb_w1.mono (by first | omega | (simp <;> omega)))
  clear hb_w1 c_w1_w_0 f_w1_w_0
  have far_w1_w_0 := far (show w.heap.size < w1.heap.size by omega)
  go_wp2_with fail
  refine Calls.mono (C1.out _ (by (repeat (first | (with_reducible exact Below.refl _ _) | (with_reducible assumption) | (with_reducible refine Below.drew ?_) | (focus ((with_reducible refine Below.setCell ?_ ?_ _); rotate_left; (first | omega | (simp <;> omega)))) | (focus ((with_reducible refine Below.alloc ?_ ?_ _); rotate_left; (first | omega | (simp <;> omega)))) | exact Below.refl _ _ | assumption | refine Below.drew ?_ | refine Below.alloc ?_ (by first | omega | (simp <;> omega)) _ | refine Below.setCell ?_ (by first | omega | (simp <;> omega)) _)))) ?_
  rintro e w2 ⟨rfl, hb_w2⟩
  have hz_w2 := hb_w2.size
  try simp at hz_w2
  obtain ⟨c_w2_w_0, f_w2_w_0⟩ := bk hb_w2 (w.heap.size) (by first | omega | (simp <;> omega))
  have c_w2_w_0_0 := c_w2_w_0 0
  conv at c_w2_w_0_0 => rhs; simp [go_sem, *]
  have f_w2_w_0_0 := f_w2_w_0 0
  conv at f_w2_w_0_0 => rhs; simp [go_sem, *]
  have c_w2_w_0_1 := c_w2_w_0 1
  conv at c_w2_w_0_1 => rhs; simp [go_sem, *]
  have f_w2_w_0_1 := f_w2_w_0 1
  conv at f_w2_w_0_1 => rhs; simp [go_sem, *]
  have c_w2_w_0_2 := c_w2_w_0 2
  conv at c_w2_w_0_2 => rhs; simp [go_sem, *]
  have f_w2_w_0_2 := f_w2_w_0 2
  conv at f_w2_w_0_2 => rhs; simp [go_sem, *]
  have c_w2_w_0_3 := c_w2_w_0 3
  conv at c_w2_w_0_3 => rhs; simp [go_sem, *]
  have f_w2_w_0_3 := f_w2_w_0 3
  conv at f_w2_w_0_3 => rhs; simp [go_sem, *]
  have c_w2_w_0_4 := c_w2_w_0 4
  conv at c_w2_w_0_4 => rhs; simp [go_sem, *]
  have f_w2_w_0_4 := f_w2_w_0 4
  conv at f_w2_w_0_4 => rhs; simp [go_sem, *]
  have c_w2_w_0_5 := c_w2_w_0 5
  conv at c_w2_w_0_5 => rhs; simp [go_sem, *]
  have f_w2_w_0_5 := f_w2_w_0 5
  conv at f_w2_w_0_5 => rhs; simp [go_sem, *]
  have hB_w2 : Below w.heap.size w w2 := Below.trans (by (repeat (first | (with_reducible exact Below.refl _ _) | (with_reducible assumption) | (with_reducible refine Below.drew ?_) | (focus ((with_reducible refine Below.setCell ?_ ?_ _); rotate_left; (first | omega | (simp <;> omega)))) | (focus ((with_reducible refine Below.alloc ?_ ?_ _); rotate_left; (first | omega | (simp <;> omega)))) | exact Below.refl _ _ | assumption | refine Below.drew ?_ | refine Below.alloc ?_ (by first | omega | (simp <;> omega)) _ | refine Below.setCell ?_ (by first | omega | (simp <;> omega)) _))) (hb_w2.mono (by first | omega | (simp <;> omega)))
  clear hb_w2 c_w2_w_0 f_w2_w_0
  try clear c_w1_w_0_0
  try clear f_w1_w_0_0
  try clear c_w1_w_0_1
  try clear f_w1_w_0_1
  try clear c_w1_w_0_2
  try clear f_w1_w_0_2
  try clear c_w1_w_0_3
  try clear f_w1_w_0_3
  try clear c_w1_w_0_4
  try clear f_w1_w_0_4
  try clear c_w1_w_0_5
  try clear f_w1_w_0_5
  try clear far_w1_w_0
  try clear hB_w1
  have far_w2_w_0 := far (show w.heap.size < w2.heap.size by omega)
  go_wp2_with fail
  refine Calls.mono (clean_alive _) ?_
  rintro e w3 ⟨rfl, hb_w3⟩
  have hz_w3 := hb_w3.size
  try simp at hz_w3
  obtain ⟨c_w3_w_0, f_w3_w_0⟩ := bk hb_w3 (w.heap.size) (by first | omega | (simp <;> omega))
  have c_w3_w_0_0 := c_w3_w_0 0
  conv at c_w3_w_0_0 => rhs; simp [go_sem, *]
  have f_w3_w_0_0 := f_w3_w_0 0
  conv at f_w3_w_0_0 => rhs; simp [go_sem, *]
  have c_w3_w_0_1 := c_w3_w_0 1
  conv at c_w3_w_0_1 => rhs; simp [go_sem, *]
  have f_w3_w_0_1 := f_w3_w_0 1
  conv at f_w3_w_0_1 => rhs; simp [go_sem, *]
  have c_w3_w_0_2 := c_w3_w_0 2
  conv at c_w3_w_0_2 => rhs; simp [go_sem, *]
  have f_w3_w_0_2 := f_w3_w_0 2
  conv at f_w3_w_0_2 => rhs; simp [go_sem, *]
  have c_w3_w_0_3 := c_w3_w_0 3
  conv at c_w3_w_0_3 => rhs; simp [go_sem, *]
  have f_w3_w_0_3 := f_w3_w_0 3
  conv at f_w3_w_0_3 => rhs; simp [go_sem, *]
  have c_w3_w_0_4 := c_w3_w_0 4
  conv at c_w3_w_0_4 => rhs; simp [go_sem, *]
  have f_w3_w_0_4 := f_w3_w_0 4
  conv at f_w3_w_0_4 => rhs; simp [go_sem, *]
  have c_w3_w_0_5 := c_w3_w_0 5
  conv at c_w3_w_0_5 => rhs; simp [go_sem, *]
  have f_w3_w_0_5 := f_w3_w_0 5
  conv at f_w3_w_0_5 => rhs; simp [go_sem, *]
  have hB_w3 : Below w.heap.size w w3 := Below.trans (by (repeat (first | (with_reducible exact Below.refl _ _) | (with_reducible assumption) | (with_reducible refine Below.drew ?_) | (focus ((with_reducible refine Below.setCell ?_ ?_ _); rotate_left; (first | omega | (simp <;> omega)))) | (focus ((with_reducible refine Below.alloc ?_ ?_ _); rotate_left; (first | omega | (simp <;> omega)))) | exact Below.refl _ _ | assumption | refine Below.drew ?_ | refine Below.alloc ?_ (by first | omega | (simp <;> omega)) _ | refine Below.setCell ?_ (by first | omega | (simp <;> omega)) _))) (hb_w3.mono (by first | omega | (simp <;> omega)))
  clear hb_w3 c_w3_w_0 f_w3_w_0
  try clear c_w2_w_0_0
  try clear f_w2_w_0_0
  try clear c_w2_w_0_1
  try clear f_w2_w_0_1
  try clear c_w2_w_0_2
  try clear f_w2_w_0_2
  try clear c_w2_w_0_3
  try clear f_w2_w_0_3
  try clear c_w2_w_0_4
  try clear f_w2_w_0_4
  try clear c_w2_w_0_5
  try clear f_w2_w_0_5
  try clear far_w2_w_0
  try clear hB_w2
  have far_w3_w_0 := far (show w.heap.size < w3.heap.size by omega)
  go_wp2
  go_ret
  refine ⟨ret_bool (by simp), ?_⟩
  (repeat (first | (with_reducible exact Below.refl _ _) | (with_reducible assumption) | (with_reducible refine Below.drew ?_) | (focus ((with_reducible refine Below.setCell ?_ ?_ _); rotate_left; (first | omega | (simp <;> omega)))) | (focus ((with_reducible refine Below.alloc ?_ ?_ _); rotate_left; (first | omega | (simp <;> omega)))) | exact Below.refl _ _ | assumption | refine Below.drew ?_ | refine Below.alloc ?_ (by first | omega | (simp <;> omega)) _ | refine Below.setCell ?_ (by first | omega | (simp <;> omega)) _))

theorem uriHosts_rel (u : UU) (hu : u.h.length ≤ 9223372036854775807 ∧ u.p.length ≤ 9223372036854775807 ∧ u.y.length ≤ 9223372036854775807) (w : World) (hL : Laid w) (hok : u.cut.ok = true) (ha : u.cut.a = false) :
    Calls Tryd.prog 5 #[u.v] w fun e w' => e = .returned (.bool true) ∧ Below w.heap.size w w' := by
  have F1 := Lib.hid (fun W => show Calls Tryd.prog 6 #[u.v] W fun e w' => e = .returned u.cut.v ∧ Below W.heap.size W w' from fewC u hu W)
  have C1 := Lib.hid (fun W (hbl : Below w.heap.size w W) => uriPrint u.cut u.cut_small.mid W (hL.on hbl))
  unfold printL at C1
  rw [hok] at C1
  clear hok hL
  obtain ⟨⟨xa, xh, xn, xp, xq, xy⟩, hx⟩ : ∃ x, u.cut = x := ⟨_, rfl⟩
  simp only [hx] at F1 C1 ha
  subst ha
  obtain ⟨wl, hwl⟩ : ∃ b, writeL false xh xn.toNat xp xq xy = b := ⟨_, rfl⟩
  simp only [hwl] at C1
  clear hx hwl
  obtain ⟨ua, uh, un, up, uq, uy⟩ := u
  clear hu
  simp only [UU.v, if_true] at F1 C1 ⊢
  go_enter Tryd.func5, Tryd.ntmps5
  go_wp2_with fail
  refine Calls.mono (F1.out _) ?_
  rintro e w1 ⟨rfl, hb_w1⟩
  have hz_w1 := hb_w1.size
  try simp at hz_w1
  obtain ⟨c_w1_w_0, f_w1_w_0⟩ := bk hb_w1 (w.heap.size) (by first | omega | (simp <;> omega))
  have c_w1_w_0_0 := c_w1_w_0 0
  conv at c_w1_w_0_0 => rhs; simp [go_sem, *]
  have f_w1_w_0_0 := f_w1_w_0 0
  conv at f_w1_w_0_0 => rhs; simp [go_sem, *]
  have c_w1_w_0_1 := c_w1_w_0 1
  conv at c_w1_w_0_1 => rhs; simp [go_sem, *]
  have f_w1_w_0_1 := f_w1_w_0 1
  conv at f_w1_w_0_1 => rhs; simp [go_sem, *]
  have c_w1_w_0_2 := c_w1_w_0 2
  conv at c_w1_w_0_2 => rhs; simp [go_sem, *]
  have f_w1_w_0_2 := f_w1_w_0 2
  conv at f_w1_w_0_2 => rhs; simp [go_sem, *]
  have c_w1_w_0_3 := c_w1_w_0 3
  conv at c_w1_w_0_3 => rhs; simp [go_sem, *]
  have f_w1_w_0_3 := f_w1_w_0 3
  conv at f_w1_w_0_3 => rhs; simp [go_sem, *]
  have c_w1_w_0_4 := c_w1_w_0 4
  conv at c_w1_w_0_4 => rhs; simp [go_sem, *]
  have f_w1_w_0_4 := f_w1_w_0 4
  conv at f_w1_w_0_4 => rhs; simp [go_sem, *]
  have c_w1_w_0_5 := c_w1_w_0 5
  conv at c_w1_w_0_5 => rhs; simp [go_sem, *]
  have f_w1_w_0_5 := f_w1_w_0 5
  conv at f_w1_w_0_5 => rhs; simp [go_sem, *]
  have hB_w1 : Below w.heap.size w w1 := Below.trans (by (repeat (first | (with_reducible exact Below.refl _ _) | (with_reducible assumption) | (with_reducible refine Below.drew ?_) | (focus ((with_reducible refine Below.setCell ?_ ?_ _); rotate_left; (first | omega | (simp <;> omega)))) | (focus ((with_reducible refine Below.alloc ?_ ?_ _); rotate_left; (first | omega | (simp <;> omega)))) | exact Below.refl _ _ | assumption | refine Below.drew ?_ | refine Below.alloc ?_ (by first | omega | (simp <;> omega)) _ | refine Below.setCell ?_ (by first | omega | (simp <;> omega)) _))) (hb_w1.mono (by first | omega | (simp <;> omega)))
  clear hb_w1 c_w1_w_0 f_w1_w_0
  have far_w1_w_0 := far (show w.heap.size < w1.heap.size by omega)
  go_wp2_with fail
  refine Calls.mono (C1.out _ (by (repeat (first | (with_reducible exact Below.refl _ _) | (with_reducible assumption) | (with_reducible refine Below.drew ?_) | (focus ((with_reducible refine Below.setCell ?_ ?_ _); rotate_left; (first | omega | (simp <;> omega)))) | (focus ((with_reducible refine Below.alloc ?_ ?_ _); rotate_left; (first | omega | (simp <;> omega)))) | exact Below.refl _ _ | assumption | refine Below.drew ?_ | refine Below.alloc ?_ (by first | omega | (simp <;> omega)) _ | refine Below.setCell ?_ (by first | omega | (simp <;> omega)) _)))) ?_
  rintro e w2 ⟨rfl, hb_w2⟩
  have hz_w2 := hb_w2.size
  try simp at hz_w2
  obtain ⟨c_w2_w_0, f_w2_w_0⟩ := bk hb_w2 (w.heap.size) (by first | omega | (simp <;> omega))
  have c_w2_w_0_0 := c_w2_w_0 0
  conv at c_w2_w_0_0 => rhs; simp [go_sem, *]
  have f_w2_w_0_0 := f_w2_w_0 0
  conv at f_w2_w_0_0 => rhs; simp [go_sem, *]
  have c_w2_w_0_1 := c_w2_w_0 1
  conv at c_w2_w_0_1 => rhs; simp [go_sem, *]
  have f_w2_w_0_1 := f_w2_w_0 1
  conv at f_w2_w_0_1 => rhs; simp [go_sem, *]
  have c_w2_w_0_2 := c_w2_w_0 2
  conv at c_w2_w_0_2 => rhs; simp [go_sem, *]
  have f_w2_w_0_2 := f_w2_w_0 2
  conv at f_w2_w_0_2 => rhs; simp [go_sem, *]
  have c_w2_w_0_3 := c_w2_w_0 3
  conv at c_w2_w_0_3 => rhs; simp [go_sem, *]
  have f_w2_w_0_3 := f_w2_w_0 3
  conv at f_w2_w_0_3 => rhs; simp [go_sem, *]
  have c_w2_w_0_4 := c_w2_w_0 4
  conv at c_w2_w_0_4 => rhs; simp [go_sem, *]
  have f_w2_w_0_4 := f_w2_w_0 4
  conv at f_w2_w_0_4 => rhs; simp [go_sem, *]
  have c_w2_w_0_5 := c_w2_w_0 5
  conv at c_w2_w_0_5 => rhs; simp [go_sem, *]
  have f_w2_w_0_5 := f_w2_w_0 5
  conv at f_w2_w_0_5 => rhs; simp [go_sem, *]
  have hB_w2 : Below w.heap.size w w2 := Below.trans (by (repeat (first | (with_reducible exact Below.refl _ _) | (with_reducible assumption) | (with_reducible refine Below.drew ?_) | (focus ((with_reducible refine Below.setCell ?_ ?_ _); rotate_left; (first | omega | (simp <;> omega)))) | (focus ((with_reducible refine Below.alloc ?_ ?_ _); rotate_left; (first | omega | (simp <;> omega)))) | exact Below.refl _ _ | assumption | refine Below.drew ?_ | refine Below.alloc ?_ (by first | omega | (simp <;> omega)) _ | refine Below.setCell ?_ (by first | omega | (simp <;> omega)) _))) (hb_w2.mono (by first | omega | (simp <;> omega)))
  clear hb_w2 c_w2_w_0 f_w2_w_0
  try clear c_w1_w_0_0
  try clear f_w1_w_0_0
  try clear c_w1_w_0_1
  try clear f_w1_w_0_1
  try clear c_w1_w_0_2
  try clear f_w1_w_0_2
  try clear c_w1_w_0_3
  try clear f_w1_w_0_3
  try clear c_w1_w_0_4
  try clear f_w1_w_0_4
  try clear c_w1_w_0_5
  try clear f_w1_w_0_5
  try clear far_w1_w_0
  try clear hB_w1
  have far_w2_w_0 := far (show w.heap.size < w2.heap.size by omega)
  go_wp2_with fail
  refine Calls.mono (clean_alive _) ?_
  rintro e w3 ⟨rfl, hb_w3⟩
  have hz_w3 := hb_w3.size
  try simp at hz_w3
  obtain ⟨c_w3_w_0, f_w3_w_0⟩ := bk hb_w3 (w.heap.size) (by first | omega | (simp <;> omega))
  have c_w3_w_0_0 := c_w3_w_0 0
  conv at c_w3_w_0_0 => rhs; simp [go_sem, *]
  have f_w3_w_0_0 := f_w3_w_0 0
  conv at f_w3_w_0_0 => rhs; simp [go_sem, *]
  have c_w3_w_0_1 := c_w3_w_0 1
  conv at c_w3_w_0_1 => rhs; simp [go_sem, *]
  have f_w3_w_0_1 := f_w3_w_0 1
  conv at f_w3_w_0_1 => rhs; simp [go_sem, *]
  have c_w3_w_0_2 := c_w3_w_0 2
  conv at c_w3_w_0_2 => rhs; simp [go_sem, *]
  have f_w3_w_0_2 := f_w3_w_0 2
  conv at f_w3_w_0_2 => rhs; simp [go_sem, *]
  have c_w3_w_0_3 := c_w3_w_0 3
  conv at c_w3_w_0_3 => rhs; simp [go_sem, *]
  have f_w3_w_0_3 := f_w3_w_0 3
  conv at f_w3_w_0_3 => rhs; simp [go_sem, *]
  have c_w3_w_0_4 := c_w3_w_0 4
  conv at c_w3_w_0_4 => rhs; simp [go_sem, *]
  have f_w3_w_0_4 := f_w3_w_0 4
  conv at f_w3_w_0_4 => rhs; simp [go_sem, *]
  have c_w3_w_0_5 := c_w3_w_0 5
  conv at c_w3_w_0_5 => rhs; simp [go_sem, *]
  have f_w3_w_0_5 := f_w3_w_0 5
  conv at f_w3_w_0_5 => rhs; simp [go_sem, *]
  have hB_w3 : Below w.heap.size w w3 := Below.trans (by (repeat (first | (with_reducible exact Below.refl _ _) | (with_reducible assumption) | (with_reducible refine Below.drew ?_) | (focus ((with_reducible refine Below.setCell ?_ ?_ _); rotate_left; (first | omega | (simp <;> omega)))) | (focus ((with_reducible refine Below.alloc ?_ ?_ _); rotate_left; (first | omega | (simp <;> omega)))) | exact Below.refl _ _ | assumption | refine Below.drew ?_ | refine Below.alloc ?_ (by first | omega | (simp <;> omega)) _ | refine Below.setCell ?_ (by first | omega | (simp <;> omega)) _))) (hb_w3.mono (by first | omega | (simp <;> omega)))
  clear hb_w3 c_w3_w_0 f_w3_w_0
  try clear c_w2_w_0_0
  try clear f_w2_w_0_0
  try clear c_w2_w_0_1
  try clear f_w2_w_0_1
  try clear c_w2_w_0_2
  try clear f_w2_w_0_2
  try clear c_w2_w_0_3
  try clear f_w2_w_0_3
  try clear c_w2_w_0_4
  try clear f_w2_w_0_4
  try clear c_w2_w_0_5
  try clear f_w2_w_0_5
  try clear far_w2_w_0
  try clear hB_w2
  have far_w3_w_0 := far (show w.heap.size < w3.heap.size by omega)
  go_wp2
  go_ret
  refine ⟨ret_bool (by simp), ?_⟩
  (repeat (first | (with_reducible exact Below.refl _ _) | (with_reducible assumption) | (with_reducible refine Below.drew ?_) | (focus ((with_reducible refine Below.setCell ?_ ?_ _); rotate_left; (first | omega | (simp <;> omega)))) | (focus ((with_reducible refine Below.alloc ?_ ?_ _); rotate_left; (first | omega | (simp <;> omega)))) | exact Below.refl _ _ | assumption | refine Below.drew ?_ | refine Below.alloc ?_ (by first | omega | (simp <;> omega)) _ | refine Below.setCell ?_ (by first | omega | (simp <;> omega)) _))

set_option maxHeartbeats 6400000 in
set_option maxRecDepth 100000 in
theorem uriHosts_abs (u : UU) (hu : u.h.length ≤ 9223372036854775807 ∧ u.p.length ≤ 9223372036854775807 ∧ u.y.length ≤ 9223372036854775807) (w : World) (hL : Laid w) (hok : u.cut.ok = true) (ha : u.cut.a = true) :
    Calls Tryd.prog 5 #[u.v] w fun e w' => e = .returned (.bool true) ∧ Below w.heap.size w w' := by
  have F1 := Lib.hid (fun W => show Calls Tryd.prog 6 #[u.v] W fun e w' => e = .returned u.cut.v ∧ Below W.heap.size W w' from fewC u hu W)
  have C1 := Lib.hid (fun W (hbl : Below w.heap.size w W) => uriPrint u.cut u.cut_small.mid W (hL.on hbl))
  unfold printL at C1
  rw [hok] at C1
  have m1 := parse_up u.cut hok ha
  have m2 := parse_host u.cut hok ha
  have m3 := write_long u.cut hok ha
  obtain ⟨⟨xa, xh, xn, xp, xq, xy⟩, hx⟩ : ∃ x, u.cut = x := ⟨_, rfl⟩
  simp only [hx] at F1 C1 ha m1 m2 m3
  subst ha
  obtain ⟨wl, hwl⟩ : ∃ b, writeL true xh xn.toNat xp xq xy = b := ⟨_, rfl⟩
  simp only [hwl] at C1 m1 m2 m3
  obtain ⟨m3, m4, m5⟩ := m3
  obtain ⟨n, hn⟩ : ∃ n : Nat, 7 + xh.length = n := ⟨_, rfl⟩
  rw [hn] at m1 m2 m3 m5
  have hn7 : (7 : Int) + (xh.length : Int) = (n : Int) := by omega
  obtain ⟨pre, hpre⟩ : ∃ x, wl.take n = x := ⟨_, rfl⟩
  obtain ⟨suf, hsuf⟩ : ∃ x, wl.drop n = x := ⟨_, rfl⟩
  have hpl : pre.length ≤ 500 := by rw [← hpre, List.length_take]; omega
  have hsl : suf.length ≤ 500 := by rw [← hsuf, List.length_drop]; omega
  rw [hpre] at m1 m2 m5
  rw [hsuf] at m1
  have C2 := Lib.hid (fun W => toUpper_S (l := pre) rfl (by omega) m5 W)
  have hul : (Lib.toUpperA pre).length ≤ 500 := by rw [show (Lib.toUpperA pre).length = pre.length by simp [Lib.toUpperA]]; exact hpl
  obtain ⟨upp, hupp⟩ : ∃ x, Lib.toUpperA pre = x := ⟨_, rfl⟩
  rw [hupp] at m1 C2 hul
  have C3 := Lib.hid (fun W (hbl : Below w.heap.size w W) => m1 ▸ uriParse (upp ++ suf) (by rw [List.length_append]; omega) W (hL.on hbl))
  have C4 := Lib.hid (fun W (hbl : Below w.heap.size w W) => m2 ▸ uriParse pre (by omega) W (hL.on hbl))
  have e1 : (wl.take n).drop 0 = pre := hpre
  have e2 : (wl.take wl.length).drop n = suf := by rw [List.take_length]; exact hsuf
  have hnl : (n : Int) ≤ (wl.length : Int) := by omega
  have hnf : decide ((wl.length : Int) < (n : Int)) = false := by simp; omega
  clear hx hwl m1 m2 m5 hok hL hupp hn
  obtain ⟨ua, uh, un, up, uq, uy⟩ := u
  clear hu
  simp only [UU.v, if_true] at F1 C1 C3 C4 ⊢
  go_enter Tryd.func5, Tryd.ntmps5
  go_wp2_with fail
  refine Calls.mono (F1.out _) ?_
  rintro e w1 ⟨rfl, hb_w1⟩
  have hz_w1 := hb_w1.size
  try simp at hz_w1
  obtain ⟨c_w1_w_0, f_w1_w_0⟩ := bk hb_w1 (w.heap.size) (by first | omega | (simp <;> omega))
  have c_w1_w_0_0 := c_w1_w_0 0
  conv at c_w1_w_0_0 => rhs; simp [go_sem, *]
  have f_w1_w_0_0 := f_w1_w_0 0
  conv at f_w1_w_0_0 => rhs; simp [go_sem, *]
  have c_w1_w_0_1 := c_w1_w_0 1
  conv at c_w1_w_0_1 => rhs; simp [go_sem, *]
  have f_w1_w_0_1 := f_w1_w_0 1
  conv at f_w1_w_0_1 => rhs; simp [go_sem, *]
  have c_w1_w_0_2 := c_w1_w_0 2
  conv at c_w1_w_0_2 => rhs; simp [go_sem, *]
  have f_w1_w_0_2 := f_w1_w_0 2
  conv at f_w1_w_0_2 => rhs; simp [go_sem, *]
  have c_w1_w_0_3 := c_w1_w_0 3
  conv at c_w1_w_0_3 => rhs; simp [go_sem, *]
  have f_w1_w_0_3 := f_w1_w_0 3
  conv at f_w1_w_0_3 => rhs; simp [go_sem, *]
  have c_w1_w_0_4 := c_w1_w_0 4
  conv at c_w1_w_0_4 => rhs; simp [go_sem, *]
  have f_w1_w_0_4 := f_w1_w_0 4
  conv at f_w1_w_0_4 => rhs; simp [go_sem, *]
  have c_w1_w_0_5 := c_w1_w_0 5
  conv at c_w1_w_0_5 => rhs; simp [go_sem, *]
  have f_w1_w_0_5 := f_w1_w_0 5
  conv at f_w1_w_0_5 => rhs; simp [go_sem, *]
  have hB_w1 : Below w.heap.size w w1 := Below.trans (by (repeat (first | (with_reducible exact Below.refl _ _) | (with_reducible assumption) | (with_reducible refine Below.drew ?_) | (focus ((with_reducible refine Below.setCell ?_ ?_ _); rotate_left; (first | omega | (simp <;> omega)))) | (focus ((with_reducible refine Below.alloc ?_ ?_ _); rotate_left; (first | omega | (simp <;> omega)))) | exact Below.refl _ _ | assumption | refine Below.drew ?_ | refine Below.alloc ?_ (by first | omega | (simp <;> omega)) _ | refine Below.setCell ?_ (by first | omega | (simp <;> omega)) _))) (hb_w1.mono (by first | omega | (simp <;> omega)))
  clear hb_w1 c_w1_w_0 f_w1_w_0
  have far_w1_w_0 := far (show w.heap.size < w1.heap.size by omega)
  go_wp2_with fail
  refine Calls.mono (C1.out _ (by (repeat (first | (with_reducible exact Below.refl _ _) | (with_reducible assumption) | (with_reducible refine Below.drew ?_) | (focus ((with_reducible refine Below.setCell ?_ ?_ _); rotate_left; (first | omega | (simp <;> omega)))) | (focus ((with_reducible refine Below.alloc ?_ ?_ _); rotate_left; (first | omega | (simp <;> omega)))) | exact Below.refl _ _ | assumption | refine Below.drew ?_ | refine Below.alloc ?_ (by first | omega | (simp <;> omega)) _ | refine Below.setCell ?_ (by first | omega | (simp <;> omega)) _)))) ?_
  rintro e w2 ⟨rfl, hb_w2⟩
  have hz_w2 := hb_w2.size
  try simp at hz_w2
  obtain ⟨c_w2_w_0, f_w2_w_0⟩ := bk hb_w2 (w.heap.size) (by first | omega | (simp <;> omega))
  have c_w2_w_0_0 := c_w2_w_0 0
  conv at c_w2_w_0_0 => rhs; simp [go_sem, *]
  have f_w2_w_0_0 := f_w2_w_0 0
  conv at f_w2_w_0_0 => rhs; simp [go_sem, *]
  have c_w2_w_0_1 := c_w2_w_0 1
  conv at c_w2_w_0_1 => rhs; simp [go_sem, *]
  have f_w2_w_0_1 := f_w2_w_0 1
  conv at f_w2_w_0_1 => rhs; simp [go_sem, *]
  have c_w2_w_0_2 := c_w2_w_0 2
  conv at c_w2_w_0_2 => rhs; simp [go_sem, *]
  have f_w2_w_0_2 := f_w2_w_0 2
  conv at f_w2_w_0_2 => rhs; simp [go_sem, *]
  have c_w2_w_0_3 := c_w2_w_0 3
  conv at c_w2_w_0_3 => rhs; simp [go_sem, *]
  have f_w2_w_0_3 := f_w2_w_0 3
  conv at f_w2_w_0_3 => rhs; simp [go_sem, *]
  have c_w2_w_0_4 := c_w2_w_0 4
  conv at c_w2_w_0_4 => rhs; simp [go_sem, *]
  have f_w2_w_0_4 := f_w2_w_0 4
  conv at f_w2_w_0_4 => rhs; simp [go_sem, *]
  have c_w2_w_0_5 := c_w2_w_0 5
  conv at c_w2_w_0_5 => rhs; simp [go_sem, *]
  have f_w2_w_0_5 := f_w2_w_0 5
  conv at f_w2_w_0_5 => rhs; simp [go_sem, *]
  have hB_w2 : Below w.heap.size w w2 := Below.trans (by (repeat (first | (with_reducible exact Below.refl _ _) | (with_reducible assumption) | (with_reducible refine Below.drew ?_) | (focus ((with_reducible refine Below.setCell ?_ ?_ _); rotate_left; (first | omega | (simp <;> omega)))) | (focus ((with_reducible refine Below.alloc ?_ ?_ _); rotate_left; (first | omega | (simp <;> omega)))) | exact Below.refl _ _ | assumption | refine Below.drew ?_ | refine Below.alloc ?_ (by first | omega | (simp <;> omega)) _ | refine Below.setCell ?_ (by first | omega | (simp <;> omega)) _))) (hb_w2.mono (by first | omega | (simp <;> omega)))
  clear hb_w2 c_w2_w_0 f_w2_w_0
  try clear c_w1_w_0_0
  try clear f_w1_w_0_0
  try clear c_w1_w_0_1
  try clear f_w1_w_0_1
  try clear c_w1_w_0_2
  try clear f_w1_w_0_2
  try clear c_w1_w_0_3
  try clear f_w1_w_0_3
  try clear c_w1_w_0_4
  try clear f_w1_w_0_4
  try clear c_w1_w_0_5
  try clear f_w1_w_0_5
  try clear far_w1_w_0
  try clear hB_w1
  have far_w2_w_0 := far (show w.heap.size < w2.heap.size by omega)
  go_upto_region 8 with fail
  go_cut [6, 7] (fun b f wx => ∃ g, b = .pointer (some ⟨g, 0, none⟩) ∧ f = .int .i64 0 ∧ w.heap.size < g ∧ g < wx.heap.size ∧
    wx.cell? ⟨g, 0, none⟩ = some (.bool true) ∧ wx.cell? ⟨g, 1, none⟩ = some (.string (S xh)) ∧ wx.cell? ⟨g, 2, none⟩ = some (.int .i64 xn) ∧ wx.cell? ⟨g, 3, none⟩ = some (.string (S xp)) ∧ wx.cell? ⟨g, 4, none⟩ = some (.bool xq) ∧ wx.cell? ⟨g, 5, none⟩ = some (.string (S xy)) ∧
    wx.cell? ⟨w.heap.size, 0, none⟩ = some (.bool true) ∧ wx.cell? ⟨w.heap.size, 1, none⟩ = some (.string (S xh)) ∧ wx.cell? ⟨w.heap.size, 2, none⟩ = some (.int .i64 xn) ∧ wx.cell? ⟨w.heap.size, 3, none⟩ = some (.string (S xp)) ∧ wx.cell? ⟨w.heap.size, 4, none⟩ = some (.bool xq) ∧ wx.cell? ⟨w.heap.size, 5, none⟩ = some (.string (S xy)) ∧
    Below w.heap.size w wx)
  case first =>
    as_aux_lemma =>
      go_region_with (first
        | (go_at_call 14; refine (C2.out _).mono ?_; rintro e w3 ⟨rfl, hb3⟩; obtain ⟨hcc, hff⟩ := bk hb3 (w.heap.size) (by (first | omega | (simp <;> omega))); have hz3 := hb3.size; simp at hz3; have fr3 := far (show w.heap.size < w3.heap.size by omega); have hq1 := bk hb3 w2.heap.size; (try simp at hq1); have hB3 := Below.trans (show Below w.heap.size w _ by (repeat (first | (with_reducible exact Below.refl _ _) | (with_reducible assumption) | (with_reducible refine Below.drew ?_) | (focus ((with_reducible refine Below.setCell ?_ ?_ _); rotate_left; (first | omega | (simp <;> omega)))) | (focus ((with_reducible refine Below.alloc ?_ ?_ _); rotate_left; (first | omega | (simp <;> omega)))) | exact Below.refl _ _ | assumption | refine Below.drew ?_ | refine Below.alloc ?_ (by first | omega | (simp <;> omega)) _ | refine Below.setCell ?_ (by first | omega | (simp <;> omega)) _))) (hb3.mono (by (first | omega | (simp <;> omega)))))
        | (go_at_call 8; refine (C3.out _ (by (repeat (first | (with_reducible exact Below.refl _ _) | (with_reducible assumption) | (with_reducible refine Below.drew ?_) | (focus ((with_reducible refine Below.setCell ?_ ?_ _); rotate_left; (first | omega | (simp <;> omega)))) | (focus ((with_reducible refine Below.alloc ?_ ?_ _); rotate_left; (first | omega | (simp <;> omega)))) | exact Below.refl _ _ | assumption | refine Below.drew ?_ | refine Below.alloc ?_ (by first | omega | (simp <;> omega)) _ | refine Below.setCell ?_ (by first | omega | (simp <;> omega)) _)))).mono ?_; rintro e w4 ⟨rfl, hb4⟩; obtain ⟨hcc4, hff4⟩ := bk hb4 (w.heap.size) (by (first | omega | (simp <;> omega))); have hz4 := hb4.size; (try simp at hz4); have fr4 := far (show w.heap.size < w4.heap.size by omega); have hq3 := bk hb4 w2.heap.size; (try simp [Nat.lt_of_succ_le hz3] at hq3); have hq5 := bk hb4 w3.heap.size; (try simp at hq5); have hB4 := Below.trans (show Below w.heap.size w _ by (repeat (first | (with_reducible exact Below.refl _ _) | (with_reducible assumption) | (with_reducible refine Below.drew ?_) | (focus ((with_reducible refine Below.setCell ?_ ?_ _); rotate_left; (first | omega | (simp <;> omega)))) | (focus ((with_reducible refine Below.alloc ?_ ?_ _); rotate_left; (first | omega | (simp <;> omega)))) | exact Below.refl _ _ | assumption | refine Below.drew ?_ | refine Below.alloc ?_ (by first | omega | (simp <;> omega)) _ | refine Below.setCell ?_ (by first | omega | (simp <;> omega)) _))) (hb4.mono (by (first | omega | (simp <;> omega))))))
      all_goals (go_wp2_with fail; go_meet)
      all_goals (refine ⟨_, rfl, rfl, ?_, ?_, ?_, ?_, ?_, ?_, ?_, ?_, ?_, ?_, ?_, ?_, ?_, ?_, ?_⟩)
      all_goals first | (simp [go_sem, *]; done) | (simp; omega) | (repeat (first | (with_reducible exact Below.refl _ _) | (with_reducible assumption) | (with_reducible refine Below.drew ?_) | (focus ((with_reducible refine Below.setCell ?_ ?_ _); rotate_left; (first | omega | (simp <;> omega)))) | (focus ((with_reducible refine Below.alloc ?_ ?_ _); rotate_left; (first | omega | (simp <;> omega)))) | exact Below.refl _ _ | assumption | refine Below.drew ?_ | refine Below.alloc ?_ (by first | omega | (simp <;> omega)) _ | refine Below.setCell ?_ (by first | omega | (simp <;> omega)) _))
  case rest =>
    obtain ⟨g, rfl, rfl, hg1, hg2, g0, g1, g2, g3, g4, g5, k0, k1, k2, k3, k4, k5, hBc⟩ := hcut
    have fa := far (show w.heap.size < wc.heap.size by omega)
    have fb := far hg2
    have fc := far hg1
    go_wp2_with fail
    refine Calls.mono (C4.out _ (by (repeat (first | (with_reducible exact Below.refl _ _) | (with_reducible assumption) | (with_reducible refine Below.drew ?_) | (focus ((with_reducible refine Below.setCell ?_ ?_ _); rotate_left; (first | omega | (simp <;> omega)))) | (focus ((with_reducible refine Below.alloc ?_ ?_ _); rotate_left; (first | omega | (simp <;> omega)))) | exact Below.refl _ _ | assumption | refine Below.drew ?_ | refine Below.alloc ?_ (by first | omega | (simp <;> omega)) _ | refine Below.setCell ?_ (by first | omega | (simp <;> omega)) _)))) ?_
    rintro e w5 ⟨rfl, hb_w5⟩
    have hz_w5 := hb_w5.size
    try simp at hz_w5
    obtain ⟨c_w5_w_0, f_w5_w_0⟩ := bk hb_w5 (w.heap.size) (by first | omega | (simp <;> omega))
    have c_w5_w_0_0 := c_w5_w_0 0
    conv at c_w5_w_0_0 => rhs; simp [go_sem, *]
    have f_w5_w_0_0 := f_w5_w_0 0
    conv at f_w5_w_0_0 => rhs; simp [go_sem, *]
    have c_w5_w_0_1 := c_w5_w_0 1
    conv at c_w5_w_0_1 => rhs; simp [go_sem, *]
    have f_w5_w_0_1 := f_w5_w_0 1
    conv at f_w5_w_0_1 => rhs; simp [go_sem, *]
    have c_w5_w_0_2 := c_w5_w_0 2
    conv at c_w5_w_0_2 => rhs; simp [go_sem, *]
    have f_w5_w_0_2 := f_w5_w_0 2
    conv at f_w5_w_0_2 => rhs; simp [go_sem, *]
    have c_w5_w_0_3 := c_w5_w_0 3
    conv at c_w5_w_0_3 => rhs; simp [go_sem, *]
    have f_w5_w_0_3 := f_w5_w_0 3
    conv at f_w5_w_0_3 => rhs; simp [go_sem, *]
    have c_w5_w_0_4 := c_w5_w_0 4
    conv at c_w5_w_0_4 => rhs; simp [go_sem, *]
    have f_w5_w_0_4 := f_w5_w_0 4
    conv at f_w5_w_0_4 => rhs; simp [go_sem, *]
    have c_w5_w_0_5 := c_w5_w_0 5
    conv at c_w5_w_0_5 => rhs; simp [go_sem, *]
    have f_w5_w_0_5 := f_w5_w_0 5
    conv at f_w5_w_0_5 => rhs; simp [go_sem, *]
    obtain ⟨c_w5_vg, f_w5_vg⟩ := bk hb_w5 (g) (by first | omega | (simp <;> omega))
    have c_w5_vg_0 := c_w5_vg 0
    conv at c_w5_vg_0 => rhs; simp [go_sem, *]
    have f_w5_vg_0 := f_w5_vg 0
    conv at f_w5_vg_0 => rhs; simp [go_sem, *]
    have c_w5_vg_1 := c_w5_vg 1
    conv at c_w5_vg_1 => rhs; simp [go_sem, *]
    have f_w5_vg_1 := f_w5_vg 1
    conv at f_w5_vg_1 => rhs; simp [go_sem, *]
    have c_w5_vg_2 := c_w5_vg 2
    conv at c_w5_vg_2 => rhs; simp [go_sem, *]
    have f_w5_vg_2 := f_w5_vg 2
    conv at f_w5_vg_2 => rhs; simp [go_sem, *]
    have c_w5_vg_3 := c_w5_vg 3
    conv at c_w5_vg_3 => rhs; simp [go_sem, *]
    have f_w5_vg_3 := f_w5_vg 3
    conv at f_w5_vg_3 => rhs; simp [go_sem, *]
    have c_w5_vg_4 := c_w5_vg 4
    conv at c_w5_vg_4 => rhs; simp [go_sem, *]
    have f_w5_vg_4 := f_w5_vg 4
    conv at f_w5_vg_4 => rhs; simp [go_sem, *]
    have c_w5_vg_5 := c_w5_vg 5
    conv at c_w5_vg_5 => rhs; simp [go_sem, *]
    have f_w5_vg_5 := f_w5_vg 5
    conv at f_w5_vg_5 => rhs; simp [go_sem, *]
    have hB_w5 : Below w.heap.size w w5 := Below.trans (by (repeat (first | (with_reducible exact Below.refl _ _) | (with_reducible assumption) | (with_reducible refine Below.drew ?_) | (focus ((with_reducible refine Below.setCell ?_ ?_ _); rotate_left; (first | omega | (simp <;> omega)))) | (focus ((with_reducible refine Below.alloc ?_ ?_ _); rotate_left; (first | omega | (simp <;> omega)))) | exact Below.refl _ _ | assumption | refine Below.drew ?_ | refine Below.alloc ?_ (by first | omega | (simp <;> omega)) _ | refine Below.setCell ?_ (by first | omega | (simp <;> omega)) _))) (hb_w5.mono (by first | omega | (simp <;> omega)))
    clear hb_w5 c_w5_w_0 f_w5_w_0 c_w5_vg f_w5_vg
    try clear c_w2_w_0_0
    try clear f_w2_w_0_0
    try clear c_w2_w_0_1
    try clear f_w2_w_0_1
    try clear c_w2_w_0_2
    try clear f_w2_w_0_2
    try clear c_w2_w_0_3
    try clear f_w2_w_0_3
    try clear c_w2_w_0_4
    try clear f_w2_w_0_4
    try clear c_w2_w_0_5
    try clear f_w2_w_0_5
    try clear far_w2_w_0
    try clear hB_w2
    have far_w5_w_0 := far (show w.heap.size < w5.heap.size by omega)
    have far_w5_vg := far (show g < w5.heap.size by omega)
    go_wp2_with fail
    refine Calls.mono (clean_alive _) ?_
    rintro e w6 ⟨rfl, hb_w6⟩
    have hz_w6 := hb_w6.size
    try simp at hz_w6
    obtain ⟨c_w6_w_0, f_w6_w_0⟩ := bk hb_w6 (w.heap.size) (by first | omega | (simp <;> omega))
    have c_w6_w_0_0 := c_w6_w_0 0
    conv at c_w6_w_0_0 => rhs; simp [go_sem, *]
    have f_w6_w_0_0 := f_w6_w_0 0
    conv at f_w6_w_0_0 => rhs; simp [go_sem, *]
    have c_w6_w_0_1 := c_w6_w_0 1
    conv at c_w6_w_0_1 => rhs; simp [go_sem, *]
    have f_w6_w_0_1 := f_w6_w_0 1
    conv at f_w6_w_0_1 => rhs; simp [go_sem, *]
    have c_w6_w_0_2 := c_w6_w_0 2
    conv at c_w6_w_0_2 => rhs; simp [go_sem, *]
    have f_w6_w_0_2 := f_w6_w_0 2
    conv at f_w6_w_0_2 => rhs; simp [go_sem, *]
    have c_w6_w_0_3 := c_w6_w_0 3
    conv at c_w6_w_0_3 => rhs; simp [go_sem, *]
    have f_w6_w_0_3 := f_w6_w_0 3
    conv at f_w6_w_0_3 => rhs; simp [go_sem, *]
    have c_w6_w_0_4 := c_w6_w_0 4
    conv at c_w6_w_0_4 => rhs; simp [go_sem, *]
    have f_w6_w_0_4 := f_w6_w_0 4
    conv at f_w6_w_0_4 => rhs; simp [go_sem, *]
    have c_w6_w_0_5 := c_w6_w_0 5
    conv at c_w6_w_0_5 => rhs; simp [go_sem, *]
    have f_w6_w_0_5 := f_w6_w_0 5
    conv at f_w6_w_0_5 => rhs; simp [go_sem, *]
    obtain ⟨c_w6_vg, f_w6_vg⟩ := bk hb_w6 (g) (by first | omega | (simp <;> omega))
    have c_w6_vg_0 := c_w6_vg 0
    conv at c_w6_vg_0 => rhs; simp [go_sem, *]
    have f_w6_vg_0 := f_w6_vg 0
    conv at f_w6_vg_0 => rhs; simp [go_sem, *]
    have c_w6_vg_1 := c_w6_vg 1
    conv at c_w6_vg_1 => rhs; simp [go_sem, *]
    have f_w6_vg_1 := f_w6_vg 1
    conv at f_w6_vg_1 => rhs; simp [go_sem, *]
    have c_w6_vg_2 := c_w6_vg 2
    conv at c_w6_vg_2 => rhs; simp [go_sem, *]
    have f_w6_vg_2 := f_w6_vg 2
    conv at f_w6_vg_2 => rhs; simp [go_sem, *]
    have c_w6_vg_3 := c_w6_vg 3
    conv at c_w6_vg_3 => rhs; simp [go_sem, *]
    have f_w6_vg_3 := f_w6_vg 3
    conv at f_w6_vg_3 => rhs; simp [go_sem, *]
    have c_w6_vg_4 := c_w6_vg 4
    conv at c_w6_vg_4 => rhs; simp [go_sem, *]
    have f_w6_vg_4 := f_w6_vg 4
    conv at f_w6_vg_4 => rhs; simp [go_sem, *]
    have c_w6_vg_5 := c_w6_vg 5
    conv at c_w6_vg_5 => rhs; simp [go_sem, *]
    have f_w6_vg_5 := f_w6_vg 5
    conv at f_w6_vg_5 => rhs; simp [go_sem, *]
    obtain ⟨c_w6_w5_0, f_w6_w5_0⟩ := bk hb_w6 (w5.heap.size) (by first | omega | (simp <;> omega))
    have c_w6_w5_0_0 := c_w6_w5_0 0
    conv at c_w6_w5_0_0 => rhs; simp [go_sem, *]
    have f_w6_w5_0_0 := f_w6_w5_0 0
    conv at f_w6_w5_0_0 => rhs; simp [go_sem, *]
    have c_w6_w5_0_1 := c_w6_w5_0 1
    conv at c_w6_w5_0_1 => rhs; simp [go_sem, *]
    have f_w6_w5_0_1 := f_w6_w5_0 1
    conv at f_w6_w5_0_1 => rhs; simp [go_sem, *]
    have c_w6_w5_0_2 := c_w6_w5_0 2
    conv at c_w6_w5_0_2 => rhs; simp [go_sem, *]
    have f_w6_w5_0_2 := f_w6_w5_0 2
    conv at f_w6_w5_0_2 => rhs; simp [go_sem, *]
    have c_w6_w5_0_3 := c_w6_w5_0 3
    conv at c_w6_w5_0_3 => rhs; simp [go_sem, *]
    have f_w6_w5_0_3 := f_w6_w5_0 3
    conv at f_w6_w5_0_3 => rhs; simp [go_sem, *]
    have c_w6_w5_0_4 := c_w6_w5_0 4
    conv at c_w6_w5_0_4 => rhs; simp [go_sem, *]
    have f_w6_w5_0_4 := f_w6_w5_0 4
    conv at f_w6_w5_0_4 => rhs; simp [go_sem, *]
    have c_w6_w5_0_5 := c_w6_w5_0 5
    conv at c_w6_w5_0_5 => rhs; simp [go_sem, *]
    have f_w6_w5_0_5 := f_w6_w5_0 5
    conv at f_w6_w5_0_5 => rhs; simp [go_sem, *]
    have hB_w6 : Below w.heap.size w w6 := Below.trans (by (repeat (first | (with_reducible exact Below.refl _ _) | (with_reducible assumption) | (with_reducible refine Below.drew ?_) | (focus ((with_reducible refine Below.setCell ?_ ?_ _); rotate_left; (first | omega | (simp <;> omega)))) | (focus ((with_reducible refine Below.alloc ?_ ?_ _); rotate_left; (first | omega | (simp <;> omega)))) | exact Below.refl _ _ | assumption | refine Below.drew ?_ | refine Below.alloc ?_ (by first | omega | (simp <;> omega)) _ | refine Below.setCell ?_ (by first | omega | (simp <;> omega)) _))) (hb_w6.mono (by first | omega | (simp <;> omega)))
    clear hb_w6 c_w6_w_0 f_w6_w_0 c_w6_vg f_w6_vg c_w6_w5_0 f_w6_w5_0
    try clear c_w5_w_0_0
    try clear f_w5_w_0_0
    try clear c_w5_w_0_1
    try clear f_w5_w_0_1
    try clear c_w5_w_0_2
    try clear f_w5_w_0_2
    try clear c_w5_w_0_3
    try clear f_w5_w_0_3
    try clear c_w5_w_0_4
    try clear f_w5_w_0_4
    try clear c_w5_w_0_5
    try clear f_w5_w_0_5
    try clear c_w5_vg_0
    try clear f_w5_vg_0
    try clear c_w5_vg_1
    try clear f_w5_vg_1
    try clear c_w5_vg_2
    try clear f_w5_vg_2
    try clear c_w5_vg_3
    try clear f_w5_vg_3
    try clear c_w5_vg_4
    try clear f_w5_vg_4
    try clear c_w5_vg_5
    try clear f_w5_vg_5
    try clear far_w5_w_0
    try clear far_w5_vg
    try clear hB_w5
    have far_w6_w_0 := far (show w.heap.size < w6.heap.size by omega)
    have far_w6_vg := far (show g < w6.heap.size by omega)
    have far_w6_w5_0 := far (show w5.heap.size < w6.heap.size by omega)
    go_wp2
    go_ret
    refine ⟨ret_bool (by simp), ?_⟩
    (repeat (first | (with_reducible exact Below.refl _ _) | (with_reducible assumption) | (with_reducible refine Below.drew ?_) | (focus ((with_reducible refine Below.setCell ?_ ?_ _); rotate_left; (first | omega | (simp <;> omega)))) | (focus ((with_reducible refine Below.alloc ?_ ?_ _); rotate_left; (first | omega | (simp <;> omega)))) | exact Below.refl _ _ | assumption | refine Below.drew ?_ | refine Below.alloc ?_ (by first | omega | (simp <;> omega)) _ | refine Below.setCell ?_ (by first | omega | (simp <;> omega)) _))

theorem uriHosts (u : UU) (hu : u.h.length ≤ 9223372036854775807 ∧ u.p.length ≤ 9223372036854775807 ∧ u.y.length ≤ 9223372036854775807) (w : World) (hL : Laid w) :
    Calls Tryd.prog 5 #[u.v] w fun e w' => e = .returned (.bool true) ∧ Below w.heap.size w w' := by
  cases hok : u.cut.ok with
  | false => exact uriHosts_no u hu w hL hok
  | true =>
    cases ha : u.cut.a with
    | false => exact uriHosts_rel u hu w hL hok ha
    | true => exact uriHosts_abs u hu w hL hok ha
theorem uriHosts_any (a0 : Bool) (a1 : ByteArray) (a2 : Int) (a3 : ByteArray) (a4 : Bool) (a5 : ByteArray) (W : World)
    (h1 : a1.size ≤ maxLen) (h2 : (Lit.int .i64 a2).wf) (h3 : a3.size ≤ maxLen) (h5 : a5.size ≤ maxLen) (hL : Laid W) :
    Calls Tryd.prog 5 #[.agg #[.bool a0, .string a1, .int .i64 a2, .string a3, .bool a4, .string a5]] W fun e w' => e = .returned (.bool true) ∧ Below W.heap.size W w' := by
  obtain ⟨l1, rfl⟩ := S_of a1
  obtain ⟨l3, rfl⟩ := S_of a3
  obtain ⟨l5, rfl⟩ := S_of a5
  rw [S_size] at h1 h3 h5
  exact uriHosts ⟨a0, l1, a2, l3, a4, l5⟩ ⟨h1, h3, h5⟩ W hL
end Go.Proofs.YtpglgembgpoeiaaDoor
