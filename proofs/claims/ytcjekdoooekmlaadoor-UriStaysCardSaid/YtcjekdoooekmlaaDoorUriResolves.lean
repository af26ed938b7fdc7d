/- The law UriResolves: its walk. -/
import Derived.Test.YtcjekdoooekmlaaDoorUriResolve
import Derived.Test.YtcjekdoooekmlaaDoorUriResRef
import Derived.Test.YtcjekdoooekmlaaDoorTail
namespace Go.Proofs.YtcjekdoooekmlaaDoor
open Go.RowKit Go.Shelf
set_option linter.unusedVariables false

/-- What few leaves of an address. -/
def UU.cut (u : UU) : UU := ⟨u.a, u.h.take 120, u.n, u.p.take 520, u.q, u.y.take 520⟩
theorem UU.cut_small (u : UU) : u.cut.small := ⟨List.length_take_le _ _, List.length_take_le _ _, List.length_take_le _ _⟩

set_option maxHeartbeats 6400000 in
set_option maxRecDepth 100000 in
theorem uriResolves (b u : UU) (hb : b.h.length ≤ 9223372036854775807 ∧ b.p.length ≤ 9223372036854775807 ∧ b.y.length ≤ 9223372036854775807) (hu : u.h.length ≤ 9223372036854775807 ∧ u.p.length ≤ 9223372036854775807 ∧ u.y.length ≤ 9223372036854775807) (w : World) (hL : Laid w) :
    Calls Tryd.prog 3 #[b.v, u.v] w fun e w' => e = .returned (.bool true) ∧ Below w.heap.size w w' := by
  have F1 := Lib.hid (fun W => show Calls Tryd.prog 6 #[b.v] W fun e w' => e = .returned b.cut.v ∧ Below W.heap.size W w' from fewC b hb W)
  have F2 := Lib.hid (fun W => show Calls Tryd.prog 6 #[u.v] W fun e w' => e = .returned u.cut.v ∧ Below W.heap.size W w' from fewC u hu W)
  have R1 := Lib.hid (fun W (hbl : Below w.heap.size w W) => uriResolve b.cut u.cut b.cut_small u.cut_small W (hL.on hbl))
  have R2 := Lib.hid (fun W (hbl : Below w.heap.size w W) => refUriResolve b.cut u.cut b.cut_small u.cut_small W (hL.on hbl))
  obtain ⟨⟨⟨ra, rh, rn, rp, rq, ry⟩, re⟩, hr⟩ : ∃ x, resolve b.cut u.cut = x := ⟨_, rfl⟩
  rw [hr] at R1 R2
  clear hr
  obtain ⟨⟨xa, xh, xn, xp, xq, xy⟩, hx⟩ : ∃ x, b.cut = x := ⟨_, rfl⟩
  obtain ⟨⟨za, zh, zn, zp, zq, zy⟩, hz⟩ : ∃ x, u.cut = x := ⟨_, rfl⟩
  rw [hx] at R1 R2 F1
  rw [hz] at R1 R2 F2
  clear hx hz hL
  obtain ⟨ba, bh, bn, bp, bq, by'⟩ := b
  obtain ⟨ua, uh, un, up, uq, uy⟩ := u
  clear hb hu
  simp only [UU.v] at F1 F2 R1 R2 ⊢
  go_enter Tryd.func3, Tryd.ntmps3
  go_wp2_with fail
  refine wp_region_later_tail (w.heap.size + 2) 4 (by kernel_rfl) (by kernel_rfl) ?_
  simp only [List.take_succ_cons, List.take_zero, List.drop_succ_cons, List.drop_zero]
  have l_w1_w_0 := @Later.at (w.heap.size + 2) (w.heap.size) (by omega)
  have l_w1_w_1 := @Later.at (w.heap.size + 2) (w.heap.size + 1) (by omega)
  repeat (go_big_quiet_step (first | (go_at_call 6; with_reducible refine later_of (by (first | omega | (simp <;> omega))) (F1.out _)) | (go_at_call 6; with_reducible refine later_of (by (first | omega | (simp <;> omega))) (F2.out _))))
  refine wpQuiet_nil ?_
  rintro w1 ⟨⟨_, hb_w1⟩, rfl⟩
  clear l_w1_w_0 l_w1_w_1
  try simp only [] at hb_w1 ⊢
  have hz_w1 := hb_w1.size
  try simp at hz_w1
  have c_w1_w_0 := fun o => hb_w1.cell (p := ⟨w.heap.size, o, none⟩) (by first | omega | (simp <;> omega))
  have f_w1_w_0 := fun o => hb_w1.frozen (p := ⟨w.heap.size, o, none⟩) (by first | omega | (simp <;> omega))
  have c_w1_w_0_0 := c_w1_w_0 0
  conv at c_w1_w_0_0 => rhs; simp [go_sem, *]
  have f_w1_w_0_0 := f_w1_w_0 0
  conv at f_w1_w_0_0 => rhs; simp [go_sem, *]
  have c_w1_w_0_1 := c_w1_w_0 1
  conv at c_w1_w_0_1 => rhs; simp [go_sem, *]
  have f_w1_w_0_1 := f_w1_w_0 1
  conv at f_w1_w_0_1 => rhs; simp [go_sem, *]
  have c_w1_w_0_2 := c_w1_w_0 2
  conv at c_w1_w_0_2 => rhs; simp [go_sem, *]
  have f_w1_w_0_2 := f_w1_w_0 2
  conv at f_w1_w_0_2 => rhs; simp [go_sem, *]
  have c_w1_w_0_3 := c_w1_w_0 3
  conv at c_w1_w_0_3 => rhs; simp [go_sem, *]
  have f_w1_w_0_3 := f_w1_w_0 3
  conv at f_w1_w_0_3 => rhs; simp [go_sem, *]
  have c_w1_w_0_4 := c_w1_w_0 4
  conv at c_w1_w_0_4 => rhs; simp [go_sem, *]
  have f_w1_w_0_4 := f_w1_w_0 4
  conv at f_w1_w_0_4 => rhs; simp [go_sem, *]
  have c_w1_w_0_5 := c_w1_w_0 5
  conv at c_w1_w_0_5 => rhs; simp [go_sem, *]
  have f_w1_w_0_5 := f_w1_w_0 5
  conv at f_w1_w_0_5 => rhs; simp [go_sem, *]
  have c_w1_w_1 := fun o => hb_w1.cell (p := ⟨w.heap.size + 1, o, none⟩) (by first | omega | (simp <;> omega))
  have f_w1_w_1 := fun o => hb_w1.frozen (p := ⟨w.heap.size + 1, o, none⟩) (by first | omega | (simp <;> omega))
  have c_w1_w_1_0 := c_w1_w_1 0
  conv at c_w1_w_1_0 => rhs; simp [go_sem, *]
  have f_w1_w_1_0 := f_w1_w_1 0
  conv at f_w1_w_1_0 => rhs; simp [go_sem, *]
  have c_w1_w_1_1 := c_w1_w_1 1
  conv at c_w1_w_1_1 => rhs; simp [go_sem, *]
  have f_w1_w_1_1 := f_w1_w_1 1
  conv at f_w1_w_1_1 => rhs; simp [go_sem, *]
  have c_w1_w_1_2 := c_w1_w_1 2
  conv at c_w1_w_1_2 => rhs; simp [go_sem, *]
  have f_w1_w_1_2 := f_w1_w_1 2
  conv at f_w1_w_1_2 => rhs; simp [go_sem, *]
  have c_w1_w_1_3 := c_w1_w_1 3
  conv at c_w1_w_1_3 => rhs; simp [go_sem, *]
  have f_w1_w_1_3 := f_w1_w_1 3
  conv at f_w1_w_1_3 => rhs; simp [go_sem, *]
  have c_w1_w_1_4 := c_w1_w_1 4
  conv at c_w1_w_1_4 => rhs; simp [go_sem, *]
  have f_w1_w_1_4 := f_w1_w_1 4
  conv at f_w1_w_1_4 => rhs; simp [go_sem, *]
  have c_w1_w_1_5 := c_w1_w_1 5
  conv at c_w1_w_1_5 => rhs; simp [go_sem, *]
  have f_w1_w_1_5 := f_w1_w_1 5
  conv at f_w1_w_1_5 => rhs; simp [go_sem, *]
  have hB_w1 : Below w.heap.size w w1 := Below.trans (by (repeat (first | (with_reducible exact Below.refl _ _) | (with_reducible assumption) | (with_reducible refine Below.drew ?_) | (focus ((with_reducible refine Below.setCell ?_ ?_ _); rotate_left; (first | omega | (simp <;> omega)))) | (focus ((with_reducible refine Below.alloc ?_ ?_ _); rotate_left; (first | omega | (simp <;> omega)))) | exact Below.refl _ _ | assumption | refine Below.drew ?_ | refine Below.alloc ?_ (by first | omega | (simp <;> omega)) _ | refine Below.setCell ?_ (by first | omega | (simp <;> omega)) _))) (hb_w1.mono (by first | omega | (simp <;> omega)))
  clear hb_w1 c_w1_w_0 f_w1_w_0 c_w1_w_1 f_w1_w_1
  have far_w1_w_0 := far (show w.heap.size < w1.heap.size by omega)
  have far_w1_w_1 := far (show w.heap.size + 1 < w1.heap.size by omega)
  go_wp2_with fail
  refine Calls.mono (R1.out _ (by (repeat (first | (with_reducible exact Below.refl _ _) | (with_reducible assumption) | (with_reducible refine Below.drew ?_) | (focus ((with_reducible refine Below.setCell ?_ ?_ _); rotate_left; (first | omega | (simp <;> omega)))) | (focus ((with_reducible refine Below.alloc ?_ ?_ _); rotate_left; (first | omega | (simp <;> omega)))) | exact Below.refl _ _ | assumption | refine Below.drew ?_ | refine Below.alloc ?_ (by first | omega | (simp <;> omega)) _ | refine Below.setCell ?_ (by first | omega | (simp <;> omega)) _)))) ?_
  rintro e w2 ⟨rfl, hb_w2⟩
  have hz_w2 := hb_w2.size
  try simp at hz_w2
  obtain ⟨c_w2_w_0, f_w2_w_0⟩ := bk hb_w2 (w.heap.size) (by first | omega | (simp <;> omega))
  have c_w2_w_0_0 := c_w2_w_0 0
  conv at c_w2_w_0_0 => rhs; simp [go_sem, *]
  have f_w2_w_0_0 := f_w2_w_0 0
  conv at f_w2_w_0_0 => rhs; simp [go_sem, *]
  have c_w2_w_0_1 := c_w2_w_0 1
  conv at c_w2_w_0_1 => rhs; simp [go_sem, *]
  have f_w2_w_0_1 := f_w2_w_0 1
  conv at f_w2_w_0_1 => rhs; simp [go_sem, *]
  have c_w2_w_0_2 := c_w2_w_0 2
  conv at c_w2_w_0_2 => rhs; simp [go_sem, *]
  have f_w2_w_0_2 := f_w2_w_0 2
  conv at f_w2_w_0_2 => rhs; simp [go_sem, *]
  have c_w2_w_0_3 := c_w2_w_0 3
  conv at c_w2_w_0_3 => rhs; simp [go_sem, *]
  have f_w2_w_0_3 := f_w2_w_0 3
  conv at f_w2_w_0_3 => rhs; simp [go_sem, *]
  have c_w2_w_0_4 := c_w2_w_0 4
  conv at c_w2_w_0_4 => rhs; simp [go_sem, *]
  have f_w2_w_0_4 := f_w2_w_0 4
  conv at f_w2_w_0_4 => rhs; simp [go_sem, *]
  have c_w2_w_0_5 := c_w2_w_0 5
  conv at c_w2_w_0_5 => rhs; simp [go_sem, *]
  have f_w2_w_0_5 := f_w2_w_0 5
  conv at f_w2_w_0_5 => rhs; simp [go_sem, *]
  obtain ⟨c_w2_w_1, f_w2_w_1⟩ := bk hb_w2 (w.heap.size + 1) (by first | omega | (simp <;> omega))
  have c_w2_w_1_0 := c_w2_w_1 0
  conv at c_w2_w_1_0 => rhs; simp [go_sem, *]
  have f_w2_w_1_0 := f_w2_w_1 0
  conv at f_w2_w_1_0 => rhs; simp [go_sem, *]
  have c_w2_w_1_1 := c_w2_w_1 1
  conv at c_w2_w_1_1 => rhs; simp [go_sem, *]
  have f_w2_w_1_1 := f_w2_w_1 1
  conv at f_w2_w_1_1 => rhs; simp [go_sem, *]
  have c_w2_w_1_2 := c_w2_w_1 2
  conv at c_w2_w_1_2 => rhs; simp [go_sem, *]
  have f_w2_w_1_2 := f_w2_w_1 2
  conv at f_w2_w_1_2 => rhs; simp [go_sem, *]
  have c_w2_w_1_3 := c_w2_w_1 3
  conv at c_w2_w_1_3 => rhs; simp [go_sem, *]
  have f_w2_w_1_3 := f_w2_w_1 3
  conv at f_w2_w_1_3 => rhs; simp [go_sem, *]
  have c_w2_w_1_4 := c_w2_w_1 4
  conv at c_w2_w_1_4 => rhs; simp [go_sem, *]
  have f_w2_w_1_4 := f_w2_w_1 4
  conv at f_w2_w_1_4 => rhs; simp [go_sem, *]
  have c_w2_w_1_5 := c_w2_w_1 5
  conv at c_w2_w_1_5 => rhs; simp [go_sem, *]
  have f_w2_w_1_5 := f_w2_w_1 5
  conv at f_w2_w_1_5 => rhs; simp [go_sem, *]
  have hB_w2 : Below w.heap.size w w2 := Below.trans (by (repeat (first | (with_reducible exact Below.refl _ _) | (with_reducible assumption) | (with_reducible refine Below.drew ?_) | (focus ((with_reducible refine Below.setCell ?_ ?_ _); rotate_left; (first | omega | (simp <;> omega)))) | (focus ((with_reducible refine Below.alloc ?_ ?_ _); rotate_left; (first | omega | (simp <;> omega)))) | exact Below.refl _ _ | assumption | refine Below.drew ?_ | refine Below.alloc ?_ (by first | omega | (simp <;> omega)) _ | refine Below.setCell ?_ (by first | omega | (simp <;> omega)) _))) (hb_w2.mono (by first | omega | (simp <;> omega)))
  clear hb_w2 c_w2_w_0 f_w2_w_0 c_w2_w_1 f_w2_w_1
  try clear c_w1_w_0_0
  try clear f_w1_w_0_0
  try clear c_w1_w_0_1
  try clear f_w1_w_0_1
  try clear c_w1_w_0_2
  try clear f_w1_w_0_2
  try clear c_w1_w_0_3
  try clear f_w1_w_0_3
  try clear c_w1_w_0_4
  try clear f_w1_w_0_4
  try clear c_w1_w_0_5
  try clear f_w1_w_0_5
  try clear c_w1_w_1_0
  try clear f_w1_w_1_0
  try clear c_w1_w_1_1
  try clear f_w1_w_1_1
  try clear c_w1_w_1_2
  try clear f_w1_w_1_2
  try clear c_w1_w_1_3
  try clear f_w1_w_1_3
  try clear c_w1_w_1_4
  try clear f_w1_w_1_4
  try clear c_w1_w_1_5
  try clear f_w1_w_1_5
  try clear far_w1_w_0
  try clear far_w1_w_1
  try clear hB_w1
  have far_w2_w_0 := far (show w.heap.size < w2.heap.size by omega)
  have far_w2_w_1 := far (show w.heap.size + 1 < w2.heap.size by omega)
  go_wp2_with fail
  refine Calls.mono (R2.out _ (by (repeat (first | (with_reducible exact Below.refl _ _) | (with_reducible assumption) | (with_reducible refine Below.drew ?_) | (focus ((with_reducible refine Below.setCell ?_ ?_ _); rotate_left; (first | omega | (simp <;> omega)))) | (focus ((with_reducible refine Below.alloc ?_ ?_ _); rotate_left; (first | omega | (simp <;> omega)))) | exact Below.refl _ _ | assumption | refine Below.drew ?_ | refine Below.alloc ?_ (by first | omega | (simp <;> omega)) _ | refine Below.setCell ?_ (by first | omega | (simp <;> omega)) _)))) ?_
  rintro e w3 ⟨rfl, hb_w3⟩
  have hz_w3 := hb_w3.size
  try simp at hz_w3
  obtain ⟨c_w3_w2_0, f_w3_w2_0⟩ := bk hb_w3 (w2.heap.size) (by first | omega | (simp <;> omega))
  have c_w3_w2_0_0 := c_w3_w2_0 0
  conv at c_w3_w2_0_0 => rhs; simp [go_sem, *]
  have f_w3_w2_0_0 := f_w3_w2_0 0
  conv at f_w3_w2_0_0 => rhs; simp [go_sem, *]
  have c_w3_w2_0_1 := c_w3_w2_0 1
  conv at c_w3_w2_0_1 => rhs; simp [go_sem, *]
  have f_w3_w2_0_1 := f_w3_w2_0 1
  conv at f_w3_w2_0_1 => rhs; simp [go_sem, *]
  have c_w3_w2_0_2 := c_w3_w2_0 2
  conv at c_w3_w2_0_2 => rhs; simp [go_sem, *]
  have f_w3_w2_0_2 := f_w3_w2_0 2
  conv at f_w3_w2_0_2 => rhs; simp [go_sem, *]
  have c_w3_w2_0_3 := c_w3_w2_0 3
  conv at c_w3_w2_0_3 => rhs; simp [go_sem, *]
  have f_w3_w2_0_3 := f_w3_w2_0 3
  conv at f_w3_w2_0_3 => rhs; simp [go_sem, *]
  have c_w3_w2_0_4 := c_w3_w2_0 4
  conv at c_w3_w2_0_4 => rhs; simp [go_sem, *]
  have f_w3_w2_0_4 := f_w3_w2_0 4
  conv at f_w3_w2_0_4 => rhs; simp [go_sem, *]
  have c_w3_w2_0_5 := c_w3_w2_0 5
  conv at c_w3_w2_0_5 => rhs; simp [go_sem, *]
  have f_w3_w2_0_5 := f_w3_w2_0 5
  conv at f_w3_w2_0_5 => rhs; simp [go_sem, *]
  have hB_w3 : Below w.heap.size w w3 := Below.trans (by (repeat (first | (with_reducible exact Below.refl _ _) | (with_reducible assumption) | (with_reducible refine Below.drew ?_) | (focus ((with_reducible refine Below.setCell ?_ ?_ _); rotate_left; (first | omega | (simp <;> omega)))) | (focus ((with_reducible refine Below.alloc ?_ ?_ _); rotate_left; (first | omega | (simp <;> omega)))) | exact Below.refl _ _ | assumption | refine Below.drew ?_ | refine Below.alloc ?_ (by first | omega | (simp <;> omega)) _ | refine Below.setCell ?_ (by first | omega | (simp <;> omega)) _))) (hb_w3.mono (by first | omega | (simp <;> omega)))
  clear hb_w3 c_w3_w2_0 f_w3_w2_0
  try clear c_w2_w_0_0
  try clear f_w2_w_0_0
  try clear c_w2_w_0_1
  try clear f_w2_w_0_1
  try clear c_w2_w_0_2
  try clear f_w2_w_0_2
  try clear c_w2_w_0_3
  try clear f_w2_w_0_3
  try clear c_w2_w_0_4
  try clear f_w2_w_0_4
  try clear c_w2_w_0_5
  try clear f_w2_w_0_5
  try clear c_w2_w_1_0
  try clear f_w2_w_1_0
  try clear c_w2_w_1_1
  try clear f_w2_w_1_1
  try clear c_w2_w_1_2
  try clear f_w2_w_1_2
  try clear c_w2_w_1_3
  try clear f_w2_w_1_3
  try clear c_w2_w_1_4
  try clear f_w2_w_1_4
  try clear c_w2_w_1_5
  try clear f_w2_w_1_5
  try clear far_w2_w_0
  try clear far_w2_w_1
  try clear hB_w2
  have far_w3_w2_0 := far (show w2.heap.size < w3.heap.size by omega)
  go_wp2_with fail
  refine Calls.mono (clean_alive _) ?_
  rintro e w4 ⟨rfl, hb_w4⟩
  have hz_w4 := hb_w4.size
  try simp at hz_w4
  obtain ⟨c_w4_w2_0, f_w4_w2_0⟩ := bk hb_w4 (w2.heap.size) (by first | omega | (simp <;> omega))
  have c_w4_w2_0_0 := c_w4_w2_0 0
  conv at c_w4_w2_0_0 => rhs; simp [go_sem, *]
  have f_w4_w2_0_0 := f_w4_w2_0 0
  conv at f_w4_w2_0_0 => rhs; simp [go_sem, *]
  have c_w4_w2_0_1 := c_w4_w2_0 1
  conv at c_w4_w2_0_1 => rhs; simp [go_sem, *]
  have f_w4_w2_0_1 := f_w4_w2_0 1
  conv at f_w4_w2_0_1 => rhs; simp [go_sem, *]
  have c_w4_w2_0_2 := c_w4_w2_0 2
  conv at c_w4_w2_0_2 => rhs; simp [go_sem, *]
  have f_w4_w2_0_2 := f_w4_w2_0 2
  conv at f_w4_w2_0_2 => rhs; simp [go_sem, *]
  have c_w4_w2_0_3 := c_w4_w2_0 3
  conv at c_w4_w2_0_3 => rhs; simp [go_sem, *]
  have f_w4_w2_0_3 := f_w4_w2_0 3
  conv at f_w4_w2_0_3 => rhs; simp [go_sem, *]
  have c_w4_w2_0_4 := c_w4_w2_0 4
  conv at c_w4_w2_0_4 => rhs; simp [go_sem, *]
  have f_w4_w2_0_4 := f_w4_w2_0 4
  conv at f_w4_w2_0_4 => rhs; simp [go_sem, *]
  have c_w4_w2_0_5 := c_w4_w2_0 5
  conv at c_w4_w2_0_5 => rhs; simp [go_sem, *]
  have f_w4_w2_0_5 := f_w4_w2_0 5
  conv at f_w4_w2_0_5 => rhs; simp [go_sem, *]
  obtain ⟨c_w4_w3_0, f_w4_w3_0⟩ := bk hb_w4 (w3.heap.size) (by first | omega | (simp <;> omega))
  have c_w4_w3_0_0 := c_w4_w3_0 0
  conv at c_w4_w3_0_0 => rhs; simp [go_sem, *]
  have f_w4_w3_0_0 := f_w4_w3_0 0
  conv at f_w4_w3_0_0 => rhs; simp [go_sem, *]
  have c_w4_w3_0_1 := c_w4_w3_0 1
  conv at c_w4_w3_0_1 => rhs; simp [go_sem, *]
  have f_w4_w3_0_1 := f_w4_w3_0 1
  conv at f_w4_w3_0_1 => rhs; simp [go_sem, *]
  have c_w4_w3_0_2 := c_w4_w3_0 2
  conv at c_w4_w3_0_2 => rhs; simp [go_sem, *]
  have f_w4_w3_0_2 := f_w4_w3_0 2
  conv at f_w4_w3_0_2 => rhs; simp [go_sem, *]
  have c_w4_w3_0_3 := c_w4_w3_0 3
  conv at c_w4_w3_0_3 => rhs; simp [go_sem, *]
  have f_w4_w3_0_3 := f_w4_w3_0 3
  conv at f_w4_w3_0_3 => rhs; simp [go_sem, *]
  have c_w4_w3_0_4 := c_w4_w3_0 4
  conv at c_w4_w3_0_4 => rhs; simp [go_sem, *]
  have f_w4_w3_0_4 := f_w4_w3_0 4
  conv at f_w4_w3_0_4 => rhs; simp [go_sem, *]
  have c_w4_w3_0_5 := c_w4_w3_0 5
  conv at c_w4_w3_0_5 => rhs; simp [go_sem, *]
  have f_w4_w3_0_5 := f_w4_w3_0 5
  conv at f_w4_w3_0_5 => rhs; simp [go_sem, *]
  have hB_w4 : Below w.heap.size w w4 := Below.trans (by (repeat (first | (with_reducible exact Below.refl _ _) | (with_reducible assumption) | (with_reducible refine Below.drew ?_) | (focus ((with_reducible refine Below.setCell ?_ ?_ _); rotate_left; (first | omega | (simp <;> omega)))) | (focus ((with_reducible refine Below.alloc ?_ ?_ _); rotate_left; (first | omega | (simp <;> omega)))) | exact Below.refl _ _ | assumption | refine Below.drew ?_ | refine Below.alloc ?_ (by first | omega | (simp <;> omega)) _ | refine Below.setCell ?_ (by first | omega | (simp <;> omega)) _))) (hb_w4.mono (by first | omega | (simp <;> omega)))
  clear hb_w4 c_w4_w2_0 f_w4_w2_0 c_w4_w3_0 f_w4_w3_0
  try clear c_w3_w2_0_0
  try clear f_w3_w2_0_0
  try clear c_w3_w2_0_1
  try clear f_w3_w2_0_1
  try clear c_w3_w2_0_2
  try clear f_w3_w2_0_2
  try clear c_w3_w2_0_3
  try clear f_w3_w2_0_3
  try clear c_w3_w2_0_4
  try clear f_w3_w2_0_4
  try clear c_w3_w2_0_5
  try clear f_w3_w2_0_5
  try clear far_w3_w2_0
  try clear hB_w3
  have far_w4_w2_0 := far (show w2.heap.size < w4.heap.size by omega)
  have far_w4_w3_0 := far (show w3.heap.size < w4.heap.size by omega)
  go_wp2
  go_ret
  exact ⟨ret_bool (by simp), by (repeat (first | (with_reducible exact Below.refl _ _) | (with_reducible assumption) | (with_reducible refine Below.drew ?_) | (focus ((with_reducible refine Below.setCell ?_ ?_ _); rotate_left; (first | omega | (simp <;> omega)))) | (focus ((with_reducible refine Below.alloc ?_ ?_ _); rotate_left; (first | omega | (simp <;> omega)))) | exact Below.refl _ _ | assumption | refine Below.drew ?_ | refine Below.alloc ?_ (by first | omega | (simp <;> omega)) _ | refine Below.setCell ?_ (by first | omega | (simp <;> omega)) _))⟩

theorem uriResolves_any (a0 : Bool) (a1 : ByteArray) (a2 : Int) (a3 : ByteArray) (a4 : Bool) (a5 : ByteArray) (b0 : Bool) (b1 : ByteArray) (b2 : Int) (b3 : ByteArray) (b4 : Bool) (b5 : ByteArray) (W : World)
    (h1 : a1.size ≤ maxLen) (h2 : (Lit.int .i64 a2).wf) (h3 : a3.size ≤ maxLen) (h5 : a5.size ≤ maxLen) (k1 : b1.size ≤ maxLen) (k2 : (Lit.int .i64 b2).wf) (k3 : b3.size ≤ maxLen) (k5 : b5.size ≤ maxLen) (hL : Laid W) :
    Calls Tryd.prog 3 #[.agg #[.bool a0, .string a1, .int .i64 a2, .string a3, .bool a4, .string a5], .agg #[.bool b0, .string b1, .int .i64 b2, .string b3, .bool b4, .string b5]] W fun e w' => e = .returned (.bool true) ∧ Below W.heap.size W w' := by
  obtain ⟨l1, rfl⟩ := S_of a1
  obtain ⟨l3, rfl⟩ := S_of a3
  obtain ⟨l5, rfl⟩ := S_of a5
  obtain ⟨m1, rfl⟩ := S_of b1
  obtain ⟨m3, rfl⟩ := S_of b3
  obtain ⟨m5, rfl⟩ := S_of b5
  rw [S_size] at h1 h3 h5 k1 k3 k5
  exact uriResolves ⟨a0, l1, a2, l3, a4, l5⟩ ⟨b0, m1, b2, m3, b4, m5⟩ ⟨h1, h3, h5⟩ ⟨k1, k3, k5⟩ W hL
end Go.Proofs.YtcjekdoooekmlaaDoor
