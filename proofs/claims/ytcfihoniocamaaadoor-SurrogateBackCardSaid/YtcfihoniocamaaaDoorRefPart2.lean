/- The document's part of a field, way by way (printed by tools/refpart.py). -/
import Derived.Test.YtcfihoniocamaaaDoorRefPart
namespace Go.Proofs.YtcfihoniocamaaaDoor
open Go.RowKit Go.Sort Go.Shelf
set_option linter.unusedVariables false
set_option linter.unusedSimpArgs false

theorem wordW_of {p x dev : List UInt8} (h : (splitL 59 p = some [x] ∧ dev = []) ∨ (splitL 59 p = some [x, dev] ∧ tokenL dev = true)) : wordW p = match splitL 61 x with
    | none => none
    | some m => if 2 < m.length ∨ tokenL (m.getD 0 []) = false then none else
      if m.length = 2 then (valueW (m.getD 1 [])).map fun v => (lower (m.getD 0 []), v, dev) else some (lower (m.getD 0 []), [], dev) := by
  unfold wordW
  rcases h with ⟨h1, rfl⟩ | ⟨h1, h2⟩
  · rw [h1]; simp; cases splitL 61 x <;> rfl
  · rw [h1]; simp [h2]; cases splitL 61 x <;> rfl

set_option maxHeartbeats 3200000 in
set_option maxRecDepth 100000 in
theorem refPart_one_none (p : List UInt8) (hp : p.length ≤ 1000000) (x : List UInt8) (h59 : splitL 59 p = some [x]) (hx : x.length ≤ 1000000) (h61 : splitL 61 x = none) (w : World) : Calls Tryd.prog 37 #[.string (S p)] w fun e w' => PartTo w p e w' := by
  have hW := wordW_of (p := p) (x := x) (dev := []) (.inl ⟨h59, rfl⟩)
  rw [h61] at hW
  have hW : wordW p = none := hW
  unfold PartTo
  rw [hW]
  have SP := Lib.hid (fun W => refSplit_some hp h59 W)
  have SP2 := Lib.hid (fun W => refSplit_none hx h61 W)
  clear h59 h61 hW
  go_enter Tryd.func37, Tryd.ntmps37
  go_wp2_with fail
  refine Calls.mono (SP.out _) ?_
  rintro e w1 ⟨v1, rfl, ho, hb_w1⟩
  have hz_w1 := hb_w1.size
  try simp at hz_w1
  obtain ⟨c_w1_w_0, f_w1_w_0⟩ := bk hb_w1 (w.heap.size) (by first | omega | (simp <;> omega))
  have c_w1_w_0_0 := c_w1_w_0 0
  conv at c_w1_w_0_0 => rhs; simp [go_sem, *]
  have f_w1_w_0_0 := f_w1_w_0 0
  conv at f_w1_w_0_0 => rhs; simp [go_sem, *]
  have c_w1_w_0_1 := c_w1_w_0 1
  conv at c_w1_w_0_1 => rhs; simp [go_sem, *]
  have f_w1_w_0_1 := f_w1_w_0 1
  conv at f_w1_w_0_1 => rhs; simp [go_sem, *]
  have c_w1_w_0_2 := c_w1_w_0 2
  conv at c_w1_w_0_2 => rhs; simp [go_sem, *]
  have f_w1_w_0_2 := f_w1_w_0 2
  conv at f_w1_w_0_2 => rhs; simp [go_sem, *]
  obtain ⟨c_w1_w_1, f_w1_w_1⟩ := bk hb_w1 (w.heap.size + 1) (by first | omega | (simp <;> omega))
  have c_w1_w_1_0 := c_w1_w_1 0
  conv at c_w1_w_1_0 => rhs; simp [go_sem, *]
  have f_w1_w_1_0 := f_w1_w_1 0
  conv at f_w1_w_1_0 => rhs; simp [go_sem, *]
  have c_w1_w_1_1 := c_w1_w_1 1
  conv at c_w1_w_1_1 => rhs; simp [go_sem, *]
  have f_w1_w_1_1 := f_w1_w_1 1
  conv at f_w1_w_1_1 => rhs; simp [go_sem, *]
  have c_w1_w_1_2 := c_w1_w_1 2
  conv at c_w1_w_1_2 => rhs; simp [go_sem, *]
  have f_w1_w_1_2 := f_w1_w_1 2
  conv at f_w1_w_1_2 => rhs; simp [go_sem, *]
  have HH_w1 := Lib.hid hb_w1
  have hB_w1 : Below w.heap.size w w1 := Below.trans (by (repeat (first | (with_reducible exact Below.refl _ _) | (with_reducible assumption) | (with_reducible refine Below.drew ?_) | (focus ((with_reducible refine Below.setCell ?_ ?_ _); rotate_left; (first | omega | (simp <;> omega)))) | (focus ((with_reducible refine Below.alloc ?_ ?_ _); rotate_left; (first | omega | (simp <;> omega)))) | exact Below.refl _ _ | assumption | refine Below.drew ?_ | refine Below.alloc ?_ (by first | omega | (simp <;> omega)) _ | refine Below.setCell ?_ (by first | omega | (simp <;> omega)) _))) (hb_w1.mono (by first | omega | (simp <;> omega)))
  clear hb_w1 c_w1_w_0 f_w1_w_0 c_w1_w_1 f_w1_w_1
  have far_w1_w_0 := far (show w.heap.size < w1.heap.size by omega)
  have far_w1_w_1 := far (show w.heap.size + 1 < w1.heap.size by omega)
  obtain ⟨g, cap, h1, _, _, hg, hc⟩ := ho.at 0 (by simp)
  subst h1
  have e0 := hc 0 (by simp)
  simp only [List.getElem_cons_zero, List.getElem_cons_succ, List.length_cons, List.length_nil] at e0  ⊢
  clear hc ho
  go_wp2_with fail
  refine Calls.mono (SP2.out _) ?_
  rintro e w2 ⟨v2, rfl, ho2, hb_w2⟩
  have hz_w2 := hb_w2.size
  try simp at hz_w2
  obtain ⟨c_w2_w_0, f_w2_w_0⟩ := bk hb_w2 (w.heap.size) (by first | omega | (simp <;> omega))
  have c_w2_w_0_0 := c_w2_w_0 0
  conv at c_w2_w_0_0 => rhs; simp [go_sem, *]
  have f_w2_w_0_0 := f_w2_w_0 0
  conv at f_w2_w_0_0 => rhs; simp [go_sem, *]
  have c_w2_w_0_1 := c_w2_w_0 1
  conv at c_w2_w_0_1 => rhs; simp [go_sem, *]
  have f_w2_w_0_1 := f_w2_w_0 1
  conv at f_w2_w_0_1 => rhs; simp [go_sem, *]
  have c_w2_w_0_2 := c_w2_w_0 2
  conv at c_w2_w_0_2 => rhs; simp [go_sem, *]
  have f_w2_w_0_2 := f_w2_w_0 2
  conv at f_w2_w_0_2 => rhs; simp [go_sem, *]
  obtain ⟨c_w2_w_1, f_w2_w_1⟩ := bk hb_w2 (w.heap.size + 1) (by first | omega | (simp <;> omega))
  have c_w2_w_1_0 := c_w2_w_1 0
  conv at c_w2_w_1_0 => rhs; simp [go_sem, *]
  have f_w2_w_1_0 := f_w2_w_1 0
  conv at f_w2_w_1_0 => rhs; simp [go_sem, *]
  have c_w2_w_1_1 := c_w2_w_1 1
  conv at c_w2_w_1_1 => rhs; simp [go_sem, *]
  have f_w2_w_1_1 := f_w2_w_1 1
  conv at f_w2_w_1_1 => rhs; simp [go_sem, *]
  have c_w2_w_1_2 := c_w2_w_1 2
  conv at c_w2_w_1_2 => rhs; simp [go_sem, *]
  have f_w2_w_1_2 := f_w2_w_1 2
  conv at f_w2_w_1_2 => rhs; simp [go_sem, *]
  have HH_w2 := Lib.hid hb_w2
  have hB_w2 : Below w.heap.size w w2 := Below.trans (by (repeat (first | (with_reducible exact Below.refl _ _) | (with_reducible assumption) | (with_reducible refine Below.drew ?_) | (focus ((with_reducible refine Below.setCell ?_ ?_ _); rotate_left; (first | omega | (simp <;> omega)))) | (focus ((with_reducible refine Below.alloc ?_ ?_ _); rotate_left; (first | omega | (simp <;> omega)))) | exact Below.refl _ _ | assumption | refine Below.drew ?_ | refine Below.alloc ?_ (by first | omega | (simp <;> omega)) _ | refine Below.setCell ?_ (by first | omega | (simp <;> omega)) _))) (hb_w2.mono (by first | omega | (simp <;> omega)))
  clear hb_w2 c_w2_w_0 f_w2_w_0 c_w2_w_1 f_w2_w_1
  try clear c_w1_w_0_0
  try clear f_w1_w_0_0
  try clear c_w1_w_0_1
  try clear f_w1_w_0_1
  try clear c_w1_w_0_2
  try clear f_w1_w_0_2
  try clear c_w1_w_1_0
  try clear f_w1_w_1_0
  try clear c_w1_w_1_1
  try clear f_w1_w_1_1
  try clear c_w1_w_1_2
  try clear f_w1_w_1_2
  try clear far_w1_w_0
  try clear far_w1_w_1
  try clear hB_w1
  have far_w2_w_0 := far (show w.heap.size < w2.heap.size by omega)
  have far_w2_w_1 := far (show w.heap.size + 1 < w2.heap.size by omega)
  go_wp2
  refine bodyPost_ret (v := .tuple #[.agg #[.string (S ([])), .string (S ([])), .string (S ([]))], .bool false]) (by simp [results, Tryd.results37, go_sem, *]) rfl ⟨[], [], [], rfl, (fun y hy => by cases hy), ?_⟩
  (repeat (first | (with_reducible exact Below.refl _ _) | (with_reducible assumption) | (with_reducible refine Below.drew ?_) | (focus ((with_reducible refine Below.setCell ?_ ?_ _); rotate_left; (first | omega | (simp <;> omega)))) | (focus ((with_reducible refine Below.alloc ?_ ?_ _); rotate_left; (first | omega | (simp <;> omega)))) | exact Below.refl _ _ | assumption | refine Below.drew ?_ | refine Below.alloc ?_ (by first | omega | (simp <;> omega)) _ | refine Below.setCell ?_ (by first | omega | (simp <;> omega)) _))

set_option maxHeartbeats 3200000 in
set_option maxRecDepth 100000 in
theorem refPart_one_many (p : List UInt8) (hp : p.length ≤ 1000000) (x : List UInt8) (h59 : splitL 59 p = some [x]) (hx : x.length ≤ 1000000) (m : List (List UInt8)) (h61 : splitL 61 x = some m) (hm : 2 < m.length) (hmm : m.length ≤ 1000001) (w : World) : Calls Tryd.prog 37 #[.string (S p)] w fun e w' => PartTo w p e w' := by
  have hW := wordW_of (p := p) (x := x) (dev := []) (.inl ⟨h59, rfl⟩)
  rw [h61] at hW
  have hW : wordW p = none := hW.trans (if_pos (.inl hm))
  unfold PartTo
  rw [hW]
  have SP := Lib.hid (fun W => refSplit_some hp h59 W)
  have SP2 := Lib.hid (fun W => refSplit_some hx h61 W)
  have hmi : 2 < (m.length : Int) := by omega
  clear h59 h61 hW
  go_enter Tryd.func37, Tryd.ntmps37
  go_wp2_with fail
  refine Calls.mono (SP.out _) ?_
  rintro e w1 ⟨v1, rfl, ho, hb_w1⟩
  have hz_w1 := hb_w1.size
  try simp at hz_w1
  obtain ⟨c_w1_w_0, f_w1_w_0⟩ := bk hb_w1 (w.heap.size) (by first | omega | (simp <;> omega))
  have c_w1_w_0_0 := c_w1_w_0 0
  conv at c_w1_w_0_0 => rhs; simp [go_sem, *]
  have f_w1_w_0_0 := f_w1_w_0 0
  conv at f_w1_w_0_0 => rhs; simp [go_sem, *]
  have c_w1_w_0_1 := c_w1_w_0 1
  conv at c_w1_w_0_1 => rhs; simp [go_sem, *]
  have f_w1_w_0_1 := f_w1_w_0 1
  conv at f_w1_w_0_1 => rhs; simp [go_sem, *]
  have c_w1_w_0_2 := c_w1_w_0 2
  conv at c_w1_w_0_2 => rhs; simp [go_sem, *]
  have f_w1_w_0_2 := f_w1_w_0 2
  conv at f_w1_w_0_2 => rhs; simp [go_sem, *]
  obtain ⟨c_w1_w_1, f_w1_w_1⟩ := bk hb_w1 (w.heap.size + 1) (by first | omega | (simp <;> omega))
  have c_w1_w_1_0 := c_w1_w_1 0
  conv at c_w1_w_1_0 => rhs; simp [go_sem, *]
  have f_w1_w_1_0 := f_w1_w_1 0
  conv at f_w1_w_1_0 => rhs; simp [go_sem, *]
  have c_w1_w_1_1 := c_w1_w_1 1
  conv at c_w1_w_1_1 => rhs; simp [go_sem, *]
  have f_w1_w_1_1 := f_w1_w_1 1
  conv at f_w1_w_1_1 => rhs; simp [go_sem, *]
  have c_w1_w_1_2 := c_w1_w_1 2
  conv at c_w1_w_1_2 => rhs; simp [go_sem, *]
  have f_w1_w_1_2 := f_w1_w_1 2
  conv at f_w1_w_1_2 => rhs; simp [go_sem, *]
  have HH_w1 := Lib.hid hb_w1
  have hB_w1 : Below w.heap.size w w1 := Below.trans (by (repeat (first | (with_reducible exact Below.refl _ _) | (with_reducible assumption) | (with_reducible refine Below.drew ?_) | (focus ((with_reducible refine Below.setCell ?_ ?_ _); rotate_left; (first | omega | (simp <;> omega)))) | (focus ((with_reducible refine Below.alloc ?_ ?_ _); rotate_left; (first | omega | (simp <;> omega)))) | exact Below.refl _ _ | assumption | refine Below.drew ?_ | refine Below.alloc ?_ (by first | omega | (simp <;> omega)) _ | refine Below.setCell ?_ (by first | omega | (simp <;> omega)) _))) (hb_w1.mono (by first | omega | (simp <;> omega)))
  clear hb_w1 c_w1_w_0 f_w1_w_0 c_w1_w_1 f_w1_w_1
  have far_w1_w_0 := far (show w.heap.size < w1.heap.size by omega)
  have far_w1_w_1 := far (show w.heap.size + 1 < w1.heap.size by omega)
  obtain ⟨g, cap, h1, _, _, hg, hc⟩ := ho.at 0 (by simp)
  subst h1
  have e0 := hc 0 (by simp)
  simp only [List.getElem_cons_zero, List.getElem_cons_succ, List.length_cons, List.length_nil] at e0  ⊢
  clear hc ho
  go_wp2_with fail
  refine Calls.mono (SP2.out _) ?_
  rintro e w2 ⟨v2, rfl, ho2, hb_w2⟩
  have hz_w2 := hb_w2.size
  try simp at hz_w2
  obtain ⟨c_w2_w_0, f_w2_w_0⟩ := bk hb_w2 (w.heap.size) (by first | omega | (simp <;> omega))
  have c_w2_w_0_0 := c_w2_w_0 0
  conv at c_w2_w_0_0 => rhs; simp [go_sem, *]
  have f_w2_w_0_0 := f_w2_w_0 0
  conv at f_w2_w_0_0 => rhs; simp [go_sem, *]
  have c_w2_w_0_1 := c_w2_w_0 1
  conv at c_w2_w_0_1 => rhs; simp [go_sem, *]
  have f_w2_w_0_1 := f_w2_w_0 1
  conv at f_w2_w_0_1 => rhs; simp [go_sem, *]
  have c_w2_w_0_2 := c_w2_w_0 2
  conv at c_w2_w_0_2 => rhs; simp [go_sem, *]
  have f_w2_w_0_2 := f_w2_w_0 2
  conv at f_w2_w_0_2 => rhs; simp [go_sem, *]
  obtain ⟨c_w2_w_1, f_w2_w_1⟩ := bk hb_w2 (w.heap.size + 1) (by first | omega | (simp <;> omega))
  have c_w2_w_1_0 := c_w2_w_1 0
  conv at c_w2_w_1_0 => rhs; simp [go_sem, *]
  have f_w2_w_1_0 := f_w2_w_1 0
  conv at f_w2_w_1_0 => rhs; simp [go_sem, *]
  have c_w2_w_1_1 := c_w2_w_1 1
  conv at c_w2_w_1_1 => rhs; simp [go_sem, *]
  have f_w2_w_1_1 := f_w2_w_1 1
  conv at f_w2_w_1_1 => rhs; simp [go_sem, *]
  have c_w2_w_1_2 := c_w2_w_1 2
  conv at c_w2_w_1_2 => rhs; simp [go_sem, *]
  have f_w2_w_1_2 := f_w2_w_1 2
  conv at f_w2_w_1_2 => rhs; simp [go_sem, *]
  have HH_w2 := Lib.hid hb_w2
  have hB_w2 : Below w.heap.size w w2 := Below.trans (by (repeat (first | (with_reducible exact Below.refl _ _) | (with_reducible assumption) | (with_reducible refine Below.drew ?_) | (focus ((with_reducible refine Below.setCell ?_ ?_ _); rotate_left; (first | omega | (simp <;> omega)))) | (focus ((with_reducible refine Below.alloc ?_ ?_ _); rotate_left; (first | omega | (simp <;> omega)))) | exact Below.refl _ _ | assumption | refine Below.drew ?_ | refine Below.alloc ?_ (by first | omega | (simp <;> omega)) _ | refine Below.setCell ?_ (by first | omega | (simp <;> omega)) _))) (hb_w2.mono (by first | omega | (simp <;> omega)))
  clear hb_w2 c_w2_w_0 f_w2_w_0 c_w2_w_1 f_w2_w_1
  try clear c_w1_w_0_0
  try clear f_w1_w_0_0
  try clear c_w1_w_0_1
  try clear f_w1_w_0_1
  try clear c_w1_w_0_2
  try clear f_w1_w_0_2
  try clear c_w1_w_1_0
  try clear f_w1_w_1_0
  try clear c_w1_w_1_1
  try clear f_w1_w_1_1
  try clear c_w1_w_1_2
  try clear f_w1_w_1_2
  try clear far_w1_w_0
  try clear far_w1_w_1
  try clear hB_w1
  have far_w2_w_0 := far (show w.heap.size < w2.heap.size by omega)
  have far_w2_w_1 := far (show w.heap.size + 1 < w2.heap.size by omega)
  obtain ⟨ao, cap2, h2, _⟩ := ho2.shape
  subst h2
  go_wp2
  refine bodyPost_ret (v := .tuple #[.agg #[.string (S ([])), .string (S ([])), .string (S ([]))], .bool false]) (by simp [results, Tryd.results37, go_sem, *]) rfl ⟨[], [], [], rfl, (fun y hy => by cases hy), ?_⟩
  (repeat (first | (with_reducible exact Below.refl _ _) | (with_reducible assumption) | (with_reducible refine Below.drew ?_) | (focus ((with_reducible refine Below.setCell ?_ ?_ _); rotate_left; (first | omega | (simp <;> omega)))) | (focus ((with_reducible refine Below.alloc ?_ ?_ _); rotate_left; (first | omega | (simp <;> omega)))) | exact Below.refl _ _ | assumption | refine Below.drew ?_ | refine Below.alloc ?_ (by first | omega | (simp <;> omega)) _ | refine Below.setCell ?_ (by first | omega | (simp <;> omega)) _))

set_option maxHeartbeats 3200000 in
set_option maxRecDepth 100000 in
theorem refPart_one_bad1 (p : List UInt8) (hp : p.length ≤ 1000000) (x : List UInt8) (h59 : splitL 59 p = some [x]) (hx : x.length ≤ 1000000) (n : List UInt8) (h61 : splitL 61 x = some [n]) (hn : n.length ≤ 1000000) (htn : tokenL n = false) (w : World) : Calls Tryd.prog 37 #[.string (S p)] w fun e w' => PartTo w p e w' := by
  have hW := wordW_of (p := p) (x := x) (dev := []) (.inl ⟨h59, rfl⟩)
  rw [h61] at hW
  have hW : wordW p = none := hW.trans (if_pos (.inr htn))
  unfold PartTo
  rw [hW]
  have SP := Lib.hid (fun W => refSplit_some hp h59 W)
  have SP2 := Lib.hid (fun W => refSplit_some hx h61 W)
  have TN := Lib.hid (fun W => refToken n (by omega) W)
  rw [htn] at TN
  clear h59 h61 hW htn
  go_enter Tryd.func37, Tryd.ntmps37
  go_wp2_with fail
  refine Calls.mono (SP.out _) ?_
  rintro e w1 ⟨v1, rfl, ho, hb_w1⟩
  have hz_w1 := hb_w1.size
  try simp at hz_w1
  obtain ⟨c_w1_w_0, f_w1_w_0⟩ := bk hb_w1 (w.heap.size) (by first | omega | (simp <;> omega))
  have c_w1_w_0_0 := c_w1_w_0 0
  conv at c_w1_w_0_0 => rhs; simp [go_sem, *]
  have f_w1_w_0_0 := f_w1_w_0 0
  conv at f_w1_w_0_0 => rhs; simp [go_sem, *]
  have c_w1_w_0_1 := c_w1_w_0 1
  conv at c_w1_w_0_1 => rhs; simp [go_sem, *]
  have f_w1_w_0_1 := f_w1_w_0 1
  conv at f_w1_w_0_1 => rhs; simp [go_sem, *]
  have c_w1_w_0_2 := c_w1_w_0 2
  conv at c_w1_w_0_2 => rhs; simp [go_sem, *]
  have f_w1_w_0_2 := f_w1_w_0 2
  conv at f_w1_w_0_2 => rhs; simp [go_sem, *]
  obtain ⟨c_w1_w_1, f_w1_w_1⟩ := bk hb_w1 (w.heap.size + 1) (by first | omega | (simp <;> omega))
  have c_w1_w_1_0 := c_w1_w_1 0
  conv at c_w1_w_1_0 => rhs; simp [go_sem, *]
  have f_w1_w_1_0 := f_w1_w_1 0
  conv at f_w1_w_1_0 => rhs; simp [go_sem, *]
  have c_w1_w_1_1 := c_w1_w_1 1
  conv at c_w1_w_1_1 => rhs; simp [go_sem, *]
  have f_w1_w_1_1 := f_w1_w_1 1
  conv at f_w1_w_1_1 => rhs; simp [go_sem, *]
  have c_w1_w_1_2 := c_w1_w_1 2
  conv at c_w1_w_1_2 => rhs; simp [go_sem, *]
  have f_w1_w_1_2 := f_w1_w_1 2
  conv at f_w1_w_1_2 => rhs; simp [go_sem, *]
  have HH_w1 := Lib.hid hb_w1
  have hB_w1 : Below w.heap.size w w1 := Below.trans (by (repeat (first | (with_reducible exact Below.refl _ _) | (with_reducible assumption) | (with_reducible refine Below.drew ?_) | (focus ((with_reducible refine Below.setCell ?_ ?_ _); rotate_left; (first | omega | (simp <;> omega)))) | (focus ((with_reducible refine Below.alloc ?_ ?_ _); rotate_left; (first | omega | (simp <;> omega)))) | exact Below.refl _ _ | assumption | refine Below.drew ?_ | refine Below.alloc ?_ (by first | omega | (simp <;> omega)) _ | refine Below.setCell ?_ (by first | omega | (simp <;> omega)) _))) (hb_w1.mono (by first | omega | (simp <;> omega)))
  clear hb_w1 c_w1_w_0 f_w1_w_0 c_w1_w_1 f_w1_w_1
  have far_w1_w_0 := far (show w.heap.size < w1.heap.size by omega)
  have far_w1_w_1 := far (show w.heap.size + 1 < w1.heap.size by omega)
  obtain ⟨g, cap, h1, _, _, hg, hc⟩ := ho.at 0 (by simp)
  subst h1
  have e0 := hc 0 (by simp)
  simp only [List.getElem_cons_zero, List.getElem_cons_succ, List.length_cons, List.length_nil] at e0  ⊢
  clear hc ho
  go_wp2_with fail
  refine Calls.mono (SP2.out _) ?_
  rintro e w2 ⟨v2, rfl, ho2, hb_w2⟩
  have hz_w2 := hb_w2.size
  try simp at hz_w2
  obtain ⟨c_w2_w_0, f_w2_w_0⟩ := bk hb_w2 (w.heap.size) (by first | omega | (simp <;> omega))
  have c_w2_w_0_0 := c_w2_w_0 0
  conv at c_w2_w_0_0 => rhs; simp [go_sem, *]
  have f_w2_w_0_0 := f_w2_w_0 0
  conv at f_w2_w_0_0 => rhs; simp [go_sem, *]
  have c_w2_w_0_1 := c_w2_w_0 1
  conv at c_w2_w_0_1 => rhs; simp [go_sem, *]
  have f_w2_w_0_1 := f_w2_w_0 1
  conv at f_w2_w_0_1 => rhs; simp [go_sem, *]
  have c_w2_w_0_2 := c_w2_w_0 2
  conv at c_w2_w_0_2 => rhs; simp [go_sem, *]
  have f_w2_w_0_2 := f_w2_w_0 2
  conv at f_w2_w_0_2 => rhs; simp [go_sem, *]
  obtain ⟨c_w2_w_1, f_w2_w_1⟩ := bk hb_w2 (w.heap.size + 1) (by first | omega | (simp <;> omega))
  have c_w2_w_1_0 := c_w2_w_1 0
  conv at c_w2_w_1_0 => rhs; simp [go_sem, *]
  have f_w2_w_1_0 := f_w2_w_1 0
  conv at f_w2_w_1_0 => rhs; simp [go_sem, *]
  have c_w2_w_1_1 := c_w2_w_1 1
  conv at c_w2_w_1_1 => rhs; simp [go_sem, *]
  have f_w2_w_1_1 := f_w2_w_1 1
  conv at f_w2_w_1_1 => rhs; simp [go_sem, *]
  have c_w2_w_1_2 := c_w2_w_1 2
  conv at c_w2_w_1_2 => rhs; simp [go_sem, *]
  have f_w2_w_1_2 := f_w2_w_1 2
  conv at f_w2_w_1_2 => rhs; simp [go_sem, *]
  have HH_w2 := Lib.hid hb_w2
  have hB_w2 : Below w.heap.size w w2 := Below.trans (by (repeat (first | (with_reducible exact Below.refl _ _) | (with_reducible assumption) | (with_reducible refine Below.drew ?_) | (focus ((with_reducible refine Below.setCell ?_ ?_ _); rotate_left; (first | omega | (simp <;> omega)))) | (focus ((with_reducible refine Below.alloc ?_ ?_ _); rotate_left; (first | omega | (simp <;> omega)))) | exact Below.refl _ _ | assumption | refine Below.drew ?_ | refine Below.alloc ?_ (by first | omega | (simp <;> omega)) _ | refine Below.setCell ?_ (by first | omega | (simp <;> omega)) _))) (hb_w2.mono (by first | omega | (simp <;> omega)))
  clear hb_w2 c_w2_w_0 f_w2_w_0 c_w2_w_1 f_w2_w_1
  try clear c_w1_w_0_0
  try clear f_w1_w_0_0
  try clear c_w1_w_0_1
  try clear f_w1_w_0_1
  try clear c_w1_w_0_2
  try clear f_w1_w_0_2
  try clear c_w1_w_1_0
  try clear f_w1_w_1_0
  try clear c_w1_w_1_1
  try clear f_w1_w_1_1
  try clear c_w1_w_1_2
  try clear f_w1_w_1_2
  try clear far_w1_w_0
  try clear far_w1_w_1
  try clear hB_w1
  have far_w2_w_0 := far (show w.heap.size < w2.heap.size by omega)
  have far_w2_w_1 := far (show w.heap.size + 1 < w2.heap.size by omega)
  obtain ⟨g2, cap2, h2, _, _, hg2, hc2⟩ := ho2.at 0 (by simp)
  subst h2
  have hgl : w.heap.size + 1 < g2 := by have := (World.ownsRow.lt ho2 g2 rfl).1; (try simp at this); omega
  have hgl1 := far hgl
  have hgl0 := far (show w.heap.size < g2 by omega)
  have k0 := hc2 0 (by simp)
  simp only [List.getElem_cons_zero, List.getElem_cons_succ, List.length_cons, List.length_nil] at k0  ⊢
  clear hc2 ho2
  go_wp2_with (go_at_call 43; refine Calls.mono (TN.out _) ?_; rintro e w' ⟨rfl, hw'⟩; obtain rfl := hw'.symm)
  refine bodyPost_ret (v := .tuple #[.agg #[.string (S ([])), .string (S ([])), .string (S ([]))], .bool false]) (by simp [results, Tryd.results37, go_sem, *]) rfl ⟨[], [], [], rfl, (fun y hy => by cases hy), ?_⟩
  (repeat (first | (with_reducible exact Below.refl _ _) | (with_reducible assumption) | (with_reducible refine Below.drew ?_) | (focus ((with_reducible refine Below.setCell ?_ ?_ _); rotate_left; (first | omega | (simp <;> omega)))) | (focus ((with_reducible refine Below.alloc ?_ ?_ _); rotate_left; (first | omega | (simp <;> omega)))) | exact Below.refl _ _ | assumption | refine Below.drew ?_ | refine Below.alloc ?_ (by first | omega | (simp <;> omega)) _ | refine Below.setCell ?_ (by first | omega | (simp <;> omega)) _))

set_option maxHeartbeats 3200000 in
set_option maxRecDepth 100000 in
theorem refPart_one_bad2 (p : List UInt8) (hp : p.length ≤ 1000000) (x : List UInt8) (h59 : splitL 59 p = some [x]) (hx : x.length ≤ 1000000) (n v : List UInt8) (h61 : splitL 61 x = some [n, v]) (hn : n.length ≤ 1000000) (htn : tokenL n = false) (w : World) : Calls Tryd.prog 37 #[.string (S p)] w fun e w' => PartTo w p e w' := by
  have hW := wordW_of (p := p) (x := x) (dev := []) (.inl ⟨h59, rfl⟩)
  rw [h61] at hW
  have hW : wordW p = none := hW.trans (if_pos (.inr htn))
  unfold PartTo
  rw [hW]
  have SP := Lib.hid (fun W => refSplit_some hp h59 W)
  have SP2 := Lib.hid (fun W => refSplit_some hx h61 W)
  have TN := Lib.hid (fun W => refToken n (by omega) W)
  rw [htn] at TN
  clear h59 h61 hW htn
  go_enter Tryd.func37, Tryd.ntmps37
  go_wp2_with fail
  refine Calls.mono (SP.out _) ?_
  rintro e w1 ⟨v1, rfl, ho, hb_w1⟩
  have hz_w1 := hb_w1.size
  try simp at hz_w1
  obtain ⟨c_w1_w_0, f_w1_w_0⟩ := bk hb_w1 (w.heap.size) (by first | omega | (simp <;> omega))
  have c_w1_w_0_0 := c_w1_w_0 0
  conv at c_w1_w_0_0 => rhs; simp [go_sem, *]
  have f_w1_w_0_0 := f_w1_w_0 0
  conv at f_w1_w_0_0 => rhs; simp [go_sem, *]
  have c_w1_w_0_1 := c_w1_w_0 1
  conv at c_w1_w_0_1 => rhs; simp [go_sem, *]
  have f_w1_w_0_1 := f_w1_w_0 1
  conv at f_w1_w_0_1 => rhs; simp [go_sem, *]
  have c_w1_w_0_2 := c_w1_w_0 2
  conv at c_w1_w_0_2 => rhs; simp [go_sem, *]
  have f_w1_w_0_2 := f_w1_w_0 2
  conv at f_w1_w_0_2 => rhs; simp [go_sem, *]
  obtain ⟨c_w1_w_1, f_w1_w_1⟩ := bk hb_w1 (w.heap.size + 1) (by first | omega | (simp <;> omega))
  have c_w1_w_1_0 := c_w1_w_1 0
  conv at c_w1_w_1_0 => rhs; simp [go_sem, *]
  have f_w1_w_1_0 := f_w1_w_1 0
  conv at f_w1_w_1_0 => rhs; simp [go_sem, *]
  have c_w1_w_1_1 := c_w1_w_1 1
  conv at c_w1_w_1_1 => rhs; simp [go_sem, *]
  have f_w1_w_1_1 := f_w1_w_1 1
  conv at f_w1_w_1_1 => rhs; simp [go_sem, *]
  have c_w1_w_1_2 := c_w1_w_1 2
  conv at c_w1_w_1_2 => rhs; simp [go_sem, *]
  have f_w1_w_1_2 := f_w1_w_1 2
  conv at f_w1_w_1_2 => rhs; simp [go_sem, *]
  have HH_w1 := Lib.hid hb_w1
  have hB_w1 : Below w.heap.size w w1 := Below.trans (by (repeat (first | (with_reducible exact Below.refl _ _) | (with_reducible assumption) | (with_reducible refine Below.drew ?_) | (focus ((with_reducible refine Below.setCell ?_ ?_ _); rotate_left; (first | omega | (simp <;> omega)))) | (focus ((with_reducible refine Below.alloc ?_ ?_ _); rotate_left; (first | omega | (simp <;> omega)))) | exact Below.refl _ _ | assumption | refine Below.drew ?_ | refine Below.alloc ?_ (by first | omega | (simp <;> omega)) _ | refine Below.setCell ?_ (by first | omega | (simp <;> omega)) _))) (hb_w1.mono (by first | omega | (simp <;> omega)))
  clear hb_w1 c_w1_w_0 f_w1_w_0 c_w1_w_1 f_w1_w_1
  have far_w1_w_0 := far (show w.heap.size < w1.heap.size by omega)
  have far_w1_w_1 := far (show w.heap.size + 1 < w1.heap.size by omega)
  obtain ⟨g, cap, h1, _, _, hg, hc⟩ := ho.at 0 (by simp)
  subst h1
  have e0 := hc 0 (by simp)
  simp only [List.getElem_cons_zero, List.getElem_cons_succ, List.length_cons, List.length_nil] at e0  ⊢
  clear hc ho
  go_wp2_with fail
  refine Calls.mono (SP2.out _) ?_
  rintro e w2 ⟨v2, rfl, ho2, hb_w2⟩
  have hz_w2 := hb_w2.size
  try simp at hz_w2
  obtain ⟨c_w2_w_0, f_w2_w_0⟩ := bk hb_w2 (w.heap.size) (by first | omega | (simp <;> omega))
  have c_w2_w_0_0 := c_w2_w_0 0
  conv at c_w2_w_0_0 => rhs; simp [go_sem, *]
  have f_w2_w_0_0 := f_w2_w_0 0
  conv at f_w2_w_0_0 => rhs; simp [go_sem, *]
  have c_w2_w_0_1 := c_w2_w_0 1
  conv at c_w2_w_0_1 => rhs; simp [go_sem, *]
  have f_w2_w_0_1 := f_w2_w_0 1
  conv at f_w2_w_0_1 => rhs; simp [go_sem, *]
  have c_w2_w_0_2 := c_w2_w_0 2
  conv at c_w2_w_0_2 => rhs; simp [go_sem, *]
  have f_w2_w_0_2 := f_w2_w_0 2
  conv at f_w2_w_0_2 => rhs; simp [go_sem, *]
  obtain ⟨c_w2_w_1, f_w2_w_1⟩ := bk hb_w2 (w.heap.size + 1) (by first | omega | (simp <;> omega))
  have c_w2_w_1_0 := c_w2_w_1 0
  conv at c_w2_w_1_0 => rhs; simp [go_sem, *]
  have f_w2_w_1_0 := f_w2_w_1 0
  conv at f_w2_w_1_0 => rhs; simp [go_sem, *]
  have c_w2_w_1_1 := c_w2_w_1 1
  conv at c_w2_w_1_1 => rhs; simp [go_sem, *]
  have f_w2_w_1_1 := f_w2_w_1 1
  conv at f_w2_w_1_1 => rhs; simp [go_sem, *]
  have c_w2_w_1_2 := c_w2_w_1 2
  conv at c_w2_w_1_2 => rhs; simp [go_sem, *]
  have f_w2_w_1_2 := f_w2_w_1 2
  conv at f_w2_w_1_2 => rhs; simp [go_sem, *]
  have HH_w2 := Lib.hid hb_w2
  have hB_w2 : Below w.heap.size w w2 := Below.trans (by (repeat (first | (with_reducible exact Below.refl _ _) | (with_reducible assumption) | (with_reducible refine Below.drew ?_) | (focus ((with_reducible refine Below.setCell ?_ ?_ _); rotate_left; (first | omega | (simp <;> omega)))) | (focus ((with_reducible refine Below.alloc ?_ ?_ _); rotate_left; (first | omega | (simp <;> omega)))) | exact Below.refl _ _ | assumption | refine Below.drew ?_ | refine Below.alloc ?_ (by first | omega | (simp <;> omega)) _ | refine Below.setCell ?_ (by first | omega | (simp <;> omega)) _))) (hb_w2.mono (by first | omega | (simp <;> omega)))
  clear hb_w2 c_w2_w_0 f_w2_w_0 c_w2_w_1 f_w2_w_1
  try clear c_w1_w_0_0
  try clear f_w1_w_0_0
  try clear c_w1_w_0_1
  try clear f_w1_w_0_1
  try clear c_w1_w_0_2
  try clear f_w1_w_0_2
  try clear c_w1_w_1_0
  try clear f_w1_w_1_0
  try clear c_w1_w_1_1
  try clear f_w1_w_1_1
  try clear c_w1_w_1_2
  try clear f_w1_w_1_2
  try clear far_w1_w_0
  try clear far_w1_w_1
  try clear hB_w1
  have far_w2_w_0 := far (show w.heap.size < w2.heap.size by omega)
  have far_w2_w_1 := far (show w.heap.size + 1 < w2.heap.size by omega)
  obtain ⟨g2, cap2, h2, _, _, hg2, hc2⟩ := ho2.at 0 (by simp)
  subst h2
  have hgl : w.heap.size + 1 < g2 := by have := (World.ownsRow.lt ho2 g2 rfl).1; (try simp at this); omega
  have hgl1 := far hgl
  have hgl0 := far (show w.heap.size < g2 by omega)
  have k0 := hc2 0 (by simp)
  have k1 := hc2 1 (by simp)
  simp only [List.getElem_cons_zero, List.getElem_cons_succ, List.length_cons, List.length_nil] at k0 k1 ⊢
  clear hc2 ho2
  go_wp2_with (go_at_call 43; refine Calls.mono (TN.out _) ?_; rintro e w' ⟨rfl, hw'⟩; obtain rfl := hw'.symm)
  refine bodyPost_ret (v := .tuple #[.agg #[.string (S ([])), .string (S ([])), .string (S ([]))], .bool false]) (by simp [results, Tryd.results37, go_sem, *]) rfl ⟨[], [], [], rfl, (fun y hy => by cases hy), ?_⟩
  (repeat (first | (with_reducible exact Below.refl _ _) | (with_reducible assumption) | (with_reducible refine Below.drew ?_) | (focus ((with_reducible refine Below.setCell ?_ ?_ _); rotate_left; (first | omega | (simp <;> omega)))) | (focus ((with_reducible refine Below.alloc ?_ ?_ _); rotate_left; (first | omega | (simp <;> omega)))) | exact Below.refl _ _ | assumption | refine Below.drew ?_ | refine Below.alloc ?_ (by first | omega | (simp <;> omega)) _ | refine Below.setCell ?_ (by first | omega | (simp <;> omega)) _))

set_option maxHeartbeats 3200000 in
set_option maxRecDepth 100000 in
theorem refPart_one_name (p : List UInt8) (hp : p.length ≤ 1000000) (x : List UInt8) (h59 : splitL 59 p = some [x]) (hx : x.length ≤ 1000000) (n : List UInt8) (h61 : splitL 61 x = some [n]) (hn : n.length ≤ 1000000) (htn : tokenL n = true) (w : World) : Calls Tryd.prog 37 #[.string (S p)] w fun e w' => PartTo w p e w' := by
  have hW := wordW_of (p := p) (x := x) (dev := []) (.inl ⟨h59, rfl⟩)
  rw [h61] at hW
  have hW : wordW p = some (lower n, [], []) := hW.trans ((if_neg (by simp [htn])).trans (if_neg (by simp)))
  unfold PartTo
  rw [hW]
  have SP := Lib.hid (fun W => refSplit_some hp h59 W)
  have SP2 := Lib.hid (fun W => refSplit_some hx h61 W)
  have TN := Lib.hid (fun W => refToken n (by omega) W)
  rw [htn] at TN
  have LO := Lib.hid (fun W => refLower n (by omega) W)
  obtain ⟨ln, hln⟩ : ∃ q, lower n = q := ⟨_, rfl⟩
  rw [hln] at LO ⊢
  clear hln
  clear h59 h61 hW htn
  go_enter Tryd.func37, Tryd.ntmps37
  go_wp2_with fail
  refine Calls.mono (SP.out _) ?_
  rintro e w1 ⟨v1, rfl, ho, hb_w1⟩
  have hz_w1 := hb_w1.size
  try simp at hz_w1
  obtain ⟨c_w1_w_0, f_w1_w_0⟩ := bk hb_w1 (w.heap.size) (by first | omega | (simp <;> omega))
  have c_w1_w_0_0 := c_w1_w_0 0
  conv at c_w1_w_0_0 => rhs; simp [go_sem, *]
  have f_w1_w_0_0 := f_w1_w_0 0
  conv at f_w1_w_0_0 => rhs; simp [go_sem, *]
  have c_w1_w_0_1 := c_w1_w_0 1
  conv at c_w1_w_0_1 => rhs; simp [go_sem, *]
  have f_w1_w_0_1 := f_w1_w_0 1
  conv at f_w1_w_0_1 => rhs; simp [go_sem, *]
  have c_w1_w_0_2 := c_w1_w_0 2
  conv at c_w1_w_0_2 => rhs; simp [go_sem, *]
  have f_w1_w_0_2 := f_w1_w_0 2
  conv at f_w1_w_0_2 => rhs; simp [go_sem, *]
  obtain ⟨c_w1_w_1, f_w1_w_1⟩ := bk hb_w1 (w.heap.size + 1) (by first | omega | (simp <;> omega))
  have c_w1_w_1_0 := c_w1_w_1 0
  conv at c_w1_w_1_0 => rhs; simp [go_sem, *]
  have f_w1_w_1_0 := f_w1_w_1 0
  conv at f_w1_w_1_0 => rhs; simp [go_sem, *]
  have c_w1_w_1_1 := c_w1_w_1 1
  conv at c_w1_w_1_1 => rhs; simp [go_sem, *]
  have f_w1_w_1_1 := f_w1_w_1 1
  conv at f_w1_w_1_1 => rhs; simp [go_sem, *]
  have c_w1_w_1_2 := c_w1_w_1 2
  conv at c_w1_w_1_2 => rhs; simp [go_sem, *]
  have f_w1_w_1_2 := f_w1_w_1 2
  conv at f_w1_w_1_2 => rhs; simp [go_sem, *]
  have HH_w1 := Lib.hid hb_w1
  have hB_w1 : Below w.heap.size w w1 := Below.trans (by (repeat (first | (with_reducible exact Below.refl _ _) | (with_reducible assumption) | (with_reducible refine Below.drew ?_) | (focus ((with_reducible refine Below.setCell ?_ ?_ _); rotate_left; (first | omega | (simp <;> omega)))) | (focus ((with_reducible refine Below.alloc ?_ ?_ _); rotate_left; (first | omega | (simp <;> omega)))) | exact Below.refl _ _ | assumption | refine Below.drew ?_ | refine Below.alloc ?_ (by first | omega | (simp <;> omega)) _ | refine Below.setCell ?_ (by first | omega | (simp <;> omega)) _))) (hb_w1.mono (by first | omega | (simp <;> omega)))
  clear hb_w1 c_w1_w_0 f_w1_w_0 c_w1_w_1 f_w1_w_1
  have far_w1_w_0 := far (show w.heap.size < w1.heap.size by omega)
  have far_w1_w_1 := far (show w.heap.size + 1 < w1.heap.size by omega)
  obtain ⟨g, cap, h1, _, _, hg, hc⟩ := ho.at 0 (by simp)
  subst h1
  have e0 := hc 0 (by simp)
  simp only [List.getElem_cons_zero, List.getElem_cons_succ, List.length_cons, List.length_nil] at e0  ⊢
  clear hc ho
  go_wp2_with fail
  refine Calls.mono (SP2.out _) ?_
  rintro e w2 ⟨v2, rfl, ho2, hb_w2⟩
  have hz_w2 := hb_w2.size
  try simp at hz_w2
  obtain ⟨c_w2_w_0, f_w2_w_0⟩ := bk hb_w2 (w.heap.size) (by first | omega | (simp <;> omega))
  have c_w2_w_0_0 := c_w2_w_0 0
  conv at c_w2_w_0_0 => rhs; simp [go_sem, *]
  have f_w2_w_0_0 := f_w2_w_0 0
  conv at f_w2_w_0_0 => rhs; simp [go_sem, *]
  have c_w2_w_0_1 := c_w2_w_0 1
  conv at c_w2_w_0_1 => rhs; simp [go_sem, *]
  have f_w2_w_0_1 := f_w2_w_0 1
  conv at f_w2_w_0_1 => rhs; simp [go_sem, *]
  have c_w2_w_0_2 := c_w2_w_0 2
  conv at c_w2_w_0_2 => rhs; simp [go_sem, *]
  have f_w2_w_0_2 := f_w2_w_0 2
  conv at f_w2_w_0_2 => rhs; simp [go_sem, *]
  obtain ⟨c_w2_w_1, f_w2_w_1⟩ := bk hb_w2 (w.heap.size + 1) (by first | omega | (simp <;> omega))
  have c_w2_w_1_0 := c_w2_w_1 0
  conv at c_w2_w_1_0 => rhs; simp [go_sem, *]
  have f_w2_w_1_0 := f_w2_w_1 0
  conv at f_w2_w_1_0 => rhs; simp [go_sem, *]
  have c_w2_w_1_1 := c_w2_w_1 1
  conv at c_w2_w_1_1 => rhs; simp [go_sem, *]
  have f_w2_w_1_1 := f_w2_w_1 1
  conv at f_w2_w_1_1 => rhs; simp [go_sem, *]
  have c_w2_w_1_2 := c_w2_w_1 2
  conv at c_w2_w_1_2 => rhs; simp [go_sem, *]
  have f_w2_w_1_2 := f_w2_w_1 2
  conv at f_w2_w_1_2 => rhs; simp [go_sem, *]
  have HH_w2 := Lib.hid hb_w2
  have hB_w2 : Below w.heap.size w w2 := Below.trans (by (repeat (first | (with_reducible exact Below.refl _ _) | (with_reducible assumption) | (with_reducible refine Below.drew ?_) | (focus ((with_reducible refine Below.setCell ?_ ?_ _); rotate_left; (first | omega | (simp <;> omega)))) | (focus ((with_reducible refine Below.alloc ?_ ?_ _); rotate_left; (first | omega | (simp <;> omega)))) | exact Below.refl _ _ | assumption | refine Below.drew ?_ | refine Below.alloc ?_ (by first | omega | (simp <;> omega)) _ | refine Below.setCell ?_ (by first | omega | (simp <;> omega)) _))) (hb_w2.mono (by first | omega | (simp <;> omega)))
  clear hb_w2 c_w2_w_0 f_w2_w_0 c_w2_w_1 f_w2_w_1
  try clear c_w1_w_0_0
  try clear f_w1_w_0_0
  try clear c_w1_w_0_1
  try clear f_w1_w_0_1
  try clear c_w1_w_0_2
  try clear f_w1_w_0_2
  try clear c_w1_w_1_0
  try clear f_w1_w_1_0
  try clear c_w1_w_1_1
  try clear f_w1_w_1_1
  try clear c_w1_w_1_2
  try clear f_w1_w_1_2
  try clear far_w1_w_0
  try clear far_w1_w_1
  try clear hB_w1
  have far_w2_w_0 := far (show w.heap.size < w2.heap.size by omega)
  have far_w2_w_1 := far (show w.heap.size + 1 < w2.heap.size by omega)
  obtain ⟨g2, cap2, h2, _, _, hg2, hc2⟩ := ho2.at 0 (by simp)
  subst h2
  have hgl : w.heap.size + 1 < g2 := by have := (World.ownsRow.lt ho2 g2 rfl).1; (try simp at this); omega
  have hgl1 := far hgl
  have hgl0 := far (show w.heap.size < g2 by omega)
  have k0 := hc2 0 (by simp)
  simp only [List.getElem_cons_zero, List.getElem_cons_succ, List.length_cons, List.length_nil] at k0  ⊢
  clear hc2 ho2
  go_wp2_with (go_at_call 43; refine Calls.mono (TN.out _) ?_; rintro e w' ⟨rfl, hw'⟩; obtain rfl := hw'.symm)
  go_wp2_with fail
  refine Calls.mono (LO.out _) ?_
  rintro e w3 ⟨rfl, hb_w3⟩
  have hz_w3 := hb_w3.size
  try simp at hz_w3
  obtain ⟨c_w3_w_0, f_w3_w_0⟩ := bk hb_w3 (w.heap.size) (by first | omega | (simp <;> omega))
  have c_w3_w_0_0 := c_w3_w_0 0
  conv at c_w3_w_0_0 => rhs; simp [go_sem, *]
  have f_w3_w_0_0 := f_w3_w_0 0
  conv at f_w3_w_0_0 => rhs; simp [go_sem, *]
  have c_w3_w_0_1 := c_w3_w_0 1
  conv at c_w3_w_0_1 => rhs; simp [go_sem, *]
  have f_w3_w_0_1 := f_w3_w_0 1
  conv at f_w3_w_0_1 => rhs; simp [go_sem, *]
  have c_w3_w_0_2 := c_w3_w_0 2
  conv at c_w3_w_0_2 => rhs; simp [go_sem, *]
  have f_w3_w_0_2 := f_w3_w_0 2
  conv at f_w3_w_0_2 => rhs; simp [go_sem, *]
  obtain ⟨c_w3_w_1, f_w3_w_1⟩ := bk hb_w3 (w.heap.size + 1) (by first | omega | (simp <;> omega))
  have c_w3_w_1_0 := c_w3_w_1 0
  conv at c_w3_w_1_0 => rhs; simp [go_sem, *]
  have f_w3_w_1_0 := f_w3_w_1 0
  conv at f_w3_w_1_0 => rhs; simp [go_sem, *]
  have c_w3_w_1_1 := c_w3_w_1 1
  conv at c_w3_w_1_1 => rhs; simp [go_sem, *]
  have f_w3_w_1_1 := f_w3_w_1 1
  conv at f_w3_w_1_1 => rhs; simp [go_sem, *]
  have c_w3_w_1_2 := c_w3_w_1 2
  conv at c_w3_w_1_2 => rhs; simp [go_sem, *]
  have f_w3_w_1_2 := f_w3_w_1 2
  conv at f_w3_w_1_2 => rhs; simp [go_sem, *]
  obtain ⟨c_w3_vg2, f_w3_vg2⟩ := bk hb_w3 (g2) (by first | omega | (simp <;> omega))
  have c_w3_vg2_0 := c_w3_vg2 0
  conv at c_w3_vg2_0 => rhs; simp [go_sem, *]
  have f_w3_vg2_0 := f_w3_vg2 0
  conv at f_w3_vg2_0 => rhs; simp [go_sem, *]
  have HH_w3 := Lib.hid hb_w3
  have hB_w3 : Below w.heap.size w w3 := Below.trans (by (repeat (first | (with_reducible exact Below.refl _ _) | (with_reducible assumption) | (with_reducible refine Below.drew ?_) | (focus ((with_reducible refine Below.setCell ?_ ?_ _); rotate_left; (first | omega | (simp <;> omega)))) | (focus ((with_reducible refine Below.alloc ?_ ?_ _); rotate_left; (first | omega | (simp <;> omega)))) | exact Below.refl _ _ | assumption | refine Below.drew ?_ | refine Below.alloc ?_ (by first | omega | (simp <;> omega)) _ | refine Below.setCell ?_ (by first | omega | (simp <;> omega)) _))) (hb_w3.mono (by first | omega | (simp <;> omega)))
  clear hb_w3 c_w3_w_0 f_w3_w_0 c_w3_w_1 f_w3_w_1 c_w3_vg2 f_w3_vg2
  try clear c_w2_w_0_0
  try clear f_w2_w_0_0
  try clear c_w2_w_0_1
  try clear f_w2_w_0_1
  try clear c_w2_w_0_2
  try clear f_w2_w_0_2
  try clear c_w2_w_1_0
  try clear f_w2_w_1_0
  try clear c_w2_w_1_1
  try clear f_w2_w_1_1
  try clear c_w2_w_1_2
  try clear f_w2_w_1_2
  try clear far_w2_w_0
  try clear far_w2_w_1
  try clear hB_w2
  have far_w3_w_0 := far (show w.heap.size < w3.heap.size by omega)
  have far_w3_w_1 := far (show w.heap.size + 1 < w3.heap.size by omega)
  have far_w3_vg2 := far (show g2 < w3.heap.size by omega)
  go_wp2
  refine bodyPost_ret (v := .tuple #[.agg #[.string (S (ln)), .string (S ([])), .string (S ([]))], .bool true]) (by simp [results, Tryd.results37, go_sem, *]) rfl ⟨ln, [], [], rfl, (fun y hy => by injection hy with hy; exact hy.symm), ?_⟩
  (repeat (first | (with_reducible exact Below.refl _ _) | (with_reducible assumption) | (with_reducible refine Below.drew ?_) | (focus ((with_reducible refine Below.setCell ?_ ?_ _); rotate_left; (first | omega | (simp <;> omega)))) | (focus ((with_reducible refine Below.alloc ?_ ?_ _); rotate_left; (first | omega | (simp <;> omega)))) | exact Below.refl _ _ | assumption | refine Below.drew ?_ | refine Below.alloc ?_ (by first | omega | (simp <;> omega)) _ | refine Below.setCell ?_ (by first | omega | (simp <;> omega)) _))

set_option maxHeartbeats 3200000 in
set_option maxRecDepth 100000 in
theorem refPart_one_unq (p : List UInt8) (hp : p.length ≤ 1000000) (x : List UInt8) (h59 : splitL 59 p = some [x]) (hx : x.length ≤ 1000000) (n v : List UInt8) (h61 : splitL 61 x = some [n, v]) (hn : n.length ≤ 1000000) (htn : tokenL n = true) (hv : v.length ≤ 1000000) (hu : unqE v = 0) (w : World) : Calls Tryd.prog 37 #[.string (S p)] w fun e w' => PartTo w p e w' := by
  have hW := wordW_of (p := p) (x := x) (dev := []) (.inl ⟨h59, rfl⟩)
  rw [h61] at hW
  have hW : wordW p = some (lower n, unqL v, []) := hW.trans ((if_neg (by simp [htn])).trans ((if_pos (by simp)).trans (by show (valueW v).map _ = _; unfold valueW; rw [if_pos hu]; rfl)))
  unfold PartTo
  rw [hW]
  have SP := Lib.hid (fun W => refSplit_some hp h59 W)
  have SP2 := Lib.hid (fun W => refSplit_some hx h61 W)
  have TN := Lib.hid (fun W => refToken n (by omega) W)
  rw [htn] at TN
  have LO := Lib.hid (fun W => refLower n (by omega) W)
  obtain ⟨ln, hln⟩ : ∃ q, lower n = q := ⟨_, rfl⟩
  rw [hln] at LO ⊢
  clear hln
  have UN := Lib.hid (fun W => refUnquote v hv W)
  rw [hu] at UN
  obtain ⟨ul, hul⟩ : ∃ q, unqL v = q := ⟨_, rfl⟩
  rw [hul] at UN ⊢
  clear hul
  clear h59 h61 hW htn hu
  go_enter Tryd.func37, Tryd.ntmps37
  go_wp2_with fail
  refine Calls.mono (SP.out _) ?_
  rintro e w1 ⟨v1, rfl, ho, hb_w1⟩
  have hz_w1 := hb_w1.size
  try simp at hz_w1
  obtain ⟨c_w1_w_0, f_w1_w_0⟩ := bk hb_w1 (w.heap.size) (by first | omega | (simp <;> omega))
  have c_w1_w_0_0 := c_w1_w_0 0
  conv at c_w1_w_0_0 => rhs; simp [go_sem, *]
  have f_w1_w_0_0 := f_w1_w_0 0
  conv at f_w1_w_0_0 => rhs; simp [go_sem, *]
  have c_w1_w_0_1 := c_w1_w_0 1
  conv at c_w1_w_0_1 => rhs; simp [go_sem, *]
  have f_w1_w_0_1 := f_w1_w_0 1
  conv at f_w1_w_0_1 => rhs; simp [go_sem, *]
  have c_w1_w_0_2 := c_w1_w_0 2
  conv at c_w1_w_0_2 => rhs; simp [go_sem, *]
  have f_w1_w_0_2 := f_w1_w_0 2
  conv at f_w1_w_0_2 => rhs; simp [go_sem, *]
  obtain ⟨c_w1_w_1, f_w1_w_1⟩ := bk hb_w1 (w.heap.size + 1) (by first | omega | (simp <;> omega))
  have c_w1_w_1_0 := c_w1_w_1 0
  conv at c_w1_w_1_0 => rhs; simp [go_sem, *]
  have f_w1_w_1_0 := f_w1_w_1 0
  conv at f_w1_w_1_0 => rhs; simp [go_sem, *]
  have c_w1_w_1_1 := c_w1_w_1 1
  conv at c_w1_w_1_1 => rhs; simp [go_sem, *]
  have f_w1_w_1_1 := f_w1_w_1 1
  conv at f_w1_w_1_1 => rhs; simp [go_sem, *]
  have c_w1_w_1_2 := c_w1_w_1 2
  conv at c_w1_w_1_2 => rhs; simp [go_sem, *]
  have f_w1_w_1_2 := f_w1_w_1 2
  conv at f_w1_w_1_2 => rhs; simp [go_sem, *]
  have HH_w1 := Lib.hid hb_w1
  have hB_w1 : Below w.heap.size w w1 := Below.trans (by (repeat (first | (with_reducible exact Below.refl _ _) | (with_reducible assumption) | (with_reducible refine Below.drew ?_) | (focus ((with_reducible refine Below.setCell ?_ ?_ _); rotate_left; (first | omega | (simp <;> omega)))) | (focus ((with_reducible refine Below.alloc ?_ ?_ _); rotate_left; (first | omega | (simp <;> omega)))) | exact Below.refl _ _ | assumption | refine Below.drew ?_ | refine Below.alloc ?_ (by first | omega | (simp <;> omega)) _ | refine Below.setCell ?_ (by first | omega | (simp <;> omega)) _))) (hb_w1.mono (by first | omega | (simp <;> omega)))
  clear hb_w1 c_w1_w_0 f_w1_w_0 c_w1_w_1 f_w1_w_1
  have far_w1_w_0 := far (show w.heap.size < w1.heap.size by omega)
  have far_w1_w_1 := far (show w.heap.size + 1 < w1.heap.size by omega)
  obtain ⟨g, cap, h1, _, _, hg, hc⟩ := ho.at 0 (by simp)
  subst h1
  have e0 := hc 0 (by simp)
  simp only [List.getElem_cons_zero, List.getElem_cons_succ, List.length_cons, List.length_nil] at e0  ⊢
  clear hc ho
  go_wp2_with fail
  refine Calls.mono (SP2.out _) ?_
  rintro e w2 ⟨v2, rfl, ho2, hb_w2⟩
  have hz_w2 := hb_w2.size
  try simp at hz_w2
  obtain ⟨c_w2_w_0, f_w2_w_0⟩ := bk hb_w2 (w.heap.size) (by first | omega | (simp <;> omega))
  have c_w2_w_0_0 := c_w2_w_0 0
  conv at c_w2_w_0_0 => rhs; simp [go_sem, *]
  have f_w2_w_0_0 := f_w2_w_0 0
  conv at f_w2_w_0_0 => rhs; simp [go_sem, *]
  have c_w2_w_0_1 := c_w2_w_0 1
  conv at c_w2_w_0_1 => rhs; simp [go_sem, *]
  have f_w2_w_0_1 := f_w2_w_0 1
  conv at f_w2_w_0_1 => rhs; simp [go_sem, *]
  have c_w2_w_0_2 := c_w2_w_0 2
  conv at c_w2_w_0_2 => rhs; simp [go_sem, *]
  have f_w2_w_0_2 := f_w2_w_0 2
  conv at f_w2_w_0_2 => rhs; simp [go_sem, *]
  obtain ⟨c_w2_w_1, f_w2_w_1⟩ := bk hb_w2 (w.heap.size + 1) (by first | omega | (simp <;> omega))
  have c_w2_w_1_0 := c_w2_w_1 0
  conv at c_w2_w_1_0 => rhs; simp [go_sem, *]
  have f_w2_w_1_0 := f_w2_w_1 0
  conv at f_w2_w_1_0 => rhs; simp [go_sem, *]
  have c_w2_w_1_1 := c_w2_w_1 1
  conv at c_w2_w_1_1 => rhs; simp [go_sem, *]
  have f_w2_w_1_1 := f_w2_w_1 1
  conv at f_w2_w_1_1 => rhs; simp [go_sem, *]
  have c_w2_w_1_2 := c_w2_w_1 2
  conv at c_w2_w_1_2 => rhs; simp [go_sem, *]
  have f_w2_w_1_2 := f_w2_w_1 2
  conv at f_w2_w_1_2 => rhs; simp [go_sem, *]
  have HH_w2 := Lib.hid hb_w2
  have hB_w2 : Below w.heap.size w w2 := Below.trans (by (repeat (first | (with_reducible exact Below.refl _ _) | (with_reducible assumption) | (with_reducible refine Below.drew ?_) | (focus ((with_reducible refine Below.setCell ?_ ?_ _); rotate_left; (first | omega | (simp <;> omega)))) | (focus ((with_reducible refine Below.alloc ?_ ?_ _); rotate_left; (first | omega | (simp <;> omega)))) | exact Below.refl _ _ | assumption | refine Below.drew ?_ | refine Below.alloc ?_ (by first | omega | (simp <;> omega)) _ | refine Below.setCell ?_ (by first | omega | (simp <;> omega)) _))) (hb_w2.mono (by first | omega | (simp <;> omega)))
  clear hb_w2 c_w2_w_0 f_w2_w_0 c_w2_w_1 f_w2_w_1
  try clear c_w1_w_0_0
  try clear f_w1_w_0_0
  try clear c_w1_w_0_1
  try clear f_w1_w_0_1
  try clear c_w1_w_0_2
  try clear f_w1_w_0_2
  try clear c_w1_w_1_0
  try clear f_w1_w_1_0
  try clear c_w1_w_1_1
  try clear f_w1_w_1_1
  try clear c_w1_w_1_2
  try clear f_w1_w_1_2
  try clear far_w1_w_0
  try clear far_w1_w_1
  try clear hB_w1
  have far_w2_w_0 := far (show w.heap.size < w2.heap.size by omega)
  have far_w2_w_1 := far (show w.heap.size + 1 < w2.heap.size by omega)
  obtain ⟨g2, cap2, h2, _, _, hg2, hc2⟩ := ho2.at 0 (by simp)
  subst h2
  have hgl : w.heap.size + 1 < g2 := by have := (World.ownsRow.lt ho2 g2 rfl).1; (try simp at this); omega
  have hgl1 := far hgl
  have hgl0 := far (show w.heap.size < g2 by omega)
  have k0 := hc2 0 (by simp)
  have k1 := hc2 1 (by simp)
  simp only [List.getElem_cons_zero, List.getElem_cons_succ, List.length_cons, List.length_nil] at k0 k1 ⊢
  clear hc2 ho2
  go_wp2_with (go_at_call 43; refine Calls.mono (TN.out _) ?_; rintro e w' ⟨rfl, hw'⟩; obtain rfl := hw'.symm)
  go_wp2_with fail
  refine Calls.mono (LO.out _) ?_
  rintro e w3 ⟨rfl, hb_w3⟩
  have hz_w3 := hb_w3.size
  try simp at hz_w3
  obtain ⟨c_w3_w_0, f_w3_w_0⟩ := bk hb_w3 (w.heap.size) (by first | omega | (simp <;> omega))
  have c_w3_w_0_0 := c_w3_w_0 0
  conv at c_w3_w_0_0 => rhs; simp [go_sem, *]
  have f_w3_w_0_0 := f_w3_w_0 0
  conv at f_w3_w_0_0 => rhs; simp [go_sem, *]
  have c_w3_w_0_1 := c_w3_w_0 1
  conv at c_w3_w_0_1 => rhs; simp [go_sem, *]
  have f_w3_w_0_1 := f_w3_w_0 1
  conv at f_w3_w_0_1 => rhs; simp [go_sem, *]
  have c_w3_w_0_2 := c_w3_w_0 2
  conv at c_w3_w_0_2 => rhs; simp [go_sem, *]
  have f_w3_w_0_2 := f_w3_w_0 2
  conv at f_w3_w_0_2 => rhs; simp [go_sem, *]
  obtain ⟨c_w3_w_1, f_w3_w_1⟩ := bk hb_w3 (w.heap.size + 1) (by first | omega | (simp <;> omega))
  have c_w3_w_1_0 := c_w3_w_1 0
  conv at c_w3_w_1_0 => rhs; simp [go_sem, *]
  have f_w3_w_1_0 := f_w3_w_1 0
  conv at f_w3_w_1_0 => rhs; simp [go_sem, *]
  have c_w3_w_1_1 := c_w3_w_1 1
  conv at c_w3_w_1_1 => rhs; simp [go_sem, *]
  have f_w3_w_1_1 := f_w3_w_1 1
  conv at f_w3_w_1_1 => rhs; simp [go_sem, *]
  have c_w3_w_1_2 := c_w3_w_1 2
  conv at c_w3_w_1_2 => rhs; simp [go_sem, *]
  have f_w3_w_1_2 := f_w3_w_1 2
  conv at f_w3_w_1_2 => rhs; simp [go_sem, *]
  obtain ⟨c_w3_vg2, f_w3_vg2⟩ := bk hb_w3 (g2) (by first | omega | (simp <;> omega))
  have c_w3_vg2_0 := c_w3_vg2 0
  conv at c_w3_vg2_0 => rhs; simp [go_sem, *]
  have f_w3_vg2_0 := f_w3_vg2 0
  conv at f_w3_vg2_0 => rhs; simp [go_sem, *]
  have c_w3_vg2_1 := c_w3_vg2 1
  conv at c_w3_vg2_1 => rhs; simp [go_sem, *]
  have f_w3_vg2_1 := f_w3_vg2 1
  conv at f_w3_vg2_1 => rhs; simp [go_sem, *]
  have HH_w3 := Lib.hid hb_w3
  have hB_w3 : Below w.heap.size w w3 := Below.trans (by (repeat (first | (with_reducible exact Below.refl _ _) | (with_reducible assumption) | (with_reducible refine Below.drew ?_) | (focus ((with_reducible refine Below.setCell ?_ ?_ _); rotate_left; (first | omega | (simp <;> omega)))) | (focus ((with_reducible refine Below.alloc ?_ ?_ _); rotate_left; (first | omega | (simp <;> omega)))) | exact Below.refl _ _ | assumption | refine Below.drew ?_ | refine Below.alloc ?_ (by first | omega | (simp <;> omega)) _ | refine Below.setCell ?_ (by first | omega | (simp <;> omega)) _))) (hb_w3.mono (by first | omega | (simp <;> omega)))
  clear hb_w3 c_w3_w_0 f_w3_w_0 c_w3_w_1 f_w3_w_1 c_w3_vg2 f_w3_vg2
  try clear c_w2_w_0_0
  try clear f_w2_w_0_0
  try clear c_w2_w_0_1
  try clear f_w2_w_0_1
  try clear c_w2_w_0_2
  try clear f_w2_w_0_2
  try clear c_w2_w_1_0
  try clear f_w2_w_1_0
  try clear c_w2_w_1_1
  try clear f_w2_w_1_1
  try clear c_w2_w_1_2
  try clear f_w2_w_1_2
  try clear far_w2_w_0
  try clear far_w2_w_1
  try clear hB_w2
  have far_w3_w_0 := far (show w.heap.size < w3.heap.size by omega)
  have far_w3_w_1 := far (show w.heap.size + 1 < w3.heap.size by omega)
  have far_w3_vg2 := far (show g2 < w3.heap.size by omega)
  go_wp2_with (go_at_call 55; refine Calls.mono (UN.out _) ?_; rintro e w' ⟨rfl, hw'⟩; obtain rfl := hw'.symm)
  refine bodyPost_ret (v := .tuple #[.agg #[.string (S (ln)), .string (S (ul)), .string (S ([]))], .bool true]) (by simp [results, Tryd.results37, go_sem, *]) rfl ⟨ln, ul, [], rfl, (fun y hy => by injection hy with hy; exact hy.symm), ?_⟩
  (repeat (first | (with_reducible exact Below.refl _ _) | (with_reducible assumption) | (with_reducible refine Below.drew ?_) | (focus ((with_reducible refine Below.setCell ?_ ?_ _); rotate_left; (first | omega | (simp <;> omega)))) | (focus ((with_reducible refine Below.alloc ?_ ?_ _); rotate_left; (first | omega | (simp <;> omega)))) | exact Below.refl _ _ | assumption | refine Below.drew ?_ | refine Below.alloc ?_ (by first | omega | (simp <;> omega)) _ | refine Below.setCell ?_ (by first | omega | (simp <;> omega)) _))

set_option maxHeartbeats 3200000 in
set_option maxRecDepth 100000 in
theorem refPart_one_tok (p : List UInt8) (hp : p.length ≤ 1000000) (x : List UInt8) (h59 : splitL 59 p = some [x]) (hx : x.length ≤ 1000000) (n v : List UInt8) (h61 : splitL 61 x = some [n, v]) (hn : n.length ≤ 1000000) (htn : tokenL n = true) (hv : v.length ≤ 1000000) (hu : unqE v = 11) (htv : tokenL v = true) (w : World) : Calls Tryd.prog 37 #[.string (S p)] w fun e w' => PartTo w p e w' := by
  have hW := wordW_of (p := p) (x := x) (dev := []) (.inl ⟨h59, rfl⟩)
  rw [h61] at hW
  have hW : wordW p = some (lower n, v, []) := hW.trans ((if_neg (by simp [htn])).trans ((if_pos (by simp)).trans (by show (valueW v).map _ = _; unfold valueW; rw [if_neg (by rw [hu]; decide), if_pos htv]; rfl)))
  unfold PartTo
  rw [hW]
  have SP := Lib.hid (fun W => refSplit_some hp h59 W)
  have SP2 := Lib.hid (fun W => refSplit_some hx h61 W)
  have TN := Lib.hid (fun W => refToken n (by omega) W)
  rw [htn] at TN
  have LO := Lib.hid (fun W => refLower n (by omega) W)
  obtain ⟨ln, hln⟩ : ∃ q, lower n = q := ⟨_, rfl⟩
  rw [hln] at LO ⊢
  clear hln
  have UN := Lib.hid (fun W => refUnquote v hv W)
  rw [hu] at UN
  obtain ⟨ul, hul⟩ : ∃ q, unqL v = q := ⟨_, rfl⟩
  rw [hul] at UN 
  clear hul
  have TV := Lib.hid (fun W => refToken v (by omega) W)
  rw [htv] at TV
  clear h59 h61 hW htn hu htv
  go_enter Tryd.func37, Tryd.ntmps37
  go_wp2_with fail
  refine Calls.mono (SP.out _) ?_
  rintro e w1 ⟨v1, rfl, ho, hb_w1⟩
  have hz_w1 := hb_w1.size
  try simp at hz_w1
  obtain ⟨c_w1_w_0, f_w1_w_0⟩ := bk hb_w1 (w.heap.size) (by first | omega | (simp <;> omega))
  have c_w1_w_0_0 := c_w1_w_0 0
  conv at c_w1_w_0_0 => rhs; simp [go_sem, *]
  have f_w1_w_0_0 := f_w1_w_0 0
  conv at f_w1_w_0_0 => rhs; simp [go_sem, *]
  have c_w1_w_0_1 := c_w1_w_0 1
  conv at c_w1_w_0_1 => rhs; simp [go_sem, *]
  have f_w1_w_0_1 := f_w1_w_0 1
  conv at f_w1_w_0_1 => rhs; simp [go_sem, *]
  have c_w1_w_0_2 := c_w1_w_0 2
  conv at c_w1_w_0_2 => rhs; simp [go_sem, *]
  have f_w1_w_0_2 := f_w1_w_0 2
  conv at f_w1_w_0_2 => rhs; simp [go_sem, *]
  obtain ⟨c_w1_w_1, f_w1_w_1⟩ := bk hb_w1 (w.heap.size + 1) (by first | omega | (simp <;> omega))
  have c_w1_w_1_0 := c_w1_w_1 0
  conv at c_w1_w_1_0 => rhs; simp [go_sem, *]
  have f_w1_w_1_0 := f_w1_w_1 0
  conv at f_w1_w_1_0 => rhs; simp [go_sem, *]
  have c_w1_w_1_1 := c_w1_w_1 1
  conv at c_w1_w_1_1 => rhs; simp [go_sem, *]
  have f_w1_w_1_1 := f_w1_w_1 1
  conv at f_w1_w_1_1 => rhs; simp [go_sem, *]
  have c_w1_w_1_2 := c_w1_w_1 2
  conv at c_w1_w_1_2 => rhs; simp [go_sem, *]
  have f_w1_w_1_2 := f_w1_w_1 2
  conv at f_w1_w_1_2 => rhs; simp [go_sem, *]
  have HH_w1 := Lib.hid hb_w1
  have hB_w1 : Below w.heap.size w w1 := Below.trans (by (repeat (first | (with_reducible exact Below.refl _ _) | (with_reducible assumption) | (with_reducible refine Below.drew ?_) | (focus ((with_reducible refine Below.setCell ?_ ?_ _); rotate_left; (first | omega | (simp <;> omega)))) | (focus ((with_reducible refine Below.alloc ?_ ?_ _); rotate_left; (first | omega | (simp <;> omega)))) | exact Below.refl _ _ | assumption | refine Below.drew ?_ | refine Below.alloc ?_ (by first | omega | (simp <;> omega)) _ | refine Below.setCell ?_ (by first | omega | (simp <;> omega)) _))) (hb_w1.mono (by first | omega | (simp <;> omega)))
  clear hb_w1 c_w1_w_0 f_w1_w_0 c_w1_w_1 f_w1_w_1
  have far_w1_w_0 := far (show w.heap.size < w1.heap.size by omega)
  have far_w1_w_1 := far (show w.heap.size + 1 < w1.heap.size by omega)
  obtain ⟨g, cap, h1, _, _, hg, hc⟩ := ho.at 0 (by simp)
  subst h1
  have e0 := hc 0 (by simp)
  simp only [List.getElem_cons_zero, List.getElem_cons_succ, List.length_cons, List.length_nil] at e0  ⊢
  clear hc ho
  go_wp2_with fail
  refine Calls.mono (SP2.out _) ?_
  rintro e w2 ⟨v2, rfl, ho2, hb_w2⟩
  have hz_w2 := hb_w2.size
  try simp at hz_w2
  obtain ⟨c_w2_w_0, f_w2_w_0⟩ := bk hb_w2 (w.heap.size) (by first | omega | (simp <;> omega))
  have c_w2_w_0_0 := c_w2_w_0 0
  conv at c_w2_w_0_0 => rhs; simp [go_sem, *]
  have f_w2_w_0_0 := f_w2_w_0 0
  conv at f_w2_w_0_0 => rhs; simp [go_sem, *]
  have c_w2_w_0_1 := c_w2_w_0 1
  conv at c_w2_w_0_1 => rhs; simp [go_sem, *]
  have f_w2_w_0_1 := f_w2_w_0 1
  conv at f_w2_w_0_1 => rhs; simp [go_sem, *]
  have c_w2_w_0_2 := c_w2_w_0 2
  conv at c_w2_w_0_2 => rhs; simp [go_sem, *]
  have f_w2_w_0_2 := f_w2_w_0 2
  conv at f_w2_w_0_2 => rhs; simp [go_sem, *]
  obtain ⟨c_w2_w_1, f_w2_w_1⟩ := bk hb_w2 (w.heap.size + 1) (by first | omega | (simp <;> omega))
  have c_w2_w_1_0 := c_w2_w_1 0
  conv at c_w2_w_1_0 => rhs; simp [go_sem, *]
  have f_w2_w_1_0 := f_w2_w_1 0
  conv at f_w2_w_1_0 => rhs; simp [go_sem, *]
  have c_w2_w_1_1 := c_w2_w_1 1
  conv at c_w2_w_1_1 => rhs; simp [go_sem, *]
  have f_w2_w_1_1 := f_w2_w_1 1
  conv at f_w2_w_1_1 => rhs; simp [go_sem, *]
  have c_w2_w_1_2 := c_w2_w_1 2
  conv at c_w2_w_1_2 => rhs; simp [go_sem, *]
  have f_w2_w_1_2 := f_w2_w_1 2
  conv at f_w2_w_1_2 => rhs; simp [go_sem, *]
  have HH_w2 := Lib.hid hb_w2
  have hB_w2 : Below w.heap.size w w2 := Below.trans (by (repeat (first | (with_reducible exact Below.refl _ _) | (with_reducible assumption) | (with_reducible refine Below.drew ?_) | (focus ((with_reducible refine Below.setCell ?_ ?_ _); rotate_left; (first | omega | (simp <;> omega)))) | (focus ((with_reducible refine Below.alloc ?_ ?_ _); rotate_left; (first | omega | (simp <;> omega)))) | exact Below.refl _ _ | assumption | refine Below.drew ?_ | refine Below.alloc ?_ (by first | omega | (simp <;> omega)) _ | refine Below.setCell ?_ (by first | omega | (simp <;> omega)) _))) (hb_w2.mono (by first | omega | (simp <;> omega)))
  clear hb_w2 c_w2_w_0 f_w2_w_0 c_w2_w_1 f_w2_w_1
  try clear c_w1_w_0_0
  try clear f_w1_w_0_0
  try clear c_w1_w_0_1
  try clear f_w1_w_0_1
  try clear c_w1_w_0_2
  try clear f_w1_w_0_2
  try clear c_w1_w_1_0
  try clear f_w1_w_1_0
  try clear c_w1_w_1_1
  try clear f_w1_w_1_1
  try clear c_w1_w_1_2
  try clear f_w1_w_1_2
  try clear far_w1_w_0
  try clear far_w1_w_1
  try clear hB_w1
  have far_w2_w_0 := far (show w.heap.size < w2.heap.size by omega)
  have far_w2_w_1 := far (show w.heap.size + 1 < w2.heap.size by omega)
  obtain ⟨g2, cap2, h2, _, _, hg2, hc2⟩ := ho2.at 0 (by simp)
  subst h2
  have hgl : w.heap.size + 1 < g2 := by have := (World.ownsRow.lt ho2 g2 rfl).1; (try simp at this); omega
  have hgl1 := far hgl
  have hgl0 := far (show w.heap.size < g2 by omega)
  have k0 := hc2 0 (by simp)
  have k1 := hc2 1 (by simp)
  simp only [List.getElem_cons_zero, List.getElem_cons_succ, List.length_cons, List.length_nil] at k0 k1 ⊢
  clear hc2 ho2
  go_wp2_with (go_at_call 43; refine Calls.mono (TN.out _) ?_; rintro e w' ⟨rfl, hw'⟩; obtain rfl := hw'.symm)
  go_wp2_with fail
  refine Calls.mono (LO.out _) ?_
  rintro e w3 ⟨rfl, hb_w3⟩
  have hz_w3 := hb_w3.size
  try simp at hz_w3
  obtain ⟨c_w3_w_0, f_w3_w_0⟩ := bk hb_w3 (w.heap.size) (by first | omega | (simp <;> omega))
  have c_w3_w_0_0 := c_w3_w_0 0
  conv at c_w3_w_0_0 => rhs; simp [go_sem, *]
  have f_w3_w_0_0 := f_w3_w_0 0
  conv at f_w3_w_0_0 => rhs; simp [go_sem, *]
  have c_w3_w_0_1 := c_w3_w_0 1
  conv at c_w3_w_0_1 => rhs; simp [go_sem, *]
  have f_w3_w_0_1 := f_w3_w_0 1
  conv at f_w3_w_0_1 => rhs; simp [go_sem, *]
  have c_w3_w_0_2 := c_w3_w_0 2
  conv at c_w3_w_0_2 => rhs; simp [go_sem, *]
  have f_w3_w_0_2 := f_w3_w_0 2
  conv at f_w3_w_0_2 => rhs; simp [go_sem, *]
  obtain ⟨c_w3_w_1, f_w3_w_1⟩ := bk hb_w3 (w.heap.size + 1) (by first | omega | (simp <;> omega))
  have c_w3_w_1_0 := c_w3_w_1 0
  conv at c_w3_w_1_0 => rhs; simp [go_sem, *]
  have f_w3_w_1_0 := f_w3_w_1 0
  conv at f_w3_w_1_0 => rhs; simp [go_sem, *]
  have c_w3_w_1_1 := c_w3_w_1 1
  conv at c_w3_w_1_1 => rhs; simp [go_sem, *]
  have f_w3_w_1_1 := f_w3_w_1 1
  conv at f_w3_w_1_1 => rhs; simp [go_sem, *]
  have c_w3_w_1_2 := c_w3_w_1 2
  conv at c_w3_w_1_2 => rhs; simp [go_sem, *]
  have f_w3_w_1_2 := f_w3_w_1 2
  conv at f_w3_w_1_2 => rhs; simp [go_sem, *]
  obtain ⟨c_w3_vg2, f_w3_vg2⟩ := bk hb_w3 (g2) (by first | omega | (simp <;> omega))
  have c_w3_vg2_0 := c_w3_vg2 0
  conv at c_w3_vg2_0 => rhs; simp [go_sem, *]
  have f_w3_vg2_0 := f_w3_vg2 0
  conv at f_w3_vg2_0 => rhs; simp [go_sem, *]
  have c_w3_vg2_1 := c_w3_vg2 1
  conv at c_w3_vg2_1 => rhs; simp [go_sem, *]
  have f_w3_vg2_1 := f_w3_vg2 1
  conv at f_w3_vg2_1 => rhs; simp [go_sem, *]
  have HH_w3 := Lib.hid hb_w3
  have hB_w3 : Below w.heap.size w w3 := Below.trans (by (repeat (first | (with_reducible exact Below.refl _ _) | (with_reducible assumption) | (with_reducible refine Below.drew ?_) | (focus ((with_reducible refine Below.setCell ?_ ?_ _); rotate_left; (first | omega | (simp <;> omega)))) | (focus ((with_reducible refine Below.alloc ?_ ?_ _); rotate_left; (first | omega | (simp <;> omega)))) | exact Below.refl _ _ | assumption | refine Below.drew ?_ | refine Below.alloc ?_ (by first | omega | (simp <;> omega)) _ | refine Below.setCell ?_ (by first | omega | (simp <;> omega)) _))) (hb_w3.mono (by first | omega | (simp <;> omega)))
  clear hb_w3 c_w3_w_0 f_w3_w_0 c_w3_w_1 f_w3_w_1 c_w3_vg2 f_w3_vg2
  try clear c_w2_w_0_0
  try clear f_w2_w_0_0
  try clear c_w2_w_0_1
  try clear f_w2_w_0_1
  try clear c_w2_w_0_2
  try clear f_w2_w_0_2
  try clear c_w2_w_1_0
  try clear f_w2_w_1_0
  try clear c_w2_w_1_1
  try clear f_w2_w_1_1
  try clear c_w2_w_1_2
  try clear f_w2_w_1_2
  try clear far_w2_w_0
  try clear far_w2_w_1
  try clear hB_w2
  have far_w3_w_0 := far (show w.heap.size < w3.heap.size by omega)
  have far_w3_w_1 := far (show w.heap.size + 1 < w3.heap.size by omega)
  have far_w3_vg2 := far (show g2 < w3.heap.size by omega)
  go_wp2_with (go_at_call 55; refine Calls.mono (UN.out _) ?_; rintro e w' ⟨rfl, hw'⟩; obtain rfl := hw'.symm)
  go_wp2_with fail
  refine wp_region_later_tail (w3.heap.size) 5 (by kernel_rfl) (by kernel_rfl) ?_
  simp only [List.take_succ_cons, List.take_zero, List.drop_succ_cons, List.drop_zero]
  have l_w4_w_0 := @Later.at (w3.heap.size) (w.heap.size) (by omega)
  have l_w4_w_1 := @Later.at (w3.heap.size) (w.heap.size + 1) (by omega)
  have l_w4_vg2 := @Later.at (w3.heap.size) (g2) (by omega)
  repeat (go_big_quiet_step ((go_at_call 43; refine later_same (TV.out _))))
  refine wpQuiet_nil ?_
  rintro w4 ⟨⟨_, hb_w4⟩, rfl⟩
  clear l_w4_w_0 l_w4_w_1 l_w4_vg2
  try simp only [] at hb_w4 ⊢
  have hz_w4 := hb_w4.size
  try simp at hz_w4
  have c_w4_w_0 := fun o => hb_w4.cell (p := ⟨w.heap.size, o, none⟩) (by first | omega | (simp <;> omega))
  have f_w4_w_0 := fun o => hb_w4.frozen (p := ⟨w.heap.size, o, none⟩) (by first | omega | (simp <;> omega))
  have c_w4_w_0_0 := c_w4_w_0 0
  conv at c_w4_w_0_0 => rhs; simp [go_sem, *]
  have f_w4_w_0_0 := f_w4_w_0 0
  conv at f_w4_w_0_0 => rhs; simp [go_sem, *]
  have c_w4_w_0_1 := c_w4_w_0 1
  conv at c_w4_w_0_1 => rhs; simp [go_sem, *]
  have f_w4_w_0_1 := f_w4_w_0 1
  conv at f_w4_w_0_1 => rhs; simp [go_sem, *]
  have c_w4_w_0_2 := c_w4_w_0 2
  conv at c_w4_w_0_2 => rhs; simp [go_sem, *]
  have f_w4_w_0_2 := f_w4_w_0 2
  conv at f_w4_w_0_2 => rhs; simp [go_sem, *]
  have c_w4_w_1 := fun o => hb_w4.cell (p := ⟨w.heap.size + 1, o, none⟩) (by first | omega | (simp <;> omega))
  have f_w4_w_1 := fun o => hb_w4.frozen (p := ⟨w.heap.size + 1, o, none⟩) (by first | omega | (simp <;> omega))
  have c_w4_w_1_0 := c_w4_w_1 0
  conv at c_w4_w_1_0 => rhs; simp [go_sem, *]
  have f_w4_w_1_0 := f_w4_w_1 0
  conv at f_w4_w_1_0 => rhs; simp [go_sem, *]
  have c_w4_w_1_1 := c_w4_w_1 1
  conv at c_w4_w_1_1 => rhs; simp [go_sem, *]
  have f_w4_w_1_1 := f_w4_w_1 1
  conv at f_w4_w_1_1 => rhs; simp [go_sem, *]
  have c_w4_w_1_2 := c_w4_w_1 2
  conv at c_w4_w_1_2 => rhs; simp [go_sem, *]
  have f_w4_w_1_2 := f_w4_w_1 2
  conv at f_w4_w_1_2 => rhs; simp [go_sem, *]
  have c_w4_vg2 := fun o => hb_w4.cell (p := ⟨g2, o, none⟩) (by first | omega | (simp <;> omega))
  have f_w4_vg2 := fun o => hb_w4.frozen (p := ⟨g2, o, none⟩) (by first | omega | (simp <;> omega))
  have c_w4_vg2_0 := c_w4_vg2 0
  conv at c_w4_vg2_0 => rhs; simp [go_sem, *]
  have f_w4_vg2_0 := f_w4_vg2 0
  conv at f_w4_vg2_0 => rhs; simp [go_sem, *]
  have c_w4_vg2_1 := c_w4_vg2 1
  conv at c_w4_vg2_1 => rhs; simp [go_sem, *]
  have f_w4_vg2_1 := f_w4_vg2 1
  conv at f_w4_vg2_1 => rhs; simp [go_sem, *]
  have HH_w4 := Lib.hid hb_w4
  have hB_w4 : Below w.heap.size w w4 := Below.trans (by (repeat (first | (with_reducible exact Below.refl _ _) | (with_reducible assumption) | (with_reducible refine Below.drew ?_) | (focus ((with_reducible refine Below.setCell ?_ ?_ _); rotate_left; (first | omega | (simp <;> omega)))) | (focus ((with_reducible refine Below.alloc ?_ ?_ _); rotate_left; (first | omega | (simp <;> omega)))) | exact Below.refl _ _ | assumption | refine Below.drew ?_ | refine Below.alloc ?_ (by first | omega | (simp <;> omega)) _ | refine Below.setCell ?_ (by first | omega | (simp <;> omega)) _))) (hb_w4.mono (by first | omega | (simp <;> omega)))
  clear hb_w4 c_w4_w_0 f_w4_w_0 c_w4_w_1 f_w4_w_1 c_w4_vg2 f_w4_vg2
  try clear c_w3_w_0_0
  try clear f_w3_w_0_0
  try clear c_w3_w_0_1
  try clear f_w3_w_0_1
  try clear c_w3_w_0_2
  try clear f_w3_w_0_2
  try clear c_w3_w_1_0
  try clear f_w3_w_1_0
  try clear c_w3_w_1_1
  try clear f_w3_w_1_1
  try clear c_w3_w_1_2
  try clear f_w3_w_1_2
  try clear c_w3_vg2_0
  try clear f_w3_vg2_0
  try clear c_w3_vg2_1
  try clear f_w3_vg2_1
  try clear far_w3_w_0
  try clear far_w3_w_1
  try clear far_w3_vg2
  try clear hB_w3
  have far_w4_w_0 := far (show w.heap.size < w4.heap.size by omega)
  have far_w4_w_1 := far (show w.heap.size + 1 < w4.heap.size by omega)
  have far_w4_vg2 := far (show g2 < w4.heap.size by omega)
  go_wp2
  refine bodyPost_ret (v := .tuple #[.agg #[.string (S (ln)), .string (S (v)), .string (S ([]))], .bool true]) (by simp [results, Tryd.results37, go_sem, *]) rfl ⟨ln, v, [], rfl, (fun y hy => by injection hy with hy; exact hy.symm), ?_⟩
  (repeat (first | (with_reducible exact Below.refl _ _) | (with_reducible assumption) | (with_reducible refine Below.drew ?_) | (focus ((with_reducible refine Below.setCell ?_ ?_ _); rotate_left; (first | omega | (simp <;> omega)))) | (focus ((with_reducible refine Below.alloc ?_ ?_ _); rotate_left; (first | omega | (simp <;> omega)))) | exact Below.refl _ _ | assumption | refine Below.drew ?_ | refine Below.alloc ?_ (by first | omega | (simp <;> omega)) _ | refine Below.setCell ?_ (by first | omega | (simp <;> omega)) _))

set_option maxHeartbeats 3200000 in
set_option maxRecDepth 100000 in
theorem refPart_one_bad3 (p : List UInt8) (hp : p.length ≤ 1000000) (x : List UInt8) (h59 : splitL 59 p = some [x]) (hx : x.length ≤ 1000000) (n v : List UInt8) (h61 : splitL 61 x = some [n, v]) (hn : n.length ≤ 1000000) (htn : tokenL n = true) (hv : v.length ≤ 1000000) (hu : unqE v = 11) (htv : tokenL v = false) (w : World) : Calls Tryd.prog 37 #[.string (S p)] w fun e w' => PartTo w p e w' := by
  have hW := wordW_of (p := p) (x := x) (dev := []) (.inl ⟨h59, rfl⟩)
  rw [h61] at hW
  have hW : wordW p = none := hW.trans ((if_neg (by simp [htn])).trans ((if_pos (by simp)).trans (by show (valueW v).map _ = _; unfold valueW; rw [if_neg (by rw [hu]; decide), if_neg (by rw [htv]; simp)]; rfl)))
  unfold PartTo
  rw [hW]
  have SP := Lib.hid (fun W => refSplit_some hp h59 W)
  have SP2 := Lib.hid (fun W => refSplit_some hx h61 W)
  have TN := Lib.hid (fun W => refToken n (by omega) W)
  rw [htn] at TN
  have LO := Lib.hid (fun W => refLower n (by omega) W)
  obtain ⟨ln, hln⟩ : ∃ q, lower n = q := ⟨_, rfl⟩
  rw [hln] at LO 
  clear hln
  have UN := Lib.hid (fun W => refUnquote v hv W)
  rw [hu] at UN
  obtain ⟨ul, hul⟩ : ∃ q, unqL v = q := ⟨_, rfl⟩
  rw [hul] at UN 
  clear hul
  have TV := Lib.hid (fun W => refToken v (by omega) W)
  rw [htv] at TV
  clear h59 h61 hW htn hu htv
  go_enter Tryd.func37, Tryd.ntmps37
  go_wp2_with fail
  refine Calls.mono (SP.out _) ?_
  rintro e w1 ⟨v1, rfl, ho, hb_w1⟩
  have hz_w1 := hb_w1.size
  try simp at hz_w1
  obtain ⟨c_w1_w_0, f_w1_w_0⟩ := bk hb_w1 (w.heap.size) (by first | omega | (simp <;> omega))
  have c_w1_w_0_0 := c_w1_w_0 0
  conv at c_w1_w_0_0 => rhs; simp [go_sem, *]
  have f_w1_w_0_0 := f_w1_w_0 0
  conv at f_w1_w_0_0 => rhs; simp [go_sem, *]
  have c_w1_w_0_1 := c_w1_w_0 1
  conv at c_w1_w_0_1 => rhs; simp [go_sem, *]
  have f_w1_w_0_1 := f_w1_w_0 1
  conv at f_w1_w_0_1 => rhs; simp [go_sem, *]
  have c_w1_w_0_2 := c_w1_w_0 2
  conv at c_w1_w_0_2 => rhs; simp [go_sem, *]
  have f_w1_w_0_2 := f_w1_w_0 2
  conv at f_w1_w_0_2 => rhs; simp [go_sem, *]
  obtain ⟨c_w1_w_1, f_w1_w_1⟩ := bk hb_w1 (w.heap.size + 1) (by first | omega | (simp <;> omega))
  have c_w1_w_1_0 := c_w1_w_1 0
  conv at c_w1_w_1_0 => rhs; simp [go_sem, *]
  have f_w1_w_1_0 := f_w1_w_1 0
  conv at f_w1_w_1_0 => rhs; simp [go_sem, *]
  have c_w1_w_1_1 := c_w1_w_1 1
  conv at c_w1_w_1_1 => rhs; simp [go_sem, *]
  have f_w1_w_1_1 := f_w1_w_1 1
  conv at f_w1_w_1_1 => rhs; simp [go_sem, *]
  have c_w1_w_1_2 := c_w1_w_1 2
  conv at c_w1_w_1_2 => rhs; simp [go_sem, *]
  have f_w1_w_1_2 := f_w1_w_1 2
  conv at f_w1_w_1_2 => rhs; simp [go_sem, *]
  have HH_w1 := Lib.hid hb_w1
  have hB_w1 : Below w.heap.size w w1 := Below.trans (by (repeat (first | (with_reducible exact Below.refl _ _) | (with_reducible assumption) | (with_reducible refine Below.drew ?_) | (focus ((with_reducible refine Below.setCell ?_ ?_ _); rotate_left; (first | omega | (simp <;> omega)))) | (focus ((with_reducible refine Below.alloc ?_ ?_ _); rotate_left; (first | omega | (simp <;> omega)))) | exact Below.refl _ _ | assumption | refine Below.drew ?_ | refine Below.alloc ?_ (by first | omega | (simp <;> omega)) _ | refine Below.setCell ?_ (by first | omega | (simp <;> omega)) _))) (hb_w1.mono (by first | omega | (simp <;> omega)))
  clear hb_w1 c_w1_w_0 f_w1_w_0 c_w1_w_1 f_w1_w_1
  have far_w1_w_0 := far (show w.heap.size < w1.heap.size by omega)
  have far_w1_w_1 := far (show w.heap.size + 1 < w1.heap.size by omega)
  obtain ⟨g, cap, h1, _, _, hg, hc⟩ := ho.at 0 (by simp)
  subst h1
  have e0 := hc 0 (by simp)
  simp only [List.getElem_cons_zero, List.getElem_cons_succ, List.length_cons, List.length_nil] at e0  ⊢
  clear hc ho
  go_wp2_with fail
  refine Calls.mono (SP2.out _) ?_
  rintro e w2 ⟨v2, rfl, ho2, hb_w2⟩
  have hz_w2 := hb_w2.size
  try simp at hz_w2
  obtain ⟨c_w2_w_0, f_w2_w_0⟩ := bk hb_w2 (w.heap.size) (by first | omega | (simp <;> omega))
  have c_w2_w_0_0 := c_w2_w_0 0
  conv at c_w2_w_0_0 => rhs; simp [go_sem, *]
  have f_w2_w_0_0 := f_w2_w_0 0
  conv at f_w2_w_0_0 => rhs; simp [go_sem, *]
  have c_w2_w_0_1 := c_w2_w_0 1
  conv at c_w2_w_0_1 => rhs; simp [go_sem, *]
  have f_w2_w_0_1 := f_w2_w_0 1
  conv at f_w2_w_0_1 => rhs; simp [go_sem, *]
  have c_w2_w_0_2 := c_w2_w_0 2
  conv at c_w2_w_0_2 => rhs; simp [go_sem, *]
  have f_w2_w_0_2 := f_w2_w_0 2
  conv at f_w2_w_0_2 => rhs; simp [go_sem, *]
  obtain ⟨c_w2_w_1, f_w2_w_1⟩ := bk hb_w2 (w.heap.size + 1) (by first | omega | (simp <;> omega))
  have c_w2_w_1_0 := c_w2_w_1 0
  conv at c_w2_w_1_0 => rhs; simp [go_sem, *]
  have f_w2_w_1_0 := f_w2_w_1 0
  conv at f_w2_w_1_0 => rhs; simp [go_sem, *]
  have c_w2_w_1_1 := c_w2_w_1 1
  conv at c_w2_w_1_1 => rhs; simp [go_sem, *]
  have f_w2_w_1_1 := f_w2_w_1 1
  conv at f_w2_w_1_1 => rhs; simp [go_sem, *]
  have c_w2_w_1_2 := c_w2_w_1 2
  conv at c_w2_w_1_2 => rhs; simp [go_sem, *]
  have f_w2_w_1_2 := f_w2_w_1 2
  conv at f_w2_w_1_2 => rhs; simp [go_sem, *]
  have HH_w2 := Lib.hid hb_w2
  have hB_w2 : Below w.heap.size w w2 := Below.trans (by (repeat (first | (with_reducible exact Below.refl _ _) | (with_reducible assumption) | (with_reducible refine Below.drew ?_) | (focus ((with_reducible refine Below.setCell ?_ ?_ _); rotate_left; (first | omega | (simp <;> omega)))) | (focus ((with_reducible refine Below.alloc ?_ ?_ _); rotate_left; (first | omega | (simp <;> omega)))) | exact Below.refl _ _ | assumption | refine Below.drew ?_ | refine Below.alloc ?_ (by first | omega | (simp <;> omega)) _ | refine Below.setCell ?_ (by first | omega | (simp <;> omega)) _))) (hb_w2.mono (by first | omega | (simp <;> omega)))
  clear hb_w2 c_w2_w_0 f_w2_w_0 c_w2_w_1 f_w2_w_1
  try clear c_w1_w_0_0
  try clear f_w1_w_0_0
  try clear c_w1_w_0_1
  try clear f_w1_w_0_1
  try clear c_w1_w_0_2
  try clear f_w1_w_0_2
  try clear c_w1_w_1_0
  try clear f_w1_w_1_0
  try clear c_w1_w_1_1
  try clear f_w1_w_1_1
  try clear c_w1_w_1_2
  try clear f_w1_w_1_2
  try clear far_w1_w_0
  try clear far_w1_w_1
  try clear hB_w1
  have far_w2_w_0 := far (show w.heap.size < w2.heap.size by omega)
  have far_w2_w_1 := far (show w.heap.size + 1 < w2.heap.size by omega)
  obtain ⟨g2, cap2, h2, _, _, hg2, hc2⟩ := ho2.at 0 (by simp)
  subst h2
  have hgl : w.heap.size + 1 < g2 := by have := (World.ownsRow.lt ho2 g2 rfl).1; (try simp at this); omega
  have hgl1 := far hgl
  have hgl0 := far (show w.heap.size < g2 by omega)
  have k0 := hc2 0 (by simp)
  have k1 := hc2 1 (by simp)
  simp only [List.getElem_cons_zero, List.getElem_cons_succ, List.length_cons, List.length_nil] at k0 k1 ⊢
  clear hc2 ho2
  go_wp2_with (go_at_call 43; refine Calls.mono (TN.out _) ?_; rintro e w' ⟨rfl, hw'⟩; obtain rfl := hw'.symm)
  go_wp2_with fail
  refine Calls.mono (LO.out _) ?_
  rintro e w3 ⟨rfl, hb_w3⟩
  have hz_w3 := hb_w3.size
  try simp at hz_w3
  obtain ⟨c_w3_w_0, f_w3_w_0⟩ := bk hb_w3 (w.heap.size) (by first | omega | (simp <;> omega))
  have c_w3_w_0_0 := c_w3_w_0 0
  conv at c_w3_w_0_0 => rhs; simp [go_sem, *]
  have f_w3_w_0_0 := f_w3_w_0 0
  conv at f_w3_w_0_0 => rhs; simp [go_sem, *]
  have c_w3_w_0_1 := c_w3_w_0 1
  conv at c_w3_w_0_1 => rhs; simp [go_sem, *]
  have f_w3_w_0_1 := f_w3_w_0 1
  conv at f_w3_w_0_1 => rhs; simp [go_sem, *]
  have c_w3_w_0_2 := c_w3_w_0 2
  conv at c_w3_w_0_2 => rhs; simp [go_sem, *]
  have f_w3_w_0_2 := f_w3_w_0 2
  conv at f_w3_w_0_2 => rhs; simp [go_sem, *]
  obtain ⟨c_w3_w_1, f_w3_w_1⟩ := bk hb_w3 (w.heap.size + 1) (by first | omega | (simp <;> omega))
  have c_w3_w_1_0 := c_w3_w_1 0
  conv at c_w3_w_1_0 => rhs; simp [go_sem, *]
  have f_w3_w_1_0 := f_w3_w_1 0
  conv at f_w3_w_1_0 => rhs; simp [go_sem, *]
  have c_w3_w_1_1 := c_w3_w_1 1
  conv at c_w3_w_1_1 => rhs; simp [go_sem, *]
  have f_w3_w_1_1 := f_w3_w_1 1
  conv at f_w3_w_1_1 => rhs; simp [go_sem, *]
  have c_w3_w_1_2 := c_w3_w_1 2
  conv at c_w3_w_1_2 => rhs; simp [go_sem, *]
  have f_w3_w_1_2 := f_w3_w_1 2
  conv at f_w3_w_1_2 => rhs; simp [go_sem, *]
  obtain ⟨c_w3_vg2, f_w3_vg2⟩ := bk hb_w3 (g2) (by first | omega | (simp <;> omega))
  have c_w3_vg2_0 := c_w3_vg2 0
  conv at c_w3_vg2_0 => rhs; simp [go_sem, *]
  have f_w3_vg2_0 := f_w3_vg2 0
  conv at f_w3_vg2_0 => rhs; simp [go_sem, *]
  have c_w3_vg2_1 := c_w3_vg2 1
  conv at c_w3_vg2_1 => rhs; simp [go_sem, *]
  have f_w3_vg2_1 := f_w3_vg2 1
  conv at f_w3_vg2_1 => rhs; simp [go_sem, *]
  have HH_w3 := Lib.hid hb_w3
  have hB_w3 : Below w.heap.size w w3 := Below.trans (by (repeat (first | (with_reducible exact Below.refl _ _) | (with_reducible assumption) | (with_reducible refine Below.drew ?_) | (focus ((with_reducible refine Below.setCell ?_ ?_ _); rotate_left; (first | omega | (simp <;> omega)))) | (focus ((with_reducible refine Below.alloc ?_ ?_ _); rotate_left; (first | omega | (simp <;> omega)))) | exact Below.refl _ _ | assumption | refine Below.drew ?_ | refine Below.alloc ?_ (by first | omega | (simp <;> omega)) _ | refine Below.setCell ?_ (by first | omega | (simp <;> omega)) _))) (hb_w3.mono (by first | omega | (simp <;> omega)))
  clear hb_w3 c_w3_w_0 f_w3_w_0 c_w3_w_1 f_w3_w_1 c_w3_vg2 f_w3_vg2
  try clear c_w2_w_0_0
  try clear f_w2_w_0_0
  try clear c_w2_w_0_1
  try clear f_w2_w_0_1
  try clear c_w2_w_0_2
  try clear f_w2_w_0_2
  try clear c_w2_w_1_0
  try clear f_w2_w_1_0
  try clear c_w2_w_1_1
  try clear f_w2_w_1_1
  try clear c_w2_w_1_2
  try clear f_w2_w_1_2
  try clear far_w2_w_0
  try clear far_w2_w_1
  try clear hB_w2
  have far_w3_w_0 := far (show w.heap.size < w3.heap.size by omega)
  have far_w3_w_1 := far (show w.heap.size + 1 < w3.heap.size by omega)
  have far_w3_vg2 := far (show g2 < w3.heap.size by omega)
  go_wp2_with (go_at_call 55; refine Calls.mono (UN.out _) ?_; rintro e w' ⟨rfl, hw'⟩; obtain rfl := hw'.symm)
  go_wp2_with fail
  refine wp_region_later_tail (w3.heap.size) 5 (by kernel_rfl) (by kernel_rfl) ?_
  simp only [List.take_succ_cons, List.take_zero, List.drop_succ_cons, List.drop_zero]
  have l_w4_w_0 := @Later.at (w3.heap.size) (w.heap.size) (by omega)
  have l_w4_w_1 := @Later.at (w3.heap.size) (w.heap.size + 1) (by omega)
  have l_w4_vg2 := @Later.at (w3.heap.size) (g2) (by omega)
  repeat (go_big_quiet_step ((go_at_call 43; refine later_same (TV.out _))))
  refine wpQuiet_nil ?_
  rintro w4 ⟨⟨_, hb_w4⟩, rfl⟩
  clear l_w4_w_0 l_w4_w_1 l_w4_vg2
  try simp only [] at hb_w4 ⊢
  have hz_w4 := hb_w4.size
  try simp at hz_w4
  have c_w4_w_0 := fun o => hb_w4.cell (p := ⟨w.heap.size, o, none⟩) (by first | omega | (simp <;> omega))
  have f_w4_w_0 := fun o => hb_w4.frozen (p := ⟨w.heap.size, o, none⟩) (by first | omega | (simp <;> omega))
  have c_w4_w_0_0 := c_w4_w_0 0
  conv at c_w4_w_0_0 => rhs; simp [go_sem, *]
  have f_w4_w_0_0 := f_w4_w_0 0
  conv at f_w4_w_0_0 => rhs; simp [go_sem, *]
  have c_w4_w_0_1 := c_w4_w_0 1
  conv at c_w4_w_0_1 => rhs; simp [go_sem, *]
  have f_w4_w_0_1 := f_w4_w_0 1
  conv at f_w4_w_0_1 => rhs; simp [go_sem, *]
  have c_w4_w_0_2 := c_w4_w_0 2
  conv at c_w4_w_0_2 => rhs; simp [go_sem, *]
  have f_w4_w_0_2 := f_w4_w_0 2
  conv at f_w4_w_0_2 => rhs; simp [go_sem, *]
  have c_w4_w_1 := fun o => hb_w4.cell (p := ⟨w.heap.size + 1, o, none⟩) (by first | omega | (simp <;> omega))
  have f_w4_w_1 := fun o => hb_w4.frozen (p := ⟨w.heap.size + 1, o, none⟩) (by first | omega | (simp <;> omega))
  have c_w4_w_1_0 := c_w4_w_1 0
  conv at c_w4_w_1_0 => rhs; simp [go_sem, *]
  have f_w4_w_1_0 := f_w4_w_1 0
  conv at f_w4_w_1_0 => rhs; simp [go_sem, *]
  have c_w4_w_1_1 := c_w4_w_1 1
  conv at c_w4_w_1_1 => rhs; simp [go_sem, *]
  have f_w4_w_1_1 := f_w4_w_1 1
  conv at f_w4_w_1_1 => rhs; simp [go_sem, *]
  have c_w4_w_1_2 := c_w4_w_1 2
  conv at c_w4_w_1_2 => rhs; simp [go_sem, *]
  have f_w4_w_1_2 := f_w4_w_1 2
  conv at f_w4_w_1_2 => rhs; simp [go_sem, *]
  have c_w4_vg2 := fun o => hb_w4.cell (p := ⟨g2, o, none⟩) (by first | omega | (simp <;> omega))
  have f_w4_vg2 := fun o => hb_w4.frozen (p := ⟨g2, o, none⟩) (by first | omega | (simp <;> omega))
  have c_w4_vg2_0 := c_w4_vg2 0
  conv at c_w4_vg2_0 => rhs; simp [go_sem, *]
  have f_w4_vg2_0 := f_w4_vg2 0
  conv at f_w4_vg2_0 => rhs; simp [go_sem, *]
  have c_w4_vg2_1 := c_w4_vg2 1
  conv at c_w4_vg2_1 => rhs; simp [go_sem, *]
  have f_w4_vg2_1 := f_w4_vg2 1
  conv at f_w4_vg2_1 => rhs; simp [go_sem, *]
  have HH_w4 := Lib.hid hb_w4
  have hB_w4 : Below w.heap.size w w4 := Below.trans (by (repeat (first | (with_reducible exact Below.refl _ _) | (with_reducible assumption) | (with_reducible refine Below.drew ?_) | (focus ((with_reducible refine Below.setCell ?_ ?_ _); rotate_left; (first | omega | (simp <;> omega)))) | (focus ((with_reducible refine Below.alloc ?_ ?_ _); rotate_left; (first | omega | (simp <;> omega)))) | exact Below.refl _ _ | assumption | refine Below.drew ?_ | refine Below.alloc ?_ (by first | omega | (simp <;> omega)) _ | refine Below.setCell ?_ (by first | omega | (simp <;> omega)) _))) (hb_w4.mono (by first | omega | (simp <;> omega)))
  clear hb_w4 c_w4_w_0 f_w4_w_0 c_w4_w_1 f_w4_w_1 c_w4_vg2 f_w4_vg2
  try clear c_w3_w_0_0
  try clear f_w3_w_0_0
  try clear c_w3_w_0_1
  try clear f_w3_w_0_1
  try clear c_w3_w_0_2
  try clear f_w3_w_0_2
  try clear c_w3_w_1_0
  try clear f_w3_w_1_0
  try clear c_w3_w_1_1
  try clear f_w3_w_1_1
  try clear c_w3_w_1_2
  try clear f_w3_w_1_2
  try clear c_w3_vg2_0
  try clear f_w3_vg2_0
  try clear c_w3_vg2_1
  try clear f_w3_vg2_1
  try clear far_w3_w_0
  try clear far_w3_w_1
  try clear far_w3_vg2
  try clear hB_w3
  have far_w4_w_0 := far (show w.heap.size < w4.heap.size by omega)
  have far_w4_w_1 := far (show w.heap.size + 1 < w4.heap.size by omega)
  have far_w4_vg2 := far (show g2 < w4.heap.size by omega)
  go_wp2
  refine bodyPost_ret (v := .tuple #[.agg #[.string (S (ln)), .string (S (v)), .string (S ([]))], .bool false]) (by simp [results, Tryd.results37, go_sem, *]) rfl ⟨ln, v, [], rfl, (fun y hy => by cases hy), ?_⟩
  (repeat (first | (with_reducible exact Below.refl _ _) | (with_reducible assumption) | (with_reducible refine Below.drew ?_) | (focus ((with_reducible refine Below.setCell ?_ ?_ _); rotate_left; (first | omega | (simp <;> omega)))) | (focus ((with_reducible refine Below.alloc ?_ ?_ _); rotate_left; (first | omega | (simp <;> omega)))) | exact Below.refl _ _ | assumption | refine Below.drew ?_ | refine Below.alloc ?_ (by first | omega | (simp <;> omega)) _ | refine Below.setCell ?_ (by first | omega | (simp <;> omega)) _))
end Go.Proofs.YtcfihoniocamaaaDoor
