/- surrogate.word: the walk (kind one, one). Printed by tools/surword.py. -/
import Derived.Test.YtcfihoniocamaaaGreatDoorSurWord2
namespace Go.Proofs.YtcfihoniocamaaaGreatDoor
open Go.RowKit Go.Sort Go.Shelf
set_option linter.unusedVariables false
set_option linter.unusedSimpArgs false

set_option maxHeartbeats 6400000 in
set_option maxRecDepth 100000 in
theorem surWord_one_one (p : List UInt8) (hp : p.length ≤ 1000000) (x : List UInt8) (i1 : Bool) (hx : x.length ≤ 1000000)
    (n : List UInt8) (i2 : Bool) (hn : n.length ≤ 1000000) (tn : Bool) (htn : tokenL n = tn)
    (h59 : (splitL 59 p).getD [[]] = [x]) (hi1 : (splitL 59 p).isSome = i1) (h61 : (splitL 61 x).getD [[]] = [n]) (hi2 : (splitL 61 x).isSome = i2) (w : World) :
    Calls Tryz.prog 49 #[.string (S p)] w fun e w' => e = .returned (.tuple #[.agg #[.string (S (lower n)), .string (S ([])), .string (S ([]))], .bool (i1 && i2 && tn)]) ∧ Below w.heap.size w w' := by
  have SP := Lib.hid (fun b W hi fi ho lo => surSplitC (w.heap.size + 1) (w.heap.size + 1 + 1) (by omega) b p hp 59 W hi fi ho lo)
  have SP2 := Lib.hid (fun b W hi fi ho lo => surSplitC (w.heap.size + 1) (w.heap.size + 1 + 1) (by omega) b x hx 61 W hi fi ho lo)
  rw [h59, hi1] at SP
  rw [h61, hi2] at SP2
  have TN := Lib.hid (fun W => textToken n (by omega) W)
  rw [htn] at TN
  have LO := Lib.hid (fun W => textLower n (by omega) W)
  obtain ⟨ln, hln⟩ : ∃ q, lower n = q := ⟨_, rfl⟩
  rw [hln] at LO ⊢
  have OK := Lib.hid (fun b x W hc hf => surOk (w.heap.size + 1) b x W hc hf)
  obtain ⟨R, hR⟩ : ∃ R : Bool, (i1 && i2 && tn) = R := ⟨_, rfl⟩
  rw [hR]
  have XS := Lib.hid hR
  unfold okFn at SP SP2
  clear h59 h61 hi1 hi2 htn hln hR
  go_enter Tryz.func49, Tryz.ntmps49
  go_wp2_with fail
  refine Calls.mono (SP.out true _ (by simp [go_sem]) (by simp [go_sem]) (by simp [go_sem]) (by simp)) ?_
  rintro e w1 ⟨v1, rfl, ho1, hb_w1⟩
  have hz_w1 := hb_w1.size
  try simp at hz_w1
  obtain ⟨c_w1_w_0, f_w1_w_0⟩ := bk hb_w1 (w.heap.size) (by first | omega | (simp <;> omega))
  have c_w1_w_0_0 := c_w1_w_0 0
  conv at c_w1_w_0_0 => rhs; simp [go_sem, *]
  have f_w1_w_0_0 := f_w1_w_0 0
  conv at f_w1_w_0_0 => rhs; simp [go_sem, *]
  have c_w1_w_0_1 := c_w1_w_0 1
  conv at c_w1_w_0_1 => rhs; simp [go_sem, *]
  have f_w1_w_0_1 := f_w1_w_0 1
  conv at f_w1_w_0_1 => rhs; simp [go_sem, *]
  have c_w1_w_0_2 := c_w1_w_0 2
  conv at c_w1_w_0_2 => rhs; simp [go_sem, *]
  have f_w1_w_0_2 := f_w1_w_0 2
  conv at f_w1_w_0_2 => rhs; simp [go_sem, *]
  obtain ⟨c_w1_w_1, f_w1_w_1⟩ := bk hb_w1 (w.heap.size + 1) (by first | omega | (simp <;> omega))
  have c_w1_w_1_0 := c_w1_w_1 0
  conv at c_w1_w_1_0 => rhs; simp [go_sem, *]
  have f_w1_w_1_0 := f_w1_w_1 0
  conv at f_w1_w_1_0 => rhs; simp [go_sem, *]
  obtain ⟨c_w1_w_s2, f_w1_w_s2⟩ := bk hb_w1 (w.heap.size + 1 + 1) (by first | omega | (simp <;> omega))
  have c_w1_w_s2_0 := c_w1_w_s2 0
  conv at c_w1_w_s2_0 => rhs; simp [go_sem, *]
  have f_w1_w_s2_0 := f_w1_w_s2 0
  conv at f_w1_w_s2_0 => rhs; simp [go_sem, *]
  obtain ⟨c_w1_w_s3, f_w1_w_s3⟩ := bk hb_w1 (w.heap.size + 1 + 1 + 1) (by first | omega | (simp <;> omega))
  have c_w1_w_s3_0 := c_w1_w_s3 0
  conv at c_w1_w_s3_0 => rhs; simp [go_sem, *]
  have f_w1_w_s3_0 := f_w1_w_s3 0
  conv at f_w1_w_s3_0 => rhs; simp [go_sem, *]
  have c_w1_w_s3_1 := c_w1_w_s3 1
  conv at c_w1_w_s3_1 => rhs; simp [go_sem, *]
  have f_w1_w_s3_1 := f_w1_w_s3 1
  conv at f_w1_w_s3_1 => rhs; simp [go_sem, *]
  have c_w1_w_s3_2 := c_w1_w_s3 2
  conv at c_w1_w_s3_2 => rhs; simp [go_sem, *]
  have f_w1_w_s3_2 := f_w1_w_s3 2
  conv at f_w1_w_s3_2 => rhs; simp [go_sem, *]
  have HH_w1 := Lib.hid hb_w1
  have hB_w1 : Below w.heap.size w w1 := Below.trans (by (repeat (first | (with_reducible exact Below.refl _ _) | (with_reducible assumption) | (with_reducible refine Below.drew ?_) | (focus ((with_reducible refine Below.setCell ?_ ?_ _); rotate_left; (first | omega | (simp <;> omega)))) | (focus ((with_reducible refine Below.alloc ?_ ?_ _); rotate_left; (first | omega | (simp <;> omega)))) | exact Below.refl _ _ | assumption | refine Below.drew ?_ | refine Below.alloc ?_ (by first | omega | (simp <;> omega)) _ | refine Below.setCell ?_ (by first | omega | (simp <;> omega)) _))) (hb_w1.mono (by first | omega | (simp <;> omega)))
  clear hb_w1 c_w1_w_0 f_w1_w_0 c_w1_w_1 f_w1_w_1 c_w1_w_s2 f_w1_w_s2 c_w1_w_s3 f_w1_w_s3
  have far_w1_w_0 := far (show w.heap.size < w1.heap.size by omega)
  have far_w1_w_1 := far (show w.heap.size + 1 < w1.heap.size by omega)
  have far_w1_w_s2 := far (show w.heap.size + 1 + 1 < w1.heap.size by omega)
  have far_w1_w_s3 := far (show w.heap.size + 1 + 1 + 1 < w1.heap.size by omega)
  obtain ⟨g, cap, h1, hca1, hcm1, hg1, hc1⟩ := ho1.at 0 (by simp)
  subst h1
  have hgl : w.heap.size + 1 + 1 + 1 < g := by have := (World.ownsRow.lt ho1 g rfl).1; (try simp at this); omega
  have hgl3 := far hgl
  have hgl2 := far (show w.heap.size + 1 + 1 < g by omega)
  have hgl1 := far (show w.heap.size + 1 < g by omega)
  have hgl0 := far (show w.heap.size < g by omega)
  have e1_0 := hc1 0 (by simp)
  simp only [List.getElem_cons_zero, List.getElem_cons_succ, List.length_cons, List.length_nil] at e1_0 ⊢
  clear hc1 ho1
  go_wp2_with fail
  refine Calls.mono (SP2.out _ _ (by assumption) (by assumption) (by assumption) (by omega)) ?_
  rintro e w2 ⟨v2, rfl, ho2, hb_w2⟩
  have hz_w2 := hb_w2.size
  try simp at hz_w2
  obtain ⟨c_w2_w_0, f_w2_w_0⟩ := bk hb_w2 (w.heap.size) (by first | omega | (simp <;> omega))
  have c_w2_w_0_0 := c_w2_w_0 0
  conv at c_w2_w_0_0 => rhs; simp [go_sem, *]
  have f_w2_w_0_0 := f_w2_w_0 0
  conv at f_w2_w_0_0 => rhs; simp [go_sem, *]
  have c_w2_w_0_1 := c_w2_w_0 1
  conv at c_w2_w_0_1 => rhs; simp [go_sem, *]
  have f_w2_w_0_1 := f_w2_w_0 1
  conv at f_w2_w_0_1 => rhs; simp [go_sem, *]
  have c_w2_w_0_2 := c_w2_w_0 2
  conv at c_w2_w_0_2 => rhs; simp [go_sem, *]
  have f_w2_w_0_2 := f_w2_w_0 2
  conv at f_w2_w_0_2 => rhs; simp [go_sem, *]
  obtain ⟨c_w2_w_1, f_w2_w_1⟩ := bk hb_w2 (w.heap.size + 1) (by first | omega | (simp <;> omega))
  have c_w2_w_1_0 := c_w2_w_1 0
  conv at c_w2_w_1_0 => rhs; simp [go_sem, *]
  have f_w2_w_1_0 := f_w2_w_1 0
  conv at f_w2_w_1_0 => rhs; simp [go_sem, *]
  obtain ⟨c_w2_w_s2, f_w2_w_s2⟩ := bk hb_w2 (w.heap.size + 1 + 1) (by first | omega | (simp <;> omega))
  have c_w2_w_s2_0 := c_w2_w_s2 0
  conv at c_w2_w_s2_0 => rhs; simp [go_sem, *]
  have f_w2_w_s2_0 := f_w2_w_s2 0
  conv at f_w2_w_s2_0 => rhs; simp [go_sem, *]
  obtain ⟨c_w2_w_s3, f_w2_w_s3⟩ := bk hb_w2 (w.heap.size + 1 + 1 + 1) (by first | omega | (simp <;> omega))
  have c_w2_w_s3_0 := c_w2_w_s3 0
  conv at c_w2_w_s3_0 => rhs; simp [go_sem, *]
  have f_w2_w_s3_0 := f_w2_w_s3 0
  conv at f_w2_w_s3_0 => rhs; simp [go_sem, *]
  have c_w2_w_s3_1 := c_w2_w_s3 1
  conv at c_w2_w_s3_1 => rhs; simp [go_sem, *]
  have f_w2_w_s3_1 := f_w2_w_s3 1
  conv at f_w2_w_s3_1 => rhs; simp [go_sem, *]
  have c_w2_w_s3_2 := c_w2_w_s3 2
  conv at c_w2_w_s3_2 => rhs; simp [go_sem, *]
  have f_w2_w_s3_2 := f_w2_w_s3 2
  conv at f_w2_w_s3_2 => rhs; simp [go_sem, *]
  have HH_w2 := Lib.hid hb_w2
  have hB_w2 : Below w.heap.size w w2 := Below.trans (by (repeat (first | (with_reducible exact Below.refl _ _) | (with_reducible assumption) | (with_reducible refine Below.drew ?_) | (focus ((with_reducible refine Below.setCell ?_ ?_ _); rotate_left; (first | omega | (simp <;> omega)))) | (focus ((with_reducible refine Below.alloc ?_ ?_ _); rotate_left; (first | omega | (simp <;> omega)))) | exact Below.refl _ _ | assumption | refine Below.drew ?_ | refine Below.alloc ?_ (by first | omega | (simp <;> omega)) _ | refine Below.setCell ?_ (by first | omega | (simp <;> omega)) _))) (hb_w2.mono (by first | omega | (simp <;> omega)))
  clear hb_w2 c_w2_w_0 f_w2_w_0 c_w2_w_1 f_w2_w_1 c_w2_w_s2 f_w2_w_s2 c_w2_w_s3 f_w2_w_s3
  try clear c_w1_w_0_0
  try clear f_w1_w_0_0
  try clear c_w1_w_0_1
  try clear f_w1_w_0_1
  try clear c_w1_w_0_2
  try clear f_w1_w_0_2
  try clear c_w1_w_1_0
  try clear f_w1_w_1_0
  try clear c_w1_w_s2_0
  try clear f_w1_w_s2_0
  try clear c_w1_w_s3_0
  try clear f_w1_w_s3_0
  try clear c_w1_w_s3_1
  try clear f_w1_w_s3_1
  try clear c_w1_w_s3_2
  try clear f_w1_w_s3_2
  try clear far_w1_w_0
  try clear far_w1_w_1
  try clear far_w1_w_s2
  try clear far_w1_w_s3
  try clear hB_w1
  have far_w2_w_0 := far (show w.heap.size < w2.heap.size by omega)
  have far_w2_w_1 := far (show w.heap.size + 1 < w2.heap.size by omega)
  have far_w2_w_s2 := far (show w.heap.size + 1 + 1 < w2.heap.size by omega)
  have far_w2_w_s3 := far (show w.heap.size + 1 + 1 + 1 < w2.heap.size by omega)
  obtain ⟨g2, cap2, h2, hca2, hcm2, hg2, hc2⟩ := ho2.at 0 (by simp)
  subst h2
  have hql : w.heap.size + 1 + 1 + 1 < g2 := by have := (World.ownsRow.lt ho2 g2 rfl).1; (try simp at this); omega
  have hql3 := far hql
  have hql2 := far (show w.heap.size + 1 + 1 < g2 by omega)
  have hql1 := far (show w.heap.size + 1 < g2 by omega)
  have hql0 := far (show w.heap.size < g2 by omega)
  have e2_0 := hc2 0 (by simp)
  simp only [List.getElem_cons_zero, List.getElem_cons_succ, List.length_cons, List.length_nil] at e2_0 ⊢
  clear hc2 ho2
  cases tn with
  | true =>
    go_wp2_with fail
    refine wp_region_later_tail (w2.heap.size) 10 (by kernel_rfl) (by kernel_rfl) ?_
    simp only [List.take_succ_cons, List.take_zero, List.drop_succ_cons, List.drop_zero]
    have l_w3_w_0 := @Later.at (w2.heap.size) (w.heap.size) (by omega)
    have l_w3_w_1 := @Later.at (w2.heap.size) (w.heap.size + 1) (by omega)
    have l_w3_w_s2 := @Later.at (w2.heap.size) (w.heap.size + 1 + 1) (by omega)
    have l_w3_w_s3 := @Later.at (w2.heap.size) (w.heap.size + 1 + 1 + 1) (by omega)
    have l_w3_vg2 := @Later.at (w2.heap.size) (g2) (by omega)
    repeat (go_big_quiet_step ((go_at_call 42; refine later_of (by (first | omega | (simp <;> omega))) (TN.out _))))
    refine wpQuiet_nil ?_
    rintro w3 ⟨⟨_, hb_w3⟩, rfl⟩
    clear l_w3_w_0 l_w3_w_1 l_w3_w_s2 l_w3_w_s3 l_w3_vg2
    try simp only [] at hb_w3 ⊢
    have hz_w3 := hb_w3.size
    try simp at hz_w3
    have c_w3_w_0 := fun o => hb_w3.cell (p := ⟨w.heap.size, o, none⟩) (by first | omega | (simp <;> omega))
    have f_w3_w_0 := fun o => hb_w3.frozen (p := ⟨w.heap.size, o, none⟩) (by first | omega | (simp <;> omega))
    have c_w3_w_0_0 := c_w3_w_0 0
    conv at c_w3_w_0_0 => rhs; simp [go_sem, *]
    have f_w3_w_0_0 := f_w3_w_0 0
    conv at f_w3_w_0_0 => rhs; simp [go_sem, *]
    have c_w3_w_0_1 := c_w3_w_0 1
    conv at c_w3_w_0_1 => rhs; simp [go_sem, *]
    have f_w3_w_0_1 := f_w3_w_0 1
    conv at f_w3_w_0_1 => rhs; simp [go_sem, *]
    have c_w3_w_0_2 := c_w3_w_0 2
    conv at c_w3_w_0_2 => rhs; simp [go_sem, *]
    have f_w3_w_0_2 := f_w3_w_0 2
    conv at f_w3_w_0_2 => rhs; simp [go_sem, *]
    have c_w3_w_1 := fun o => hb_w3.cell (p := ⟨w.heap.size + 1, o, none⟩) (by first | omega | (simp <;> omega))
    have f_w3_w_1 := fun o => hb_w3.frozen (p := ⟨w.heap.size + 1, o, none⟩) (by first | omega | (simp <;> omega))
    have c_w3_w_1_0 := c_w3_w_1 0
    conv at c_w3_w_1_0 => rhs; simp [go_sem, *]
    have f_w3_w_1_0 := f_w3_w_1 0
    conv at f_w3_w_1_0 => rhs; simp [go_sem, *]
    have c_w3_w_s2 := fun o => hb_w3.cell (p := ⟨w.heap.size + 1 + 1, o, none⟩) (by first | omega | (simp <;> omega))
    have f_w3_w_s2 := fun o => hb_w3.frozen (p := ⟨w.heap.size + 1 + 1, o, none⟩) (by first | omega | (simp <;> omega))
    have c_w3_w_s2_0 := c_w3_w_s2 0
    conv at c_w3_w_s2_0 => rhs; simp [go_sem, *]
    have f_w3_w_s2_0 := f_w3_w_s2 0
    conv at f_w3_w_s2_0 => rhs; simp [go_sem, *]
    have c_w3_w_s3 := fun o => hb_w3.cell (p := ⟨w.heap.size + 1 + 1 + 1, o, none⟩) (by first | omega | (simp <;> omega))
    have f_w3_w_s3 := fun o => hb_w3.frozen (p := ⟨w.heap.size + 1 + 1 + 1, o, none⟩) (by first | omega | (simp <;> omega))
    have c_w3_w_s3_0 := c_w3_w_s3 0
    conv at c_w3_w_s3_0 => rhs; simp [go_sem, *]
    have f_w3_w_s3_0 := f_w3_w_s3 0
    conv at f_w3_w_s3_0 => rhs; simp [go_sem, *]
    have c_w3_w_s3_1 := c_w3_w_s3 1
    conv at c_w3_w_s3_1 => rhs; simp [go_sem, *]
    have f_w3_w_s3_1 := f_w3_w_s3 1
    conv at f_w3_w_s3_1 => rhs; simp [go_sem, *]
    have c_w3_w_s3_2 := c_w3_w_s3 2
    conv at c_w3_w_s3_2 => rhs; simp [go_sem, *]
    have f_w3_w_s3_2 := f_w3_w_s3 2
    conv at f_w3_w_s3_2 => rhs; simp [go_sem, *]
    have c_w3_vg2 := fun o => hb_w3.cell (p := ⟨g2, o, none⟩) (by first | omega | (simp <;> omega))
    have f_w3_vg2 := fun o => hb_w3.frozen (p := ⟨g2, o, none⟩) (by first | omega | (simp <;> omega))
    have c_w3_vg2_0 := c_w3_vg2 0
    conv at c_w3_vg2_0 => rhs; simp [go_sem, *]
    have f_w3_vg2_0 := f_w3_vg2 0
    conv at f_w3_vg2_0 => rhs; simp [go_sem, *]
    have HH_w3 := Lib.hid hb_w3
    have hB_w3 : Below w.heap.size w w3 := Below.trans (by (repeat (first | (with_reducible exact Below.refl _ _) | (with_reducible assumption) | (with_reducible refine Below.drew ?_) | (focus ((with_reducible refine Below.setCell ?_ ?_ _); rotate_left; (first | omega | (simp <;> omega)))) | (focus ((with_reducible refine Below.alloc ?_ ?_ _); rotate_left; (first | omega | (simp <;> omega)))) | exact Below.refl _ _ | assumption | refine Below.drew ?_ | refine Below.alloc ?_ (by first | omega | (simp <;> omega)) _ | refine Below.setCell ?_ (by first | omega | (simp <;> omega)) _))) (hb_w3.mono (by first | omega | (simp <;> omega)))
    clear hb_w3 c_w3_w_0 f_w3_w_0 c_w3_w_1 f_w3_w_1 c_w3_w_s2 f_w3_w_s2 c_w3_w_s3 f_w3_w_s3 c_w3_vg2 f_w3_vg2
    try clear c_w2_w_0_0
    try clear f_w2_w_0_0
    try clear c_w2_w_0_1
    try clear f_w2_w_0_1
    try clear c_w2_w_0_2
    try clear f_w2_w_0_2
    try clear c_w2_w_1_0
    try clear f_w2_w_1_0
    try clear c_w2_w_s2_0
    try clear f_w2_w_s2_0
    try clear c_w2_w_s3_0
    try clear f_w2_w_s3_0
    try clear c_w2_w_s3_1
    try clear f_w2_w_s3_1
    try clear c_w2_w_s3_2
    try clear f_w2_w_s3_2
    try clear far_w2_w_0
    try clear far_w2_w_1
    try clear far_w2_w_s2
    try clear far_w2_w_s3
    try clear hB_w2
    have far_w3_w_0 := far (show w.heap.size < w3.heap.size by omega)
    have far_w3_w_1 := far (show w.heap.size + 1 < w3.heap.size by omega)
    have far_w3_w_s2 := far (show w.heap.size + 1 + 1 < w3.heap.size by omega)
    have far_w3_w_s3 := far (show w.heap.size + 1 + 1 + 1 < w3.heap.size by omega)
    have far_w3_vg2 := far (show g2 < w3.heap.size by omega)
    go_wp2_with (first
      | (go_at_call 75; refine Calls.mono (OK.out _ true _ (by assumption) (by assumption)) ?_; rintro e w' ⟨⟨r, rfl⟩, hw'⟩; subst hw')
      | fail)
    go_wp2_with fail
    refine Calls.mono (LO.out _) ?_
    rintro e w4 ⟨rfl, hb_w4⟩
    have hz_w4 := hb_w4.size
    try simp at hz_w4
    obtain ⟨c_w4_w_0, f_w4_w_0⟩ := bk hb_w4 (w.heap.size) (by first | omega | (simp <;> omega))
    have c_w4_w_0_0 := c_w4_w_0 0
    conv at c_w4_w_0_0 => rhs; simp [go_sem, *]
    have f_w4_w_0_0 := f_w4_w_0 0
    conv at f_w4_w_0_0 => rhs; simp [go_sem, *]
    have c_w4_w_0_1 := c_w4_w_0 1
    conv at c_w4_w_0_1 => rhs; simp [go_sem, *]
    have f_w4_w_0_1 := f_w4_w_0 1
    conv at f_w4_w_0_1 => rhs; simp [go_sem, *]
    have c_w4_w_0_2 := c_w4_w_0 2
    conv at c_w4_w_0_2 => rhs; simp [go_sem, *]
    have f_w4_w_0_2 := f_w4_w_0 2
    conv at f_w4_w_0_2 => rhs; simp [go_sem, *]
    obtain ⟨c_w4_w_1, f_w4_w_1⟩ := bk hb_w4 (w.heap.size + 1) (by first | omega | (simp <;> omega))
    have c_w4_w_1_0 := c_w4_w_1 0
    conv at c_w4_w_1_0 => rhs; simp [go_sem, *]
    have f_w4_w_1_0 := f_w4_w_1 0
    conv at f_w4_w_1_0 => rhs; simp [go_sem, *]
    obtain ⟨c_w4_w_s2, f_w4_w_s2⟩ := bk hb_w4 (w.heap.size + 1 + 1) (by first | omega | (simp <;> omega))
    have c_w4_w_s2_0 := c_w4_w_s2 0
    conv at c_w4_w_s2_0 => rhs; simp [go_sem, *]
    have f_w4_w_s2_0 := f_w4_w_s2 0
    conv at f_w4_w_s2_0 => rhs; simp [go_sem, *]
    obtain ⟨c_w4_w_s3, f_w4_w_s3⟩ := bk hb_w4 (w.heap.size + 1 + 1 + 1) (by first | omega | (simp <;> omega))
    have c_w4_w_s3_0 := c_w4_w_s3 0
    conv at c_w4_w_s3_0 => rhs; simp [go_sem, *]
    have f_w4_w_s3_0 := f_w4_w_s3 0
    conv at f_w4_w_s3_0 => rhs; simp [go_sem, *]
    have c_w4_w_s3_1 := c_w4_w_s3 1
    conv at c_w4_w_s3_1 => rhs; simp [go_sem, *]
    have f_w4_w_s3_1 := f_w4_w_s3 1
    conv at f_w4_w_s3_1 => rhs; simp [go_sem, *]
    have c_w4_w_s3_2 := c_w4_w_s3 2
    conv at c_w4_w_s3_2 => rhs; simp [go_sem, *]
    have f_w4_w_s3_2 := f_w4_w_s3 2
    conv at f_w4_w_s3_2 => rhs; simp [go_sem, *]
    obtain ⟨c_w4_vg2, f_w4_vg2⟩ := bk hb_w4 (g2) (by first | omega | (simp <;> omega))
    have c_w4_vg2_0 := c_w4_vg2 0
    conv at c_w4_vg2_0 => rhs; simp [go_sem, *]
    have f_w4_vg2_0 := f_w4_vg2 0
    conv at f_w4_vg2_0 => rhs; simp [go_sem, *]
    have HH_w4 := Lib.hid hb_w4
    have hB_w4 : Below w.heap.size w w4 := Below.trans (by (repeat (first | (with_reducible exact Below.refl _ _) | (with_reducible assumption) | (with_reducible refine Below.drew ?_) | (focus ((with_reducible refine Below.setCell ?_ ?_ _); rotate_left; (first | omega | (simp <;> omega)))) | (focus ((with_reducible refine Below.alloc ?_ ?_ _); rotate_left; (first | omega | (simp <;> omega)))) | exact Below.refl _ _ | assumption | refine Below.drew ?_ | refine Below.alloc ?_ (by first | omega | (simp <;> omega)) _ | refine Below.setCell ?_ (by first | omega | (simp <;> omega)) _))) (hb_w4.mono (by first | omega | (simp <;> omega)))
    clear hb_w4 c_w4_w_0 f_w4_w_0 c_w4_w_1 f_w4_w_1 c_w4_w_s2 f_w4_w_s2 c_w4_w_s3 f_w4_w_s3 c_w4_vg2 f_w4_vg2
    try clear c_w3_w_0_0
    try clear f_w3_w_0_0
    try clear c_w3_w_0_1
    try clear f_w3_w_0_1
    try clear c_w3_w_0_2
    try clear f_w3_w_0_2
    try clear c_w3_w_1_0
    try clear f_w3_w_1_0
    try clear c_w3_w_s2_0
    try clear f_w3_w_s2_0
    try clear c_w3_w_s3_0
    try clear f_w3_w_s3_0
    try clear c_w3_w_s3_1
    try clear f_w3_w_s3_1
    try clear c_w3_w_s3_2
    try clear f_w3_w_s3_2
    try clear c_w3_vg2_0
    try clear f_w3_vg2_0
    try clear far_w3_w_0
    try clear far_w3_w_1
    try clear far_w3_w_s2
    try clear far_w3_w_s3
    try clear far_w3_vg2
    try clear hB_w3
    have far_w4_w_0 := far (show w.heap.size < w4.heap.size by omega)
    have far_w4_w_1 := far (show w.heap.size + 1 < w4.heap.size by omega)
    have far_w4_w_s2 := far (show w.heap.size + 1 + 1 < w4.heap.size by omega)
    have far_w4_w_s3 := far (show w.heap.size + 1 + 1 + 1 < w4.heap.size by omega)
    have far_w4_vg2 := far (show g2 < w4.heap.size by omega)
    go_wp2_with fail
    go_region
    go_wp2_with fail
    have hR := XS.out
    simp only [Bool.and_true, Bool.and_false, Bool.false_and, Bool.true_and] at hR
    subst hR
    refine bodyPost_ret (v := .tuple #[.agg #[.string (S ln), .string (S []), .string (S [])], .bool (i1 && i2)]) (by simp [results, Tryz.results49, go_sem, *]) rfl ⟨rfl, ?_⟩
    (repeat (first | (with_reducible exact Below.refl _ _) | (with_reducible assumption) | (with_reducible refine Below.drew ?_) | (focus ((with_reducible refine Below.setCell ?_ ?_ _); rotate_left; (first | omega | (simp <;> omega)))) | (focus ((with_reducible refine Below.alloc ?_ ?_ _); rotate_left; (first | omega | (simp <;> omega)))) | exact Below.refl _ _ | assumption | refine Below.drew ?_ | refine Below.alloc ?_ (by first | omega | (simp <;> omega)) _ | refine Below.setCell ?_ (by first | omega | (simp <;> omega)) _))
  | false =>
    go_wp2_with fail
    refine wp_region_later_tail (w2.heap.size) 10 (by kernel_rfl) (by kernel_rfl) ?_
    simp only [List.take_succ_cons, List.take_zero, List.drop_succ_cons, List.drop_zero]
    have l_w3_w_0 := @Later.at (w2.heap.size) (w.heap.size) (by omega)
    have l_w3_w_1 := @Later.at (w2.heap.size) (w.heap.size + 1) (by omega)
    have l_w3_w_s2 := @Later.at (w2.heap.size) (w.heap.size + 1 + 1) (by omega)
    have l_w3_w_s3 := @Later.at (w2.heap.size) (w.heap.size + 1 + 1 + 1) (by omega)
    have l_w3_vg2 := @Later.at (w2.heap.size) (g2) (by omega)
    repeat (go_big_quiet_step ((go_at_call 42; refine later_of (by (first | omega | (simp <;> omega))) (TN.out _))))
    refine wpQuiet_nil ?_
    rintro w3 ⟨⟨_, hb_w3⟩, rfl⟩
    clear l_w3_w_0 l_w3_w_1 l_w3_w_s2 l_w3_w_s3 l_w3_vg2
    try simp only [] at hb_w3 ⊢
    have hz_w3 := hb_w3.size
    try simp at hz_w3
    have c_w3_w_0 := fun o => hb_w3.cell (p := ⟨w.heap.size, o, none⟩) (by first | omega | (simp <;> omega))
    have f_w3_w_0 := fun o => hb_w3.frozen (p := ⟨w.heap.size, o, none⟩) (by first | omega | (simp <;> omega))
    have c_w3_w_0_0 := c_w3_w_0 0
    conv at c_w3_w_0_0 => rhs; simp [go_sem, *]
    have f_w3_w_0_0 := f_w3_w_0 0
    conv at f_w3_w_0_0 => rhs; simp [go_sem, *]
    have c_w3_w_0_1 := c_w3_w_0 1
    conv at c_w3_w_0_1 => rhs; simp [go_sem, *]
    have f_w3_w_0_1 := f_w3_w_0 1
    conv at f_w3_w_0_1 => rhs; simp [go_sem, *]
    have c_w3_w_0_2 := c_w3_w_0 2
    conv at c_w3_w_0_2 => rhs; simp [go_sem, *]
    have f_w3_w_0_2 := f_w3_w_0 2
    conv at f_w3_w_0_2 => rhs; simp [go_sem, *]
    have c_w3_w_1 := fun o => hb_w3.cell (p := ⟨w.heap.size + 1, o, none⟩) (by first | omega | (simp <;> omega))
    have f_w3_w_1 := fun o => hb_w3.frozen (p := ⟨w.heap.size + 1, o, none⟩) (by first | omega | (simp <;> omega))
    have c_w3_w_1_0 := c_w3_w_1 0
    conv at c_w3_w_1_0 => rhs; simp [go_sem, *]
    have f_w3_w_1_0 := f_w3_w_1 0
    conv at f_w3_w_1_0 => rhs; simp [go_sem, *]
    have c_w3_w_s2 := fun o => hb_w3.cell (p := ⟨w.heap.size + 1 + 1, o, none⟩) (by first | omega | (simp <;> omega))
    have f_w3_w_s2 := fun o => hb_w3.frozen (p := ⟨w.heap.size + 1 + 1, o, none⟩) (by first | omega | (simp <;> omega))
    have c_w3_w_s2_0 := c_w3_w_s2 0
    conv at c_w3_w_s2_0 => rhs; simp [go_sem, *]
    have f_w3_w_s2_0 := f_w3_w_s2 0
    conv at f_w3_w_s2_0 => rhs; simp [go_sem, *]
    have c_w3_w_s3 := fun o => hb_w3.cell (p := ⟨w.heap.size + 1 + 1 + 1, o, none⟩) (by first | omega | (simp <;> omega))
    have f_w3_w_s3 := fun o => hb_w3.frozen (p := ⟨w.heap.size + 1 + 1 + 1, o, none⟩) (by first | omega | (simp <;> omega))
    have c_w3_w_s3_0 := c_w3_w_s3 0
    conv at c_w3_w_s3_0 => rhs; simp [go_sem, *]
    have f_w3_w_s3_0 := f_w3_w_s3 0
    conv at f_w3_w_s3_0 => rhs; simp [go_sem, *]
    have c_w3_w_s3_1 := c_w3_w_s3 1
    conv at c_w3_w_s3_1 => rhs; simp [go_sem, *]
    have f_w3_w_s3_1 := f_w3_w_s3 1
    conv at f_w3_w_s3_1 => rhs; simp [go_sem, *]
    have c_w3_w_s3_2 := c_w3_w_s3 2
    conv at c_w3_w_s3_2 => rhs; simp [go_sem, *]
    have f_w3_w_s3_2 := f_w3_w_s3 2
    conv at f_w3_w_s3_2 => rhs; simp [go_sem, *]
    have c_w3_vg2 := fun o => hb_w3.cell (p := ⟨g2, o, none⟩) (by first | omega | (simp <;> omega))
    have f_w3_vg2 := fun o => hb_w3.frozen (p := ⟨g2, o, none⟩) (by first | omega | (simp <;> omega))
    have c_w3_vg2_0 := c_w3_vg2 0
    conv at c_w3_vg2_0 => rhs; simp [go_sem, *]
    have f_w3_vg2_0 := f_w3_vg2 0
    conv at f_w3_vg2_0 => rhs; simp [go_sem, *]
    have HH_w3 := Lib.hid hb_w3
    have hB_w3 : Below w.heap.size w w3 := Below.trans (by (repeat (first | (with_reducible exact Below.refl _ _) | (with_reducible assumption) | (with_reducible refine Below.drew ?_) | (focus ((with_reducible refine Below.setCell ?_ ?_ _); rotate_left; (first | omega | (simp <;> omega)))) | (focus ((with_reducible refine Below.alloc ?_ ?_ _); rotate_left; (first | omega | (simp <;> omega)))) | exact Below.refl _ _ | assumption | refine Below.drew ?_ | refine Below.alloc ?_ (by first | omega | (simp <;> omega)) _ | refine Below.setCell ?_ (by first | omega | (simp <;> omega)) _))) (hb_w3.mono (by first | omega | (simp <;> omega)))
    clear hb_w3 c_w3_w_0 f_w3_w_0 c_w3_w_1 f_w3_w_1 c_w3_w_s2 f_w3_w_s2 c_w3_w_s3 f_w3_w_s3 c_w3_vg2 f_w3_vg2
    try clear c_w4_w_0_0
    try clear f_w4_w_0_0
    try clear c_w4_w_0_1
    try clear f_w4_w_0_1
    try clear c_w4_w_0_2
    try clear f_w4_w_0_2
    try clear c_w4_w_1_0
    try clear f_w4_w_1_0
    try clear c_w4_w_s2_0
    try clear f_w4_w_s2_0
    try clear c_w4_w_s3_0
    try clear f_w4_w_s3_0
    try clear c_w4_w_s3_1
    try clear f_w4_w_s3_1
    try clear c_w4_w_s3_2
    try clear f_w4_w_s3_2
    try clear c_w4_vg2_0
    try clear f_w4_vg2_0
    try clear far_w4_w_0
    try clear far_w4_w_1
    try clear far_w4_w_s2
    try clear far_w4_w_s3
    try clear far_w4_vg2
    try clear hB_w4
    have far_w3_w_0 := far (show w.heap.size < w3.heap.size by omega)
    have far_w3_w_1 := far (show w.heap.size + 1 < w3.heap.size by omega)
    have far_w3_w_s2 := far (show w.heap.size + 1 + 1 < w3.heap.size by omega)
    have far_w3_w_s3 := far (show w.heap.size + 1 + 1 + 1 < w3.heap.size by omega)
    have far_w3_vg2 := far (show g2 < w3.heap.size by omega)
    go_wp2_with (first
      | (go_at_call 75; refine Calls.mono (OK.out _ false _ (by assumption) (by assumption)) ?_; rintro e w' ⟨⟨r, rfl⟩, hw'⟩; subst hw')
      | fail)
    go_wp2_with fail
    refine Calls.mono (LO.out _) ?_
    rintro e w4 ⟨rfl, hb_w4⟩
    have hz_w4 := hb_w4.size
    try simp at hz_w4
    obtain ⟨c_w4_w_0, f_w4_w_0⟩ := bk hb_w4 (w.heap.size) (by first | omega | (simp <;> omega))
    have c_w4_w_0_0 := c_w4_w_0 0
    conv at c_w4_w_0_0 => rhs; simp [go_sem, *]
    have f_w4_w_0_0 := f_w4_w_0 0
    conv at f_w4_w_0_0 => rhs; simp [go_sem, *]
    have c_w4_w_0_1 := c_w4_w_0 1
    conv at c_w4_w_0_1 => rhs; simp [go_sem, *]
    have f_w4_w_0_1 := f_w4_w_0 1
    conv at f_w4_w_0_1 => rhs; simp [go_sem, *]
    have c_w4_w_0_2 := c_w4_w_0 2
    conv at c_w4_w_0_2 => rhs; simp [go_sem, *]
    have f_w4_w_0_2 := f_w4_w_0 2
    conv at f_w4_w_0_2 => rhs; simp [go_sem, *]
    obtain ⟨c_w4_w_1, f_w4_w_1⟩ := bk hb_w4 (w.heap.size + 1) (by first | omega | (simp <;> omega))
    have c_w4_w_1_0 := c_w4_w_1 0
    conv at c_w4_w_1_0 => rhs; simp [go_sem, *]
    have f_w4_w_1_0 := f_w4_w_1 0
    conv at f_w4_w_1_0 => rhs; simp [go_sem, *]
    obtain ⟨c_w4_w_s2, f_w4_w_s2⟩ := bk hb_w4 (w.heap.size + 1 + 1) (by first | omega | (simp <;> omega))
    have c_w4_w_s2_0 := c_w4_w_s2 0
    conv at c_w4_w_s2_0 => rhs; simp [go_sem, *]
    have f_w4_w_s2_0 := f_w4_w_s2 0
    conv at f_w4_w_s2_0 => rhs; simp [go_sem, *]
    obtain ⟨c_w4_w_s3, f_w4_w_s3⟩ := bk hb_w4 (w.heap.size + 1 + 1 + 1) (by first | omega | (simp <;> omega))
    have c_w4_w_s3_0 := c_w4_w_s3 0
    conv at c_w4_w_s3_0 => rhs; simp [go_sem, *]
    have f_w4_w_s3_0 := f_w4_w_s3 0
    conv at f_w4_w_s3_0 => rhs; simp [go_sem, *]
    have c_w4_w_s3_1 := c_w4_w_s3 1
    conv at c_w4_w_s3_1 => rhs; simp [go_sem, *]
    have f_w4_w_s3_1 := f_w4_w_s3 1
    conv at f_w4_w_s3_1 => rhs; simp [go_sem, *]
    have c_w4_w_s3_2 := c_w4_w_s3 2
    conv at c_w4_w_s3_2 => rhs; simp [go_sem, *]
    have f_w4_w_s3_2 := f_w4_w_s3 2
    conv at f_w4_w_s3_2 => rhs; simp [go_sem, *]
    obtain ⟨c_w4_vg2, f_w4_vg2⟩ := bk hb_w4 (g2) (by first | omega | (simp <;> omega))
    have c_w4_vg2_0 := c_w4_vg2 0
    conv at c_w4_vg2_0 => rhs; simp [go_sem, *]
    have f_w4_vg2_0 := f_w4_vg2 0
    conv at f_w4_vg2_0 => rhs; simp [go_sem, *]
    have HH_w4 := Lib.hid hb_w4
    have hB_w4 : Below w.heap.size w w4 := Below.trans (by (repeat (first | (with_reducible exact Below.refl _ _) | (with_reducible assumption) | (with_reducible refine Below.drew ?_) | (focus ((with_reducible refine Below.setCell ?_ ?_ _); rotate_left; (first | omega | (simp <;> omega)))) | (focus ((with_reducible refine Below.alloc ?_ ?_ _); rotate_left; (first | omega | (simp <;> omega)))) | exact Below.refl _ _ | assumption | refine Below.drew ?_ | refine Below.alloc ?_ (by first | omega | (simp <;> omega)) _ | refine Below.setCell ?_ (by first | omega | (simp <;> omega)) _))) (hb_w4.mono (by first | omega | (simp <;> omega)))
    clear hb_w4 c_w4_w_0 f_w4_w_0 c_w4_w_1 f_w4_w_1 c_w4_w_s2 f_w4_w_s2 c_w4_w_s3 f_w4_w_s3 c_w4_vg2 f_w4_vg2
    try clear c_w3_w_0_0
    try clear f_w3_w_0_0
    try clear c_w3_w_0_1
    try clear f_w3_w_0_1
    try clear c_w3_w_0_2
    try clear f_w3_w_0_2
    try clear c_w3_w_1_0
    try clear f_w3_w_1_0
    try clear c_w3_w_s2_0
    try clear f_w3_w_s2_0
    try clear c_w3_w_s3_0
    try clear f_w3_w_s3_0
    try clear c_w3_w_s3_1
    try clear f_w3_w_s3_1
    try clear c_w3_w_s3_2
    try clear f_w3_w_s3_2
    try clear c_w3_vg2_0
    try clear f_w3_vg2_0
    try clear far_w3_w_0
    try clear far_w3_w_1
    try clear far_w3_w_s2
    try clear far_w3_w_s3
    try clear far_w3_vg2
    try clear hB_w3
    have far_w4_w_0 := far (show w.heap.size < w4.heap.size by omega)
    have far_w4_w_1 := far (show w.heap.size + 1 < w4.heap.size by omega)
    have far_w4_w_s2 := far (show w.heap.size + 1 + 1 < w4.heap.size by omega)
    have far_w4_w_s3 := far (show w.heap.size + 1 + 1 + 1 < w4.heap.size by omega)
    have far_w4_vg2 := far (show g2 < w4.heap.size by omega)
    go_wp2_with fail
    go_region
    go_wp2_with fail
    have hR := XS.out
    simp only [Bool.and_true, Bool.and_false, Bool.false_and, Bool.true_and] at hR
    subst hR
    refine bodyPost_ret (v := .tuple #[.agg #[.string (S ln), .string (S []), .string (S [])], .bool false]) (by simp [results, Tryz.results49, go_sem, *]) rfl ⟨rfl, ?_⟩
    (repeat (first | (with_reducible exact Below.refl _ _) | (with_reducible assumption) | (with_reducible refine Below.drew ?_) | (focus ((with_reducible refine Below.setCell ?_ ?_ _); rotate_left; (first | omega | (simp <;> omega)))) | (focus ((with_reducible refine Below.alloc ?_ ?_ _); rotate_left; (first | omega | (simp <;> omega)))) | exact Below.refl _ _ | assumption | refine Below.drew ?_ | refine Below.alloc ?_ (by first | omega | (simp <;> omega)) _ | refine Below.setCell ?_ (by first | omega | (simp <;> omega)) _))
end Go.Proofs.YtcfihoniocamaaaGreatDoor
