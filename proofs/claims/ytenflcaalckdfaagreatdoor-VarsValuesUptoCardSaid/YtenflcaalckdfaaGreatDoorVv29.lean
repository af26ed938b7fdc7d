/- The laws' own functions: few, short, alive. -/
import Derived.Test.YtenflcaalckdfaaGreatDoorVv27
import Derived.Test.YtenflcaalckdfaaGreatDoorVv28
namespace Go.Proofs.YtenflcaalckdfaaGreatDoor
open Go Go.RowKit Go.Sort Go.Shelf
set_option linter.unusedVariables false
set_option linter.unusedSimpArgs false

theorem take_le' (l : List UInt8) (K : Nat) (hl : l.length ≤ 9223372036854775807) : ∃ m : Nat, min (l.length : Int) K = m ∧ m ≤ l.length ∧ l.take K = l.take m := ⟨min l.length K, by omega, by omega, by
  by_cases h : K ≤ l.length
  · rw [Nat.min_eq_right h]
  · rw [Nat.min_eq_left (by omega), List.take_length, List.take_of_length_le (by omega)]⟩
theorem few1_c (l : List UInt8) (hl : l.length ≤ 9223372036854775807) (w : World) : Calls Tryz.prog 18 #[.string (S l)] w fun e w' => e = .returned (.string (S (l.take 300))) ∧ w' = w := by
  obtain ⟨m, hm, hml, e⟩ := take_le' l 300 hl
  rw [e]
  clear e
  simp only [Int.cast_ofNat_Int] at hm
  go_enter Tryz.func18, Tryz.ntmps18
  go_wp2
  go_ret
  exact ⟨by simp, rfl⟩
theorem vars_short (l : List UInt8) (hl : l.length ≤ 9223372036854775807) (w : World) : Calls Tryz.prog 7 #[.string (S l)] w fun e w' => e = .returned (.string (S (l.take 600))) ∧ w' = w := by
  obtain ⟨m, hm, hml, e⟩ := take_le' l 600 hl
  rw [e]
  clear e
  simp only [Int.cast_ofNat_Int] at hm
  go_enter Tryz.func7, Tryz.ntmps7
  go_wp2
  go_ret
  exact ⟨by simp, rfl⟩
def En.cut (e : En) : En := ⟨e.host.take 300, e.ref.take 300, e.agent.take 300, e.cookie.take 300, e.lang.take 300, e.query.take 300⟩
theorem En.cut_few (e : En) : e.cut.few := ⟨by simp [En.cut]; omega, by simp [En.cut]; omega, by simp [En.cut]; omega, by simp [En.cut]; omega, by simp [En.cut]; omega, by simp [En.cut]; omega⟩
def En.lens (e : En) : Prop := e.host.length ≤ 9223372036854775807 ∧ e.ref.length ≤ 9223372036854775807 ∧ e.agent.length ≤ 9223372036854775807 ∧ e.cookie.length ≤ 9223372036854775807 ∧ e.lang.length ≤ 9223372036854775807 ∧ e.query.length ≤ 9223372036854775807
set_option maxHeartbeats 3200000 in
set_option maxRecDepth 100000 in
theorem vars_few (e : En) (he : e.lens) (w : World) : Calls Tryz.prog 6 #[e.v] w fun x w' => x = .returned e.cut.v ∧ Below w.heap.size w w' := by
  obtain ⟨h1, h2, h3, h4, h5, h6⟩ := he
  have C1 := Lib.hid (fun W => few1_c e.host h1 W)
  have C2 := Lib.hid (fun W => few1_c e.ref h2 W)
  have C3 := Lib.hid (fun W => few1_c e.agent h3 W)
  have C4 := Lib.hid (fun W => few1_c e.cookie h4 W)
  have C5 := Lib.hid (fun W => few1_c e.lang h5 W)
  have C6 := Lib.hid (fun W => few1_c e.query h6 W)
  obtain ⟨a1, a2, a3, a4, a5, a6⟩ := e
  simp only [En.v, En.cut] at *
  obtain ⟨b1, hb1⟩ : ∃ b, a1.take 300 = b := ⟨_, rfl⟩
  obtain ⟨b2, hb2⟩ : ∃ b, a2.take 300 = b := ⟨_, rfl⟩
  obtain ⟨b3, hb3⟩ : ∃ b, a3.take 300 = b := ⟨_, rfl⟩
  obtain ⟨b4, hb4⟩ : ∃ b, a4.take 300 = b := ⟨_, rfl⟩
  obtain ⟨b5, hb5⟩ : ∃ b, a5.take 300 = b := ⟨_, rfl⟩
  obtain ⟨b6, hb6⟩ : ∃ b, a6.take 300 = b := ⟨_, rfl⟩
  rw [hb1] at C1 ⊢
  rw [hb2] at C2 ⊢
  rw [hb3] at C3 ⊢
  rw [hb4] at C4 ⊢
  rw [hb5] at C5 ⊢
  rw [hb6] at C6 ⊢
  clear h1 h2 h3 h4 h5 h6 hb1 hb2 hb3 hb4 hb5 hb6
  go_enter Tryz.func6, Tryz.ntmps6
  go_wp2_with fail
  refine wp_region_later_tail (w.heap.size + 2) 25 (by kernel_rfl) (by kernel_rfl) ?_
  simp only [List.take_succ_cons, List.take_zero, List.drop_succ_cons, List.drop_zero]
  have l_w2_w_0 := @Later.at (w.heap.size + 2) (w.heap.size) (by omega)
  have l_w2_w_1 := @Later.at (w.heap.size + 2) (w.heap.size + 1) (by omega)
  repeat (go_big_quiet_step ((go_at_call 18; first | (with_reducible refine later_same (C1.out _)) | (with_reducible refine later_same (C2.out _)) | (with_reducible refine later_same (C3.out _)) | (with_reducible refine later_same (C4.out _)) | (with_reducible refine later_same (C5.out _)) | (with_reducible refine later_same (C6.out _)))))
  refine wpQuiet_nil ?_
  rintro w2 ⟨⟨_, hb_w2⟩, rfl⟩
  clear l_w2_w_0 l_w2_w_1
  try simp only [] at hb_w2 ⊢
  have hz_w2 := hb_w2.size
  try simp at hz_w2
  have c2__0 := fun o => hb_w2.cell (p := ⟨w.heap.size, o, none⟩) (by first | omega | (simp <;> omega))
  have f2__0 := fun o => hb_w2.frozen (p := ⟨w.heap.size, o, none⟩) (by first | omega | (simp <;> omega))
  have c2__0_0 := c2__0 0; conv at c2__0_0 => rhs; simp [go_sem, *]
  have f2__0_0 := f2__0 0; conv at f2__0_0 => rhs; simp [go_sem, *]
  have c2__0_1 := c2__0 1; conv at c2__0_1 => rhs; simp [go_sem, *]
  have f2__0_1 := f2__0 1; conv at f2__0_1 => rhs; simp [go_sem, *]
  have c2__0_2 := c2__0 2; conv at c2__0_2 => rhs; simp [go_sem, *]
  have f2__0_2 := f2__0 2; conv at f2__0_2 => rhs; simp [go_sem, *]
  have c2__0_3 := c2__0 3; conv at c2__0_3 => rhs; simp [go_sem, *]
  have f2__0_3 := f2__0 3; conv at f2__0_3 => rhs; simp [go_sem, *]
  have c2__0_4 := c2__0 4; conv at c2__0_4 => rhs; simp [go_sem, *]
  have f2__0_4 := f2__0 4; conv at f2__0_4 => rhs; simp [go_sem, *]
  have c2__0_5 := c2__0 5; conv at c2__0_5 => rhs; simp [go_sem, *]
  have f2__0_5 := f2__0 5; conv at f2__0_5 => rhs; simp [go_sem, *]
  have c2__1 := fun o => hb_w2.cell (p := ⟨w.heap.size + 1, o, none⟩) (by first | omega | (simp <;> omega))
  have f2__1 := fun o => hb_w2.frozen (p := ⟨w.heap.size + 1, o, none⟩) (by first | omega | (simp <;> omega))
  have c2__1_0 := c2__1 0; conv at c2__1_0 => rhs; simp [go_sem, *]
  have f2__1_0 := f2__1 0; conv at f2__1_0 => rhs; simp [go_sem, *]
  have c2__1_1 := c2__1 1; conv at c2__1_1 => rhs; simp [go_sem, *]
  have f2__1_1 := f2__1 1; conv at f2__1_1 => rhs; simp [go_sem, *]
  have c2__1_2 := c2__1 2; conv at c2__1_2 => rhs; simp [go_sem, *]
  have f2__1_2 := f2__1 2; conv at f2__1_2 => rhs; simp [go_sem, *]
  have c2__1_3 := c2__1 3; conv at c2__1_3 => rhs; simp [go_sem, *]
  have f2__1_3 := f2__1 3; conv at f2__1_3 => rhs; simp [go_sem, *]
  have c2__1_4 := c2__1 4; conv at c2__1_4 => rhs; simp [go_sem, *]
  have f2__1_4 := f2__1 4; conv at f2__1_4 => rhs; simp [go_sem, *]
  have c2__1_5 := c2__1 5; conv at c2__1_5 => rhs; simp [go_sem, *]
  have f2__1_5 := f2__1 5; conv at f2__1_5 => rhs; simp [go_sem, *]
  have HH_w2 := Lib.hid hb_w2
  have hB_w2 : Below w.heap.size w w2 := Below.trans (by (repeat (first | with_reducible exact Below.refl _ _ | with_reducible assumption | with_reducible refine Below.drew ?_ | (with_reducible refine Below.setCell ?_ ?_ _; rotate_left; (first | omega | (simp <;> omega))) | (with_reducible refine Below.alloc ?_ ?_ _; rotate_left; (first | omega | (simp <;> omega))) | exact Below.refl _ _ | assumption))) (hb_w2.mono (by first | omega | (simp <;> omega)))
  clear hb_w2 c2__0 f2__0 c2__1 f2__1
  have far_w2_w_0 := far (show w.heap.size < w2.heap.size by omega)
  have far_w2_w_1 := far (show w.heap.size + 1 < w2.heap.size by omega)
  go_wp2
  exact bodyPost_ret (v := .agg #[.string (S b1), .string (S b2), .string (S b3), .string (S b4), .string (S b5), .string (S b6)]) (by simp [results, Tryz.results6, go_sem, *]) rfl ⟨rfl, by (repeat (first | with_reducible exact Below.refl _ _ | with_reducible assumption | with_reducible refine Below.drew ?_ | (with_reducible refine Below.setCell ?_ ?_ _; rotate_left; (first | omega | (simp <;> omega))) | (with_reducible refine Below.alloc ?_ ?_ _; rotate_left; (first | omega | (simp <;> omega))) | exact Below.refl _ _ | assumption))⟩
def queryOf (q : List UInt8) : En := ⟨[], [], [], [], [], q⟩
theorem alive_sub : subV (queryOf [120, 61, 49]) [97, 36, 40, 81, 85, 69, 82, 89, 95, 83, 84, 82, 73, 78, 71, 123, 120, 125, 124, 39, 110, 111, 110, 101, 39, 41, 98] = [97, 49, 98] := by decide +kernel
theorem vars_alive (w : World) (hM : ML w) : Calls Tryz.prog 10 #[] w fun e w' => e = .returned (.bool true) ∧ Below w.heap.size w w' := by
  have C := Lib.hid (fun W h => varsSub (queryOf [120, 61, 49]) (by unfold En.few queryOf; simp) [97, 36, 40, 81, 85, 69, 82, 89, 95, 83, 84, 82, 73, 78, 71, 123, 120, 125, 124, 39, 110, 111, 110, 101, 39, 41, 98] (by decide) W h)
  rw [alive_sub] at C
  unfold queryOf En.v at C
  simp only at C
  go_enter Tryz.func10, Tryz.ntmps10
  go_wp2_with (go_at_call 11; refine Calls.mono (C.out _ hM) ?_; rintro x w1 ⟨rfl, hb1⟩; have HB1 := Lib.hid hb1; clear hb1)
  go_ret
  exact ⟨ret_bool (by simp), HB1.out⟩
end Go.Proofs.YtenflcaalckdfaaGreatDoor
