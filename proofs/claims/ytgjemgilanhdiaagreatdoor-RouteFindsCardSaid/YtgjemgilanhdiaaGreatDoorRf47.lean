/- First lines that may be, the document's: Right at an answer's line. Printed by tools/rtstartref2.py. -/
import Derived.Test.YtgjemgilanhdiaaGreatDoorRf40
namespace Go.Proofs.YtgjemgilanhdiaaGreatDoor
open Go.RowKit Go.Sort Go.Shelf
set_option linter.unusedVariables false
set_option linter.unusedSimpArgs false

set_option maxHeartbeats 40000000 in
set_option maxRecDepth 100000 in
theorem refStartN (s : St) (h3 : s.r.length ≤ 4611686018427387903) (hc0 : s.c ≠ 0) (w : World) :
    Calls Tryz.prog 23 #[.agg #[.string (S s.m), .string (S s.t), .int .i64 s.c, .string (S s.r), .int .i64 s.n]] w fun e w' => e = .returned (.bool (startOk s)) ∧ Below w.heap.size w w' := by
  have TR := Lib.hid (fun W => refTrim s.r (by omega) W)
  have i3 : (s.r.length : Int) ≤ 4611686018427387903 := by omega
  obtain ⟨m, t, c, r, n⟩ := s
  unfold startOk
  simp only at *
  obtain ⟨tr, htr⟩ : ∃ b, trim r = b := ⟨_, rfl⟩
  obtain ⟨ac, hac⟩ : ∃ b, r.any ctlB = b := ⟨_, rfl⟩
  rw [htr] at TR ⊢
  have HAC := Lib.hid hac
  rw [hac]
  rw [if_neg hc0]
  have cb : (c == 0) = false := by simpa using hc0
  have cb2 : (c != 0) = true := by unfold bne; rw [cb]; rfl
  clear htr hac h3 hc0
  by_cases n0 : 0 ≤ n ∧ n ≤ 1
  rotate_left
  · rw [show (decide (n = 0) || decide (n = 1)) = false by simp; omega, Bool.false_and]
    by_cases nn : n < 0
    · go_enter Tryz.func23, Tryz.ntmps23
      go_wp2
      go_ret
      exact ⟨rfl, by (repeat (first | with_reducible exact Below.refl _ _ | with_reducible assumption | with_reducible refine Below.drew ?_ | (with_reducible refine Below.setCell ?_ ?_ _; rotate_left; (first | omega | (simp <;> omega))) | (with_reducible refine Below.alloc ?_ ?_ _; rotate_left; (first | omega | (simp <;> omega))) | exact Below.refl _ _ | assumption))⟩
    · have n1 : 1 < n := by omega
      go_enter Tryz.func23, Tryz.ntmps23
      go_wp2
      go_ret
      exact ⟨rfl, by (repeat (first | with_reducible exact Below.refl _ _ | with_reducible assumption | with_reducible refine Below.drew ?_ | (with_reducible refine Below.setCell ?_ ?_ _; rotate_left; (first | omega | (simp <;> omega))) | (with_reducible refine Below.alloc ?_ ?_ _; rotate_left; (first | omega | (simp <;> omega))) | exact Below.refl _ _ | assumption))⟩
  obtain ⟨n1, n2⟩ := n0
  rw [show (decide (n = 0) || decide (n = 1)) = true by simp; omega, Bool.true_and]
  by_cases c1 : 100 ≤ c
  rotate_left
  · have c2 : c < 100 := by omega
    have c3 : decide (100 ≤ c) = false := decide_eq_false c1
    rw [c3]
    clear c1
    go_enter Tryz.func23, Tryz.ntmps23
    go_wp2
    go_loop [3] (fun iv => ∃ k : Nat, iv = .int .i64 k ∧ k ≤ r.length ∧ (∀ j (h : j < r.length), j < k → ctlB r[j] = false)) (fun iv => r.length - (intOf iv).toNat)
    case atStart => exact ⟨0, rfl, Nat.zero_le _, fun j h h2 => by omega⟩
    case round =>
      obtain ⟨k, rfl, hk, hall⟩ := hrel
      have HALL := Lib.hid hall
      clear hall
      by_cases hkl : k < r.length
      · have hbat := bAt_eq hkl
        have CT := Lib.hid (fun W => refControl r[k] W)
        rw [← hbat] at CT
        cases hcb : ctlB r[k] with
        | true =>
          have hres : ac = true := HAC.out.symm.trans (List.any_eq_true.2 ⟨_, List.getElem_mem hkl, hcb⟩)
          rw [hcb] at CT
          clear hbat hcb
          subst hres
          go_wp2_with (first | (go_at_call 44; refine Calls.mono (CT.out _) ?_; rintro e w' ⟨rfl, hw'⟩; obtain rfl := hw'.symm) | fail)
          try rw [Exit.noGoto_ret]
          go_ret
          exact ⟨by first | rfl | (simp [*]; done), by (repeat (first | with_reducible exact Below.refl _ _ | with_reducible assumption | with_reducible refine Below.drew ?_ | (with_reducible refine Below.setCell ?_ ?_ _; rotate_left; (first | omega | (simp <;> omega))) | (with_reducible refine Below.alloc ?_ ?_ _; rotate_left; (first | omega | (simp <;> omega))) | exact Below.refl _ _ | assumption))⟩
        | false =>
          rw [hcb] at CT
          have HN := Lib.hid (show ∀ j (h : j < r.length), j < k + 1 → ctlB r[j] = false from fun j h h2 => by
            by_cases e : j = k
            · subst e; exact hcb
            · exact HALL.out j h (by omega))
          clear hbat hcb
          go_wp2_with (first | (go_at_call 44; refine Calls.mono (CT.out _) ?_; rintro e w' ⟨rfl, hw'⟩; obtain rfl := hw'.symm) | fail)
          go_round
          case rel => exact ⟨k + 1, by go_num, by omega, HN.out⟩
          case measure => simp [intOf]; omega
      · obtain rfl : k = r.length := by omega
        have hac2 : ac = false := HAC.out.symm.trans (by
          rw [List.any_eq_false]
          intro x hx
          obtain ⟨j, hj, rfl⟩ := List.getElem_of_mem hx
          rw [HALL.out j hj hj]; simp)
        subst hac2
        go_wp2_with fail
        refine wp_region_later (w.heap.size + 1) (by kernel_rfl) (by kernel_rfl) ?_
        have l_w1_w_0 := @Later.at (w.heap.size + 1) (w.heap.size) (by omega)
        repeat (go_big_quiet_step ((go_at_call 45; refine later_same (TR.out _))))
        refine wpQuiet_nil ?_
        rintro w1 ⟨⟨_, hb_w1⟩, rfl⟩
        clear l_w1_w_0
        try simp only [] at hb_w1 ⊢
        have hz_w1 := hb_w1.size
        try simp at hz_w1
        have c1__0 := fun o => hb_w1.cell (p := ⟨w.heap.size, o, none⟩) (by first | omega | (simp <;> omega))
        have f1__0 := fun o => hb_w1.frozen (p := ⟨w.heap.size, o, none⟩) (by first | omega | (simp <;> omega))
        have c1__0_0 := c1__0 0; conv at c1__0_0 => rhs; simp [go_sem, *]
        have f1__0_0 := f1__0 0; conv at f1__0_0 => rhs; simp [go_sem, *]
        have c1__0_1 := c1__0 1; conv at c1__0_1 => rhs; simp [go_sem, *]
        have f1__0_1 := f1__0 1; conv at f1__0_1 => rhs; simp [go_sem, *]
        have c1__0_2 := c1__0 2; conv at c1__0_2 => rhs; simp [go_sem, *]
        have f1__0_2 := f1__0 2; conv at f1__0_2 => rhs; simp [go_sem, *]
        have c1__0_3 := c1__0 3; conv at c1__0_3 => rhs; simp [go_sem, *]
        have f1__0_3 := f1__0 3; conv at f1__0_3 => rhs; simp [go_sem, *]
        have c1__0_4 := c1__0 4; conv at c1__0_4 => rhs; simp [go_sem, *]
        have f1__0_4 := f1__0 4; conv at f1__0_4 => rhs; simp [go_sem, *]
        have HH_w1 := Lib.hid hb_w1
        have hB_w1 : Below w.heap.size w w1 := Below.trans (by (repeat (first | with_reducible exact Below.refl _ _ | with_reducible assumption | with_reducible refine Below.drew ?_ | (with_reducible refine Below.setCell ?_ ?_ _; rotate_left; (first | omega | (simp <;> omega))) | (with_reducible refine Below.alloc ?_ ?_ _; rotate_left; (first | omega | (simp <;> omega))) | exact Below.refl _ _ | assumption))) (hb_w1.mono (by first | omega | (simp <;> omega)))
        clear hb_w1 c1__0 f1__0
        have far_w1_w_0 := far (show w.heap.size < w1.heap.size by omega)
        go_wp2
        go_ret
        exact ⟨by first | rfl | (simp [*]; done) | (simp [*]; omega), by (repeat (first | with_reducible exact Below.refl _ _ | with_reducible assumption | with_reducible refine Below.drew ?_ | (with_reducible refine Below.setCell ?_ ?_ _; rotate_left; (first | omega | (simp <;> omega))) | (with_reducible refine Below.alloc ?_ ?_ _; rotate_left; (first | omega | (simp <;> omega))) | exact Below.refl _ _ | assumption))⟩
  have c1d : decide (100 ≤ c) = true := decide_eq_true c1
  rw [c1d]
  by_cases c2 : c ≤ 599
  rotate_left
  · have c3 : decide (c ≤ 599) = false := decide_eq_false c2
    have c4 : decide (c < 600) = false := decide_eq_false (by omega)
    have c5 : 600 ≤ c := by omega
    rw [c3]
    clear c2
    go_enter Tryz.func23, Tryz.ntmps23
    go_wp2
    go_loop [3] (fun iv => ∃ k : Nat, iv = .int .i64 k ∧ k ≤ r.length ∧ (∀ j (h : j < r.length), j < k → ctlB r[j] = false)) (fun iv => r.length - (intOf iv).toNat)
    case atStart => exact ⟨0, rfl, Nat.zero_le _, fun j h h2 => by omega⟩
    case round =>
      obtain ⟨k, rfl, hk, hall⟩ := hrel
      have HALL := Lib.hid hall
      clear hall
      by_cases hkl : k < r.length
      · have hbat := bAt_eq hkl
        have CT := Lib.hid (fun W => refControl r[k] W)
        rw [← hbat] at CT
        cases hcb : ctlB r[k] with
        | true =>
          have hres : ac = true := HAC.out.symm.trans (List.any_eq_true.2 ⟨_, List.getElem_mem hkl, hcb⟩)
          rw [hcb] at CT
          clear hbat hcb
          subst hres
          go_wp2_with (first | (go_at_call 44; refine Calls.mono (CT.out _) ?_; rintro e w' ⟨rfl, hw'⟩; obtain rfl := hw'.symm) | fail)
          try rw [Exit.noGoto_ret]
          go_ret
          exact ⟨by first | rfl | (simp [*]; done), by (repeat (first | with_reducible exact Below.refl _ _ | with_reducible assumption | with_reducible refine Below.drew ?_ | (with_reducible refine Below.setCell ?_ ?_ _; rotate_left; (first | omega | (simp <;> omega))) | (with_reducible refine Below.alloc ?_ ?_ _; rotate_left; (first | omega | (simp <;> omega))) | exact Below.refl _ _ | assumption))⟩
        | false =>
          rw [hcb] at CT
          have HN := Lib.hid (show ∀ j (h : j < r.length), j < k + 1 → ctlB r[j] = false from fun j h h2 => by
            by_cases e : j = k
            · subst e; exact hcb
            · exact HALL.out j h (by omega))
          clear hbat hcb
          go_wp2_with (first | (go_at_call 44; refine Calls.mono (CT.out _) ?_; rintro e w' ⟨rfl, hw'⟩; obtain rfl := hw'.symm) | fail)
          go_round
          case rel => exact ⟨k + 1, by go_num, by omega, HN.out⟩
          case measure => simp [intOf]; omega
      · obtain rfl : k = r.length := by omega
        have hac2 : ac = false := HAC.out.symm.trans (by
          rw [List.any_eq_false]
          intro x hx
          obtain ⟨j, hj, rfl⟩ := List.getElem_of_mem hx
          rw [HALL.out j hj hj]; simp)
        subst hac2
        go_wp2_with fail
        refine wp_region_later (w.heap.size + 1) (by kernel_rfl) (by kernel_rfl) ?_
        have l_w1_w_0 := @Later.at (w.heap.size + 1) (w.heap.size) (by omega)
        repeat (go_big_quiet_step ((go_at_call 45; refine later_same (TR.out _))))
        refine wpQuiet_nil ?_
        rintro w1 ⟨⟨_, hb_w1⟩, rfl⟩
        clear l_w1_w_0
        try simp only [] at hb_w1 ⊢
        have hz_w1 := hb_w1.size
        try simp at hz_w1
        have c1__0 := fun o => hb_w1.cell (p := ⟨w.heap.size, o, none⟩) (by first | omega | (simp <;> omega))
        have f1__0 := fun o => hb_w1.frozen (p := ⟨w.heap.size, o, none⟩) (by first | omega | (simp <;> omega))
        have c1__0_0 := c1__0 0; conv at c1__0_0 => rhs; simp [go_sem, *]
        have f1__0_0 := f1__0 0; conv at f1__0_0 => rhs; simp [go_sem, *]
        have c1__0_1 := c1__0 1; conv at c1__0_1 => rhs; simp [go_sem, *]
        have f1__0_1 := f1__0 1; conv at f1__0_1 => rhs; simp [go_sem, *]
        have c1__0_2 := c1__0 2; conv at c1__0_2 => rhs; simp [go_sem, *]
        have f1__0_2 := f1__0 2; conv at f1__0_2 => rhs; simp [go_sem, *]
        have c1__0_3 := c1__0 3; conv at c1__0_3 => rhs; simp [go_sem, *]
        have f1__0_3 := f1__0 3; conv at f1__0_3 => rhs; simp [go_sem, *]
        have c1__0_4 := c1__0 4; conv at c1__0_4 => rhs; simp [go_sem, *]
        have f1__0_4 := f1__0 4; conv at f1__0_4 => rhs; simp [go_sem, *]
        have HH_w1 := Lib.hid hb_w1
        have hB_w1 : Below w.heap.size w w1 := Below.trans (by (repeat (first | with_reducible exact Below.refl _ _ | with_reducible assumption | with_reducible refine Below.drew ?_ | (with_reducible refine Below.setCell ?_ ?_ _; rotate_left; (first | omega | (simp <;> omega))) | (with_reducible refine Below.alloc ?_ ?_ _; rotate_left; (first | omega | (simp <;> omega))) | exact Below.refl _ _ | assumption))) (hb_w1.mono (by first | omega | (simp <;> omega)))
        clear hb_w1 c1__0 f1__0
        have far_w1_w_0 := far (show w.heap.size < w1.heap.size by omega)
        go_wp2
        go_ret
        exact ⟨by first | rfl | (simp [*]; done) | (simp [*]; omega), by (repeat (first | with_reducible exact Below.refl _ _ | with_reducible assumption | with_reducible refine Below.drew ?_ | (with_reducible refine Below.setCell ?_ ?_ _; rotate_left; (first | omega | (simp <;> omega))) | (with_reducible refine Below.alloc ?_ ?_ _; rotate_left; (first | omega | (simp <;> omega))) | exact Below.refl _ _ | assumption))⟩
  have c2d : decide (c ≤ 599) = true := decide_eq_true c2
  have c4 : decide (c < 600) = true := decide_eq_true (by omega)
  have c5 : c < 600 := by omega
  rw [c2d]
  clear c2
  cases hm : m.isEmpty with
  | false =>
    have hmb : (m == []) = false := by cases m with | nil => simp at hm | cons a b => rfl
    go_enter Tryz.func23, Tryz.ntmps23
    go_wp2
    go_loop [3] (fun iv => ∃ k : Nat, iv = .int .i64 k ∧ k ≤ r.length ∧ (∀ j (h : j < r.length), j < k → ctlB r[j] = false)) (fun iv => r.length - (intOf iv).toNat)
    case atStart => exact ⟨0, rfl, Nat.zero_le _, fun j h h2 => by omega⟩
    case round =>
      obtain ⟨k, rfl, hk, hall⟩ := hrel
      have HALL := Lib.hid hall
      clear hall
      by_cases hkl : k < r.length
      · have hbat := bAt_eq hkl
        have CT := Lib.hid (fun W => refControl r[k] W)
        rw [← hbat] at CT
        cases hcb : ctlB r[k] with
        | true =>
          have hres : ac = true := HAC.out.symm.trans (List.any_eq_true.2 ⟨_, List.getElem_mem hkl, hcb⟩)
          rw [hcb] at CT
          clear hbat hcb
          subst hres
          go_wp2_with (first | (go_at_call 44; refine Calls.mono (CT.out _) ?_; rintro e w' ⟨rfl, hw'⟩; obtain rfl := hw'.symm) | fail)
          try rw [Exit.noGoto_ret]
          go_ret
          exact ⟨by first | rfl | (simp [*]; done), by (repeat (first | with_reducible exact Below.refl _ _ | with_reducible assumption | with_reducible refine Below.drew ?_ | (with_reducible refine Below.setCell ?_ ?_ _; rotate_left; (first | omega | (simp <;> omega))) | (with_reducible refine Below.alloc ?_ ?_ _; rotate_left; (first | omega | (simp <;> omega))) | exact Below.refl _ _ | assumption))⟩
        | false =>
          rw [hcb] at CT
          have HN := Lib.hid (show ∀ j (h : j < r.length), j < k + 1 → ctlB r[j] = false from fun j h h2 => by
            by_cases e : j = k
            · subst e; exact hcb
            · exact HALL.out j h (by omega))
          clear hbat hcb
          go_wp2_with (first | (go_at_call 44; refine Calls.mono (CT.out _) ?_; rintro e w' ⟨rfl, hw'⟩; obtain rfl := hw'.symm) | fail)
          go_round
          case rel => exact ⟨k + 1, by go_num, by omega, HN.out⟩
          case measure => simp [intOf]; omega
      · obtain rfl : k = r.length := by omega
        have hac2 : ac = false := HAC.out.symm.trans (by
          rw [List.any_eq_false]
          intro x hx
          obtain ⟨j, hj, rfl⟩ := List.getElem_of_mem hx
          rw [HALL.out j hj hj]; simp)
        subst hac2
        go_wp2_with fail
        refine wp_region_later (w.heap.size + 1) (by kernel_rfl) (by kernel_rfl) ?_
        have l_w1_w_0 := @Later.at (w.heap.size + 1) (w.heap.size) (by omega)
        repeat (go_big_quiet_step ((go_at_call 45; refine later_same (TR.out _))))
        refine wpQuiet_nil ?_
        rintro w1 ⟨⟨_, hb_w1⟩, rfl⟩
        clear l_w1_w_0
        try simp only [] at hb_w1 ⊢
        have hz_w1 := hb_w1.size
        try simp at hz_w1
        have c1__0 := fun o => hb_w1.cell (p := ⟨w.heap.size, o, none⟩) (by first | omega | (simp <;> omega))
        have f1__0 := fun o => hb_w1.frozen (p := ⟨w.heap.size, o, none⟩) (by first | omega | (simp <;> omega))
        have c1__0_0 := c1__0 0; conv at c1__0_0 => rhs; simp [go_sem, *]
        have f1__0_0 := f1__0 0; conv at f1__0_0 => rhs; simp [go_sem, *]
        have c1__0_1 := c1__0 1; conv at c1__0_1 => rhs; simp [go_sem, *]
        have f1__0_1 := f1__0 1; conv at f1__0_1 => rhs; simp [go_sem, *]
        have c1__0_2 := c1__0 2; conv at c1__0_2 => rhs; simp [go_sem, *]
        have f1__0_2 := f1__0 2; conv at f1__0_2 => rhs; simp [go_sem, *]
        have c1__0_3 := c1__0 3; conv at c1__0_3 => rhs; simp [go_sem, *]
        have f1__0_3 := f1__0 3; conv at f1__0_3 => rhs; simp [go_sem, *]
        have c1__0_4 := c1__0 4; conv at c1__0_4 => rhs; simp [go_sem, *]
        have f1__0_4 := f1__0 4; conv at f1__0_4 => rhs; simp [go_sem, *]
        have HH_w1 := Lib.hid hb_w1
        have hB_w1 : Below w.heap.size w w1 := Below.trans (by (repeat (first | with_reducible exact Below.refl _ _ | with_reducible assumption | with_reducible refine Below.drew ?_ | (with_reducible refine Below.setCell ?_ ?_ _; rotate_left; (first | omega | (simp <;> omega))) | (with_reducible refine Below.alloc ?_ ?_ _; rotate_left; (first | omega | (simp <;> omega))) | exact Below.refl _ _ | assumption))) (hb_w1.mono (by first | omega | (simp <;> omega)))
        clear hb_w1 c1__0 f1__0
        have far_w1_w_0 := far (show w.heap.size < w1.heap.size by omega)
        go_wp2
        go_ret
        exact ⟨by first | rfl | (simp [*]; done) | (simp [*]; omega), by (repeat (first | with_reducible exact Below.refl _ _ | with_reducible assumption | with_reducible refine Below.drew ?_ | (with_reducible refine Below.setCell ?_ ?_ _; rotate_left; (first | omega | (simp <;> omega))) | (with_reducible refine Below.alloc ?_ ?_ _; rotate_left; (first | omega | (simp <;> omega))) | exact Below.refl _ _ | assumption))⟩
  | true =>
    obtain rfl : m = [] := by simpa using hm
    clear hm
    cases ht : t.isEmpty with
    | false =>
      have htb : (t == []) = false := by cases t with | nil => simp at ht | cons a b => rfl
      go_enter Tryz.func23, Tryz.ntmps23
      go_wp2
      go_loop [3] (fun iv => ∃ k : Nat, iv = .int .i64 k ∧ k ≤ r.length ∧ (∀ j (h : j < r.length), j < k → ctlB r[j] = false)) (fun iv => r.length - (intOf iv).toNat)
      case atStart => exact ⟨0, rfl, Nat.zero_le _, fun j h h2 => by omega⟩
      case round =>
        obtain ⟨k, rfl, hk, hall⟩ := hrel
        have HALL := Lib.hid hall
        clear hall
        by_cases hkl : k < r.length
        · have hbat := bAt_eq hkl
          have CT := Lib.hid (fun W => refControl r[k] W)
          rw [← hbat] at CT
          cases hcb : ctlB r[k] with
          | true =>
            have hres : ac = true := HAC.out.symm.trans (List.any_eq_true.2 ⟨_, List.getElem_mem hkl, hcb⟩)
            rw [hcb] at CT
            clear hbat hcb
            subst hres
            go_wp2_with (first | (go_at_call 44; refine Calls.mono (CT.out _) ?_; rintro e w' ⟨rfl, hw'⟩; obtain rfl := hw'.symm) | fail)
            try rw [Exit.noGoto_ret]
            go_ret
            exact ⟨by first | rfl | (simp [*]; done), by (repeat (first | with_reducible exact Below.refl _ _ | with_reducible assumption | with_reducible refine Below.drew ?_ | (with_reducible refine Below.setCell ?_ ?_ _; rotate_left; (first | omega | (simp <;> omega))) | (with_reducible refine Below.alloc ?_ ?_ _; rotate_left; (first | omega | (simp <;> omega))) | exact Below.refl _ _ | assumption))⟩
          | false =>
            rw [hcb] at CT
            have HN := Lib.hid (show ∀ j (h : j < r.length), j < k + 1 → ctlB r[j] = false from fun j h h2 => by
              by_cases e : j = k
              · subst e; exact hcb
              · exact HALL.out j h (by omega))
            clear hbat hcb
            go_wp2_with (first | (go_at_call 44; refine Calls.mono (CT.out _) ?_; rintro e w' ⟨rfl, hw'⟩; obtain rfl := hw'.symm) | fail)
            go_round
            case rel => exact ⟨k + 1, by go_num, by omega, HN.out⟩
            case measure => simp [intOf]; omega
        · obtain rfl : k = r.length := by omega
          have hac2 : ac = false := HAC.out.symm.trans (by
            rw [List.any_eq_false]
            intro x hx
            obtain ⟨j, hj, rfl⟩ := List.getElem_of_mem hx
            rw [HALL.out j hj hj]; simp)
          subst hac2
          go_wp2_with fail
          refine wp_region_later (w.heap.size + 1) (by kernel_rfl) (by kernel_rfl) ?_
          have l_w1_w_0 := @Later.at (w.heap.size + 1) (w.heap.size) (by omega)
          repeat (go_big_quiet_step ((go_at_call 45; refine later_same (TR.out _))))
          refine wpQuiet_nil ?_
          rintro w1 ⟨⟨_, hb_w1⟩, rfl⟩
          clear l_w1_w_0
          try simp only [] at hb_w1 ⊢
          have hz_w1 := hb_w1.size
          try simp at hz_w1
          have c1__0 := fun o => hb_w1.cell (p := ⟨w.heap.size, o, none⟩) (by first | omega | (simp <;> omega))
          have f1__0 := fun o => hb_w1.frozen (p := ⟨w.heap.size, o, none⟩) (by first | omega | (simp <;> omega))
          have c1__0_0 := c1__0 0; conv at c1__0_0 => rhs; simp [go_sem, *]
          have f1__0_0 := f1__0 0; conv at f1__0_0 => rhs; simp [go_sem, *]
          have c1__0_1 := c1__0 1; conv at c1__0_1 => rhs; simp [go_sem, *]
          have f1__0_1 := f1__0 1; conv at f1__0_1 => rhs; simp [go_sem, *]
          have c1__0_2 := c1__0 2; conv at c1__0_2 => rhs; simp [go_sem, *]
          have f1__0_2 := f1__0 2; conv at f1__0_2 => rhs; simp [go_sem, *]
          have c1__0_3 := c1__0 3; conv at c1__0_3 => rhs; simp [go_sem, *]
          have f1__0_3 := f1__0 3; conv at f1__0_3 => rhs; simp [go_sem, *]
          have c1__0_4 := c1__0 4; conv at c1__0_4 => rhs; simp [go_sem, *]
          have f1__0_4 := f1__0 4; conv at f1__0_4 => rhs; simp [go_sem, *]
          have HH_w1 := Lib.hid hb_w1
          have hB_w1 : Below w.heap.size w w1 := Below.trans (by (repeat (first | with_reducible exact Below.refl _ _ | with_reducible assumption | with_reducible refine Below.drew ?_ | (with_reducible refine Below.setCell ?_ ?_ _; rotate_left; (first | omega | (simp <;> omega))) | (with_reducible refine Below.alloc ?_ ?_ _; rotate_left; (first | omega | (simp <;> omega))) | exact Below.refl _ _ | assumption))) (hb_w1.mono (by first | omega | (simp <;> omega)))
          clear hb_w1 c1__0 f1__0
          have far_w1_w_0 := far (show w.heap.size < w1.heap.size by omega)
          go_wp2
          go_ret
          exact ⟨by first | rfl | (simp [*]; done) | (simp [*]; omega), by (repeat (first | with_reducible exact Below.refl _ _ | with_reducible assumption | with_reducible refine Below.drew ?_ | (with_reducible refine Below.setCell ?_ ?_ _; rotate_left; (first | omega | (simp <;> omega))) | (with_reducible refine Below.alloc ?_ ?_ _; rotate_left; (first | omega | (simp <;> omega))) | exact Below.refl _ _ | assumption))⟩
    | true =>
      obtain rfl : t = [] := by simpa using ht
      clear ht
      by_cases hr : r.length ≤ 100
      · have hri : (r.length : Int) ≤ 100 := by omega
        have hrd : decide ((r.length : Int) ≤ 100) = true := by simp; omega
        rw [decide_eq_true hr]
        clear hr
        cases htr : (tr == r) with
        | false =>
          go_enter Tryz.func23, Tryz.ntmps23
          go_wp2
          go_loop [3] (fun iv => ∃ k : Nat, iv = .int .i64 k ∧ k ≤ r.length ∧ (∀ j (h : j < r.length), j < k → ctlB r[j] = false)) (fun iv => r.length - (intOf iv).toNat)
          case atStart => exact ⟨0, rfl, Nat.zero_le _, fun j h h2 => by omega⟩
          case round =>
            obtain ⟨k, rfl, hk, hall⟩ := hrel
            have HALL := Lib.hid hall
            clear hall
            by_cases hkl : k < r.length
            · have hbat := bAt_eq hkl
              have CT := Lib.hid (fun W => refControl r[k] W)
              rw [← hbat] at CT
              cases hcb : ctlB r[k] with
              | true =>
                have hres : ac = true := HAC.out.symm.trans (List.any_eq_true.2 ⟨_, List.getElem_mem hkl, hcb⟩)
                rw [hcb] at CT
                clear hbat hcb
                subst hres
                go_wp2_with (first | (go_at_call 44; refine Calls.mono (CT.out _) ?_; rintro e w' ⟨rfl, hw'⟩; obtain rfl := hw'.symm) | fail)
                try rw [Exit.noGoto_ret]
                go_ret
                exact ⟨by first | rfl | (simp [*]; done), by (repeat (first | with_reducible exact Below.refl _ _ | with_reducible assumption | with_reducible refine Below.drew ?_ | (with_reducible refine Below.setCell ?_ ?_ _; rotate_left; (first | omega | (simp <;> omega))) | (with_reducible refine Below.alloc ?_ ?_ _; rotate_left; (first | omega | (simp <;> omega))) | exact Below.refl _ _ | assumption))⟩
              | false =>
                rw [hcb] at CT
                have HN := Lib.hid (show ∀ j (h : j < r.length), j < k + 1 → ctlB r[j] = false from fun j h h2 => by
                  by_cases e : j = k
                  · subst e; exact hcb
                  · exact HALL.out j h (by omega))
                clear hbat hcb
                go_wp2_with (first | (go_at_call 44; refine Calls.mono (CT.out _) ?_; rintro e w' ⟨rfl, hw'⟩; obtain rfl := hw'.symm) | fail)
                go_round
                case rel => exact ⟨k + 1, by go_num, by omega, HN.out⟩
                case measure => simp [intOf]; omega
            · obtain rfl : k = r.length := by omega
              have hac2 : ac = false := HAC.out.symm.trans (by
                rw [List.any_eq_false]
                intro x hx
                obtain ⟨j, hj, rfl⟩ := List.getElem_of_mem hx
                rw [HALL.out j hj hj]; simp)
              subst hac2
              go_wp2_with fail
              refine wp_region_later (w.heap.size + 1) (by kernel_rfl) (by kernel_rfl) ?_
              have l_w1_w_0 := @Later.at (w.heap.size + 1) (w.heap.size) (by omega)
              repeat (go_big_quiet_step ((go_at_call 45; refine later_same (TR.out _))))
              refine wpQuiet_nil ?_
              rintro w1 ⟨⟨_, hb_w1⟩, rfl⟩
              clear l_w1_w_0
              try simp only [] at hb_w1 ⊢
              have hz_w1 := hb_w1.size
              try simp at hz_w1
              have c1__0 := fun o => hb_w1.cell (p := ⟨w.heap.size, o, none⟩) (by first | omega | (simp <;> omega))
              have f1__0 := fun o => hb_w1.frozen (p := ⟨w.heap.size, o, none⟩) (by first | omega | (simp <;> omega))
              have c1__0_0 := c1__0 0; conv at c1__0_0 => rhs; simp [go_sem, *]
              have f1__0_0 := f1__0 0; conv at f1__0_0 => rhs; simp [go_sem, *]
              have c1__0_1 := c1__0 1; conv at c1__0_1 => rhs; simp [go_sem, *]
              have f1__0_1 := f1__0 1; conv at f1__0_1 => rhs; simp [go_sem, *]
              have c1__0_2 := c1__0 2; conv at c1__0_2 => rhs; simp [go_sem, *]
              have f1__0_2 := f1__0 2; conv at f1__0_2 => rhs; simp [go_sem, *]
              have c1__0_3 := c1__0 3; conv at c1__0_3 => rhs; simp [go_sem, *]
              have f1__0_3 := f1__0 3; conv at f1__0_3 => rhs; simp [go_sem, *]
              have c1__0_4 := c1__0 4; conv at c1__0_4 => rhs; simp [go_sem, *]
              have f1__0_4 := f1__0 4; conv at f1__0_4 => rhs; simp [go_sem, *]
              have HH_w1 := Lib.hid hb_w1
              have hB_w1 : Below w.heap.size w w1 := Below.trans (by (repeat (first | with_reducible exact Below.refl _ _ | with_reducible assumption | with_reducible refine Below.drew ?_ | (with_reducible refine Below.setCell ?_ ?_ _; rotate_left; (first | omega | (simp <;> omega))) | (with_reducible refine Below.alloc ?_ ?_ _; rotate_left; (first | omega | (simp <;> omega))) | exact Below.refl _ _ | assumption))) (hb_w1.mono (by first | omega | (simp <;> omega)))
              clear hb_w1 c1__0 f1__0
              have far_w1_w_0 := far (show w.heap.size < w1.heap.size by omega)
              go_wp2
              go_ret
              exact ⟨by first | rfl | (simp [*]; done) | (simp [*]; omega), by (repeat (first | with_reducible exact Below.refl _ _ | with_reducible assumption | with_reducible refine Below.drew ?_ | (with_reducible refine Below.setCell ?_ ?_ _; rotate_left; (first | omega | (simp <;> omega))) | (with_reducible refine Below.alloc ?_ ?_ _; rotate_left; (first | omega | (simp <;> omega))) | exact Below.refl _ _ | assumption))⟩
        | true =>
          obtain rfl : tr = r := by simpa using htr
          go_enter Tryz.func23, Tryz.ntmps23
          go_wp2
          go_loop [3] (fun iv => ∃ k : Nat, iv = .int .i64 k ∧ k ≤ tr.length ∧ (∀ j (h : j < tr.length), j < k → ctlB tr[j] = false)) (fun iv => tr.length - (intOf iv).toNat)
          case atStart => exact ⟨0, rfl, Nat.zero_le _, fun j h h2 => by omega⟩
          case round =>
            obtain ⟨k, rfl, hk, hall⟩ := hrel
            have HALL := Lib.hid hall
            clear hall
            by_cases hkl : k < tr.length
            · have hbat := bAt_eq hkl
              have CT := Lib.hid (fun W => refControl tr[k] W)
              rw [← hbat] at CT
              cases hcb : ctlB tr[k] with
              | true =>
                have hres : ac = true := HAC.out.symm.trans (List.any_eq_true.2 ⟨_, List.getElem_mem hkl, hcb⟩)
                rw [hcb] at CT
                clear hbat hcb
                subst hres
                go_wp2_with (first | (go_at_call 44; refine Calls.mono (CT.out _) ?_; rintro e w' ⟨rfl, hw'⟩; obtain rfl := hw'.symm) | fail)
                try rw [Exit.noGoto_ret]
                go_ret
                exact ⟨by first | rfl | (simp [*]; done), by (repeat (first | with_reducible exact Below.refl _ _ | with_reducible assumption | with_reducible refine Below.drew ?_ | (with_reducible refine Below.setCell ?_ ?_ _; rotate_left; (first | omega | (simp <;> omega))) | (with_reducible refine Below.alloc ?_ ?_ _; rotate_left; (first | omega | (simp <;> omega))) | exact Below.refl _ _ | assumption))⟩
              | false =>
                rw [hcb] at CT
                have HN := Lib.hid (show ∀ j (h : j < tr.length), j < k + 1 → ctlB tr[j] = false from fun j h h2 => by
                  by_cases e : j = k
                  · subst e; exact hcb
                  · exact HALL.out j h (by omega))
                clear hbat hcb
                go_wp2_with (first | (go_at_call 44; refine Calls.mono (CT.out _) ?_; rintro e w' ⟨rfl, hw'⟩; obtain rfl := hw'.symm) | fail)
                go_round
                case rel => exact ⟨k + 1, by go_num, by omega, HN.out⟩
                case measure => simp [intOf]; omega
            · obtain rfl : k = tr.length := by omega
              have hac2 : ac = false := HAC.out.symm.trans (by
                rw [List.any_eq_false]
                intro x hx
                obtain ⟨j, hj, rfl⟩ := List.getElem_of_mem hx
                rw [HALL.out j hj hj]; simp)
              subst hac2
              go_wp2_with fail
              refine wp_region_later (w.heap.size + 1) (by kernel_rfl) (by kernel_rfl) ?_
              have l_w1_w_0 := @Later.at (w.heap.size + 1) (w.heap.size) (by omega)
              repeat (go_big_quiet_step ((go_at_call 45; refine later_same (TR.out _))))
              refine wpQuiet_nil ?_
              rintro w1 ⟨⟨_, hb_w1⟩, rfl⟩
              clear l_w1_w_0
              try simp only [] at hb_w1 ⊢
              have hz_w1 := hb_w1.size
              try simp at hz_w1
              have c1__0 := fun o => hb_w1.cell (p := ⟨w.heap.size, o, none⟩) (by first | omega | (simp <;> omega))
              have f1__0 := fun o => hb_w1.frozen (p := ⟨w.heap.size, o, none⟩) (by first | omega | (simp <;> omega))
              have c1__0_0 := c1__0 0; conv at c1__0_0 => rhs; simp [go_sem, *]
              have f1__0_0 := f1__0 0; conv at f1__0_0 => rhs; simp [go_sem, *]
              have c1__0_1 := c1__0 1; conv at c1__0_1 => rhs; simp [go_sem, *]
              have f1__0_1 := f1__0 1; conv at f1__0_1 => rhs; simp [go_sem, *]
              have c1__0_2 := c1__0 2; conv at c1__0_2 => rhs; simp [go_sem, *]
              have f1__0_2 := f1__0 2; conv at f1__0_2 => rhs; simp [go_sem, *]
              have c1__0_3 := c1__0 3; conv at c1__0_3 => rhs; simp [go_sem, *]
              have f1__0_3 := f1__0 3; conv at f1__0_3 => rhs; simp [go_sem, *]
              have c1__0_4 := c1__0 4; conv at c1__0_4 => rhs; simp [go_sem, *]
              have f1__0_4 := f1__0 4; conv at f1__0_4 => rhs; simp [go_sem, *]
              have HH_w1 := Lib.hid hb_w1
              have hB_w1 : Below w.heap.size w w1 := Below.trans (by (repeat (first | with_reducible exact Below.refl _ _ | with_reducible assumption | with_reducible refine Below.drew ?_ | (with_reducible refine Below.setCell ?_ ?_ _; rotate_left; (first | omega | (simp <;> omega))) | (with_reducible refine Below.alloc ?_ ?_ _; rotate_left; (first | omega | (simp <;> omega))) | exact Below.refl _ _ | assumption))) (hb_w1.mono (by first | omega | (simp <;> omega)))
              clear hb_w1 c1__0 f1__0
              have far_w1_w_0 := far (show w.heap.size < w1.heap.size by omega)
              go_wp2
              go_ret
              exact ⟨by first | rfl | (simp [*]; done) | (simp [*]; omega), by (repeat (first | with_reducible exact Below.refl _ _ | with_reducible assumption | with_reducible refine Below.drew ?_ | (with_reducible refine Below.setCell ?_ ?_ _; rotate_left; (first | omega | (simp <;> omega))) | (with_reducible refine Below.alloc ?_ ?_ _; rotate_left; (first | omega | (simp <;> omega))) | exact Below.refl _ _ | assumption))⟩
      · have hri : 100 < (r.length : Int) := by omega
        have hrd : decide ((r.length : Int) ≤ 100) = false := by simp; omega
        rw [decide_eq_false hr]
        clear hr
        go_enter Tryz.func23, Tryz.ntmps23
        go_wp2
        go_loop [3] (fun iv => ∃ k : Nat, iv = .int .i64 k ∧ k ≤ r.length ∧ (∀ j (h : j < r.length), j < k → ctlB r[j] = false)) (fun iv => r.length - (intOf iv).toNat)
        case atStart => exact ⟨0, rfl, Nat.zero_le _, fun j h h2 => by omega⟩
        case round =>
          obtain ⟨k, rfl, hk, hall⟩ := hrel
          have HALL := Lib.hid hall
          clear hall
          by_cases hkl : k < r.length
          · have hbat := bAt_eq hkl
            have CT := Lib.hid (fun W => refControl r[k] W)
            rw [← hbat] at CT
            cases hcb : ctlB r[k] with
            | true =>
              have hres : ac = true := HAC.out.symm.trans (List.any_eq_true.2 ⟨_, List.getElem_mem hkl, hcb⟩)
              rw [hcb] at CT
              clear hbat hcb
              subst hres
              go_wp2_with (first | (go_at_call 44; refine Calls.mono (CT.out _) ?_; rintro e w' ⟨rfl, hw'⟩; obtain rfl := hw'.symm) | fail)
              try rw [Exit.noGoto_ret]
              go_ret
              exact ⟨by first | rfl | (simp [*]; done), by (repeat (first | with_reducible exact Below.refl _ _ | with_reducible assumption | with_reducible refine Below.drew ?_ | (with_reducible refine Below.setCell ?_ ?_ _; rotate_left; (first | omega | (simp <;> omega))) | (with_reducible refine Below.alloc ?_ ?_ _; rotate_left; (first | omega | (simp <;> omega))) | exact Below.refl _ _ | assumption))⟩
            | false =>
              rw [hcb] at CT
              have HN := Lib.hid (show ∀ j (h : j < r.length), j < k + 1 → ctlB r[j] = false from fun j h h2 => by
                by_cases e : j = k
                · subst e; exact hcb
                · exact HALL.out j h (by omega))
              clear hbat hcb
              go_wp2_with (first | (go_at_call 44; refine Calls.mono (CT.out _) ?_; rintro e w' ⟨rfl, hw'⟩; obtain rfl := hw'.symm) | fail)
              go_round
              case rel => exact ⟨k + 1, by go_num, by omega, HN.out⟩
              case measure => simp [intOf]; omega
          · obtain rfl : k = r.length := by omega
            have hac2 : ac = false := HAC.out.symm.trans (by
              rw [List.any_eq_false]
              intro x hx
              obtain ⟨j, hj, rfl⟩ := List.getElem_of_mem hx
              rw [HALL.out j hj hj]; simp)
            subst hac2
            go_wp2_with fail
            refine wp_region_later (w.heap.size + 1) (by kernel_rfl) (by kernel_rfl) ?_
            have l_w1_w_0 := @Later.at (w.heap.size + 1) (w.heap.size) (by omega)
            repeat (go_big_quiet_step ((go_at_call 45; refine later_same (TR.out _))))
            refine wpQuiet_nil ?_
            rintro w1 ⟨⟨_, hb_w1⟩, rfl⟩
            clear l_w1_w_0
            try simp only [] at hb_w1 ⊢
            have hz_w1 := hb_w1.size
            try simp at hz_w1
            have c1__0 := fun o => hb_w1.cell (p := ⟨w.heap.size, o, none⟩) (by first | omega | (simp <;> omega))
            have f1__0 := fun o => hb_w1.frozen (p := ⟨w.heap.size, o, none⟩) (by first | omega | (simp <;> omega))
            have c1__0_0 := c1__0 0; conv at c1__0_0 => rhs; simp [go_sem, *]
            have f1__0_0 := f1__0 0; conv at f1__0_0 => rhs; simp [go_sem, *]
            have c1__0_1 := c1__0 1; conv at c1__0_1 => rhs; simp [go_sem, *]
            have f1__0_1 := f1__0 1; conv at f1__0_1 => rhs; simp [go_sem, *]
            have c1__0_2 := c1__0 2; conv at c1__0_2 => rhs; simp [go_sem, *]
            have f1__0_2 := f1__0 2; conv at f1__0_2 => rhs; simp [go_sem, *]
            have c1__0_3 := c1__0 3; conv at c1__0_3 => rhs; simp [go_sem, *]
            have f1__0_3 := f1__0 3; conv at f1__0_3 => rhs; simp [go_sem, *]
            have c1__0_4 := c1__0 4; conv at c1__0_4 => rhs; simp [go_sem, *]
            have f1__0_4 := f1__0 4; conv at f1__0_4 => rhs; simp [go_sem, *]
            have HH_w1 := Lib.hid hb_w1
            have hB_w1 : Below w.heap.size w w1 := Below.trans (by (repeat (first | with_reducible exact Below.refl _ _ | with_reducible assumption | with_reducible refine Below.drew ?_ | (with_reducible refine Below.setCell ?_ ?_ _; rotate_left; (first | omega | (simp <;> omega))) | (with_reducible refine Below.alloc ?_ ?_ _; rotate_left; (first | omega | (simp <;> omega))) | exact Below.refl _ _ | assumption))) (hb_w1.mono (by first | omega | (simp <;> omega)))
            clear hb_w1 c1__0 f1__0
            have far_w1_w_0 := far (show w.heap.size < w1.heap.size by omega)
            go_wp2
            go_ret
            exact ⟨by first | rfl | (simp [*]; done) | (simp [*]; omega), by (repeat (first | with_reducible exact Below.refl _ _ | with_reducible assumption | with_reducible refine Below.drew ?_ | (with_reducible refine Below.setCell ?_ ?_ _; rotate_left; (first | omega | (simp <;> omega))) | (with_reducible refine Below.alloc ?_ ?_ _; rotate_left; (first | omega | (simp <;> omega))) | exact Below.refl _ _ | assumption))⟩
end Go.Proofs.YtgjemgilanhdiaaGreatDoor
