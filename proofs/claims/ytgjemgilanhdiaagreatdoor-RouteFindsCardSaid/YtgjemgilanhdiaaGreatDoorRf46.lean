/- The document's Ask: the walk. Printed by tools/rtaskref.py. First lines that may be: start.Right at an answer's line. Printed by tools/rtstart.py. -/
import Derived.Test.YtgjemgilanhdiaaGreatDoorRf42
import Derived.Test.YtgjemgilanhdiaaGreatDoorRf43
import Derived.Test.YtgjemgilanhdiaaGreatDoorRf44
import Derived.Test.YtgjemgilanhdiaaGreatDoorRf45
import Derived.Test.YtgjemgilanhdiaaGreatDoorRf33
import Derived.Deep.RegionWith
namespace Go.Proofs.YtgjemgilanhdiaaGreatDoor
open Go.RowKit Go.Sort Go.Shelf
set_option linter.unusedVariables false
set_option linter.unusedSimpArgs false

theorem refAskRt (v : Value) (L : List Wrd) (s : St) (fv : Value) (F : List Fld) (bo : List UInt8) (w : World) (hr : ReadsW w v L) (hl : ∀ f ∈ L, f.1.length ≤ 900 ∧ f.2.1.length ≤ 900 ∧ f.2.2.length ≤ 900) (hn : L.length ≤ 1000000)
    (hfr : ReadsF w fv F) (hfs : ∀ f ∈ F, f.1.length ≤ 140737488351232 ∧ f.2.length ≤ 140737488351232) (hfn : F.length ≤ 1000000) (h2 : s.t.length ≤ 140737488351232) (hLd : Laid w)
    (hSR : ∀ W, Calls Tryz.prog 23 #[.agg #[.string (S s.m), .string (S s.t), .int .i64 s.c, .string (S s.r), .int .i64 s.n]] W fun e w' => e = .returned (.bool (startOk s)) ∧ Below W.heap.size W w') :
    Calls Tryz.prog 8 #[v, .agg #[.string (S s.m), .string (S s.t), .int .i64 s.c, .string (S s.r), .int .i64 s.n, fv, .string (S bo)]] w fun e w' => e = .returned (askV (askR L s (getV F [72, 111, 115, 116]).1)) ∧ Below w.heap.size w w' := by
  by_cases hno : rightRt L = true ∧ startOk s = true ∧ s.c = 0
  · obtain ⟨hR1, hK1, hc⟩ := hno
    cases hpf : Lib.hasPrefix s.t httpL with
    | true => exact refAskRt_t v L s fv F bo w hr hl hn hfr hfs hfn h2 hLd hSR hR1 hK1 hc hpf
    | false =>
      by_cases hlen : s.t.length < 7
      · exact refAskRt_f1 v L s fv F bo w hr hl hn hfr hfs hfn h2 hLd hSR hR1 hK1 hc hpf hlen
      · exact refAskRt_f2 v L s fv F bo w hr hl hn hfr hfs hfn h2 hLd hSR hR1 hK1 hc hpf (by omega)
  · exact refAskRt_no v L s fv F bo w hr hl hn hfr hfs hfn h2 hLd hSR hno
end Go.Proofs.YtgjemgilanhdiaaGreatDoor
namespace Go.Proofs.YtgjemgilanhdiaaGreatDoor
open Go.RowKit Go.Sort Go.Shelf
set_option linter.unusedVariables false
set_option linter.unusedSimpArgs false

set_option maxHeartbeats 80000000 in
set_option maxRecDepth 100000 in
theorem startRightN (s : St) (h1 : s.m.length ≤ 4611686018427387903) (h2 : s.t.length ≤ 4611686018427387903) (h3 : s.r.length ≤ 4611686018427387903) (hc0 : s.c ≠ 0) (w : World) :
    Calls Tryz.prog 20 #[.agg #[.string (S s.m), .string (S s.t), .int .i64 s.c, .string (S s.r), .int .i64 s.n]] w fun e w' => e = .returned (.bool (startOk s)) ∧ Below w.heap.size w w' := by
  have hcv := fun w => run_bytes_of_string (P := Tryz.prog) w 9 66 5 (S s.r) Tryz.underlying9 Tryz.underlying66 Tryz.underlying5
  have TR := Lib.hid (fun W => textTrim s.r (by omega) W)
  have HX := Lib.hid (fun (W : World) => containsByFn ctlB 34 (enters_of Tryz.func34 (by kernel_rfl) rfl) W.heap.size _ s.r (grownCap_ge W s.r.length 0 5) (grownCap_le_maxLen W s.r.length 0 5 (by unfold maxLen; omega)) _ (fun c => ctl_startRight c _) (fun j h => (bytes_laid W s.r _ 5 (grownCap_ge W s.r.length 0 5) j h).1))
  have i3 : (s.r.length : Int) ≤ 4611686018427387903 := by omega
  obtain ⟨m, t, c, r, n⟩ := s
  unfold startOk
  simp only at *
  obtain ⟨tr, htr⟩ : ∃ b, trim r = b := ⟨_, rfl⟩
  obtain ⟨ac, hac⟩ : ∃ b, r.any ctlB = b := ⟨_, rfl⟩
  rw [htr] at TR ⊢
  rw [hac] at HX ⊢
  rw [if_neg hc0]
  have cb : (c == 0) = false := by simpa using hc0
  clear htr hac h1 h2 h3 hc0
  by_cases n0 : n = 0 ∨ n = 1
  rotate_left
  · have n1 : (n == 0) = false := by simp; omega
    have n2 : (n == 1) = false := by simp; omega
    have n3 : (n != 0) = true := by unfold bne; rw [n1]; rfl
    have n4 : (n != 1) = true := by unfold bne; rw [n2]; rfl
    rw [show (decide (n = 0) || decide (n = 1)) = false by simp; omega, Bool.false_and]
    clear n0 hcv HX TR
    go_enter Tryz.func20, Tryz.ntmps20
    go_wp2
    go_ret
    exact ⟨by first | rfl | (simp [*]; done), by (repeat (first | with_reducible exact Below.refl _ _ | with_reducible assumption | with_reducible refine Below.drew ?_ | (with_reducible refine Below.setCell ?_ ?_ _; rotate_left; (first | omega | (simp <;> omega))) | (with_reducible refine Below.alloc ?_ ?_ _; rotate_left; (first | omega | (simp <;> omega))) | exact Below.refl _ _ | assumption))⟩
  rw [show (decide (n = 0) || decide (n = 1)) = true by simp; omega, Bool.true_and]
  rcases n0 with rfl | rfl
  all_goals
    by_cases c1 : 100 ≤ c
    rotate_left
    · have c2 : ¬ 100 ≤ c := c1
      have c3 : decide (100 ≤ c) = false := decide_eq_false c1
      rw [c3]
      go_enter Tryz.func20, Tryz.ntmps20
      go_wp2_with fail
      refine wp_region_later (w.heap.size + 1) (by kernel_rfl) (by kernel_rfl) ?_
      have l_w1_w_0 := @Later.at (w.heap.size + 1) (w.heap.size) (by omega)
      repeat (go_big_quiet_step ((go_at_call 35; refine later_of (by (first | omega | (simp <;> omega))) (TR.out _))))
      refine wpQuiet_nil ?_
      rintro w1 ⟨⟨_, hb_w1⟩, rfl⟩
      clear l_w1_w_0
      try simp only [] at hb_w1 ⊢
      have hz_w1 := hb_w1.size
      try simp at hz_w1
      have c1__0 := fun o => hb_w1.cell (p := ⟨w.heap.size, o, none⟩) (by first | omega | (simp <;> omega))
      have f1__0 := fun o => hb_w1.frozen (p := ⟨w.heap.size, o, none⟩) (by first | omega | (simp <;> omega))
      have c1__0_0 := c1__0 0; conv at c1__0_0 => rhs; simp [go_sem, *]
      have f1__0_0 := f1__0 0; conv at f1__0_0 => rhs; simp [go_sem, *]
      have c1__0_1 := c1__0 1; conv at c1__0_1 => rhs; simp [go_sem, *]
      have f1__0_1 := f1__0 1; conv at f1__0_1 => rhs; simp [go_sem, *]
      have c1__0_2 := c1__0 2; conv at c1__0_2 => rhs; simp [go_sem, *]
      have f1__0_2 := f1__0 2; conv at f1__0_2 => rhs; simp [go_sem, *]
      have c1__0_3 := c1__0 3; conv at c1__0_3 => rhs; simp [go_sem, *]
      have f1__0_3 := f1__0 3; conv at f1__0_3 => rhs; simp [go_sem, *]
      have c1__0_4 := c1__0 4; conv at c1__0_4 => rhs; simp [go_sem, *]
      have f1__0_4 := f1__0 4; conv at f1__0_4 => rhs; simp [go_sem, *]
      have HH_w1 := Lib.hid hb_w1
      have hB_w1 : Below w.heap.size w w1 := Below.trans (by (repeat (first | with_reducible exact Below.refl _ _ | with_reducible assumption | with_reducible refine Below.drew ?_ | (with_reducible refine Below.setCell ?_ ?_ _; rotate_left; (first | omega | (simp <;> omega))) | (with_reducible refine Below.alloc ?_ ?_ _; rotate_left; (first | omega | (simp <;> omega))) | exact Below.refl _ _ | assumption))) (hb_w1.mono (by first | omega | (simp <;> omega)))
      clear hb_w1 c1__0 f1__0
      have far_w1_w_0 := far (show w.heap.size < w1.heap.size by omega)
      go_wp2
      go_ret
      exact ⟨by first | rfl | (simp [*]; done), by (repeat (first | with_reducible exact Below.refl _ _ | with_reducible assumption | with_reducible refine Below.drew ?_ | (with_reducible refine Below.setCell ?_ ?_ _; rotate_left; (first | omega | (simp <;> omega))) | (with_reducible refine Below.alloc ?_ ?_ _; rotate_left; (first | omega | (simp <;> omega))) | exact Below.refl _ _ | assumption))⟩
    have c1d : decide (100 ≤ c) = true := decide_eq_true c1
    rw [c1d]
    by_cases c2 : c ≤ 599
    rotate_left
    · have c3 : decide (c ≤ 599) = false := decide_eq_false c2
      rw [c3]
      go_enter Tryz.func20, Tryz.ntmps20
      go_wp2_with fail
      refine wp_region_later (w.heap.size + 1) (by kernel_rfl) (by kernel_rfl) ?_
      have l_w1_w_0 := @Later.at (w.heap.size + 1) (w.heap.size) (by omega)
      repeat (go_big_quiet_step ((go_at_call 35; refine later_of (by (first | omega | (simp <;> omega))) (TR.out _))))
      refine wpQuiet_nil ?_
      rintro w1 ⟨⟨_, hb_w1⟩, rfl⟩
      clear l_w1_w_0
      try simp only [] at hb_w1 ⊢
      have hz_w1 := hb_w1.size
      try simp at hz_w1
      have c1__0 := fun o => hb_w1.cell (p := ⟨w.heap.size, o, none⟩) (by first | omega | (simp <;> omega))
      have f1__0 := fun o => hb_w1.frozen (p := ⟨w.heap.size, o, none⟩) (by first | omega | (simp <;> omega))
      have c1__0_0 := c1__0 0; conv at c1__0_0 => rhs; simp [go_sem, *]
      have f1__0_0 := f1__0 0; conv at f1__0_0 => rhs; simp [go_sem, *]
      have c1__0_1 := c1__0 1; conv at c1__0_1 => rhs; simp [go_sem, *]
      have f1__0_1 := f1__0 1; conv at f1__0_1 => rhs; simp [go_sem, *]
      have c1__0_2 := c1__0 2; conv at c1__0_2 => rhs; simp [go_sem, *]
      have f1__0_2 := f1__0 2; conv at f1__0_2 => rhs; simp [go_sem, *]
      have c1__0_3 := c1__0 3; conv at c1__0_3 => rhs; simp [go_sem, *]
      have f1__0_3 := f1__0 3; conv at f1__0_3 => rhs; simp [go_sem, *]
      have c1__0_4 := c1__0 4; conv at c1__0_4 => rhs; simp [go_sem, *]
      have f1__0_4 := f1__0 4; conv at f1__0_4 => rhs; simp [go_sem, *]
      have HH_w1 := Lib.hid hb_w1
      have hB_w1 : Below w.heap.size w w1 := Below.trans (by (repeat (first | with_reducible exact Below.refl _ _ | with_reducible assumption | with_reducible refine Below.drew ?_ | (with_reducible refine Below.setCell ?_ ?_ _; rotate_left; (first | omega | (simp <;> omega))) | (with_reducible refine Below.alloc ?_ ?_ _; rotate_left; (first | omega | (simp <;> omega))) | exact Below.refl _ _ | assumption))) (hb_w1.mono (by first | omega | (simp <;> omega)))
      clear hb_w1 c1__0 f1__0
      have far_w1_w_0 := far (show w.heap.size < w1.heap.size by omega)
      go_wp2
      go_ret
      exact ⟨by first | rfl | (simp [*]; done), by (repeat (first | with_reducible exact Below.refl _ _ | with_reducible assumption | with_reducible refine Below.drew ?_ | (with_reducible refine Below.setCell ?_ ?_ _; rotate_left; (first | omega | (simp <;> omega))) | (with_reducible refine Below.alloc ?_ ?_ _; rotate_left; (first | omega | (simp <;> omega))) | exact Below.refl _ _ | assumption))⟩
    have c2d : decide (c ≤ 599) = true := decide_eq_true c2
    rw [c2d]
    cases hm : m.isEmpty with
    | false =>
      have hmb : (m == []) = false := by cases m with | nil => simp at hm | cons a b => rfl
      go_enter Tryz.func20, Tryz.ntmps20
      go_wp2_with fail
      refine wp_region_later (w.heap.size + 1) (by kernel_rfl) (by kernel_rfl) ?_
      have l_w1_w_0 := @Later.at (w.heap.size + 1) (w.heap.size) (by omega)
      repeat (go_big_quiet_step ((go_at_call 35; refine later_of (by (first | omega | (simp <;> omega))) (TR.out _))))
      refine wpQuiet_nil ?_
      rintro w1 ⟨⟨_, hb_w1⟩, rfl⟩
      clear l_w1_w_0
      try simp only [] at hb_w1 ⊢
      have hz_w1 := hb_w1.size
      try simp at hz_w1
      have c1__0 := fun o => hb_w1.cell (p := ⟨w.heap.size, o, none⟩) (by first | omega | (simp <;> omega))
      have f1__0 := fun o => hb_w1.frozen (p := ⟨w.heap.size, o, none⟩) (by first | omega | (simp <;> omega))
      have c1__0_0 := c1__0 0; conv at c1__0_0 => rhs; simp [go_sem, *]
      have f1__0_0 := f1__0 0; conv at f1__0_0 => rhs; simp [go_sem, *]
      have c1__0_1 := c1__0 1; conv at c1__0_1 => rhs; simp [go_sem, *]
      have f1__0_1 := f1__0 1; conv at f1__0_1 => rhs; simp [go_sem, *]
      have c1__0_2 := c1__0 2; conv at c1__0_2 => rhs; simp [go_sem, *]
      have f1__0_2 := f1__0 2; conv at f1__0_2 => rhs; simp [go_sem, *]
      have c1__0_3 := c1__0 3; conv at c1__0_3 => rhs; simp [go_sem, *]
      have f1__0_3 := f1__0 3; conv at f1__0_3 => rhs; simp [go_sem, *]
      have c1__0_4 := c1__0 4; conv at c1__0_4 => rhs; simp [go_sem, *]
      have f1__0_4 := f1__0 4; conv at f1__0_4 => rhs; simp [go_sem, *]
      have HH_w1 := Lib.hid hb_w1
      have hB_w1 : Below w.heap.size w w1 := Below.trans (by (repeat (first | with_reducible exact Below.refl _ _ | with_reducible assumption | with_reducible refine Below.drew ?_ | (with_reducible refine Below.setCell ?_ ?_ _; rotate_left; (first | omega | (simp <;> omega))) | (with_reducible refine Below.alloc ?_ ?_ _; rotate_left; (first | omega | (simp <;> omega))) | exact Below.refl _ _ | assumption))) (hb_w1.mono (by first | omega | (simp <;> omega)))
      clear hb_w1 c1__0 f1__0
      have far_w1_w_0 := far (show w.heap.size < w1.heap.size by omega)
      go_wp2
      go_ret
      exact ⟨by first | rfl | (simp [*]; done), by (repeat (first | with_reducible exact Below.refl _ _ | with_reducible assumption | with_reducible refine Below.drew ?_ | (with_reducible refine Below.setCell ?_ ?_ _; rotate_left; (first | omega | (simp <;> omega))) | (with_reducible refine Below.alloc ?_ ?_ _; rotate_left; (first | omega | (simp <;> omega))) | exact Below.refl _ _ | assumption))⟩
    | true =>
      obtain rfl : m = [] := by simpa using hm
      clear hm
      cases ht : t.isEmpty with
      | false =>
        have htb : (t == []) = false := by cases t with | nil => simp at ht | cons a b => rfl
        go_enter Tryz.func20, Tryz.ntmps20
        go_wp2_with fail
        refine wp_region_later (w.heap.size + 1) (by kernel_rfl) (by kernel_rfl) ?_
        have l_w1_w_0 := @Later.at (w.heap.size + 1) (w.heap.size) (by omega)
        repeat (go_big_quiet_step ((go_at_call 35; refine later_of (by (first | omega | (simp <;> omega))) (TR.out _))))
        refine wpQuiet_nil ?_
        rintro w1 ⟨⟨_, hb_w1⟩, rfl⟩
        clear l_w1_w_0
        try simp only [] at hb_w1 ⊢
        have hz_w1 := hb_w1.size
        try simp at hz_w1
        have c1__0 := fun o => hb_w1.cell (p := ⟨w.heap.size, o, none⟩) (by first | omega | (simp <;> omega))
        have f1__0 := fun o => hb_w1.frozen (p := ⟨w.heap.size, o, none⟩) (by first | omega | (simp <;> omega))
        have c1__0_0 := c1__0 0; conv at c1__0_0 => rhs; simp [go_sem, *]
        have f1__0_0 := f1__0 0; conv at f1__0_0 => rhs; simp [go_sem, *]
        have c1__0_1 := c1__0 1; conv at c1__0_1 => rhs; simp [go_sem, *]
        have f1__0_1 := f1__0 1; conv at f1__0_1 => rhs; simp [go_sem, *]
        have c1__0_2 := c1__0 2; conv at c1__0_2 => rhs; simp [go_sem, *]
        have f1__0_2 := f1__0 2; conv at f1__0_2 => rhs; simp [go_sem, *]
        have c1__0_3 := c1__0 3; conv at c1__0_3 => rhs; simp [go_sem, *]
        have f1__0_3 := f1__0 3; conv at f1__0_3 => rhs; simp [go_sem, *]
        have c1__0_4 := c1__0 4; conv at c1__0_4 => rhs; simp [go_sem, *]
        have f1__0_4 := f1__0 4; conv at f1__0_4 => rhs; simp [go_sem, *]
        have HH_w1 := Lib.hid hb_w1
        have hB_w1 : Below w.heap.size w w1 := Below.trans (by (repeat (first | with_reducible exact Below.refl _ _ | with_reducible assumption | with_reducible refine Below.drew ?_ | (with_reducible refine Below.setCell ?_ ?_ _; rotate_left; (first | omega | (simp <;> omega))) | (with_reducible refine Below.alloc ?_ ?_ _; rotate_left; (first | omega | (simp <;> omega))) | exact Below.refl _ _ | assumption))) (hb_w1.mono (by first | omega | (simp <;> omega)))
        clear hb_w1 c1__0 f1__0
        have far_w1_w_0 := far (show w.heap.size < w1.heap.size by omega)
        go_wp2
        go_ret
        exact ⟨by first | rfl | (simp [*]; done), by (repeat (first | with_reducible exact Below.refl _ _ | with_reducible assumption | with_reducible refine Below.drew ?_ | (with_reducible refine Below.setCell ?_ ?_ _; rotate_left; (first | omega | (simp <;> omega))) | (with_reducible refine Below.alloc ?_ ?_ _; rotate_left; (first | omega | (simp <;> omega))) | exact Below.refl _ _ | assumption))⟩
      | true =>
        obtain rfl : t = [] := by simpa using ht
        clear ht
        by_cases hr : r.length ≤ 100
        · have hri : (r.length : Int) ≤ 100 := by omega
          have hrd : decide ((r.length : Int) ≤ 100) = true := by simp; omega
          rw [decide_eq_true hr]
          cases htr : (tr == r) with
          | false =>
            go_enter Tryz.func20, Tryz.ntmps20
            go_wp2_with fail
            refine wp_region_later (w.heap.size + 1) (by kernel_rfl) (by kernel_rfl) ?_
            have l_w1_w_0 := @Later.at (w.heap.size + 1) (w.heap.size) (by omega)
            repeat (go_big_quiet_step ((go_at_call 35; refine later_of (by (first | omega | (simp <;> omega))) (TR.out _))))
            refine wpQuiet_nil ?_
            rintro w1 ⟨⟨_, hb_w1⟩, rfl⟩
            clear l_w1_w_0
            try simp only [] at hb_w1 ⊢
            have hz_w1 := hb_w1.size
            try simp at hz_w1
            have c1__0 := fun o => hb_w1.cell (p := ⟨w.heap.size, o, none⟩) (by first | omega | (simp <;> omega))
            have f1__0 := fun o => hb_w1.frozen (p := ⟨w.heap.size, o, none⟩) (by first | omega | (simp <;> omega))
            have c1__0_0 := c1__0 0; conv at c1__0_0 => rhs; simp [go_sem, *]
            have f1__0_0 := f1__0 0; conv at f1__0_0 => rhs; simp [go_sem, *]
            have c1__0_1 := c1__0 1; conv at c1__0_1 => rhs; simp [go_sem, *]
            have f1__0_1 := f1__0 1; conv at f1__0_1 => rhs; simp [go_sem, *]
            have c1__0_2 := c1__0 2; conv at c1__0_2 => rhs; simp [go_sem, *]
            have f1__0_2 := f1__0 2; conv at f1__0_2 => rhs; simp [go_sem, *]
            have c1__0_3 := c1__0 3; conv at c1__0_3 => rhs; simp [go_sem, *]
            have f1__0_3 := f1__0 3; conv at f1__0_3 => rhs; simp [go_sem, *]
            have c1__0_4 := c1__0 4; conv at c1__0_4 => rhs; simp [go_sem, *]
            have f1__0_4 := f1__0 4; conv at f1__0_4 => rhs; simp [go_sem, *]
            have HH_w1 := Lib.hid hb_w1
            have hB_w1 : Below w.heap.size w w1 := Below.trans (by (repeat (first | with_reducible exact Below.refl _ _ | with_reducible assumption | with_reducible refine Below.drew ?_ | (with_reducible refine Below.setCell ?_ ?_ _; rotate_left; (first | omega | (simp <;> omega))) | (with_reducible refine Below.alloc ?_ ?_ _; rotate_left; (first | omega | (simp <;> omega))) | exact Below.refl _ _ | assumption))) (hb_w1.mono (by first | omega | (simp <;> omega)))
            clear hb_w1 c1__0 f1__0
            have far_w1_w_0 := far (show w.heap.size < w1.heap.size by omega)
            go_wp2
            go_ret
            exact ⟨by first | rfl | (simp [*]; done), by (repeat (first | with_reducible exact Below.refl _ _ | with_reducible assumption | with_reducible refine Below.drew ?_ | (with_reducible refine Below.setCell ?_ ?_ _; rotate_left; (first | omega | (simp <;> omega))) | (with_reducible refine Below.alloc ?_ ?_ _; rotate_left; (first | omega | (simp <;> omega))) | exact Below.refl _ _ | assumption))⟩
          | true =>
            obtain rfl : tr = r := by simpa using htr
            clear hr
            go_enter Tryz.func20, Tryz.ntmps20
            go_wp2_with fail
            go_region_with (first
              | (go_at_call 35; refine (TR.out _).mono ?_; rintro e w2 ⟨rfl, hb2⟩; have hbw2 := Below.trans (show Below w.heap.size w _ by (repeat (first | with_reducible exact Below.refl _ _ | with_reducible assumption | with_reducible refine Below.drew ?_ | (with_reducible refine Below.setCell ?_ ?_ _; rotate_left; (first | omega | (simp <;> omega))) | (with_reducible refine Below.alloc ?_ ?_ _; rotate_left; (first | omega | (simp <;> omega))) | exact Below.refl _ _ | assumption))) (hb2.mono (by (first | omega | (simp <;> omega)))); obtain ⟨hcc2, hff2⟩ := bk hb2 w.heap.size (by (first | omega | (simp <;> omega))); have hz2 := hb2.size; try simp at hz2)
              | (go_at_call 36; refine (HX.out _).mono ?_; rintro e w3 ⟨rfl, rfl⟩))
            all_goals
              go_wp2
              go_ret
              exact ⟨by first | rfl | (simp [*]; done), by (repeat (first | with_reducible exact Below.refl _ _ | with_reducible assumption | with_reducible refine Below.drew ?_ | (with_reducible refine Below.setCell ?_ ?_ _; rotate_left; (first | omega | (simp <;> omega))) | (with_reducible refine Below.alloc ?_ ?_ _; rotate_left; (first | omega | (simp <;> omega))) | exact Below.refl _ _ | assumption))⟩
        · have hri : 100 < (r.length : Int) := by omega
          have hrd : decide ((r.length : Int) ≤ 100) = false := by simp; omega
          rw [decide_eq_false hr]
          clear hr
          go_enter Tryz.func20, Tryz.ntmps20
          go_wp2_with fail
          refine wp_region_later (w.heap.size + 1) (by kernel_rfl) (by kernel_rfl) ?_
          have l_w1_w_0 := @Later.at (w.heap.size + 1) (w.heap.size) (by omega)
          repeat (go_big_quiet_step ((go_at_call 35; refine later_of (by (first | omega | (simp <;> omega))) (TR.out _))))
          refine wpQuiet_nil ?_
          rintro w1 ⟨⟨_, hb_w1⟩, rfl⟩
          clear l_w1_w_0
          try simp only [] at hb_w1 ⊢
          have hz_w1 := hb_w1.size
          try simp at hz_w1
          have c1__0 := fun o => hb_w1.cell (p := ⟨w.heap.size, o, none⟩) (by first | omega | (simp <;> omega))
          have f1__0 := fun o => hb_w1.frozen (p := ⟨w.heap.size, o, none⟩) (by first | omega | (simp <;> omega))
          have c1__0_0 := c1__0 0; conv at c1__0_0 => rhs; simp [go_sem, *]
          have f1__0_0 := f1__0 0; conv at f1__0_0 => rhs; simp [go_sem, *]
          have c1__0_1 := c1__0 1; conv at c1__0_1 => rhs; simp [go_sem, *]
          have f1__0_1 := f1__0 1; conv at f1__0_1 => rhs; simp [go_sem, *]
          have c1__0_2 := c1__0 2; conv at c1__0_2 => rhs; simp [go_sem, *]
          have f1__0_2 := f1__0 2; conv at f1__0_2 => rhs; simp [go_sem, *]
          have c1__0_3 := c1__0 3; conv at c1__0_3 => rhs; simp [go_sem, *]
          have f1__0_3 := f1__0 3; conv at f1__0_3 => rhs; simp [go_sem, *]
          have c1__0_4 := c1__0 4; conv at c1__0_4 => rhs; simp [go_sem, *]
          have f1__0_4 := f1__0 4; conv at f1__0_4 => rhs; simp [go_sem, *]
          have HH_w1 := Lib.hid hb_w1
          have hB_w1 : Below w.heap.size w w1 := Below.trans (by (repeat (first | with_reducible exact Below.refl _ _ | with_reducible assumption | with_reducible refine Below.drew ?_ | (with_reducible refine Below.setCell ?_ ?_ _; rotate_left; (first | omega | (simp <;> omega))) | (with_reducible refine Below.alloc ?_ ?_ _; rotate_left; (first | omega | (simp <;> omega))) | exact Below.refl _ _ | assumption))) (hb_w1.mono (by first | omega | (simp <;> omega)))
          clear hb_w1 c1__0 f1__0
          have far_w1_w_0 := far (show w.heap.size < w1.heap.size by omega)
          go_wp2
          go_ret
          exact ⟨by first | rfl | (simp [*]; done), by (repeat (first | with_reducible exact Below.refl _ _ | with_reducible assumption | with_reducible refine Below.drew ?_ | (with_reducible refine Below.setCell ?_ ?_ _; rotate_left; (first | omega | (simp <;> omega))) | (with_reducible refine Below.alloc ?_ ?_ _; rotate_left; (first | omega | (simp <;> omega))) | exact Below.refl _ _ | assumption))⟩
end Go.Proofs.YtgjemgilanhdiaaGreatDoor
