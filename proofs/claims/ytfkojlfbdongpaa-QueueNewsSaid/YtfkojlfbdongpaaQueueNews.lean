/- The walk of the law QueueNews. -/
import Derived.Test.YtfkojlfbdongpaaQueueWalk
namespace Go.Proofs.Ytfkojlfbdongpaa
open Go.RowKit
set_option linter.unusedVariables false

theorem right_is {s : ByteArray} {c : Int} {b : Bool} (h : rightB s c = b) (w : World) : Calls Try.prog 11 #[.agg #[.string s, .int .i64 c]] w fun e w' =>
    e = .returned (.bool b) ∧ Below w.heap.size w w' := h ▸ right_any s c w
theorem ref_right_is {s : ByteArray} {c : Int} {b : Bool} (h : rightB s c = b) (w : World) : Calls Try.prog 10 #[.agg #[.string s, .int .i64 c]] w fun e w' =>
    e = .returned (.bool b) ∧ Below w.heap.size w w' := h ▸ ref_right_any s c w
theorem room_is {s : ByteArray} {c r : Int} (h : roomI s c = r) (w : World) : Calls Try.prog 12 #[.agg #[.string s, .int .i64 c]] w fun e w' =>
    e = .returned (.int .i64 r) ∧ Below w.heap.size w w' := h ▸ room_any s c w

set_option maxHeartbeats 400000 in
theorem news_any (n : Int) (s : ByteArray) (c : Int) (w : World) (_hn : (Lit.int .i64 n).wf = true) (hs : s.size ≤ maxLen) (_hc : (Lit.int .i64 c).wf = true) :
    Calls Try.prog 3 #[.int .i64 n, .agg #[.string s, .int .i64 c]] w fun e w' => e = .returned (.bool true) ∧ Below w.heap.size w w' := by
  clear _hn _hc
  have hk : (fewS s).size ≤ 70000 := by rw [fewS_size]; omega
  obtain ⟨q, eq, hq⟩ : ∃ q, fewS s = q ∧ q.size ≤ 70000 := ⟨_, rfl, hk⟩
  clear hk
  obtain ⟨z, hz⟩ : ∃ z : Value, z = .agg #[.string q, .int .i64 c] := ⟨_, rfl⟩
  obtain ⟨v, ev, hv, hn⟩ : ∃ v : Value × Int, (∀ w, Calls Try.prog 9 #[.int .i64 n] w fun e w' => e = .returned (.tuple #[v.1, .int .i64 v.2]) ∧ Below w.heap.size w w') ∧
      (n < 1 ∨ 65536 < n → v = (.agg #[.string ⟨#[]⟩, .int .i64 0], 1)) ∧ (¬ (n < 1 ∨ 65536 < n) → v = (.agg #[.string ⟨#[]⟩, .int .i64 n], 0)) := by
    by_cases h : n < 1 ∨ 65536 < n
    · exact ⟨_, fun w => new_bad n w h, fun _ => rfl, fun h' => (h' h).elim⟩
    · exact ⟨_, fun w => new_ok n w (by omega) (by omega), fun h' => (h h').elim, fun _ => rfl⟩
  have few : ∀ w, Calls Try.prog 8 #[.agg #[.string s, .int .i64 c]] w fun e w' => e = .returned (.agg #[.string q, .int .i64 c]) ∧ Below w.heap.size w w' := fun w => eq ▸ few_any s c w hs
  have FEW := Lib.hid few
  clear few eq hz z
  by_cases h : n < 1 ∨ 65536 < n
  · obtain rfl := hv h
    have NEW := Lib.hid ev
    clear ev hv hn
    generalize hr : rightB q c = r
    cases r
    · have er : roomI q c = 0 := by unfold roomI; rw [hr]; rfl
      have Hr := Lib.hid hr
      have Er := Lib.hid er
      clear hr er
      rcases h with h | h
      all_goals
        go_enter Try.func3, Try.ntmps3
        go_wp2_with fail
        refine Calls.mono (FEW.out _) ?_
        rintro e w1 ⟨rfl, hb_w1⟩
        have hz_w1 := hb_w1.size
        try simp at hz_w1
        obtain ⟨c_w1_w_0, f_w1_w_0⟩ := bk hb_w1 (w.heap.size) (by first | omega | (simp <;> omega))
        have c_w1_w_0_0 := c_w1_w_0 0
        conv at c_w1_w_0_0 => rhs; simp [go_sem, *]
        have f_w1_w_0_0 := f_w1_w_0 0
        conv at f_w1_w_0_0 => rhs; simp [go_sem, *]
        have c_w1_w_0_1 := c_w1_w_0 1
        conv at c_w1_w_0_1 => rhs; simp [go_sem, *]
        have f_w1_w_0_1 := f_w1_w_0 1
        conv at f_w1_w_0_1 => rhs; simp [go_sem, *]
        have hB_w1 : Below w.heap.size w w1 := Below.trans (by (repeat (first | exact Below.refl _ _ | assumption | refine Below.drew ?_ | refine Below.alloc ?_ (by first | omega | (simp <;> omega)) _ | refine Below.setCell ?_ (by first | omega | (simp <;> omega)) _))) (hb_w1.mono (by first | omega | (simp <;> omega)))
        clear hb_w1 c_w1_w_0 f_w1_w_0
        have far_w1_w_0 := far (show w.heap.size < w1.heap.size by omega)
        go_wp2_with fail
        refine Calls.mono (NEW.out _) ?_
        rintro e w2 ⟨rfl, hb_w2⟩
        have hz_w2 := hb_w2.size
        try simp at hz_w2
        obtain ⟨c_w2_w_0, f_w2_w_0⟩ := bk hb_w2 (w.heap.size) (by first | omega | (simp <;> omega))
        have c_w2_w_0_0 := c_w2_w_0 0
        conv at c_w2_w_0_0 => rhs; simp [go_sem, *]
        have f_w2_w_0_0 := f_w2_w_0 0
        conv at f_w2_w_0_0 => rhs; simp [go_sem, *]
        have c_w2_w_0_1 := c_w2_w_0 1
        conv at c_w2_w_0_1 => rhs; simp [go_sem, *]
        have f_w2_w_0_1 := f_w2_w_0 1
        conv at f_w2_w_0_1 => rhs; simp [go_sem, *]
        have hB_w2 : Below w.heap.size w w2 := Below.trans (by (repeat (first | exact Below.refl _ _ | assumption | refine Below.drew ?_ | refine Below.alloc ?_ (by first | omega | (simp <;> omega)) _ | refine Below.setCell ?_ (by first | omega | (simp <;> omega)) _))) (hb_w2.mono (by first | omega | (simp <;> omega)))
        clear hb_w2 c_w2_w_0 f_w2_w_0
        try clear c_w1_w_0_0
        try clear f_w1_w_0_0
        try clear c_w1_w_0_1
        try clear f_w1_w_0_1
        try clear far_w1_w_0
        try clear hB_w1
        have far_w2_w_0 := far (show w.heap.size < w2.heap.size by omega)
        go_wp2_with fail
        refine Calls.mono (ref_right_is Hr.out _) ?_
        rintro e w3 ⟨rfl, hb_w3⟩
        have hz_w3 := hb_w3.size
        try simp at hz_w3
        obtain ⟨c_w3_w_0, f_w3_w_0⟩ := bk hb_w3 (w.heap.size) (by first | omega | (simp <;> omega))
        have c_w3_w_0_0 := c_w3_w_0 0
        conv at c_w3_w_0_0 => rhs; simp [go_sem, *]
        have f_w3_w_0_0 := f_w3_w_0 0
        conv at f_w3_w_0_0 => rhs; simp [go_sem, *]
        have c_w3_w_0_1 := c_w3_w_0 1
        conv at c_w3_w_0_1 => rhs; simp [go_sem, *]
        have f_w3_w_0_1 := f_w3_w_0 1
        conv at f_w3_w_0_1 => rhs; simp [go_sem, *]
        obtain ⟨c_w3_w2_0, f_w3_w2_0⟩ := bk hb_w3 (w2.heap.size) (by first | omega | (simp <;> omega))
        have c_w3_w2_0_0 := c_w3_w2_0 0
        conv at c_w3_w2_0_0 => rhs; simp [go_sem, *]
        have f_w3_w2_0_0 := f_w3_w2_0 0
        conv at f_w3_w2_0_0 => rhs; simp [go_sem, *]
        have c_w3_w2_0_1 := c_w3_w2_0 1
        conv at c_w3_w2_0_1 => rhs; simp [go_sem, *]
        have f_w3_w2_0_1 := f_w3_w2_0 1
        conv at f_w3_w2_0_1 => rhs; simp [go_sem, *]
        have hB_w3 : Below w.heap.size w w3 := Below.trans (by (repeat (first | exact Below.refl _ _ | assumption | refine Below.drew ?_ | refine Below.alloc ?_ (by first | omega | (simp <;> omega)) _ | refine Below.setCell ?_ (by first | omega | (simp <;> omega)) _))) (hb_w3.mono (by first | omega | (simp <;> omega)))
        clear hb_w3 c_w3_w_0 f_w3_w_0 c_w3_w2_0 f_w3_w2_0
        try clear c_w2_w_0_0
        try clear f_w2_w_0_0
        try clear c_w2_w_0_1
        try clear f_w2_w_0_1
        try clear far_w2_w_0
        try clear hB_w2
        have far_w3_w_0 := far (show w.heap.size < w3.heap.size by omega)
        have far_w3_w2_0 := far (show w2.heap.size < w3.heap.size by omega)
        go_wp2_with fail
        refine wp_region_later (w3.heap.size) (by kernel_rfl) (by kernel_rfl) ?_
        have l_w4_w_0 := @Later.at (w3.heap.size) (w.heap.size) (by omega)
        have l_w4_w2_0 := @Later.at (w3.heap.size) (w2.heap.size) (by omega)
        repeat (go_big_quiet_step ((first | (go_at_call 13; exact later_of (by simp) (alive_any _)) | (go_at_call 11; exact later_of (by simp) (right_is Hr.out _)) | (go_at_call 10; exact later_of (by simp) (ref_right_is Hr.out _)) | (go_at_call 12; exact later_of (by simp) (room_is Er.out _)))))
        refine wpQuiet_nil ?_
        rintro w4 ⟨⟨_, hb_w4⟩, rfl⟩
        clear l_w4_w_0 l_w4_w2_0
        try simp only [] at hb_w4 ⊢
        have hz_w4 := hb_w4.size
        try simp at hz_w4
        have c_w4_w_0 := fun o => hb_w4.cell (p := ⟨w.heap.size, o, none⟩) (by first | omega | (simp <;> omega))
        have f_w4_w_0 := fun o => hb_w4.frozen (p := ⟨w.heap.size, o, none⟩) (by first | omega | (simp <;> omega))
        have c_w4_w_0_0 := c_w4_w_0 0
        conv at c_w4_w_0_0 => rhs; simp [go_sem, *]
        have f_w4_w_0_0 := f_w4_w_0 0
        conv at f_w4_w_0_0 => rhs; simp [go_sem, *]
        have c_w4_w_0_1 := c_w4_w_0 1
        conv at c_w4_w_0_1 => rhs; simp [go_sem, *]
        have f_w4_w_0_1 := f_w4_w_0 1
        conv at f_w4_w_0_1 => rhs; simp [go_sem, *]
        have c_w4_w2_0 := fun o => hb_w4.cell (p := ⟨w2.heap.size, o, none⟩) (by first | omega | (simp <;> omega))
        have f_w4_w2_0 := fun o => hb_w4.frozen (p := ⟨w2.heap.size, o, none⟩) (by first | omega | (simp <;> omega))
        have c_w4_w2_0_0 := c_w4_w2_0 0
        conv at c_w4_w2_0_0 => rhs; simp [go_sem, *]
        have f_w4_w2_0_0 := f_w4_w2_0 0
        conv at f_w4_w2_0_0 => rhs; simp [go_sem, *]
        have c_w4_w2_0_1 := c_w4_w2_0 1
        conv at c_w4_w2_0_1 => rhs; simp [go_sem, *]
        have f_w4_w2_0_1 := f_w4_w2_0 1
        conv at f_w4_w2_0_1 => rhs; simp [go_sem, *]
        have hB_w4 : Below w.heap.size w w4 := Below.trans (by (repeat (first | exact Below.refl _ _ | assumption | refine Below.drew ?_ | refine Below.alloc ?_ (by first | omega | (simp <;> omega)) _ | refine Below.setCell ?_ (by first | omega | (simp <;> omega)) _))) (hb_w4.mono (by first | omega | (simp <;> omega)))
        clear hb_w4 c_w4_w_0 f_w4_w_0 c_w4_w2_0 f_w4_w2_0
        try clear c_w3_w_0_0
        try clear f_w3_w_0_0
        try clear c_w3_w_0_1
        try clear f_w3_w_0_1
        try clear c_w3_w2_0_0
        try clear f_w3_w2_0_0
        try clear c_w3_w2_0_1
        try clear f_w3_w2_0_1
        try clear far_w3_w_0
        try clear far_w3_w2_0
        try clear hB_w3
        have far_w4_w_0 := far (show w.heap.size < w4.heap.size by omega)
        have far_w4_w2_0 := far (show w2.heap.size < w4.heap.size by omega)
        go_wp2
        go_ret
        exact ⟨rfl, by (repeat (first | exact Below.refl _ _ | assumption | refine Below.drew ?_ | refine Below.alloc ?_ (by first | omega | (simp <;> omega)) _ | refine Below.setCell ?_ (by first | omega | (simp <;> omega)) _))⟩
    · have er : roomI q c = c - q.size := by unfold roomI; rw [hr]; rfl
      obtain ⟨h1, h2, h3⟩ := rightB_true hr
      have Hr := Lib.hid hr
      have Er := Lib.hid er
      clear hr er
      rcases h with h | h
      all_goals
        go_enter Try.func3, Try.ntmps3
        go_wp2_with fail
        refine Calls.mono (FEW.out _) ?_
        rintro e w1 ⟨rfl, hb_w1⟩
        have hz_w1 := hb_w1.size
        try simp at hz_w1
        obtain ⟨c_w1_w_0, f_w1_w_0⟩ := bk hb_w1 (w.heap.size) (by first | omega | (simp <;> omega))
        have c_w1_w_0_0 := c_w1_w_0 0
        conv at c_w1_w_0_0 => rhs; simp [go_sem, *]
        have f_w1_w_0_0 := f_w1_w_0 0
        conv at f_w1_w_0_0 => rhs; simp [go_sem, *]
        have c_w1_w_0_1 := c_w1_w_0 1
        conv at c_w1_w_0_1 => rhs; simp [go_sem, *]
        have f_w1_w_0_1 := f_w1_w_0 1
        conv at f_w1_w_0_1 => rhs; simp [go_sem, *]
        have hB_w1 : Below w.heap.size w w1 := Below.trans (by (repeat (first | exact Below.refl _ _ | assumption | refine Below.drew ?_ | refine Below.alloc ?_ (by first | omega | (simp <;> omega)) _ | refine Below.setCell ?_ (by first | omega | (simp <;> omega)) _))) (hb_w1.mono (by first | omega | (simp <;> omega)))
        clear hb_w1 c_w1_w_0 f_w1_w_0
        try clear c_w4_w_0_0
        try clear f_w4_w_0_0
        try clear c_w4_w_0_1
        try clear f_w4_w_0_1
        try clear c_w4_w2_0_0
        try clear f_w4_w2_0_0
        try clear c_w4_w2_0_1
        try clear f_w4_w2_0_1
        try clear far_w4_w_0
        try clear far_w4_w2_0
        try clear hB_w4
        have far_w1_w_0 := far (show w.heap.size < w1.heap.size by omega)
        go_wp2_with fail
        refine Calls.mono (NEW.out _) ?_
        rintro e w2 ⟨rfl, hb_w2⟩
        have hz_w2 := hb_w2.size
        try simp at hz_w2
        obtain ⟨c_w2_w_0, f_w2_w_0⟩ := bk hb_w2 (w.heap.size) (by first | omega | (simp <;> omega))
        have c_w2_w_0_0 := c_w2_w_0 0
        conv at c_w2_w_0_0 => rhs; simp [go_sem, *]
        have f_w2_w_0_0 := f_w2_w_0 0
        conv at f_w2_w_0_0 => rhs; simp [go_sem, *]
        have c_w2_w_0_1 := c_w2_w_0 1
        conv at c_w2_w_0_1 => rhs; simp [go_sem, *]
        have f_w2_w_0_1 := f_w2_w_0 1
        conv at f_w2_w_0_1 => rhs; simp [go_sem, *]
        have hB_w2 : Below w.heap.size w w2 := Below.trans (by (repeat (first | exact Below.refl _ _ | assumption | refine Below.drew ?_ | refine Below.alloc ?_ (by first | omega | (simp <;> omega)) _ | refine Below.setCell ?_ (by first | omega | (simp <;> omega)) _))) (hb_w2.mono (by first | omega | (simp <;> omega)))
        clear hb_w2 c_w2_w_0 f_w2_w_0
        try clear c_w1_w_0_0
        try clear f_w1_w_0_0
        try clear c_w1_w_0_1
        try clear f_w1_w_0_1
        try clear far_w1_w_0
        try clear hB_w1
        have far_w2_w_0 := far (show w.heap.size < w2.heap.size by omega)
        go_wp2_with fail
        refine Calls.mono (ref_right_is Hr.out _) ?_
        rintro e w3 ⟨rfl, hb_w3⟩
        have hz_w3 := hb_w3.size
        try simp at hz_w3
        obtain ⟨c_w3_w_0, f_w3_w_0⟩ := bk hb_w3 (w.heap.size) (by first | omega | (simp <;> omega))
        have c_w3_w_0_0 := c_w3_w_0 0
        conv at c_w3_w_0_0 => rhs; simp [go_sem, *]
        have f_w3_w_0_0 := f_w3_w_0 0
        conv at f_w3_w_0_0 => rhs; simp [go_sem, *]
        have c_w3_w_0_1 := c_w3_w_0 1
        conv at c_w3_w_0_1 => rhs; simp [go_sem, *]
        have f_w3_w_0_1 := f_w3_w_0 1
        conv at f_w3_w_0_1 => rhs; simp [go_sem, *]
        obtain ⟨c_w3_w2_0, f_w3_w2_0⟩ := bk hb_w3 (w2.heap.size) (by first | omega | (simp <;> omega))
        have c_w3_w2_0_0 := c_w3_w2_0 0
        conv at c_w3_w2_0_0 => rhs; simp [go_sem, *]
        have f_w3_w2_0_0 := f_w3_w2_0 0
        conv at f_w3_w2_0_0 => rhs; simp [go_sem, *]
        have c_w3_w2_0_1 := c_w3_w2_0 1
        conv at c_w3_w2_0_1 => rhs; simp [go_sem, *]
        have f_w3_w2_0_1 := f_w3_w2_0 1
        conv at f_w3_w2_0_1 => rhs; simp [go_sem, *]
        have hB_w3 : Below w.heap.size w w3 := Below.trans (by (repeat (first | exact Below.refl _ _ | assumption | refine Below.drew ?_ | refine Below.alloc ?_ (by first | omega | (simp <;> omega)) _ | refine Below.setCell ?_ (by first | omega | (simp <;> omega)) _))) (hb_w3.mono (by first | omega | (simp <;> omega)))
        clear hb_w3 c_w3_w_0 f_w3_w_0 c_w3_w2_0 f_w3_w2_0
        try clear c_w2_w_0_0
        try clear f_w2_w_0_0
        try clear c_w2_w_0_1
        try clear f_w2_w_0_1
        try clear far_w2_w_0
        try clear hB_w2
        have far_w3_w_0 := far (show w.heap.size < w3.heap.size by omega)
        have far_w3_w2_0 := far (show w2.heap.size < w3.heap.size by omega)
        go_wp2_with fail
        refine wp_region_later (w3.heap.size) (by kernel_rfl) (by kernel_rfl) ?_
        have l_w4_w_0 := @Later.at (w3.heap.size) (w.heap.size) (by omega)
        have l_w4_w2_0 := @Later.at (w3.heap.size) (w2.heap.size) (by omega)
        repeat (go_big_quiet_step ((first | (go_at_call 13; exact later_of (by simp) (alive_any _)) | (go_at_call 11; exact later_of (by simp) (right_is Hr.out _)) | (go_at_call 10; exact later_of (by simp) (ref_right_is Hr.out _)) | (go_at_call 12; exact later_of (by simp) (room_is Er.out _)))))
        refine wpQuiet_nil ?_
        rintro w4 ⟨⟨_, hb_w4⟩, rfl⟩
        clear l_w4_w_0 l_w4_w2_0
        try simp only [] at hb_w4 ⊢
        have hz_w4 := hb_w4.size
        try simp at hz_w4
        have c_w4_w_0 := fun o => hb_w4.cell (p := ⟨w.heap.size, o, none⟩) (by first | omega | (simp <;> omega))
        have f_w4_w_0 := fun o => hb_w4.frozen (p := ⟨w.heap.size, o, none⟩) (by first | omega | (simp <;> omega))
        have c_w4_w_0_0 := c_w4_w_0 0
        conv at c_w4_w_0_0 => rhs; simp [go_sem, *]
        have f_w4_w_0_0 := f_w4_w_0 0
        conv at f_w4_w_0_0 => rhs; simp [go_sem, *]
        have c_w4_w_0_1 := c_w4_w_0 1
        conv at c_w4_w_0_1 => rhs; simp [go_sem, *]
        have f_w4_w_0_1 := f_w4_w_0 1
        conv at f_w4_w_0_1 => rhs; simp [go_sem, *]
        have c_w4_w2_0 := fun o => hb_w4.cell (p := ⟨w2.heap.size, o, none⟩) (by first | omega | (simp <;> omega))
        have f_w4_w2_0 := fun o => hb_w4.frozen (p := ⟨w2.heap.size, o, none⟩) (by first | omega | (simp <;> omega))
        have c_w4_w2_0_0 := c_w4_w2_0 0
        conv at c_w4_w2_0_0 => rhs; simp [go_sem, *]
        have f_w4_w2_0_0 := f_w4_w2_0 0
        conv at f_w4_w2_0_0 => rhs; simp [go_sem, *]
        have c_w4_w2_0_1 := c_w4_w2_0 1
        conv at c_w4_w2_0_1 => rhs; simp [go_sem, *]
        have f_w4_w2_0_1 := f_w4_w2_0 1
        conv at f_w4_w2_0_1 => rhs; simp [go_sem, *]
        have hB_w4 : Below w.heap.size w w4 := Below.trans (by (repeat (first | exact Below.refl _ _ | assumption | refine Below.drew ?_ | refine Below.alloc ?_ (by first | omega | (simp <;> omega)) _ | refine Below.setCell ?_ (by first | omega | (simp <;> omega)) _))) (hb_w4.mono (by first | omega | (simp <;> omega)))
        clear hb_w4 c_w4_w_0 f_w4_w_0 c_w4_w2_0 f_w4_w2_0
        try clear c_w3_w_0_0
        try clear f_w3_w_0_0
        try clear c_w3_w_0_1
        try clear f_w3_w_0_1
        try clear c_w3_w2_0_0
        try clear f_w3_w2_0_0
        try clear c_w3_w2_0_1
        try clear f_w3_w2_0_1
        try clear far_w3_w_0
        try clear far_w3_w2_0
        try clear hB_w3
        have far_w4_w_0 := far (show w.heap.size < w4.heap.size by omega)
        have far_w4_w2_0 := far (show w2.heap.size < w4.heap.size by omega)
        go_wp2
        go_ret
        exact ⟨rfl, by (repeat (first | exact Below.refl _ _ | assumption | refine Below.drew ?_ | refine Below.alloc ?_ (by first | omega | (simp <;> omega)) _ | refine Below.setCell ?_ (by first | omega | (simp <;> omega)) _))⟩
  · obtain rfl := hn h
    have NEW := Lib.hid ev
    clear ev hv hn
    have h5 : 1 ≤ n := by omega
    have h6 : n ≤ 65536 := by omega
    clear h
    generalize hr : rightB q c = r
    cases r
    · have er : roomI q c = 0 := by unfold roomI; rw [hr]; rfl
      have Hr := Lib.hid hr
      have Er := Lib.hid er
      clear hr er
      go_enter Try.func3, Try.ntmps3
      go_wp2_with fail
      refine Calls.mono (FEW.out _) ?_
      rintro e w1 ⟨rfl, hb_w1⟩
      have hz_w1 := hb_w1.size
      try simp at hz_w1
      obtain ⟨c_w1_w_0, f_w1_w_0⟩ := bk hb_w1 (w.heap.size) (by first | omega | (simp <;> omega))
      have c_w1_w_0_0 := c_w1_w_0 0
      conv at c_w1_w_0_0 => rhs; simp [go_sem, *]
      have f_w1_w_0_0 := f_w1_w_0 0
      conv at f_w1_w_0_0 => rhs; simp [go_sem, *]
      have c_w1_w_0_1 := c_w1_w_0 1
      conv at c_w1_w_0_1 => rhs; simp [go_sem, *]
      have f_w1_w_0_1 := f_w1_w_0 1
      conv at f_w1_w_0_1 => rhs; simp [go_sem, *]
      have hB_w1 : Below w.heap.size w w1 := Below.trans (by (repeat (first | exact Below.refl _ _ | assumption | refine Below.drew ?_ | refine Below.alloc ?_ (by first | omega | (simp <;> omega)) _ | refine Below.setCell ?_ (by first | omega | (simp <;> omega)) _))) (hb_w1.mono (by first | omega | (simp <;> omega)))
      clear hb_w1 c_w1_w_0 f_w1_w_0
      try clear c_w4_w_0_0
      try clear f_w4_w_0_0
      try clear c_w4_w_0_1
      try clear f_w4_w_0_1
      try clear c_w4_w2_0_0
      try clear f_w4_w2_0_0
      try clear c_w4_w2_0_1
      try clear f_w4_w2_0_1
      try clear far_w4_w_0
      try clear far_w4_w2_0
      try clear hB_w4
      have far_w1_w_0 := far (show w.heap.size < w1.heap.size by omega)
      go_wp2_with fail
      refine Calls.mono (NEW.out _) ?_
      rintro e w2 ⟨rfl, hb_w2⟩
      have hz_w2 := hb_w2.size
      try simp at hz_w2
      obtain ⟨c_w2_w_0, f_w2_w_0⟩ := bk hb_w2 (w.heap.size) (by first | omega | (simp <;> omega))
      have c_w2_w_0_0 := c_w2_w_0 0
      conv at c_w2_w_0_0 => rhs; simp [go_sem, *]
      have f_w2_w_0_0 := f_w2_w_0 0
      conv at f_w2_w_0_0 => rhs; simp [go_sem, *]
      have c_w2_w_0_1 := c_w2_w_0 1
      conv at c_w2_w_0_1 => rhs; simp [go_sem, *]
      have f_w2_w_0_1 := f_w2_w_0 1
      conv at f_w2_w_0_1 => rhs; simp [go_sem, *]
      have hB_w2 : Below w.heap.size w w2 := Below.trans (by (repeat (first | exact Below.refl _ _ | assumption | refine Below.drew ?_ | refine Below.alloc ?_ (by first | omega | (simp <;> omega)) _ | refine Below.setCell ?_ (by first | omega | (simp <;> omega)) _))) (hb_w2.mono (by first | omega | (simp <;> omega)))
      clear hb_w2 c_w2_w_0 f_w2_w_0
      try clear c_w1_w_0_0
      try clear f_w1_w_0_0
      try clear c_w1_w_0_1
      try clear f_w1_w_0_1
      try clear far_w1_w_0
      try clear hB_w1
      have far_w2_w_0 := far (show w.heap.size < w2.heap.size by omega)
      go_wp2_with fail
      refine Calls.mono (ref_right_is Hr.out _) ?_
      rintro e w3 ⟨rfl, hb_w3⟩
      have hz_w3 := hb_w3.size
      try simp at hz_w3
      obtain ⟨c_w3_w_0, f_w3_w_0⟩ := bk hb_w3 (w.heap.size) (by first | omega | (simp <;> omega))
      have c_w3_w_0_0 := c_w3_w_0 0
      conv at c_w3_w_0_0 => rhs; simp [go_sem, *]
      have f_w3_w_0_0 := f_w3_w_0 0
      conv at f_w3_w_0_0 => rhs; simp [go_sem, *]
      have c_w3_w_0_1 := c_w3_w_0 1
      conv at c_w3_w_0_1 => rhs; simp [go_sem, *]
      have f_w3_w_0_1 := f_w3_w_0 1
      conv at f_w3_w_0_1 => rhs; simp [go_sem, *]
      obtain ⟨c_w3_w2_0, f_w3_w2_0⟩ := bk hb_w3 (w2.heap.size) (by first | omega | (simp <;> omega))
      have c_w3_w2_0_0 := c_w3_w2_0 0
      conv at c_w3_w2_0_0 => rhs; simp [go_sem, *]
      have f_w3_w2_0_0 := f_w3_w2_0 0
      conv at f_w3_w2_0_0 => rhs; simp [go_sem, *]
      have c_w3_w2_0_1 := c_w3_w2_0 1
      conv at c_w3_w2_0_1 => rhs; simp [go_sem, *]
      have f_w3_w2_0_1 := f_w3_w2_0 1
      conv at f_w3_w2_0_1 => rhs; simp [go_sem, *]
      have hB_w3 : Below w.heap.size w w3 := Below.trans (by (repeat (first | exact Below.refl _ _ | assumption | refine Below.drew ?_ | refine Below.alloc ?_ (by first | omega | (simp <;> omega)) _ | refine Below.setCell ?_ (by first | omega | (simp <;> omega)) _))) (hb_w3.mono (by first | omega | (simp <;> omega)))
      clear hb_w3 c_w3_w_0 f_w3_w_0 c_w3_w2_0 f_w3_w2_0
      try clear c_w2_w_0_0
      try clear f_w2_w_0_0
      try clear c_w2_w_0_1
      try clear f_w2_w_0_1
      try clear far_w2_w_0
      try clear hB_w2
      have far_w3_w_0 := far (show w.heap.size < w3.heap.size by omega)
      have far_w3_w2_0 := far (show w2.heap.size < w3.heap.size by omega)
      go_wp2_with fail
      refine wp_region_later (w3.heap.size) (by kernel_rfl) (by kernel_rfl) ?_
      have l_w4_w_0 := @Later.at (w3.heap.size) (w.heap.size) (by omega)
      have l_w4_w2_0 := @Later.at (w3.heap.size) (w2.heap.size) (by omega)
      repeat (go_big_quiet_step ((first | (go_at_call 13; exact later_of (by simp) (alive_any _)) | (go_at_call 11; exact later_of (by simp) (right_is Hr.out _)) | (go_at_call 10; exact later_of (by simp) (ref_right_is Hr.out _)) | (go_at_call 12; exact later_of (by simp) (room_is Er.out _)))))
      refine wpQuiet_nil ?_
      rintro w4 ⟨⟨_, hb_w4⟩, rfl⟩
      clear l_w4_w_0 l_w4_w2_0
      try simp only [] at hb_w4 ⊢
      have hz_w4 := hb_w4.size
      try simp at hz_w4
      have c_w4_w_0 := fun o => hb_w4.cell (p := ⟨w.heap.size, o, none⟩) (by first | omega | (simp <;> omega))
      have f_w4_w_0 := fun o => hb_w4.frozen (p := ⟨w.heap.size, o, none⟩) (by first | omega | (simp <;> omega))
      have c_w4_w_0_0 := c_w4_w_0 0
      conv at c_w4_w_0_0 => rhs; simp [go_sem, *]
      have f_w4_w_0_0 := f_w4_w_0 0
      conv at f_w4_w_0_0 => rhs; simp [go_sem, *]
      have c_w4_w_0_1 := c_w4_w_0 1
      conv at c_w4_w_0_1 => rhs; simp [go_sem, *]
      have f_w4_w_0_1 := f_w4_w_0 1
      conv at f_w4_w_0_1 => rhs; simp [go_sem, *]
      have c_w4_w2_0 := fun o => hb_w4.cell (p := ⟨w2.heap.size, o, none⟩) (by first | omega | (simp <;> omega))
      have f_w4_w2_0 := fun o => hb_w4.frozen (p := ⟨w2.heap.size, o, none⟩) (by first | omega | (simp <;> omega))
      have c_w4_w2_0_0 := c_w4_w2_0 0
      conv at c_w4_w2_0_0 => rhs; simp [go_sem, *]
      have f_w4_w2_0_0 := f_w4_w2_0 0
      conv at f_w4_w2_0_0 => rhs; simp [go_sem, *]
      have c_w4_w2_0_1 := c_w4_w2_0 1
      conv at c_w4_w2_0_1 => rhs; simp [go_sem, *]
      have f_w4_w2_0_1 := f_w4_w2_0 1
      conv at f_w4_w2_0_1 => rhs; simp [go_sem, *]
      have hB_w4 : Below w.heap.size w w4 := Below.trans (by (repeat (first | exact Below.refl _ _ | assumption | refine Below.drew ?_ | refine Below.alloc ?_ (by first | omega | (simp <;> omega)) _ | refine Below.setCell ?_ (by first | omega | (simp <;> omega)) _))) (hb_w4.mono (by first | omega | (simp <;> omega)))
      clear hb_w4 c_w4_w_0 f_w4_w_0 c_w4_w2_0 f_w4_w2_0
      try clear c_w3_w_0_0
      try clear f_w3_w_0_0
      try clear c_w3_w_0_1
      try clear f_w3_w_0_1
      try clear c_w3_w2_0_0
      try clear f_w3_w2_0_0
      try clear c_w3_w2_0_1
      try clear f_w3_w2_0_1
      try clear far_w3_w_0
      try clear far_w3_w2_0
      try clear hB_w3
      have far_w4_w_0 := far (show w.heap.size < w4.heap.size by omega)
      have far_w4_w2_0 := far (show w2.heap.size < w4.heap.size by omega)
      go_wp2
      go_ret
      exact ⟨rfl, by (repeat (first | exact Below.refl _ _ | assumption | refine Below.drew ?_ | refine Below.alloc ?_ (by first | omega | (simp <;> omega)) _ | refine Below.setCell ?_ (by first | omega | (simp <;> omega)) _))⟩
    · have er : roomI q c = c - q.size := by unfold roomI; rw [hr]; rfl
      obtain ⟨h1, h2, h3⟩ := rightB_true hr
      have Hr := Lib.hid hr
      have Er := Lib.hid er
      clear hr er
      go_enter Try.func3, Try.ntmps3
      go_wp2_with fail
      refine Calls.mono (FEW.out _) ?_
      rintro e w1 ⟨rfl, hb_w1⟩
      have hz_w1 := hb_w1.size
      try simp at hz_w1
      obtain ⟨c_w1_w_0, f_w1_w_0⟩ := bk hb_w1 (w.heap.size) (by first | omega | (simp <;> omega))
      have c_w1_w_0_0 := c_w1_w_0 0
      conv at c_w1_w_0_0 => rhs; simp [go_sem, *]
      have f_w1_w_0_0 := f_w1_w_0 0
      conv at f_w1_w_0_0 => rhs; simp [go_sem, *]
      have c_w1_w_0_1 := c_w1_w_0 1
      conv at c_w1_w_0_1 => rhs; simp [go_sem, *]
      have f_w1_w_0_1 := f_w1_w_0 1
      conv at f_w1_w_0_1 => rhs; simp [go_sem, *]
      have hB_w1 : Below w.heap.size w w1 := Below.trans (by (repeat (first | exact Below.refl _ _ | assumption | refine Below.drew ?_ | refine Below.alloc ?_ (by first | omega | (simp <;> omega)) _ | refine Below.setCell ?_ (by first | omega | (simp <;> omega)) _))) (hb_w1.mono (by first | omega | (simp <;> omega)))
      clear hb_w1 c_w1_w_0 f_w1_w_0
      try clear c_w4_w_0_0
      try clear f_w4_w_0_0
      try clear c_w4_w_0_1
      try clear f_w4_w_0_1
      try clear c_w4_w2_0_0
      try clear f_w4_w2_0_0
      try clear c_w4_w2_0_1
      try clear f_w4_w2_0_1
      try clear far_w4_w_0
      try clear far_w4_w2_0
      try clear hB_w4
      have far_w1_w_0 := far (show w.heap.size < w1.heap.size by omega)
      go_wp2_with fail
      refine Calls.mono (NEW.out _) ?_
      rintro e w2 ⟨rfl, hb_w2⟩
      have hz_w2 := hb_w2.size
      try simp at hz_w2
      obtain ⟨c_w2_w_0, f_w2_w_0⟩ := bk hb_w2 (w.heap.size) (by first | omega | (simp <;> omega))
      have c_w2_w_0_0 := c_w2_w_0 0
      conv at c_w2_w_0_0 => rhs; simp [go_sem, *]
      have f_w2_w_0_0 := f_w2_w_0 0
      conv at f_w2_w_0_0 => rhs; simp [go_sem, *]
      have c_w2_w_0_1 := c_w2_w_0 1
      conv at c_w2_w_0_1 => rhs; simp [go_sem, *]
      have f_w2_w_0_1 := f_w2_w_0 1
      conv at f_w2_w_0_1 => rhs; simp [go_sem, *]
      have hB_w2 : Below w.heap.size w w2 := Below.trans (by (repeat (first | exact Below.refl _ _ | assumption | refine Below.drew ?_ | refine Below.alloc ?_ (by first | omega | (simp <;> omega)) _ | refine Below.setCell ?_ (by first | omega | (simp <;> omega)) _))) (hb_w2.mono (by first | omega | (simp <;> omega)))
      clear hb_w2 c_w2_w_0 f_w2_w_0
      try clear c_w1_w_0_0
      try clear f_w1_w_0_0
      try clear c_w1_w_0_1
      try clear f_w1_w_0_1
      try clear far_w1_w_0
      try clear hB_w1
      have far_w2_w_0 := far (show w.heap.size < w2.heap.size by omega)
      go_wp2_with fail
      refine Calls.mono (ref_right_is Hr.out _) ?_
      rintro e w3 ⟨rfl, hb_w3⟩
      have hz_w3 := hb_w3.size
      try simp at hz_w3
      obtain ⟨c_w3_w_0, f_w3_w_0⟩ := bk hb_w3 (w.heap.size) (by first | omega | (simp <;> omega))
      have c_w3_w_0_0 := c_w3_w_0 0
      conv at c_w3_w_0_0 => rhs; simp [go_sem, *]
      have f_w3_w_0_0 := f_w3_w_0 0
      conv at f_w3_w_0_0 => rhs; simp [go_sem, *]
      have c_w3_w_0_1 := c_w3_w_0 1
      conv at c_w3_w_0_1 => rhs; simp [go_sem, *]
      have f_w3_w_0_1 := f_w3_w_0 1
      conv at f_w3_w_0_1 => rhs; simp [go_sem, *]
      obtain ⟨c_w3_w2_0, f_w3_w2_0⟩ := bk hb_w3 (w2.heap.size) (by first | omega | (simp <;> omega))
      have c_w3_w2_0_0 := c_w3_w2_0 0
      conv at c_w3_w2_0_0 => rhs; simp [go_sem, *]
      have f_w3_w2_0_0 := f_w3_w2_0 0
      conv at f_w3_w2_0_0 => rhs; simp [go_sem, *]
      have c_w3_w2_0_1 := c_w3_w2_0 1
      conv at c_w3_w2_0_1 => rhs; simp [go_sem, *]
      have f_w3_w2_0_1 := f_w3_w2_0 1
      conv at f_w3_w2_0_1 => rhs; simp [go_sem, *]
      have hB_w3 : Below w.heap.size w w3 := Below.trans (by (repeat (first | exact Below.refl _ _ | assumption | refine Below.drew ?_ | refine Below.alloc ?_ (by first | omega | (simp <;> omega)) _ | refine Below.setCell ?_ (by first | omega | (simp <;> omega)) _))) (hb_w3.mono (by first | omega | (simp <;> omega)))
      clear hb_w3 c_w3_w_0 f_w3_w_0 c_w3_w2_0 f_w3_w2_0
      try clear c_w2_w_0_0
      try clear f_w2_w_0_0
      try clear c_w2_w_0_1
      try clear f_w2_w_0_1
      try clear far_w2_w_0
      try clear hB_w2
      have far_w3_w_0 := far (show w.heap.size < w3.heap.size by omega)
      have far_w3_w2_0 := far (show w2.heap.size < w3.heap.size by omega)
      go_wp2_with fail
      refine wp_region_later (w3.heap.size) (by kernel_rfl) (by kernel_rfl) ?_
      have l_w4_w_0 := @Later.at (w3.heap.size) (w.heap.size) (by omega)
      have l_w4_w2_0 := @Later.at (w3.heap.size) (w2.heap.size) (by omega)
      repeat (go_big_quiet_step ((first | (go_at_call 13; exact later_of (by simp) (alive_any _)) | (go_at_call 11; exact later_of (by simp) (right_is Hr.out _)) | (go_at_call 10; exact later_of (by simp) (ref_right_is Hr.out _)) | (go_at_call 12; exact later_of (by simp) (room_is Er.out _)))))
      refine wpQuiet_nil ?_
      rintro w4 ⟨⟨_, hb_w4⟩, rfl⟩
      clear l_w4_w_0 l_w4_w2_0
      try simp only [] at hb_w4 ⊢
      have hz_w4 := hb_w4.size
      try simp at hz_w4
      have c_w4_w_0 := fun o => hb_w4.cell (p := ⟨w.heap.size, o, none⟩) (by first | omega | (simp <;> omega))
      have f_w4_w_0 := fun o => hb_w4.frozen (p := ⟨w.heap.size, o, none⟩) (by first | omega | (simp <;> omega))
      have c_w4_w_0_0 := c_w4_w_0 0
      conv at c_w4_w_0_0 => rhs; simp [go_sem, *]
      have f_w4_w_0_0 := f_w4_w_0 0
      conv at f_w4_w_0_0 => rhs; simp [go_sem, *]
      have c_w4_w_0_1 := c_w4_w_0 1
      conv at c_w4_w_0_1 => rhs; simp [go_sem, *]
      have f_w4_w_0_1 := f_w4_w_0 1
      conv at f_w4_w_0_1 => rhs; simp [go_sem, *]
      have c_w4_w2_0 := fun o => hb_w4.cell (p := ⟨w2.heap.size, o, none⟩) (by first | omega | (simp <;> omega))
      have f_w4_w2_0 := fun o => hb_w4.frozen (p := ⟨w2.heap.size, o, none⟩) (by first | omega | (simp <;> omega))
      have c_w4_w2_0_0 := c_w4_w2_0 0
      conv at c_w4_w2_0_0 => rhs; simp [go_sem, *]
      have f_w4_w2_0_0 := f_w4_w2_0 0
      conv at f_w4_w2_0_0 => rhs; simp [go_sem, *]
      have c_w4_w2_0_1 := c_w4_w2_0 1
      conv at c_w4_w2_0_1 => rhs; simp [go_sem, *]
      have f_w4_w2_0_1 := f_w4_w2_0 1
      conv at f_w4_w2_0_1 => rhs; simp [go_sem, *]
      have hB_w4 : Below w.heap.size w w4 := Below.trans (by (repeat (first | exact Below.refl _ _ | assumption | refine Below.drew ?_ | refine Below.alloc ?_ (by first | omega | (simp <;> omega)) _ | refine Below.setCell ?_ (by first | omega | (simp <;> omega)) _))) (hb_w4.mono (by first | omega | (simp <;> omega)))
      clear hb_w4 c_w4_w_0 f_w4_w_0 c_w4_w2_0 f_w4_w2_0
      try clear c_w3_w_0_0
      try clear f_w3_w_0_0
      try clear c_w3_w_0_1
      try clear f_w3_w_0_1
      try clear c_w3_w2_0_0
      try clear f_w3_w2_0_0
      try clear c_w3_w2_0_1
      try clear f_w3_w2_0_1
      try clear far_w3_w_0
      try clear far_w3_w2_0
      try clear hB_w3
      have far_w4_w_0 := far (show w.heap.size < w4.heap.size by omega)
      have far_w4_w2_0 := far (show w2.heap.size < w4.heap.size by omega)
      go_wp2
      go_ret
      exact ⟨rfl, by (repeat (first | exact Below.refl _ _ | assumption | refine Below.drew ?_ | refine Below.alloc ?_ (by first | omega | (simp <;> omega)) _ | refine Below.setCell ?_ (by first | omega | (simp <;> omega)) _))⟩
end Go.Proofs.Ytfkojlfbdongpaa
