/- The walk of the law QueueLines. -/
import Derived.Test.YtfkojlfbdongpaaQRef
namespace Go.Proofs.Ytfkojlfbdongpaa
open Go.RowKit
set_option linter.unusedVariables false

theorem line_parts {s t : List UInt8} {a i : Nat} (ha : a ≤ s.length) (ht : s.drop a = t) (hi : idx10 t = i) :
    ∃ x y : List UInt8, ∃ n : Nat, cut13 (t.take i) = x ∧ x.length = n ∧ t.drop (i + 1) = y ∧ s.drop (a + i + 1) = y ∧ (s.take (a + n)).drop a = x ∧ a + i < s.length ∧
      ((n = i ∧ bAt s (a + i) = 10) ∨ (n + 1 = i ∧ bAt s (a + n) = 13 ∧ bAt s (a + n + 1) = 10)) := by
  obtain ⟨hil, h10, hno⟩ := idx_some hi
  subst ht
  have hlen : (s.drop a).length = s.length - a := List.length_drop
  have hai : a + i < s.length := by omega
  have hget : ∀ k, k < s.length - a → (s.drop a)[k]? = s[a + k]? := fun k hk => by rw [List.getElem?_drop]
  have bget : ∀ k (hk : k < (s.drop a).length), bAt s (a + k) = ((s.drop a)[k].toNat : Int) := fun k hk => by
    have h1 := hget k (by omega)
    rw [List.getElem?_eq_getElem hk, List.getElem?_eq_getElem (by omega)] at h1
    rw [bAt_eq (show a + k < s.length by omega)]
    have h2 : (s.drop a)[k] = s[a + k] := Option.some.inj h1
    rw [h2]
  have b10 : bAt s (a + i) = 10 := by rw [bget i hil, h10]; rfl
  by_cases hi0 : i = 0
  · subst hi0
    refine ⟨_, _, 0, rfl, ?_, rfl, ?_, ?_, hai, .inl ⟨rfl, b10⟩⟩
    · rw [List.take_zero]; try rfl
    · rw [List.drop_drop]; try rfl
    · rw [List.take_zero]; simp [cut13_nil]
  · by_cases h13 : (s.drop a)[i - 1]'(by omega) = 13
    · have e := cut13_yes (l := s.drop a) (i := i) (by omega) (by omega) h13
      refine ⟨_, _, i - 1, rfl, ?_, rfl, ?_, ?_, hai, .inr ⟨by omega, ?_, ?_⟩⟩
      · rw [e]; simp; omega
      · rw [List.drop_drop]; try rfl
      · rw [e, List.drop_take]; congr 1; omega
      · rw [bget (i - 1) (by omega), h13]; rfl
      · rw [show a + (i - 1) + 1 = a + i by omega]; exact b10
    · have e := cut13_no (l := s.drop a) (i := i) (by omega) (by omega) h13
      refine ⟨_, _, i, rfl, ?_, rfl, ?_, ?_, hai, .inl ⟨rfl, b10⟩⟩
      · rw [e]; simp; omega
      · rw [List.drop_drop]; try rfl
      · rw [e, List.drop_take]; congr 1; omega

set_option maxHeartbeats 1600000 in
set_option maxRecDepth 100000 in
theorem lines_any (s0 : ByteArray) (w : World) (hs0 : s0.size ≤ maxLen) :
    Calls Try.prog 6 #[.string s0] w fun e w' => e = .returned (.bool true) ∧ Below w.heap.size w w' := by
  obtain ⟨l0, rfl⟩ := S_of s0
  rw [S_size] at hs0
  unfold maxLen at hs0
  obtain ⟨k0, hk0, hk1, hk2⟩ : ∃ k : Nat, min (l0.length : Int) 2000 = k ∧ k ≤ l0.length ∧ k ≤ 2000 := ⟨min l0.length 2000, by omega, by omega, by omega⟩
  obtain ⟨s, hs, hsl⟩ : ∃ s, l0.take k0 = s ∧ s.length = k0 := ⟨_, rfl, by simp; omega⟩
  go_enter Try.func6, Try.ntmps6
  go_wp2
  go_loopw [4, 18] (fun at_ cnt wr => ∃ a k : Nat, ∃ t : List UInt8, at_ = .int .i64 a ∧ cnt = .int .i64 k ∧ k ≤ a ∧ a ≤ k0 ∧ s.drop a = t ∧ t.length + a = k0 ∧ wr.cell? ⟨w.heap.size, 0, none⟩ = some (.string (S t)) ∧ wr.cell? ⟨w.heap.size, 1, none⟩ = some (.int .i64 2000) ∧
      wr.frozen? ⟨w.heap.size, 0, none⟩ = false ∧ wr.frozen? ⟨w.heap.size, 1, none⟩ = false ∧ w.heap.size < wr.heap.size ∧ Below w.heap.size w wr) (fun _ cnt _ => k0 + 1 - (intOf cnt).toNat)
  case atStart => exact ⟨0, 0, s, rfl, rfl, Nat.le_refl _, Nat.zero_le _, rfl, by omega, by simp [go_sem], by simp [go_sem], by simp [go_sem], by simp [go_sem], by simp, by (repeat (first | exact Below.refl _ _ | assumption | refine Below.drew ?_ | refine Below.alloc ?_ (by first | omega | (simp <;> omega)) _ | refine Below.setCell ?_ (by first | omega | (simp <;> omega)) _))⟩
  case round =>
    obtain ⟨a, k, t, rfl, rfl, hka, hak, ht, htl, hc0, hc1, hf0, hf1, hlt, hB⟩ := hrel
    have hfar := far hlt
    have hr : rightL t 2000 = true := by simp only [rightL, decide_eq_true_eq]; omega
    have hge := idx_le t
    have hks : k < k0 + 1 := by omega
    by_cases hi : idx10 t = -1
    · have HI := Lib.hid hi
      have HR := Lib.hid hr
      clear hi hr hge
      go_wp2_with fail
      refine Calls.mono (line_none HR.out HI.out _) ?_
      rintro e w2 ⟨rfl, hb_w2⟩
      have hz_w2 := hb_w2.size
      try simp at hz_w2
      obtain ⟨c_w2_w_0, f_w2_w_0⟩ := bk hb_w2 (w.heap.size) (by first | omega | (simp <;> omega))
      have c_w2_w_0_0 := c_w2_w_0 0
      conv at c_w2_w_0_0 => rhs; simp [go_sem, *]
      have f_w2_w_0_0 := f_w2_w_0 0
      conv at f_w2_w_0_0 => rhs; simp [go_sem, *]
      have c_w2_w_0_1 := c_w2_w_0 1
      conv at c_w2_w_0_1 => rhs; simp [go_sem, *]
      have f_w2_w_0_1 := f_w2_w_0 1
      conv at f_w2_w_0_1 => rhs; simp [go_sem, *]
      have hB_w2 : Below w.heap.size w w2 := Below.trans (by (repeat (first | exact Below.refl _ _ | assumption | refine Below.drew ?_ | refine Below.alloc ?_ (by first | omega | (simp <;> omega)) _ | refine Below.setCell ?_ (by first | omega | (simp <;> omega)) _))) (hb_w2.mono (by first | omega | (simp <;> omega)))
      clear hb_w2 c_w2_w_0 f_w2_w_0
      have far_w2_w_0 := far (show w.heap.size < w2.heap.size by omega)
      have hdrop : s.take k0 = s := List.take_of_length_le (by omega)
      go_wp2_with fail
      refine wp_region_later_tail (w2.heap.size + 1) 18 (by kernel_rfl) (by kernel_rfl) ?_
      simp only [List.take_succ_cons, List.take_zero, List.drop_succ_cons, List.drop_zero]
      have l_w3_w_0 := @Later.at (w2.heap.size + 1) (w.heap.size) (by omega)
      have l_w3_w2_0 := @Later.at (w2.heap.size + 1) (w2.heap.size) (by omega)
      repeat (go_big_quiet_step ((first | (go_at_call 13; exact later_of (by simp) (alive_any _)))))
      refine wpQuiet_nil ?_
      rintro w3 ⟨⟨_, hb_w3⟩, rfl⟩
      clear l_w3_w_0 l_w3_w2_0
      try simp only [] at hb_w3 ⊢
      have hz_w3 := hb_w3.size
      try simp at hz_w3
      have c_w3_w_0 := fun o => hb_w3.cell (p := ⟨w.heap.size, o, none⟩) (by first | omega | (simp <;> omega))
      have f_w3_w_0 := fun o => hb_w3.frozen (p := ⟨w.heap.size, o, none⟩) (by first | omega | (simp <;> omega))
      have c_w3_w_0_0 := c_w3_w_0 0
      conv at c_w3_w_0_0 => rhs; simp [go_sem, *]
      have f_w3_w_0_0 := f_w3_w_0 0
      conv at f_w3_w_0_0 => rhs; simp [go_sem, *]
      have c_w3_w_0_1 := c_w3_w_0 1
      conv at c_w3_w_0_1 => rhs; simp [go_sem, *]
      have f_w3_w_0_1 := f_w3_w_0 1
      conv at f_w3_w_0_1 => rhs; simp [go_sem, *]
      have c_w3_w2_0 := fun o => hb_w3.cell (p := ⟨w2.heap.size, o, none⟩) (by first | omega | (simp <;> omega))
      have f_w3_w2_0 := fun o => hb_w3.frozen (p := ⟨w2.heap.size, o, none⟩) (by first | omega | (simp <;> omega))
      have c_w3_w2_0_0 := c_w3_w2_0 0
      conv at c_w3_w2_0_0 => rhs; simp [go_sem, *]
      have f_w3_w2_0_0 := f_w3_w2_0 0
      conv at f_w3_w2_0_0 => rhs; simp [go_sem, *]
      have c_w3_w2_0_1 := c_w3_w2_0 1
      conv at c_w3_w2_0_1 => rhs; simp [go_sem, *]
      have f_w3_w2_0_1 := f_w3_w2_0 1
      conv at f_w3_w2_0_1 => rhs; simp [go_sem, *]
      have hB_w3 : Below w.heap.size w w3 := Below.trans (by (repeat (first | exact Below.refl _ _ | assumption | refine Below.drew ?_ | refine Below.alloc ?_ (by first | omega | (simp <;> omega)) _ | refine Below.setCell ?_ (by first | omega | (simp <;> omega)) _))) (hb_w3.mono (by first | omega | (simp <;> omega)))
      clear hb_w3 c_w3_w_0 f_w3_w_0 c_w3_w2_0 f_w3_w2_0
      try clear c_w2_w_0_0
      try clear f_w2_w_0_0
      try clear c_w2_w_0_1
      try clear f_w2_w_0_1
      try clear far_w2_w_0
      try clear hB_w2
      have far_w3_w_0 := far (show w.heap.size < w3.heap.size by omega)
      have far_w3_w2_0 := far (show w2.heap.size < w3.heap.size by omega)
      go_wp2
      go_ret
      exact ⟨rfl, by (repeat (first | exact Below.refl _ _ | assumption | refine Below.drew ?_ | refine Below.alloc ?_ (by first | omega | (simp <;> omega)) _ | refine Below.setCell ?_ (by first | omega | (simp <;> omega)) _))⟩
    · obtain ⟨i, hi⟩ : ∃ i : Nat, idx10 t = i := ⟨(idx10 t).toNat, by unfold idx10 at *; omega⟩
      obtain ⟨x, y, n, h1, h2, h3, h4, h5, h6, h7⟩ := line_parts (s := s) (a := a) (by omega) ht hi
      have HI := Lib.hid hi
      have HR := Lib.hid hr
      have H1 := Lib.hid h1
      have H3 := Lib.hid h3
      have H4 := Lib.hid h4
      have hyl : y.length + (a + i + 1) = k0 := by rw [← h4]; simp; omega
      have HYL := Lib.hid hyl
      clear hi hr hge h1 h3 h4 hyl
      rcases h7 with ⟨h7, h8⟩ | ⟨h7, h8, h9⟩
      · subst h7
        have h10 : (bAt s (a + n) == 13) = false := by simp [h8]
        have h11 : (bAt s (a + n) != 10) = false := by simp [h8]
        clear h8
        have hlc := line_some (c := 2000) HR.out HI.out H1.out
        rw [H3.out] at hlc
        have HL := Lib.hid hlc
        clear hlc
        go_wp2_with fail
        refine Calls.mono (HL.out _) ?_
        rintro e w2 ⟨rfl, hb_w2⟩
        have hz_w2 := hb_w2.size
        try simp at hz_w2
        obtain ⟨c_w2_w_0, f_w2_w_0⟩ := bk hb_w2 (w.heap.size) (by first | omega | (simp <;> omega))
        have c_w2_w_0_0 := c_w2_w_0 0
        conv at c_w2_w_0_0 => rhs; simp [go_sem, *]
        have f_w2_w_0_0 := f_w2_w_0 0
        conv at f_w2_w_0_0 => rhs; simp [go_sem, *]
        have c_w2_w_0_1 := c_w2_w_0 1
        conv at c_w2_w_0_1 => rhs; simp [go_sem, *]
        have f_w2_w_0_1 := f_w2_w_0 1
        conv at f_w2_w_0_1 => rhs; simp [go_sem, *]
        have hB_w2 : Below w.heap.size w w2 := Below.trans (by (repeat (first | exact Below.refl _ _ | assumption | refine Below.drew ?_ | refine Below.alloc ?_ (by first | omega | (simp <;> omega)) _ | refine Below.setCell ?_ (by first | omega | (simp <;> omega)) _))) (hb_w2.mono (by first | omega | (simp <;> omega)))
        clear hb_w2 c_w2_w_0 f_w2_w_0
        try clear c_w3_w_0_0
        try clear f_w3_w_0_0
        try clear c_w3_w_0_1
        try clear f_w3_w_0_1
        try clear c_w3_w2_0_0
        try clear f_w3_w2_0_0
        try clear c_w3_w2_0_1
        try clear f_w3_w2_0_1
        try clear far_w3_w_0
        try clear far_w3_w2_0
        try clear hB_w3
        have far_w2_w_0 := far (show w.heap.size < w2.heap.size by omega)
        go_wp2
        go_roundw
        case rel => exact ⟨a + n + 1, k + 1, y, by go_num, by go_num, by omega, by omega, H4.out, by have := HYL.out; omega, by simp [go_sem, *], by simp [go_sem, *], by simp [go_sem, *], by simp [go_sem, *], by simp <;> omega, by (repeat (first | exact Below.refl _ _ | assumption | refine Below.drew ?_ | refine Below.alloc ?_ (by first | omega | (simp <;> omega)) _ | refine Below.setCell ?_ (by first | omega | (simp <;> omega)) _))⟩
        case measure => simp [intOf]; omega
      · subst h7
        have h10 : (bAt s (a + n) == 13) = true := by simp [h8]
        have h11 : (bAt s (a + n + 1) != 10) = false := by simp [h9]
        clear h8 h9
        have hlc := line_some (c := 2000) HR.out HI.out H1.out
        rw [H3.out] at hlc
        have HL := Lib.hid hlc
        clear hlc
        go_wp2_with fail
        refine Calls.mono (HL.out _) ?_
        rintro e w2 ⟨rfl, hb_w2⟩
        have hz_w2 := hb_w2.size
        try simp at hz_w2
        obtain ⟨c_w2_w_0, f_w2_w_0⟩ := bk hb_w2 (w.heap.size) (by first | omega | (simp <;> omega))
        have c_w2_w_0_0 := c_w2_w_0 0
        conv at c_w2_w_0_0 => rhs; simp [go_sem, *]
        have f_w2_w_0_0 := f_w2_w_0 0
        conv at f_w2_w_0_0 => rhs; simp [go_sem, *]
        have c_w2_w_0_1 := c_w2_w_0 1
        conv at c_w2_w_0_1 => rhs; simp [go_sem, *]
        have f_w2_w_0_1 := f_w2_w_0 1
        conv at f_w2_w_0_1 => rhs; simp [go_sem, *]
        have hB_w2 : Below w.heap.size w w2 := Below.trans (by (repeat (first | exact Below.refl _ _ | assumption | refine Below.drew ?_ | refine Below.alloc ?_ (by first | omega | (simp <;> omega)) _ | refine Below.setCell ?_ (by first | omega | (simp <;> omega)) _))) (hb_w2.mono (by first | omega | (simp <;> omega)))
        clear hb_w2 c_w2_w_0 f_w2_w_0
        have far_w2_w_0 := far (show w.heap.size < w2.heap.size by omega)
        go_wp2
        go_roundw
        case rel => exact ⟨a + n + 1 + 1, k + 1, y, by go_num, by go_num, by omega, by omega, H4.out, by have := HYL.out; omega, by simp [go_sem, *], by simp [go_sem, *], by simp [go_sem, *], by simp [go_sem, *], by simp <;> omega, by (repeat (first | exact Below.refl _ _ | assumption | refine Below.drew ?_ | refine Below.alloc ?_ (by first | omega | (simp <;> omega)) _ | refine Below.setCell ?_ (by first | omega | (simp <;> omega)) _))⟩
        case measure => simp [intOf]; omega
end Go.Proofs.Ytfkojlfbdongpaa
