/- First lines that may be: the walks of start.target, start.Right. Printed by tools/rtstart.py. Rows of fields (two texts each): read, built by the call, appended to. -/
import Derived.Test.YtgjemgilanhdiaaGreatDoorRf31
import Derived.Test.YtgjemgilanhdiaaGreatDoorRf4
import Derived.Test.YtgjemgilanhdiaaGreatDoorRf32
import Derived.Test.YtgjemgilanhdiaaGreatDoorRf9
import Derived.Test.YtgjemgilanhdiaaGreatDoorRf23
import Derived.ArgAppend
namespace Go.Proofs.YtgjemgilanhdiaaGreatDoor
open Go.RowKit Go.Sort Go.Shelf
set_option linter.unusedVariables false
set_option linter.unusedSimpArgs false

set_option maxHeartbeats 800000 in
theorem target_call (c : UInt8) (w : World) : Calls Tryz.prog 60 #[.int .u8 (c.toNat : Int)] w fun e w' => e = .returned (.bool (badU c)) ∧ w' = w := by
  have hc256 := c.toNat_lt
  obtain ⟨i, hi⟩ : ∃ i, Lib.indexByte sgnU ((c.toNat : Int).toNat.toUInt8) = i := ⟨_, rfl⟩
  have hi' : Lib.indexByte sgnU c = i := by rw [← hi]; simp
  have IB := Lib.hid (indexByte_S hi)
  have e : badU c = (decide (c.toNat ≤ 32) || decide (126 < c.toNat) || decide (0 ≤ i)) := by unfold badU; rw [hi']
  rw [e]
  clear e hi hi'
  obtain ⟨n, hn⟩ : ∃ n, c.toNat = n := ⟨_, rfl⟩
  rw [hn] at hc256 IB ⊢
  clear hn
  by_cases h1 : n ≤ 32
  · rw [show (decide (n ≤ 32) || decide (126 < n) || decide (0 ≤ i)) = true by simp [h1]]
    go_enter Tryz.func60, Tryz.ntmps60
    go_wp2
    go_ret
    exact ⟨by first | rfl | (simp; done) | (simp; omega), rfl⟩
  · by_cases h2 : 126 < n
    · rw [show (decide (n ≤ 32) || decide (126 < n) || decide (0 ≤ i)) = true by simp [h2]]
      go_enter Tryz.func60, Tryz.ntmps60
      go_wp2
      go_ret
      exact ⟨by first | rfl | (simp; done) | (simp; omega), rfl⟩
    · have h3 : (n : Int) ≤ 126 := by omega
      have h4 : 32 < (n : Int) := by omega
      rw [show (decide (n ≤ 32) || decide (126 < n) || decide (0 ≤ i)) = decide (0 ≤ i) by simp; omega]
      by_cases h5 : 0 ≤ i
      all_goals
        first | rw [show decide (0 ≤ i) = true from decide_eq_true h5] | rw [show decide (0 ≤ i) = false from decide_eq_false h5]
        go_enter Tryz.func60, Tryz.ntmps60
        go_wp2_with (go_at_call 61; refine (IB.out _).mono ?_; rintro e w' ⟨rfl, rfl⟩)
        go_ret
        exact ⟨by first | rfl | (simp; done) | (simp; omega), rfl⟩


set_option maxHeartbeats 1600000 in
theorem startTarget (l : List UInt8) (hl : l.length ≤ 4611686018427387903) (w : World) : Calls Tryz.prog 33 #[.string (S l)] w fun e w' => e = .returned (.bool (targetL l)) ∧ Below w.heap.size w w' := by
  have hcv := fun w => run_bytes_of_string (P := Tryz.prog) w 9 66 5 (S l) Tryz.underlying9 Tryz.underlying66 Tryz.underlying5
  have HX := Lib.hid (containsByFn badU 60 (enters_of Tryz.func60 (by kernel_rfl) rfl) w.heap.size _ l (grownCap_ge w l.length 0 5) (grownCap_le_maxLen w l.length 0 5 (by unfold maxLen; omega)) _ (fun c => target_call c _) (fun j h => (bytes_laid w l _ 5 (grownCap_ge w l.length 0 5) j h).1))
  obtain ⟨b, hb⟩ : ∃ b, l.any badU = b := ⟨_, rfl⟩
  unfold targetL
  rw [hb] at HX ⊢
  clear hb
  by_cases h42 : l = [42]
  · subst h42
    clear HX
    go_enter Tryz.func33, Tryz.ntmps33
    go_wp2
    go_ret
    exact ⟨rfl, by (repeat (first | with_reducible exact Below.refl _ _ | with_reducible assumption | with_reducible refine Below.drew ?_ | (with_reducible refine Below.setCell ?_ ?_ _; rotate_left; (first | omega | (simp <;> omega))) | (with_reducible refine Below.alloc ?_ ?_ _; rotate_left; (first | omega | (simp <;> omega))) | exact Below.refl _ _ | assumption))⟩
  · have h42b : (l == [42]) = false := by simpa using h42
    rw [h42b]
    obtain ⟨p1, h1⟩ : ∃ p, Lib.hasPrefix l [47] = p := ⟨_, rfl⟩
    obtain ⟨p2, h2⟩ : ∃ p, Lib.hasPrefix l httpL = p := ⟨_, rfl⟩
    have H1 := Lib.hid (fun W => hasPrefix_S h1 W)
    have H2 := Lib.hid (fun W => hasPrefix_S h2 W)
    unfold httpL at H2
    rw [h1, h2]
    clear h1 h2 h42
    have hli : (l.length : Int) ≤ 4611686018427387903 := by omega
    by_cases h5 : l.length ≤ 500
    · have h5i : (l.length : Int) ≤ 500 := by omega
      rw [decide_eq_true h5]
      cases p1
      all_goals cases p2
      all_goals cases b
      all_goals
        go_enter Tryz.func33, Tryz.ntmps33
        go_wp2_with (first
          | (go_at_call 16; first | ((with_reducible refine Calls.mono (H1.out _) ?_); rintro e w' ⟨rfl, hw'⟩; obtain rfl := hw'.symm) | ((with_reducible refine Calls.mono (H2.out _) ?_); rintro e w' ⟨rfl, hw'⟩; obtain rfl := hw'.symm))
          | (go_at_call 36; refine HX.out.mono ?_; rintro e w' ⟨rfl, rfl⟩)
          | fail)
        go_ret
        exact ⟨rfl, by (repeat (first | with_reducible exact Below.refl _ _ | with_reducible assumption | with_reducible refine Below.drew ?_ | (with_reducible refine Below.setCell ?_ ?_ _; rotate_left; (first | omega | (simp <;> omega))) | (with_reducible refine Below.alloc ?_ ?_ _; rotate_left; (first | omega | (simp <;> omega))) | exact Below.refl _ _ | assumption))⟩
    · have h5i : ¬ (l.length : Int) ≤ 500 := by omega
      rw [decide_eq_false h5]
      clear HX
      cases p1
      all_goals cases p2
      all_goals
        go_enter Tryz.func33, Tryz.ntmps33
        go_wp2_with (first
          | (go_at_call 16; first | ((with_reducible refine Calls.mono (H1.out _) ?_); rintro e w' ⟨rfl, hw'⟩; obtain rfl := hw'.symm) | ((with_reducible refine Calls.mono (H2.out _) ?_); rintro e w' ⟨rfl, hw'⟩; obtain rfl := hw'.symm))
          | fail)
        go_ret
        exact ⟨by simp, by (repeat (first | with_reducible exact Below.refl _ _ | with_reducible assumption | with_reducible refine Below.drew ?_ | (with_reducible refine Below.setCell ?_ ?_ _; rotate_left; (first | omega | (simp <;> omega))) | (with_reducible refine Below.alloc ?_ ?_ _; rotate_left; (first | omega | (simp <;> omega))) | exact Below.refl _ _ | assumption))⟩

theorem ctl_startRight (c : UInt8) (w : World) : Calls Tryz.prog 34 #[.int .u8 (c.toNat : Int)] w fun e w' => e = .returned (.bool (ctlB c)) ∧ w' = w := by
  have hc256 := c.toNat_lt
  unfold ctlB
  obtain ⟨n, hn⟩ : ∃ n, c.toNat = n := ⟨_, rfl⟩
  rw [hn] at hc256 ⊢
  clear hn
  by_cases h1 : n < 32
  · by_cases h2 : n = 9
    · subst h2
      go_enter Tryz.func34, Tryz.ntmps34
      go_wp2
      go_ret
      exact ⟨rfl, rfl⟩
    · have b2 : ((n : Int) == 9) = false := by simp; omega
      have b3 : ((n : Int) != 9) = true := by unfold bne; rw [b2]; rfl
      rw [show ((decide (n < 32) && !decide (n = 9)) || decide (n = 127)) = true by simp [h1, h2]]
      go_enter Tryz.func34, Tryz.ntmps34
      go_wp2
      go_ret
      exact ⟨by first | rfl | (simp; done) | (simp; omega), rfl⟩
  · by_cases h3 : n = 127
    · subst h3
      go_enter Tryz.func34, Tryz.ntmps34
      go_wp2
      go_ret
      exact ⟨rfl, rfl⟩
    · have b3 : ((n : Int) == 127) = false := by simp; omega
      rw [show ((decide (n < 32) && !decide (n = 9)) || decide (n = 127)) = false by simp [h3]; omega]
      go_enter Tryz.func34, Tryz.ntmps34
      go_wp2
      go_ret
      exact ⟨by first | rfl | (simp; done) | (simp; omega), rfl⟩

set_option maxHeartbeats 3200000 in
set_option maxRecDepth 100000 in
theorem startRight0 (s : St) (h1 : s.m.length ≤ 4611686018427387903) (h2 : s.t.length ≤ 4611686018427387903) (hc0 : s.c = 0) (w : World) :
    Calls Tryz.prog 20 #[.agg #[.string (S s.m), .string (S s.t), .int .i64 s.c, .string (S s.r), .int .i64 s.n]] w fun e w' => e = .returned (.bool (startOk s)) ∧ Below w.heap.size w w' := by
  have TK := Lib.hid (fun W => textToken s.m (by omega) W)
  have TG := Lib.hid (fun W => startTarget s.t h2 W)
  have HBX := Lib.hid (Below.refl w.heap.size w)
  have i1 : (s.m.length : Int) ≤ 4611686018427387903 := by omega
  obtain ⟨m, t, c, r, n⟩ := s
  unfold startOk
  simp only at *
  obtain ⟨tk, htk⟩ : ∃ b, tokenL m = b := ⟨_, rfl⟩
  obtain ⟨tg, htg⟩ : ∃ b, targetL t = b := ⟨_, rfl⟩
  rw [htk] at TK ⊢
  rw [htg] at TG ⊢
  subst hc0
  rw [if_pos rfl]
  clear htk htg h1 h2
  by_cases n0 : n = 0 ∨ n = 1
  rotate_left
  · have n1 : (n == 0) = false := by simp; omega
    have n2 : (n == 1) = false := by simp; omega
    have n3 : (n != 0) = true := by unfold bne; rw [n1]; rfl
    have n4 : (n != 1) = true := by unfold bne; rw [n2]; rfl
    rw [show (decide (n = 0) || decide (n = 1)) = false by simp; omega, Bool.false_and]
    clear n0
    go_enter Tryz.func20, Tryz.ntmps20
    go_wp2_with (first
      | (go_at_call 32; (with_reducible refine Calls.mono (TK.out _) ?_); rintro e w1 ⟨rfl, hb1⟩; have HBX := Lib.hid (Below.trans (show Below w.heap.size w _ by (have := HBX.out; (repeat (first | with_reducible exact Below.refl _ _ | with_reducible assumption | with_reducible refine Below.drew ?_ | (with_reducible refine Below.setCell ?_ ?_ _; rotate_left; (first | omega | (simp <;> omega))) | (with_reducible refine Below.alloc ?_ ?_ _; rotate_left; (first | omega | (simp <;> omega))) | exact Below.refl _ _ | assumption)))) (hb1.mono (by (try simp only [World.size_alloc, World.size_drew]); omega))); obtain ⟨cc_hb1, ff_hb1⟩ := bk hb1 w.heap.size (by (try simp only [World.size_alloc, World.size_drew]); omega); have hz_hb1 := hb1.size; (try simp only [World.size_alloc, World.size_drew] at hz_hb1); clear hb1)
      | (go_at_call 33; (with_reducible refine Calls.mono (TG.out _) ?_); rintro e w2 ⟨rfl, hb2⟩; have HBX := Lib.hid (Below.trans (show Below w.heap.size w _ by (have := HBX.out; (repeat (first | with_reducible exact Below.refl _ _ | with_reducible assumption | with_reducible refine Below.drew ?_ | (with_reducible refine Below.setCell ?_ ?_ _; rotate_left; (first | omega | (simp <;> omega))) | (with_reducible refine Below.alloc ?_ ?_ _; rotate_left; (first | omega | (simp <;> omega))) | exact Below.refl _ _ | assumption)))) (hb2.mono (by (try simp only [World.size_alloc, World.size_drew]); omega))); obtain ⟨cc_hb2, ff_hb2⟩ := bk hb2 w.heap.size (by (try simp only [World.size_alloc, World.size_drew]); omega); have hz_hb2 := hb2.size; (try simp only [World.size_alloc, World.size_drew] at hz_hb2); clear hb2)
      | fail)
    go_ret
    exact ⟨by first | rfl | (simp [*]; done), by (have := HBX.out; (repeat (first | with_reducible exact Below.refl _ _ | with_reducible assumption | with_reducible refine Below.drew ?_ | (with_reducible refine Below.setCell ?_ ?_ _; rotate_left; (first | omega | (simp <;> omega))) | (with_reducible refine Below.alloc ?_ ?_ _; rotate_left; (first | omega | (simp <;> omega))) | exact Below.refl _ _ | assumption)))⟩
  rw [show (decide (n = 0) || decide (n = 1)) = true by simp; omega, Bool.true_and]
  rcases n0 with rfl | rfl
  all_goals
    cases hr : r.isEmpty with
    | false =>
      have hrb : (r == []) = false := by cases r with | nil => simp at hr | cons a b => rfl
      clear TK TG
      go_enter Tryz.func20, Tryz.ntmps20
      go_wp2_with (first
        | (go_at_call 32; (with_reducible refine Calls.mono (TK.out _) ?_); rintro e w1 ⟨rfl, hb1⟩; have HBX := Lib.hid (Below.trans (show Below w.heap.size w _ by (have := HBX.out; (repeat (first | with_reducible exact Below.refl _ _ | with_reducible assumption | with_reducible refine Below.drew ?_ | (with_reducible refine Below.setCell ?_ ?_ _; rotate_left; (first | omega | (simp <;> omega))) | (with_reducible refine Below.alloc ?_ ?_ _; rotate_left; (first | omega | (simp <;> omega))) | exact Below.refl _ _ | assumption)))) (hb1.mono (by (try simp only [World.size_alloc, World.size_drew]); omega))); obtain ⟨cc_hb1, ff_hb1⟩ := bk hb1 w.heap.size (by (try simp only [World.size_alloc, World.size_drew]); omega); have hz_hb1 := hb1.size; (try simp only [World.size_alloc, World.size_drew] at hz_hb1); clear hb1)
        | (go_at_call 33; (with_reducible refine Calls.mono (TG.out _) ?_); rintro e w2 ⟨rfl, hb2⟩; have HBX := Lib.hid (Below.trans (show Below w.heap.size w _ by (have := HBX.out; (repeat (first | with_reducible exact Below.refl _ _ | with_reducible assumption | with_reducible refine Below.drew ?_ | (with_reducible refine Below.setCell ?_ ?_ _; rotate_left; (first | omega | (simp <;> omega))) | (with_reducible refine Below.alloc ?_ ?_ _; rotate_left; (first | omega | (simp <;> omega))) | exact Below.refl _ _ | assumption)))) (hb2.mono (by (try simp only [World.size_alloc, World.size_drew]); omega))); obtain ⟨cc_hb2, ff_hb2⟩ := bk hb2 w.heap.size (by (try simp only [World.size_alloc, World.size_drew]); omega); have hz_hb2 := hb2.size; (try simp only [World.size_alloc, World.size_drew] at hz_hb2); clear hb2)
        | fail)
      go_ret
      exact ⟨by first | rfl | (simp [*]; done), by (have := HBX.out; (repeat (first | with_reducible exact Below.refl _ _ | with_reducible assumption | with_reducible refine Below.drew ?_ | (with_reducible refine Below.setCell ?_ ?_ _; rotate_left; (first | omega | (simp <;> omega))) | (with_reducible refine Below.alloc ?_ ?_ _; rotate_left; (first | omega | (simp <;> omega))) | exact Below.refl _ _ | assumption)))⟩
    | true =>
      obtain rfl : r = [] := by simpa using hr
      cases tk with
      | false =>
        clear TG
        go_enter Tryz.func20, Tryz.ntmps20
        go_wp2_with (first
          | (go_at_call 32; (with_reducible refine Calls.mono (TK.out _) ?_); rintro e w1 ⟨rfl, hb1⟩; have HBX := Lib.hid (Below.trans (show Below w.heap.size w _ by (have := HBX.out; (repeat (first | with_reducible exact Below.refl _ _ | with_reducible assumption | with_reducible refine Below.drew ?_ | (with_reducible refine Below.setCell ?_ ?_ _; rotate_left; (first | omega | (simp <;> omega))) | (with_reducible refine Below.alloc ?_ ?_ _; rotate_left; (first | omega | (simp <;> omega))) | exact Below.refl _ _ | assumption)))) (hb1.mono (by (try simp only [World.size_alloc, World.size_drew]); omega))); obtain ⟨cc_hb1, ff_hb1⟩ := bk hb1 w.heap.size (by (try simp only [World.size_alloc, World.size_drew]); omega); have hz_hb1 := hb1.size; (try simp only [World.size_alloc, World.size_drew] at hz_hb1); clear hb1)
          | (go_at_call 33; (with_reducible refine Calls.mono (TG.out _) ?_); rintro e w2 ⟨rfl, hb2⟩; have HBX := Lib.hid (Below.trans (show Below w.heap.size w _ by (have := HBX.out; (repeat (first | with_reducible exact Below.refl _ _ | with_reducible assumption | with_reducible refine Below.drew ?_ | (with_reducible refine Below.setCell ?_ ?_ _; rotate_left; (first | omega | (simp <;> omega))) | (with_reducible refine Below.alloc ?_ ?_ _; rotate_left; (first | omega | (simp <;> omega))) | exact Below.refl _ _ | assumption)))) (hb2.mono (by (try simp only [World.size_alloc, World.size_drew]); omega))); obtain ⟨cc_hb2, ff_hb2⟩ := bk hb2 w.heap.size (by (try simp only [World.size_alloc, World.size_drew]); omega); have hz_hb2 := hb2.size; (try simp only [World.size_alloc, World.size_drew] at hz_hb2); clear hb2)
          | fail)
        go_ret
        exact ⟨by first | rfl | (simp [*]; done), by (have := HBX.out; (repeat (first | with_reducible exact Below.refl _ _ | with_reducible assumption | with_reducible refine Below.drew ?_ | (with_reducible refine Below.setCell ?_ ?_ _; rotate_left; (first | omega | (simp <;> omega))) | (with_reducible refine Below.alloc ?_ ?_ _; rotate_left; (first | omega | (simp <;> omega))) | exact Below.refl _ _ | assumption)))⟩
      | true =>
        by_cases hm : m.length ≤ 20
        · have hmi : (m.length : Int) ≤ 20 := by omega
          rw [decide_eq_true hm]
          clear hm
          cases tg with
          | false =>
            go_enter Tryz.func20, Tryz.ntmps20
            go_wp2_with (first
              | (go_at_call 32; (with_reducible refine Calls.mono (TK.out _) ?_); rintro e w1 ⟨rfl, hb1⟩; have HBX := Lib.hid (Below.trans (show Below w.heap.size w _ by (have := HBX.out; (repeat (first | with_reducible exact Below.refl _ _ | with_reducible assumption | with_reducible refine Below.drew ?_ | (with_reducible refine Below.setCell ?_ ?_ _; rotate_left; (first | omega | (simp <;> omega))) | (with_reducible refine Below.alloc ?_ ?_ _; rotate_left; (first | omega | (simp <;> omega))) | exact Below.refl _ _ | assumption)))) (hb1.mono (by (try simp only [World.size_alloc, World.size_drew]); omega))); obtain ⟨cc_hb1, ff_hb1⟩ := bk hb1 w.heap.size (by (try simp only [World.size_alloc, World.size_drew]); omega); have hz_hb1 := hb1.size; (try simp only [World.size_alloc, World.size_drew] at hz_hb1); clear hb1)
              | (go_at_call 33; (with_reducible refine Calls.mono (TG.out _) ?_); rintro e w2 ⟨rfl, hb2⟩; have HBX := Lib.hid (Below.trans (show Below w.heap.size w _ by (have := HBX.out; (repeat (first | with_reducible exact Below.refl _ _ | with_reducible assumption | with_reducible refine Below.drew ?_ | (with_reducible refine Below.setCell ?_ ?_ _; rotate_left; (first | omega | (simp <;> omega))) | (with_reducible refine Below.alloc ?_ ?_ _; rotate_left; (first | omega | (simp <;> omega))) | exact Below.refl _ _ | assumption)))) (hb2.mono (by (try simp only [World.size_alloc, World.size_drew]); omega))); obtain ⟨cc_hb2, ff_hb2⟩ := bk hb2 w.heap.size (by (try simp only [World.size_alloc, World.size_drew]); omega); have hz_hb2 := hb2.size; (try simp only [World.size_alloc, World.size_drew] at hz_hb2); clear hb2)
              | fail)
            go_ret
            exact ⟨by first | rfl | (simp [*]; done), by (have := HBX.out; (repeat (first | with_reducible exact Below.refl _ _ | with_reducible assumption | with_reducible refine Below.drew ?_ | (with_reducible refine Below.setCell ?_ ?_ _; rotate_left; (first | omega | (simp <;> omega))) | (with_reducible refine Below.alloc ?_ ?_ _; rotate_left; (first | omega | (simp <;> omega))) | exact Below.refl _ _ | assumption)))⟩
          | true =>
            go_enter Tryz.func20, Tryz.ntmps20
            go_wp2_with (first
              | (go_at_call 32; (with_reducible refine Calls.mono (TK.out _) ?_); rintro e w1 ⟨rfl, hb1⟩; have HBX := Lib.hid (Below.trans (show Below w.heap.size w _ by (have := HBX.out; (repeat (first | with_reducible exact Below.refl _ _ | with_reducible assumption | with_reducible refine Below.drew ?_ | (with_reducible refine Below.setCell ?_ ?_ _; rotate_left; (first | omega | (simp <;> omega))) | (with_reducible refine Below.alloc ?_ ?_ _; rotate_left; (first | omega | (simp <;> omega))) | exact Below.refl _ _ | assumption)))) (hb1.mono (by (try simp only [World.size_alloc, World.size_drew]); omega))); obtain ⟨cc_hb1, ff_hb1⟩ := bk hb1 w.heap.size (by (try simp only [World.size_alloc, World.size_drew]); omega); have hz_hb1 := hb1.size; (try simp only [World.size_alloc, World.size_drew] at hz_hb1); clear hb1)
              | (go_at_call 33; (with_reducible refine Calls.mono (TG.out _) ?_); rintro e w2 ⟨rfl, hb2⟩; have HBX := Lib.hid (Below.trans (show Below w.heap.size w _ by (have := HBX.out; (repeat (first | with_reducible exact Below.refl _ _ | with_reducible assumption | with_reducible refine Below.drew ?_ | (with_reducible refine Below.setCell ?_ ?_ _; rotate_left; (first | omega | (simp <;> omega))) | (with_reducible refine Below.alloc ?_ ?_ _; rotate_left; (first | omega | (simp <;> omega))) | exact Below.refl _ _ | assumption)))) (hb2.mono (by (try simp only [World.size_alloc, World.size_drew]); omega))); obtain ⟨cc_hb2, ff_hb2⟩ := bk hb2 w.heap.size (by (try simp only [World.size_alloc, World.size_drew]); omega); have hz_hb2 := hb2.size; (try simp only [World.size_alloc, World.size_drew] at hz_hb2); clear hb2)
              | fail)
            go_ret
            exact ⟨by first | rfl | (simp [*]; done), by (have := HBX.out; (repeat (first | with_reducible exact Below.refl _ _ | with_reducible assumption | with_reducible refine Below.drew ?_ | (with_reducible refine Below.setCell ?_ ?_ _; rotate_left; (first | omega | (simp <;> omega))) | (with_reducible refine Below.alloc ?_ ?_ _; rotate_left; (first | omega | (simp <;> omega))) | exact Below.refl _ _ | assumption)))⟩
        · have hmi : ¬ (m.length : Int) ≤ 20 := by omega
          rw [decide_eq_false hm]
          clear hm TG
          go_enter Tryz.func20, Tryz.ntmps20
          go_wp2_with (first
            | (go_at_call 32; (with_reducible refine Calls.mono (TK.out _) ?_); rintro e w1 ⟨rfl, hb1⟩; have HBX := Lib.hid (Below.trans (show Below w.heap.size w _ by (have := HBX.out; (repeat (first | with_reducible exact Below.refl _ _ | with_reducible assumption | with_reducible refine Below.drew ?_ | (with_reducible refine Below.setCell ?_ ?_ _; rotate_left; (first | omega | (simp <;> omega))) | (with_reducible refine Below.alloc ?_ ?_ _; rotate_left; (first | omega | (simp <;> omega))) | exact Below.refl _ _ | assumption)))) (hb1.mono (by (try simp only [World.size_alloc, World.size_drew]); omega))); obtain ⟨cc_hb1, ff_hb1⟩ := bk hb1 w.heap.size (by (try simp only [World.size_alloc, World.size_drew]); omega); have hz_hb1 := hb1.size; (try simp only [World.size_alloc, World.size_drew] at hz_hb1); clear hb1)
            | (go_at_call 33; (with_reducible refine Calls.mono (TG.out _) ?_); rintro e w2 ⟨rfl, hb2⟩; have HBX := Lib.hid (Below.trans (show Below w.heap.size w _ by (have := HBX.out; (repeat (first | with_reducible exact Below.refl _ _ | with_reducible assumption | with_reducible refine Below.drew ?_ | (with_reducible refine Below.setCell ?_ ?_ _; rotate_left; (first | omega | (simp <;> omega))) | (with_reducible refine Below.alloc ?_ ?_ _; rotate_left; (first | omega | (simp <;> omega))) | exact Below.refl _ _ | assumption)))) (hb2.mono (by (try simp only [World.size_alloc, World.size_drew]); omega))); obtain ⟨cc_hb2, ff_hb2⟩ := bk hb2 w.heap.size (by (try simp only [World.size_alloc, World.size_drew]); omega); have hz_hb2 := hb2.size; (try simp only [World.size_alloc, World.size_drew] at hz_hb2); clear hb2)
            | fail)
          go_ret
          exact ⟨by first | rfl | (simp [*]; done), by (have := HBX.out; (repeat (first | with_reducible exact Below.refl _ _ | with_reducible assumption | with_reducible refine Below.drew ?_ | (with_reducible refine Below.setCell ?_ ?_ _; rotate_left; (first | omega | (simp <;> omega))) | (with_reducible refine Below.alloc ?_ ?_ _; rotate_left; (first | omega | (simp <;> omega))) | exact Below.refl _ _ | assumption)))⟩
end Go.Proofs.YtgjemgilanhdiaaGreatDoor
namespace Go.Proofs.YtgjemgilanhdiaaGreatDoor
open Go.RowKit
set_option linter.unusedVariables false

abbrev Fld := List UInt8 × List UInt8
def fcells (f : Fld) : List Value := [.string (S f.1), .string (S f.2)]
theorem flat_len : ∀ L : List Fld, (L.flatMap fcells).length = L.length * 2
  | [] => rfl
  | f :: L => by rw [List.flatMap_cons, List.length_append, flat_len L]; simp [fcells]; omega
theorem flat_at : ∀ (L : List Fld) (j : Nat) (h : j < L.length), (L.flatMap fcells)[j * 2]? = some (.string (S L[j].1)) ∧ (L.flatMap fcells)[j * 2 + 1]? = some (.string (S L[j].2))
  | [], j, h => by simp at h
  | f :: L, 0, h => by simp [fcells]
  | f :: L, j + 1, h => by
    obtain ⟨h1, h2⟩ := flat_at L j (by simpa using h)
    rw [List.flatMap_cons]
    refine ⟨?_, ?_⟩
    · rw [List.getElem?_append_right (by simp [fcells]; omega), show (j + 1) * 2 - (fcells f).length = j * 2 by simp [fcells]; omega, h1]; rfl
    · rw [List.getElem?_append_right (by simp [fcells]; omega), show (j + 1) * 2 + 1 - (fcells f).length = j * 2 + 1 by simp [fcells]; omega, h2]; rfl
theorem flat_one (L : List Fld) : ∀ u ∈ L.flatMap fcells, u.oneCell' = true := by
  intro u hu
  obtain ⟨f, _, hf⟩ := List.mem_flatMap.1 hu
  simp [fcells] at hf
  rcases hf with rfl | rfl <;> rfl

theorem infoFld : (Tryz.prog.info? 40).map (fun i => (i.zero, i.size, i.bytes)) = some (some (.agg #[.string ⟨#[]⟩, .string ⟨#[]⟩]), 2, 32) := by kernel_rfl

def OwnsF (W : World) (B : Nat) (v : Value) (L : List Fld) : Prop := W.ownsRow B 40 2 v L.length (L.flatMap fcells)
def ReadsF (W : World) (v : Value) (L : List Fld) : Prop :=
  ∃ ao cap, v = .slice ao L.length cap ∧ L.length ≤ cap ∧ cap ≤ maxLen ∧ (ao = none → cap = 0) ∧ (0 < L.length → ∃ b off, ao = some ⟨b, off, none⟩ ∧ b < W.heap.size ∧
    ∀ j (h : j < L.length), W.cell? ⟨b, off + j * 2, none⟩ = some (.string (S L[j].1)) ∧ W.cell? ⟨b, off + j * 2 + 1, none⟩ = some (.string (S L[j].2)))
theorem OwnsF.nil (W : World) (B : Nat) : OwnsF W B (.slice none 0 0) [] := World.ownsRow_nil _ _ _ _
theorem ReadsF.nil (W : World) : ReadsF W (.slice none 0 0) [] := ⟨none, 0, rfl, Nat.le_refl _, by decide, fun _ => rfl, fun h => by simp at h⟩
theorem OwnsF.made (W : World) (B : Nat) (hB : B ≤ W.heap.size) : OwnsF (W.alloc (.cells #[] 40)) B (.slice (some ⟨W.heap.size, 0, none⟩) 0 0) [] :=
  ⟨rfl, .inr ⟨W.heap.size, 0, #[], rfl, hB, by show (W.heap.push _)[W.heap.size]? = _; rw [Array.getElem?_push_size], Nat.le_refl _, by decide, rfl, rfl⟩⟩
theorem OwnsF.below {W W' : World} {B : Nat} {v : Value} {L : List Fld} (h : OwnsF W B v L) (hb : Below W.heap.size W W') : OwnsF W' B v L := by
  obtain ⟨h1, h2⟩ := h
  refine ⟨h1, ?_⟩
  rcases h2 with h2 | ⟨g, cap, cur, h3, h4, h5, h6⟩
  · exact .inl h2
  · refine .inr ⟨g, cap, cur, h3, h4, ?_, h6⟩
    have hg : g < W.heap.size := by
      rcases Nat.lt_or_ge g W.heap.size with h | h
      · exact h
      · rw [Array.getElem?_eq_none h] at h5; cases h5
    rw [hb.block g hg]
    exact h5
theorem OwnsF.base {W : World} {B B' : Nat} {v : Value} {L : List Fld} (h : OwnsF W B v L) (hb : B' ≤ B) : OwnsF W B' v L := by
  obtain ⟨h1, h2⟩ := h
  refine ⟨h1, ?_⟩
  rcases h2 with h2 | ⟨g, cap, cur, h3, h4, h5⟩
  · exact .inl h2
  · exact .inr ⟨g, cap, cur, h3, Nat.le_trans hb h4, h5⟩
theorem OwnsF.reads {W : World} {B : Nat} {v : Value} {L : List Fld} (h : OwnsF W B v L) : ReadsF W v L := by
  obtain ⟨h1, h2⟩ := h
  rcases h2 with ⟨h2, h3⟩ | ⟨g, cap, cur, h3, h4, h5, h6, h7, h8, h9⟩
  · have : L = [] := List.length_eq_zero_iff.1 h3
    subst this; rw [h2]; exact ReadsF.nil W
  · have hg : g < W.heap.size := by
      rcases Nat.lt_or_ge g W.heap.size with h | h
      · exact h
      · rw [Array.getElem?_eq_none h] at h5; cases h5
    refine ⟨_, cap, h3, h6, h7, (fun h => by cases h), fun h0 => ⟨g, 0, rfl, hg, fun j hj => ?_⟩⟩
    have hcell : ∀ q, q < L.length * 2 → W.cell? ⟨g, q, none⟩ = (L.flatMap fcells)[q]? := fun q hq => by
      rw [Joins.cell_of_block h5, ← h9, List.getElem?_take, if_pos hq, Array.getElem?_toList]
    obtain ⟨e1, e2⟩ := flat_at L j hj
    rw [Nat.zero_add]
    exact ⟨(hcell _ (by omega)).trans e1, (hcell _ (by omega)).trans e2⟩
theorem ReadsF.below {W W' : World} {v : Value} {L : List Fld} (h : ReadsF W v L) (hb : Below W.heap.size W W') : ReadsF W' v L := by
  obtain ⟨ao, cap, h1, h2, h3, h3', h4⟩ := h
  refine ⟨ao, cap, h1, h2, h3, h3', fun h0 => ?_⟩
  obtain ⟨b, off, e1, e2, e3⟩ := h4 h0
  refine ⟨b, off, e1, Nat.lt_of_lt_of_le e2 hb.size, fun j hj => ?_⟩
  rw [hb.cell (p := ⟨b, off + j * 2, none⟩) e2, hb.cell (p := ⟨b, off + j * 2 + 1, none⟩) e2]
  exact e3 j hj

theorem two_cells (W : World) (f : Fld) : ∀ j u, (fcells f)[j]? = some u → (W.alloc (.cells #[.string (S f.1), .string (S f.2)] 40)).cell? ((⟨W.heap.size, 0, none⟩ : Addr).add j) = some u := by
  intro j u hj
  match j, hj with
  | 0, hj => simp [fcells] at hj; subst hj; simp [Addr.add]
  | 1, hj => simp [fcells] at hj; subst hj; simp [Addr.add]

theorem OwnsF.apart {W W0 w' : World} {B B0 : Nat} {v1 v2 : Value} {L1 L2 : List Fld} (h1 : OwnsF W B v1 L1) (h2 : OwnsF W0 B0 v2 L2) (hB : W0.heap.size ≤ B) (hg : W.grownBy w' v2.ownBlock) : OwnsF w' B v1 L1 := by
  refine World.ownsRow.kept h1 hg ?_
  cases hv : v1.ownBlock with
  | none => exact .inl rfl
  | some k =>
    refine .inr fun e => ?_
    have a := World.ownsRow.lt h1 k hv
    have b := World.ownsRow.lt h2 k e.symm
    omega

theorem wp_append_fld {ops : Array Oper} {rest : List Oper} {o : Oper} {a : Act} {Q : Exit → Act → World → Prop} (hgd : o.guard = none) (s x : Operand)
    (ho : o.op = .call { callee := .builtin .append, args := #[s, x], argTypes := #[25, 25] })
    (W : World) (B : Nat) (v : Value) (L : List Fld) (f : Fld) (hown : OwnsF W B v L) (hs : a.eval s = v) (g : Nat) (hx : a.eval x = .slice (some ⟨g, 0, none⟩) 1 1) (hg : g = W.heap.size)
    (hn : L.length ≤ 2199023255552) (hB : B ≤ W.heap.size)
    (h : ∀ v' w', OwnsF w' B v' (L ++ [f]) → Below B W w' → (W.alloc (.cells #[.string (S f.1), .string (S f.2)] 40)).grownBy w' v.ownBlock → wpList Tryz.prog ops Q rest (a.put o.dst v') w') : wpList Tryz.prog ops Q (o :: rest) a (W.alloc (.cells #[.string (S f.1), .string (S f.2)] 40)) := by
  subst hg
  obtain ⟨i0, hi, hz0, hz1, hz2⟩ := info_parts infoFld
  have hown' : (W.alloc (.cells #[.string (S f.1), .string (S f.2)] 40)).ownsRow B 40 2 v L.length (L.flatMap fcells) := World.ownsRow.alloc hown _
  refine wpList_append_own _ hgd s x 25 ho B 40 i0 (.agg #[.string ⟨#[]⟩, .string ⟨#[]⟩]) 2 32 Tryz.underlying25 hi hz0 hz1 hz2 rfl (by decide) v L.length _ hs hown' ⟨W.heap.size, 0, none⟩ 1 1 (fcells f) hx rfl (two_cells W f) ?_ ?_ ?_ ?_ ?_
  · intro u hu; simp [fcells] at hu; rcases hu with rfl | rfl <;> rfl
  · unfold maxLen; omega
  · omega
  · simp; omega
  · intro v' w' h1 h2 h3
    refine h v' w' (by unfold OwnsF; simpa using h1) ?_ ?_
    · refine Below.grown (w := W.alloc (.cells #[.string (S f.1), .string (S f.2)] 40)) ((Below.refl _ _).alloc hB _) h2 (by simp; omega) ?_
      intro k hk
      exact (World.ownsRow.lt hown' k hk).1
    · exact h2

theorem wp_append_clip {ops : Array Oper} {rest : List Oper} {o : Oper} {a : Act} {Q : Exit → Act → World → Prop} (hgd : o.guard = none) (s x : Operand)
    (ho : o.op = .call { callee := .builtin .append, args := #[s, x], argTypes := #[25, 25] })
    (W : World) (ao : Option Addr) (cap : Nat) (L : List Fld) (f : Fld) (hr : ReadsF W (.slice ao L.length cap) L) (hs : a.eval s = .slice ao L.length L.length) (g : Nat) (hx : a.eval x = .slice (some ⟨g, 0, none⟩) 1 1) (hg : g = W.heap.size)
    (hn : L.length ≤ 2199023255552)
    (h : ∀ v' w', OwnsF w' W.heap.size v' (L ++ [f]) → Below W.heap.size W w' → wpList Tryz.prog ops Q rest (a.put o.dst v') w') : wpList Tryz.prog ops Q (o :: rest) a (W.alloc (.cells #[.string (S f.1), .string (S f.2)] 40)) := by
  subst hg
  obtain ⟨i0, hi, hz0, hz1, hz2⟩ := info_parts infoFld
  obtain ⟨ao', cap', e1, e2, e3, e4, e5⟩ := hr
  injection e1 with e6 e7 e8
  subst e6
  refine wpList_append_grows _ hgd s x 25 ho 40 i0 (.agg #[.string ⟨#[]⟩, .string ⟨#[]⟩]) 2 32 Tryz.underlying25 hi hz0 hz1 hz2 rfl (by decide) ao L.length L.length (L.flatMap fcells) hs (fun hno => ?_) (flat_len L) ?_ ⟨W.heap.size, 0, none⟩ 1 1 (fcells f) hx rfl (two_cells W f) ?_ (by omega) ?_ ?_ ?_
  · have := e4 hno; omega
  · intro b hb j u hj
    have hlen := flat_len L
    have hj2 : j < L.length * 2 := by
      rcases Nat.lt_or_ge j (L.length * 2) with h' | h'
      · exact h'
      · rw [List.getElem?_eq_none (by omega)] at hj; cases hj
    obtain ⟨b0, off, e9, e10, e11⟩ := e5 (by omega)
    rw [hb] at e9
    cases e9
    have hal := Below.alloc (Below.refl W.heap.size W) (Nat.le_refl _) (.cells #[.string (S f.1), .string (S f.2)] 40)
    obtain ⟨c1, c2⟩ := e11 (j / 2) (by omega)
    obtain ⟨d1, d2⟩ := flat_at L (j / 2) (by omega)
    have hadd : ((⟨b0, off, none⟩ : Addr).add j) = ⟨b0, off + j, none⟩ := by
      unfold Addr.add; split
      · rename_i e; subst e; rfl
      · rfl
    rw [hadd, hal.cell (p := ⟨b0, off + j, none⟩) e10]
    rcases Nat.mod_two_eq_zero_or_one j with hm | hm
    · have : j = j / 2 * 2 := by omega
      rw [← this] at c1 d1
      rw [c1, ← d1]; exact hj
    · have : j = j / 2 * 2 + 1 := by omega
      rw [Nat.add_assoc, ← this] at c2
      rw [← this] at d2
      rw [c2, ← d2]; exact hj
  · intro u hu; simp [fcells] at hu; rcases hu with rfl | rfl <;> rfl
  · unfold maxLen; omega
  · omega
  · intro v' w' h1 h2
    refine h v' w' ?_ ?_
    · refine OwnsF.base (B := (W.alloc (.cells #[.string (S f.1), .string (S f.2)] 40)).heap.size) ?_ (by simp)
      unfold OwnsF
      simpa using h1
    · exact Below.grown (w := W.alloc (.cells #[.string (S f.1), .string (S f.2)] 40)) ((Below.refl _ _).alloc (Nat.le_refl _) _) h2 (by simp) (fun k hk => by cases hk)
end Go.Proofs.YtgjemgilanhdiaaGreatDoor
