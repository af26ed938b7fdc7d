/- First lines that may be: the walks of start.target, start.Right. Printed by tools/rtstart.py. -/
import Derived.Test.YtgjemgilanhdiaaGreatDoorRh37
import Derived.Test.YtgjemgilanhdiaaGreatDoorRh4
import Derived.Test.YtgjemgilanhdiaaGreatDoorRh39
import Derived.Test.YtgjemgilanhdiaaGreatDoorRh9
namespace Go.Proofs.YtgjemgilanhdiaaGreatDoor
open Go.RowKit Go.Sort Go.Shelf
set_option linter.unusedVariables false
set_option linter.unusedSimpArgs false

set_option maxHeartbeats 800000 in
theorem target_call (c : UInt8) (w : World) : Calls Tryz.prog 60 #[.int .u8 (c.toNat : Int)] w fun e w' => e = .returned (.bool (badU c)) ∧ w' = w := by
  have hc256 := c.toNat_lt
  obtain ⟨i, hi⟩ : ∃ i, Lib.indexByte sgnU ((c.toNat : Int).toNat.toUInt8) = i := ⟨_, rfl⟩
  have hi' : Lib.indexByte sgnU c = i := by rw [← hi]; simp
  have IB := Lib.hid (indexByte_S hi)
  have e : badU c = (decide (c.toNat ≤ 32) || decide (126 < c.toNat) || decide (0 ≤ i)) := by unfold badU; rw [hi']
  rw [e]
  clear e hi hi'
  obtain ⟨n, hn⟩ : ∃ n, c.toNat = n := ⟨_, rfl⟩
  rw [hn] at hc256 IB ⊢
  clear hn
  by_cases h1 : n ≤ 32
  · rw [show (decide (n ≤ 32) || decide (126 < n) || decide (0 ≤ i)) = true by simp [h1]]
    go_enter Tryz.func60, Tryz.ntmps60
    go_wp2
    go_ret
    exact ⟨by first | rfl | (simp; done) | (simp; omega), rfl⟩
  · by_cases h2 : 126 < n
    · rw [show (decide (n ≤ 32) || decide (126 < n) || decide (0 ≤ i)) = true by simp [h2]]
      go_enter Tryz.func60, Tryz.ntmps60
      go_wp2
      go_ret
      exact ⟨by first | rfl | (simp; done) | (simp; omega), rfl⟩
    · have h3 : (n : Int) ≤ 126 := by omega
      have h4 : 32 < (n : Int) := by omega
      rw [show (decide (n ≤ 32) || decide (126 < n) || decide (0 ≤ i)) = decide (0 ≤ i) by simp; omega]
      by_cases h5 : 0 ≤ i
      all_goals
        first | rw [show decide (0 ≤ i) = true from decide_eq_true h5] | rw [show decide (0 ≤ i) = false from decide_eq_false h5]
        go_enter Tryz.func60, Tryz.ntmps60
        go_wp2_with (go_at_call 61; refine (IB.out _).mono ?_; rintro e w' ⟨rfl, rfl⟩)
        go_ret
        exact ⟨by first | rfl | (simp; done) | (simp; omega), rfl⟩


set_option maxHeartbeats 1600000 in
theorem startTarget (l : List UInt8) (hl : l.length ≤ 4611686018427387903) (w : World) : Calls Tryz.prog 33 #[.string (S l)] w fun e w' => e = .returned (.bool (targetL l)) ∧ Below w.heap.size w w' := by
  have hcv := fun w => run_bytes_of_string (P := Tryz.prog) w 9 66 5 (S l) Tryz.underlying9 Tryz.underlying66 Tryz.underlying5
  have HX := Lib.hid (containsByFn badU 60 (enters_of Tryz.func60 (by kernel_rfl) rfl) w.heap.size _ l (grownCap_ge w l.length 0 5) (grownCap_le_maxLen w l.length 0 5 (by unfold maxLen; omega)) _ (fun c => target_call c _) (fun j h => (bytes_laid w l _ 5 (grownCap_ge w l.length 0 5) j h).1))
  obtain ⟨b, hb⟩ : ∃ b, l.any badU = b := ⟨_, rfl⟩
  unfold targetL
  rw [hb] at HX ⊢
  clear hb
  by_cases h42 : l = [42]
  · subst h42
    clear HX
    go_enter Tryz.func33, Tryz.ntmps33
    go_wp2
    go_ret
    exact ⟨rfl, by (repeat (first | (with_reducible exact Below.refl _ _) | (with_reducible assumption) | (with_reducible refine Below.drew ?_) | (focus ((with_reducible refine Below.setCell ?_ ?_ _); rotate_left; (first | omega | (simp <;> omega)))) | (focus ((with_reducible refine Below.alloc ?_ ?_ _); rotate_left; (first | omega | (simp <;> omega)))) | exact Below.refl _ _ | assumption | refine Below.drew ?_ | refine Below.alloc ?_ (by first | omega | (simp <;> omega)) _ | refine Below.setCell ?_ (by first | omega | (simp <;> omega)) _))⟩
  · have h42b : (l == [42]) = false := by simpa using h42
    rw [h42b]
    obtain ⟨p1, h1⟩ : ∃ p, Lib.hasPrefix l [47] = p := ⟨_, rfl⟩
    obtain ⟨p2, h2⟩ : ∃ p, Lib.hasPrefix l httpL = p := ⟨_, rfl⟩
    have H1 := Lib.hid (fun W => hasPrefix_S h1 W)
    have H2 := Lib.hid (fun W => hasPrefix_S h2 W)
    unfold httpL at H2
    rw [h1, h2]
    clear h1 h2 h42
    have hli : (l.length : Int) ≤ 4611686018427387903 := by omega
    by_cases h5 : l.length ≤ 500
    · have h5i : (l.length : Int) ≤ 500 := by omega
      rw [decide_eq_true h5]
      cases p1
      all_goals cases p2
      all_goals cases b
      all_goals
        go_enter Tryz.func33, Tryz.ntmps33
        go_wp2_with (first
          | (go_at_call 16; first | ((with_reducible refine Calls.mono (H1.out _) ?_); rintro e w' ⟨rfl, hw'⟩; obtain rfl := hw'.symm) | ((with_reducible refine Calls.mono (H2.out _) ?_); rintro e w' ⟨rfl, hw'⟩; obtain rfl := hw'.symm))
          | (go_at_call 36; refine HX.out.mono ?_; rintro e w' ⟨rfl, rfl⟩)
          | fail)
        go_ret
        exact ⟨rfl, by (repeat (first | (with_reducible exact Below.refl _ _) | (with_reducible assumption) | (with_reducible refine Below.drew ?_) | (focus ((with_reducible refine Below.setCell ?_ ?_ _); rotate_left; (first | omega | (simp <;> omega)))) | (focus ((with_reducible refine Below.alloc ?_ ?_ _); rotate_left; (first | omega | (simp <;> omega)))) | exact Below.refl _ _ | assumption | refine Below.drew ?_ | refine Below.alloc ?_ (by first | omega | (simp <;> omega)) _ | refine Below.setCell ?_ (by first | omega | (simp <;> omega)) _))⟩
    · have h5i : ¬ (l.length : Int) ≤ 500 := by omega
      rw [decide_eq_false h5]
      clear HX
      cases p1
      all_goals cases p2
      all_goals
        go_enter Tryz.func33, Tryz.ntmps33
        go_wp2_with (first
          | (go_at_call 16; first | ((with_reducible refine Calls.mono (H1.out _) ?_); rintro e w' ⟨rfl, hw'⟩; obtain rfl := hw'.symm) | ((with_reducible refine Calls.mono (H2.out _) ?_); rintro e w' ⟨rfl, hw'⟩; obtain rfl := hw'.symm))
          | fail)
        go_ret
        exact ⟨by simp, by (repeat (first | (with_reducible exact Below.refl _ _) | (with_reducible assumption) | (with_reducible refine Below.drew ?_) | (focus ((with_reducible refine Below.setCell ?_ ?_ _); rotate_left; (first | omega | (simp <;> omega)))) | (focus ((with_reducible refine Below.alloc ?_ ?_ _); rotate_left; (first | omega | (simp <;> omega)))) | exact Below.refl _ _ | assumption | refine Below.drew ?_ | refine Below.alloc ?_ (by first | omega | (simp <;> omega)) _ | refine Below.setCell ?_ (by first | omega | (simp <;> omega)) _))⟩

theorem ctl_startRight (c : UInt8) (w : World) : Calls Tryz.prog 34 #[.int .u8 (c.toNat : Int)] w fun e w' => e = .returned (.bool (ctlB c)) ∧ w' = w := by
  have hc256 := c.toNat_lt
  unfold ctlB
  obtain ⟨n, hn⟩ : ∃ n, c.toNat = n := ⟨_, rfl⟩
  rw [hn] at hc256 ⊢
  clear hn
  by_cases h1 : n < 32
  · by_cases h2 : n = 9
    · subst h2
      go_enter Tryz.func34, Tryz.ntmps34
      go_wp2
      go_ret
      exact ⟨rfl, rfl⟩
    · have b2 : ((n : Int) == 9) = false := by simp; omega
      have b3 : ((n : Int) != 9) = true := by unfold bne; rw [b2]; rfl
      rw [show ((decide (n < 32) && !decide (n = 9)) || decide (n = 127)) = true by simp [h1, h2]]
      go_enter Tryz.func34, Tryz.ntmps34
      go_wp2
      go_ret
      exact ⟨by first | rfl | (simp; done) | (simp; omega), rfl⟩
  · by_cases h3 : n = 127
    · subst h3
      go_enter Tryz.func34, Tryz.ntmps34
      go_wp2
      go_ret
      exact ⟨rfl, rfl⟩
    · have b3 : ((n : Int) == 127) = false := by simp; omega
      rw [show ((decide (n < 32) && !decide (n = 9)) || decide (n = 127)) = false by simp [h3]; omega]
      go_enter Tryz.func34, Tryz.ntmps34
      go_wp2
      go_ret
      exact ⟨by first | rfl | (simp; done) | (simp; omega), rfl⟩

set_option maxHeartbeats 3200000 in
set_option maxRecDepth 100000 in
theorem startRight0 (s : St) (h1 : s.m.length ≤ 4611686018427387903) (h2 : s.t.length ≤ 4611686018427387903) (hc0 : s.c = 0) (w : World) :
    Calls Tryz.prog 20 #[.agg #[.string (S s.m), .string (S s.t), .int .i64 s.c, .string (S s.r), .int .i64 s.n]] w fun e w' => e = .returned (.bool (startOk s)) ∧ Below w.heap.size w w' := by
  have TK := Lib.hid (fun W => textToken s.m (by omega) W)
  have TG := Lib.hid (fun W => startTarget s.t h2 W)
  have HBX := Lib.hid (Below.refl w.heap.size w)
  have i1 : (s.m.length : Int) ≤ 4611686018427387903 := by omega
  obtain ⟨m, t, c, r, n⟩ := s
  unfold startOk
  simp only at *
  obtain ⟨tk, htk⟩ : ∃ b, tokenL m = b := ⟨_, rfl⟩
  obtain ⟨tg, htg⟩ : ∃ b, targetL t = b := ⟨_, rfl⟩
  rw [htk] at TK ⊢
  rw [htg] at TG ⊢
  subst hc0
  rw [if_pos rfl]
  clear htk htg h1 h2
  by_cases n0 : n = 0 ∨ n = 1
  rotate_left
  · have n1 : (n == 0) = false := by simp; omega
    have n2 : (n == 1) = false := by simp; omega
    have n3 : (n != 0) = true := by unfold bne; rw [n1]; rfl
    have n4 : (n != 1) = true := by unfold bne; rw [n2]; rfl
    rw [show (decide (n = 0) || decide (n = 1)) = false by simp; omega, Bool.false_and]
    clear n0
    go_enter Tryz.func20, Tryz.ntmps20
    go_wp2_with (first
      | (go_at_call 32; (with_reducible refine Calls.mono (TK.out _) ?_); rintro e w1 ⟨rfl, hb1⟩; have HBX := Lib.hid (Below.trans (show Below w.heap.size w _ by (have := HBX.out; (repeat (first | (with_reducible exact Below.refl _ _) | (with_reducible assumption) | (with_reducible refine Below.drew ?_) | (focus ((with_reducible refine Below.setCell ?_ ?_ _); rotate_left; (first | omega | (simp <;> omega)))) | (focus ((with_reducible refine Below.alloc ?_ ?_ _); rotate_left; (first | omega | (simp <;> omega)))) | exact Below.refl _ _ | assumption | refine Below.drew ?_ | refine Below.alloc ?_ (by first | omega | (simp <;> omega)) _ | refine Below.setCell ?_ (by first | omega | (simp <;> omega)) _)))) (hb1.mono (by (try simp only [World.size_alloc, World.size_drew]); omega))); obtain ⟨cc_hb1, ff_hb1⟩ := bk hb1 w.heap.size (by (try simp only [World.size_alloc, World.size_drew]); omega); have hz_hb1 := hb1.size; (try simp only [World.size_alloc, World.size_drew] at hz_hb1); clear hb1)
      | (go_at_call 33; (with_reducible refine Calls.mono (TG.out _) ?_); rintro e w2 ⟨rfl, hb2⟩; have HBX := Lib.hid (Below.trans (show Below w.heap.size w _ by (have := HBX.out; (repeat (first | (with_reducible exact Below.refl _ _) | (with_reducible assumption) | (with_reducible refine Below.drew ?_) | (focus ((with_reducible refine Below.setCell ?_ ?_ _); rotate_left; (first | omega | (simp <;> omega)))) | (focus ((with_reducible refine Below.alloc ?_ ?_ _); rotate_left; (first | omega | (simp <;> omega)))) | exact Below.refl _ _ | assumption | refine Below.drew ?_ | refine Below.alloc ?_ (by first | omega | (simp <;> omega)) _ | refine Below.setCell ?_ (by first | omega | (simp <;> omega)) _)))) (hb2.mono (by (try simp only [World.size_alloc, World.size_drew]); omega))); obtain ⟨cc_hb2, ff_hb2⟩ := bk hb2 w.heap.size (by (try simp only [World.size_alloc, World.size_drew]); omega); have hz_hb2 := hb2.size; (try simp only [World.size_alloc, World.size_drew] at hz_hb2); clear hb2)
      | fail)
    go_ret
    exact ⟨by first | rfl | (simp [*]; done), by (have := HBX.out; (repeat (first | (with_reducible exact Below.refl _ _) | (with_reducible assumption) | (with_reducible refine Below.drew ?_) | (focus ((with_reducible refine Below.setCell ?_ ?_ _); rotate_left; (first | omega | (simp <;> omega)))) | (focus ((with_reducible refine Below.alloc ?_ ?_ _); rotate_left; (first | omega | (simp <;> omega)))) | exact Below.refl _ _ | assumption | refine Below.drew ?_ | refine Below.alloc ?_ (by first | omega | (simp <;> omega)) _ | refine Below.setCell ?_ (by first | omega | (simp <;> omega)) _)))⟩
  rw [show (decide (n = 0) || decide (n = 1)) = true by simp; omega, Bool.true_and]
  rcases n0 with rfl | rfl
  all_goals
    cases hr : r.isEmpty with
    | false =>
      have hrb : (r == []) = false := by cases r with | nil => simp at hr | cons a b => rfl
      clear TK TG
      go_enter Tryz.func20, Tryz.ntmps20
      go_wp2_with (first
        | (go_at_call 32; (with_reducible refine Calls.mono (TK.out _) ?_); rintro e w1 ⟨rfl, hb1⟩; have HBX := Lib.hid (Below.trans (show Below w.heap.size w _ by (have := HBX.out; (repeat (first | (with_reducible exact Below.refl _ _) | (with_reducible assumption) | (with_reducible refine Below.drew ?_) | (focus ((with_reducible refine Below.setCell ?_ ?_ _); rotate_left; (first | omega | (simp <;> omega)))) | (focus ((with_reducible refine Below.alloc ?_ ?_ _); rotate_left; (first | omega | (simp <;> omega)))) | exact Below.refl _ _ | assumption | refine Below.drew ?_ | refine Below.alloc ?_ (by first | omega | (simp <;> omega)) _ | refine Below.setCell ?_ (by first | omega | (simp <;> omega)) _)))) (hb1.mono (by (try simp only [World.size_alloc, World.size_drew]); omega))); obtain ⟨cc_hb1, ff_hb1⟩ := bk hb1 w.heap.size (by (try simp only [World.size_alloc, World.size_drew]); omega); have hz_hb1 := hb1.size; (try simp only [World.size_alloc, World.size_drew] at hz_hb1); clear hb1)
        | (go_at_call 33; (with_reducible refine Calls.mono (TG.out _) ?_); rintro e w2 ⟨rfl, hb2⟩; have HBX := Lib.hid (Below.trans (show Below w.heap.size w _ by (have := HBX.out; (repeat (first | (with_reducible exact Below.refl _ _) | (with_reducible assumption) | (with_reducible refine Below.drew ?_) | (focus ((with_reducible refine Below.setCell ?_ ?_ _); rotate_left; (first | omega | (simp <;> omega)))) | (focus ((with_reducible refine Below.alloc ?_ ?_ _); rotate_left; (first | omega | (simp <;> omega)))) | exact Below.refl _ _ | assumption | refine Below.drew ?_ | refine Below.alloc ?_ (by first | omega | (simp <;> omega)) _ | refine Below.setCell ?_ (by first | omega | (simp <;> omega)) _)))) (hb2.mono (by (try simp only [World.size_alloc, World.size_drew]); omega))); obtain ⟨cc_hb2, ff_hb2⟩ := bk hb2 w.heap.size (by (try simp only [World.size_alloc, World.size_drew]); omega); have hz_hb2 := hb2.size; (try simp only [World.size_alloc, World.size_drew] at hz_hb2); clear hb2)
        | fail)
      go_ret
      exact ⟨by first | rfl | (simp [*]; done), by (have := HBX.out; (repeat (first | (with_reducible exact Below.refl _ _) | (with_reducible assumption) | (with_reducible refine Below.drew ?_) | (focus ((with_reducible refine Below.setCell ?_ ?_ _); rotate_left; (first | omega | (simp <;> omega)))) | (focus ((with_reducible refine Below.alloc ?_ ?_ _); rotate_left; (first | omega | (simp <;> omega)))) | exact Below.refl _ _ | assumption | refine Below.drew ?_ | refine Below.alloc ?_ (by first | omega | (simp <;> omega)) _ | refine Below.setCell ?_ (by first | omega | (simp <;> omega)) _)))⟩
    | true =>
      obtain rfl : r = [] := by simpa using hr
      cases tk with
      | false =>
        clear TG
        go_enter Tryz.func20, Tryz.ntmps20
        go_wp2_with (first
          | (go_at_call 32; (with_reducible refine Calls.mono (TK.out _) ?_); rintro e w1 ⟨rfl, hb1⟩; have HBX := Lib.hid (Below.trans (show Below w.heap.size w _ by (have := HBX.out; (repeat (first | (with_reducible exact Below.refl _ _) | (with_reducible assumption) | (with_reducible refine Below.drew ?_) | (focus ((with_reducible refine Below.setCell ?_ ?_ _); rotate_left; (first | omega | (simp <;> omega)))) | (focus ((with_reducible refine Below.alloc ?_ ?_ _); rotate_left; (first | omega | (simp <;> omega)))) | exact Below.refl _ _ | assumption | refine Below.drew ?_ | refine Below.alloc ?_ (by first | omega | (simp <;> omega)) _ | refine Below.setCell ?_ (by first | omega | (simp <;> omega)) _)))) (hb1.mono (by (try simp only [World.size_alloc, World.size_drew]); omega))); obtain ⟨cc_hb1, ff_hb1⟩ := bk hb1 w.heap.size (by (try simp only [World.size_alloc, World.size_drew]); omega); have hz_hb1 := hb1.size; (try simp only [World.size_alloc, World.size_drew] at hz_hb1); clear hb1)
          | (go_at_call 33; (with_reducible refine Calls.mono (TG.out _) ?_); rintro e w2 ⟨rfl, hb2⟩; have HBX := Lib.hid (Below.trans (show Below w.heap.size w _ by (have := HBX.out; (repeat (first | (with_reducible exact Below.refl _ _) | (with_reducible assumption) | (with_reducible refine Below.drew ?_) | (focus ((with_reducible refine Below.setCell ?_ ?_ _); rotate_left; (first | omega | (simp <;> omega)))) | (focus ((with_reducible refine Below.alloc ?_ ?_ _); rotate_left; (first | omega | (simp <;> omega)))) | exact Below.refl _ _ | assumption | refine Below.drew ?_ | refine Below.alloc ?_ (by first | omega | (simp <;> omega)) _ | refine Below.setCell ?_ (by first | omega | (simp <;> omega)) _)))) (hb2.mono (by (try simp only [World.size_alloc, World.size_drew]); omega))); obtain ⟨cc_hb2, ff_hb2⟩ := bk hb2 w.heap.size (by (try simp only [World.size_alloc, World.size_drew]); omega); have hz_hb2 := hb2.size; (try simp only [World.size_alloc, World.size_drew] at hz_hb2); clear hb2)
          | fail)
        go_ret
        exact ⟨by first | rfl | (simp [*]; done), by (have := HBX.out; (repeat (first | (with_reducible exact Below.refl _ _) | (with_reducible assumption) | (with_reducible refine Below.drew ?_) | (focus ((with_reducible refine Below.setCell ?_ ?_ _); rotate_left; (first | omega | (simp <;> omega)))) | (focus ((with_reducible refine Below.alloc ?_ ?_ _); rotate_left; (first | omega | (simp <;> omega)))) | exact Below.refl _ _ | assumption | refine Below.drew ?_ | refine Below.alloc ?_ (by first | omega | (simp <;> omega)) _ | refine Below.setCell ?_ (by first | omega | (simp <;> omega)) _)))⟩
      | true =>
        by_cases hm : m.length ≤ 20
        · have hmi : (m.length : Int) ≤ 20 := by omega
          rw [decide_eq_true hm]
          clear hm
          cases tg with
          | false =>
            go_enter Tryz.func20, Tryz.ntmps20
            go_wp2_with (first
              | (go_at_call 32; (with_reducible refine Calls.mono (TK.out _) ?_); rintro e w1 ⟨rfl, hb1⟩; have HBX := Lib.hid (Below.trans (show Below w.heap.size w _ by (have := HBX.out; (repeat (first | (with_reducible exact Below.refl _ _) | (with_reducible assumption) | (with_reducible refine Below.drew ?_) | (focus ((with_reducible refine Below.setCell ?_ ?_ _); rotate_left; (first | omega | (simp <;> omega)))) | (focus ((with_reducible refine Below.alloc ?_ ?_ _); rotate_left; (first | omega | (simp <;> omega)))) | exact Below.refl _ _ | assumption | refine Below.drew ?_ | refine Below.alloc ?_ (by first | omega | (simp <;> omega)) _ | refine Below.setCell ?_ (by first | omega | (simp <;> omega)) _)))) (hb1.mono (by (try simp only [World.size_alloc, World.size_drew]); omega))); obtain ⟨cc_hb1, ff_hb1⟩ := bk hb1 w.heap.size (by (try simp only [World.size_alloc, World.size_drew]); omega); have hz_hb1 := hb1.size; (try simp only [World.size_alloc, World.size_drew] at hz_hb1); clear hb1)
              | (go_at_call 33; (with_reducible refine Calls.mono (TG.out _) ?_); rintro e w2 ⟨rfl, hb2⟩; have HBX := Lib.hid (Below.trans (show Below w.heap.size w _ by (have := HBX.out; (repeat (first | (with_reducible exact Below.refl _ _) | (with_reducible assumption) | (with_reducible refine Below.drew ?_) | (focus ((with_reducible refine Below.setCell ?_ ?_ _); rotate_left; (first | omega | (simp <;> omega)))) | (focus ((with_reducible refine Below.alloc ?_ ?_ _); rotate_left; (first | omega | (simp <;> omega)))) | exact Below.refl _ _ | assumption | refine Below.drew ?_ | refine Below.alloc ?_ (by first | omega | (simp <;> omega)) _ | refine Below.setCell ?_ (by first | omega | (simp <;> omega)) _)))) (hb2.mono (by (try simp only [World.size_alloc, World.size_drew]); omega))); obtain ⟨cc_hb2, ff_hb2⟩ := bk hb2 w.heap.size (by (try simp only [World.size_alloc, World.size_drew]); omega); have hz_hb2 := hb2.size; (try simp only [World.size_alloc, World.size_drew] at hz_hb2); clear hb2)
              | fail)
            go_ret
            exact ⟨by first | rfl | (simp [*]; done), by (have := HBX.out; (repeat (first | (with_reducible exact Below.refl _ _) | (with_reducible assumption) | (with_reducible refine Below.drew ?_) | (focus ((with_reducible refine Below.setCell ?_ ?_ _); rotate_left; (first | omega | (simp <;> omega)))) | (focus ((with_reducible refine Below.alloc ?_ ?_ _); rotate_left; (first | omega | (simp <;> omega)))) | exact Below.refl _ _ | assumption | refine Below.drew ?_ | refine Below.alloc ?_ (by first | omega | (simp <;> omega)) _ | refine Below.setCell ?_ (by first | omega | (simp <;> omega)) _)))⟩
          | true =>
            go_enter Tryz.func20, Tryz.ntmps20
            go_wp2_with (first
              | (go_at_call 32; (with_reducible refine Calls.mono (TK.out _) ?_); rintro e w1 ⟨rfl, hb1⟩; have HBX := Lib.hid (Below.trans (show Below w.heap.size w _ by (have := HBX.out; (repeat (first | (with_reducible exact Below.refl _ _) | (with_reducible assumption) | (with_reducible refine Below.drew ?_) | (focus ((with_reducible refine Below.setCell ?_ ?_ _); rotate_left; (first | omega | (simp <;> omega)))) | (focus ((with_reducible refine Below.alloc ?_ ?_ _); rotate_left; (first | omega | (simp <;> omega)))) | exact Below.refl _ _ | assumption | refine Below.drew ?_ | refine Below.alloc ?_ (by first | omega | (simp <;> omega)) _ | refine Below.setCell ?_ (by first | omega | (simp <;> omega)) _)))) (hb1.mono (by (try simp only [World.size_alloc, World.size_drew]); omega))); obtain ⟨cc_hb1, ff_hb1⟩ := bk hb1 w.heap.size (by (try simp only [World.size_alloc, World.size_drew]); omega); have hz_hb1 := hb1.size; (try simp only [World.size_alloc, World.size_drew] at hz_hb1); clear hb1)
              | (go_at_call 33; (with_reducible refine Calls.mono (TG.out _) ?_); rintro e w2 ⟨rfl, hb2⟩; have HBX := Lib.hid (Below.trans (show Below w.heap.size w _ by (have := HBX.out; (repeat (first | (with_reducible exact Below.refl _ _) | (with_reducible assumption) | (with_reducible refine Below.drew ?_) | (focus ((with_reducible refine Below.setCell ?_ ?_ _); rotate_left; (first | omega | (simp <;> omega)))) | (focus ((with_reducible refine Below.alloc ?_ ?_ _); rotate_left; (first | omega | (simp <;> omega)))) | exact Below.refl _ _ | assumption | refine Below.drew ?_ | refine Below.alloc ?_ (by first | omega | (simp <;> omega)) _ | refine Below.setCell ?_ (by first | omega | (simp <;> omega)) _)))) (hb2.mono (by (try simp only [World.size_alloc, World.size_drew]); omega))); obtain ⟨cc_hb2, ff_hb2⟩ := bk hb2 w.heap.size (by (try simp only [World.size_alloc, World.size_drew]); omega); have hz_hb2 := hb2.size; (try simp only [World.size_alloc, World.size_drew] at hz_hb2); clear hb2)
              | fail)
            go_ret
            exact ⟨by first | rfl | (simp [*]; done), by (have := HBX.out; (repeat (first | (with_reducible exact Below.refl _ _) | (with_reducible assumption) | (with_reducible refine Below.drew ?_) | (focus ((with_reducible refine Below.setCell ?_ ?_ _); rotate_left; (first | omega | (simp <;> omega)))) | (focus ((with_reducible refine Below.alloc ?_ ?_ _); rotate_left; (first | omega | (simp <;> omega)))) | exact Below.refl _ _ | assumption | refine Below.drew ?_ | refine Below.alloc ?_ (by first | omega | (simp <;> omega)) _ | refine Below.setCell ?_ (by first | omega | (simp <;> omega)) _)))⟩
        · have hmi : ¬ (m.length : Int) ≤ 20 := by omega
          rw [decide_eq_false hm]
          clear hm TG
          go_enter Tryz.func20, Tryz.ntmps20
          go_wp2_with (first
            | (go_at_call 32; (with_reducible refine Calls.mono (TK.out _) ?_); rintro e w1 ⟨rfl, hb1⟩; have HBX := Lib.hid (Below.trans (show Below w.heap.size w _ by (have := HBX.out; (repeat (first | (with_reducible exact Below.refl _ _) | (with_reducible assumption) | (with_reducible refine Below.drew ?_) | (focus ((with_reducible refine Below.setCell ?_ ?_ _); rotate_left; (first | omega | (simp <;> omega)))) | (focus ((with_reducible refine Below.alloc ?_ ?_ _); rotate_left; (first | omega | (simp <;> omega)))) | exact Below.refl _ _ | assumption | refine Below.drew ?_ | refine Below.alloc ?_ (by first | omega | (simp <;> omega)) _ | refine Below.setCell ?_ (by first | omega | (simp <;> omega)) _)))) (hb1.mono (by (try simp only [World.size_alloc, World.size_drew]); omega))); obtain ⟨cc_hb1, ff_hb1⟩ := bk hb1 w.heap.size (by (try simp only [World.size_alloc, World.size_drew]); omega); have hz_hb1 := hb1.size; (try simp only [World.size_alloc, World.size_drew] at hz_hb1); clear hb1)
            | (go_at_call 33; (with_reducible refine Calls.mono (TG.out _) ?_); rintro e w2 ⟨rfl, hb2⟩; have HBX := Lib.hid (Below.trans (show Below w.heap.size w _ by (have := HBX.out; (repeat (first | (with_reducible exact Below.refl _ _) | (with_reducible assumption) | (with_reducible refine Below.drew ?_) | (focus ((with_reducible refine Below.setCell ?_ ?_ _); rotate_left; (first | omega | (simp <;> omega)))) | (focus ((with_reducible refine Below.alloc ?_ ?_ _); rotate_left; (first | omega | (simp <;> omega)))) | exact Below.refl _ _ | assumption | refine Below.drew ?_ | refine Below.alloc ?_ (by first | omega | (simp <;> omega)) _ | refine Below.setCell ?_ (by first | omega | (simp <;> omega)) _)))) (hb2.mono (by (try simp only [World.size_alloc, World.size_drew]); omega))); obtain ⟨cc_hb2, ff_hb2⟩ := bk hb2 w.heap.size (by (try simp only [World.size_alloc, World.size_drew]); omega); have hz_hb2 := hb2.size; (try simp only [World.size_alloc, World.size_drew] at hz_hb2); clear hb2)
            | fail)
          go_ret
          exact ⟨by first | rfl | (simp [*]; done), by (have := HBX.out; (repeat (first | (with_reducible exact Below.refl _ _) | (with_reducible assumption) | (with_reducible refine Below.drew ?_) | (focus ((with_reducible refine Below.setCell ?_ ?_ _); rotate_left; (first | omega | (simp <;> omega)))) | (focus ((with_reducible refine Below.alloc ?_ ?_ _); rotate_left; (first | omega | (simp <;> omega)))) | exact Below.refl _ _ | assumption | refine Below.drew ?_ | refine Below.alloc ?_ (by first | omega | (simp <;> omega)) _ | refine Below.setCell ?_ (by first | omega | (simp <;> omega)) _)))⟩
end Go.Proofs.YtgjemgilanhdiaaGreatDoor
