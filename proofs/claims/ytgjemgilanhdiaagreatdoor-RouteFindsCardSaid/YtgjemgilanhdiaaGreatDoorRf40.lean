/- The document's bytes that no text has: the walk. First lines that may be, the document's: the walk of Right. Printed by tools/rtstartref.py. -/
import Derived.Test.YtgjemgilanhdiaaGreatDoorRf31
import Derived.Test.YtgjemgilanhdiaaGreatDoorRf2
import Derived.Test.YtgjemgilanhdiaaGreatDoorRf5
import Derived.Test.YtgjemgilanhdiaaGreatDoorRf32
import Derived.Test.YtgjemgilanhdiaaGreatDoorRf9
namespace Go.Proofs.YtgjemgilanhdiaaGreatDoor
open Go.RowKit Go.Sort Go.Shelf
set_option linter.unusedVariables false

set_option maxHeartbeats 800000 in
theorem refControl (c : UInt8) (w : World) : Calls Tryz.prog 44 #[.int .u8 (c.toNat : Int)] w fun e w' => e = .returned (.bool (ctlB c)) ∧ w' = w := by
  have hc256 := c.toNat_lt
  unfold ctlB
  obtain ⟨n, hn⟩ : ∃ n, c.toNat = n := ⟨_, rfl⟩
  rw [hn] at hc256 ⊢
  clear hn
  by_cases h1 : n < 32
  · by_cases h2 : n = 9
    · subst h2
      go_enter Tryz.func44, Tryz.ntmps44
      go_wp2
      go_ret
      exact ⟨rfl, rfl⟩
    · have e : ((decide (n < 32) && !decide (n = 9)) || decide (n = 127)) = true := by simp [h1, h2]
      rw [e]
      have h3 : ((n : Int) != 9) = true := by simp; omega
      clear e
      go_enter Tryz.func44, Tryz.ntmps44
      go_wp2
      go_ret
      exact ⟨rfl, rfl⟩
  · have e : ((decide (n < 32) && !decide (n = 9)) || decide (n = 127)) = decide (n = 127) := by simp [h1]
    rw [e]
    clear e
    have h1i : (32 : Int) ≤ n := by omega
    by_cases h2 : n = 127
    · subst h2
      go_enter Tryz.func44, Tryz.ntmps44
      go_wp2
      go_ret
      exact ⟨rfl, rfl⟩
    · have h3 : ((n : Int) == 127) = false := by simp; omega
      rw [decide_eq_false h2]
      go_enter Tryz.func44, Tryz.ntmps44
      go_wp2
      go_ret
      exact ⟨rfl, rfl⟩
end Go.Proofs.YtgjemgilanhdiaaGreatDoor
namespace Go.Proofs.YtgjemgilanhdiaaGreatDoor
open Go.RowKit Go.Sort Go.Shelf
set_option linter.unusedVariables false
set_option linter.unusedSimpArgs false

def targetD (t : List UInt8) : Bool := t == [42] || (((decide (0 < t.length) && decide (t.length ≤ 500)) && !t.any badU) && ((bAt t 0 == 47) || (decide (7 ≤ t.length) && (t.take 7 == httpL))))
theorem http_take (t : List UInt8) : Lib.hasPrefix t httpL = (decide (7 ≤ t.length) && (t.take 7 == httpL)) := by
  have h7 : httpL.length = 7 := rfl
  cases h : Lib.hasPrefix t httpL with
  | true =>
    have hp := List.isPrefixOf_iff_prefix.1 h
    have hl := hp.length_le
    have e := List.prefix_iff_eq_take.1 hp
    rw [h7] at e hl
    rw [← e]
    simp [hl]
  | false =>
    symm
    rw [Bool.and_eq_false_iff]
    by_cases hl : 7 ≤ t.length
    · right
      rw [beq_eq_false_iff_ne]
      intro e
      have hp : httpL <+: t := List.prefix_iff_eq_take.2 (by rw [h7]; exact e.symm)
      unfold Lib.hasPrefix at h
      rw [List.isPrefixOf_iff_prefix.2 hp] at h
      cases h
    · left; simpa using hl
theorem target_D (t : List UInt8) : targetL t = targetD t := by
  unfold targetL targetD
  rw [http_take]
  cases t with
  | nil => rfl
  | cons c r =>
    have e1 : Lib.hasPrefix (c :: r) [47] = (bAt (c :: r) 0 == 47) := by
      rw [bAt_eq (show 0 < (c :: r).length by simp)]
      unfold Lib.hasPrefix
      simp only [List.isPrefixOf, Bool.and_true, List.getElem_cons_zero]
      by_cases h : c = 47
      · subst h; rfl
      · have h2 : ¬ (c.toNat : Int) = 47 := fun e => h (UInt8.toNat.inj (by rw [show (47 : UInt8).toNat = 47 from rfl]; omega))
        have h3 : ((47 : UInt8) == c) = false := by rw [beq_eq_false_iff_ne]; exact fun e => h e.symm
        have h4 : ((c.toNat : Int) == 47) = false := by rw [beq_eq_false_iff_ne]; exact h2
        rw [h3, h4]
    rw [e1]
    have e2 : decide (0 < (c :: r).length) = true := by simp
    rw [e2]
    cases (bAt (c :: r) 0 == 47) <;> cases ((c :: r).any badU) <;> cases (decide (7 ≤ (c :: r).length) && List.take 7 (c :: r) == httpL) <;> simp

set_option maxHeartbeats 6400000 in
set_option maxRecDepth 100000 in
theorem refStart0 (s : St) (h1 : s.m.length ≤ 4611686018427387903) (h2 : s.t.length ≤ 4611686018427387903) (hc0 : s.c = 0) (w : World) :
    Calls Tryz.prog 23 #[.agg #[.string (S s.m), .string (S s.t), .int .i64 s.c, .string (S s.r), .int .i64 s.n]] w fun e w' => e = .returned (.bool (startOk s)) ∧ Below w.heap.size w w' := by
  have TK := Lib.hid (fun W => refToken s.m (by omega) W)
  have BY := Lib.hid (fun W => refBytes s.t (by omega) W)
  have i1 : (s.m.length : Int) ≤ 4611686018427387903 := by omega
  have i2 : (s.t.length : Int) ≤ 4611686018427387903 := by omega
  obtain ⟨m, t, c, r, n⟩ := s
  unfold startOk
  simp only at *
  subst hc0
  rw [if_pos rfl, target_D]
  obtain ⟨tk, htk⟩ : ∃ b, tokenL m = b := ⟨_, rfl⟩
  rw [htk] at TK ⊢
  obtain ⟨ab, hab⟩ : ∃ b, t.any badU = b := ⟨_, rfl⟩
  have HAB := Lib.hid hab
  rw [hab] at BY
  clear htk hab
  by_cases n0 : 0 ≤ n ∧ n ≤ 1
  rotate_left
  · rw [show (decide (n = 0) || decide (n = 1)) = false by simp; omega, Bool.false_and]
    by_cases nn : n < 0
    · go_enter Tryz.func23, Tryz.ntmps23
      go_wp2
      go_ret
      exact ⟨rfl, by (repeat (first | with_reducible exact Below.refl _ _ | with_reducible assumption | with_reducible refine Below.drew ?_ | (with_reducible refine Below.setCell ?_ ?_ _; rotate_left; (first | omega | (simp <;> omega))) | (with_reducible refine Below.alloc ?_ ?_ _; rotate_left; (first | omega | (simp <;> omega))) | exact Below.refl _ _ | assumption))⟩
    · have n1 : 1 < n := by omega
      go_enter Tryz.func23, Tryz.ntmps23
      go_wp2
      go_ret
      exact ⟨rfl, by (repeat (first | with_reducible exact Below.refl _ _ | with_reducible assumption | with_reducible refine Below.drew ?_ | (with_reducible refine Below.setCell ?_ ?_ _; rotate_left; (first | omega | (simp <;> omega))) | (with_reducible refine Below.alloc ?_ ?_ _; rotate_left; (first | omega | (simp <;> omega))) | exact Below.refl _ _ | assumption))⟩
  obtain ⟨n1, n2⟩ := n0
  rw [show (decide (n = 0) || decide (n = 1)) = true by simp; omega, Bool.true_and]
  obtain ⟨R, hR⟩ : ∃ x, (r.isEmpty && tk && decide (m.length ≤ 20) && targetD t) = x := ⟨_, rfl⟩
  rw [hR]
  have HR := Lib.hid hR
  clear hR h1 h2
  cases hr : r.isEmpty with
  | false =>
    have hrb : (r == []) = false := by cases r with | nil => simp at hr | cons a b => rfl
    clear TK
    by_cases h42 : t = [42]
    · subst h42
      have q1 : (([42] : List UInt8) == [42]) = true := rfl
      obtain rfl : R = false := by
        have h := HR.out
        unfold targetD at h
        simp only [hr, Bool.false_and, q1, Bool.true_or] at h
        first | exact h.symm | simpa using h.symm
      clear HR
      go_enter Tryz.func23, Tryz.ntmps23
      go_wp2_with (first
        | (go_at_call 47; (with_reducible refine Calls.mono (TK.out _) ?_); rintro e w' ⟨rfl, hw'⟩; obtain rfl := hw'.symm)
        | (go_at_call 46; (with_reducible refine Calls.mono (BY.out _) ?_); rintro e w' ⟨rfl, hw'⟩; obtain rfl := hw'.symm)
        | fail)
      go_ret
      exact ⟨by first | rfl | (simp; done) | (simp; omega), by (repeat (first | with_reducible exact Below.refl _ _ | with_reducible assumption | with_reducible refine Below.drew ?_ | (with_reducible refine Below.setCell ?_ ?_ _; rotate_left; (first | omega | (simp <;> omega))) | (with_reducible refine Below.alloc ?_ ?_ _; rotate_left; (first | omega | (simp <;> omega))) | exact Below.refl _ _ | assumption))⟩
    · have q1 : (t == [42]) = false := by simpa using h42
      clear h42
      by_cases h0 : t = []
      · subst h0
        have z0 : decide (0 < ([] : List UInt8).length) = false := rfl
        obtain rfl : R = false := by
          have h := HR.out
          unfold targetD at h
          simp only [hr, Bool.false_and, q1, z0, Bool.false_and, Bool.or_false] at h
          first | exact h.symm | simpa using h.symm
        clear HR
        go_enter Tryz.func23, Tryz.ntmps23
        go_wp2_with (first
          | (go_at_call 47; (with_reducible refine Calls.mono (TK.out _) ?_); rintro e w' ⟨rfl, hw'⟩; obtain rfl := hw'.symm)
          | (go_at_call 46; (with_reducible refine Calls.mono (BY.out _) ?_); rintro e w' ⟨rfl, hw'⟩; obtain rfl := hw'.symm)
          | fail)
        go_ret
        exact ⟨by first | rfl | (simp; done) | (simp; omega), by (repeat (first | with_reducible exact Below.refl _ _ | with_reducible assumption | with_reducible refine Below.drew ?_ | (with_reducible refine Below.setCell ?_ ?_ _; rotate_left; (first | omega | (simp <;> omega))) | (with_reducible refine Below.alloc ?_ ?_ _; rotate_left; (first | omega | (simp <;> omega))) | exact Below.refl _ _ | assumption))⟩
      · have hl0 : 0 < t.length := List.length_pos_iff.2 h0
        have hl0i : 0 < (t.length : Int) := by omega
        have z0 : decide (0 < t.length) = true := decide_eq_true hl0
        clear h0
        by_cases h5 : t.length ≤ 500
        rotate_left
        · have h5i : ¬ (t.length : Int) ≤ 500 := by omega
          have z1 : decide (t.length ≤ 500) = false := decide_eq_false h5
          clear h5
          obtain rfl : R = false := by
            have h := HR.out
            unfold targetD at h
            simp only [hr, Bool.false_and, q1, z0, z1, Bool.true_and, Bool.and_false, Bool.false_and, Bool.or_false] at h
            first | exact h.symm | simpa using h.symm
          clear HR
          go_enter Tryz.func23, Tryz.ntmps23
          go_wp2_with (first
            | (go_at_call 47; (with_reducible refine Calls.mono (TK.out _) ?_); rintro e w' ⟨rfl, hw'⟩; obtain rfl := hw'.symm)
            | (go_at_call 46; (with_reducible refine Calls.mono (BY.out _) ?_); rintro e w' ⟨rfl, hw'⟩; obtain rfl := hw'.symm)
            | fail)
          go_ret
          exact ⟨by first | rfl | (simp; done) | (simp; omega), by (repeat (first | with_reducible exact Below.refl _ _ | with_reducible assumption | with_reducible refine Below.drew ?_ | (with_reducible refine Below.setCell ?_ ?_ _; rotate_left; (first | omega | (simp <;> omega))) | (with_reducible refine Below.alloc ?_ ?_ _; rotate_left; (first | omega | (simp <;> omega))) | exact Below.refl _ _ | assumption))⟩
        have h5i : (t.length : Int) ≤ 500 := by omega
        have z1 : decide (t.length ≤ 500) = true := decide_eq_true h5
        clear h5
        have hab := HAB.out
        cases ab with
        | true =>
          obtain rfl : R = false := by
            have h := HR.out
            unfold targetD at h
            simp only [hr, Bool.false_and, q1, z0, z1, hab, Bool.not_true, Bool.true_and, Bool.and_false, Bool.false_and, Bool.or_false] at h
            first | exact h.symm | simpa using h.symm
          clear HR
          go_enter Tryz.func23, Tryz.ntmps23
          go_wp2_with (first
            | (go_at_call 47; (with_reducible refine Calls.mono (TK.out _) ?_); rintro e w' ⟨rfl, hw'⟩; obtain rfl := hw'.symm)
            | (go_at_call 46; (with_reducible refine Calls.mono (BY.out _) ?_); rintro e w' ⟨rfl, hw'⟩; obtain rfl := hw'.symm)
            | fail)
          go_ret
          exact ⟨by first | rfl | (simp; done) | (simp; omega), by (repeat (first | with_reducible exact Below.refl _ _ | with_reducible assumption | with_reducible refine Below.drew ?_ | (with_reducible refine Below.setCell ?_ ?_ _; rotate_left; (first | omega | (simp <;> omega))) | (with_reducible refine Below.alloc ?_ ?_ _; rotate_left; (first | omega | (simp <;> omega))) | exact Below.refl _ _ | assumption))⟩
        | false =>
          cases hb0 : (bAt t 0 == 47) with
          | true =>
            obtain rfl : R = false := by
              have h := HR.out
              unfold targetD at h
              simp only [hr, Bool.false_and, q1, z0, z1, hab, hb0, Bool.not_false, Bool.true_and, Bool.and_true, Bool.true_or, Bool.false_or] at h
              first | exact h.symm | simpa using h.symm
            clear HR
            go_enter Tryz.func23, Tryz.ntmps23
            go_wp2_with (first
              | (go_at_call 47; (with_reducible refine Calls.mono (TK.out _) ?_); rintro e w' ⟨rfl, hw'⟩; obtain rfl := hw'.symm)
              | (go_at_call 46; (with_reducible refine Calls.mono (BY.out _) ?_); rintro e w' ⟨rfl, hw'⟩; obtain rfl := hw'.symm)
              | fail)
            go_ret
            exact ⟨by first | rfl | (simp; done) | (simp; omega), by (repeat (first | with_reducible exact Below.refl _ _ | with_reducible assumption | with_reducible refine Below.drew ?_ | (with_reducible refine Below.setCell ?_ ?_ _; rotate_left; (first | omega | (simp <;> omega))) | (with_reducible refine Below.alloc ?_ ?_ _; rotate_left; (first | omega | (simp <;> omega))) | exact Below.refl _ _ | assumption))⟩
          | false =>
            by_cases h7 : 7 ≤ t.length
            rotate_left
            · have h7i : ¬ 7 ≤ (t.length : Int) := by omega
              have z2 : decide (7 ≤ t.length) = false := decide_eq_false h7
              clear h7
              obtain rfl : R = false := by
                have h := HR.out
                unfold targetD at h
                simp only [hr, Bool.false_and, q1, z0, z1, hab, hb0, z2, Bool.not_false, Bool.true_and, Bool.and_true, Bool.false_and, Bool.or_false, Bool.false_or, Bool.and_false] at h
                first | exact h.symm | simpa using h.symm
              clear HR
              go_enter Tryz.func23, Tryz.ntmps23
              go_wp2_with (first
                | (go_at_call 47; (with_reducible refine Calls.mono (TK.out _) ?_); rintro e w' ⟨rfl, hw'⟩; obtain rfl := hw'.symm)
                | (go_at_call 46; (with_reducible refine Calls.mono (BY.out _) ?_); rintro e w' ⟨rfl, hw'⟩; obtain rfl := hw'.symm)
                | fail)
              go_ret
              exact ⟨by first | rfl | (simp; done) | (simp; omega), by (repeat (first | with_reducible exact Below.refl _ _ | with_reducible assumption | with_reducible refine Below.drew ?_ | (with_reducible refine Below.setCell ?_ ?_ _; rotate_left; (first | omega | (simp <;> omega))) | (with_reducible refine Below.alloc ?_ ?_ _; rotate_left; (first | omega | (simp <;> omega))) | exact Below.refl _ _ | assumption))⟩
            have h7i : 7 ≤ (t.length : Int) := by omega
            have z2 : decide (7 ≤ t.length) = true := decide_eq_true h7
            clear h7
            cases ht7 : (t.take 7 == httpL) with
            | true =>
              have ht8 := ht7
              unfold httpL at ht8
              obtain rfl : R = false := by
                have h := HR.out
                unfold targetD at h
                simp only [hr, Bool.false_and, q1, z0, z1, hab, hb0, z2, ht7, Bool.not_false, Bool.true_and, Bool.and_true, Bool.false_or, Bool.true_or] at h
                first | exact h.symm | simpa using h.symm
              clear HR ht7
              go_enter Tryz.func23, Tryz.ntmps23
              go_wp2_with (first
                | (go_at_call 47; (with_reducible refine Calls.mono (TK.out _) ?_); rintro e w' ⟨rfl, hw'⟩; obtain rfl := hw'.symm)
                | (go_at_call 46; (with_reducible refine Calls.mono (BY.out _) ?_); rintro e w' ⟨rfl, hw'⟩; obtain rfl := hw'.symm)
                | fail)
              go_ret
              exact ⟨by first | rfl | (simp; done) | (simp; omega), by (repeat (first | with_reducible exact Below.refl _ _ | with_reducible assumption | with_reducible refine Below.drew ?_ | (with_reducible refine Below.setCell ?_ ?_ _; rotate_left; (first | omega | (simp <;> omega))) | (with_reducible refine Below.alloc ?_ ?_ _; rotate_left; (first | omega | (simp <;> omega))) | exact Below.refl _ _ | assumption))⟩
            | false =>
              have ht8 := ht7
              unfold httpL at ht8
              obtain rfl : R = false := by
                have h := HR.out
                unfold targetD at h
                simp only [hr, Bool.false_and, q1, z0, z1, hab, hb0, z2, ht7, Bool.not_false, Bool.true_and, Bool.and_true, Bool.false_and, Bool.or_false, Bool.false_or, Bool.and_false] at h
                first | exact h.symm | simpa using h.symm
              clear HR ht7
              go_enter Tryz.func23, Tryz.ntmps23
              go_wp2_with (first
                | (go_at_call 47; (with_reducible refine Calls.mono (TK.out _) ?_); rintro e w' ⟨rfl, hw'⟩; obtain rfl := hw'.symm)
                | (go_at_call 46; (with_reducible refine Calls.mono (BY.out _) ?_); rintro e w' ⟨rfl, hw'⟩; obtain rfl := hw'.symm)
                | fail)
              go_ret
              exact ⟨by first | rfl | (simp; done) | (simp; omega), by (repeat (first | with_reducible exact Below.refl _ _ | with_reducible assumption | with_reducible refine Below.drew ?_ | (with_reducible refine Below.setCell ?_ ?_ _; rotate_left; (first | omega | (simp <;> omega))) | (with_reducible refine Below.alloc ?_ ?_ _; rotate_left; (first | omega | (simp <;> omega))) | exact Below.refl _ _ | assumption))⟩
  | true =>
    obtain rfl : r = [] := by simpa using hr
    cases tk with
    | false =>
      by_cases h42 : t = [42]
      · subst h42
        have q1 : (([42] : List UInt8) == [42]) = true := rfl
        obtain rfl : R = false := by
          have h := HR.out
          unfold targetD at h
          simp only [hr, Bool.and_false, Bool.false_and, q1, Bool.true_or] at h
          first | exact h.symm | simpa using h.symm
        clear HR
        go_enter Tryz.func23, Tryz.ntmps23
        go_wp2_with (first
          | (go_at_call 47; (with_reducible refine Calls.mono (TK.out _) ?_); rintro e w' ⟨rfl, hw'⟩; obtain rfl := hw'.symm)
          | (go_at_call 46; (with_reducible refine Calls.mono (BY.out _) ?_); rintro e w' ⟨rfl, hw'⟩; obtain rfl := hw'.symm)
          | fail)
        go_ret
        exact ⟨by first | rfl | (simp; done) | (simp; omega), by (repeat (first | with_reducible exact Below.refl _ _ | with_reducible assumption | with_reducible refine Below.drew ?_ | (with_reducible refine Below.setCell ?_ ?_ _; rotate_left; (first | omega | (simp <;> omega))) | (with_reducible refine Below.alloc ?_ ?_ _; rotate_left; (first | omega | (simp <;> omega))) | exact Below.refl _ _ | assumption))⟩
      · have q1 : (t == [42]) = false := by simpa using h42
        clear h42
        by_cases h0 : t = []
        · subst h0
          have z0 : decide (0 < ([] : List UInt8).length) = false := rfl
          obtain rfl : R = false := by
            have h := HR.out
            unfold targetD at h
            simp only [hr, Bool.and_false, Bool.false_and, q1, z0, Bool.false_and, Bool.or_false] at h
            first | exact h.symm | simpa using h.symm
          clear HR
          go_enter Tryz.func23, Tryz.ntmps23
          go_wp2_with (first
            | (go_at_call 47; (with_reducible refine Calls.mono (TK.out _) ?_); rintro e w' ⟨rfl, hw'⟩; obtain rfl := hw'.symm)
            | (go_at_call 46; (with_reducible refine Calls.mono (BY.out _) ?_); rintro e w' ⟨rfl, hw'⟩; obtain rfl := hw'.symm)
            | fail)
          go_ret
          exact ⟨by first | rfl | (simp; done) | (simp; omega), by (repeat (first | with_reducible exact Below.refl _ _ | with_reducible assumption | with_reducible refine Below.drew ?_ | (with_reducible refine Below.setCell ?_ ?_ _; rotate_left; (first | omega | (simp <;> omega))) | (with_reducible refine Below.alloc ?_ ?_ _; rotate_left; (first | omega | (simp <;> omega))) | exact Below.refl _ _ | assumption))⟩
        · have hl0 : 0 < t.length := List.length_pos_iff.2 h0
          have hl0i : 0 < (t.length : Int) := by omega
          have z0 : decide (0 < t.length) = true := decide_eq_true hl0
          clear h0
          by_cases h5 : t.length ≤ 500
          rotate_left
          · have h5i : ¬ (t.length : Int) ≤ 500 := by omega
            have z1 : decide (t.length ≤ 500) = false := decide_eq_false h5
            clear h5
            obtain rfl : R = false := by
              have h := HR.out
              unfold targetD at h
              simp only [hr, Bool.and_false, Bool.false_and, q1, z0, z1, Bool.true_and, Bool.and_false, Bool.false_and, Bool.or_false] at h
              first | exact h.symm | simpa using h.symm
            clear HR
            go_enter Tryz.func23, Tryz.ntmps23
            go_wp2_with (first
              | (go_at_call 47; (with_reducible refine Calls.mono (TK.out _) ?_); rintro e w' ⟨rfl, hw'⟩; obtain rfl := hw'.symm)
              | (go_at_call 46; (with_reducible refine Calls.mono (BY.out _) ?_); rintro e w' ⟨rfl, hw'⟩; obtain rfl := hw'.symm)
              | fail)
            go_ret
            exact ⟨by first | rfl | (simp; done) | (simp; omega), by (repeat (first | with_reducible exact Below.refl _ _ | with_reducible assumption | with_reducible refine Below.drew ?_ | (with_reducible refine Below.setCell ?_ ?_ _; rotate_left; (first | omega | (simp <;> omega))) | (with_reducible refine Below.alloc ?_ ?_ _; rotate_left; (first | omega | (simp <;> omega))) | exact Below.refl _ _ | assumption))⟩
          have h5i : (t.length : Int) ≤ 500 := by omega
          have z1 : decide (t.length ≤ 500) = true := decide_eq_true h5
          clear h5
          have hab := HAB.out
          cases ab with
          | true =>
            obtain rfl : R = false := by
              have h := HR.out
              unfold targetD at h
              simp only [hr, Bool.and_false, Bool.false_and, q1, z0, z1, hab, Bool.not_true, Bool.true_and, Bool.and_false, Bool.false_and, Bool.or_false] at h
              first | exact h.symm | simpa using h.symm
            clear HR
            go_enter Tryz.func23, Tryz.ntmps23
            go_wp2_with (first
              | (go_at_call 47; (with_reducible refine Calls.mono (TK.out _) ?_); rintro e w' ⟨rfl, hw'⟩; obtain rfl := hw'.symm)
              | (go_at_call 46; (with_reducible refine Calls.mono (BY.out _) ?_); rintro e w' ⟨rfl, hw'⟩; obtain rfl := hw'.symm)
              | fail)
            go_ret
            exact ⟨by first | rfl | (simp; done) | (simp; omega), by (repeat (first | with_reducible exact Below.refl _ _ | with_reducible assumption | with_reducible refine Below.drew ?_ | (with_reducible refine Below.setCell ?_ ?_ _; rotate_left; (first | omega | (simp <;> omega))) | (with_reducible refine Below.alloc ?_ ?_ _; rotate_left; (first | omega | (simp <;> omega))) | exact Below.refl _ _ | assumption))⟩
          | false =>
            cases hb0 : (bAt t 0 == 47) with
            | true =>
              obtain rfl : R = false := by
                have h := HR.out
                unfold targetD at h
                simp only [hr, Bool.and_false, Bool.false_and, q1, z0, z1, hab, hb0, Bool.not_false, Bool.true_and, Bool.and_true, Bool.true_or, Bool.false_or] at h
                first | exact h.symm | simpa using h.symm
              clear HR
              go_enter Tryz.func23, Tryz.ntmps23
              go_wp2_with (first
                | (go_at_call 47; (with_reducible refine Calls.mono (TK.out _) ?_); rintro e w' ⟨rfl, hw'⟩; obtain rfl := hw'.symm)
                | (go_at_call 46; (with_reducible refine Calls.mono (BY.out _) ?_); rintro e w' ⟨rfl, hw'⟩; obtain rfl := hw'.symm)
                | fail)
              go_ret
              exact ⟨by first | rfl | (simp; done) | (simp; omega), by (repeat (first | with_reducible exact Below.refl _ _ | with_reducible assumption | with_reducible refine Below.drew ?_ | (with_reducible refine Below.setCell ?_ ?_ _; rotate_left; (first | omega | (simp <;> omega))) | (with_reducible refine Below.alloc ?_ ?_ _; rotate_left; (first | omega | (simp <;> omega))) | exact Below.refl _ _ | assumption))⟩
            | false =>
              by_cases h7 : 7 ≤ t.length
              rotate_left
              · have h7i : ¬ 7 ≤ (t.length : Int) := by omega
                have z2 : decide (7 ≤ t.length) = false := decide_eq_false h7
                clear h7
                obtain rfl : R = false := by
                  have h := HR.out
                  unfold targetD at h
                  simp only [hr, Bool.and_false, Bool.false_and, q1, z0, z1, hab, hb0, z2, Bool.not_false, Bool.true_and, Bool.and_true, Bool.false_and, Bool.or_false, Bool.false_or, Bool.and_false] at h
                  first | exact h.symm | simpa using h.symm
                clear HR
                go_enter Tryz.func23, Tryz.ntmps23
                go_wp2_with (first
                  | (go_at_call 47; (with_reducible refine Calls.mono (TK.out _) ?_); rintro e w' ⟨rfl, hw'⟩; obtain rfl := hw'.symm)
                  | (go_at_call 46; (with_reducible refine Calls.mono (BY.out _) ?_); rintro e w' ⟨rfl, hw'⟩; obtain rfl := hw'.symm)
                  | fail)
                go_ret
                exact ⟨by first | rfl | (simp; done) | (simp; omega), by (repeat (first | with_reducible exact Below.refl _ _ | with_reducible assumption | with_reducible refine Below.drew ?_ | (with_reducible refine Below.setCell ?_ ?_ _; rotate_left; (first | omega | (simp <;> omega))) | (with_reducible refine Below.alloc ?_ ?_ _; rotate_left; (first | omega | (simp <;> omega))) | exact Below.refl _ _ | assumption))⟩
              have h7i : 7 ≤ (t.length : Int) := by omega
              have z2 : decide (7 ≤ t.length) = true := decide_eq_true h7
              clear h7
              cases ht7 : (t.take 7 == httpL) with
              | true =>
                have ht8 := ht7
                unfold httpL at ht8
                obtain rfl : R = false := by
                  have h := HR.out
                  unfold targetD at h
                  simp only [hr, Bool.and_false, Bool.false_and, q1, z0, z1, hab, hb0, z2, ht7, Bool.not_false, Bool.true_and, Bool.and_true, Bool.false_or, Bool.true_or] at h
                  first | exact h.symm | simpa using h.symm
                clear HR ht7
                go_enter Tryz.func23, Tryz.ntmps23
                go_wp2_with (first
                  | (go_at_call 47; (with_reducible refine Calls.mono (TK.out _) ?_); rintro e w' ⟨rfl, hw'⟩; obtain rfl := hw'.symm)
                  | (go_at_call 46; (with_reducible refine Calls.mono (BY.out _) ?_); rintro e w' ⟨rfl, hw'⟩; obtain rfl := hw'.symm)
                  | fail)
                go_ret
                exact ⟨by first | rfl | (simp; done) | (simp; omega), by (repeat (first | with_reducible exact Below.refl _ _ | with_reducible assumption | with_reducible refine Below.drew ?_ | (with_reducible refine Below.setCell ?_ ?_ _; rotate_left; (first | omega | (simp <;> omega))) | (with_reducible refine Below.alloc ?_ ?_ _; rotate_left; (first | omega | (simp <;> omega))) | exact Below.refl _ _ | assumption))⟩
              | false =>
                have ht8 := ht7
                unfold httpL at ht8
                obtain rfl : R = false := by
                  have h := HR.out
                  unfold targetD at h
                  simp only [hr, Bool.and_false, Bool.false_and, q1, z0, z1, hab, hb0, z2, ht7, Bool.not_false, Bool.true_and, Bool.and_true, Bool.false_and, Bool.or_false, Bool.false_or, Bool.and_false] at h
                  first | exact h.symm | simpa using h.symm
                clear HR ht7
                go_enter Tryz.func23, Tryz.ntmps23
                go_wp2_with (first
                  | (go_at_call 47; (with_reducible refine Calls.mono (TK.out _) ?_); rintro e w' ⟨rfl, hw'⟩; obtain rfl := hw'.symm)
                  | (go_at_call 46; (with_reducible refine Calls.mono (BY.out _) ?_); rintro e w' ⟨rfl, hw'⟩; obtain rfl := hw'.symm)
                  | fail)
                go_ret
                exact ⟨by first | rfl | (simp; done) | (simp; omega), by (repeat (first | with_reducible exact Below.refl _ _ | with_reducible assumption | with_reducible refine Below.drew ?_ | (with_reducible refine Below.setCell ?_ ?_ _; rotate_left; (first | omega | (simp <;> omega))) | (with_reducible refine Below.alloc ?_ ?_ _; rotate_left; (first | omega | (simp <;> omega))) | exact Below.refl _ _ | assumption))⟩
    | true =>
      by_cases hm : m.length ≤ 20
      · have hmi : (m.length : Int) ≤ 20 := by omega
        have zm : decide (m.length ≤ 20) = true := decide_eq_true hm
        clear hm
        by_cases h42 : t = [42]
        · subst h42
          have q1 : (([42] : List UInt8) == [42]) = true := rfl
          obtain rfl : R = true := by
            have h := HR.out
            unfold targetD at h
            simp only [hr, zm, Bool.and_true, Bool.true_and, q1, Bool.true_or] at h
            first | exact h.symm | simpa using h.symm
          clear HR
          go_enter Tryz.func23, Tryz.ntmps23
          go_wp2_with (first
            | (go_at_call 47; (with_reducible refine Calls.mono (TK.out _) ?_); rintro e w' ⟨rfl, hw'⟩; obtain rfl := hw'.symm)
            | (go_at_call 46; (with_reducible refine Calls.mono (BY.out _) ?_); rintro e w' ⟨rfl, hw'⟩; obtain rfl := hw'.symm)
            | fail)
          go_ret
          exact ⟨by first | rfl | (simp; done) | (simp; omega), by (repeat (first | with_reducible exact Below.refl _ _ | with_reducible assumption | with_reducible refine Below.drew ?_ | (with_reducible refine Below.setCell ?_ ?_ _; rotate_left; (first | omega | (simp <;> omega))) | (with_reducible refine Below.alloc ?_ ?_ _; rotate_left; (first | omega | (simp <;> omega))) | exact Below.refl _ _ | assumption))⟩
        · have q1 : (t == [42]) = false := by simpa using h42
          clear h42
          by_cases h0 : t = []
          · subst h0
            have z0 : decide (0 < ([] : List UInt8).length) = false := rfl
            obtain rfl : R = false := by
              have h := HR.out
              unfold targetD at h
              simp only [hr, zm, Bool.and_true, Bool.true_and, q1, z0, Bool.false_and, Bool.or_false] at h
              first | exact h.symm | simpa using h.symm
            clear HR
            go_enter Tryz.func23, Tryz.ntmps23
            go_wp2_with (first
              | (go_at_call 47; (with_reducible refine Calls.mono (TK.out _) ?_); rintro e w' ⟨rfl, hw'⟩; obtain rfl := hw'.symm)
              | (go_at_call 46; (with_reducible refine Calls.mono (BY.out _) ?_); rintro e w' ⟨rfl, hw'⟩; obtain rfl := hw'.symm)
              | fail)
            go_ret
            exact ⟨by first | rfl | (simp; done) | (simp; omega), by (repeat (first | with_reducible exact Below.refl _ _ | with_reducible assumption | with_reducible refine Below.drew ?_ | (with_reducible refine Below.setCell ?_ ?_ _; rotate_left; (first | omega | (simp <;> omega))) | (with_reducible refine Below.alloc ?_ ?_ _; rotate_left; (first | omega | (simp <;> omega))) | exact Below.refl _ _ | assumption))⟩
          · have hl0 : 0 < t.length := List.length_pos_iff.2 h0
            have hl0i : 0 < (t.length : Int) := by omega
            have z0 : decide (0 < t.length) = true := decide_eq_true hl0
            clear h0
            by_cases h5 : t.length ≤ 500
            rotate_left
            · have h5i : ¬ (t.length : Int) ≤ 500 := by omega
              have z1 : decide (t.length ≤ 500) = false := decide_eq_false h5
              clear h5
              obtain rfl : R = false := by
                have h := HR.out
                unfold targetD at h
                simp only [hr, zm, Bool.and_true, Bool.true_and, q1, z0, z1, Bool.true_and, Bool.and_false, Bool.false_and, Bool.or_false] at h
                first | exact h.symm | simpa using h.symm
              clear HR
              go_enter Tryz.func23, Tryz.ntmps23
              go_wp2_with (first
                | (go_at_call 47; (with_reducible refine Calls.mono (TK.out _) ?_); rintro e w' ⟨rfl, hw'⟩; obtain rfl := hw'.symm)
                | (go_at_call 46; (with_reducible refine Calls.mono (BY.out _) ?_); rintro e w' ⟨rfl, hw'⟩; obtain rfl := hw'.symm)
                | fail)
              go_ret
              exact ⟨by first | rfl | (simp; done) | (simp; omega), by (repeat (first | with_reducible exact Below.refl _ _ | with_reducible assumption | with_reducible refine Below.drew ?_ | (with_reducible refine Below.setCell ?_ ?_ _; rotate_left; (first | omega | (simp <;> omega))) | (with_reducible refine Below.alloc ?_ ?_ _; rotate_left; (first | omega | (simp <;> omega))) | exact Below.refl _ _ | assumption))⟩
            have h5i : (t.length : Int) ≤ 500 := by omega
            have z1 : decide (t.length ≤ 500) = true := decide_eq_true h5
            clear h5
            have hab := HAB.out
            cases ab with
            | true =>
              obtain rfl : R = false := by
                have h := HR.out
                unfold targetD at h
                simp only [hr, zm, Bool.and_true, Bool.true_and, q1, z0, z1, hab, Bool.not_true, Bool.true_and, Bool.and_false, Bool.false_and, Bool.or_false] at h
                first | exact h.symm | simpa using h.symm
              clear HR
              go_enter Tryz.func23, Tryz.ntmps23
              go_wp2_with (first
                | (go_at_call 47; (with_reducible refine Calls.mono (TK.out _) ?_); rintro e w' ⟨rfl, hw'⟩; obtain rfl := hw'.symm)
                | (go_at_call 46; (with_reducible refine Calls.mono (BY.out _) ?_); rintro e w' ⟨rfl, hw'⟩; obtain rfl := hw'.symm)
                | fail)
              go_ret
              exact ⟨by first | rfl | (simp; done) | (simp; omega), by (repeat (first | with_reducible exact Below.refl _ _ | with_reducible assumption | with_reducible refine Below.drew ?_ | (with_reducible refine Below.setCell ?_ ?_ _; rotate_left; (first | omega | (simp <;> omega))) | (with_reducible refine Below.alloc ?_ ?_ _; rotate_left; (first | omega | (simp <;> omega))) | exact Below.refl _ _ | assumption))⟩
            | false =>
              cases hb0 : (bAt t 0 == 47) with
              | true =>
                obtain rfl : R = true := by
                  have h := HR.out
                  unfold targetD at h
                  simp only [hr, zm, Bool.and_true, Bool.true_and, q1, z0, z1, hab, hb0, Bool.not_false, Bool.true_and, Bool.and_true, Bool.true_or, Bool.false_or] at h
                  first | exact h.symm | simpa using h.symm
                clear HR
                go_enter Tryz.func23, Tryz.ntmps23
                go_wp2_with (first
                  | (go_at_call 47; (with_reducible refine Calls.mono (TK.out _) ?_); rintro e w' ⟨rfl, hw'⟩; obtain rfl := hw'.symm)
                  | (go_at_call 46; (with_reducible refine Calls.mono (BY.out _) ?_); rintro e w' ⟨rfl, hw'⟩; obtain rfl := hw'.symm)
                  | fail)
                go_ret
                exact ⟨by first | rfl | (simp; done) | (simp; omega), by (repeat (first | with_reducible exact Below.refl _ _ | with_reducible assumption | with_reducible refine Below.drew ?_ | (with_reducible refine Below.setCell ?_ ?_ _; rotate_left; (first | omega | (simp <;> omega))) | (with_reducible refine Below.alloc ?_ ?_ _; rotate_left; (first | omega | (simp <;> omega))) | exact Below.refl _ _ | assumption))⟩
              | false =>
                by_cases h7 : 7 ≤ t.length
                rotate_left
                · have h7i : ¬ 7 ≤ (t.length : Int) := by omega
                  have z2 : decide (7 ≤ t.length) = false := decide_eq_false h7
                  clear h7
                  obtain rfl : R = false := by
                    have h := HR.out
                    unfold targetD at h
                    simp only [hr, zm, Bool.and_true, Bool.true_and, q1, z0, z1, hab, hb0, z2, Bool.not_false, Bool.true_and, Bool.and_true, Bool.false_and, Bool.or_false, Bool.false_or, Bool.and_false] at h
                    first | exact h.symm | simpa using h.symm
                  clear HR
                  go_enter Tryz.func23, Tryz.ntmps23
                  go_wp2_with (first
                    | (go_at_call 47; (with_reducible refine Calls.mono (TK.out _) ?_); rintro e w' ⟨rfl, hw'⟩; obtain rfl := hw'.symm)
                    | (go_at_call 46; (with_reducible refine Calls.mono (BY.out _) ?_); rintro e w' ⟨rfl, hw'⟩; obtain rfl := hw'.symm)
                    | fail)
                  go_ret
                  exact ⟨by first | rfl | (simp; done) | (simp; omega), by (repeat (first | with_reducible exact Below.refl _ _ | with_reducible assumption | with_reducible refine Below.drew ?_ | (with_reducible refine Below.setCell ?_ ?_ _; rotate_left; (first | omega | (simp <;> omega))) | (with_reducible refine Below.alloc ?_ ?_ _; rotate_left; (first | omega | (simp <;> omega))) | exact Below.refl _ _ | assumption))⟩
                have h7i : 7 ≤ (t.length : Int) := by omega
                have z2 : decide (7 ≤ t.length) = true := decide_eq_true h7
                clear h7
                cases ht7 : (t.take 7 == httpL) with
                | true =>
                  have ht8 := ht7
                  unfold httpL at ht8
                  obtain rfl : R = true := by
                    have h := HR.out
                    unfold targetD at h
                    simp only [hr, zm, Bool.and_true, Bool.true_and, q1, z0, z1, hab, hb0, z2, ht7, Bool.not_false, Bool.true_and, Bool.and_true, Bool.false_or, Bool.true_or] at h
                    first | exact h.symm | simpa using h.symm
                  clear HR ht7
                  go_enter Tryz.func23, Tryz.ntmps23
                  go_wp2_with (first
                    | (go_at_call 47; (with_reducible refine Calls.mono (TK.out _) ?_); rintro e w' ⟨rfl, hw'⟩; obtain rfl := hw'.symm)
                    | (go_at_call 46; (with_reducible refine Calls.mono (BY.out _) ?_); rintro e w' ⟨rfl, hw'⟩; obtain rfl := hw'.symm)
                    | fail)
                  go_ret
                  exact ⟨by first | rfl | (simp; done) | (simp; omega), by (repeat (first | with_reducible exact Below.refl _ _ | with_reducible assumption | with_reducible refine Below.drew ?_ | (with_reducible refine Below.setCell ?_ ?_ _; rotate_left; (first | omega | (simp <;> omega))) | (with_reducible refine Below.alloc ?_ ?_ _; rotate_left; (first | omega | (simp <;> omega))) | exact Below.refl _ _ | assumption))⟩
                | false =>
                  have ht8 := ht7
                  unfold httpL at ht8
                  obtain rfl : R = false := by
                    have h := HR.out
                    unfold targetD at h
                    simp only [hr, zm, Bool.and_true, Bool.true_and, q1, z0, z1, hab, hb0, z2, ht7, Bool.not_false, Bool.true_and, Bool.and_true, Bool.false_and, Bool.or_false, Bool.false_or, Bool.and_false] at h
                    first | exact h.symm | simpa using h.symm
                  clear HR ht7
                  go_enter Tryz.func23, Tryz.ntmps23
                  go_wp2_with (first
                    | (go_at_call 47; (with_reducible refine Calls.mono (TK.out _) ?_); rintro e w' ⟨rfl, hw'⟩; obtain rfl := hw'.symm)
                    | (go_at_call 46; (with_reducible refine Calls.mono (BY.out _) ?_); rintro e w' ⟨rfl, hw'⟩; obtain rfl := hw'.symm)
                    | fail)
                  go_ret
                  exact ⟨by first | rfl | (simp; done) | (simp; omega), by (repeat (first | with_reducible exact Below.refl _ _ | with_reducible assumption | with_reducible refine Below.drew ?_ | (with_reducible refine Below.setCell ?_ ?_ _; rotate_left; (first | omega | (simp <;> omega))) | (with_reducible refine Below.alloc ?_ ?_ _; rotate_left; (first | omega | (simp <;> omega))) | exact Below.refl _ _ | assumption))⟩
      · have hmi : ¬ (m.length : Int) ≤ 20 := by omega
        have zm : decide (m.length ≤ 20) = false := decide_eq_false hm
        clear hm
        by_cases h42 : t = [42]
        · subst h42
          have q1 : (([42] : List UInt8) == [42]) = true := rfl
          obtain rfl : R = false := by
            have h := HR.out
            unfold targetD at h
            simp only [hr, zm, Bool.and_true, Bool.true_and, Bool.and_false, Bool.false_and, q1, Bool.true_or] at h
            first | exact h.symm | simpa using h.symm
          clear HR
          go_enter Tryz.func23, Tryz.ntmps23
          go_wp2_with (first
            | (go_at_call 47; (with_reducible refine Calls.mono (TK.out _) ?_); rintro e w' ⟨rfl, hw'⟩; obtain rfl := hw'.symm)
            | (go_at_call 46; (with_reducible refine Calls.mono (BY.out _) ?_); rintro e w' ⟨rfl, hw'⟩; obtain rfl := hw'.symm)
            | fail)
          go_ret
          exact ⟨by first | rfl | (simp; done) | (simp; omega), by (repeat (first | with_reducible exact Below.refl _ _ | with_reducible assumption | with_reducible refine Below.drew ?_ | (with_reducible refine Below.setCell ?_ ?_ _; rotate_left; (first | omega | (simp <;> omega))) | (with_reducible refine Below.alloc ?_ ?_ _; rotate_left; (first | omega | (simp <;> omega))) | exact Below.refl _ _ | assumption))⟩
        · have q1 : (t == [42]) = false := by simpa using h42
          clear h42
          by_cases h0 : t = []
          · subst h0
            have z0 : decide (0 < ([] : List UInt8).length) = false := rfl
            obtain rfl : R = false := by
              have h := HR.out
              unfold targetD at h
              simp only [hr, zm, Bool.and_true, Bool.true_and, Bool.and_false, Bool.false_and, q1, z0, Bool.false_and, Bool.or_false] at h
              first | exact h.symm | simpa using h.symm
            clear HR
            go_enter Tryz.func23, Tryz.ntmps23
            go_wp2_with (first
              | (go_at_call 47; (with_reducible refine Calls.mono (TK.out _) ?_); rintro e w' ⟨rfl, hw'⟩; obtain rfl := hw'.symm)
              | (go_at_call 46; (with_reducible refine Calls.mono (BY.out _) ?_); rintro e w' ⟨rfl, hw'⟩; obtain rfl := hw'.symm)
              | fail)
            go_ret
            exact ⟨by first | rfl | (simp; done) | (simp; omega), by (repeat (first | with_reducible exact Below.refl _ _ | with_reducible assumption | with_reducible refine Below.drew ?_ | (with_reducible refine Below.setCell ?_ ?_ _; rotate_left; (first | omega | (simp <;> omega))) | (with_reducible refine Below.alloc ?_ ?_ _; rotate_left; (first | omega | (simp <;> omega))) | exact Below.refl _ _ | assumption))⟩
          · have hl0 : 0 < t.length := List.length_pos_iff.2 h0
            have hl0i : 0 < (t.length : Int) := by omega
            have z0 : decide (0 < t.length) = true := decide_eq_true hl0
            clear h0
            by_cases h5 : t.length ≤ 500
            rotate_left
            · have h5i : ¬ (t.length : Int) ≤ 500 := by omega
              have z1 : decide (t.length ≤ 500) = false := decide_eq_false h5
              clear h5
              obtain rfl : R = false := by
                have h := HR.out
                unfold targetD at h
                simp only [hr, zm, Bool.and_true, Bool.true_and, Bool.and_false, Bool.false_and, q1, z0, z1, Bool.true_and, Bool.and_false, Bool.false_and, Bool.or_false] at h
                first | exact h.symm | simpa using h.symm
              clear HR
              go_enter Tryz.func23, Tryz.ntmps23
              go_wp2_with (first
                | (go_at_call 47; (with_reducible refine Calls.mono (TK.out _) ?_); rintro e w' ⟨rfl, hw'⟩; obtain rfl := hw'.symm)
                | (go_at_call 46; (with_reducible refine Calls.mono (BY.out _) ?_); rintro e w' ⟨rfl, hw'⟩; obtain rfl := hw'.symm)
                | fail)
              go_ret
              exact ⟨by first | rfl | (simp; done) | (simp; omega), by (repeat (first | with_reducible exact Below.refl _ _ | with_reducible assumption | with_reducible refine Below.drew ?_ | (with_reducible refine Below.setCell ?_ ?_ _; rotate_left; (first | omega | (simp <;> omega))) | (with_reducible refine Below.alloc ?_ ?_ _; rotate_left; (first | omega | (simp <;> omega))) | exact Below.refl _ _ | assumption))⟩
            have h5i : (t.length : Int) ≤ 500 := by omega
            have z1 : decide (t.length ≤ 500) = true := decide_eq_true h5
            clear h5
            have hab := HAB.out
            cases ab with
            | true =>
              obtain rfl : R = false := by
                have h := HR.out
                unfold targetD at h
                simp only [hr, zm, Bool.and_true, Bool.true_and, Bool.and_false, Bool.false_and, q1, z0, z1, hab, Bool.not_true, Bool.true_and, Bool.and_false, Bool.false_and, Bool.or_false] at h
                first | exact h.symm | simpa using h.symm
              clear HR
              go_enter Tryz.func23, Tryz.ntmps23
              go_wp2_with (first
                | (go_at_call 47; (with_reducible refine Calls.mono (TK.out _) ?_); rintro e w' ⟨rfl, hw'⟩; obtain rfl := hw'.symm)
                | (go_at_call 46; (with_reducible refine Calls.mono (BY.out _) ?_); rintro e w' ⟨rfl, hw'⟩; obtain rfl := hw'.symm)
                | fail)
              go_ret
              exact ⟨by first | rfl | (simp; done) | (simp; omega), by (repeat (first | with_reducible exact Below.refl _ _ | with_reducible assumption | with_reducible refine Below.drew ?_ | (with_reducible refine Below.setCell ?_ ?_ _; rotate_left; (first | omega | (simp <;> omega))) | (with_reducible refine Below.alloc ?_ ?_ _; rotate_left; (first | omega | (simp <;> omega))) | exact Below.refl _ _ | assumption))⟩
            | false =>
              cases hb0 : (bAt t 0 == 47) with
              | true =>
                obtain rfl : R = false := by
                  have h := HR.out
                  unfold targetD at h
                  simp only [hr, zm, Bool.and_true, Bool.true_and, Bool.and_false, Bool.false_and, q1, z0, z1, hab, hb0, Bool.not_false, Bool.true_and, Bool.and_true, Bool.true_or, Bool.false_or] at h
                  first | exact h.symm | simpa using h.symm
                clear HR
                go_enter Tryz.func23, Tryz.ntmps23
                go_wp2_with (first
                  | (go_at_call 47; (with_reducible refine Calls.mono (TK.out _) ?_); rintro e w' ⟨rfl, hw'⟩; obtain rfl := hw'.symm)
                  | (go_at_call 46; (with_reducible refine Calls.mono (BY.out _) ?_); rintro e w' ⟨rfl, hw'⟩; obtain rfl := hw'.symm)
                  | fail)
                go_ret
                exact ⟨by first | rfl | (simp; done) | (simp; omega), by (repeat (first | with_reducible exact Below.refl _ _ | with_reducible assumption | with_reducible refine Below.drew ?_ | (with_reducible refine Below.setCell ?_ ?_ _; rotate_left; (first | omega | (simp <;> omega))) | (with_reducible refine Below.alloc ?_ ?_ _; rotate_left; (first | omega | (simp <;> omega))) | exact Below.refl _ _ | assumption))⟩
              | false =>
                by_cases h7 : 7 ≤ t.length
                rotate_left
                · have h7i : ¬ 7 ≤ (t.length : Int) := by omega
                  have z2 : decide (7 ≤ t.length) = false := decide_eq_false h7
                  clear h7
                  obtain rfl : R = false := by
                    have h := HR.out
                    unfold targetD at h
                    simp only [hr, zm, Bool.and_true, Bool.true_and, Bool.and_false, Bool.false_and, q1, z0, z1, hab, hb0, z2, Bool.not_false, Bool.true_and, Bool.and_true, Bool.false_and, Bool.or_false, Bool.false_or, Bool.and_false] at h
                    first | exact h.symm | simpa using h.symm
                  clear HR
                  go_enter Tryz.func23, Tryz.ntmps23
                  go_wp2_with (first
                    | (go_at_call 47; (with_reducible refine Calls.mono (TK.out _) ?_); rintro e w' ⟨rfl, hw'⟩; obtain rfl := hw'.symm)
                    | (go_at_call 46; (with_reducible refine Calls.mono (BY.out _) ?_); rintro e w' ⟨rfl, hw'⟩; obtain rfl := hw'.symm)
                    | fail)
                  go_ret
                  exact ⟨by first | rfl | (simp; done) | (simp; omega), by (repeat (first | with_reducible exact Below.refl _ _ | with_reducible assumption | with_reducible refine Below.drew ?_ | (with_reducible refine Below.setCell ?_ ?_ _; rotate_left; (first | omega | (simp <;> omega))) | (with_reducible refine Below.alloc ?_ ?_ _; rotate_left; (first | omega | (simp <;> omega))) | exact Below.refl _ _ | assumption))⟩
                have h7i : 7 ≤ (t.length : Int) := by omega
                have z2 : decide (7 ≤ t.length) = true := decide_eq_true h7
                clear h7
                cases ht7 : (t.take 7 == httpL) with
                | true =>
                  have ht8 := ht7
                  unfold httpL at ht8
                  obtain rfl : R = false := by
                    have h := HR.out
                    unfold targetD at h
                    simp only [hr, zm, Bool.and_true, Bool.true_and, Bool.and_false, Bool.false_and, q1, z0, z1, hab, hb0, z2, ht7, Bool.not_false, Bool.true_and, Bool.and_true, Bool.false_or, Bool.true_or] at h
                    first | exact h.symm | simpa using h.symm
                  clear HR ht7
                  go_enter Tryz.func23, Tryz.ntmps23
                  go_wp2_with (first
                    | (go_at_call 47; (with_reducible refine Calls.mono (TK.out _) ?_); rintro e w' ⟨rfl, hw'⟩; obtain rfl := hw'.symm)
                    | (go_at_call 46; (with_reducible refine Calls.mono (BY.out _) ?_); rintro e w' ⟨rfl, hw'⟩; obtain rfl := hw'.symm)
                    | fail)
                  go_ret
                  exact ⟨by first | rfl | (simp; done) | (simp; omega), by (repeat (first | with_reducible exact Below.refl _ _ | with_reducible assumption | with_reducible refine Below.drew ?_ | (with_reducible refine Below.setCell ?_ ?_ _; rotate_left; (first | omega | (simp <;> omega))) | (with_reducible refine Below.alloc ?_ ?_ _; rotate_left; (first | omega | (simp <;> omega))) | exact Below.refl _ _ | assumption))⟩
                | false =>
                  have ht8 := ht7
                  unfold httpL at ht8
                  obtain rfl : R = false := by
                    have h := HR.out
                    unfold targetD at h
                    simp only [hr, zm, Bool.and_true, Bool.true_and, Bool.and_false, Bool.false_and, q1, z0, z1, hab, hb0, z2, ht7, Bool.not_false, Bool.true_and, Bool.and_true, Bool.false_and, Bool.or_false, Bool.false_or, Bool.and_false] at h
                    first | exact h.symm | simpa using h.symm
                  clear HR ht7
                  go_enter Tryz.func23, Tryz.ntmps23
                  go_wp2_with (first
                    | (go_at_call 47; (with_reducible refine Calls.mono (TK.out _) ?_); rintro e w' ⟨rfl, hw'⟩; obtain rfl := hw'.symm)
                    | (go_at_call 46; (with_reducible refine Calls.mono (BY.out _) ?_); rintro e w' ⟨rfl, hw'⟩; obtain rfl := hw'.symm)
                    | fail)
                  go_ret
                  exact ⟨by first | rfl | (simp; done) | (simp; omega), by (repeat (first | with_reducible exact Below.refl _ _ | with_reducible assumption | with_reducible refine Below.drew ?_ | (with_reducible refine Below.setCell ?_ ?_ _; rotate_left; (first | omega | (simp <;> omega))) | (with_reducible refine Below.alloc ?_ ?_ _; rotate_left; (first | omega | (simp <;> omega))) | exact Below.refl _ _ | assumption))⟩
end Go.Proofs.YtgjemgilanhdiaaGreatDoor
