/- The document's Agent: the walks. -/
import Derived.Test.YtenflcaalckdfaaGreatDoorVv15
namespace Go.Proofs.YtenflcaalckdfaaGreatDoor
open Go.RowKit Go.Sort Go.Shelf
set_option linter.unusedVariables false

theorem occ_slice {s t : List UInt8} {i : Nat} (h : i + t.length ≤ s.length) : ((s.take (i + t.length)).drop i == t) = Lib.occAt s t i := by
  unfold Lib.occAt
  have e : (s.take (i + t.length)).drop i = (s.drop i).take t.length := by
    rw [List.drop_take]; congr 1; omega
  rw [e]
  cases hq : t.isPrefixOf (s.drop i) with
  | true =>
    have := List.isPrefixOf_iff_prefix.1 hq
    rw [List.prefix_iff_eq_take.1 this]
    simp
  | false =>
    rw [beq_eq_false_iff_ne]
    intro e2
    have : t <+: s.drop i := List.prefix_iff_eq_take.2 e2.symm
    rw [List.isPrefixOf_iff_prefix.2 this] at hq
    cases hq

set_option maxHeartbeats 800000 in
theorem refAt (s t : List UInt8) (hs : s.length ≤ 1000000) (ht : t ≠ []) (htl : t.length ≤ 1000000) (w : World) : Calls Tryz.prog 106 #[.string (S s), .string (S t)] w fun e w' => e = .returned (.int .i64 (Lib.index s t)) ∧ w' = w := by
  have hs1 : (s.length : Int) ≤ 1000000 := by omega
  have ht1 : (t.length : Int) ≤ 1000000 := by omega
  have HH := Lib.hid (fun (i : Nat) (h : Lib.NoOcc s t i) (hi : i ≤ s.length) (ho : Lib.occAt s t i = true) => Lib.index_hit h hi ho)
  have HP := Lib.hid (fun (i : Nat) (h : Lib.NoOcc s t i) (hi : s.length < i + t.length) => Lib.index_past ht h hi)
  obtain ⟨r, hr⟩ : ∃ r, Lib.index s t = r := ⟨_, rfl⟩
  rw [hr] at HH HP ⊢
  clear hr
  go_enter Tryz.func106, Tryz.ntmps106
  go_wp2
  go_loop [5] (fun iv => ∃ i : Nat, iv = .int .i64 i ∧ i ≤ s.length + 1 ∧ Lib.NoOcc s t i) (fun iv => s.length + 1 - (intOf iv).toNat)
  case atStart => exact ⟨0, rfl, Nat.zero_le _, Lib.NoOcc.zero _ _⟩
  case round =>
    obtain ⟨i, rfl, hi, hno⟩ := hrel
    have HN := Lib.hid hno
    clear hno
    by_cases hlt : i + t.length ≤ s.length
    · have hli : (i : Int) + (t.length : Int) ≤ (s.length : Int) := by omega
      have ho := occ_slice hlt
      obtain ⟨b, hb⟩ : ∃ b, Lib.occAt s t i = b := ⟨_, rfl⟩
      rw [hb] at ho
      have HB := Lib.hid hb
      obtain ⟨u, hu⟩ : ∃ u, (s.take (i + t.length)).drop i = u := ⟨_, rfl⟩
      rw [hu] at ho
      clear hb
      cases b with
      | true =>
        have hr := Lib.hid (HH.out i HN.out (by omega) HB.out)
        obtain rfl : u = t := by simpa using ho
        clear ho
        go_wp2
        go_ret
        exact ⟨by rw [hr.out]; rfl, rfl⟩
      | false =>
        have HN2 := Lib.hid (HN.out.succ HB.out)
        go_wp2
        go_round
        case rel => exact ⟨i + 1, by go_num, by omega, HN2.out⟩
        case measure => simp [intOf]; omega
    · have hli : (s.length : Int) < (i : Int) + (t.length : Int) := by omega
      have hr := Lib.hid (HP.out i HN.out (by omega))
      go_wp2
      go_ret
      exact ⟨by rw [hr.out]; rfl, rfl⟩

theorem digB_int (c : UInt8) : (digB c = true ∧ ((48 : Int) ≤ c.toNat ∧ (c.toNat : Int) ≤ 57 ∨ (c.toNat : Int) < 48 ∧ (c.toNat : Int) = 46)) ∨
    (digB c = false ∧ ((48 : Int) ≤ c.toNat ∧ (57 : Int) < c.toNat ∧ ((c.toNat : Int) == 46) = false ∨ (c.toNat : Int) < 48 ∧ ((c.toNat : Int) == 46) = false)) := by
  have := all_bytes (p := fun c => (digB c = true ∧ ((48 : Int) ≤ c.toNat ∧ (c.toNat : Int) ≤ 57 ∨ (c.toNat : Int) < 48 ∧ (c.toNat : Int) = 46)) ∨
    (digB c = false ∧ ((48 : Int) ≤ c.toNat ∧ (57 : Int) < c.toNat ∧ ((c.toNat : Int) == 46) = false ∨ (c.toNat : Int) < 48 ∧ ((c.toNat : Int) == 46) = false))) (by decide +kernel) c
  exact this
theorem while_take (p : UInt8 → Bool) {s : List UInt8} {a b : Nat} (hab : a ≤ b) (hb : b ≤ s.length) (hall : ∀ j (hj : j < s.length), a ≤ j → j < b → p s[j] = true) (hend : ∀ hb' : b < s.length, p s[b] = false) : (s.take b).drop a = (s.drop a).takeWhile p := by
  obtain ⟨n, hn⟩ : ∃ n, b - a = n := ⟨_, rfl⟩
  induction n generalizing a with
  | zero =>
    obtain rfl : a = b := by omega
    rw [List.drop_of_length_le (by rw [List.length_take]; omega)]
    by_cases h : a < s.length
    · rw [List.drop_eq_getElem_cons h, List.takeWhile_cons_of_neg (by rw [hend h]; simp)]
    · rw [List.drop_of_length_le (by omega)]; rfl
  | succ n ih =>
    have h : a < s.length := by omega
    rw [List.drop_eq_getElem_cons h, List.takeWhile_cons_of_pos (hall a h (Nat.le_refl _) (by omega)), List.drop_eq_getElem_cons (by rw [List.length_take]; omega), List.getElem_take,
      ih (by omega) (fun j hj h1 h2 => hall j hj (by omega) h2) (by omega)]

set_option maxHeartbeats 1600000 in
set_option maxRecDepth 100000 in
theorem refDigits (s t : List UInt8) (hs : s.length ≤ 1000000) (ht : t ≠ []) (htl : t.length ≤ 1000000) (w : World) : Calls Tryz.prog 107 #[.string (S s), .string (S t)] w fun e w' => e = .returned (.string (S (verL s t))) ∧ w' = w := by
  have hs1 : (s.length : Int) ≤ 1000000 := by omega
  have ht1 : (t.length : Int) ≤ 1000000 := by omega
  have CA := Lib.hid (fun W => refAt s t hs ht htl W)
  have hge := Lib.index_ge s t
  have hfit : 0 ≤ Lib.index s t → (Lib.index s t).toNat + t.length ≤ s.length := fun h => by
    have h1 := Lib.index_le s t
    by_cases h2 : (Lib.index s t).toNat + t.length ≤ s.length
    · exact h2
    · exfalso
      have ho : Lib.NoOcc s t (Lib.index s t).toNat := fun j hj => by
        cases hq : Lib.occAt s t j with
        | false => rfl
        | true =>
          exfalso
          obtain ⟨j0, hj0, hno⟩ : ∃ j0, Lib.occAt s t j0 = true ∧ ∀ k, k < j0 → Lib.occAt s t k = false := by
            obtain ⟨n, hn⟩ : ∃ n, j = n := ⟨_, rfl⟩
            clear hj hn
            induction j using Nat.strongRecOn with
            | ind j ih =>
              by_cases hex : ∃ k, k < j ∧ Lib.occAt s t k = true
              · obtain ⟨k, hk, hk2⟩ := hex
                exact ih k hk hk2
              · exact ⟨j, hq, fun k hk => by
                  cases hk2 : Lib.occAt s t k with
                  | false => rfl
                  | true => exact absurd ⟨k, hk, hk2⟩ hex⟩
          have hle : j0 ≤ j := by
            rcases Nat.lt_or_ge j j0 with h' | h'
            · have := hno j h'; rw [hq] at this; cases this
            · exact h'
          have hj0s : j0 ≤ s.length := by omega
          have := Lib.index_hit (s := s) (sub := t) (i := j0) (fun k hk => hno k hk) hj0s hj0
          omega
      have := Lib.index_past (s := s) (sub := t) (i := (Lib.index s t).toNat) ht ho (by omega)
      omega
  have hv : verL s t = if 0 ≤ Lib.index s t then (s.drop ((Lib.index s t).toNat + t.length)).takeWhile digB else [] := by
    unfold verL Lib.cut
    split
    · rfl
    · rfl
  rw [hv]
  obtain ⟨r, hr⟩ : ∃ r, Lib.index s t = r := ⟨_, rfl⟩
  rw [hr] at CA hge hfit ⊢
  clear hr hv
  by_cases h0 : 0 ≤ r
  · rw [if_pos h0]
    obtain ⟨i, rfl⟩ : ∃ i : Nat, r = i := ⟨r.toNat, by omega⟩
    have hf := hfit h0
    rw [Int.toNat_natCast] at hf ⊢
    obtain ⟨f, hf2⟩ : ∃ f, i + t.length = f := ⟨_, rfl⟩
    have hfi : (i : Int) + (t.length : Int) = (f : Int) := by omega
    rw [hf2] at hf ⊢
    have WT := Lib.hid (fun (b : Nat) (h1 : f ≤ b) (h2 : b ≤ s.length) h3 h4 => while_take digB h1 h2 h3 h4)
    obtain ⟨V, hV⟩ : ∃ V, (s.drop f).takeWhile digB = V := ⟨_, rfl⟩
    rw [hV] at WT ⊢
    clear hfit h0 hV hf2
    go_enter Tryz.func107, Tryz.ntmps107
    go_wp2_with (go_at_call 106; refine (CA.out _).mono ?_; rintro e w' ⟨rfl, hw'⟩; obtain rfl := hw'.symm)
    go_loop [7] (fun iv => ∃ k : Nat, iv = .int .i64 k ∧ f ≤ k ∧ k ≤ s.length ∧ (∀ j (hj : j < s.length), f ≤ j → j < k → digB s[j] = true)) (fun iv => s.length - (intOf iv).toNat)
    case atStart => exact ⟨f, by go_num, Nat.le_refl _, hf, fun j _ h1 h2 => by omega⟩
    case round =>
      obtain ⟨k, rfl, hk1, hk2, hall⟩ := hrel
      have HA := Lib.hid hall
      clear hall
      by_cases hlt : k < s.length
      · have hbk : bAt s k = (s[k].toNat : Int) := bAt_eq hlt
        have HY := Lib.hid (show digB s[k] = true → ∀ j (hj : j < s.length), f ≤ j → j < k + 1 → digB s[j] = true from fun h j hj h1 h2 => by
          by_cases e : j = k
          · subst e; exact h
          · exact HA.out j hj h1 (by omega))
        have HNO := Lib.hid (fun (h : digB s[k] = false) => WT.out k hk1 hk2 HA.out (fun _ => h))
        obtain ⟨c, hc⟩ : ∃ c, s[k] = c := ⟨_, rfl⟩
        rw [hc] at hbk HY HNO
        have hdc := digB_int c
        obtain ⟨ci, hci⟩ : ∃ ci : Int, (c.toNat : Int) = ci := ⟨_, rfl⟩
        rw [hci] at hdc hbk
        clear hc hci
        rcases hdc with ⟨hy, h⟩ | ⟨hy, h⟩
        · have HYY := Lib.hid (HY.out hy)
          clear hy
          rcases h with ⟨h1, h2⟩ | ⟨h1, h2⟩
          all_goals
            (try subst h2)
            go_wp2
            go_round
            case rel => first | exact ⟨k + 1, by go_num, by omega, by omega, HYY.out⟩ | (refine ⟨_, ?_, rfl⟩; exact ⟨k + 1, by go_num, by omega, by omega, HYY.out⟩)
            case measure => simp [intOf]; omega
        · have hv := HNO.out hy
          clear hy
          rcases h with ⟨h1, h2, h3⟩ | ⟨h1, h3⟩
          all_goals
            go_wp2
            go_ret
            exact ⟨by rw [← hv]; rfl, rfl⟩
      · obtain rfl : k = s.length := by omega
        have hv := WT.out s.length hk1 (Nat.le_refl _) HA.out (fun h => absurd h (Nat.lt_irrefl _))
        rw [List.take_length] at hv
        go_wp2
        go_ret
        exact ⟨by rw [← hv]; rfl, rfl⟩
  · rw [if_neg h0]
    have hlt : r < 0 := by omega
    clear hfit h0
    go_enter Tryz.func107, Tryz.ntmps107
    go_wp2_with (go_at_call 106; refine (CA.out _).mono ?_; rintro e w' ⟨rfl, hw'⟩; obtain rfl := hw'.symm)
    go_ret
    exact ⟨rfl, rfl⟩

theorem hasW_at {s t : List UInt8} {b : Bool} (h : hasW s t = b) (hs : s.length ≤ 1000000) (ht : t ≠ []) (htl : t.length ≤ 1000000) : ∃ i : Int, (b = true → 0 ≤ i) ∧ (b = false → i < 0) ∧ ∀ w : World, Calls Tryz.prog 106 #[.string (S s), .string (S t)] w fun e w' => e = .returned (.int .i64 i) ∧ w' = w := by
  refine ⟨Lib.index s t, fun hb => ?_, fun hb => ?_, fun w => refAt s t hs ht htl w⟩
  · subst hb; unfold hasW Lib.contains at h; simpa using h
  · subst hb; unfold hasW Lib.contains at h; simpa using h

set_option maxHeartbeats 6400000 in
set_option maxRecDepth 100000 in
theorem refAgent (s : List UInt8) (hs : s.length ≤ 1000000) (w : World) :
    Calls Tryz.prog 70 #[.string (S s)] w fun e w' => e = .returned (.tuple #[.string (S (agentB s).1), .string (S (agentB s).2), .string (S (agentS s))]) ∧ Below w.heap.size w w' := by
  have KU1 := Lib.hid (fun W => refDigits s [77, 83, 73, 69, 32] hs (by decide) (by decide) W)
  have KU2 := Lib.hid (fun W => refDigits s [77, 111, 122, 105, 108, 108, 97, 47] hs (by decide) (by decide) W)
  have hB := agentB_cases s
  have hS := agentS_cases s
  obtain ⟨⟨ab, av⟩, hab⟩ : ∃ q, agentB s = q := ⟨_, rfl⟩
  obtain ⟨sy, has⟩ : ∃ q, agentS s = q := ⟨_, rfl⟩
  rw [hab] at hB ⊢
  rw [has] at hS ⊢
  obtain ⟨t1, ht1⟩ : ∃ q, verL s [77, 83, 73, 69, 32] = q := ⟨_, rfl⟩
  obtain ⟨t2, ht2⟩ : ∃ q, verL s [77, 111, 122, 105, 108, 108, 97, 47] = q := ⟨_, rfl⟩
  rw [ht1] at hB KU1
  rw [ht2] at hB KU2
  have HW := Lib.hid (fun (t : List UInt8) (b : Bool) (h : hasW s t = b) (ht : t ≠ []) (htl : t.length ≤ 1000000) => hasW_at h hs ht htl)
  clear hab has ht1 ht2
  simp only at hB ⊢
  rcases hB with ⟨c1, hq⟩ | ⟨c1, c2, hq⟩ | ⟨c1, c2, hq⟩
  all_goals
    injection hq with q1 q2
    subst q1 q2
    rcases hS with ⟨s1, hq⟩ | ⟨s1, s2, hq⟩ | ⟨s1, s2, s3, hq⟩ | ⟨s1, s2, s3, hq⟩
    all_goals
      subst hq
      obtain ⟨i1, f1, g1, C1⟩ := HW.out _ _ c1 (by decide) (by decide)
      obtain ⟨i3, f3, g3, S1⟩ := HW.out _ _ s1 (by decide) (by decide)
      simp only [Bool.true_eq_false, Bool.false_eq_true, false_implies, true_implies] at f1 g1 f3 g3
      have C1 := Lib.hid C1
      have S1 := Lib.hid S1
      (try (obtain ⟨i2, f2, g2, C2⟩ := HW.out _ _ c2 (by decide) (by decide); simp only [Bool.true_eq_false, Bool.false_eq_true, false_implies, true_implies] at f2 g2; have C2 := Lib.hid C2))
      (try (obtain ⟨i4, f4, g4, S2⟩ := HW.out _ _ s2 (by decide) (by decide); simp only [Bool.true_eq_false, Bool.false_eq_true, false_implies, true_implies] at f4 g4; have S2 := Lib.hid S2))
      (try (obtain ⟨i5, f5, g5, S3⟩ := HW.out _ _ s3 (by decide) (by decide); simp only [Bool.true_eq_false, Bool.false_eq_true, false_implies, true_implies] at f5 g5; have S3 := Lib.hid S3))
      (try clear c1)
      (try clear c2)
      (try clear s1)
      (try clear s2)
      (try clear s3)
      clear HW
      go_enter Tryz.func70, Tryz.ntmps70
      go_wp2_with (first
        | (go_at_call 106; (with_reducible refine Calls.mono (S1.out _) ?_); rintro e w' ⟨rfl, hw'⟩; obtain rfl := hw'.symm)
        | (go_at_call 106; (with_reducible refine Calls.mono (S2.out _) ?_); rintro e w' ⟨rfl, hw'⟩; obtain rfl := hw'.symm)
        | (go_at_call 106; (with_reducible refine Calls.mono (S3.out _) ?_); rintro e w' ⟨rfl, hw'⟩; obtain rfl := hw'.symm)
        | (go_at_call 106; (with_reducible refine Calls.mono (C1.out _) ?_); rintro e w' ⟨rfl, hw'⟩; obtain rfl := hw'.symm)
        | (go_at_call 106; (with_reducible refine Calls.mono (C2.out _) ?_); rintro e w' ⟨rfl, hw'⟩; obtain rfl := hw'.symm)
        | (go_at_call 107; (with_reducible refine Calls.mono (KU1.out _) ?_); rintro e w' ⟨rfl, hw'⟩; obtain rfl := hw'.symm)
        | (go_at_call 107; (with_reducible refine Calls.mono (KU2.out _) ?_); rintro e w' ⟨rfl, hw'⟩; obtain rfl := hw'.symm)
        | fail)
      go_ret3
      exact ⟨rfl, by (repeat (first | with_reducible exact Below.refl _ _ | with_reducible assumption | with_reducible refine Below.drew ?_ | (with_reducible refine Below.setCell ?_ ?_ _; rotate_left; (first | omega | (simp <;> omega))) | (with_reducible refine Below.alloc ?_ ?_ _; rotate_left; (first | omega | (simp <;> omega))) | exact Below.refl _ _ | assumption))⟩
end Go.Proofs.YtenflcaalckdfaaGreatDoor
