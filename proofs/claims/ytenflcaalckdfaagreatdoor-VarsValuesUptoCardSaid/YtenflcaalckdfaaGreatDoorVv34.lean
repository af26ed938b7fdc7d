/- The document's text without its quotes, and with them: the walks. -/
import Derived.Test.YtenflcaalckdfaaGreatDoorVv32
import Derived.Test.YtenflcaalckdfaaGreatDoorVv33
namespace Go.Proofs.YtenflcaalckdfaaGreatDoor
open Go.RowKit Go.Sort Go.Shelf
set_option linter.unusedVariables false

def endV (s : List UInt8) : Int := match endG false (s.drop 1) with
  | some n => 1 + (n : Int)
  | none => -1
theorem endG_hit {s : List UInt8} {i : Nat} (h : i < s.length) (hc : s[i] = 34) : endG false (s.drop i) = some 1 := by
  rw [List.drop_eq_getElem_cons h, hc]; rfl
theorem endG_back {s : List UInt8} {i : Nat} (h : i < s.length) (hc : s[i] = 92) : endG false (s.drop i) = (endG false (s.drop (i + 2))).map (· + 2) := by
  rw [List.drop_eq_getElem_cons h, hc]
  have e : endG false (92 :: s.drop (i + 1)) = (endG true (s.drop (i + 1))).map (· + 1) := rfl
  rw [e]
  by_cases h2 : i + 1 < s.length
  · rw [List.drop_eq_getElem_cons h2]
    have e2 : endG true (s[i + 1] :: s.drop (i + 1 + 1)) = (endG false (s.drop (i + 1 + 1))).map (· + 1) := rfl
    rw [e2, Option.map_map]
    rfl
  · rw [List.drop_of_length_le (by omega), List.drop_of_length_le (by omega : s.length ≤ i + 2)]; rfl
theorem endG_on {s : List UInt8} {i : Nat} (h : i < s.length) (h1 : s[i] ≠ 34) (h2 : s[i] ≠ 92) : endG false (s.drop i) = (endG false (s.drop (i + 1))).map (· + 1) := by
  rw [List.drop_eq_getElem_cons h]
  conv => lhs; unfold endG
  rw [if_neg h1, if_neg h2]

set_option maxHeartbeats 800000 in
theorem refEndQ (s : List UInt8) (hs : s.length ≤ 1000000) (w : World) : Calls Tryz.prog 109 #[.string (S s), .int .i64 0] w fun e w' => e = .returned (.int .i64 (endV s)) ∧ w' = w := by
  have hs1 : (s.length : Int) ≤ 1000000 := by omega
  unfold endV
  obtain ⟨R, hR⟩ : ∃ R, endG false (s.drop 1) = R := ⟨_, rfl⟩
  rw [hR]
  have HR := Lib.hid hR
  clear hR
  go_enter Tryz.func109, Tryz.ntmps109
  go_wp2
  go_loop [5] (fun iv => ∃ i : Nat, iv = .int .i64 i ∧ 1 ≤ i ∧ i ≤ s.length + 2 ∧ R = (endG false (s.drop i)).map (· + (i - 1))) (fun iv => s.length + 2 - (intOf iv).toNat)
  case atStart => exact ⟨1, rfl, Nat.le_refl _, by omega, by rw [HR.out]; simp⟩
  case round =>
    obtain ⟨i, rfl, hi1, hi2, hr⟩ := hrel
    by_cases hlt : i < s.length
    · have hbi : bAt s i = (s[i].toNat : Int) := bAt_eq hlt
      by_cases h34 : s[i] = 34
      · have hb : bAt s i = 34 := by rw [hbi, h34]; rfl
        rw [endG_hit hlt h34] at hr
        simp only [Option.map_some] at hr
        subst hr
        clear hbi h34
        go_wp2
        go_ret
        exact ⟨by simp; omega, rfl⟩
      · have hn34 : (bAt s i != 34) = true := by
          rw [hbi]; simp only [bne_iff_ne, ne_eq]; intro e; exact h34 (UInt8.toNat.inj (Int.ofNat.inj e))
        by_cases h92 : s[i] = 92
        · have hb : bAt s i = 92 := by rw [hbi, h92]; rfl
          rw [endG_back hlt h92, Option.map_map] at hr
          have HR2 := Lib.hid (show R = (endG false (s.drop (i + 2))).map (· + (i + 2 - 1)) by
            rw [hr]; congr 1; funext k; simp only [Function.comp]; omega)
          clear hbi h34 h92 hr hn34
          go_wp2
          go_round
          case rel => exact ⟨i + 2, by go_num, by omega, by omega, HR2.out⟩
          case measure => simp [intOf]; omega
        · have hn92 : (bAt s i == 92) = false := by
            rw [hbi]; simp only [beq_eq_false_iff_ne, ne_eq]; intro e; exact h92 (UInt8.toNat.inj (Int.ofNat.inj e))
          rw [endG_on hlt h34 h92, Option.map_map] at hr
          have HR2 := Lib.hid (show R = (endG false (s.drop (i + 1))).map (· + (i + 1 - 1)) by
            rw [hr]; congr 1; funext k; simp only [Function.comp]; omega)
          clear hbi h34 h92 hr
          go_wp2
          go_round
          case rel => exact ⟨i + 1, by go_num, by omega, by omega, HR2.out⟩
          case measure => simp [intOf]; omega
    · have hR2 : R = none := by rw [hr, List.drop_of_length_le (by omega)]; rfl
      subst hR2
      have hge : (s.length : Int) ≤ (i : Int) := by omega
      clear hr
      go_wp2
      go_ret
      exact ⟨rfl, rfl⟩

theorem endV_whole {s : List UInt8} (h : 0 < s.length) : endV s = s.length ↔ endG false (s.drop 1) = some (s.length - 1) := by
  unfold endV
  cases he : endG false (s.drop 1) with
  | none => (first | (simp; done) | (simp; omega))
  | some n => simp; omega

set_option maxHeartbeats 1600000 in
set_option maxRecDepth 100000 in
theorem refUnquote_whole (s : List UInt8) (hs : s.length ≤ 1000000) (h0 : bAt s 0 = 34) (hn : 0 < s.length) (he : endG false (s.drop 1) = some (s.length - 1)) (w : World) :
    Calls Tryz.prog 74 #[.string (S s)] w fun e w' => e = .returned (.tuple #[.string (S (unqL s)), .int .i64 (unqE s)]) ∧ w' = w := by
  have hs1 : (s.length : Int) ≤ 1000000 := by omega
  have hse : s.isEmpty = false := by cases s with
    | nil => simp at hn
    | cons a t => rfl
  have hR := unq_ref h0 (by intro e; subst e; simp at hn)
  rw [if_pos he] at hR
  have EN := Lib.hid (fun W => refEndQ s hs W)
  rw [(endV_whole hn).2 he] at EN
  -- the middle is whole: no byte 92 at its end
  have hm : ∃ m, s.drop 1 = m ++ [34] ∧ (unqG false m).isSome = true := by
    apply (endG_whole _ false).1
    rw [he, List.length_drop]
  obtain ⟨m, hm1, hm2⟩ := hm
  have hlen : s.length = m.length + 2 := by
    have := congrArg List.length hm1
    rw [List.length_drop] at this
    simp at this
    omega
  have hmid : (s.take (s.length - 1)).drop 1 = m := by
    have e : s.drop 1 = m ++ [34] := hm1
    rw [List.drop_take, e, hlen]
    simp
  have hat : ∀ i (hi : i + 1 < s.length), i < m.length → s[i + 1] = m[i]! := by
    intro i hi hm'
    have e := congrArg (fun l => l[i]?) hm1
    simp only [List.getElem?_drop] at e
    rw [List.getElem?_append_left hm', List.getElem?_eq_getElem (by omega), List.getElem?_eq_getElem hm'] at e
    injection e with e
    rw [getElem!_pos m i hm', ← e]
    congr 1; omega
  rw [hmid] at hR
  unfold unqL unqE
  obtain ⟨R, hRR⟩ : ∃ R, unqR s = R := ⟨_, rfl⟩
  rw [hRR] at hR ⊢
  have HR := Lib.hid hR
  have HU := Lib.hid hm2
  have HAT := Lib.hid hat
  have CT := Lib.hid (fun c W => refControl c W)
  have hmi : (s.length : Int) = (m.length : Int) + 2 := by omega
  clear hR hRR hmid hm1 hm2 he hat
  go_enter Tryz.func74, Tryz.ntmps74
  go_wp2_with (go_at_call 109; refine Calls.mono (EN.out _) ?_; rintro e w' ⟨rfl, hw'⟩; obtain rfl := hw'.symm)
  simp only [mk_S]
  go_loop [4, 5] (fun ov iv => ∃ (k : Nat) (out : List UInt8), iv = .int .i64 ((k + 1 : Nat) : Int) ∧ k ≤ m.length ∧ ov = .string (S out) ∧ out.length ≤ k ∧ R = (refG false (m.drop k)).map (out ++ ·) ∧ (unqG false (m.drop k)).isSome = true) (fun _ iv => s.length - (intOf iv).toNat)
  case atStart => exact ⟨0, [], rfl, Nat.zero_le _, rfl, Nat.le_refl _, by rw [HR.out]; simp, HU.out⟩
  case round =>
    obtain ⟨k, out, rfl, hk, rfl, hol, hr, hu⟩ := hrel
    by_cases hlt : k < m.length
    · have hi1 : k + 1 < s.length := by omega
      have hii : ((k + 1 : Nat) : Int) < (s.length : Int) - 1 := by omega
      have hbi : bAt s (k + 1) = (s[k + 1].toNat : Int) := bAt_eq hi1
      have hsk : s[k + 1] = m[k] := by rw [HAT.out k hi1 hlt, getElem!_pos m k hlt]
      rw [hsk] at hbi
      rw [List.drop_eq_getElem_cons hlt] at hr hu
      have hsl : (s.take (k + 2)).drop (k + 1) = [m[k]] := by
        rw [List.take_succ_eq_append_getElem hi1, hsk, List.drop_append, List.drop_of_length_le (by rw [List.length_take]; omega), List.length_take, Nat.min_eq_left (by omega), Nat.sub_self]; rfl
      obtain ⟨c, hc⟩ : ∃ c, m[k] = c := ⟨_, rfl⟩
      rw [hc] at hbi hr hu hsl
      clear hsk hc
      by_cases h92 : c = 92
      · subst h92
        have hb : bAt s (k + 1) = 92 := hbi
        replace hr : R = (refG true (m.drop (k + 1))).map (out ++ ·) := hr
        replace hu : (unqG true (m.drop (k + 1))).isSome = true := hu
        have hlt2 : k + 1 < m.length := by
          refine Decidable.byContradiction fun h => ?_
          rw [List.drop_of_length_le (by omega)] at hu
          cases hu
        rw [List.drop_eq_getElem_cons hlt2] at hr hu
        have hi2 : k + 2 < s.length := by omega
        have hsk : s[k + 2] = m[k + 1] := by rw [HAT.out (k + 1) hi2 hlt2, getElem!_pos m (k + 1) hlt2]
        have hbd : bAt s (k + 2) = (s[k + 2].toNat : Int) := bAt_eq hi2
        have hsl2 : (s.take (k + 3)).drop (k + 2) = [m[k + 1]] := by
          rw [List.take_succ_eq_append_getElem hi2, hsk, List.drop_append, List.drop_of_length_le (by rw [List.length_take]; omega), List.length_take, Nat.min_eq_left (by omega), Nat.sub_self]; rfl
        rw [hsk] at hbd
        obtain ⟨d, hd⟩ : ∃ d, m[k + 1] = d := ⟨_, rfl⟩
        rw [hd] at hbd hr hu hsl2
        replace hu : ((unqG false (m.drop (k + 2))).map (d :: ·)).isSome = true := hu
        replace hu : (unqG false (m.drop (k + 2))).isSome = true := by simpa using hu
        replace hr : R = (if ctlB d = true then none else (refG false (m.drop (k + 2))).map (d :: ·)).map (out ++ ·) := hr
        have CT2 := fun W => CT.out d W
        obtain ⟨z, hz⟩ : ∃ z, ctlB d = z := ⟨_, rfl⟩
        rw [hz] at CT2 hr
        have CT2 := Lib.hid CT2
        clear hsl hbi hd hsk hz
        have hI : ((k + 1 : Nat) : Int) + 1 = ((k + 2 : Nat) : Int) := by omega
        cases z with
        | true =>
          rw [if_pos rfl] at hr
          replace hr : R = none := hr
          subst hr
          go_wp2_with (go_at_call 110; refine (CT2.out _).mono ?_; rintro e w' ⟨rfl, hw'⟩; obtain rfl := hw'.symm)
          go_ret2
          exact ⟨rfl, rfl⟩
        | false =>
          rw [if_neg (by simp)] at hr
          have HRR := Lib.hid (show R = (refG false (m.drop (k + 2))).map ((out ++ [d]) ++ ·) by rw [hr, map_snoc])
          have HUU := Lib.hid hu
          clear hr hu
          go_wp2_with (go_at_call 110; refine (CT2.out _).mono ?_; rintro e w' ⟨rfl, hw'⟩; obtain rfl := hw'.symm)
          go_round
          case rel => exact ⟨k + 2, out ++ [d], by go_num, by omega, by simp, by simp; omega, HRR.out, HUU.out⟩
          case measure => simp [intOf]; omega
      · have hn92 : ((c.toNat : Int) == 92) = false := by
          simp only [beq_eq_false_iff_ne, ne_eq]; intro e; exact h92 (UInt8.toNat.inj (Int.ofNat.inj e))
        have h34 : c ≠ 34 := by intro e; subst e; cases hu
        replace hu : ((unqG false (m.drop (k + 1)))).isSome = true := by
          unfold unqG at hu
          rw [if_neg h34, if_neg h92] at hu
          simpa using hu
        replace hr : R = (if ctlB c = true then none else (refG false (m.drop (k + 1))).map (c :: ·)).map (out ++ ·) := by
          rw [hr]
          conv => lhs; unfold refG
          rw [if_neg h92]
        have CT2 := fun W => CT.out c W
        obtain ⟨z, hz⟩ : ∃ z, ctlB c = z := ⟨_, rfl⟩
        rw [hz] at CT2 hr
        have CT2 := Lib.hid CT2
        clear hz h92 h34
        cases z with
        | true =>
          rw [if_pos rfl] at hr
          replace hr : R = none := hr
          subst hr
          go_wp2_with (go_at_call 110; refine (CT2.out _).mono ?_; rintro e w' ⟨rfl, hw'⟩; obtain rfl := hw'.symm)
          go_ret2
          exact ⟨rfl, rfl⟩
        | false =>
          rw [if_neg (by simp)] at hr
          have HRR := Lib.hid (show R = (refG false (m.drop (k + 1))).map ((out ++ [c]) ++ ·) by rw [hr, map_snoc])
          have HUU := Lib.hid hu
          clear hr hu
          go_wp2_with (go_at_call 110; refine (CT2.out _).mono ?_; rintro e w' ⟨rfl, hw'⟩; obtain rfl := hw'.symm)
          go_round
          case rel => exact ⟨k + 1, out ++ [c], by go_num, by omega, by simp, by simp; omega, HRR.out, HUU.out⟩
          case measure => simp [intOf]; omega
    · obtain rfl : k = m.length := by omega
      rw [List.drop_length] at hr
      simp only [refG, Option.map_some, List.append_nil] at hr
      subst hr
      have hii : (s.length : Int) - 1 ≤ ((m.length + 1 : Nat) : Int) := by omega
      clear hu
      go_wp2
      go_ret2
      exact ⟨rfl, rfl⟩

theorem refUnquote (s : List UInt8) (hs : s.length ≤ 1000000) (w : World) :
    Calls Tryz.prog 74 #[.string (S s)] w fun e w' => e = .returned (.tuple #[.string (S (unqL s)), .int .i64 (unqE s)]) ∧ w' = w := by
  by_cases hn : 0 < s.length
  · by_cases h0 : bAt s 0 = 34
    · by_cases he : endG false (s.drop 1) = some (s.length - 1)
      · exact refUnquote_whole s hs h0 hn he w
      · have hR := unq_ref h0 (by intro e; subst e; simp at hn)
        rw [if_neg he] at hR
        unfold unqL unqE
        rw [hR]
        have EN := Lib.hid (fun W => refEndQ s hs W)
        have hne : endV s ≠ s.length := fun e => he ((endV_whole hn).1 e)
        have hse : s.isEmpty = false := by cases s with
          | nil => simp at hn
          | cons a t => rfl
        obtain ⟨z, hz⟩ : ∃ z, endV s = z := ⟨_, rfl⟩
        rw [hz] at EN hne
        have hne2 : (z != (s.length : Int)) = true := by simpa using hne
        clear he hR hz hne
        go_enter Tryz.func74, Tryz.ntmps74
        go_wp2_with (go_at_call 109; refine Calls.mono (EN.out _) ?_; rintro e w' ⟨rfl, hw'⟩; obtain rfl := hw'.symm)
        go_ret2
        exact ⟨rfl, rfl⟩
    · have hR : unqR s = none := by unfold unqR; rw [if_pos (.inr (.inl h0))]
      unfold unqL unqE
      rw [hR]
      have h2 : (bAt s 0 != 34) = true := by simpa using h0
      have hse : s.isEmpty = false := by cases s with
        | nil => simp at hn
        | cons a t => rfl
      clear hR h0
      go_enter Tryz.func74, Tryz.ntmps74
      go_wp2
      go_ret2
      exact ⟨rfl, rfl⟩
  · obtain rfl : s = [] := List.length_eq_zero_iff.1 (by omega)
    go_enter Tryz.func74, Tryz.ntmps74
    go_wp2
    go_ret2
    exact ⟨rfl, rfl⟩
end Go.Proofs.YtenflcaalckdfaaGreatDoor
