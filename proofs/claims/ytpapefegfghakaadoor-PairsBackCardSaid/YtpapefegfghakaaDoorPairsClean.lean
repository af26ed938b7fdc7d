/- The law's letters and digits of a text: the walk. -/
import Derived.Test.YtpapefegfghakaaDoorPairsLaw
import Derived.Test.YtpapefegfghakaaDoorBackPMath
import Derived.Test.YtpapefegfghakaaDoorPairIn
import Derived.Deep.RegionWith
namespace Go.Proofs.YtpapefegfghakaaDoor
open Go.RowKit Go.Sort Go.Shelf
set_option linter.unusedVariables false

theorem alnum_int (c : UInt8) : (alnumB c = true ∧ ((97 : Int) ≤ c.toNat ∧ (c.toNat : Int) ≤ 122 ∨ (c.toNat : Int) < 97 ∧ (65 : Int) ≤ c.toNat ∧ (c.toNat : Int) ≤ 90 ∨ (c.toNat : Int) < 97 ∧ (c.toNat : Int) < 65 ∧ (48 : Int) ≤ c.toNat ∧ (c.toNat : Int) ≤ 57)) ∨
    (alnumB c = false ∧ ((97 : Int) ≤ c.toNat ∧ (122 : Int) < c.toNat ∧ (65 : Int) ≤ c.toNat ∧ (90 : Int) < c.toNat ∧ (48 : Int) ≤ c.toNat ∧ (57 : Int) < c.toNat ∨ (c.toNat : Int) < 97 ∧ (65 : Int) ≤ c.toNat ∧ (90 : Int) < c.toNat ∧ (48 : Int) ≤ c.toNat ∧ (57 : Int) < c.toNat ∨
      (c.toNat : Int) < 97 ∧ (c.toNat : Int) < 65 ∧ (48 : Int) ≤ c.toNat ∧ (57 : Int) < c.toNat ∨ (c.toNat : Int) < 97 ∧ (c.toNat : Int) < 65 ∧ (c.toNat : Int) < 48)) := by
  unfold alnumB
  obtain ⟨n, hn⟩ : ∃ n, c.toNat = n := ⟨_, rfl⟩
  rw [hn]
  by_cases h : (97 ≤ n ∧ n ≤ 122) ∨ (65 ≤ n ∧ n ≤ 90) ∨ (48 ≤ n ∧ n ≤ 57)
  · left
    refine ⟨?_, by omega⟩
    rcases h with ⟨h1, h2⟩ | ⟨h1, h2⟩ | ⟨h1, h2⟩ <;> simp [h1, h2]
  · right
    refine ⟨?_, by omega⟩
    simp only [not_or, not_and, Nat.not_le] at h
    obtain ⟨h1, h2, h3⟩ := h
    simp only [Bool.or_eq_false_iff, Bool.and_eq_false_iff, decide_eq_false_iff_not]
    omega

set_option maxHeartbeats 1600000 in
set_option maxRecDepth 100000 in
theorem pairsClean (s : List UInt8) (hs : s.length ≤ 9223372036854775807) (w : World) : Calls Tryd.prog 8 #[.string (S s)] w fun e w' => e = .returned (.string (S (cleanL s))) ∧ w' = w := by
  unfold cleanL
  obtain ⟨n, hn, hn1, hn2⟩ : ∃ n : Nat, min (s.length : Int) 30 = n ∧ n ≤ s.length ∧ n ≤ 30 := ⟨min s.length 30, by omega, by omega, by omega⟩
  have e : s.take 30 = s.take n := by
    by_cases h : 30 ≤ s.length
    · obtain rfl : n = 30 := by omega
      rfl
    · obtain rfl : n = s.length := by omega
      rw [List.take_length, List.take_of_length_le (by omega)]
  rw [e]
  clear e
  go_enter Tryd.func8, Tryd.ntmps8
  go_wp2
  go_loop [3, 9] (fun ov iv => ∃ k : Nat, ov = .string (S ((s.take k).filter alnumB)) ∧ iv = .int .i64 k ∧ k ≤ n) (fun _ iv => n - (intOf iv).toNat)
  case atStart => exact ⟨0, rfl, rfl, Nat.zero_le _⟩
  case round =>
    obtain ⟨k, rfl, rfl, hk⟩ := hrel
    by_cases hkn : k < n
    · have hlt : k < s.length := by omega
      have hbk : bAt s k = (s[k].toNat : Int) := bAt_eq hlt
      have htk : (s.take (k + 1)).filter alnumB = (s.take k).filter alnumB ++ (if alnumB s[k] = true then [s[k]] else []) := by
        rw [List.take_succ_eq_append_getElem hlt, List.filter_append]
        congr 1
        by_cases h : alnumB s[k] = true <;> simp [h]
      have hsl : (s.take (k + 1)).drop k = [s[k]] := by
        rw [List.take_succ_eq_append_getElem hlt, List.drop_append]
        simp [Nat.le_of_lt hlt]
      have hgl : ((s.take k).filter alnumB).length ≤ k := Nat.le_trans (List.length_filter_le _ _) (by rw [List.length_take]; omega)
      obtain ⟨c, hc⟩ : ∃ c, s[k] = c := ⟨_, rfl⟩
      rw [hc] at hbk htk hsl
      obtain ⟨g, hg⟩ : ∃ g, (s.take k).filter alnumB = g := ⟨_, rfl⟩
      rw [hg] at htk hgl ⊢
      have HTK := Lib.hid htk
      have hai := alnum_int c
      obtain ⟨ci, hci⟩ : ∃ ci : Int, (c.toNat : Int) = ci := ⟨_, rfl⟩
      rw [hci] at hai hbk
      clear htk hg hc hci
      rcases hai with ⟨hy, h⟩ | ⟨hy, h⟩
      · have HY := Lib.hid hy
        clear hy
        rcases h with ⟨h1, h2⟩ | ⟨h1, h2, h3⟩ | ⟨h1, h2, h3, h4⟩
        all_goals
          go_wp2
          go_round
          case rel => first | exact ⟨k + 1, by rw [HTK.out, if_pos HY.out], by go_num, by omega⟩ | (refine ⟨_, _, _, _, ?_, rfl, rfl, rfl, rfl⟩; exact ⟨k + 1, by rw [HTK.out, if_pos HY.out], by go_num, by omega⟩)
          case measure => simp [intOf]; omega
      · have HY := Lib.hid hy
        clear hy
        rcases h with ⟨h1, h2, h3, h4, h5, h6⟩ | ⟨h1, h2, h3, h4, h5⟩ | ⟨h1, h2, h3, h4⟩ | ⟨h1, h2, h3⟩
        all_goals
          go_wp2
          go_round
          case rel => first | exact ⟨k + 1, by rw [HTK.out, if_neg (by rw [HY.out]; simp), List.append_nil], by go_num, by omega⟩ | (refine ⟨_, _, _, _, ?_, rfl, rfl, rfl, rfl⟩; exact ⟨k + 1, by rw [HTK.out, if_neg (by rw [HY.out]; simp), List.append_nil], by go_num, by omega⟩)
          case measure => simp [intOf]; omega
    · obtain rfl : k = n := by omega
      go_wp2
      go_ret
      exact ⟨rfl, rfl⟩

end Go.Proofs.YtpapefegfghakaaDoor
