/- Whether a connection stays: the walk of hop.Keeps; the law HopKeeps: its walk. -/
import Derived.Test.YtcfihoniocamaaaGreatDoorPk28
import Derived.Deep.RegionWith
namespace Go.Proofs.YtcfihoniocamaaaGreatDoor
open Go.RowKit Go.Sort Go.Shelf
set_option linter.unusedVariables false

def startV (a b : ByteArray) (c : Int) (d : ByteArray) (e : Int) : Value := .agg #[.string a, .string b, .int .i64 c, .string d, .int .i64 e]

set_option maxHeartbeats 1600000 in
set_option maxRecDepth 100000 in
theorem hopKeeps_c (a b : ByteArray) (c : Int) (d : ByteArray) (m : Int) (v : Value) (L : List Fld) (w : World) (hr : ReadsF w v L) (hL : HopRow L) (hM : ∃ m, w.cell? ⟨0, 0, none⟩ = some (.int .i64 m)) :
    Calls Tryz.prog 16 #[startV a b c d m, v] w fun e w' => e = .returned (.bool (keepsW m (hopWords L))) ∧ Below w.heap.size w w' := by
  have WO := Lib.hid (fun W (hb : Below w.heap.size w W) => hopWords_c v L W (hr.below hb) hL (mlen_later hM W hb))
  have hwl := words_len (joinedL L connL)
  have hjl := hL.joined connL
  have hWd : hopWords L = wordsOf (joinedL L connL) := rfl
  rw [← hWd] at hwl
  obtain ⟨A, hA⟩ : ∃ A, hopWords L = A := ⟨_, rfl⟩
  rw [hA] at WO hwl ⊢
  have hAl : (A.length : Int) ≤ 70000 := by omega
  obtain ⟨ao0, cap0, rfl, _⟩ := hr
  obtain ⟨M, hM2⟩ : ∃ M, (m == 1) = M := ⟨_, rfl⟩
  have HK := Lib.hid (show keepsW m A = if [99, 108, 111, 115, 101] ∈ A then false else M || decide ([107, 101, 101, 112, 45, 97, 108, 105, 118, 101] ∈ A) by
    unfold keepsW
    rw [← hM2]
    rfl)
  obtain ⟨R, hR⟩ : ∃ R, keepsW m A = R := ⟨_, rfl⟩
  rw [hR] at HK ⊢
  unfold startV
  clear hL hM hA hWd hjl hR
  go_enter Tryz.func16, Tryz.ntmps16
  go_wp2_with (go_at_call 36; refine Calls.mono (WO.out _ (by (repeat (first | (with_reducible exact Below.refl _ _) | (with_reducible assumption) | (with_reducible refine Below.drew ?_) | (focus ((with_reducible refine Below.setCell ?_ ?_ _); rotate_left; (first | omega | (simp <;> omega)))) | (focus ((with_reducible refine Below.alloc ?_ ?_ _); rotate_left; (first | omega | (simp <;> omega)))) | exact Below.refl _ _ | assumption | refine Below.drew ?_ | refine Below.alloc ?_ (by first | omega | (simp <;> omega)) _ | refine Below.setCell ?_ (by first | omega | (simp <;> omega)) _)))) ?_; rintro e w1 ⟨v1, rfl, ho1, hb1⟩; have HO1 := Lib.hid ho1; have HB1 := Lib.hid (Below.trans (show Below w.heap.size w _ by (repeat (first | (with_reducible exact Below.refl _ _) | (with_reducible assumption) | (with_reducible refine Below.drew ?_) | (focus ((with_reducible refine Below.setCell ?_ ?_ _); rotate_left; (first | omega | (simp <;> omega)))) | (focus ((with_reducible refine Below.alloc ?_ ?_ _); rotate_left; (first | omega | (simp <;> omega)))) | exact Below.refl _ _ | assumption | refine Below.drew ?_ | refine Below.alloc ?_ (by first | omega | (simp <;> omega)) _ | refine Below.setCell ?_ (by first | omega | (simp <;> omega)) _))) (hb1.mono (by (first | omega | (simp <;> omega))))); obtain ⟨ao, cap, h1, hc1, hm1, hao, _⟩ := ho1.shape; subst h1; clear ho1 hb1 hao)
  have hmx : maxLen = 9223372036854775807 := rfl
  rw [hmx] at hm1
  go_loop [5, 14] (fun sv iv => ∃ k : Nat, iv = .int .i64 k ∧ k ≤ A.length ∧ sv = .bool (M || decide ([107, 101, 101, 112, 45, 97, 108, 105, 118, 101] ∈ A.take k)) ∧ [99, 108, 111, 115, 101] ∉ A.take k) (fun _ iv => A.length - (intOf iv).toNat)
  case atStart => exact ⟨0, rfl, Nat.zero_le _, by simp, by simp⟩
  case round =>
    obtain ⟨k, rfl, hk, rfl, hno⟩ := hrel
    have HN := Lib.hid hno
    clear hno
    by_cases hkl : k < A.length
    · obtain ⟨g, cap', h1, _, _, hg, hcells⟩ := HO1.out.at k hkl
      injection h1 with h2 h3 h4
      subst h2
      have e1 := hcells k hkl
      have htk := List.take_succ_eq_append_getElem hkl
      have hmem := List.getElem_mem hkl
      obtain ⟨x, hx⟩ : ∃ x, A[k] = x := ⟨_, rfl⟩
      rw [hx] at e1 htk hmem
      have HT := Lib.hid htk
      have HMEM := Lib.hid hmem
      obtain ⟨q, hq⟩ : ∃ q, (M || decide ([107, 101, 101, 112, 45, 97, 108, 105, 118, 101] ∈ A.take k)) = q := ⟨_, rfl⟩
      have HQ := Lib.hid hq
      rw [hq]
      clear hcells hx htk hmem h4 hq
      by_cases hc : x = [99, 108, 111, 115, 101]
      · subst hc
        have hR2 : R = false := by rw [HK.out, if_pos HMEM.out]
        subst hR2
        go_wp2
        go_ret
        exact ⟨rfl, HB1.out⟩
      · have hcb : (x == [99, 108, 111, 115, 101]) = false := by simpa using hc
        have HNN := Lib.hid (show [99, 108, 111, 115, 101] ∉ A.take (k + 1) by
          rw [HT.out]
          intro hm
          rcases List.mem_append.1 hm with hm | hm
          · exact HN.out hm
          · exact hc (List.mem_singleton.1 hm).symm)
        clear hc
        by_cases hkp : x = [107, 101, 101, 112, 45, 97, 108, 105, 118, 101]
        · subst hkp
          go_wp2
          go_round
          case rel => exact ⟨k + 1, by go_num, by omega, by rw [HT.out]; simp, HNN.out⟩
          case measure => simp [intOf]; omega
        · have hkb : (x == [107, 101, 101, 112, 45, 97, 108, 105, 118, 101]) = false := by simpa using hkp
          have HS := Lib.hid (show (M || decide ([107, 101, 101, 112, 45, 97, 108, 105, 118, 101] ∈ A.take (k + 1))) = q by
            rw [HT.out, ← HQ.out]
            congr 2
            rw [List.mem_append, List.mem_singleton]
            exact propext ⟨fun h => h.resolve_right (fun e => hkp e.symm), .inl⟩)
          clear hkp
          go_wp2
          go_round
          case rel => exact ⟨k + 1, by go_num, by omega, by rw [HS.out], HNN.out⟩
          case measure => simp [intOf]; omega
    · obtain rfl : k = A.length := by omega
      have hno := HN.out
      rw [List.take_length] at hno ⊢
      have hR2 : R = (M || decide ([107, 101, 101, 112, 45, 97, 108, 105, 118, 101] ∈ A)) := by rw [HK.out, if_neg hno]
      subst hR2
      clear hno
      go_wp2
      go_ret
      exact ⟨rfl, HB1.out⟩
end Go.Proofs.YtcfihoniocamaaaGreatDoor
