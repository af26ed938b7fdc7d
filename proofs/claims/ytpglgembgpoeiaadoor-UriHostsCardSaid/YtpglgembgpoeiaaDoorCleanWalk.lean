/- The walks of uri.Clean and of the reference's. -/
import Derived.Test.YtpglgembgpoeiaaDoorCleanMath
import Derived.Test.YtpglgembgpoeiaaDoorTail
import Derived.Deep.LoopGhost
namespace Go.Proofs.YtpglgembgpoeiaaDoor
open Go.RowKit
set_option linter.unusedVariables false

set_option maxHeartbeats 1600000 in
set_option maxRecDepth 100000 in
theorem clean_any {l r : List UInt8} (hl : l.length ≤ 100000) (hr : cleanL l = r) (w : World) :
    Calls Tryd.prog 31 #[.string (S l)] w fun e w' => e = .returned (.string (S r)) ∧ Below w.heap.size w w' := by
  go_enter Tryd.func31, Tryd.ntmps31
  go_wp2
  go_step3
  go_wp2
  go_step3
  go_wp2
  simp only [mk_S]
  go_loopw [0, 3] (fun pv ov wr => ∃ p out : List UInt8, pv = .string (S p) ∧ ov = .string (S out) ∧ p.length + out.length ≤ l.length ∧ cleanFrom p out = r ∧ Below w.heap.size w wr) (fun pv _ _ => strLen pv)
  case atStart => exact ⟨l, [], rfl, rfl, by simp, hr, by (repeat (first | (with_reducible exact Below.refl _ _) | (with_reducible assumption) | (with_reducible refine Below.drew ?_) | (focus ((with_reducible refine Below.setCell ?_ ?_ _); rotate_left; (first | omega | (simp <;> omega)))) | (focus ((with_reducible refine Below.alloc ?_ ?_ _); rotate_left; (first | omega | (simp <;> omega)))) | exact Below.refl _ _ | assumption | refine Below.drew ?_ | refine Below.alloc ?_ (by first | omega | (simp <;> omega)) _ | refine Below.setCell ?_ (by first | omega | (simp <;> omega)) _))⟩
  case round =>
    obtain ⟨p, out, rfl, rfl, hlen, hc, hB⟩ := hrel
    by_cases hp : p = []
    · subst hp
      obtain rfl : out = r := hc
      go_wp2
      rw [Exit.noGoto_ret]
      go_ret
      exact ⟨rfl, by (repeat (first | (with_reducible exact Below.refl _ _) | (with_reducible assumption) | (with_reducible refine Below.drew ?_) | (focus ((with_reducible refine Below.setCell ?_ ?_ _); rotate_left; (first | omega | (simp <;> omega)))) | (focus ((with_reducible refine Below.alloc ?_ ?_ _); rotate_left; (first | omega | (simp <;> omega)))) | exact Below.refl _ _ | assumption | refine Below.drew ?_ | refine Below.alloc ?_ (by first | omega | (simp <;> omega)) _ | refine Below.setCell ?_ (by first | omega | (simp <;> omega)) _))⟩
    · have hne : (p == []) = false := by simpa using hp
      have hne2 : p.isEmpty = false := by simpa using hp
      have HC := Lib.hid hc
      clear hc
      have hz := hB.size
      have hpos : 0 < p.length := List.length_pos_iff.2 hp
      cases h1 : Lib.hasPrefix p [46, 46, 47]
      · have CP1 := Lib.hid (cutPrefix_S h1 (show Lib.trimPrefix p [46, 46, 47] = p by unfold Lib.trimPrefix; rw [h1]; rfl))
        cases h2 : Lib.hasPrefix p [46, 47]
        · have CP2 := Lib.hid (cutPrefix_S h2 (show Lib.trimPrefix p [46, 47] = p by unfold Lib.trimPrefix; rw [h2]; rfl))
          cases h3 : Lib.hasPrefix p [47, 46, 47]
          · have HP3 := Lib.hid (hasPrefix_S h3)
            cases h4 : p == [47, 46]
            · by_cases h5 : (Lib.hasPrefix p [47, 46, 46, 47] || p == [47, 46, 46]) = true
              · have hp3 : 3 ≤ p.length := by
                  simp only [Bool.or_eq_true] at h5
                  rcases h5 with h5 | h5
                  · have := hasPrefix_len h5; simp at this; omega
                  · rw [show p = [47, 46, 46] by simpa using h5]; decide
                obtain ⟨t, ht⟩ : ∃ t, Lib.trimPrefix (p.drop 3) [47] = t := ⟨_, rfl⟩
                obtain ⟨k, hk⟩ : ∃ k, lastL out 47 = k := ⟨_, rfl⟩
                obtain ⟨m, hm, hm2⟩ : ∃ m : Nat, max k 0 = (m : Int) ∧ m ≤ out.length := ⟨(max k 0).toNat, by omega, by have := lastL_hi out 47; omega⟩
                have hst : cStep p out = (47 :: t, out.take m) := by
                  unfold cStep; rw [h1, h2, h3, h4, h5, ht, hk, hm]; rfl
                have hl2 := cStep_lt p out hp
                have hl3 := cStep_out p out hp
                rw [hst] at hl2 hl3
                have HS := Lib.hid (HC.out ▸ (cleanFrom_step (out := out) hp hst).symm)
                have TP := Lib.hid (trimPrefix_S ht)
                have LI := Lib.hid (lastIndex_S (c := 47) (ci := 47) rfl (show out.length ≤ 4611686018427387903 by omega) hk)
                have hk1 := lastL_lo out 47
                have hk2 := lastL_hi out 47
                rw [hk] at hk1 hk2
                simp only [List.length_cons] at hl2 hl3
                have htl : t.length ≤ 100000 := by omega
                clear hst ht hk
                cases h6 : Lib.hasPrefix p [47, 46, 46, 47]
                · have h7 : (p == [47, 46, 46]) = true := by rw [h6] at h5; simpa using h5
                  have HP5 := Lib.hid (hasPrefix_S h6)
                  clear h1 h2 h3 h5 h6
                  go_wp2
                  refine wp_loop_rounds 3 ?_
                  rw [rounds_succ]
                  go_wp2_with (first | (go_at_call 56; ((with_reducible refine (CP1.out _).mono ?_); rintro e w' ⟨rfl, rfl⟩)) | (go_at_call 56; ((with_reducible refine (CP2.out _).mono ?_); rintro e w' ⟨rfl, rfl⟩)) | (go_at_call 27; ((with_reducible refine (HP3.out _).mono ?_); rintro e w' ⟨rfl, rfl⟩)) | (go_at_call 27; ((with_reducible refine (HP5.out _).mono ?_); rintro e w' ⟨rfl, rfl⟩)) | (go_at_call 57; ((with_reducible refine (TP.out _).mono ?_); rintro e w' ⟨rfl, rfl⟩)) | (go_at_call 45; ((with_reducible refine (LI.out _).mono ?_); rintro e w' ⟨rfl, rfl⟩)) | (go_at_call 51; ((with_reducible refine (IB.out _).mono ?_); rintro e w' ⟨rfl, rfl⟩)))
                  rw [rounds_succ]
                  go_wp2_with (first | (go_at_call 56; ((with_reducible refine (CP1.out _).mono ?_); rintro e w' ⟨rfl, rfl⟩)) | (go_at_call 56; ((with_reducible refine (CP2.out _).mono ?_); rintro e w' ⟨rfl, rfl⟩)) | (go_at_call 27; ((with_reducible refine (HP3.out _).mono ?_); rintro e w' ⟨rfl, rfl⟩)) | (go_at_call 27; ((with_reducible refine (HP5.out _).mono ?_); rintro e w' ⟨rfl, rfl⟩)) | (go_at_call 57; ((with_reducible refine (TP.out _).mono ?_); rintro e w' ⟨rfl, rfl⟩)) | (go_at_call 45; ((with_reducible refine (LI.out _).mono ?_); rintro e w' ⟨rfl, rfl⟩)) | (go_at_call 51; ((with_reducible refine (IB.out _).mono ?_); rintro e w' ⟨rfl, rfl⟩)))
                  rw [rounds_succ]
                  go_wp2_with (first | (go_at_call 56; ((with_reducible refine (CP1.out _).mono ?_); rintro e w' ⟨rfl, rfl⟩)) | (go_at_call 56; ((with_reducible refine (CP2.out _).mono ?_); rintro e w' ⟨rfl, rfl⟩)) | (go_at_call 27; ((with_reducible refine (HP3.out _).mono ?_); rintro e w' ⟨rfl, rfl⟩)) | (go_at_call 27; ((with_reducible refine (HP5.out _).mono ?_); rintro e w' ⟨rfl, rfl⟩)) | (go_at_call 57; ((with_reducible refine (TP.out _).mono ?_); rintro e w' ⟨rfl, rfl⟩)) | (go_at_call 45; ((with_reducible refine (LI.out _).mono ?_); rintro e w' ⟨rfl, rfl⟩)) | (go_at_call 51; ((with_reducible refine (IB.out _).mono ?_); rintro e w' ⟨rfl, rfl⟩)))
                  go_roundw
                  case rel => exact ⟨47 :: t, out.take m, rfl, rfl, by simp only [List.length_cons]; omega, HS.out, by (repeat (first | (with_reducible exact Below.refl _ _) | (with_reducible assumption) | (with_reducible refine Below.drew ?_) | (focus ((with_reducible refine Below.setCell ?_ ?_ _); rotate_left; (first | omega | (simp <;> omega)))) | (focus ((with_reducible refine Below.alloc ?_ ?_ _); rotate_left; (first | omega | (simp <;> omega)))) | exact Below.refl _ _ | assumption | refine Below.drew ?_ | refine Below.alloc ?_ (by first | omega | (simp <;> omega)) _ | refine Below.setCell ?_ (by first | omega | (simp <;> omega)) _))⟩
                  case measure => rw [strLen_S, strLen_S]; simp; omega
                · have HP5 := Lib.hid (hasPrefix_S h6)
                  clear h1 h2 h3 h5 h6
                  go_wp2
                  refine wp_loop_rounds 3 ?_
                  rw [rounds_succ]
                  go_wp2_with (first | (go_at_call 56; ((with_reducible refine (CP1.out _).mono ?_); rintro e w' ⟨rfl, rfl⟩)) | (go_at_call 56; ((with_reducible refine (CP2.out _).mono ?_); rintro e w' ⟨rfl, rfl⟩)) | (go_at_call 27; ((with_reducible refine (HP3.out _).mono ?_); rintro e w' ⟨rfl, rfl⟩)) | (go_at_call 27; ((with_reducible refine (HP5.out _).mono ?_); rintro e w' ⟨rfl, rfl⟩)) | (go_at_call 57; ((with_reducible refine (TP.out _).mono ?_); rintro e w' ⟨rfl, rfl⟩)) | (go_at_call 45; ((with_reducible refine (LI.out _).mono ?_); rintro e w' ⟨rfl, rfl⟩)) | (go_at_call 51; ((with_reducible refine (IB.out _).mono ?_); rintro e w' ⟨rfl, rfl⟩)))
                  rw [rounds_succ]
                  go_wp2_with (first | (go_at_call 56; ((with_reducible refine (CP1.out _).mono ?_); rintro e w' ⟨rfl, rfl⟩)) | (go_at_call 56; ((with_reducible refine (CP2.out _).mono ?_); rintro e w' ⟨rfl, rfl⟩)) | (go_at_call 27; ((with_reducible refine (HP3.out _).mono ?_); rintro e w' ⟨rfl, rfl⟩)) | (go_at_call 27; ((with_reducible refine (HP5.out _).mono ?_); rintro e w' ⟨rfl, rfl⟩)) | (go_at_call 57; ((with_reducible refine (TP.out _).mono ?_); rintro e w' ⟨rfl, rfl⟩)) | (go_at_call 45; ((with_reducible refine (LI.out _).mono ?_); rintro e w' ⟨rfl, rfl⟩)) | (go_at_call 51; ((with_reducible refine (IB.out _).mono ?_); rintro e w' ⟨rfl, rfl⟩)))
                  rw [rounds_succ]
                  go_wp2_with (first | (go_at_call 56; ((with_reducible refine (CP1.out _).mono ?_); rintro e w' ⟨rfl, rfl⟩)) | (go_at_call 56; ((with_reducible refine (CP2.out _).mono ?_); rintro e w' ⟨rfl, rfl⟩)) | (go_at_call 27; ((with_reducible refine (HP3.out _).mono ?_); rintro e w' ⟨rfl, rfl⟩)) | (go_at_call 27; ((with_reducible refine (HP5.out _).mono ?_); rintro e w' ⟨rfl, rfl⟩)) | (go_at_call 57; ((with_reducible refine (TP.out _).mono ?_); rintro e w' ⟨rfl, rfl⟩)) | (go_at_call 45; ((with_reducible refine (LI.out _).mono ?_); rintro e w' ⟨rfl, rfl⟩)) | (go_at_call 51; ((with_reducible refine (IB.out _).mono ?_); rintro e w' ⟨rfl, rfl⟩)))
                  go_roundw
                  case rel => exact ⟨47 :: t, out.take m, rfl, rfl, by simp only [List.length_cons]; omega, HS.out, by (repeat (first | (with_reducible exact Below.refl _ _) | (with_reducible assumption) | (with_reducible refine Below.drew ?_) | (focus ((with_reducible refine Below.setCell ?_ ?_ _); rotate_left; (first | omega | (simp <;> omega)))) | (focus ((with_reducible refine Below.alloc ?_ ?_ _); rotate_left; (first | omega | (simp <;> omega)))) | exact Below.refl _ _ | assumption | refine Below.drew ?_ | refine Below.alloc ?_ (by first | omega | (simp <;> omega)) _ | refine Below.setCell ?_ (by first | omega | (simp <;> omega)) _))⟩
                  case measure => rw [strLen_S, strLen_S]; simp; omega
              · have h6 : Lib.hasPrefix p [47, 46, 46, 47] = false := by cases h : Lib.hasPrefix p [47, 46, 46, 47] <;> simp_all
                have h7 : (p == [47, 46, 46]) = false := by cases h : (p == [47, 46, 46]) <;> simp_all
                have HP5 := Lib.hid (hasPrefix_S h6)
                cases h8 : p == [46]
                · cases h9 : p == [46, 46]
                  · obtain ⟨n, hn⟩ : ∃ n, cStep.cutAt p = n := ⟨_, rfl⟩
                    have hst : cStep p out = (p.drop n, out ++ p.take n) := by unfold cStep; rw [h1, h2, h3, h4, h6, h7, h8, h9, hn]; rfl
                    have hcl := cutAt_lo hp
                    rw [hn] at hcl
                    have HS := Lib.hid (HC.out ▸ (cleanFrom_step (out := out) hp hst).symm)
                    obtain ⟨hn1, hn2⟩ := hcl
                    obtain ⟨j, hj⟩ : ∃ j, Lib.indexByte (p.drop 1) 47 = j := ⟨_, rfl⟩
                    unfold cStep.cutAt at hn
                    rw [hj] at hn
                    have hj0 := Lib.indexByte_ge (p.drop 1) 47
                    rw [hj] at hj0
                    rw [List.drop_one] at hj
                    have IB := Lib.hid (indexByte_S (c := 47) (i := j) hj)
                    have htk : p.take p.length = p := List.take_length
                    by_cases hj1 : j = -1
                    · rw [if_pos hj1] at hn
                      subst hn
                      subst hj1
                      clear h1 h2 h3 h5 h6 hst hj
                      go_wp2
                      refine wp_loop_rounds 3 ?_
                      rw [rounds_succ]
                      go_wp2_with (first | (go_at_call 56; ((with_reducible refine (CP1.out _).mono ?_); rintro e w' ⟨rfl, rfl⟩)) | (go_at_call 56; ((with_reducible refine (CP2.out _).mono ?_); rintro e w' ⟨rfl, rfl⟩)) | (go_at_call 27; ((with_reducible refine (HP3.out _).mono ?_); rintro e w' ⟨rfl, rfl⟩)) | (go_at_call 27; ((with_reducible refine (HP5.out _).mono ?_); rintro e w' ⟨rfl, rfl⟩)) | (go_at_call 57; ((with_reducible refine (TP.out _).mono ?_); rintro e w' ⟨rfl, rfl⟩)) | (go_at_call 45; ((with_reducible refine (LI.out _).mono ?_); rintro e w' ⟨rfl, rfl⟩)) | (go_at_call 51; ((with_reducible refine (IB.out _).mono ?_); rintro e w' ⟨rfl, rfl⟩)))
                      rw [rounds_succ]
                      go_wp2_with (first | (go_at_call 56; ((with_reducible refine (CP1.out _).mono ?_); rintro e w' ⟨rfl, rfl⟩)) | (go_at_call 56; ((with_reducible refine (CP2.out _).mono ?_); rintro e w' ⟨rfl, rfl⟩)) | (go_at_call 27; ((with_reducible refine (HP3.out _).mono ?_); rintro e w' ⟨rfl, rfl⟩)) | (go_at_call 27; ((with_reducible refine (HP5.out _).mono ?_); rintro e w' ⟨rfl, rfl⟩)) | (go_at_call 57; ((with_reducible refine (TP.out _).mono ?_); rintro e w' ⟨rfl, rfl⟩)) | (go_at_call 45; ((with_reducible refine (LI.out _).mono ?_); rintro e w' ⟨rfl, rfl⟩)) | (go_at_call 51; ((with_reducible refine (IB.out _).mono ?_); rintro e w' ⟨rfl, rfl⟩)))
                      rw [rounds_succ]
                      go_wp2_with (first | (go_at_call 56; ((with_reducible refine (CP1.out _).mono ?_); rintro e w' ⟨rfl, rfl⟩)) | (go_at_call 56; ((with_reducible refine (CP2.out _).mono ?_); rintro e w' ⟨rfl, rfl⟩)) | (go_at_call 27; ((with_reducible refine (HP3.out _).mono ?_); rintro e w' ⟨rfl, rfl⟩)) | (go_at_call 27; ((with_reducible refine (HP5.out _).mono ?_); rintro e w' ⟨rfl, rfl⟩)) | (go_at_call 57; ((with_reducible refine (TP.out _).mono ?_); rintro e w' ⟨rfl, rfl⟩)) | (go_at_call 45; ((with_reducible refine (LI.out _).mono ?_); rintro e w' ⟨rfl, rfl⟩)) | (go_at_call 51; ((with_reducible refine (IB.out _).mono ?_); rintro e w' ⟨rfl, rfl⟩)))
                      go_region
                      all_goals
                        go_wp2
                        go_roundw
                        case rel => exact ⟨p.drop p.length, out ++ p.take p.length, by simp, by simp, by simp; omega, HS.out, by (repeat (first | (with_reducible exact Below.refl _ _) | (with_reducible assumption) | (with_reducible refine Below.drew ?_) | (focus ((with_reducible refine Below.setCell ?_ ?_ _); rotate_left; (first | omega | (simp <;> omega)))) | (focus ((with_reducible refine Below.alloc ?_ ?_ _); rotate_left; (first | omega | (simp <;> omega)))) | exact Below.refl _ _ | assumption | refine Below.drew ?_ | refine Below.alloc ?_ (by first | omega | (simp <;> omega)) _ | refine Below.setCell ?_ (by first | omega | (simp <;> omega)) _))⟩
                        case measure => simp [strLen_S]; omega
                    · rw [if_neg hj1] at hn
                      obtain ⟨m, rfl⟩ : ∃ m : Nat, j = m := ⟨j.toNat, by omega⟩
                      obtain rfl : m + 1 = n := by omega
                      have hj2 : ((m : Int) + 1 == 0) = false := by simp; omega
                      clear h1 h2 h3 h5 h6 hst hj hj1 hn
                      go_wp2
                      refine wp_loop_rounds 3 ?_
                      rw [rounds_succ]
                      go_wp2_with (first | (go_at_call 56; ((with_reducible refine (CP1.out _).mono ?_); rintro e w' ⟨rfl, rfl⟩)) | (go_at_call 56; ((with_reducible refine (CP2.out _).mono ?_); rintro e w' ⟨rfl, rfl⟩)) | (go_at_call 27; ((with_reducible refine (HP3.out _).mono ?_); rintro e w' ⟨rfl, rfl⟩)) | (go_at_call 27; ((with_reducible refine (HP5.out _).mono ?_); rintro e w' ⟨rfl, rfl⟩)) | (go_at_call 57; ((with_reducible refine (TP.out _).mono ?_); rintro e w' ⟨rfl, rfl⟩)) | (go_at_call 45; ((with_reducible refine (LI.out _).mono ?_); rintro e w' ⟨rfl, rfl⟩)) | (go_at_call 51; ((with_reducible refine (IB.out _).mono ?_); rintro e w' ⟨rfl, rfl⟩)))
                      rw [rounds_succ]
                      go_wp2_with (first | (go_at_call 56; ((with_reducible refine (CP1.out _).mono ?_); rintro e w' ⟨rfl, rfl⟩)) | (go_at_call 56; ((with_reducible refine (CP2.out _).mono ?_); rintro e w' ⟨rfl, rfl⟩)) | (go_at_call 27; ((with_reducible refine (HP3.out _).mono ?_); rintro e w' ⟨rfl, rfl⟩)) | (go_at_call 27; ((with_reducible refine (HP5.out _).mono ?_); rintro e w' ⟨rfl, rfl⟩)) | (go_at_call 57; ((with_reducible refine (TP.out _).mono ?_); rintro e w' ⟨rfl, rfl⟩)) | (go_at_call 45; ((with_reducible refine (LI.out _).mono ?_); rintro e w' ⟨rfl, rfl⟩)) | (go_at_call 51; ((with_reducible refine (IB.out _).mono ?_); rintro e w' ⟨rfl, rfl⟩)))
                      rw [rounds_succ]
                      go_wp2_with (first | (go_at_call 56; ((with_reducible refine (CP1.out _).mono ?_); rintro e w' ⟨rfl, rfl⟩)) | (go_at_call 56; ((with_reducible refine (CP2.out _).mono ?_); rintro e w' ⟨rfl, rfl⟩)) | (go_at_call 27; ((with_reducible refine (HP3.out _).mono ?_); rintro e w' ⟨rfl, rfl⟩)) | (go_at_call 27; ((with_reducible refine (HP5.out _).mono ?_); rintro e w' ⟨rfl, rfl⟩)) | (go_at_call 57; ((with_reducible refine (TP.out _).mono ?_); rintro e w' ⟨rfl, rfl⟩)) | (go_at_call 45; ((with_reducible refine (LI.out _).mono ?_); rintro e w' ⟨rfl, rfl⟩)) | (go_at_call 51; ((with_reducible refine (IB.out _).mono ?_); rintro e w' ⟨rfl, rfl⟩)))
                      go_region
                      all_goals
                        go_wp2
                        go_roundw
                        case rel => exact ⟨p.drop (m + 1), out ++ p.take (m + 1), rfl, rfl, by simp; omega, HS.out, by (repeat (first | (with_reducible exact Below.refl _ _) | (with_reducible assumption) | (with_reducible refine Below.drew ?_) | (focus ((with_reducible refine Below.setCell ?_ ?_ _); rotate_left; (first | omega | (simp <;> omega)))) | (focus ((with_reducible refine Below.alloc ?_ ?_ _); rotate_left; (first | omega | (simp <;> omega)))) | exact Below.refl _ _ | assumption | refine Below.drew ?_ | refine Below.alloc ?_ (by first | omega | (simp <;> omega)) _ | refine Below.setCell ?_ (by first | omega | (simp <;> omega)) _))⟩
                        case measure => rw [strLen_S, strLen_S]; simp; omega
                  · have hst : cStep p out = ([], out) := by unfold cStep; rw [h1, h2, h3, h4, h6, h7, h8, h9]; rfl
                    have HS := Lib.hid (HC.out ▸ (cleanFrom_step (out := out) hp hst).symm)
                    clear h1 h2 h3 h5 h6 hst
                    go_wp2
                    refine wp_loop_rounds 3 ?_
                    rw [rounds_succ]
                    go_wp2_with (first | (go_at_call 56; ((with_reducible refine (CP1.out _).mono ?_); rintro e w' ⟨rfl, rfl⟩)) | (go_at_call 56; ((with_reducible refine (CP2.out _).mono ?_); rintro e w' ⟨rfl, rfl⟩)) | (go_at_call 27; ((with_reducible refine (HP3.out _).mono ?_); rintro e w' ⟨rfl, rfl⟩)) | (go_at_call 27; ((with_reducible refine (HP5.out _).mono ?_); rintro e w' ⟨rfl, rfl⟩)) | (go_at_call 57; ((with_reducible refine (TP.out _).mono ?_); rintro e w' ⟨rfl, rfl⟩)) | (go_at_call 45; ((with_reducible refine (LI.out _).mono ?_); rintro e w' ⟨rfl, rfl⟩)) | (go_at_call 51; ((with_reducible refine (IB.out _).mono ?_); rintro e w' ⟨rfl, rfl⟩)))
                    rw [rounds_succ]
                    go_wp2_with (first | (go_at_call 56; ((with_reducible refine (CP1.out _).mono ?_); rintro e w' ⟨rfl, rfl⟩)) | (go_at_call 56; ((with_reducible refine (CP2.out _).mono ?_); rintro e w' ⟨rfl, rfl⟩)) | (go_at_call 27; ((with_reducible refine (HP3.out _).mono ?_); rintro e w' ⟨rfl, rfl⟩)) | (go_at_call 27; ((with_reducible refine (HP5.out _).mono ?_); rintro e w' ⟨rfl, rfl⟩)) | (go_at_call 57; ((with_reducible refine (TP.out _).mono ?_); rintro e w' ⟨rfl, rfl⟩)) | (go_at_call 45; ((with_reducible refine (LI.out _).mono ?_); rintro e w' ⟨rfl, rfl⟩)) | (go_at_call 51; ((with_reducible refine (IB.out _).mono ?_); rintro e w' ⟨rfl, rfl⟩)))
                    rw [rounds_succ]
                    go_wp2_with (first | (go_at_call 56; ((with_reducible refine (CP1.out _).mono ?_); rintro e w' ⟨rfl, rfl⟩)) | (go_at_call 56; ((with_reducible refine (CP2.out _).mono ?_); rintro e w' ⟨rfl, rfl⟩)) | (go_at_call 27; ((with_reducible refine (HP3.out _).mono ?_); rintro e w' ⟨rfl, rfl⟩)) | (go_at_call 27; ((with_reducible refine (HP5.out _).mono ?_); rintro e w' ⟨rfl, rfl⟩)) | (go_at_call 57; ((with_reducible refine (TP.out _).mono ?_); rintro e w' ⟨rfl, rfl⟩)) | (go_at_call 45; ((with_reducible refine (LI.out _).mono ?_); rintro e w' ⟨rfl, rfl⟩)) | (go_at_call 51; ((with_reducible refine (IB.out _).mono ?_); rintro e w' ⟨rfl, rfl⟩)))
                    go_roundw
                    case rel => exact ⟨[], out, rfl, rfl, by simp; omega, HS.out, by (repeat (first | (with_reducible exact Below.refl _ _) | (with_reducible assumption) | (with_reducible refine Below.drew ?_) | (focus ((with_reducible refine Below.setCell ?_ ?_ _); rotate_left; (first | omega | (simp <;> omega)))) | (focus ((with_reducible refine Below.alloc ?_ ?_ _); rotate_left; (first | omega | (simp <;> omega)))) | exact Below.refl _ _ | assumption | refine Below.drew ?_ | refine Below.alloc ?_ (by first | omega | (simp <;> omega)) _ | refine Below.setCell ?_ (by first | omega | (simp <;> omega)) _))⟩
                    case measure => rw [strLen_S, strLen_S]; exact hpos
                · have hst : cStep p out = ([], out) := by unfold cStep; rw [h1, h2, h3, h4, h6, h7, h8]; rfl
                  have HS := Lib.hid (HC.out ▸ (cleanFrom_step (out := out) hp hst).symm)
                  clear h1 h2 h3 h5 h6 hst
                  go_wp2
                  refine wp_loop_rounds 3 ?_
                  rw [rounds_succ]
                  go_wp2_with (first | (go_at_call 56; ((with_reducible refine (CP1.out _).mono ?_); rintro e w' ⟨rfl, rfl⟩)) | (go_at_call 56; ((with_reducible refine (CP2.out _).mono ?_); rintro e w' ⟨rfl, rfl⟩)) | (go_at_call 27; ((with_reducible refine (HP3.out _).mono ?_); rintro e w' ⟨rfl, rfl⟩)) | (go_at_call 27; ((with_reducible refine (HP5.out _).mono ?_); rintro e w' ⟨rfl, rfl⟩)) | (go_at_call 57; ((with_reducible refine (TP.out _).mono ?_); rintro e w' ⟨rfl, rfl⟩)) | (go_at_call 45; ((with_reducible refine (LI.out _).mono ?_); rintro e w' ⟨rfl, rfl⟩)) | (go_at_call 51; ((with_reducible refine (IB.out _).mono ?_); rintro e w' ⟨rfl, rfl⟩)))
                  rw [rounds_succ]
                  go_wp2_with (first | (go_at_call 56; ((with_reducible refine (CP1.out _).mono ?_); rintro e w' ⟨rfl, rfl⟩)) | (go_at_call 56; ((with_reducible refine (CP2.out _).mono ?_); rintro e w' ⟨rfl, rfl⟩)) | (go_at_call 27; ((with_reducible refine (HP3.out _).mono ?_); rintro e w' ⟨rfl, rfl⟩)) | (go_at_call 27; ((with_reducible refine (HP5.out _).mono ?_); rintro e w' ⟨rfl, rfl⟩)) | (go_at_call 57; ((with_reducible refine (TP.out _).mono ?_); rintro e w' ⟨rfl, rfl⟩)) | (go_at_call 45; ((with_reducible refine (LI.out _).mono ?_); rintro e w' ⟨rfl, rfl⟩)) | (go_at_call 51; ((with_reducible refine (IB.out _).mono ?_); rintro e w' ⟨rfl, rfl⟩)))
                  rw [rounds_succ]
                  go_wp2_with (first | (go_at_call 56; ((with_reducible refine (CP1.out _).mono ?_); rintro e w' ⟨rfl, rfl⟩)) | (go_at_call 56; ((with_reducible refine (CP2.out _).mono ?_); rintro e w' ⟨rfl, rfl⟩)) | (go_at_call 27; ((with_reducible refine (HP3.out _).mono ?_); rintro e w' ⟨rfl, rfl⟩)) | (go_at_call 27; ((with_reducible refine (HP5.out _).mono ?_); rintro e w' ⟨rfl, rfl⟩)) | (go_at_call 57; ((with_reducible refine (TP.out _).mono ?_); rintro e w' ⟨rfl, rfl⟩)) | (go_at_call 45; ((with_reducible refine (LI.out _).mono ?_); rintro e w' ⟨rfl, rfl⟩)) | (go_at_call 51; ((with_reducible refine (IB.out _).mono ?_); rintro e w' ⟨rfl, rfl⟩)))
                  go_roundw
                  case rel => exact ⟨[], out, rfl, rfl, by simp; omega, HS.out, by (repeat (first | (with_reducible exact Below.refl _ _) | (with_reducible assumption) | (with_reducible refine Below.drew ?_) | (focus ((with_reducible refine Below.setCell ?_ ?_ _); rotate_left; (first | omega | (simp <;> omega)))) | (focus ((with_reducible refine Below.alloc ?_ ?_ _); rotate_left; (first | omega | (simp <;> omega)))) | exact Below.refl _ _ | assumption | refine Below.drew ?_ | refine Below.alloc ?_ (by first | omega | (simp <;> omega)) _ | refine Below.setCell ?_ (by first | omega | (simp <;> omega)) _))⟩
                  case measure => rw [strLen_S, strLen_S]; exact hpos
            · have hst : cStep p out = ([47], out) := by unfold cStep; rw [h1, h2, h3, h4]; rfl
              have hp2 : p.length = 2 := by rw [show p = [47, 46] by simpa using h4]; rfl
              have HS := Lib.hid (HC.out ▸ (cleanFrom_step (out := out) hp hst).symm)
              have HL := Lib.hid hp2
              clear h1 h2 h3 hst hp2
              go_wp2
              refine wp_loop_rounds 3 ?_
              rw [rounds_succ]
              go_wp2_with (first | (go_at_call 56; ((with_reducible refine (CP1.out _).mono ?_); rintro e w' ⟨rfl, rfl⟩)) | (go_at_call 56; ((with_reducible refine (CP2.out _).mono ?_); rintro e w' ⟨rfl, rfl⟩)) | (go_at_call 27; ((with_reducible refine (HP3.out _).mono ?_); rintro e w' ⟨rfl, rfl⟩)) | (go_at_call 27; ((with_reducible refine (HP5.out _).mono ?_); rintro e w' ⟨rfl, rfl⟩)) | (go_at_call 57; ((with_reducible refine (TP.out _).mono ?_); rintro e w' ⟨rfl, rfl⟩)) | (go_at_call 45; ((with_reducible refine (LI.out _).mono ?_); rintro e w' ⟨rfl, rfl⟩)) | (go_at_call 51; ((with_reducible refine (IB.out _).mono ?_); rintro e w' ⟨rfl, rfl⟩)))
              rw [rounds_succ]
              go_wp2_with (first | (go_at_call 56; ((with_reducible refine (CP1.out _).mono ?_); rintro e w' ⟨rfl, rfl⟩)) | (go_at_call 56; ((with_reducible refine (CP2.out _).mono ?_); rintro e w' ⟨rfl, rfl⟩)) | (go_at_call 27; ((with_reducible refine (HP3.out _).mono ?_); rintro e w' ⟨rfl, rfl⟩)) | (go_at_call 27; ((with_reducible refine (HP5.out _).mono ?_); rintro e w' ⟨rfl, rfl⟩)) | (go_at_call 57; ((with_reducible refine (TP.out _).mono ?_); rintro e w' ⟨rfl, rfl⟩)) | (go_at_call 45; ((with_reducible refine (LI.out _).mono ?_); rintro e w' ⟨rfl, rfl⟩)) | (go_at_call 51; ((with_reducible refine (IB.out _).mono ?_); rintro e w' ⟨rfl, rfl⟩)))
              rw [rounds_succ]
              go_wp2_with (first | (go_at_call 56; ((with_reducible refine (CP1.out _).mono ?_); rintro e w' ⟨rfl, rfl⟩)) | (go_at_call 56; ((with_reducible refine (CP2.out _).mono ?_); rintro e w' ⟨rfl, rfl⟩)) | (go_at_call 27; ((with_reducible refine (HP3.out _).mono ?_); rintro e w' ⟨rfl, rfl⟩)) | (go_at_call 27; ((with_reducible refine (HP5.out _).mono ?_); rintro e w' ⟨rfl, rfl⟩)) | (go_at_call 57; ((with_reducible refine (TP.out _).mono ?_); rintro e w' ⟨rfl, rfl⟩)) | (go_at_call 45; ((with_reducible refine (LI.out _).mono ?_); rintro e w' ⟨rfl, rfl⟩)) | (go_at_call 51; ((with_reducible refine (IB.out _).mono ?_); rintro e w' ⟨rfl, rfl⟩)))
              go_roundw
              case rel => exact ⟨[47], out, rfl, rfl, by have := HL.out; simp; omega, HS.out, by (repeat (first | (with_reducible exact Below.refl _ _) | (with_reducible assumption) | (with_reducible refine Below.drew ?_) | (focus ((with_reducible refine Below.setCell ?_ ?_ _); rotate_left; (first | omega | (simp <;> omega)))) | (focus ((with_reducible refine Below.alloc ?_ ?_ _); rotate_left; (first | omega | (simp <;> omega)))) | exact Below.refl _ _ | assumption | refine Below.drew ?_ | refine Below.alloc ?_ (by first | omega | (simp <;> omega)) _ | refine Below.setCell ?_ (by first | omega | (simp <;> omega)) _))⟩
              case measure => rw [strLen_S, strLen_S]; rw [HL.out]; decide
          · have HP3 := Lib.hid (hasPrefix_S h3)
            have hst : cStep p out = (p.drop 2, out) := by unfold cStep; rw [h1, h2, h3]; rfl
            have hp2 : 2 ≤ p.length := by have := hasPrefix_len h3; simp at this; omega
            have HS := Lib.hid (HC.out ▸ (cleanFrom_step (out := out) hp hst).symm)
            clear h1 h2 h3 hst
            go_wp2
            refine wp_loop_rounds 3 ?_
            rw [rounds_succ]
            go_wp2_with (first | (go_at_call 56; ((with_reducible refine (CP1.out _).mono ?_); rintro e w' ⟨rfl, rfl⟩)) | (go_at_call 56; ((with_reducible refine (CP2.out _).mono ?_); rintro e w' ⟨rfl, rfl⟩)) | (go_at_call 27; ((with_reducible refine (HP3.out _).mono ?_); rintro e w' ⟨rfl, rfl⟩)) | (go_at_call 27; ((with_reducible refine (HP5.out _).mono ?_); rintro e w' ⟨rfl, rfl⟩)) | (go_at_call 57; ((with_reducible refine (TP.out _).mono ?_); rintro e w' ⟨rfl, rfl⟩)) | (go_at_call 45; ((with_reducible refine (LI.out _).mono ?_); rintro e w' ⟨rfl, rfl⟩)) | (go_at_call 51; ((with_reducible refine (IB.out _).mono ?_); rintro e w' ⟨rfl, rfl⟩)))
            rw [rounds_succ]
            go_wp2_with (first | (go_at_call 56; ((with_reducible refine (CP1.out _).mono ?_); rintro e w' ⟨rfl, rfl⟩)) | (go_at_call 56; ((with_reducible refine (CP2.out _).mono ?_); rintro e w' ⟨rfl, rfl⟩)) | (go_at_call 27; ((with_reducible refine (HP3.out _).mono ?_); rintro e w' ⟨rfl, rfl⟩)) | (go_at_call 27; ((with_reducible refine (HP5.out _).mono ?_); rintro e w' ⟨rfl, rfl⟩)) | (go_at_call 57; ((with_reducible refine (TP.out _).mono ?_); rintro e w' ⟨rfl, rfl⟩)) | (go_at_call 45; ((with_reducible refine (LI.out _).mono ?_); rintro e w' ⟨rfl, rfl⟩)) | (go_at_call 51; ((with_reducible refine (IB.out _).mono ?_); rintro e w' ⟨rfl, rfl⟩)))
            rw [rounds_succ]
            go_wp2_with (first | (go_at_call 56; ((with_reducible refine (CP1.out _).mono ?_); rintro e w' ⟨rfl, rfl⟩)) | (go_at_call 56; ((with_reducible refine (CP2.out _).mono ?_); rintro e w' ⟨rfl, rfl⟩)) | (go_at_call 27; ((with_reducible refine (HP3.out _).mono ?_); rintro e w' ⟨rfl, rfl⟩)) | (go_at_call 27; ((with_reducible refine (HP5.out _).mono ?_); rintro e w' ⟨rfl, rfl⟩)) | (go_at_call 57; ((with_reducible refine (TP.out _).mono ?_); rintro e w' ⟨rfl, rfl⟩)) | (go_at_call 45; ((with_reducible refine (LI.out _).mono ?_); rintro e w' ⟨rfl, rfl⟩)) | (go_at_call 51; ((with_reducible refine (IB.out _).mono ?_); rintro e w' ⟨rfl, rfl⟩)))
            go_roundw
            case rel => exact ⟨p.drop 2, out, rfl, rfl, by simp; omega, HS.out, by (repeat (first | (with_reducible exact Below.refl _ _) | (with_reducible assumption) | (with_reducible refine Below.drew ?_) | (focus ((with_reducible refine Below.setCell ?_ ?_ _); rotate_left; (first | omega | (simp <;> omega)))) | (focus ((with_reducible refine Below.alloc ?_ ?_ _); rotate_left; (first | omega | (simp <;> omega)))) | exact Below.refl _ _ | assumption | refine Below.drew ?_ | refine Below.alloc ?_ (by first | omega | (simp <;> omega)) _ | refine Below.setCell ?_ (by first | omega | (simp <;> omega)) _))⟩
            case measure => rw [strLen_S, strLen_S]; simp; omega
        · obtain ⟨q, hq⟩ : ∃ q, Lib.trimPrefix p [46, 47] = q := ⟨_, rfl⟩
          have hqd : q = p.drop 2 := by rw [← hq]; unfold Lib.trimPrefix; rw [if_pos h2]; rfl
          have CP2 := Lib.hid (cutPrefix_S h2 hq)
          have HS := Lib.hid (HC.out ▸ (cleanFrom_step (out := out) hp (show cStep p out = (q, out) by unfold cStep; rw [h1, h2, hqd]; rfl)).symm)
          have hl2 : q.length < p.length := by have := hasPrefix_len h2; rw [hqd]; simp at this ⊢; omega
          clear h1 h2 hq hqd
          go_wp2
          refine wp_loop_rounds 3 ?_
          rw [rounds_succ]
          go_wp2_with (first | (go_at_call 56; ((with_reducible refine (CP1.out _).mono ?_); rintro e w' ⟨rfl, rfl⟩)) | (go_at_call 56; ((with_reducible refine (CP2.out _).mono ?_); rintro e w' ⟨rfl, rfl⟩)))
          rw [rounds_succ]
          go_wp2_with (first | (go_at_call 56; ((with_reducible refine (CP1.out _).mono ?_); rintro e w' ⟨rfl, rfl⟩)) | (go_at_call 56; ((with_reducible refine (CP2.out _).mono ?_); rintro e w' ⟨rfl, rfl⟩)))
          go_roundw
          case rel => exact ⟨q, out, rfl, rfl, by omega, HS.out, by (repeat (first | (with_reducible exact Below.refl _ _) | (with_reducible assumption) | (with_reducible refine Below.drew ?_) | (focus ((with_reducible refine Below.setCell ?_ ?_ _); rotate_left; (first | omega | (simp <;> omega)))) | (focus ((with_reducible refine Below.alloc ?_ ?_ _); rotate_left; (first | omega | (simp <;> omega)))) | exact Below.refl _ _ | assumption | refine Below.drew ?_ | refine Below.alloc ?_ (by first | omega | (simp <;> omega)) _ | refine Below.setCell ?_ (by first | omega | (simp <;> omega)) _))⟩
          case measure => rw [strLen_S, strLen_S]; exact hl2
      · obtain ⟨q, hq⟩ : ∃ q, Lib.trimPrefix p [46, 46, 47] = q := ⟨_, rfl⟩
        have hqd : q = p.drop 3 := by rw [← hq]; unfold Lib.trimPrefix; rw [if_pos h1]; rfl
        have CP := Lib.hid (cutPrefix_S h1 hq)
        have HS := Lib.hid (HC.out ▸ (cleanFrom_step (out := out) hp (show cStep p out = (q, out) by unfold cStep; rw [h1, hqd]; rfl)).symm)
        have hl2 : q.length < p.length := by have := hasPrefix_len h1; rw [hqd]; simp at this ⊢; omega
        clear h1 hq hqd
        go_wp2
        refine wp_loop_rounds 3 ?_
        rw [rounds_succ]
        go_wp2_with (go_at_call 56; refine (CP.out _).mono ?_; rintro e w' ⟨rfl, rfl⟩)
        go_roundw
        case rel => exact ⟨q, out, rfl, rfl, by omega, HS.out, by (repeat (first | (with_reducible exact Below.refl _ _) | (with_reducible assumption) | (with_reducible refine Below.drew ?_) | (focus ((with_reducible refine Below.setCell ?_ ?_ _); rotate_left; (first | omega | (simp <;> omega)))) | (focus ((with_reducible refine Below.alloc ?_ ?_ _); rotate_left; (first | omega | (simp <;> omega)))) | exact Below.refl _ _ | assumption | refine Below.drew ?_ | refine Below.alloc ?_ (by first | omega | (simp <;> omega)) _ | refine Below.setCell ?_ (by first | omega | (simp <;> omega)) _))⟩
        case measure => rw [strLen_S, strLen_S]; exact hl2
end Go.Proofs.YtpglgembgpoeiaaDoor
