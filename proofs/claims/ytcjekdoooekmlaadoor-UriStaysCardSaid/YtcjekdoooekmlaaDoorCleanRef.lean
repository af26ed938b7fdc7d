/- The walk of the reference's Clean, and the law UriCleans. -/
import Derived.Test.YtcjekdoooekmlaaDoorCleanWalk
import Derived.Test.YtcjekdoooekmlaaDoorUriRef
namespace Go.Proofs.YtcjekdoooekmlaaDoor
open Go.RowKit
set_option linter.unusedVariables false

theorem pre3 {p : List UInt8} (h : Lib.hasPrefix p [47, 46, 47] = true) : p.drop 2 = 47 :: p.drop 3 := by
  unfold Lib.hasPrefix at h
  rw [List.isPrefixOf_iff_prefix] at h
  obtain ⟨t, rfl⟩ := h
  rfl
theorem pre4 {p : List UInt8} (h : Lib.hasPrefix p [47, 46, 46, 47] = true) : Lib.trimPrefix (p.drop 3) [47] = p.drop 4 := by
  unfold Lib.hasPrefix at h
  rw [List.isPrefixOf_iff_prefix] at h
  obtain ⟨t, rfl⟩ := h
  rfl
/-- What stands before the cut is no slash; at the cut there is one, or the path ends. -/
theorem cutAt_spec {p : List UInt8} (h : p ≠ []) : (∀ k, 1 ≤ k → k < cStep.cutAt p → bAt p k ≠ 47) ∧ (cStep.cutAt p < p.length → bAt p (cStep.cutAt p) = 47) := by
  have hp : 0 < p.length := List.length_pos_iff.2 h
  have hat : ∀ k, (p.drop 1)[k]? = p[1 + k]? := fun k => List.getElem?_drop
  unfold cStep.cutAt
  by_cases hn : Lib.indexByte (p.drop 1) 47 = -1
  · rw [if_pos hn]
    refine ⟨fun k h1 h2 => ?_, fun h => absurd h (by omega)⟩
    have := Lib.indexByte_none hn (k - 1)
    rw [hat, show 1 + (k - 1) = k by omega, List.getElem?_eq_getElem h2] at this
    rw [bAt_eq h2]
    intro e
    exact this (by rw [show p[k] = 47 from UInt8.toNat.inj (by have e' : (p[k].toNat : Int) = 47 := e; show p[k].toNat = 47; omega)])
  · rw [if_neg hn]
    have := Lib.indexByte_ge (p.drop 1) 47
    obtain ⟨i, hi⟩ : ∃ i : Nat, Lib.indexByte (p.drop 1) 47 = i := ⟨(Lib.indexByte (p.drop 1) 47).toNat, by omega⟩
    obtain ⟨h1, h2⟩ := Lib.indexByte_some hi
    rw [hat] at h1
    have hi1 : 1 + i < p.length := (List.getElem?_eq_some_iff.1 h1).1
    rw [hi, show ((i : Int) + 1).toNat = i + 1 by omega]
    refine ⟨fun k hk1 hk2 => ?_, fun _ => ?_⟩
    · have h3 := h2 (k - 1) (by omega)
      have hkl : k < p.length := by omega
      rw [hat, show 1 + (k - 1) = k by omega, List.getElem?_eq_getElem hkl] at h3
      rw [bAt_eq hkl]
      intro e
      exact h3 (by rw [show p[k] = 47 from UInt8.toNat.inj (by have e' : (p[k].toNat : Int) = 47 := e; show p[k].toNat = 47; omega)])
    · rw [show i + 1 = 1 + i by omega, bAt_eq hi1]
      rw [List.getElem?_eq_getElem hi1] at h1
      rw [show p[1 + i] = 47 from Option.some.inj h1]; rfl

set_option maxHeartbeats 1600000 in
set_option maxRecDepth 100000 in
theorem ref_clean_any {l r : List UInt8} (hl : l.length ≤ 100000) (hr : cleanL l = r) (w : World) :
    Calls Tryd.prog 17 #[.string (S l)] w fun e w' => e = .returned (.string (S r)) ∧ w' = w := by
  go_enter Tryd.func17, Tryd.ntmps17
  go_wp2
  simp only [mk_S]
  go_loop [0, 3] (fun pv ov => ∃ p out : List UInt8, pv = .string (S p) ∧ ov = .string (S out) ∧ p.length + out.length ≤ l.length ∧ cleanFrom p out = r) (fun pv _ => strLen pv)
  case atStart => exact ⟨l, [], rfl, rfl, by simp, hr⟩
  case round =>
    obtain ⟨p, out, rfl, rfl, hlen, hc⟩ := hrel
    by_cases hp : p = []
    · subst hp
      obtain rfl : out = r := hc
      go_wp2
      go_ret
      exact ⟨rfl, rfl⟩
    · have hne : (p == []) = false := by simpa using hp
      have hne2 : p.isEmpty = false := by simpa using hp
      have HC := Lib.hid hc
      clear hc
      have hpos : 0 < p.length := List.length_pos_iff.2 hp
      have BG : ∀ {t : List UInt8} {b : Bool}, t.length ≤ 10 → Lib.hasPrefix p t = b → Hid (∀ w, Calls Tryd.prog 16 #[.string (S p), .string (S t)] w fun e w' => e = .returned (.bool b) ∧ w' = w) :=
        fun ht h => Lib.hid (begins_S (by omega) (by omega) h)
      have hl2 := cStep_lt p out hp
      have hl3 := cStep_out p out hp
      have hstep : ∀ {q o : List UInt8}, cStep p out = (q, o) → Hid (cleanFrom q o = r ∧ q.length < p.length ∧ q.length + o.length ≤ l.length) := fun h => by
        refine Lib.hid ⟨?_, ?_, ?_⟩
        · rw [← HC.out]; exact (cleanFrom_step hp h).symm
        · rw [h] at hl2; exact hl2
        · rw [h] at hl3; have := hlen; simp only at hl3; omega
      clear hl2 hl3
      cases h1 : Lib.hasPrefix p [46, 46, 47]
      · have B1 := BG (by decide) h1
        cases h2 : Lib.hasPrefix p [46, 47]
        · have B2 := BG (by decide) h2
          cases h3 : Lib.hasPrefix p [47, 46, 47]
          · have B3 := BG (by decide) h3
            cases h4 : p == [47, 46]
            · cases h5 : Lib.hasPrefix p [47, 46, 46, 47]
              · have B4 := BG (by decide) h5
                cases h7 : p == [47, 46, 46]
                · cases h8 : p == [46]
                  · cases h9 : p == [46, 46]
                    · obtain ⟨m, hm⟩ : ∃ m, cStep.cutAt p = m := ⟨_, rfl⟩
                      have HS := hstep (show cStep p out = (p.drop m, out ++ p.take m) by unfold cStep; rw [h1, h2, h3, h4, h5, h7, h8, h9, hm]; rfl)
                      obtain ⟨hm1, hm2⟩ := cutAt_lo hp
                      obtain ⟨sp1, sp2⟩ := cutAt_spec hp
                      rw [hm] at hm1 hm2 sp1 sp2
                      have SP1 := Lib.hid sp1
                      have SP2 := Lib.hid sp2
                      clear h1 h2 h3 h5 BG hstep sp1 sp2 hm
                      go_wp2_with (first | (go_at_call 16; ((with_reducible refine (B1.out _).mono ?_); rintro e w' ⟨rfl, rfl⟩)) | (go_at_call 16; ((with_reducible refine (B2.out _).mono ?_); rintro e w' ⟨rfl, rfl⟩)) | (go_at_call 16; ((with_reducible refine (B3.out _).mono ?_); rintro e w' ⟨rfl, rfl⟩)) | (go_at_call 16; ((with_reducible refine (B4.out _).mono ?_); rintro e w' ⟨rfl, rfl⟩)) | (go_at_call 18; ((with_reducible refine (LA.out _).mono ?_); rintro e w' ⟨rfl, rfl⟩)))
                      go_loop [5] (fun nv => ∃ k : Nat, 1 ≤ k ∧ k ≤ m ∧ nv = .int .i64 k) (fun nv => m - (intOf nv).toNat)
                      case atStart => exact ⟨1, Nat.le_refl _, hm1, rfl⟩
                      case round =>
                        obtain ⟨k, hk1, hk2, rfl⟩ := hrel
                        by_cases hlt : k < m
                        · have hb : (bAt p k != 47) = true := by have := SP1.out k hk1 hlt; simpa using this
                          go_wp2
                          go_round
                          case rel => exact ⟨k + 1, by omega, by omega, by go_num⟩
                          case measure => simp [intOf]; omega
                        · obtain rfl : k = m := by omega
                          by_cases hkl : k < p.length
                          · have hb : (bAt p k != 47) = false := by have := SP2.out hkl; simp [this]
                            go_wp2
                            (go_round; (case rel => exact ⟨_, _, rfl, rfl, HS.out.2.2, HS.out.1⟩); (case measure => (rw [strLen_S, strLen_S]; exact HS.out.2.1)))
                          · obtain rfl : k = p.length := by omega
                            have htk : p.take p.length = p := List.take_length
                            have HS2 := HS.out
                            rw [htk, List.drop_length] at HS2
                            have HS := Lib.hid HS2
                            clear HS2
                            go_wp2
                            (go_round; (case rel => exact ⟨_, _, rfl, rfl, HS.out.2.2, HS.out.1⟩); (case measure => (rw [strLen_S, strLen_S]; exact HS.out.2.1)))
                    · have HS := hstep (show cStep p out = ([], out) by unfold cStep; rw [h1, h2, h3, h4, h5, h7, h8, h9]; rfl)
                      clear h1 h2 h3 h5 BG hstep
                      go_wp2_with (first | (go_at_call 16; ((with_reducible refine (B1.out _).mono ?_); rintro e w' ⟨rfl, rfl⟩)) | (go_at_call 16; ((with_reducible refine (B2.out _).mono ?_); rintro e w' ⟨rfl, rfl⟩)) | (go_at_call 16; ((with_reducible refine (B3.out _).mono ?_); rintro e w' ⟨rfl, rfl⟩)) | (go_at_call 16; ((with_reducible refine (B4.out _).mono ?_); rintro e w' ⟨rfl, rfl⟩)) | (go_at_call 18; ((with_reducible refine (LA.out _).mono ?_); rintro e w' ⟨rfl, rfl⟩)))
                      (go_round; (case rel => exact ⟨_, _, rfl, rfl, HS.out.2.2, HS.out.1⟩); (case measure => (rw [strLen_S, strLen_S]; exact HS.out.2.1)))
                  · have HS := hstep (show cStep p out = ([], out) by unfold cStep; rw [h1, h2, h3, h4, h5, h7, h8]; rfl)
                    clear h1 h2 h3 h5 BG hstep
                    go_wp2_with (first | (go_at_call 16; ((with_reducible refine (B1.out _).mono ?_); rintro e w' ⟨rfl, rfl⟩)) | (go_at_call 16; ((with_reducible refine (B2.out _).mono ?_); rintro e w' ⟨rfl, rfl⟩)) | (go_at_call 16; ((with_reducible refine (B3.out _).mono ?_); rintro e w' ⟨rfl, rfl⟩)) | (go_at_call 16; ((with_reducible refine (B4.out _).mono ?_); rintro e w' ⟨rfl, rfl⟩)) | (go_at_call 18; ((with_reducible refine (LA.out _).mono ?_); rintro e w' ⟨rfl, rfl⟩)))
                    (go_round; (case rel => exact ⟨_, _, rfl, rfl, HS.out.2.2, HS.out.1⟩); (case measure => (rw [strLen_S, strLen_S]; exact HS.out.2.1)))
                · have ht : Lib.trimPrefix (p.drop 3) [47] = [] := by rw [show p = [47, 46, 46] by simpa using h7]; rfl
                  obtain ⟨k, hk⟩ : ∃ k, lastL out 47 = k := ⟨_, rfl⟩
                  have LA := Lib.hid (last_S (c := 47) (ci := 47) rfl (show out.length ≤ 4611686018427387903 by omega) hk)
                  have hk1 := lastL_lo out 47
                  have hk2 := lastL_hi out 47
                  rw [hk] at hk1 hk2
                  by_cases hk0 : k < 0
                  · have HS := hstep (show cStep p out = ([47], []) by unfold cStep; rw [h1, h2, h3, h4, h5, h7, ht, hk, show (max k 0).toNat = 0 by omega]; rfl)
                    clear h1 h2 h3 h5 BG hstep hk ht
                    go_wp2_with (first | (go_at_call 16; ((with_reducible refine (B1.out _).mono ?_); rintro e w' ⟨rfl, rfl⟩)) | (go_at_call 16; ((with_reducible refine (B2.out _).mono ?_); rintro e w' ⟨rfl, rfl⟩)) | (go_at_call 16; ((with_reducible refine (B3.out _).mono ?_); rintro e w' ⟨rfl, rfl⟩)) | (go_at_call 16; ((with_reducible refine (B4.out _).mono ?_); rintro e w' ⟨rfl, rfl⟩)) | (go_at_call 18; ((with_reducible refine (LA.out _).mono ?_); rintro e w' ⟨rfl, rfl⟩)))
                    (go_round; (case rel => exact ⟨_, _, rfl, rfl, HS.out.2.2, HS.out.1⟩); (case measure => (rw [strLen_S, strLen_S]; exact HS.out.2.1)))
                  · obtain ⟨m, rfl⟩ : ∃ m : Nat, k = m := ⟨k.toNat, by omega⟩
                    have HS := hstep (show cStep p out = ([47], out.take m) by unfold cStep; rw [h1, h2, h3, h4, h5, h7, ht, hk, show (max (m : Int) 0).toNat = m by omega]; rfl)
                    clear h1 h2 h3 h5 BG hstep hk ht
                    go_wp2_with (first | (go_at_call 16; ((with_reducible refine (B1.out _).mono ?_); rintro e w' ⟨rfl, rfl⟩)) | (go_at_call 16; ((with_reducible refine (B2.out _).mono ?_); rintro e w' ⟨rfl, rfl⟩)) | (go_at_call 16; ((with_reducible refine (B3.out _).mono ?_); rintro e w' ⟨rfl, rfl⟩)) | (go_at_call 16; ((with_reducible refine (B4.out _).mono ?_); rintro e w' ⟨rfl, rfl⟩)) | (go_at_call 18; ((with_reducible refine (LA.out _).mono ?_); rintro e w' ⟨rfl, rfl⟩)))
                    (go_round; (case rel => exact ⟨_, _, rfl, rfl, HS.out.2.2, HS.out.1⟩); (case measure => (rw [strLen_S, strLen_S]; exact HS.out.2.1)))
              · have B4 := BG (by decide) h5
                have ht := pre4 h5
                have hp4 : 4 ≤ p.length := by have := hasPrefix_len h5; simpa using this
                have h7 : (p == [47, 46, 46]) = false := by
                  cases h : (p == [47, 46, 46])
                  · rfl
                  · rw [show p = [47, 46, 46] by simpa using h] at hp4; simp at hp4
                obtain ⟨k, hk⟩ : ∃ k, lastL out 47 = k := ⟨_, rfl⟩
                have LA := Lib.hid (last_S (c := 47) (ci := 47) rfl (show out.length ≤ 4611686018427387903 by omega) hk)
                have hk1 := lastL_lo out 47
                have hk2 := lastL_hi out 47
                rw [hk] at hk1 hk2
                by_cases hk0 : k < 0
                · have HS := hstep (show cStep p out = (47 :: p.drop 4, []) by unfold cStep; rw [h1, h2, h3, h4, h5, ht, hk, show (max k 0).toNat = 0 by omega]; rfl)
                  clear h1 h2 h3 h5 BG hstep hk ht
                  go_wp2_with (first | (go_at_call 16; ((with_reducible refine (B1.out _).mono ?_); rintro e w' ⟨rfl, rfl⟩)) | (go_at_call 16; ((with_reducible refine (B2.out _).mono ?_); rintro e w' ⟨rfl, rfl⟩)) | (go_at_call 16; ((with_reducible refine (B3.out _).mono ?_); rintro e w' ⟨rfl, rfl⟩)) | (go_at_call 16; ((with_reducible refine (B4.out _).mono ?_); rintro e w' ⟨rfl, rfl⟩)) | (go_at_call 18; ((with_reducible refine (LA.out _).mono ?_); rintro e w' ⟨rfl, rfl⟩)))
                  (go_round; (case rel => exact ⟨_, _, rfl, rfl, HS.out.2.2, HS.out.1⟩); (case measure => (rw [strLen_S, strLen_S]; exact HS.out.2.1)))
                · obtain ⟨m, rfl⟩ : ∃ m : Nat, k = m := ⟨k.toNat, by omega⟩
                  have HS := hstep (show cStep p out = (47 :: p.drop 4, out.take m) by unfold cStep; rw [h1, h2, h3, h4, h5, ht, hk, show (max (m : Int) 0).toNat = m by omega]; rfl)
                  clear h1 h2 h3 h5 BG hstep hk ht
                  go_wp2_with (first | (go_at_call 16; ((with_reducible refine (B1.out _).mono ?_); rintro e w' ⟨rfl, rfl⟩)) | (go_at_call 16; ((with_reducible refine (B2.out _).mono ?_); rintro e w' ⟨rfl, rfl⟩)) | (go_at_call 16; ((with_reducible refine (B3.out _).mono ?_); rintro e w' ⟨rfl, rfl⟩)) | (go_at_call 16; ((with_reducible refine (B4.out _).mono ?_); rintro e w' ⟨rfl, rfl⟩)) | (go_at_call 18; ((with_reducible refine (LA.out _).mono ?_); rintro e w' ⟨rfl, rfl⟩)))
                  (go_round; (case rel => exact ⟨_, _, rfl, rfl, HS.out.2.2, HS.out.1⟩); (case measure => (rw [strLen_S, strLen_S]; exact HS.out.2.1)))
            · have HS := hstep (show cStep p out = ([47], out) by unfold cStep; rw [h1, h2, h3, h4]; rfl)
              clear h1 h2 h3 BG hstep
              go_wp2_with (first | (go_at_call 16; ((with_reducible refine (B1.out _).mono ?_); rintro e w' ⟨rfl, rfl⟩)) | (go_at_call 16; ((with_reducible refine (B2.out _).mono ?_); rintro e w' ⟨rfl, rfl⟩)) | (go_at_call 16; ((with_reducible refine (B3.out _).mono ?_); rintro e w' ⟨rfl, rfl⟩)) | (go_at_call 16; ((with_reducible refine (B4.out _).mono ?_); rintro e w' ⟨rfl, rfl⟩)) | (go_at_call 18; ((with_reducible refine (LA.out _).mono ?_); rintro e w' ⟨rfl, rfl⟩)))
              (go_round; (case rel => exact ⟨_, _, rfl, rfl, HS.out.2.2, HS.out.1⟩); (case measure => (rw [strLen_S, strLen_S]; exact HS.out.2.1)))
          · have B3 := BG (by decide) h3
            have hp3 : 3 ≤ p.length := by have := hasPrefix_len h3; simpa using this
            have HS := hstep (show cStep p out = (47 :: p.drop 3, out) by unfold cStep; rw [h1, h2, h3, ← pre3 h3]; rfl)
            clear h1 h2 h3 BG hstep
            go_wp2_with (first | (go_at_call 16; ((with_reducible refine (B1.out _).mono ?_); rintro e w' ⟨rfl, rfl⟩)) | (go_at_call 16; ((with_reducible refine (B2.out _).mono ?_); rintro e w' ⟨rfl, rfl⟩)) | (go_at_call 16; ((with_reducible refine (B3.out _).mono ?_); rintro e w' ⟨rfl, rfl⟩)) | (go_at_call 16; ((with_reducible refine (B4.out _).mono ?_); rintro e w' ⟨rfl, rfl⟩)) | (go_at_call 18; ((with_reducible refine (LA.out _).mono ?_); rintro e w' ⟨rfl, rfl⟩)))
            (go_round; (case rel => exact ⟨_, _, rfl, rfl, HS.out.2.2, HS.out.1⟩); (case measure => (rw [strLen_S, strLen_S]; exact HS.out.2.1)))
        · have B2 := BG (by decide) h2
          have hp2 : 2 ≤ p.length := by have := hasPrefix_len h2; simpa using this
          have HS := hstep (show cStep p out = (p.drop 2, out) by unfold cStep; rw [h1, h2]; rfl)
          clear h1 h2 BG hstep
          go_wp2_with (first | (go_at_call 16; ((with_reducible refine (B1.out _).mono ?_); rintro e w' ⟨rfl, rfl⟩)) | (go_at_call 16; ((with_reducible refine (B2.out _).mono ?_); rintro e w' ⟨rfl, rfl⟩)) | (go_at_call 16; ((with_reducible refine (B3.out _).mono ?_); rintro e w' ⟨rfl, rfl⟩)) | (go_at_call 16; ((with_reducible refine (B4.out _).mono ?_); rintro e w' ⟨rfl, rfl⟩)) | (go_at_call 18; ((with_reducible refine (LA.out _).mono ?_); rintro e w' ⟨rfl, rfl⟩)))
          (go_round; (case rel => exact ⟨_, _, rfl, rfl, HS.out.2.2, HS.out.1⟩); (case measure => (rw [strLen_S, strLen_S]; exact HS.out.2.1)))
      · have B1 := BG (by decide) h1
        have hp3 : 3 ≤ p.length := by have := hasPrefix_len h1; simpa using this
        have HS := hstep (show cStep p out = (p.drop 3, out) by unfold cStep; rw [h1]; rfl)
        clear h1 BG hstep
        go_wp2_with (first | (go_at_call 16; ((with_reducible refine (B1.out _).mono ?_); rintro e w' ⟨rfl, rfl⟩)) | (go_at_call 16; ((with_reducible refine (B2.out _).mono ?_); rintro e w' ⟨rfl, rfl⟩)) | (go_at_call 16; ((with_reducible refine (B3.out _).mono ?_); rintro e w' ⟨rfl, rfl⟩)) | (go_at_call 16; ((with_reducible refine (B4.out _).mono ?_); rintro e w' ⟨rfl, rfl⟩)) | (go_at_call 18; ((with_reducible refine (LA.out _).mono ?_); rintro e w' ⟨rfl, rfl⟩)))
        (go_round; (case rel => exact ⟨_, _, rfl, rfl, HS.out.2.2, HS.out.1⟩); (case measure => (rw [strLen_S, strLen_S]; exact HS.out.2.1)))

theorem clean_alive (w : World) : Calls Tryd.prog 9 #[] w fun e w' => e = .returned (.bool true) ∧ Below w.heap.size w w' := by
  have hC := Lib.hid (clean_any (l := [47, 97, 47, 98, 47, 46, 46, 47, 99, 47, 46, 47, 100]) (r := [47, 97, 47, 99, 47, 100]) (by decide) (by rfl))
  go_enter Tryd.func9, Tryd.ntmps9
  go_wp2_with fail
  refine Calls.mono (hC.out _) ?_
  rintro e w1 ⟨rfl, hb_w1⟩
  have hz_w1 := hb_w1.size
  try simp at hz_w1
  have hB_w1 : Below w.heap.size w w1 := Below.trans (by (repeat (first | (with_reducible exact Below.refl _ _) | (with_reducible assumption) | (with_reducible refine Below.drew ?_) | (focus ((with_reducible refine Below.setCell ?_ ?_ _); rotate_left; (first | omega | (simp <;> omega)))) | (focus ((with_reducible refine Below.alloc ?_ ?_ _); rotate_left; (first | omega | (simp <;> omega)))) | exact Below.refl _ _ | assumption | refine Below.drew ?_ | refine Below.alloc ?_ (by first | omega | (simp <;> omega)) _ | refine Below.setCell ?_ (by first | omega | (simp <;> omega)) _))) (hb_w1.mono (by first | omega | (simp <;> omega)))
  clear hb_w1
  go_wp2
  go_ret
  exact ⟨rfl, by (repeat (first | (with_reducible exact Below.refl _ _) | (with_reducible assumption) | (with_reducible refine Below.drew ?_) | (focus ((with_reducible refine Below.setCell ?_ ?_ _); rotate_left; (first | omega | (simp <;> omega)))) | (focus ((with_reducible refine Below.alloc ?_ ?_ _); rotate_left; (first | omega | (simp <;> omega)))) | exact Below.refl _ _ | assumption | refine Below.drew ?_ | refine Below.alloc ?_ (by first | omega | (simp <;> omega)) _ | refine Below.setCell ?_ (by first | omega | (simp <;> omega)) _))⟩

end Go.Proofs.YtcjekdoooekmlaaDoor
