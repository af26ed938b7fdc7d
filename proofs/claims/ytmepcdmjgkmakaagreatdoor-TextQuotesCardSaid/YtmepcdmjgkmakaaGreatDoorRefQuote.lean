/- The document's text with quotes: the walk. -/
import Derived.Test.YtmepcdmjgkmakaaGreatDoorQuoMath
import Derived.Test.YtmepcdmjgkmakaaGreatDoorRefCtl
namespace Go.Proofs.YtmepcdmjgkmakaaGreatDoor
open Go.RowKit Go.Sort Go.Shelf
set_option linter.unusedVariables false

set_option maxHeartbeats 1600000 in
set_option maxRecDepth 100000 in
theorem refQuote (s : List UInt8) (hs : s.length ≤ 1000000) (w : World) : Calls Tryz.prog 6 #[.string (S s)] w fun e w' => e = .returned (.tuple #[.string (S (if s.any ctlB = true then [] else quoteT s)), .int .i64 (if s.any ctlB = true then 11 else 0)]) ∧ w' = w := by
  have hs1 : (s.length : Int) ≤ 1000000 := by omega
  have QY := Lib.hid (fun (h : s.any ctlB = true) => (show (if s.any ctlB = true then ([] : List UInt8) else quoteT s) = [] ∧ (if s.any ctlB = true then (11 : Int) else 0) = 11 from ⟨if_pos h, if_pos h⟩))
  have QN := Lib.hid (fun (h : s.any ctlB = false) => (show (if s.any ctlB = true then ([] : List UInt8) else quoteT s) = quoteT s ∧ (if s.any ctlB = true then (11 : Int) else 0) = 0 from ⟨if_neg (by rw [h]; simp), if_neg (by rw [h]; simp)⟩))
  obtain ⟨qq, hqq⟩ : ∃ q, (if s.any ctlB = true then ([] : List UInt8) else quoteT s) = q := ⟨_, rfl⟩
  obtain ⟨qe, hqe⟩ : ∃ q, (if s.any ctlB = true then (11 : Int) else 0) = q := ⟨_, rfl⟩
  rw [hqq, hqe] at QY QN ⊢
  clear hqq hqe
  have CT := Lib.hid (fun c W => refControl c W)
  go_enter Tryz.func6, Tryz.ntmps6
  go_wp2
  simp only [mk_S]
  go_loop [4, 5] (fun ov iv => ∃ (k : Nat) (out : List UInt8), iv = .int .i64 k ∧ k ≤ s.length ∧ ov = .string (S out) ∧ out = 34 :: (s.take k).flatMap escB ∧ out.length ≤ 2 * k + 1 ∧ (s.take k).any ctlB = false) (fun _ iv => s.length - (intOf iv).toNat)
  case atStart => exact ⟨0, _, rfl, Nat.zero_le _, rfl, rfl, by simp, rfl⟩
  case round =>
    obtain ⟨k, out, rfl, hk, rfl, hout, hol, hall⟩ := hrel
    have HO := Lib.hid hout
    have HA := Lib.hid hall
    clear hout hall
    by_cases hlt : k < s.length
    · have hbk : bAt s k = (s[k].toNat : Int) := bAt_eq hlt
      have hsl : (s.take (k + 1)).drop k = [s[k]] := by
        rw [List.take_succ_eq_append_getElem hlt, List.drop_append]
        simp [Nat.le_of_lt hlt]
      have htk : 34 :: (s.take (k + 1)).flatMap escB = out ++ escB s[k] := by
        rw [List.take_succ_eq_append_getElem hlt, List.flatMap_append, HO.out]; simp
      have hany : (s.take (k + 1)).any ctlB = ctlB s[k] := by
        rw [List.take_succ_eq_append_getElem hlt, List.any_append, HA.out]; simp
      have hyes : ctlB s[k] = true → s.any ctlB = true := fun h => List.any_eq_true.2 ⟨_, List.getElem_mem hlt, h⟩
      obtain ⟨c, hc⟩ : ∃ c, s[k] = c := ⟨_, rfl⟩
      rw [hc] at hbk hsl htk hany hyes
      have C := fun W => CT.out c W
      obtain ⟨z, hz⟩ : ∃ z, ctlB c = z := ⟨_, rfl⟩
      rw [hz] at C hany hyes
      have C := Lib.hid C
      have HT := Lib.hid htk
      have HAN := Lib.hid hany
      have HY := Lib.hid hyes
      clear hc hz htk hany hyes
      cases z with
      | true =>
        go_wp2_with (go_at_call 15; refine (C.out _).mono ?_; rintro e w' ⟨rfl, hw'⟩; obtain rfl := hw'.symm)
        obtain ⟨rfl, rfl⟩ := QY.out (HY.out trivial)
        go_ret2
        exact ⟨rfl, rfl⟩
      | false =>
        by_cases h34 : c = 34
        · subst h34
          have hb : bAt s k = 34 := hbk
          clear hbk
          go_wp2_with (go_at_call 15; refine (C.out _).mono ?_; rintro e w' ⟨rfl, hw'⟩; obtain rfl := hw'.symm)
          go_round
          case rel => exact ⟨k + 1, out ++ [92, 34], by go_num, by omega, by simp, by rw [HT.out]; rfl, by simp; omega, HAN.out⟩
          case measure => simp [intOf]; omega
        · have hn34 : ((c.toNat : Int) == 34) = false := by
            simp only [beq_eq_false_iff_ne, ne_eq]; intro e; exact h34 (UInt8.toNat.inj (Int.ofNat.inj e))
          by_cases h92 : c = 92
          · subst h92
            have hb : bAt s k = 92 := hbk
            clear hbk
            go_wp2_with (go_at_call 15; refine (C.out _).mono ?_; rintro e w' ⟨rfl, hw'⟩; obtain rfl := hw'.symm)
            go_round
            case rel => exact ⟨k + 1, out ++ [92, 92], by go_num, by omega, by simp, by rw [HT.out]; rfl, by simp; omega, HAN.out⟩
            case measure => simp [intOf]; omega
          · have hn92 : ((c.toNat : Int) == 92) = false := by
              simp only [beq_eq_false_iff_ne, ne_eq]; intro e; exact h92 (UInt8.toNat.inj (Int.ofNat.inj e))
            have HE := Lib.hid (show escB c = [c] by unfold escB; rw [if_neg (by simp [h34, h92])])
            clear h34 h92
            go_wp2_with (go_at_call 15; refine (C.out _).mono ?_; rintro e w' ⟨rfl, hw'⟩; obtain rfl := hw'.symm)
            go_round
            case rel => exact ⟨k + 1, out ++ [c], by go_num, by omega, by simp, by rw [HT.out, HE.out], by simp; omega, HAN.out⟩
            case measure => simp [intOf]; omega
    · obtain rfl : k = s.length := by omega
      have h := HA.out
      rw [List.take_length] at h
      have h2 := HO.out
      rw [List.take_length] at h2
      have H := Lib.hid h
      have H2 := Lib.hid h2
      clear h h2
      go_wp2
      go_ret2
      obtain ⟨rfl, rfl⟩ := QN.out H.out
      exact ⟨by rw [H2.out]; simp [quoteT], rfl⟩

end Go.Proofs.YtmepcdmjgkmakaaGreatDoor
