/- The document's answer for texts: blank, Trim. -/
import Derived.Test.YtcfihoniocamaaaGreatDoorTextTrim2
namespace Go.Proofs.YtcfihoniocamaaaGreatDoor
open Go.RowKit Go.Sort Go.Shelf
set_option linter.unusedVariables false

theorem refBlank (c : UInt8) (w : World) : Calls Tryz.prog 46 #[.int .u8 (c.toNat : Int)] w fun e w' => e = .returned (.bool (blankB c)) ∧ w' = w := by
  have h32 : ((c.toNat : Int) == 32) = (c == 32) := by
    by_cases h : c = 32
    · subst h; rfl
    · have h' : ¬ c.toNat = 32 := fun e => h (UInt8.toNat.inj e)
      rw [show (c == 32) = false by simpa using h]; simp; omega
  have h9 : ((c.toNat : Int) == 9) = (c == 9) := by
    by_cases h : c = 9
    · subst h; rfl
    · have h' : ¬ c.toNat = 9 := fun e => h (UInt8.toNat.inj e)
      rw [show (c == 9) = false by simpa using h]; simp; omega
  obtain ⟨x, hx⟩ : ∃ x, (c == 32) = x := ⟨_, rfl⟩
  obtain ⟨y, hy⟩ : ∃ y, (c == 9) = y := ⟨_, rfl⟩
  have e : blankB c = (x || y) := by unfold blankB; rw [hx, hy]
  rw [hx] at h32
  rw [hy] at h9
  rw [e]
  clear hx hy e
  cases x <;> cases y <;>
  · go_enter Tryz.func46, Tryz.ntmps46
    go_wp2
    go_ret
    exact ⟨rfl, rfl⟩

set_option maxHeartbeats 800000 in
theorem refTrim (l : List UInt8) (hl : l.length ≤ 9223372036854775807) (w : World) : Calls Tryz.prog 24 #[.string (S l)] w fun e w' => e = .returned (.string (S (trim l))) ∧ w' = w := by
  have HB := Lib.hid (fun c W => refBlank c W)
  go_enter Tryz.func24, Tryz.ntmps24
  go_wp2
  simp only [mk_S]
  go_loop [0] (fun sv => ∃ t : List UInt8, sv = .string (S t) ∧ trimL t = trimL l ∧ t.length ≤ l.length) (fun sv => strLen sv)
  case atStart => exact ⟨l, rfl, rfl, Nat.le_refl _⟩
  case round =>
    obtain ⟨t, rfl, ht, htl⟩ := hrel
    have HT := Lib.hid ht
    clear ht
    cases t with
    | nil =>
      go_wp2
      go_loop [0] (fun sv => ∃ t' : List UInt8, sv = .string (S t') ∧ trimR t' = trim l ∧ t'.length ≤ l.length) (fun sv => strLen sv)
      case atStart => exact ⟨_, rfl, by rw [trim, ← trim_swap, ← HT.out, trimL_nil], htl⟩
      case round =>
        obtain ⟨t', rfl, ht', htl'⟩ := hrel
        have HT' := Lib.hid ht'
        clear ht'
        rcases snoc_cases t' with rfl | ⟨t', d, rfl⟩
        · go_wp2
          go_ret
          exact ⟨by rw [← HT'.out]; rfl, rfl⟩
        · have hb1 := bAt_snoc t' d
          have htl2 : t'.length + 1 ≤ l.length := by simpa using htl'
          have hcall' := fun W => HB.out d W
          obtain ⟨v', hv'⟩ : ∃ v', blankB d = v' := ⟨_, rfl⟩
          rw [hv'] at hcall'
          have HV' := Lib.hid hv'
          clear hv'
          cases v' with
          | true =>
            go_wp2_with (go_at_call 46; refine (hcall' _).mono ?_; rintro e w' ⟨rfl, rfl⟩)
            go_round
            case rel => exact ⟨t', by simp, by rw [← HT'.out, trimR_blank HV'.out], by omega⟩
            case measure => simp [strLen_S]
          | false =>
            go_wp2_with (go_at_call 46; refine (hcall' _).mono ?_; rintro e w' ⟨rfl, rfl⟩)
            go_ret
            exact ⟨by rw [← HT'.out, trimR_stay HV'.out]; rfl, rfl⟩
    | cons c t =>
      have hb0 : bAt (c :: t) 0 = (c.toNat : Int) := rfl
      have hcall := HB.out c w
      obtain ⟨v, hv⟩ : ∃ v, blankB c = v := ⟨_, rfl⟩
      rw [hv] at hcall
      have HV := Lib.hid hv
      clear hv
      cases v with
      | true =>
        go_wp2_with (go_at_call 46; refine hcall.mono ?_; rintro e w' ⟨rfl, rfl⟩)
        go_round
        case rel => exact ⟨t, by simp, by rw [← HT.out, trimL_blank HV.out], by simp at htl; omega⟩
        case measure => simp [strLen_S]
      | false =>
        go_wp2_with (go_at_call 46; refine hcall.mono ?_; rintro e w' ⟨rfl, rfl⟩)
        go_loop [0] (fun sv => ∃ t' : List UInt8, sv = .string (S t') ∧ trimR t' = trim l ∧ t'.length ≤ l.length) (fun sv => strLen sv)
        case atStart => exact ⟨_, rfl, by rw [trim, ← trim_swap, ← HT.out, trimL_stay HV.out], htl⟩
        case round =>
          obtain ⟨t', rfl, ht', htl'⟩ := hrel
          have HT' := Lib.hid ht'
          clear ht'
          rcases snoc_cases t' with rfl | ⟨t', d, rfl⟩
          · go_wp2
            go_ret
            exact ⟨by rw [← HT'.out]; rfl, rfl⟩
          · have hb1 := bAt_snoc t' d
            have htl2 : t'.length + 1 ≤ l.length := by simpa using htl'
            have hcall' := fun W => HB.out d W
            obtain ⟨v', hv'⟩ : ∃ v', blankB d = v' := ⟨_, rfl⟩
            rw [hv'] at hcall'
            have HV' := Lib.hid hv'
            clear hv'
            cases v' with
            | true =>
              go_wp2_with (go_at_call 46; refine (hcall' _).mono ?_; rintro e w' ⟨rfl, rfl⟩)
              go_round
              case rel => exact ⟨t', by simp, by rw [← HT'.out, trimR_blank HV'.out], by omega⟩
              case measure => simp [strLen_S]
            | false =>
              go_wp2_with (go_at_call 46; refine (hcall' _).mono ?_; rintro e w' ⟨rfl, rfl⟩)
              go_ret
              exact ⟨by rw [← HT'.out, trimR_stay HV'.out]; rfl, rfl⟩
end Go.Proofs.YtcfihoniocamaaaGreatDoor
