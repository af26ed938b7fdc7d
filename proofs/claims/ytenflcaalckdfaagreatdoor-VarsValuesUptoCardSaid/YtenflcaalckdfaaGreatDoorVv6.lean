/- strings.Trim at a cutset of two bytes; text.Trim. The document's answer for texts: blank, Trim. -/
import Derived.Test.YtenflcaalckdfaaGreatDoorVv5
namespace Go.Proofs.YtenflcaalckdfaaGreatDoor
open Go.RowKit Go.Sort Go.Shelf
set_option linter.unusedVariables false

set_option maxHeartbeats 800000 in
set_option maxRecDepth 100000 in
theorem stringsTrim (l : List UInt8) (hl : l.length ≤ 9223372036854775807) (h0 : l ≠ []) (w : World) :
    Calls Tryz.prog 126 #[.string (S l), .string (S [32, 9])] w fun e w' => e = .returned (.string (S (trim l))) ∧ Below w.heap.size w w' := by
  have hne : l.isEmpty = false := by
    cases l with
    | nil => exact absurd rfl h0
    | cons a t => rfl
  have hz : ∀ w, (zeroValue 130).run Tryz.prog w = .ok (.agg (Array.replicate 256 (.bool false))) w := fun _ => by kernel_rfl
  have hmk := Tryz.strings_makeASCIISet hz (S [32, 9]) w (by decide) (by
    intro j b hj
    rw [S_data] at hj
    match j, hj with
    | 0, hj => cases hj; decide
    | 1, hj => cases hj; decide)
  rw [S_data] at hmk
  have hat := fun x => Lib.setCells_at [32, 9] x
  have hsz := Lib.setCells_size [32, 9]
  have hone := Lib.setCells_one [32, 9]
  obtain ⟨A, hA⟩ : ∃ A, Lib.setCells [32, 9] = A := ⟨_, rfl⟩
  rw [hA] at hmk hsz hone
  simp only [hA] at hat
  clear hA
  obtain ⟨Z, hZ⟩ : ∃ Z, Array.replicate 256 (Value.bool false) = Z := ⟨_, rfl⟩
  simp only [hZ] at hz
  have hZs : Z.size = A.size := by rw [← hZ, hsz]; simp
  have hst := run_storeCells_new (P := Tryz.prog) (w.alloc (.cells A 130)) 130 Z A (by rw [hsz]; kernel_rfl) hZs hone
  simp only [World.size_alloc] at hst
  have hcells : ∀ (x : UInt8), ((w.alloc (.cells A 130)).alloc (.cells A 130)).cell? ⟨w.heap.size + 1, x.toNat, none⟩ = some (.bool (blankB x)) := fun x => by
    have := World.cell?_alloc_new (w.alloc (.cells A 130)) A 130 x.toNat
    simp only [World.size_alloc] at this
    rw [this, hat x, blank_set]
  have hrl : (trimR l).length ≤ 9223372036854775807 := by
    have : (trimR l).length ≤ l.length := by
      unfold trimR
      have := (List.dropWhile_sublist (p := blankB) (l := l.reverse)).length_le
      simpa using this
    omega
  have hR := trimRightA (w.heap.size + 1) l hl _ hcells
  have hL := trimLeftA (w.heap.size + 1) (trimR l) hrl _ hcells
  have HR := Lib.hid hR; have HL := Lib.hid hL
  clear hR hL hcells hat
  go_enter Tryz.func126, Tryz.ntmps126
  go_wp2_with (first
    | (go_at_call 122; refine hmk.mono ?_; rintro e w' ⟨rfl, rfl⟩)
    | (go_at_call 138; refine HR.out.mono ?_; rintro e w' ⟨rfl, rfl⟩)
    | (go_at_call 123; refine HL.out.mono ?_; rintro e w' ⟨rfl, rfl⟩))
  go_ret
  exact ⟨rfl, by (repeat (first | with_reducible exact Below.refl _ _ | with_reducible assumption | with_reducible refine Below.drew ?_ | (with_reducible refine Below.setCell ?_ ?_ _; rotate_left; (first | omega | (simp <;> omega))) | (with_reducible refine Below.alloc ?_ ?_ _; rotate_left; (first | omega | (simp <;> omega))) | exact Below.refl _ _ | assumption))⟩

theorem textTrim (l : List UInt8) (hl : l.length ≤ 9223372036854775807) (w : World) :
    Calls Tryz.prog 100 #[.string (S l)] w fun e w' => e = .returned (.string (S (trim l))) ∧ Below w.heap.size w w' := by
  have hc : Calls Tryz.prog 126 #[.string (S l), .string (S [32, 9])] w fun e w' => e = .returned (.string (S (trim l))) ∧ Below w.heap.size w w' := by
    by_cases h0 : l = []
    · subst h0
      go_enter Tryz.func126, Tryz.ntmps126
      go_wp2
      go_ret
      exact ⟨rfl, Below.refl _ _⟩
    · exact stringsTrim l hl h0 w
  go_enter Tryz.func100, Tryz.ntmps100
  go_wp2_with (go_at_call 126; refine hc.mono ?_; rintro e w' ⟨rfl, hb⟩)
  go_ret
  exact ⟨rfl, by assumption⟩
end Go.Proofs.YtenflcaalckdfaaGreatDoor
namespace Go.Proofs.YtenflcaalckdfaaGreatDoor
open Go.RowKit Go.Sort Go.Shelf
set_option linter.unusedVariables false

theorem refBlank (c : UInt8) (w : World) : Calls Tryz.prog 108 #[.int .u8 (c.toNat : Int)] w fun e w' => e = .returned (.bool (blankB c)) ∧ w' = w := by
  have h32 : ((c.toNat : Int) == 32) = (c == 32) := by
    by_cases h : c = 32
    · subst h; rfl
    · have h' : ¬ c.toNat = 32 := fun e => h (UInt8.toNat.inj e)
      rw [show (c == 32) = false by simpa using h]; simp; omega
  have h9 : ((c.toNat : Int) == 9) = (c == 9) := by
    by_cases h : c = 9
    · subst h; rfl
    · have h' : ¬ c.toNat = 9 := fun e => h (UInt8.toNat.inj e)
      rw [show (c == 9) = false by simpa using h]; simp; omega
  obtain ⟨x, hx⟩ : ∃ x, (c == 32) = x := ⟨_, rfl⟩
  obtain ⟨y, hy⟩ : ∃ y, (c == 9) = y := ⟨_, rfl⟩
  have e : blankB c = (x || y) := by unfold blankB; rw [hx, hy]
  rw [hx] at h32
  rw [hy] at h9
  rw [e]
  clear hx hy e
  cases x <;> cases y <;>
  · go_enter Tryz.func108, Tryz.ntmps108
    go_wp2
    go_ret
    exact ⟨rfl, rfl⟩

set_option maxHeartbeats 800000 in
theorem refTrim (l : List UInt8) (hl : l.length ≤ 9223372036854775807) (w : World) : Calls Tryz.prog 73 #[.string (S l)] w fun e w' => e = .returned (.string (S (trim l))) ∧ w' = w := by
  have HB := Lib.hid (fun c W => refBlank c W)
  go_enter Tryz.func73, Tryz.ntmps73
  go_wp2
  simp only [mk_S]
  go_loop [0] (fun sv => ∃ t : List UInt8, sv = .string (S t) ∧ trimL t = trimL l ∧ t.length ≤ l.length) (fun sv => strLen sv)
  case atStart => exact ⟨l, rfl, rfl, Nat.le_refl _⟩
  case round =>
    obtain ⟨t, rfl, ht, htl⟩ := hrel
    have HT := Lib.hid ht
    clear ht
    cases t with
    | nil =>
      go_wp2
      go_loop [0] (fun sv => ∃ t' : List UInt8, sv = .string (S t') ∧ trimR t' = trim l ∧ t'.length ≤ l.length) (fun sv => strLen sv)
      case atStart => exact ⟨_, rfl, by rw [trim, ← trim_swap, ← HT.out, trimL_nil], htl⟩
      case round =>
        obtain ⟨t', rfl, ht', htl'⟩ := hrel
        have HT' := Lib.hid ht'
        clear ht'
        rcases snoc_cases t' with rfl | ⟨t', d, rfl⟩
        · go_wp2
          go_ret
          exact ⟨by rw [← HT'.out]; rfl, rfl⟩
        · have hb1 := bAt_snoc t' d
          have htl2 : t'.length + 1 ≤ l.length := by simpa using htl'
          have hcall' := fun W => HB.out d W
          obtain ⟨v', hv'⟩ : ∃ v', blankB d = v' := ⟨_, rfl⟩
          rw [hv'] at hcall'
          have HV' := Lib.hid hv'
          clear hv'
          cases v' with
          | true =>
            go_wp2_with (go_at_call 108; refine (hcall' _).mono ?_; rintro e w' ⟨rfl, rfl⟩)
            go_round
            case rel => exact ⟨t', by simp, by rw [← HT'.out, trimR_blank HV'.out], by omega⟩
            case measure => simp [strLen_S]
          | false =>
            go_wp2_with (go_at_call 108; refine (hcall' _).mono ?_; rintro e w' ⟨rfl, rfl⟩)
            go_ret
            exact ⟨by rw [← HT'.out, trimR_stay HV'.out]; rfl, rfl⟩
    | cons c t =>
      have hb0 : bAt (c :: t) 0 = (c.toNat : Int) := rfl
      have hcall := HB.out c w
      obtain ⟨v, hv⟩ : ∃ v, blankB c = v := ⟨_, rfl⟩
      rw [hv] at hcall
      have HV := Lib.hid hv
      clear hv
      cases v with
      | true =>
        go_wp2_with (go_at_call 108; refine hcall.mono ?_; rintro e w' ⟨rfl, rfl⟩)
        go_round
        case rel => exact ⟨t, by simp, by rw [← HT.out, trimL_blank HV.out], by simp at htl; omega⟩
        case measure => simp [strLen_S]
      | false =>
        go_wp2_with (go_at_call 108; refine hcall.mono ?_; rintro e w' ⟨rfl, rfl⟩)
        go_loop [0] (fun sv => ∃ t' : List UInt8, sv = .string (S t') ∧ trimR t' = trim l ∧ t'.length ≤ l.length) (fun sv => strLen sv)
        case atStart => exact ⟨_, rfl, by rw [trim, ← trim_swap, ← HT.out, trimL_stay HV.out], htl⟩
        case round =>
          obtain ⟨t', rfl, ht', htl'⟩ := hrel
          have HT' := Lib.hid ht'
          clear ht'
          rcases snoc_cases t' with rfl | ⟨t', d, rfl⟩
          · go_wp2
            go_ret
            exact ⟨by rw [← HT'.out]; rfl, rfl⟩
          · have hb1 := bAt_snoc t' d
            have htl2 : t'.length + 1 ≤ l.length := by simpa using htl'
            have hcall' := fun W => HB.out d W
            obtain ⟨v', hv'⟩ : ∃ v', blankB d = v' := ⟨_, rfl⟩
            rw [hv'] at hcall'
            have HV' := Lib.hid hv'
            clear hv'
            cases v' with
            | true =>
              go_wp2_with (go_at_call 108; refine (hcall' _).mono ?_; rintro e w' ⟨rfl, rfl⟩)
              go_round
              case rel => exact ⟨t', by simp, by rw [← HT'.out, trimR_blank HV'.out], by omega⟩
              case measure => simp [strLen_S]
            | false =>
              go_wp2_with (go_at_call 108; refine (hcall' _).mono ?_; rintro e w' ⟨rfl, rfl⟩)
              go_ret
              exact ⟨by rw [← HT'.out, trimR_stay HV'.out]; rfl, rfl⟩
end Go.Proofs.YtenflcaalckdfaaGreatDoor
