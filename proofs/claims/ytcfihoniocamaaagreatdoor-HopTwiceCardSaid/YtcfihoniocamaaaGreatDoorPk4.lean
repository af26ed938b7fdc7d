/- Blanks taken off a text's ends: the walks of strings.Trim at two bytes, and of the document's answer. strings.Trim at a cutset of two bytes; text.Trim. -/
import Derived.Test.YtcfihoniocamaaaGreatDoorPk3
import Derived.Test.YtcfihoniocamaaaGreatDoorPk2
namespace Go.Proofs.YtcfihoniocamaaaGreatDoor
open Go.RowKit Go.Sort Go.Shelf
set_option linter.unusedVariables false

theorem blank_set (c : UInt8) : ([32, 9] : List UInt8).contains c = blankB c := by
  cases h1 : c == 32 <;> cases h2 : c == 9 <;> simp only [blankB, List.contains, List.elem, h1, h2] <;> rfl

set_option maxHeartbeats 800000 in
theorem trimLeftA (b : Nat) (l : List UInt8) (hl : l.length ≤ 9223372036854775807) (w : World) (hc : ∀ x : UInt8, w.cell? ⟨b, x.toNat, none⟩ = some (.bool (blankB x))) :
    Calls Tryz.prog 97 #[.string (S l), .pointer (some ⟨b, 0, none⟩)] w fun e w' => e = .returned (.string (S (trimL l))) ∧ w' = w := by
  have HC := Lib.hid hc
  clear hc
  go_enter Tryz.func97, Tryz.ntmps97
  go_wp2
  simp only [mk_S]
  go_loop [0] (fun sv => ∃ t : List UInt8, sv = .string (S t) ∧ trimL t = trimL l ∧ t.length ≤ l.length) (fun sv => strLen sv)
  case atStart => exact ⟨l, rfl, rfl, Nat.le_refl _⟩
  case round =>
    obtain ⟨t, rfl, ht, htl⟩ := hrel
    have HT := Lib.hid ht
    clear ht
    cases t with
    | nil =>
      go_wp2
      go_ret
      exact ⟨by rw [← HT.out]; rfl, rfl⟩
    | cons c t =>
      have hb0 : bAt (c :: t) 0 = (c.toNat : Int) := rfl
      have hcall := fun W h => Tryz.asciiSet_contains b c (blankB c) W h
      have hcell := HC.out c
      obtain ⟨v, hv⟩ : ∃ v, blankB c = v := ⟨_, rfl⟩
      rw [hv] at hcall hcell
      have HV := Lib.hid hv
      clear hv
      cases v with
      | true =>
        go_wp2_with (go_at_call 113; refine (hcall _ (by assumption)).mono ?_; rintro e w' ⟨rfl, rfl⟩)
        go_round
        case rel => exact ⟨t, by simp, by rw [← HT.out, trimL_blank HV.out], by simp at htl; omega⟩
        case measure => simp [strLen_S]
      | false =>
        go_wp2_with (go_at_call 113; refine (hcall _ (by assumption)).mono ?_; rintro e w' ⟨rfl, rfl⟩)
        go_ret
        exact ⟨by rw [← HT.out, trimL_stay HV.out]; rfl, rfl⟩

theorem snoc_cases (l : List UInt8) : l = [] ∨ ∃ t c, l = t ++ [c] := by
  rcases List.eq_nil_or_concat l with h | ⟨t, c, h⟩
  · exact .inl h
  · exact .inr ⟨t, c, by simpa using h⟩
theorem bAt_snoc (t : List UInt8) (c : UInt8) : bAt (t ++ [c]) t.length = (c.toNat : Int) := by
  rw [bAt_eq (by simp)]; simp

set_option maxHeartbeats 800000 in
theorem trimRightA (b : Nat) (l : List UInt8) (hl : l.length ≤ 9223372036854775807) (w : World) (hc : ∀ x : UInt8, w.cell? ⟨b, x.toNat, none⟩ = some (.bool (blankB x))) :
    Calls Tryz.prog 98 #[.string (S l), .pointer (some ⟨b, 0, none⟩)] w fun e w' => e = .returned (.string (S (trimR l))) ∧ w' = w := by
  have HC := Lib.hid hc
  clear hc
  go_enter Tryz.func98, Tryz.ntmps98
  go_wp2
  simp only [mk_S]
  go_loop [0] (fun sv => ∃ t : List UInt8, sv = .string (S t) ∧ trimR t = trimR l ∧ t.length ≤ l.length) (fun sv => strLen sv)
  case atStart => exact ⟨l, rfl, rfl, Nat.le_refl _⟩
  case round =>
    obtain ⟨t, rfl, ht, htl⟩ := hrel
    have HT := Lib.hid ht
    clear ht
    rcases snoc_cases t with rfl | ⟨t, c, rfl⟩
    · go_wp2
      go_ret
      exact ⟨by rw [← HT.out]; rfl, rfl⟩
    · have hb0 := bAt_snoc t c
      have htl2 : t.length + 1 ≤ l.length := by simpa using htl
      have hcall := fun W h => Tryz.asciiSet_contains b c (blankB c) W h
      have hcell := HC.out c
      obtain ⟨v, hv⟩ : ∃ v, blankB c = v := ⟨_, rfl⟩
      rw [hv] at hcall hcell
      have HV := Lib.hid hv
      clear hv
      cases v with
      | true =>
        go_wp2_with (go_at_call 113; refine (hcall _ (by assumption)).mono ?_; rintro e w' ⟨rfl, rfl⟩)
        go_round
        case rel => exact ⟨t, by simp, by rw [← HT.out, trimR_blank HV.out], by omega⟩
        case measure => simp [strLen_S]
      | false =>
        go_wp2_with (go_at_call 113; refine (hcall _ (by assumption)).mono ?_; rintro e w' ⟨rfl, rfl⟩)
        go_ret
        exact ⟨by rw [← HT.out, trimR_stay HV.out]; rfl, rfl⟩
end Go.Proofs.YtcfihoniocamaaaGreatDoor
namespace Go.Proofs.YtcfihoniocamaaaGreatDoor
open Go.RowKit Go.Sort Go.Shelf
set_option linter.unusedVariables false

set_option maxHeartbeats 800000 in
set_option maxRecDepth 100000 in
theorem stringsTrim (l : List UInt8) (hl : l.length ≤ 9223372036854775807) (h0 : l ≠ []) (w : World) :
    Calls Tryz.prog 74 #[.string (S l), .string (S [32, 9])] w fun e w' => e = .returned (.string (S (trim l))) ∧ Below w.heap.size w w' := by
  have hne : l.isEmpty = false := by
    cases l with
    | nil => exact absurd rfl h0
    | cons a t => rfl
  have hz : ∀ w, (zeroValue 125).run Tryz.prog w = .ok (.agg (Array.replicate 256 (.bool false))) w := fun _ => by kernel_rfl
  have hmk := Tryz.strings_makeASCIISet hz (S [32, 9]) w (by decide) (by
    intro j b hj
    rw [S_data] at hj
    match j, hj with
    | 0, hj => cases hj; decide
    | 1, hj => cases hj; decide)
  rw [S_data] at hmk
  have hat := fun x => Lib.setCells_at [32, 9] x
  have hsz := Lib.setCells_size [32, 9]
  have hone := Lib.setCells_one [32, 9]
  obtain ⟨A, hA⟩ : ∃ A, Lib.setCells [32, 9] = A := ⟨_, rfl⟩
  rw [hA] at hmk hsz hone
  simp only [hA] at hat
  clear hA
  obtain ⟨Z, hZ⟩ : ∃ Z, Array.replicate 256 (Value.bool false) = Z := ⟨_, rfl⟩
  simp only [hZ] at hz
  have hZs : Z.size = A.size := by rw [← hZ, hsz]; simp
  have hst := run_storeCells_new (P := Tryz.prog) (w.alloc (.cells A 125)) 125 Z A (by rw [hsz]; kernel_rfl) hZs hone
  simp only [World.size_alloc] at hst
  have hcells : ∀ (x : UInt8), ((w.alloc (.cells A 125)).alloc (.cells A 125)).cell? ⟨w.heap.size + 1, x.toNat, none⟩ = some (.bool (blankB x)) := fun x => by
    have := World.cell?_alloc_new (w.alloc (.cells A 125)) A 125 x.toNat
    simp only [World.size_alloc] at this
    rw [this, hat x, blank_set]
  have hrl : (trimR l).length ≤ 9223372036854775807 := by
    have : (trimR l).length ≤ l.length := by
      unfold trimR
      have := (List.dropWhile_sublist (p := blankB) (l := l.reverse)).length_le
      simpa using this
    omega
  have hR := trimRightA (w.heap.size + 1) l hl _ hcells
  have hL := trimLeftA (w.heap.size + 1) (trimR l) hrl _ hcells
  have HR := Lib.hid hR; have HL := Lib.hid hL
  clear hR hL hcells hat
  go_enter Tryz.func74, Tryz.ntmps74
  go_wp2_with (first
    | (go_at_call 96; refine hmk.mono ?_; rintro e w' ⟨rfl, rfl⟩)
    | (go_at_call 98; refine HR.out.mono ?_; rintro e w' ⟨rfl, rfl⟩)
    | (go_at_call 97; refine HL.out.mono ?_; rintro e w' ⟨rfl, rfl⟩))
  go_ret
  exact ⟨rfl, by (repeat (first | (with_reducible exact Below.refl _ _) | (with_reducible assumption) | (with_reducible refine Below.drew ?_) | (focus ((with_reducible refine Below.setCell ?_ ?_ _); rotate_left; (first | omega | (simp <;> omega)))) | (focus ((with_reducible refine Below.alloc ?_ ?_ _); rotate_left; (first | omega | (simp <;> omega)))) | exact Below.refl _ _ | assumption | refine Below.drew ?_ | refine Below.alloc ?_ (by first | omega | (simp <;> omega)) _ | refine Below.setCell ?_ (by first | omega | (simp <;> omega)) _))⟩

/-- text.Trim. -/
theorem textTrim (l : List UInt8) (hl : l.length ≤ 9223372036854775807) (w : World) :
    Calls Tryz.prog 44 #[.string (S l)] w fun e w' => e = .returned (.string (S (trim l))) ∧ Below w.heap.size w w' := by
  have hc : Calls Tryz.prog 74 #[.string (S l), .string (S [32, 9])] w fun e w' => e = .returned (.string (S (trim l))) ∧ Below w.heap.size w w' := by
    by_cases h0 : l = []
    · subst h0
      go_enter Tryz.func74, Tryz.ntmps74
      go_wp2
      go_ret
      exact ⟨rfl, Below.refl _ _⟩
    · exact stringsTrim l hl h0 w
  go_enter Tryz.func44, Tryz.ntmps44
  go_wp2_with (go_at_call 74; refine hc.mono ?_; rintro e w' ⟨rfl, hb⟩)
  go_ret
  exact ⟨rfl, by assumption⟩
end Go.Proofs.YtcfihoniocamaaaGreatDoor
