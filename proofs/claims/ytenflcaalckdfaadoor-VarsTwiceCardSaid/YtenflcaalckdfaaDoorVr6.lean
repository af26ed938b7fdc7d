/- strings.Trim at a cutset of two bytes; text.Trim. The document's answer for texts: blank, Trim. -/
import Derived.Test.YtenflcaalckdfaaDoorVr5
namespace Go.Proofs.YtenflcaalckdfaaDoor
open Go.RowKit Go.Sort Go.Shelf
set_option linter.unusedVariables false

set_option maxHeartbeats 800000 in
set_option maxRecDepth 100000 in
theorem stringsTrim (l : List UInt8) (hl : l.length ≤ 9223372036854775807) (h0 : l ≠ []) (w : World) :
    Calls Tryd.prog 80 #[.string (S l), .string (S [32, 9])] w fun e w' => e = .returned (.string (S (trim l))) ∧ Below w.heap.size w w' := by
  have hne : l.isEmpty = false := by
    cases l with
    | nil => exact absurd rfl h0
    | cons a t => rfl
  have hz : ∀ w, (zeroValue 100).run Tryd.prog w = .ok (.agg (Array.replicate 256 (.bool false))) w := fun _ => by kernel_rfl
  have hmk := Tryd.strings_makeASCIISet hz (S [32, 9]) w (by decide) (by
    intro j b hj
    rw [S_data] at hj
    match j, hj with
    | 0, hj => cases hj; decide
    | 1, hj => cases hj; decide)
  rw [S_data] at hmk
  have hat := fun x => Lib.setCells_at [32, 9] x
  have hsz := Lib.setCells_size [32, 9]
  have hone := Lib.setCells_one [32, 9]
  obtain ⟨A, hA⟩ : ∃ A, Lib.setCells [32, 9] = A := ⟨_, rfl⟩
  rw [hA] at hmk hsz hone
  simp only [hA] at hat
  clear hA
  obtain ⟨Z, hZ⟩ : ∃ Z, Array.replicate 256 (Value.bool false) = Z := ⟨_, rfl⟩
  simp only [hZ] at hz
  have hZs : Z.size = A.size := by rw [← hZ, hsz]; simp
  have hst := run_storeCells_new (P := Tryd.prog) (w.alloc (.cells A 100)) 100 Z A (by rw [hsz]; kernel_rfl) hZs hone
  simp only [World.size_alloc] at hst
  have hcells : ∀ (x : UInt8), ((w.alloc (.cells A 100)).alloc (.cells A 100)).cell? ⟨w.heap.size + 1, x.toNat, none⟩ = some (.bool (blankB x)) := fun x => by
    have := World.cell?_alloc_new (w.alloc (.cells A 100)) A 100 x.toNat
    simp only [World.size_alloc] at this
    rw [this, hat x, blank_set]
  have hrl : (trimR l).length ≤ 9223372036854775807 := by
    have : (trimR l).length ≤ l.length := by
      unfold trimR
      have := (List.dropWhile_sublist (p := blankB) (l := l.reverse)).length_le
      simpa using this
    omega
  have hR := trimRightA (w.heap.size + 1) l hl _ hcells
  have hL := trimLeftA (w.heap.size + 1) (trimR l) hrl _ hcells
  have HR := Lib.hid hR; have HL := Lib.hid hL
  clear hR hL hcells hat
  go_enter Tryd.func80, Tryd.ntmps80
  go_wp2_with (first
    | (go_at_call 76; refine hmk.mono ?_; rintro e w' ⟨rfl, rfl⟩)
    | (go_at_call 90; refine HR.out.mono ?_; rintro e w' ⟨rfl, rfl⟩)
    | (go_at_call 77; refine HL.out.mono ?_; rintro e w' ⟨rfl, rfl⟩))
  go_ret
  exact ⟨rfl, by (repeat (first | (with_reducible exact Below.refl _ _) | (with_reducible assumption) | (with_reducible refine Below.drew ?_) | (focus ((with_reducible refine Below.setCell ?_ ?_ _); rotate_left; (first | omega | (simp <;> omega)))) | (focus ((with_reducible refine Below.alloc ?_ ?_ _); rotate_left; (first | omega | (simp <;> omega)))) | exact Below.refl _ _ | assumption | refine Below.drew ?_ | refine Below.alloc ?_ (by first | omega | (simp <;> omega)) _ | refine Below.setCell ?_ (by first | omega | (simp <;> omega)) _))⟩

/-- text.Trim. -/
theorem textTrim (l : List UInt8) (hl : l.length ≤ 9223372036854775807) (w : World) :
    Calls Tryd.prog 64 #[.string (S l)] w fun e w' => e = .returned (.string (S (trim l))) ∧ Below w.heap.size w w' := by
  have hc : Calls Tryd.prog 80 #[.string (S l), .string (S [32, 9])] w fun e w' => e = .returned (.string (S (trim l))) ∧ Below w.heap.size w w' := by
    by_cases h0 : l = []
    · subst h0
      go_enter Tryd.func80, Tryd.ntmps80
      go_wp2
      go_ret
      exact ⟨rfl, Below.refl _ _⟩
    · exact stringsTrim l hl h0 w
  go_enter Tryd.func64, Tryd.ntmps64
  go_wp2_with (go_at_call 80; refine hc.mono ?_; rintro e w' ⟨rfl, hb⟩)
  go_ret
  exact ⟨rfl, by assumption⟩
end Go.Proofs.YtenflcaalckdfaaDoor
namespace Go.Proofs.YtenflcaalckdfaaDoor
open Go.RowKit Go.Sort Go.Shelf
set_option linter.unusedVariables false

end Go.Proofs.YtenflcaalckdfaaDoor
