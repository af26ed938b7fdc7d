/- The walks of uri.Clean and of the reference's. The walk of the reference's Clean, and the law UriCleans. -/
import Derived.Test.YtgjemgilanhdiaaDoorRt10
import Derived.Deep.LoopGhost
import Derived.Test.YtgjemgilanhdiaaDoorRt7
namespace Go.Proofs.YtgjemgilanhdiaaDoor
open Go.RowKit
set_option linter.unusedVariables false

end Go.Proofs.YtgjemgilanhdiaaDoor
namespace Go.Proofs.YtgjemgilanhdiaaDoor
open Go.RowKit
set_option linter.unusedVariables false

theorem pre3 {p : List UInt8} (h : Lib.hasPrefix p [47, 46, 47] = true) : p.drop 2 = 47 :: p.drop 3 := by
  unfold Lib.hasPrefix at h
  rw [List.isPrefixOf_iff_prefix] at h
  obtain ⟨t, rfl⟩ := h
  rfl
theorem pre4 {p : List UInt8} (h : Lib.hasPrefix p [47, 46, 46, 47] = true) : Lib.trimPrefix (p.drop 3) [47] = p.drop 4 := by
  unfold Lib.hasPrefix at h
  rw [List.isPrefixOf_iff_prefix] at h
  obtain ⟨t, rfl⟩ := h
  rfl
/-- What stands before the cut is no slash; at the cut there is one, or the path ends. -/
theorem cutAt_spec {p : List UInt8} (h : p ≠ []) : (∀ k, 1 ≤ k → k < cStep.cutAt p → bAt p k ≠ 47) ∧ (cStep.cutAt p < p.length → bAt p (cStep.cutAt p) = 47) := by
  have hp : 0 < p.length := List.length_pos_iff.2 h
  have hat : ∀ k, (p.drop 1)[k]? = p[1 + k]? := fun k => List.getElem?_drop
  unfold cStep.cutAt
  by_cases hn : Lib.indexByte (p.drop 1) 47 = -1
  · rw [if_pos hn]
    refine ⟨fun k h1 h2 => ?_, fun h => absurd h (by omega)⟩
    have := Lib.indexByte_none hn (k - 1)
    rw [hat, show 1 + (k - 1) = k by omega, List.getElem?_eq_getElem h2] at this
    rw [bAt_eq h2]
    intro e
    exact this (by rw [show p[k] = 47 from UInt8.toNat.inj (by have e' : (p[k].toNat : Int) = 47 := e; show p[k].toNat = 47; omega)])
  · rw [if_neg hn]
    have := Lib.indexByte_ge (p.drop 1) 47
    obtain ⟨i, hi⟩ : ∃ i : Nat, Lib.indexByte (p.drop 1) 47 = i := ⟨(Lib.indexByte (p.drop 1) 47).toNat, by omega⟩
    obtain ⟨h1, h2⟩ := Lib.indexByte_some hi
    rw [hat] at h1
    have hi1 : 1 + i < p.length := (List.getElem?_eq_some_iff.1 h1).1
    rw [hi, show ((i : Int) + 1).toNat = i + 1 by omega]
    refine ⟨fun k hk1 hk2 => ?_, fun _ => ?_⟩
    · have h3 := h2 (k - 1) (by omega)
      have hkl : k < p.length := by omega
      rw [hat, show 1 + (k - 1) = k by omega, List.getElem?_eq_getElem hkl] at h3
      rw [bAt_eq hkl]
      intro e
      exact h3 (by rw [show p[k] = 47 from UInt8.toNat.inj (by have e' : (p[k].toNat : Int) = 47 := e; show p[k].toNat = 47; omega)])
    · rw [show i + 1 = 1 + i by omega, bAt_eq hi1]
      rw [List.getElem?_eq_getElem hi1] at h1
      rw [show p[1 + i] = 47 from Option.some.inj h1]; rfl

end Go.Proofs.YtgjemgilanhdiaaDoor
