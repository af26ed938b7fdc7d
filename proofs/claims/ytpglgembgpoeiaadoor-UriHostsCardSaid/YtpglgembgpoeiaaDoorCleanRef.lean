/- The walk of the reference's Clean, and the law UriCleans. -/
import Derived.Test.YtpglgembgpoeiaaDoorCleanWalk
import Derived.Test.YtpglgembgpoeiaaDoorUriRef
namespace Go.Proofs.YtpglgembgpoeiaaDoor
open Go.RowKit
set_option linter.unusedVariables false

theorem pre3 {p : List UInt8} (h : Lib.hasPrefix p [47, 46, 47] = true) : p.drop 2 = 47 :: p.drop 3 := by
  unfold Lib.hasPrefix at h
  rw [List.isPrefixOf_iff_prefix] at h
  obtain ⟨t, rfl⟩ := h
  rfl
theorem pre4 {p : List UInt8} (h : Lib.hasPrefix p [47, 46, 46, 47] = true) : Lib.trimPrefix (p.drop 3) [47] = p.drop 4 := by
  unfold Lib.hasPrefix at h
  rw [List.isPrefixOf_iff_prefix] at h
  obtain ⟨t, rfl⟩ := h
  rfl
/-- What stands before the cut is no slash; at the cut there is one, or the path ends. -/
theorem cutAt_spec {p : List UInt8} (h : p ≠ []) : (∀ k, 1 ≤ k → k < cStep.cutAt p → bAt p k ≠ 47) ∧ (cStep.cutAt p < p.length → bAt p (cStep.cutAt p) = 47) := by
  have hp : 0 < p.length := List.length_pos_iff.2 h
  have hat : ∀ k, (p.drop 1)[k]? = p[1 + k]? := fun k => List.getElem?_drop
  unfold cStep.cutAt
  by_cases hn : Lib.indexByte (p.drop 1) 47 = -1
  · rw [if_pos hn]
    refine ⟨fun k h1 h2 => ?_, fun h => absurd h (by omega)⟩
    have := Lib.indexByte_none hn (k - 1)
    rw [hat, show 1 + (k - 1) = k by omega, List.getElem?_eq_getElem h2] at this
    rw [bAt_eq h2]
    intro e
    exact this (by rw [show p[k] = 47 from UInt8.toNat.inj (by have e' : (p[k].toNat : Int) = 47 := e; show p[k].toNat = 47; omega)])
  · rw [if_neg hn]
    have := Lib.indexByte_ge (p.drop 1) 47
    obtain ⟨i, hi⟩ : ∃ i : Nat, Lib.indexByte (p.drop 1) 47 = i := ⟨(Lib.indexByte (p.drop 1) 47).toNat, by omega⟩
    obtain ⟨h1, h2⟩ := Lib.indexByte_some hi
    rw [hat] at h1
    have hi1 : 1 + i < p.length := (List.getElem?_eq_some_iff.1 h1).1
    rw [hi, show ((i : Int) + 1).toNat = i + 1 by omega]
    refine ⟨fun k hk1 hk2 => ?_, fun _ => ?_⟩
    · have h3 := h2 (k - 1) (by omega)
      have hkl : k < p.length := by omega
      rw [hat, show 1 + (k - 1) = k by omega, List.getElem?_eq_getElem hkl] at h3
      rw [bAt_eq hkl]
      intro e
      exact h3 (by rw [show p[k] = 47 from UInt8.toNat.inj (by have e' : (p[k].toNat : Int) = 47 := e; show p[k].toNat = 47; omega)])
    · rw [show i + 1 = 1 + i by omega, bAt_eq hi1]
      rw [List.getElem?_eq_getElem hi1] at h1
      rw [show p[1 + i] = 47 from Option.some.inj h1]; rfl

theorem clean_alive (w : World) : Calls Tryd.prog 12 #[] w fun e w' => e = .returned (.bool true) ∧ Below w.heap.size w w' := by
  have hC := Lib.hid (clean_any (l := [47, 97, 47, 98, 47, 46, 46, 47, 99, 47, 46, 47, 100]) (r := [47, 97, 47, 99, 47, 100]) (by decide) (by rfl))
  go_enter Tryd.func12, Tryd.ntmps12
  go_wp2_with fail
  refine Calls.mono (hC.out _) ?_
  rintro e w1 ⟨rfl, hb_w1⟩
  have hz_w1 := hb_w1.size
  try simp at hz_w1
  have hB_w1 : Below w.heap.size w w1 := Below.trans (by (repeat (first | (with_reducible exact Below.refl _ _) | (with_reducible assumption) | (with_reducible refine Below.drew ?_) | (focus ((with_reducible refine Below.setCell ?_ ?_ _); rotate_left; (first | omega | (simp <;> omega)))) | (focus ((with_reducible refine Below.alloc ?_ ?_ _); rotate_left; (first | omega | (simp <;> omega)))) | exact Below.refl _ _ | assumption | refine Below.drew ?_ | refine Below.alloc ?_ (by first | omega | (simp <;> omega)) _ | refine Below.setCell ?_ (by first | omega | (simp <;> omega)) _))) (hb_w1.mono (by first | omega | (simp <;> omega)))
  clear hb_w1
  go_wp2
  go_ret
  exact ⟨rfl, by (repeat (first | (with_reducible exact Below.refl _ _) | (with_reducible assumption) | (with_reducible refine Below.drew ?_) | (focus ((with_reducible refine Below.setCell ?_ ?_ _); rotate_left; (first | omega | (simp <;> omega)))) | (focus ((with_reducible refine Below.alloc ?_ ?_ _); rotate_left; (first | omega | (simp <;> omega)))) | exact Below.refl _ _ | assumption | refine Below.drew ?_ | refine Below.alloc ?_ (by first | omega | (simp <;> omega)) _ | refine Below.setCell ?_ (by first | omega | (simp <;> omega)) _))⟩

end Go.Proofs.YtpglgembgpoeiaaDoor
