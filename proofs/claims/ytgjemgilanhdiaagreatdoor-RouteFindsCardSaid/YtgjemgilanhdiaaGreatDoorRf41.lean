/- The document's Ask: what its walk needs. Printed by tools/rtaskref.py. -/
import Derived.Test.YtgjemgilanhdiaaGreatDoorRf34
import Derived.Test.YtgjemgilanhdiaaGreatDoorRf38
import Derived.Test.YtgjemgilanhdiaaGreatDoorRf39
import Derived.Test.YtgjemgilanhdiaaGreatDoorRf40
namespace Go.Proofs.YtgjemgilanhdiaaGreatDoor
open Go.RowKit Go.Sort Go.Shelf
set_option linter.unusedVariables false
set_option linter.unusedSimpArgs false

theorem getV_all (F : List Fld) : (getV F [72, 111, 115, 116]).1 = ((namedL F [104, 111, 115, 116]).map (·.2)).headD [] := by
  unfold getV namedL
  have e : (fun f : Fld => sameN f.1 [72, 111, 115, 116]) = (fun f : Fld => sameN f.1 [104, 111, 115, 116]) := by
    funext f
    unfold sameN
    rw [show lower [72, 111, 115, 116] = lower [104, 111, 115, 116] by decide]
  rw [e, List.headD_eq_head?_getD, List.head?_map, List.head?_filter]
  cases F.find? (fun f => sameN f.1 [104, 111, 115, 116]) <;> rfl
theorem all_len {F : List Fld} {n : List UInt8} {K : Nat} (hfs : ∀ f ∈ F, f.2.length ≤ K) : ∀ x ∈ (namedL F n).map (·.2), x.length ≤ K := fun x hx => by
  obtain ⟨f, hf, rfl⟩ := List.mem_map.1 hx
  exact hfs f (List.mem_filter.1 hf).1
end Go.Proofs.YtgjemgilanhdiaaGreatDoor
