/- The reference that a text begins with: the walk of vars.Ref, one theorem a way through it. Printed by tools/varsref.py. -/
import Derived.Test.YtenflcaalckdfaaDoorVr21
import Derived.Deep.RegionWith
import Derived.Deep.DeepCutAuto
namespace Go.Proofs.YtenflcaalckdfaaDoor
open Go Go.RowKit Go.Sort Go.Shelf
set_option linter.unusedVariables false
set_option linter.unusedSimpArgs false

theorem refNone (w : World) : Calls Tryd.prog 19 #[] w fun x w' => x = .returned (.tuple #[.string (S []), .int .i64 0]) ∧ w' = w := by
  go_enter Tryd.func19, Tryd.ntmps19
  go_wp2
  go_ret2
  exact ⟨rfl, rfl⟩
theorem wrapS {n : Int} (h : -9223372036854775808 ≤ n ∧ n ≤ 9223372036854775807) : IntKind.i64.wrap n = n ∧ wrap64 n = n := ⟨by rw [IntKind.wrap_i64]; omega, by unfold wrap64; omega⟩
end Go.Proofs.YtenflcaalckdfaaDoor
