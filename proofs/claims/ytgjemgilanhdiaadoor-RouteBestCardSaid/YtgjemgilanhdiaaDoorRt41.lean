/- What the three listed tables give the walks; the door's own heap meets the condition. -/
import Derived.Test.YtgjemgilanhdiaaDoorRt5
import Derived.Test.YtgjemgilanhdiaaDoorRt28
import Derived.Test.YtgjemgilanhdiaaDoorRows
import Derived.Test.YtgjemgilanhdiaaDoorTie
import Derived.LaidMore
namespace Go.Proofs.YtgjemgilanhdiaaDoor
open Go.ChangeShapes Go.WideShapes Go.ChangeAt Go.RowKit Go.Deep
set_option linter.unusedVariables false

abbrev laid3 : List (String × DataW Unit) := [("math/bits.deBruijn32tab", Rows.laid_math_bits_deBruijn32tab), ("math/bits.deBruijn64tab", Rows.laid_math_bits_deBruijn64tab), ("internal/strconv.uint64pow10", Rows.laid_internal_strconv_uint64pow10)]
set_option maxRecDepth 100000 in
theorem door_met (os : Os) (args : Array Value) : laidMetH Tryd.prog laid3 ((World.doorLaid Tryd.prog 400 os).forCall (fun _ _ => 0) ⟨#[], args, []⟩).memory :=
  laidMetH_of_parts3 (fuel := 8) (laidMet_of_run' 8 (by kernel_rfl) (by kernel_rfl)) (by kernel_rfl) (by kernel_rfl)

theorem tPow : (Tryd.prog.globals[1]?).map (·.type) = some 89 := by kernel_rfl
set_option maxRecDepth 100000 in
theorem laid_of {W : World} (h : laidMetH Tryd.prog laid3 W) : Laid W := by
  rw [MakeChecks.laidMetH_plain _ _ _ (by kernel_rfl)] at h
  obtain ⟨ps, ⟨g0, t0, cs0, f0, p0, q0, hg0, ht0, hv0, hd0, ⟨g1, t1, cs1, f1, p1, q1, hg1, ht1, hv1, hd1, ⟨g2, t2, cs2, f2, p2, q2, hg2, ht2, hv2, hd2, _, _⟩, _⟩, _⟩, _, _⟩ := h
  obtain rfl := Option.some.inj (gPow.symm.trans hg2)
  obtain rfl := Option.some.inj (tPow.symm.trans ht2)
  have e2 := Lib.cells_of_tab (zs := Lib.pow10Tab) (k := .u64) Tryd.underlying89 Tryd.underlying50 (by kernel_rfl) (by kernel_rfl) hd2
  refine ⟨?_⟩
  show W.var? Tryd.prog _ = _
  rw [hv2, ← e2]
end Go.Proofs.YtgjemgilanhdiaaDoor
