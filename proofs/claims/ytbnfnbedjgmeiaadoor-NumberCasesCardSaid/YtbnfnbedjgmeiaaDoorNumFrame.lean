/- What the three listed tables give the walks; the door's own heap meets the condition. -/
import Derived.Test.YtbnfnbedjgmeiaaDoorNumLaw
import Derived.Test.YtbnfnbedjgmeiaaDoorFrame
import Derived.Test.YtbnfnbedjgmeiaaDoorRows
import Derived.Test.YtbnfnbedjgmeiaaDoorTie
import Derived.LaidMore
namespace Go.Proofs.YtbnfnbedjgmeiaaDoor
open Go.ChangeShapes Go.WideShapes Go.ChangeAt Go.RowKit Go.Deep
set_option linter.unusedVariables false

abbrev laid3 : List (String × DataW Unit) := [("math/bits.deBruijn32tab", Rows.laid_math_bits_deBruijn32tab), ("math/bits.deBruijn64tab", Rows.laid_math_bits_deBruijn64tab), ("internal/strconv.uint64pow10", Rows.laid_internal_strconv_uint64pow10)]
set_option maxRecDepth 100000 in
theorem door_met (os : Os) (args : Array Value) : laidMetH Tryd.prog laid3 ((World.doorLaid Tryd.prog 400 os).forCall (fun _ _ => 0) ⟨#[], args, []⟩).memory :=
  laidMetH_of_parts3 (fuel := 8) (laidMet_of_run' 8 (by kernel_rfl) (by kernel_rfl)) (by kernel_rfl) (by kernel_rfl)

def dbTab : List Int := [0, 1, 56, 2, 57, 49, 28, 3, 61, 58, 42, 50, 38, 29, 17, 4, 62, 47, 59, 36, 45, 43, 51, 22, 53, 39, 33, 30, 24, 18, 12, 5, 63, 55, 48, 27, 60, 41, 37, 16, 46, 35, 44, 21, 52, 32, 23, 11, 54, 26, 40, 15, 34, 20, 31, 10, 25, 14, 19, 9, 13, 8, 7, 6]
theorem gDb : Tryd.prog.globalNamed "math/bits.deBruijn64tab" = some 2 := by kernel_rfl
theorem tDb : (Tryd.prog.globals[2]?).map (·.type) = some 61 := by kernel_rfl
theorem tPow : (Tryd.prog.globals[0]?).map (·.type) = some 53 := by kernel_rfl
set_option maxRecDepth 100000 in
theorem laid_of {W : World} (h : laidMetH Tryd.prog laid3 W) : Laid W := by
  rw [MakeChecks.laidMetH_plain _ _ _ (by kernel_rfl)] at h
  obtain ⟨ps, ⟨g0, t0, cs0, f0, p0, q0, hg0, ht0, hv0, hd0, ⟨g1, t1, cs1, f1, p1, q1, hg1, ht1, hv1, hd1, ⟨g2, t2, cs2, f2, p2, q2, hg2, ht2, hv2, hd2, _, _⟩, _⟩, _⟩, _, _⟩ := h
  obtain rfl := Option.some.inj (gDb.symm.trans hg1)
  obtain rfl := Option.some.inj (gPow.symm.trans hg2)
  obtain rfl := Option.some.inj (tDb.symm.trans ht1)
  obtain rfl := Option.some.inj (tPow.symm.trans ht2)
  have e1 := Lib.cells_of_tab (zs := dbTab) (k := .u8) Tryd.underlying61 Tryd.underlying5 (by kernel_rfl) (by kernel_rfl) hd1
  have e2 := Lib.cells_of_tab (zs := Lib.pow10Tab) (k := .u64) Tryd.underlying53 Tryd.underlying22 (by kernel_rfl) (by kernel_rfl) hd2
  have c1 := World.var?_cell hg1 hv1 15
  rw [← Array.getElem?_toList, e1] at c1
  have c3 : W.cell? ⟨2, 15, none⟩ = some (.int .u8 4) := c1.trans rfl
  refine ⟨?_, c3, World.block_lt_of_cell? _ _ c3⟩
  show W.var? Tryd.prog _ = _
  rw [hv2, ← e2]
end Go.Proofs.YtbnfnbedjgmeiaaDoor
