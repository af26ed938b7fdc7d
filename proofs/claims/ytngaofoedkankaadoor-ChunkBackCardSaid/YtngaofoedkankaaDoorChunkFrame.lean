/- What the five listed tables give the walks that write numbers. -/
import Derived.Test.YtngaofoedkankaaDoorNumFmt
import Derived.Test.YtngaofoedkankaaDoorFrame
import Derived.Test.YtngaofoedkankaaDoorRows
import Derived.LaidMore
namespace Go.Proofs.YtngaofoedkankaaDoor
open Go.ChangeShapes Go.WideShapes Go.ChangeAt Go.RowKit Go.Deep
set_option linter.unusedVariables false

abbrev laid5 : List (String × DataW Unit) := [("math/bits.deBruijn32tab", Rows.laid_math_bits_deBruijn32tab), ("math/bits.deBruijn64tab", Rows.laid_math_bits_deBruijn64tab), ("internal/strconv.uint64pow10", Rows.laid_internal_strconv_uint64pow10), ("unicode/utf8.acceptRanges", Rows.laid_unicode_utf8_acceptRanges), ("unicode/utf8.first", Rows.laid_unicode_utf8_first)]
def dbTab : List Int := [0, 1, 56, 2, 57, 49, 28, 3, 61, 58, 42, 50, 38, 29, 17, 4, 62, 47, 59, 36, 45, 43, 51, 22, 53, 39, 33, 30, 24, 18, 12, 5, 63, 55, 48, 27, 60, 41, 37, 16, 46, 35, 44, 21, 52, 32, 23, 11, 54, 26, 40, 15, 34, 20, 31, 10, 25, 14, 19, 9, 13, 8, 7, 6]
theorem gDb : Tryd.prog.globalNamed "math/bits.deBruijn64tab" = some 3 := by kernel_rfl
theorem tDb : (Tryd.prog.globals[3]?).map (·.type) = some 127 := by kernel_rfl
theorem tPow : (Tryd.prog.globals[1]?).map (·.type) = some 111 := by kernel_rfl
set_option maxRecDepth 100000 in
theorem laid_of5 {W : World} (h : laidMetH Tryd.prog laid5 W) : Laid W := by
  rw [MakeChecks.laidMetH_plain _ _ _ (by kernel_rfl)] at h
  obtain ⟨ps, ⟨g0, t0, cs0, f0, p0, q0, hg0, ht0, hv0, hd0, ⟨g1, t1, cs1, f1, p1, q1, hg1, ht1, hv1, hd1, ⟨g2, t2, cs2, f2, p2, q2, hg2, ht2, hv2, hd2, _, _⟩, _⟩, _⟩, _, _⟩ := h
  obtain rfl := Option.some.inj (gDb.symm.trans hg1)
  obtain rfl := Option.some.inj (gPow.symm.trans hg2)
  obtain rfl := Option.some.inj (tDb.symm.trans ht1)
  obtain rfl := Option.some.inj (tPow.symm.trans ht2)
  have e1 := Lib.cells_of_tab (zs := dbTab) (k := .u8) Tryd.underlying127 Tryd.underlying5 (by kernel_rfl) (by kernel_rfl) hd1
  have e2 := Lib.cells_of_tab (zs := Lib.pow10Tab) (k := .u64) Tryd.underlying111 Tryd.underlying61 (by kernel_rfl) (by kernel_rfl) hd2
  have c1 := World.var?_cell hg1 hv1 15
  rw [← Array.getElem?_toList, e1] at c1
  have c3 : W.cell? ⟨3, 15, none⟩ = some (.int .u8 4) := c1.trans rfl
  refine ⟨?_, c3, World.block_lt_of_cell? _ _ c3⟩
  show W.var? Tryd.prog _ = _
  rw [hv2, ← e2]
end Go.Proofs.YtngaofoedkankaaDoor
