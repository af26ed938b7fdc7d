/- What the five listed tables give the walks. -/
import Derived.Test.YtgjemgilanhdiaaGreatDoorRf5
import Derived.Test.YtgjemgilanhdiaaGreatDoorRf24
import Derived.Test.YtgjemgilanhdiaaGreatDoorRf50
import Derived.Test.YtgjemgilanhdiaaGreatDoorRows
import Derived.LaidMore
namespace Go.Proofs.YtgjemgilanhdiaaGreatDoor
open Go.ChangeShapes Go.WideShapes Go.ChangeAt Go.RowKit Go.Deep
set_option linter.unusedVariables false

abbrev laid5 : List (String × DataW Unit) := [("math/bits.deBruijn32tab", Rows.laid_math_bits_deBruijn32tab), ("math/bits.deBruijn64tab", Rows.laid_math_bits_deBruijn64tab), ("internal/strconv.uint64pow10", Rows.laid_internal_strconv_uint64pow10), ("unicode/utf8.acceptRanges", Rows.laid_unicode_utf8_acceptRanges), ("unicode/utf8.first", Rows.laid_unicode_utf8_first)]
theorem tPow5 : (Tryz.prog.globals[3]?).map (·.type) = some 123 := by kernel_rfl
set_option maxRecDepth 100000 in
theorem laid_of5 {W : World} (h : laidMetH Tryz.prog laid5 W) : Laid W := by
  rw [MakeChecks.laidMetH_plain _ _ _ (by kernel_rfl)] at h
  obtain ⟨ps, ⟨g0, t0, cs0, f0, p0, q0, hg0, ht0, hv0, hd0, ⟨g1, t1, cs1, f1, p1, q1, hg1, ht1, hv1, hd1, ⟨g2, t2, cs2, f2, p2, q2, hg2, ht2, hv2, hd2, _, _⟩, _⟩, _⟩, _, _⟩ := h
  obtain rfl := Option.some.inj (gPow.symm.trans hg2)
  obtain rfl := Option.some.inj (tPow5.symm.trans ht2)
  have e2 := Lib.cells_of_tab (zs := Lib.pow10Tab) (k := .u64) Tryz.underlying123 Tryz.underlying88 (by kernel_rfl) (by kernel_rfl) hd2
  refine ⟨?_⟩
  show W.var? Tryz.prog _ = _
  rw [hv2, ← e2]
end Go.Proofs.YtgjemgilanhdiaaGreatDoor
