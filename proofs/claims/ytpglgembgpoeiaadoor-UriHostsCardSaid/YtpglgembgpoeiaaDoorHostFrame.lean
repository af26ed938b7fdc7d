/- What the six listed tables give the walks. -/
import Derived.Test.YtpglgembgpoeiaaDoorDecFmt
import Derived.Test.YtpglgembgpoeiaaDoorFrame
import Derived.Test.YtpglgembgpoeiaaDoorRows
import Derived.LaidMore
namespace Go.Proofs.YtpglgembgpoeiaaDoor
open Go.ChangeShapes Go.WideShapes Go.ChangeAt Go.RowKit Go.Deep
set_option linter.unusedVariables false

abbrev laid6 : List (String × DataW Unit) := [("math/bits.deBruijn32tab", Rows.laid_math_bits_deBruijn32tab), ("math/bits.deBruijn64tab", Rows.laid_math_bits_deBruijn64tab), ("internal/strconv.uint64pow10", Rows.laid_internal_strconv_uint64pow10), ("unicode/utf8.acceptRanges", Rows.laid_unicode_utf8_acceptRanges), ("unicode.CaseRanges", Rows.laid_unicode_CaseRanges), ("unicode/utf8.first", Rows.laid_unicode_utf8_first)]
theorem tPow6 : (Tryd.prog.globals[4]?).map (·.type) = some 119 := by kernel_rfl
set_option maxRecDepth 100000 in
theorem laid_of6 {W : World} (h : laidMetH Tryd.prog laid6 W) : Laid W := by
  rw [MakeChecks.laidMetH_plain _ _ _ (by kernel_rfl)] at h
  obtain ⟨ps, ⟨g0, t0, cs0, f0, p0, q0, hg0, ht0, hv0, hd0, ⟨g1, t1, cs1, f1, p1, q1, hg1, ht1, hv1, hd1, ⟨g2, t2, cs2, f2, p2, q2, hg2, ht2, hv2, hd2, _, _⟩, _⟩, _⟩, _, _⟩ := h
  obtain rfl := Option.some.inj (gPow.symm.trans hg2)
  obtain rfl := Option.some.inj (tPow6.symm.trans ht2)
  have e2 := Lib.cells_of_tab (zs := Lib.pow10Tab) (k := .u64) Tryd.underlying119 Tryd.underlying46 (by kernel_rfl) (by kernel_rfl) hd2
  refine ⟨?_⟩
  show W.var? Tryd.prog _ = _
  rw [hv2, ← e2]
end Go.Proofs.YtpglgembgpoeiaaDoor
