/- What the three listed tables give the walks: the cases of letters, utf8's two tables. -/
import Derived.Test.YtenflcaalckdfaaGreatDoorVz4
import Derived.Test.YtenflcaalckdfaaGreatDoorVz39
import Derived.Test.YtenflcaalckdfaaGreatDoorRows
import Derived.LaidMore
import Derived.PinnedBridge
import Derived.Lib.LaidCase
import Derived.Lib.LaidU8T
namespace Go.Proofs.YtenflcaalckdfaaGreatDoor
open Go.ChangeShapes Go.WideShapes Go.ChangeAt Go.RowKit Go.Deep
set_option linter.unusedVariables false

abbrev laid3c : List (String × DataW Unit) := [("unicode/utf8.acceptRanges", Rows.laid_unicode_utf8_acceptRanges), ("unicode.CaseRanges", Rows.laid_unicode_CaseRanges), ("unicode/utf8.first", Rows.laid_unicode_utf8_first)]
def CaseTabs (W : World) : Prop := Lib.CaseVar 1 Lib.caseA W ∧ Lib.Utf8Tabs 2 3 W
theorem acc_eq : (Rows.laid_unicode_utf8_acceptRanges : DataW Unit) = Lib.acceptData := by kernel_rfl
theorem fst_eq : (Rows.laid_unicode_utf8_first : DataW Unit) = Lib.firstData := Pinned.utf8First_eq
theorem cas_eq : (Rows.laid_unicode_CaseRanges : DataW Unit) = Lib.caseData := Pinned.caseRanges_eq
theorem u8x : U8Extra Tryz.prog Tryz.lays260_ren where
  n3 := by kernel_rfl
  n4 := by kernel_rfl
  y3 := by kernel_rfl
  y4 := by kernel_rfl
  c5 := by kernel_rfl
  c119 := by kernel_rfl
  c138 := by kernel_rfl
theorem casex : CaseExtra Tryz.prog Tryz.lays203_ren where
  n13 := by kernel_rfl
  y13 := by kernel_rfl
  c21 := by kernel_rfl
  c51 := by kernel_rfl
  c206 := by kernel_rfl
  c208 := by kernel_rfl
set_option maxRecDepth 100000 in
theorem laid_ofc {W : World} (h : laidMetH Tryz.prog laid3c W) : CaseTabs W := by
  rw [MakeChecks.laidMetH_plain _ _ _ (by kernel_rfl)] at h
  have h1 := Lib.laidMet.reads h (n := "unicode/utf8.acceptRanges") (d := Rows.laid_unicode_utf8_acceptRanges) (by simp [laid3c])
  have h2 := Lib.laidMet.reads h (n := "unicode.CaseRanges") (d := Rows.laid_unicode_CaseRanges) (by simp [laid3c])
  have h3 := Lib.laidMet.reads h (n := "unicode/utf8.first") (d := Rows.laid_unicode_utf8_first) (by simp [laid3c])
  rw [acc_eq] at h1
  rw [cas_eq] at h2
  rw [fst_eq] at h3
  exact ⟨caseVar_of_reads (ρ := Tryz.lays203_ren) { Tryz.lays203 with } (by kernel_rfl) casex h2, utf8Tabs_of_reads Tryz.lays260 u8x h3 h1⟩
end Go.Proofs.YtenflcaalckdfaaGreatDoor
