/- The two listed tables are not read by these walks. -/
import Derived.Test.YtenflcaalckdfaaGreatDoorVv4
import Derived.Test.YtenflcaalckdfaaGreatDoorVv45
import Derived.Test.YtenflcaalckdfaaGreatDoorRows
import Derived.LaidMore
namespace Go.Proofs.YtenflcaalckdfaaGreatDoor
open Go.ChangeShapes Go.WideShapes Go.ChangeAt Go.RowKit Go.Deep
set_option linter.unusedVariables false

abbrev laid2 : List (String × DataW Unit) := [("unicode/utf8.acceptRanges", Rows.laid_unicode_utf8_acceptRanges), ("unicode/utf8.first", Rows.laid_unicode_utf8_first)]
theorem laid_of {W : World} (h : laidMetH Tryz.prog laid2 W) : True := trivial
end Go.Proofs.YtenflcaalckdfaaGreatDoor
