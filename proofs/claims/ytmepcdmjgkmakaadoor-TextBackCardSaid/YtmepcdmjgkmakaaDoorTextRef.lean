/- The document's answer for texts: blank, Trim. -/
import Derived.Test.YtmepcdmjgkmakaaDoorTextTrim2
namespace Go.Proofs.YtmepcdmjgkmakaaDoor
open Go.RowKit Go.Sort Go.Shelf
set_option linter.unusedVariables false

end Go.Proofs.YtmepcdmjgkmakaaDoor
