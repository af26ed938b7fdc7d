/- The document's May: the walk. -/
import Derived.Test.YtcfihoniocamaaaDoorTableMay2
namespace Go.Proofs.YtcfihoniocamaaaDoor
open Go.RowKit Go.Sort Go.Shelf
set_option linter.unusedVariables false

end Go.Proofs.YtcfihoniocamaaaDoor
