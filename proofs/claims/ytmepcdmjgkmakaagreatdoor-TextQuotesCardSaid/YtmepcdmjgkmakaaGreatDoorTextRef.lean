/- The document's answer for texts: blank, Trim. -/
import Derived.Test.YtmepcdmjgkmakaaGreatDoorTextTrim2
namespace Go.Proofs.YtmepcdmjgkmakaaGreatDoor
open Go.RowKit Go.Sort Go.Shelf
set_option linter.unusedVariables false

end Go.Proofs.YtmepcdmjgkmakaaGreatDoor
