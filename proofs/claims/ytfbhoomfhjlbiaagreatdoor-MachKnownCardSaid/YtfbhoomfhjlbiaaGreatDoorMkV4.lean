/- Shared values. -/
import Derived.Test.YtfbhoomfhjlbiaaGreatDoorMkV3
namespace Go.Proofs.YtfbhoomfhjlbiaaGreatDoor
open Go Go.Abs Go.RowKit
set_option linter.unusedVariables false
set_option maxRecDepth 100000

end Go.Proofs.YtfbhoomfhjlbiaaGreatDoor
