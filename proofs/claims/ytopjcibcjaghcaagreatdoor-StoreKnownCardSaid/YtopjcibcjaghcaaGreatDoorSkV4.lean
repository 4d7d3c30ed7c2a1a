/- Shared values. -/
import Derived.Test.YtopjcibcjaghcaaGreatDoorSkV3
namespace Go.Proofs.YtopjcibcjaghcaaGreatDoor
open Go Go.Abs Go.RowKit
set_option linter.unusedVariables false
set_option maxRecDepth 100000

end Go.Proofs.YtopjcibcjaghcaaGreatDoor
