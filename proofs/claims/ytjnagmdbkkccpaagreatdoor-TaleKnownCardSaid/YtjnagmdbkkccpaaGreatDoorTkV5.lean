/- Shared values. -/
import Derived.Test.YtjnagmdbkkccpaaGreatDoorTkV2
namespace Go.Proofs.YtjnagmdbkkccpaaGreatDoor
open Go Go.Abs Go.RowKit
set_option linter.unusedVariables false
set_option maxRecDepth 100000

end Go.Proofs.YtjnagmdbkkccpaaGreatDoor
