/- Shared values. -/
import Derived.Test.YtdkfimmhgpeimaaGreatDoorQkV3
namespace Go.Proofs.YtdkfimmhgpeimaaGreatDoor
open Go Go.Abs
set_option linter.unusedVariables false
set_option maxRecDepth 100000

end Go.Proofs.YtdkfimmhgpeimaaGreatDoor
