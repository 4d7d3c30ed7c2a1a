/- Kept results. -/
import Derived.Test.YtdkfimmhgpeimaaGreatDoorQkH3
import Derived.Test.YtdkfimmhgpeimaaGreatDoorQkV4
namespace Go.Proofs.YtdkfimmhgpeimaaGreatDoor
open Go Go.Abs
set_option linter.unusedVariables false
set_option maxRecDepth 100000
noncomputable def k4_26_0 : List (List AV × AV) := [([],bT)]
set_option maxHeartbeats 0 in
theorem k4_26_0_ok : AllE Tryz.prog 26 k4_26_0 := keep hk4_ok (by decide +kernel)
end Go.Proofs.YtdkfimmhgpeimaaGreatDoor
