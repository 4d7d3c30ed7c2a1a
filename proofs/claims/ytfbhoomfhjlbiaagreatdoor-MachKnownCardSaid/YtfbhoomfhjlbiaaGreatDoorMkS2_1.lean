/- Kept results. -/
import Derived.Test.YtfbhoomfhjlbiaaGreatDoorMkH1
import Derived.Test.YtfbhoomfhjlbiaaGreatDoorMkV2
namespace Go.Proofs.YtfbhoomfhjlbiaaGreatDoor
open Go Go.Abs Go.RowKit
set_option linter.unusedVariables false
set_option maxRecDepth 100000
noncomputable def k2_81_1 : List (List AV × AV) := [([w24],bT)]
set_option maxHeartbeats 0 in
theorem k2_81_1_ok : AllE Tryz.prog 81 k2_81_1 := keep hk2_ok (by decide +kernel)
end Go.Proofs.YtfbhoomfhjlbiaaGreatDoor
