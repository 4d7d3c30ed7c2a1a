/- Kept results. -/
import Derived.Test.YtfbhoomfhjlbiaaGreatDoorMkH3
import Derived.Test.YtfbhoomfhjlbiaaGreatDoorMkV4
namespace Go.Proofs.YtfbhoomfhjlbiaaGreatDoor
open Go Go.Abs Go.RowKit
set_option linter.unusedVariables false
set_option maxRecDepth 100000
noncomputable def k4_7_0 : List (List AV × AV) := [([],bT)]
set_option maxHeartbeats 0 in
theorem k4_7_0_ok : AllE Tryz.prog 7 k4_7_0 := keep hk4_ok (by decide +kernel)
end Go.Proofs.YtfbhoomfhjlbiaaGreatDoor
