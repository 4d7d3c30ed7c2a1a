/- Kept results. -/
import Derived.Test.YtopjcibcjaghcaaGreatDoorSkH3
import Derived.Test.YtopjcibcjaghcaaGreatDoorSkV4
namespace Go.Proofs.YtopjcibcjaghcaaGreatDoor
open Go Go.Abs Go.RowKit
set_option linter.unusedVariables false
set_option maxRecDepth 100000
noncomputable def k4_9_0 : List (List AV × AV) := [([],bT)]
set_option maxHeartbeats 0 in
theorem k4_9_0_ok : AllE Tryz.prog 9 k4_9_0 := keep hk4_ok (by decide +kernel)
end Go.Proofs.YtopjcibcjaghcaaGreatDoor
