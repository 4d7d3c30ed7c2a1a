/- Kept results. -/
import Derived.Test.YtopjcibcjaghcaaGreatDoorSkH2
import Derived.Test.YtopjcibcjaghcaaGreatDoorSkV3
namespace Go.Proofs.YtopjcibcjaghcaaGreatDoor
open Go Go.Abs Go.RowKit
set_option linter.unusedVariables false
set_option maxRecDepth 100000
noncomputable def k3_113_0 : List (List AV × AV) := [([(.agg w13)],.nils),
  ([(.agg w15)],.nils),
  ([(.agg w17)],.nils),
  ([(.agg w18)],.nils),
  ([(.agg w21)],(.vals 1 [[(ci 0)],[(ci 1)]])),
  ([(.agg w22)],.nils),
  ([(.agg w10)],.nils)]
set_option maxHeartbeats 0 in
theorem k3_113_0_ok : AllE Tryz.prog 113 k3_113_0 := keep hk3_ok (by decide +kernel)
end Go.Proofs.YtopjcibcjaghcaaGreatDoor
