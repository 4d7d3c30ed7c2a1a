/- Kept results. -/
import Derived.Test.YtopjcibcjaghcaaGreatDoorSkA
import Derived.Test.YtopjcibcjaghcaaGreatDoorSkV1
namespace Go.Proofs.YtopjcibcjaghcaaGreatDoor
open Go Go.Abs Go.RowKit
set_option linter.unusedVariables false
set_option maxRecDepth 100000
noncomputable def k1_75_0 : List (List AV × AV) := [([w0],bT)]
set_option maxHeartbeats 0 in
theorem k1_75_0_ok : AllE Tryz.prog 75 k1_75_0 := keep hk0_ok (by decide +kernel)
noncomputable def k1_82_0 : List (List AV × AV) := [([(.str [112]),(ci 1)],bF),
  ([(.str [113]),(ci 2)],bF),
  ([(.str [114]),(ci 0)],bF)]
set_option maxHeartbeats 0 in
theorem k1_82_0_ok : AllE Tryz.prog 82 k1_82_0 := keep hk0_ok (by decide +kernel)
noncomputable def k1_61_0 : List (List AV × AV) := [([],(.agg w7))]
set_option maxHeartbeats 0 in
theorem k1_61_0_ok : AllE Tryz.prog 61 k1_61_0 := keep hk0_ok (by decide +kernel)
noncomputable def k1_134_0 : List (List AV × AV) := [([(.agg w7)],bT)]
set_option maxHeartbeats 0 in
theorem k1_134_0_ok : AllE Tryz.prog 134 k1_134_0 := keep hk0_ok (by decide +kernel)
end Go.Proofs.YtopjcibcjaghcaaGreatDoor
