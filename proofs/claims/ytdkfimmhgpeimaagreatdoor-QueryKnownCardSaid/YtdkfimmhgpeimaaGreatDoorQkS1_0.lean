/- Kept results. -/
import Derived.Test.YtdkfimmhgpeimaaGreatDoorQkA
import Derived.Test.YtdkfimmhgpeimaaGreatDoorQkV1
namespace Go.Proofs.YtdkfimmhgpeimaaGreatDoor
open Go Go.Abs
set_option linter.unusedVariables false
set_option maxRecDepth 100000
noncomputable def k1_103_0 : List (List AV × AV) := [([w0],bT)]
set_option maxHeartbeats 0 in
theorem k1_103_0_ok : AllE Tryz.prog 103 k1_103_0 := keep hk0_ok (by decide +kernel)
noncomputable def k1_111_0 : List (List AV × AV) := [([(.str [112]),(ci 1)],bF),
  ([(.str [113]),(ci 2)],bF),
  ([(.str [114]),(ci 0)],bF),
  ([(.str [115]),(ci 1)],bF),
  ([w1,(ci 3)],bF),
  ([(.str [110]),(ci 2)],bF)]
set_option maxHeartbeats 0 in
theorem k1_111_0_ok : AllE Tryz.prog 111 k1_111_0 := keep hk0_ok (by decide +kernel)
noncomputable def k1_30_0 : List (List AV × AV) := [([],(.agg w14))]
set_option maxHeartbeats 0 in
theorem k1_30_0_ok : AllE Tryz.prog 30 k1_30_0 := keep hk0_ok (by decide +kernel)
noncomputable def k1_187_0 : List (List AV × AV) := [([(.agg w14)],bT)]
set_option maxHeartbeats 0 in
theorem k1_187_0_ok : AllE Tryz.prog 187 k1_187_0 := keep hk0_ok (by decide +kernel)
end Go.Proofs.YtdkfimmhgpeimaaGreatDoor
