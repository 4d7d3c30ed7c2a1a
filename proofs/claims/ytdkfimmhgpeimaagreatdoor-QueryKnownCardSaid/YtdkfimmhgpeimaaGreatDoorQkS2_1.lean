/- Kept results. -/
import Derived.Test.YtdkfimmhgpeimaaGreatDoorQkH1
import Derived.Test.YtdkfimmhgpeimaaGreatDoorQkV2
namespace Go.Proofs.YtdkfimmhgpeimaaGreatDoor
open Go Go.Abs
set_option linter.unusedVariables false
set_option maxRecDepth 100000
noncomputable def k2_108_1 : List (List AV × AV) := [([(.agg w32)],bT),
  ([(.agg w30)],bT),
  ([(.agg w34)],bT),
  ([(.agg w106)],bT),
  ([(.agg w39)],bT),
  ([(.agg w35)],bT),
  ([(.agg w41)],bT),
  ([(.agg w107)],bT)]
set_option maxHeartbeats 0 in
theorem k2_108_1_ok : AllE Tryz.prog 108 k2_108_1 := keep hk2_ok (by decide +kernel)
noncomputable def k2_110_1 : List (List AV × AV) := [([w0,(.int .u64 (3))],bT),
  ([w0,(.int .u64 (1))],bT)]
set_option maxHeartbeats 0 in
theorem k2_110_1_ok : AllE Tryz.prog 110 k2_110_1 := keep hk2_ok (by decide +kernel)
end Go.Proofs.YtdkfimmhgpeimaaGreatDoor
