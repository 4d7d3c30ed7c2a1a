/- Kept results. -/
import Derived.Test.YtdkfimmhgpeimaaGreatDoorQkH1
import Derived.Test.YtdkfimmhgpeimaaGreatDoorQkV2
namespace Go.Proofs.YtdkfimmhgpeimaaGreatDoor
open Go Go.Abs
set_option linter.unusedVariables false
set_option maxRecDepth 100000
noncomputable def k2_110_2 : List (List AV × AV) := [([w0,(.int .u64 (0))],bT),
  ([w0,(.int .u64 (2))],bT)]
set_option maxHeartbeats 0 in
theorem k2_110_2_ok : AllE Tryz.prog 110 k2_110_2 := keep hk2_ok (by decide +kernel)
noncomputable def k2_367_2 : List (List AV × AV) := [([(.agg w14),(.str [91,93]),bT],(.tup w108)),
  ([(.agg w14),(.str [91,93]),bF],(.tup w108)),
  ([(.agg w14),(.str [44]),bF],(.tup [(.agg w5),bT])),
  ([(.agg w14),(.str [58,45]),bF],(.tup [(.agg w3),bT])),
  ([(.agg w14),(.str [122]),bT],(.tup w108)),
  ([(.agg w14),(.str [122]),bF],(.tup w108)),
  ([(.agg w14),(.str [62]),bF],(.tup [(.agg w10),bT])),
  ([(.agg w14),w8,bF],(.tup [(.agg w9),bT])),
  ([(.agg w14),(.str [45]),bF],(.tup [(.agg w13),bT])),
  ([(.agg w14),(.str [61]),bF],(.tup [(.agg w7),bT])),
  ([(.agg w14),(.str [102]),bF],(.tup w108)),
  ([(.agg w14),(.str [103]),bT],(.tup w108)),
  ([(.agg w14),w24,bT],(.tup w108)),
  ([(.agg w14),w24,bF],(.tup w108)),
  ([(.agg w14),(.str [97]),bT],(.tup w108)),
  ([(.agg w14),(.str [97]),bF],(.tup w108)),
  ([(.agg w14),w51,bT],(.tup w108)),
  ([(.agg w14),w51,bF],(.tup w108)),
  ([(.agg w14),(.str [43]),bF],(.tup [(.agg w12),bT])),
  ([(.agg w14),(.str [98]),bT],(.tup w108)),
  ([(.agg w14),(.str [98]),bF],(.tup w108))]
set_option maxHeartbeats 0 in
theorem k2_367_2_ok : AllE Tryz.prog 367 k2_367_2 := keep hk2_ok (by decide +kernel)
end Go.Proofs.YtdkfimmhgpeimaaGreatDoor
