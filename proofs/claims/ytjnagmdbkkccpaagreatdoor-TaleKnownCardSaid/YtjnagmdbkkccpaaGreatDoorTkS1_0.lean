/- Kept results. -/
import Derived.Test.YtjnagmdbkkccpaaGreatDoorTkA
import Derived.Test.YtjnagmdbkkccpaaGreatDoorTkV1
namespace Go.Proofs.YtjnagmdbkkccpaaGreatDoor
open Go Go.Abs Go.RowKit
set_option linter.unusedVariables false
set_option maxRecDepth 100000
noncomputable def k1_74_0 : List (List AV × AV) := [([(.str [49]),w0],sE0),
  ([(.str [57]),w0],sE0),
  ([(.str [53,48]),w0],sE0),
  ([(.str [48]),w0],sE0),
  ([(.str [53]),w0],sE0),
  ([w1,w0],w1),
  ([(.str [120]),w0],(.str [120])),
  ([w2,w0],w2),
  ([(.str [50]),w0],sE0),
  ([(.str [55,48]),w0],sE0)]
set_option maxHeartbeats 0 in
theorem k1_74_0_ok : AllE Tryz.prog 74 k1_74_0 := keep hk0_ok (by decide +kernel)
noncomputable def k1_24_0 : List (List AV × AV) := [([w3],bT),
  ([w4],bT)]
set_option maxHeartbeats 0 in
theorem k1_24_0_ok : AllE Tryz.prog 24 k1_24_0 := keep hk0_ok (by decide +kernel)
noncomputable def k1_77_0 : List (List AV × AV) := [([(.agg w5)],(ci 1)),
  ([(.agg w7)],(ci 2)),
  ([(.agg w8)],(ci 1)),
  ([(.agg w9)],(ci 2)),
  ([(.agg w6)],(ci 1)),
  ([(.agg w11)],(ci 1)),
  ([(.agg w12)],(ci 1)),
  ([(.agg w14)],(ci 2)),
  ([(.agg w15)],(ci 3)),
  ([(.agg w13)],(ci 1))]
set_option maxHeartbeats 0 in
theorem k1_77_0_ok : AllE Tryz.prog 77 k1_77_0 := keep hk0_ok (by decide +kernel)
noncomputable def k1_78_0 : List (List AV × AV) := [([(.agg w5)],(ci 1)),
  ([(.agg w7)],(ci 2)),
  ([(.agg w8)],(ci 1)),
  ([(.agg w9)],(ci 2)),
  ([(.agg w6)],(ci 1)),
  ([(.agg w11)],(ci 1)),
  ([(.agg w12)],(ci 1)),
  ([(.agg w14)],(ci 2)),
  ([(.agg w15)],(ci 2)),
  ([(.agg w13)],(ci 1))]
set_option maxHeartbeats 0 in
theorem k1_78_0_ok : AllE Tryz.prog 78 k1_78_0 := keep hk0_ok (by decide +kernel)
noncomputable def k1_23_0 : List (List AV × AV) := [([(.str [112]),(ci 1)],bF),
  ([w10,(ci 2)],bT),
  ([(.str [113]),(ci 2)],bF)]
set_option maxHeartbeats 0 in
theorem k1_23_0_ok : AllE Tryz.prog 23 k1_23_0 := keep hk0_ok (by decide +kernel)
noncomputable def k1_32_0 : List (List AV × AV) := [([],(.agg w21))]
set_option maxHeartbeats 0 in
theorem k1_32_0_ok : AllE Tryz.prog 32 k1_32_0 := keep hk0_ok (by decide +kernel)
noncomputable def k1_159_0 : List (List AV × AV) := [([(.agg w21)],bT)]
set_option maxHeartbeats 0 in
theorem k1_159_0_ok : AllE Tryz.prog 159 k1_159_0 := keep hk0_ok (by decide +kernel)
noncomputable def k1_268_0 : List (List AV × AV) := [([(.agg w21),(.str [44]),bF],(.tup [(.agg w18),bT])),
  ([(.agg w21),(.str [112]),bT],(.tup w22)),
  ([(.agg w21),(.str [113]),bF],(.tup w22))]
set_option maxHeartbeats 0 in
theorem k1_268_0_ok : AllE Tryz.prog 268 k1_268_0 := keep hk0_ok (by decide +kernel)
end Go.Proofs.YtjnagmdbkkccpaaGreatDoor
