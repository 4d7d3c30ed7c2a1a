/- Kept results. -/
import Derived.Test.YtopjcibcjaghcaaGreatDoorSkH1
import Derived.Test.YtopjcibcjaghcaaGreatDoorSkV2
namespace Go.Proofs.YtopjcibcjaghcaaGreatDoor
open Go Go.Abs Go.RowKit
set_option linter.unusedVariables false
set_option maxRecDepth 100000
noncomputable def k2_42_0 : List (List AV × AV) := [([(.agg w8)],bT),
  ([(.agg w9)],bT),
  ([(.agg w10)],bT),
  ([(.agg w13)],bT),
  ([(.agg [(ci 2),(ci 0),(.str [116,114,117,101]),.nils])],bT),
  ([(.agg w15)],bT),
  ([(.agg w16)],bT),
  ([(.agg w17)],bT),
  ([(.agg w18)],bT),
  ([(.agg w21)],bT),
  ([(.agg w20)],bT),
  ([(.agg w19)],bT),
  ([(.agg w22)],bT),
  ([(.agg [(ci 2),(ci 0),(.str [112]),(.vals 4 [[(ci 1),(ci 7),sE0,.nils]])])],bT)]
set_option maxHeartbeats 0 in
theorem k2_42_0_ok : AllE Tryz.prog 42 k2_42_0 := keep hk2_ok (by decide +kernel)
noncomputable def k2_37_0 : List (List AV × AV) := [([w0,(.int .u64 (3))],bT),
  ([w0,(.int .u64 (1))],bT),
  ([w0,(.int .u64 (0))],bT),
  ([w0,(.int .u64 (2))],bT),
  ([w0,(.int .u64 (4))],bF)]
set_option maxHeartbeats 0 in
theorem k2_37_0_ok : AllE Tryz.prog 37 k2_37_0 := keep hk2_ok (by decide +kernel)
noncomputable def k2_74_0 : List (List AV × AV) := [([(.str [112]),(ci 1)],bF),
  ([(.str [113]),(ci 2)],bF),
  ([(.str [114]),(ci 0)],bF),
  ([(.str [122]),(ci 1)],bF)]
set_option maxHeartbeats 0 in
theorem k2_74_0_ok : AllE Tryz.prog 74 k2_74_0 := keep hk2_ok (by decide +kernel)
noncomputable def k2_80_0 : List (List AV × AV) := [([(.agg w8)],bT),
  ([(.agg w9)],bT),
  ([(.agg w10)],bT)]
set_option maxHeartbeats 0 in
theorem k2_80_0_ok : AllE Tryz.prog 80 k2_80_0 := keep hk2_ok (by decide +kernel)
noncomputable def k2_46_0 : List (List AV × AV) := [([w0,(.int .u64 (3))],bT),
  ([w0,(.int .u64 (1))],bT),
  ([w0,(.int .u64 (0))],bT)]
set_option maxHeartbeats 0 in
theorem k2_46_0_ok : AllE Tryz.prog 46 k2_46_0 := keep hk2_ok (by decide +kernel)
noncomputable def k2_222_0 : List (List AV × AV) := [([(.agg w7),(.str [44]),bF],(.tup [(.agg w4),bT])),
  ([(.agg w7),(.str [58,45]),bF],(.tup [(.agg w2),bT])),
  ([(.agg w7),(.str [114]),bT],(.tup w23)),
  ([(.agg w7),(.str [114]),bF],(.tup w23))]
set_option maxHeartbeats 0 in
theorem k2_222_0_ok : AllE Tryz.prog 222 k2_222_0 := keep hk2_ok (by decide +kernel)
end Go.Proofs.YtopjcibcjaghcaaGreatDoor
