/- Kept results. -/
import Derived.Test.YtdkfimmhgpeimaaGreatDoorQkH1
import Derived.Test.YtdkfimmhgpeimaaGreatDoorQkV2
namespace Go.Proofs.YtdkfimmhgpeimaaGreatDoor
open Go Go.Abs
set_option linter.unusedVariables false
set_option maxRecDepth 100000
noncomputable def k2_75_0 : List (List AV × AV) := [([(.agg w15)],bT),
  ([(.agg w16)],bT),
  ([(.agg w17)],bT),
  ([(.agg w18)],bT),
  ([(.agg w19)],bT),
  ([(.agg w20)],bT),
  ([(.agg w23)],bT),
  ([(.agg w25)],bT),
  ([(.agg w32)],bT),
  ([(.agg w31)],bT),
  ([(.agg w30)],bT),
  ([(.agg w34)],bT),
  ([(.agg w39)],bT),
  ([(.agg w38)],bT),
  ([(.agg w35)],bT),
  ([(.agg w40)],bT),
  ([(.agg w22)],bT),
  ([(.agg w36)],bT),
  ([(.agg w41)],bT),
  ([(.agg w42)],bT),
  ([(.agg w44)],bT),
  ([(.agg w43)],bT),
  ([(.agg w47)],bT),
  ([(.agg w45)],bT),
  ([(.agg w26)],bT),
  ([(.agg w46)],bT),
  ([(.agg w48)],bT),
  ([(.agg w28)],bT),
  ([(.agg w50)],bT),
  ([(.agg w49)],bT),
  ([(.agg w52)],bT),
  ([(.agg w55)],bT),
  ([(.agg w54)],bT),
  ([(.agg w56)],bT),
  ([(.agg w58)],bT),
  ([(.agg w59)],bT),
  ([(.agg w21)],bT),
  ([(.agg w57)],bT),
  ([(.agg w65)],bT),
  ([(.agg w61)],bT),
  ([(.agg w64)],bT),
  ([(.agg w66)],bT),
  ([(.agg w67)],bT),
  ([(.agg w69)],bT),
  ([(.agg w70)],bT),
  ([(.agg w71)],bT),
  ([(.agg w78)],bT),
  ([(.agg w74)],bT),
  ([(.agg w77)],bT),
  ([(.agg w79)],bT),
  ([(.agg w80)],bT),
  ([(.agg w82)],bT),
  ([(.agg w83)],bT),
  ([(.agg w84)],bT),
  ([(.agg w91)],bT),
  ([(.agg w87)],bT),
  ([(.agg w90)],bT),
  ([(.agg w92)],bT),
  ([(.agg w93)],bT),
  ([(.agg w95)],bT),
  ([(.agg w96)],bT),
  ([(.agg w97)],bT),
  ([(.agg w104)],bT),
  ([(.agg w100)],bT),
  ([(.agg w103)],bT),
  ([(.agg [(ci 2),(ci 0),w1,(.vals 4 [w99,w101,w102])])],bT)]
set_option maxHeartbeats 0 in
theorem k2_75_0_ok : AllE Tryz.prog 75 k2_75_0 := keep hk2_ok (by decide +kernel)
noncomputable def k2_57_0 : List (List AV × AV) := [([w0,(.int .u64 (3))],bT),
  ([w0,(.int .u64 (1))],bT),
  ([w0,(.int .u64 (0))],bT),
  ([w0,(.int .u64 (2))],bT)]
set_option maxHeartbeats 0 in
theorem k2_57_0_ok : AllE Tryz.prog 57 k2_57_0 := keep hk2_ok (by decide +kernel)
noncomputable def k2_102_0 : List (List AV × AV) := [([(.str [112]),(ci 1)],bF),
  ([(.str [113]),(ci 2)],bF),
  ([(.str [114]),(ci 0)],bF),
  ([(.str [115]),(ci 1)],bF),
  ([w1,(ci 3)],bF),
  ([(.str [110]),(ci 2)],bF),
  ([(.str [61]),(ci 2)],bT),
  ([w51,(ci 0)],bT),
  ([w53,(ci 1)],bT)]
set_option maxHeartbeats 0 in
theorem k2_102_0_ok : AllE Tryz.prog 102 k2_102_0 := keep hk2_ok (by decide +kernel)
noncomputable def k2_108_0 : List (List AV × AV) := [([(.agg w15)],bT),
  ([(.agg w16)],bT),
  ([(.agg w17)],bT),
  ([(.agg w18)],bT),
  ([(.agg w19)],bT),
  ([(.agg w20)],bT),
  ([(.agg w23)],bT),
  ([(.agg w105)],bT)]
set_option maxHeartbeats 0 in
theorem k2_108_0_ok : AllE Tryz.prog 108 k2_108_0 := keep hk2_ok (by decide +kernel)
end Go.Proofs.YtdkfimmhgpeimaaGreatDoor
