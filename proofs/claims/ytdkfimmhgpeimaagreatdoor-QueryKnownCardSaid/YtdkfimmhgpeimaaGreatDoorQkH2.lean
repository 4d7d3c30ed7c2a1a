/- Kept results as hooks. -/
import Derived.Test.YtdkfimmhgpeimaaGreatDoorQkS2_0
import Derived.Test.YtdkfimmhgpeimaaGreatDoorQkS2_1
import Derived.Test.YtdkfimmhgpeimaaGreatDoorQkS2_2
namespace Go.Proofs.YtdkfimmhgpeimaaGreatDoor
open Go Go.Abs
set_option linter.unusedVariables false
set_option maxRecDepth 100000
/-- sizar/term.Good -/
noncomputable def M2_75 : ML := mkM [142795485,142825276,142855067,142884858,267193953,142735903,83650209,245881963,94720271,233399082,229121396,153465981,145438556,50278971,195127879,150221659,28632258,29585570,17838724,188594327,1254400,41508378,70736203,113390039,28662049,158392659,201247275,28691840,146625362,142348620,208160299,127039035,16077916,178683150,45424949,27545444,114977063,262838033,89143475,199253273,256511575,198431155,118847526,21501231,1089723,158577023,124282339,193209060,250467362,229629743,40621609,15457018,179662777,70045734,159421203,187164847,244423149,260828331,230831091,9412805,20788698,199466182,194560067,181120634,238378936,23591520] (k2_75_0)
theorem M2_75_ok : HookOne Tryz.prog 75 (memoF (mkF M2_75)) := HookOne.memoM (by decide +kernel) (k2_75_0_ok)
/-- sizar/label.Fits -/
noncomputable def M2_57 : ML := mkM [74984549,74984487,74984456,74984518] (k2_57_0)
theorem M2_57_ok : HookOne Tryz.prog 57 (memoF (mkF M2_57)) := HookOne.memoM (by decide +kernel) (k2_57_0_ok)
/-- sizar/sig.Plain -/
noncomputable def M2_102 : ML := mkM [137461,138453,139352,140344,121655012,135570,88481,142394884,136782100] (k2_102_0)
theorem M2_102_ok : HookOne Tryz.prog 102 (memoF (mkF M2_102)) := HookOne.memoM (by decide +kernel) (k2_102_0_ok)
/-- sizar/sizarref1.Good -/
noncomputable def M2_108 : ML := mkM [142795485,142825276,142855067,142884858,267193953,142735903,83650209,221436984,94720271,229121396,153465981,68269425,145438556,195127879,17838724,85622724] (k2_108_0 ++ k2_108_1)
theorem M2_108_ok : HookOne Tryz.prog 108 (memoF (mkF M2_108)) := HookOne.memoM (by decide +kernel) ((k2_108_0_ok).app k2_108_1_ok)
/-- sizar/sizarref1.Fits -/
noncomputable def M2_110 : ML := mkM [74984549,74984487,74984456,74984518] (k2_110_1 ++ k2_110_2)
theorem M2_110_ok : HookOne Tryz.prog 110 (memoF (mkF M2_110)) := HookOne.memoM (by decide +kernel) ((k2_110_1_ok).app k2_110_2_ok)
/-- sizar/op.find -/
noncomputable def M2_367 : ML := mkM [241424883,241424914,85672775,240395683,85747702,85747733,85690073,241863130,85673736,85689112,85728513,85729443,14490474,14490505,85723677,85723708,134502536,134502567,85671814,85724638,85724669] (k2_367_2)
theorem M2_367_ok : HookOne Tryz.prog 367 (memoF (mkF M2_367)) := HookOne.memoM (by decide +kernel) (k2_367_2_ok)
noncomputable def hk3 : HL := (75, memoF (mkF M2_75)) :: (57, memoF (mkF M2_57)) :: (102, memoF (mkF M2_102)) :: (108, memoF (mkF M2_108)) :: (110, memoF (mkF M2_110)) :: (367, memoF (mkF M2_367)) :: hk2
theorem hk3_ok : AllH Tryz.prog hk3 := .c M2_75_ok <| .c M2_57_ok <| .c M2_102_ok <| .c M2_108_ok <| .c M2_110_ok <| .c M2_367_ok <| hk2_ok
end Go.Proofs.YtdkfimmhgpeimaaGreatDoor
