/- Kept results as hooks. -/
import Derived.Test.YtdkfimmhgpeimaaGreatDoorQkS3_0
namespace Go.Proofs.YtdkfimmhgpeimaaGreatDoor
open Go Go.Abs
set_option linter.unusedVariables false
set_option maxRecDepth 100000
/-- sizar/term.Vars -/
noncomputable def M3_63 : ML := mkM [83650209,94720271,153465981,145438556,150221659,28632258,29585570,17838724,188594327,245881963,1254400,41508378,70736203,113390039,28662049,158392659,201247275,28691840,146625362,142348620,208160299,127039035,16077916,178683150,45424949,27545444,114977063,262838033,229121396,233399082,89143475,199253273,256511575,198431155,21501231,118847526,1089723,158577023,124282339,193209060,250467362,229629743,15457018,40621609,179662777,70045734,159421203,187164847,244423149,260828331,9412805,230831091,20788698,199466182,194560067,181120634,238378936] (k3_63_0)
theorem M3_63_ok : HookOne Tryz.prog 63 (memoF (mkF M3_63)) := HookOne.memoM (by decide +kernel) (k3_63_0_ok)
/-- sizar/sizarref1.Vars -/
noncomputable def M3_128 : ML := mkM [221436984,94720271,68269425,145438556,85622724] (k3_128_0)
theorem M3_128_ok : HookOne Tryz.prog 128 (memoF (mkF M3_128)) := HookOne.memoM (by decide +kernel) (k3_128_0_ok)
noncomputable def hk4 : HL := (63, memoF (mkF M3_63)) :: (128, memoF (mkF M3_128)) :: hk3
theorem hk4_ok : AllH Tryz.prog hk4 := .c M3_63_ok <| .c M3_128_ok <| hk3_ok
end Go.Proofs.YtdkfimmhgpeimaaGreatDoor
