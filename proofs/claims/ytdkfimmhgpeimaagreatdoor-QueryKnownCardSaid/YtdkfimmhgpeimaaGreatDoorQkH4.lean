/- Kept results as hooks. -/
import Derived.Test.YtdkfimmhgpeimaaGreatDoorQkS4_0
namespace Go.Proofs.YtdkfimmhgpeimaaGreatDoor
open Go Go.Abs
set_option linter.unusedVariables false
set_option maxRecDepth 100000
/-- sizar/sizarlaw26.awake -/
noncomputable def M4_26 : ML := mkM [38] (k4_26_0)
theorem M4_26_ok : HookOne Tryz.prog 26 (memoF (mkF M4_26)) := HookOne.memoM (by decide +kernel) (k4_26_0_ok)
noncomputable def hk5 : HL := (26, memoF (mkF M4_26)) :: hk4
theorem hk5_ok : AllH Tryz.prog hk5 := .c M4_26_ok <| hk4_ok
end Go.Proofs.YtdkfimmhgpeimaaGreatDoor
