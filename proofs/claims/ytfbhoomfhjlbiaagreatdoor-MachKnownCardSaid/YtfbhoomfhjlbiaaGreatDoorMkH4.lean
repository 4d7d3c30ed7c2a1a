/- Kept results as hooks. -/
import Derived.Test.YtfbhoomfhjlbiaaGreatDoorMkS4_0
namespace Go.Proofs.YtfbhoomfhjlbiaaGreatDoor
open Go Go.Abs Go.RowKit
set_option linter.unusedVariables false
set_option maxRecDepth 100000
/-- sizar/sizarlaw25.awake -/
noncomputable def M4_7 : ML := mkM [38] (k4_7_0)
theorem M4_7_ok : HookOne Tryz.prog 7 (memoF (mkF M4_7)) := HookOne.memoM (by decide +kernel) (k4_7_0_ok)
noncomputable def hk5 : HL := (7, memoF (mkF M4_7)) :: hk4
theorem hk5_ok : AllH Tryz.prog hk5 := .c M4_7_ok <| hk4_ok
end Go.Proofs.YtfbhoomfhjlbiaaGreatDoor
