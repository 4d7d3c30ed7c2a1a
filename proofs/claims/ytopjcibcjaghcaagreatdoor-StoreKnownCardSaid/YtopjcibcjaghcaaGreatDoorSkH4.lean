/- Kept results as hooks. -/
import Derived.Test.YtopjcibcjaghcaaGreatDoorSkS4_0
namespace Go.Proofs.YtopjcibcjaghcaaGreatDoor
open Go Go.Abs Go.RowKit
set_option linter.unusedVariables false
set_option maxRecDepth 100000
/-- sizar/sizarlaw18.awake -/
noncomputable def M4_9 : ML := mkM [38] (k4_9_0)
theorem M4_9_ok : HookOne Tryz.prog 9 (memoF (mkF M4_9)) := HookOne.memoM (by decide +kernel) (k4_9_0_ok)
noncomputable def hk5 : HL := (9, memoF (mkF M4_9)) :: hk4
theorem hk5_ok : AllH Tryz.prog hk5 := .c M4_9_ok <| hk4_ok
end Go.Proofs.YtopjcibcjaghcaaGreatDoor
