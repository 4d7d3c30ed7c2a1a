/- Kept results as hooks. -/
import Derived.Test.YtopjcibcjaghcaaGreatDoorSkS3_0
namespace Go.Proofs.YtopjcibcjaghcaaGreatDoor
open Go Go.Abs Go.RowKit
set_option linter.unusedVariables false
set_option maxRecDepth 100000
/-- sizar/term.Vars -/
noncomputable def M3_113 : ML := mkM [30985563,59614714,10842698,16392318,209909697,256198566,142855067] (k3_113_0)
theorem M3_113_ok : HookOne Tryz.prog 113 (memoF (mkF M3_113)) := HookOne.memoM (by decide +kernel) (k3_113_0_ok)
noncomputable def hk4 : HL := (113, memoF (mkF M3_113)) :: hk3
theorem hk4_ok : AllH Tryz.prog hk4 := .c M3_113_ok <| hk3_ok
end Go.Proofs.YtopjcibcjaghcaaGreatDoor
