/- Kept results as hooks. -/
import Derived.Test.YtjnagmdbkkccpaaGreatDoorTkS5_0
namespace Go.Proofs.YtjnagmdbkkccpaaGreatDoor
open Go Go.Abs Go.RowKit
set_option linter.unusedVariables false
set_option maxRecDepth 100000
/-- sizar/tale.Run -/
noncomputable def M5_5 : ML := mkM [31777343,38,34820703,233695391,79559595,9796572,147046158,57999750,165262962,228619105,189348195,86160429,29252312,225372815,265002522,20276559,91529712,3128336,170541049,80152175,42129906,150090495,198624996,159373875] (k5_5_0)
theorem M5_5_ok : HookOne Tryz.prog 5 (memoF (mkF M5_5)) := HookOne.memoM (by decide +kernel) (k5_5_0_ok)
noncomputable def hk6 : HL := (5, memoF (mkF M5_5)) :: hk3
theorem hk6_ok : AllH Tryz.prog hk6 := .c M5_5_ok <| hk3_ok
end Go.Proofs.YtjnagmdbkkccpaaGreatDoor
