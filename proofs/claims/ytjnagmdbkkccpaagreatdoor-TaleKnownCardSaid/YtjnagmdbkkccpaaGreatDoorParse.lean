/- The contract of whole.Parse, at every string. -/
import Derived.Test.YtjnagmdbkkccpaaGreatDoorBaseG
import Derived.Deep.LoopGhost
import Derived.Test.YtjnagmdbkkccpaaGreatDoorParsePlain
import Derived.Shelf.Strings.SlTrimAscii
import Derived.Lib.SmallJoins
namespace Go.Proofs.YtjnagmdbkkccpaaGreatDoor
open Go Go.ChangeShapes Go.WideShapes Go.ChangeAt Go.RowKit
set_option linter.unusedVariables false
/-- The library's ErrRange holds an error. -/
def Rng (w : World) : Prop := ∃ tp p, w.var? Tryz.prog "strconv.ErrRange" = some #[.iface tp p]
theorem Rng.keep {w w' : World} (h : Rng w) (hb : Below w.heap.size w w') : Rng w' := let ⟨tp, p, h⟩ := h; ⟨tp, p, var_keep h hb⟩
end Go.Proofs.YtjnagmdbkkccpaaGreatDoor
