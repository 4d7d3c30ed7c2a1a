import Derived.Test.YtdekdghldblfaaaGreatDoorAbsL
import Derived.Test.YtdekdghldblfaaaGreatDoorRows
set_option linter.unusedVariables false
set_option linter.unusedSimpArgs false
namespace Go.Proofs.YtdekdghldblfaaaGreatDoor
open Go Go.Abs Go.RowKit
theorem mixed:Tryz.prog.follows .mixedOrders=true:=by decide +kernel
def all(f:FuncId):Bool:=true
set_option maxRecDepth 100000 in
theorem draws:∀f,all f=true→qwg Tryz.prog f=true:=fun f _=>funD_all (n:=Tryz.prog.funcs.size) rfl (by decide +kernel) f
end Go.Proofs.YtdekdghldblfaaaGreatDoor
