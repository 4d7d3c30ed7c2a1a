
import Derived.Test.YtdekdghldblfaaaGreatDoorAbsV
import Derived.Test.YtdekdghldblfaaaGreatDoorRows
import Derived.Shelf.RegionOpenPlain
import Derived.WalkKit
import Derived.Lib.Walk
import Derived.ArgAppend
import Derived.Laws.IdiomCopy
namespace Go.Proofs.YtdekdghldblfaaaGreatDoor
open Go Go.Abs Go.RowKit Go.Lib
set_option linter.unusedVariables false
set_option linter.unusedSimpArgs false
def zClause : AV:=.agg [.int .i64 0,.int .u64 0,.int .i64 0,.int .i64 0,.str [],.nils,.int .i64 0,.int .i64 0,.str [],.nils]
theorem clause_zero : zeroA Tryz.prog 42 = some zClause:=by kernel_rfl
theorem clause_cells : (Tryz.prog).cellsOf 42 = 10:=by kernel_rfl
theorem clause_bytes : (Tryz.prog).bytesOf 42 = 128:=by kernel_rfl
theorem clause_info : ∃ i z,(Tryz.prog).info? 42 = some i ∧ i.size = 10 ∧ i.zero = some z ∧ z.cells.size = 10 ∧ (∀ c ∈ z.cells.toList,c.oneCell' = true) ∧ i.bytes = 128 ∧ ∀ w,(zeroValue 42).run Tryz.prog w = .ok z w:=by
 obtain ⟨zz,inf,hi,hzz,-,hvz⟩:=zeroA_ok (G:=noG) clause_zero default
 obtain ⟨q1,q2,q3⟩:=fit_ok (by rfl) hvz
 have hs : inf.size = 10:=by have:=clause_cells; simpa [Program.cellsOf,hi] using this
 have hb : inf.bytes = 128:=by have:=clause_bytes; simpa [Program.bytesOf,hi] using this
 refine ⟨inf,zz,hi,hs,hzz,?_,q3,hb,fun w=>by simp [zeroValue,typeInfo,hi,hzz]⟩
 rw [← Array.length_toList,q1.len]; rfl
end Go.Proofs.YtdekdghldblfaaaGreatDoor
namespace Go.Proofs.YtdekdghldblfaaaGreatDoor
open Go Go.Abs Go.RowKit Go.Lib
set_option linter.unusedVariables false
set_option linter.unusedSimpArgs false
end Go.Proofs.YtdekdghldblfaaaGreatDoor
namespace Go.Proofs.YtdekdghldblfaaaGreatDoor
open Go Go.Abs Go.RowKit Go.Lib
set_option linter.unusedVariables false
set_option linter.unusedSimpArgs false
end Go.Proofs.YtdekdghldblfaaaGreatDoor
