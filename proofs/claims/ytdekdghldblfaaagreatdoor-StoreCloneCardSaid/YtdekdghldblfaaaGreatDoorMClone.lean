import Derived.Test.YtdekdghldblfaaaGreatDoorAbsV
import Derived.Test.YtdekdghldblfaaaGreatDoorRows
import Derived.Shelf.SlMaps.Clone
set_option linter.unusedVariables false
set_option linter.unusedSimpArgs false
namespace Go.Proofs.YtdekdghldblfaaaGreatDoor
open Go Go.Abs Go.RowKit
set_option maxRecDepth 100000 in
set_option maxHeartbeats 2000000 in
theorem mclone_a(b:Nat)(es:Array MapEntry)(clock:Nat)(w:World)(hb:w.heap[b]? = some (.map es clock)):Calls Tryz.prog 53 #[.map (some b)] w fun e w'=>e=.returned (.map (some w.heap.size))∧w'=w.alloc (.map es clock):=by
 have hq:=fun w=>run_eql_map_nil_sl (P:=Tryz.prog) w 90 _ _ (some b) Tryz.underlying90
 go_enter Tryz.func53,Tryz.ntmps53
 go_wp2
 rw[run_callFunc_extern Tryz.func103 (by kernel_rfl) (by kernel_rfl) (by kernel_rfl) (e:=Extern.MapsClone.clone) (by kernel_rfl),run_maps_clone_sl w 90 hb]
 simp only[Result.andThen]
 rw[Oper.upon_value]
 go_wp2
 rw[run_typeAssert_map_sl _ 90 _ _ _ _ Tryz.underlying90]
 simp only[Result.andThen]
 rw[Oper.upon_value]
 go_wp2
 go_ret
 exact⟨rfl,rfl⟩
set_option maxRecDepth 100000 in
set_option maxHeartbeats 2000000 in
theorem mclone_b(b:Nat)(es:Array MapEntry)(clock:Nat)(w:World)(hb:w.heap[b]? = some (.map es clock)):Calls Tryz.prog 54 #[.map (some b)] w fun e w'=>e=.returned (.map (some w.heap.size))∧w'=w.alloc (.map es clock):=by
 have hq:=fun w=>run_eql_map_nil_sl (P:=Tryz.prog) w 91 _ _ (some b) Tryz.underlying91
 go_enter Tryz.func54,Tryz.ntmps54
 go_wp2
 rw[run_callFunc_extern Tryz.func103 (by kernel_rfl) (by kernel_rfl) (by kernel_rfl) (e:=Extern.MapsClone.clone) (by kernel_rfl),run_maps_clone_sl w 91 hb]
 simp only[Result.andThen]
 rw[Oper.upon_value]
 go_wp2
 rw[run_typeAssert_map_sl _ 91 _ _ _ _ Tryz.underlying91]
 simp only[Result.andThen]
 rw[Oper.upon_value]
 go_wp2
 go_ret
 exact⟨rfl,rfl⟩
theorem mclone_A:HookOne Tryz.prog 53 qe6:=HookOne.mclone (by decide +kernel) mclone_a
theorem mclone_B:HookOne Tryz.prog 54 qe6:=HookOne.mclone (by decide +kernel) mclone_b
end Go.Proofs.YtdekdghldblfaaaGreatDoor
