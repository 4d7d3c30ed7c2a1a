import Derived.Test.YtdekdghldblfaaaGreatDoorRows
import Derived.WalkKit
import Derived.ProofKit
import Derived.OpenShut
import Derived.Lib.Hide
import Derived.WalkSpells
import Derived.IntWalk
import Derived.Test.YtdekdghldblfaaaGreatDoorShelf
import Derived.Lib.LaidTab
import Derived.Lib.AppendIntMem
import Derived.WalkSmall
import Derived.WalkLawsBesides
set_option linter.unusedVariables false
set_option linter.unusedSimpArgs false
namespace Go.Proofs.YtdekdghldblfaaaGreatDoor
section
open Go Go.ChangeShapes Go.WideShapes Go.ChangeAt Go.RowKit
def Blk(w:World)(b:Nat)(cs:Array Value)(t:TypeId):Prop:=w.heap[b]? = some (.cells cs t (0,0))
theorem Blk.lt{w:World}{b:Nat}{cs:Array Value}{t:TypeId}(h:Blk w b cs t):b<w.heap.size:=by
 unfold Blk at h
 rcases Nat.lt_or_ge b w.heap.size with h'|h'
 ·exact h'
 ·rw[Array.getElem?_eq_none h'] at h;cases h
theorem Blk.cell{w:World}{b:Nat}{cs:Array Value}{t:TypeId}(h:Blk w b cs t){i:Nat}{v:Value}(hv:cs[i]? = some v):w.cell? ⟨b,i,none⟩=some v:=by
 unfold Blk at h;simp[World.cell?,h,hv]
theorem Blk.free{w:World}{b:Nat}{cs:Array Value}{t:TypeId}(h:Blk w b cs t)(i:Nat):w.frozen? ⟨b,i,none⟩=false:=by
 unfold Blk at h;simp[World.frozen?,h]
theorem Blk.new(w:World)(cs:Array Value)(t:TypeId):Blk (w.alloc (.cells cs t)) w.heap.size cs t:=by
 show (w.heap.push _)[w.heap.size]? = _
 simp
theorem Blk.alloc{w:World}{b:Nat}{cs:Array Value}{t:TypeId}(h:Blk w b cs t)(o:Obj):Blk (w.alloc o) b cs t:=by
 have:=h.lt
 show (w.heap.push _)[b]? = _
 rw[Array.getElem?_push,if_neg (by omega)];exact h
theorem Blk.keep{w w':World}{b:Nat}{cs:Array Value}{t:TypeId}(h:Blk w b cs t)(hb:Below w.heap.size w w'):Blk w' b cs t:=by
 unfold Blk;rw[hb.block b h.lt];exact h
theorem Blk.store{w:World}{b:Nat}{cs:Array Value}{t:TypeId}(h:Blk w b cs t)(i:Nat)(v:Value):Blk (w.setCell ⟨b,i,none⟩ v) b (cs.setIfInBounds i v) t:=by
 unfold Blk at *
 simp[World.setCell,Array.getElem?_modify,h]
theorem Blk.one{w:World}{b:Nat}{x:Value}{t:TypeId}(h:Blk w b #[x] t):w.cell? ⟨b,0,none⟩=some x∧w.frozen? ⟨b,0,none⟩=false∧b<w.heap.size:=
 ⟨h.cell rfl,h.free 0,h.lt⟩
end
section
open Go Go.RowKit
def i64(a:Int):Prop:=-9223372036854775808≤a∧a≤9223372036854775807
instance (a:Int):Decidable (i64 a):=by unfold i64;exact inferInstance
end
section
open Go Go.ChangeShapes Go.WideShapes Go.ChangeAt Go.RowKit
theorem bcall{a w w':World}(h:Below a.heap.size a w)(k:Below w.heap.size w w'):Below a.heap.size a w':=h.trans (k.mono h.size)
end
end Go.Proofs.YtdekdghldblfaaaGreatDoor
