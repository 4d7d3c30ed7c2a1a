import Derived.Test.YtdekdghldblfaaaGreatDoorBaseG
import Derived.Deep.LoopGhost
import Derived.Deep.QuietTactic
import Derived.LoopTactic
import Derived.BigQuiet
import Derived.Lib.SmallJoins
import Derived.Laws.Rows
import Derived.OwnWalk
import Derived.Laws.AppendOwn
import Derived.Laws.Cover3
set_option linter.unusedVariables false
set_option linter.unusedSimpArgs false
namespace Go.Proofs.YtdekdghldblfaaaGreatDoor
section
open Go Go.ChangeShapes Go.WideShapes Go.ChangeAt Go.RowKit
inductive Tm where
 |mk (kind n:Int) (name:List UInt8) (args:List Tm)
def Tm.kind:Tm→Int|.mk k _ _ _=>k
def Tm.num:Tm→Int|.mk _ n _ _=>n
def Tm.name:Tm→List UInt8|.mk _ _ s _=>s
def Tm.args:Tm→List Tm|.mk _ _ _ l=>l
theorem qjl(a:Addr)(n:Nat):(a.add n).block=a.block:=by unfold Addr.add;split<;>rfl
def tmV(k n:Int)(s:List UInt8)(sl:Value):Value:=.agg #[.int .i64 k,.int .i64 n,.string ⟨s.toArray⟩,sl]
inductive Holds(w:World)(X:Nat→Prop):Tm→Value→Prop
 |leaf (k n:Int) (s:List UInt8) (a:Option Addr) (c:Nat):Holds w X (.mk k n s []) (tmV k n s (.slice a 0 c))
 |node (k n:Int) (s:List UInt8) (ts:List Tm) (a:Addr) (cap:Nat) (L:Nat→Value) (hx:X a.block) (hn:ts.length≤maxLen)
   (h:∀i (hi:i<ts.length),Holds w X ts[i] (tmV ts[i].kind ts[i].num ts[i].name (L i)))
   (c0:∀i (hi:i<ts.length),w.cell? (a.add (i*4+0))=some (.int .i64 ts[i].kind))
   (c1:∀i (hi:i<ts.length),w.cell? (a.add (i*4+1))=some (.int .i64 ts[i].num))
   (c2:∀i (hi:i<ts.length),w.cell? (a.add (i*4+2))=some (.string ⟨ts[i].name.toArray⟩))
   (c3:∀i (hi:i<ts.length),w.cell? (a.add (i*4+3))=some (L i)) :
   Holds w X (.mk k n s ts) (tmV k n s (.slice (some a) ts.length cap))
theorem Holds.keep{w w':World}{X:Nat→Prop}{t:Tm}{v:Value}(h:Holds w X t v)(hw:∀b,X b→w'.heap[b]? = w.heap[b]?):Holds w' X t v:=by
 induction h with
 |leaf k n s a c=>exact .leaf k n s a c
 |node k n s ts b cap L hx hn h c0 c1 c2 c3 ih=>
  have hk:∀(o:Nat) (u:Value),w.cell? (b.add o)=some u→w'.cell? (b.add o)=some u:=fun o u hu=>(World.cell?_of_block (by rw[qjl];exact hw _ hx)).trans hu
  exact .node k n s ts b cap L hx hn ih (fun i hi=>hk _ _ (c0 i hi)) (fun i hi=>hk _ _ (c1 i hi)) (fun i hi=>hk _ _ (c2 i hi)) (fun i hi=>hk _ _ (c3 i hi))
theorem Holds.mono{w:World}{X Y:Nat→Prop}{t:Tm}{v:Value}(h:Holds w X t v)(hxy:∀b,X b→Y b):Holds w Y t v:=by
 induction h with
 |leaf k n s a c=>exact .leaf k n s a c
 |node k n s ts b cap L hx hn h c0 c1 c2 c3 ih=>exact .node k n s ts b cap L (hxy _ hx) hn ih c0 c1 c2 c3
theorem Holds.there{w:World}{X:Nat→Prop}{t:Tm}{v:Value}(h:Holds w X t v):Holds w (fun b=>X b∧b<w.heap.size) t v:=by
 induction h with
 |leaf k n s a c=>exact .leaf k n s a c
 |node k n s ts b cap L hx hn h c0 c1 c2 c3 ih=>
  cases ts with
  |nil=>exact .leaf k n s _ _
  |cons t0 tr=>
   exact .node k n s _ b cap L ⟨hx,by have:=World.block_lt_of_cell? w _ (c0 0 (by simp));rwa [qjl] at this⟩ hn ih c0 c1 c2 c3
theorem Holds.bel{w w':World}{X:Nat→Prop}{t:Tm}{v:Value}(h:Holds w X t v)(hb:Below w.heap.size w w'):Holds w' X t v:=
 (h.there.keep fun b hx=>hb.block b hx.2).mono fun b hx=>hx.1
theorem Holds.form{w:World}{X:Nat→Prop}{t:Tm}{v:Value}(h:Holds w X t v):∃sl,v=tmV t.kind t.num t.name sl:=by
 cases h with
 |leaf k n s a c=>exact⟨_,rfl⟩
 |node k n s ts b cap L hx hn h c0 c1 c2 c3=>exact⟨_,rfl⟩
theorem Holds.args{w:World}{X:Nat→Prop}{t:Tm}{k n:Int}{s:List UInt8}{sl:Value}(h:Holds w X t (tmV k n s sl)):∃a c,sl=.slice a t.args.length c:=by
 generalize hv:tmV k n s sl=v at h
 cases h with
 |leaf k' n' s' a c=>unfold tmV at hv;simp at hv;exact⟨a,c,hv.2.2.2⟩
 |node k' n' s' ts b cap L hx hn h c0 c1 c2 c3=>unfold tmV at hv;simp at hv;exact⟨_,_,hv.2.2.2⟩
theorem Holds.len{w:World}{X:Nat→Prop}{t:Tm}{v:Value}(h:Holds w X t v):t.args.length≤maxLen:=by
 cases h with
 |leaf k n s a c=>exact Nat.zero_le _
 |node k n s ts b cap L hx hn h c0 c1 c2 c3=>exact hn
end
section
open Go Go.ChangeShapes Go.WideShapes Go.ChangeAt Go.RowKit
end
section
open Go Go.ChangeShapes Go.WideShapes Go.ChangeAt Go.RowKit
theorem qov:(Tryz.prog.info? 32).map (fun i=>(i.zero,i.size,i.bytes))=some (some (.agg #[.int .i64 0,.int .i64 0,.string ⟨#[]⟩,.slice none 0 0]),4,56):=by kernel_rfl
theorem qky{B:Nat}{a w w':World}{row:Option Nat}(h:Below B a w)(hg:w.grownBy w' row)(hr:∀g,row=some g→B≤g)(hB:B≤w.heap.size):Below B a w':=
 ⟨hg.os.trans h.os,hg.tape.trans h.tape,hg.output.trans h.output,Nat.le_trans h.size hg.size,fun k hk=>(hg.block k (by omega) (fun e=>by have:=hr k e.symm;omega)).trans (h.block k hk)⟩
end
section
open Go Go.ChangeShapes Go.WideShapes Go.ChangeAt Go.RowKit
end
section
open Go Go.ChangeShapes Go.WideShapes Go.ChangeAt Go.RowKit
theorem Blk.fourT{w:World}{b:Nat}{x y z u:Value}{t:TypeId}(h:Blk w b #[x,y,z,u] t):w.cell? ⟨b,0,none⟩=some x∧w.cell? ⟨b,1,none⟩=some y∧w.cell? ⟨b,2,none⟩=some z∧w.cell? ⟨b,3,none⟩=some u ∧
  w.frozen? ⟨b,0,none⟩=false∧w.frozen? ⟨b,1,none⟩=false∧w.frozen? ⟨b,2,none⟩=false∧w.frozen? ⟨b,3,none⟩=false∧b<w.heap.size:=
 ⟨h.cell rfl,h.cell rfl,h.cell rfl,h.cell rfl,h.free 0,h.free 1,h.free 2,h.free 3,h.lt⟩
end
end Go.Proofs.YtdekdghldblfaaaGreatDoor
