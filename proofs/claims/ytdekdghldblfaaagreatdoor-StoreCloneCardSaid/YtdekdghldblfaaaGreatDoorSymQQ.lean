import Derived.Test.YtdekdghldblfaaaGreatDoorSymWW
import Derived.Test.YtdekdghldblfaaaGreatDoorSymA
set_option linter.unusedVariables false
set_option linter.unusedSimpArgs false
namespace Go.Proofs.YtdekdghldblfaaaGreatDoor
section
open Go Go.Abs Go.RowKit
attribute [local congr] qai qaj qag
structure Ac where
 op:Int
 id:Int
 t:Tm
 l:Int
 first:Bool
def acC(a:Ac):List AV:=.int .i64 a.op::.int .i64 a.id::(tmC a.t++[.int .u64 a.l,.bool a.first])
theorem q8h(a:Ac):(acC a).length=8:=by simp[acC,qbf]
theorem pure_acs(l:List Ac):qd4 (l.map acC)=true:=by
 rw[qeo]
 intro r hr
 simp only[List.mem_map] at hr
 obtain⟨a,-,rfl⟩:=hr
 rw[qa6]
 intro x hx
 simp only[acC,List.mem_cons,List.mem_append,List.not_mem_nil,or_false] at hx
 rcases hx with rfl|rfl|hx|rfl|rfl
 ·rfl
 ·rfl
 ·exact (qa6 _).1 (qcq a.t) x hx
 ·rfl
 ·rfl
theorem tmC_4(t:Tm)(x:AV)(xs:List AV):(tmC t++x::xs)[4]? = some x:=by
 rw[List.getElem?_append_right (by rw[qbf];omega),qbf];rfl
theorem tmC_5(t:Tm)(x y:AV)(xs:List AV):(tmC t++x::y::xs)[5]? = some y:=by
 rw[List.getElem?_append_right (by rw[qbf];omega),qbf];rfl
theorem and3(x:Int):0≤andI x 3∧andI x 3<4:=by
 unfold andI
 have h:(BitVec.ofInt 64 x &&& BitVec.ofInt 64 3).toNat≤3:=by
  rw[BitVec.toNat_and]
  exact Nat.le_trans Nat.and_le_right (by decide)
 generalize (BitVec.ofInt 64 x &&& BitVec.ofInt 64 3).toNat=n at h
 have:n=0∨n=1∨n=2∨n=3:=by omega
 rcases this with rfl|rfl|rfl|rfl<;>decide
def QJ(q:Int)(H:AH)(s:St)(k:Nat):Prop:=Good H 0 s k∧SInv s q∧H.gs.get 3=some ⟨0,0,[.int .i64 (qav s 0),.int .i64 (qav s 1),.int .i64 (qav s 2),.int .i64 (qav s 3)]⟩
def QuEnd(q:Int)(n:Nat)(r:XR):Prop:=(∃H',r=some (.ret,mk [(4,.bool true)],H'))∨(∃s' nx gs ms,r=some (.exit 0,mk [(5,.ptr 0 0 0),(7,.ptr 3 0 0)],⟨nx,gs,ms⟩)∧QJ q ⟨nx,gs,ms⟩ s' n)
theorem qw5{q:Int}{n:Nat}{r r':XR}(h:r=r'):QuEnd q n r=QuEnd q n r':=by rw[h]
attribute [local congr] qw5
theorem Good.list{nx0 nx g k:Nat}{gs:Tr Grp}{ms:Tr qbm}{s:St}(h:Good ⟨nx0,gs,ms⟩ g s k)(cl:Int):qeh (qe3 q5o) [.ptr g 0 0,.int .u64 cl] ⟨nx,gs,ms⟩=some (.vals 10 ((qdp s cl s.ps).map clC),⟨nx,gs,ms⟩):=
 qhe qtg ⟨g,s,cl,rfl,h.at'.move rfl rfl,h.ok,rfl⟩
end
section
open Go Go.Abs Go.RowKit
attribute [local congr] qai qaj qag
theorem leq3{l:Int}(h:0≤l∧l<4):qhi l 3=true:=by
 have:l=0∨l=1∨l=2∨l=3:=by omega
 rcases this with rfl|rfl|rfl|rfl<;>decide
theorem SInv.all{s:St}{q:Int}(h:SInv s q)(nm:List UInt8)(ar:Int):qec s nm ar 3=qbb s nm ar:=by
 unfold qec
 rw[List.filter_eq_self]
 intro c hc
 unfold qbb at hc
 cases hlk:qbz (nm,ar) s.m with
 |none=>rw[hlk] at hc;cases hc
 |some v=>
  rw[hlk] at hc
  obtain⟨e',k1,k2,k3⟩:=qhh hlk
  subst k3
  exact leq3 (h.lab e' k1 c hc)
theorem SInv.len{s:St}{q:Int}(h:SInv s q):((qdp s 3 s.ps).length:Int)=qav s 0+qav s 1+qav s 2+qav s 3:=by
 rw[←h.tot,h.ps]
 simp only[qdp,qao,List.flatMap_cons,List.flatMap_nil,List.append_nil,List.length_append,h.all]
 omega
end
section
open Go Go.Abs Go.ChangeShapes Go.WideShapes Go.ChangeAt Go.RowKit
theorem qsl{w:World}{a:Addr}{v:Value}(h:w.cell? a=some v):a=⟨a.block,a.off,none⟩:=by
 obtain⟨b,o,s⟩:=a
 cases s with
 |none=>rfl
 |some n=>
  unfold World.cell? at h
  simp only at h
  split at h
  ·simp at h
  ·cases h
theorem q35{G:Gh}{b:Nat}:∀(ts:List Tm) (o:Nat),(∀i (hi:i<ts.length),∃us:List Value,VRs G (tmC ts[i]) us∧∀j u,us[j]? = some u→G.M b (o+i*4+j)=some u)→VRows G 4 (qof ts) b o
 |[],o,h=>by simp[qof,VRows]
 |t::ts,o,h=>by
  simp only[qof,VRows]
  refine⟨qbf t,VRow.of_get fun j x hj=>?_,q35 ts (o+4) fun i hi=>?_⟩
  ·obtain⟨us,h1,h2⟩:=h 0 (by simp)
   obtain⟨u,h3,h4⟩:=h1.get j x hj
   exact⟨u,by have:=h2 j u h3;simpa using this,h4⟩
  ·obtain⟨us,h1,h2⟩:=h (i+1) (by simpa using hi)
   exact⟨us,h1,fun j u hj=>by rw[←h2 j u hj];congr 1;omega⟩
theorem open_vr{H:Type}{enc:TypeId×Value→H}{w:World}{base:Nat}{sp:Nat→Bool}{held:Bool}:∀(fuel:Nat) (cs:List Value) (x:DataW H×List MemPlace),DataW.trod enc Tryz.prog w base sp held fuel 32 cs=some x →
  ∃(t:Tm),VRs (allG w) (tmC t) cs∧Fine maxLen t:=by
 intro fuel
 induction fuel using Nat.strongRecOn with
 |_ fuel ih=>
  intro cs x h
  obtain⟨xs,n,rfl,rfl,hl,hlen,hf⟩:=DataW.trod_struct Tryz.underlying32 h
  rw[qnt] at hl
  obtain⟨c0,c1,c2,c3,rfl⟩:=qyt hl
  obtain⟨x0,x1,x2,x3,rfl⟩:=qyt (show xs.length=4 from hlen)
  have q0:=hf 0 _ rfl
  have q1:=hf 1 _ rfl
  have q2:=hf 2 _ rfl
  have q3:=hf 3 _ rfl
  obtain⟨k,e0,-,wk⟩:=DataW.trod_int Tryz.underlying3 q0
  obtain⟨m,e1,-,wm⟩:=DataW.trod_int Tryz.underlying2 q1
  obtain⟨s,e2,-,ws⟩:=DataW.trod_string Tryz.underlying9 q2
  replace e0:(([c0,c1,c2,c3].drop 0).take (Tryz.prog.cellsOf 3))=[.int .i64 k]:=e0
  rw[qrf] at e0
  replace e1:(([c0,c1,c2,c3].drop 1).take (Tryz.prog.cellsOf 2))=[.int .i64 m]:=e1
  rw[cellsI64] at e1
  replace e2:(([c0,c1,c2,c3].drop 2).take (Tryz.prog.cellsOf 9))=[.string s]:=e2
  rw[qwr] at e2
  cases e0;cases e1;cases e2
  rcases DataW.trod_slice Tryz.underlying30 q3 with⟨e3,-⟩|⟨a,len,cap,elems,rest,n2,hn2,e3,-,-,hlc,hcm,hel,hall,-,-⟩
  ·replace e3:(([Value.int .i64 k,.int .i64 m,.string s,c3].drop 3).take (Tryz.prog.cellsOf 30))=[.slice none 0 0]:=e3
   rw[qpc] at e3
   cases e3
   refine⟨.mk k m s.data.toList [],?_,.mk _ _ _ _ (qxk wk) (qxk wm) (qym ws) (Nat.zero_le _) (fun x hx=>by cases hx)⟩
   simp only[tmC,qof,VRs,VR]
   exact⟨_,_,rfl,rfl,_,_,rfl,rfl,_,_,rfl,by rw[qpf s],_,_,rfl,⟨none,0,rfl,Nat.le_refl _,.inl trivial⟩,rfl⟩
  ·replace e3:(([Value.int .i64 k,.int .i64 m,.string s,c3].drop 3).take (Tryz.prog.cellsOf 30))=[.slice (some a) len cap]:=e3
   rw[qpc] at e3
   cases e3
   have each:∀i,∃p:Tm×List Value,i<len→(VRs (allG w) (tmC p.1) p.2∧(∀j u,p.2[j]? = some u→w.cell? (a.add (i*4+j))=some u)∧(∀u∈p.2,u.oneCell'=true)∧Fine maxLen p.1∧p.2.length=4):=by
    intro i
    by_cases hi:i<len
    ·have h1:=hall i hi
     have hi':i<elems.length:=by omega
     rw[List.getElem?_eq_getElem hi',qnt,Option.bind_eq_some_iff] at h1
     obtain⟨cs',hc,ht⟩:=h1
     obtain⟨t',hv,hfi⟩:=ih n2 (by omega) cs' _ ht
     obtain⟨-,hcl,hcell⟩:=World.cells?_some hc
     refine⟨(t',cs'),fun _=>⟨hv,fun j u hj=>?_,fun u hu=>?_,hfi,hcl⟩⟩
     ·have hj4:j<4:=by rw[←hcl];exact (List.getElem?_eq_some_iff.1 hj).1
      have:=hcell j hj4
      rw[Addr.add_add] at this
      rw[this];exact hj
     ·rw[qbq] at hv
      simp only[VRs,VR] at hv
      obtain⟨_,_,rfl,rfl,_,_,rfl,rfl,_,_,rfl,rfl,_,_,rfl,⟨_,_,rfl,_⟩,rfl⟩:=hv
      simp only[List.mem_cons,List.not_mem_nil,or_false] at hu
      rcases hu with rfl|rfl|rfl|rfl<;>rfl
    ·exact⟨(.mk 0 0 [] [],[]),fun h=>absurd h hi⟩
   obtain⟨F,hF⟩:=Classical.axiomOfChoice each
   have hln:((List.range len).map fun i=>(F i).1).length=len:=by simp
   have hgi:∀i (hi:i<((List.range len).map fun i=>(F i).1).length),((List.range len).map fun i=>(F i).1)[i]=(F i).1:=by intro i hi;simp
   refine ⟨.mk k m s.data.toList ((List.range len).map fun i=>(F i).1),?_,.mk _ _ _ _ (qxk wk) (qxk wm) (qym ws) (by rw [hln]; omega) (fun x hx=>by
    obtain⟨i,hi,rfl⟩:=List.mem_map.1 hx
    exact (hF i (List.mem_range.1 hi)).2.2.2.1)⟩
   have hrl:(qof ((List.range len).map fun i=>(F i).1)).length=len:=by rw[qfo];simp
   simp only[tmC,VRs,VR]
   refine⟨_,_,rfl,rfl,_,_,rfl,rfl,_,_,rfl,by rw[qpf s],_,_,rfl,⟨some a,cap,by rw[hrl],by rw[hrl];exact hlc,?_⟩,rfl⟩
   by_cases h0:len=0
   ·left;subst h0;rfl
   ·right
    have a0:w.cell? (a.add (0*4+0))=some ((F 0).2[0]'(by rw[(hF 0 (by omega)).2.2.2.2];omega)):=(hF 0 (by omega)).2.1 0 _ (List.getElem?_eq_getElem _)
    rw[show a.add (0*4+0)=a from by unfold Addr.add;rfl] at a0
    have hsp:=qsl a0
    refine⟨a.block,a.off,by rw[←hsp],q35 _ _ fun i hi=>?_⟩
    rw[hln] at hi
    obtain⟨q1,q2,q3,q4,q5⟩:=hF i hi
    refine⟨(F i).2,by rw[hgi i (by rw[hln];exact hi)];exact q1,fun j u hj=>?_⟩
    have:=q2 j u hj
    rw[hsp,qrv] at this
    refine qco ?_ (q3 u (List.mem_of_getElem? hj))
    rw[Nat.add_assoc];exact this
end
section
open Go Go.Abs Go.ChangeShapes Go.WideShapes Go.ChangeAt Go.RowKit
theorem qzs:Tryz.prog.cellsOf 34=8:=by kernel_rfl
theorem qzr:Tryz.prog.cellsOf 23=1:=by kernel_rfl
theorem q7y:Tryz.prog.cellsOf 4=1:=by kernel_rfl
theorem q5q{α:Type}{l:List α}(h:l.length=8):∃a b c d e f g k,l=[a,b,c,d,e,f,g,k]:=by
 match l,h with
 |[a,b,c,d,e,f,g,k],_=>exact⟨a,b,c,d,e,f,g,k,rfl⟩
theorem len_five{α:Type}{l:List α}(h:l.length=5):∃a b c d e,l=[a,b,c,d,e]:=by
 match l,h with
 |[a,b,c,d,e],_=>exact⟨a,b,c,d,e,rfl⟩
set_option maxRecDepth 100000 in
theorem open_act{H:Type}{enc:TypeId×Value→H}{w:World}{base:Nat}{sp:Nat→Bool}{held:Bool}(fuel:Nat)(cs:List Value)(x:DataW H×List MemPlace)(h:DataW.trod enc Tryz.prog w base sp held fuel 34 cs=some x) :
  ∃a:Ac,VRs (allG w) (acC a) cs∧Fine maxLen a.t∧(∀u∈cs,u.oneCell'=true)∧cs.length=8:=by
 obtain⟨xs,n,rfl,rfl,hl,hlen,hf⟩:=DataW.trod_struct Tryz.underlying34 h
 rw[qzs] at hl
 obtain⟨c0,c1,c2,c3,c4,c5,c6,c7,rfl⟩:=q5q hl
 obtain⟨x0,x1,x2,x3,x4,rfl⟩:=len_five (show xs.length=5 from hlen)
 have q0:=hf 0 _ rfl
 have q1:=hf 1 _ rfl
 have q2:=hf 2 _ rfl
 have q3:=hf 3 _ rfl
 have q4:=hf 4 _ rfl
 obtain⟨k,e0,-,wk⟩:=DataW.trod_int Tryz.underlying3 q0
 obtain⟨m,e1,-,wm⟩:=DataW.trod_int Tryz.underlying3 q1
 obtain⟨t,ht,hft⟩:=open_vr _ _ _ q2
 obtain⟨l,e3,-,wl⟩:=DataW.trod_int Tryz.underlying23 q3
 obtain⟨b,e4,-⟩:=DataW.trod_bool Tryz.underlying4 q4
 replace e0:(([c0,c1,c2,c3,c4,c5,c6,c7].drop 0).take (Tryz.prog.cellsOf 3))=[.int .i64 k]:=e0
 rw[qrf] at e0
 replace e1:(([c0,c1,c2,c3,c4,c5,c6,c7].drop 1).take (Tryz.prog.cellsOf 3))=[.int .i64 m]:=e1
 rw[qrf] at e1
 replace ht:VRs (allG w) (tmC t) (([c0,c1,c2,c3,c4,c5,c6,c7].drop 2).take (Tryz.prog.cellsOf 32)):=ht
 rw[qnt] at ht
 replace ht:VRs (allG w) (tmC t) [c2,c3,c4,c5]:=ht
 replace e3:(([c0,c1,c2,c3,c4,c5,c6,c7].drop 6).take (Tryz.prog.cellsOf 23))=[.int .u64 l]:=e3
 rw[qzr] at e3
 replace e4:(([c0,c1,c2,c3,c4,c5,c6,c7].drop 7).take (Tryz.prog.cellsOf 4))=[.bool b]:=e4
 rw[q7y] at e4
 cases e0;cases e1;cases e3;cases e4
 have one:∀u∈[c2,c3,c4,c5],u.oneCell'=true:=by
  intro u hu
  rw[qbq] at ht
  simp only[VRs,VR] at ht
  obtain⟨_,_,h0,rfl,_,_,h1,rfl,_,_,h2,rfl,_,_,h3,⟨_,_,rfl,_⟩,rfl⟩:=ht
  cases h0;cases h1;cases h2;cases h3
  simp only[List.mem_cons,List.not_mem_nil,or_false] at hu
  rcases hu with rfl|rfl|rfl|rfl<;>rfl
 refine⟨⟨k,m,t,l,b⟩,?_,hft,fun u hu=>?_,rfl⟩
 ·show VRs (allG w) (.int .i64 k::.int .i64 m::(tmC t++[.int .u64 l,.bool b])) _
  rw[qbq] at ht ⊢
  simp only[VRs,VR,List.cons_append,List.nil_append] at ht ⊢
  obtain⟨u0,r0,h0,g0,u1,r1,h1,g1,u2,r2,h2,g2,u3,r3,h3,g3,h4⟩:=ht
  cases h0;cases h1;cases h2;cases h3
  exact⟨_,_,rfl,rfl,_,_,rfl,rfl,_,_,rfl,g0,_,_,rfl,g1,_,_,rfl,g2,_,_,rfl,g3,_,_,rfl,rfl,_,_,rfl,rfl,rfl⟩
 ·simp only[List.mem_cons,List.not_mem_nil,or_false] at hu
  rcases hu with rfl|rfl|rfl|rfl|rfl|rfl|rfl|rfl
  ·rfl
  ·rfl
  ·exact one _ (by simp)
  ·exact one _ (by simp)
  ·exact one _ (by simp)
  ·exact one _ (by simp)
  ·rfl
  ·rfl
theorem q8f{G:Gh}{b:Nat}:∀(ts:List Ac) (o:Nat),(∀i (hi:i<ts.length),∃us:List Value,VRs G (acC ts[i]) us∧∀j u,us[j]? = some u→G.M b (o+i*8+j)=some u)→VRows G 8 (ts.map acC) b o
 |[],o,h=>by simp[VRows]
 |t::ts,o,h=>by
  simp only[List.map_cons,VRows]
  refine⟨q8h t,VRow.of_get fun j x hj=>?_,q8f ts (o+8) fun i hi=>?_⟩
  ·obtain⟨us,h1,h2⟩:=h 0 (by simp)
   obtain⟨u,h3,h4⟩:=h1.get j x hj
   exact⟨u,by have:=h2 j u h3;simpa using this,h4⟩
  ·obtain⟨us,h1,h2⟩:=h (i+1) (by simpa using hi)
   exact⟨us,h1,fun j u hj=>by rw[←h2 j u hj];congr 1;omega⟩
set_option maxRecDepth 100000 in
theorem qs8{H:Type}{enc:TypeId×Value→H}{w:World}{r:Reach}{b0 base:Nat}{sp:Nat→Bool}{held:Bool}{v:Value}{d:DataW H}{ps:List MemPlace}(hval:Value.okWide Tryz.prog w r b0 22 v)(hd:DataW.Trod enc Tryz.prog w base sp held 22 v d ps) :
  ∃acs:List Ac,VR (allG w) (.vals 8 (acs.map acC)) v∧(∀a∈acs,Fine maxLen a.t)∧acs.length≤9223372036854775807:=by
 obtain⟨fuel,hf⟩:=hd
 have hu:=Tryz.underlying22
 obtain⟨a,len,cap,rfl⟩:∃a len cap,v=.slice a len cap:=by
  generalize Tryz.prog=PP at hval hu
  exact okWide_slice hu hval
 have e:(Value.slice a len cap).cells.toList=[.slice a len cap]:=by simp only[Value.cells]
 rw[e] at hf
 rcases DataW.trod_slice hu hf with⟨e3,-⟩|⟨a',len',cap',elems,rest,n2,hn2,e3,-,-,hlc,hcm,hel,hall,-,-⟩
 ·cases e3
  refine⟨[],?_,fun a ha=>by (cases ha),by simp⟩
  simp only[VR,List.map_nil]
  exact⟨none,0,rfl,Nat.le_refl _,.inl trivial⟩
 ·cases e3
  have each:∀i,∃p:Ac×List Value,i<len→(VRs (allG w) (acC p.1) p.2∧(∀j u,p.2[j]? = some u→w.cell? (a'.add (i*8+j))=some u)∧(∀u∈p.2,u.oneCell'=true)∧Fine maxLen p.1.t∧p.2.length=8):=by
   intro i
   by_cases hi:i<len
   ·have h1:=hall i hi
    have hi':i<elems.length:=by omega
    rw[List.getElem?_eq_getElem hi',qzs,Option.bind_eq_some_iff] at h1
    obtain⟨cs',hc,ht⟩:=h1
    obtain⟨t',hv,hfi,hone,hl8⟩:=open_act n2 cs' _ ht
    obtain⟨-,hcl,hcell⟩:=World.cells?_some hc
    refine⟨(t',cs'),fun _=>⟨hv,fun j u hj=>?_,hone,hfi,hl8⟩⟩
    have hj8:j<8:=by rw[←hcl];exact (List.getElem?_eq_some_iff.1 hj).1
    have:=hcell j hj8
    rw[Addr.add_add] at this
    rw[this];exact hj
   ·exact⟨(⟨0,0,.mk 0 0 [] [],0,false⟩,[]),fun h=>absurd h hi⟩
  obtain⟨F,hF⟩:=Classical.axiomOfChoice each
  have hln:((List.range len).map fun i=>(F i).1).length=len:=by simp
  have hgi:∀i (hi:i<((List.range len).map fun i=>(F i).1).length),((List.range len).map fun i=>(F i).1)[i]=(F i).1:=by intro i hi;simp
  refine⟨(List.range len).map fun i=>(F i).1,?_,fun x hx=>?_,by rw[hln];unfold maxLen at hcm;omega⟩
  ·have hrl:(((List.range len).map fun i=>(F i).1).map acC).length=len:=by simp
   simp only[VR]
   refine⟨some a',cap,by rw[hrl],by rw[hrl];exact hlc,?_⟩
   by_cases h0:len=0
   ·left;subst h0;rfl
   ·right
    have a0:w.cell? (a'.add (0*8+0))=some ((F 0).2[0]'(by rw[(hF 0 (by omega)).2.2.2.2];omega)):=(hF 0 (by omega)).2.1 0 _ (List.getElem?_eq_getElem _)
    rw[show a'.add (0*8+0)=a' from by unfold Addr.add;rfl] at a0
    have hsp:=qsl a0
    refine⟨a'.block,a'.off,by rw[←hsp],q8f _ _ fun i hi=>?_⟩
    rw[hln] at hi
    obtain⟨q1,q2,q3,q4,q5⟩:=hF i hi
    refine⟨(F i).2,by rw[hgi i (by rw[hln];exact hi)];exact q1,fun j u hj=>?_⟩
    have:=q2 j u hj
    rw[hsp,qrv] at this
    refine qco ?_ (q3 u (List.mem_of_getElem? hj))
    rw[Nat.add_assoc];exact this
  ·obtain⟨i,hi,rfl⟩:=List.mem_map.1 hx
   exact (hF i (List.mem_range.1 hi)).2.2.2.1
theorem q0v{P:Program}{f:FuncId}{args:List AV}{w:World}{vs:Array Value}(h:∀H,ACalls P f args H fun y H'=>y=.bool true∧H'=H)(hv:VRs (allG w) args vs.toList)(gl:Glob w w.heap.size) :
  Calls P f vs w fun e w'=>e=.returned (.bool true)∧Below w.heap.size w w':=
 (h AH.empty _ _ vs w (qjk w gl) hv).mono fun e w' ⟨u,x',G',H',k1,k2,k3,k4,k5,k6⟩=>by
  subst k5
  simp only[VR] at k4
  subst k4
  exact⟨k1,k3.below⟩
end
end Go.Proofs.YtdekdghldblfaaaGreatDoor
