import Derived.Test.YtdekdghldblfaaaGreatDoorSymMM
import Derived.Test.YtdekdghldblfaaaGreatDoorSymDA
import Derived.Test.YtdekdghldblfaaaGreatDoorSymAA
import Derived.Test.YtdekdghldblfaaaGreatDoorMClone
import Derived.Test.YtdekdghldblfaaaGreatDoorAbsV
import Derived.Test.YtdekdghldblfaaaGreatDoorYDc
set_option linter.unusedVariables false
set_option linter.unusedSimpArgs false
namespace Go.Proofs.YtdekdghldblfaaaGreatDoor
section
open Go Go.Abs Go.RowKit
attribute [local congr] qai qaj qag
attribute [local congr] qal
theorem qwf{H:AH}{kp:Nat→Nat→Nat→Nat→Prop}{km:Nat→Nat→Prop}{dead:Nat→Prop}{g e fz z n:Nat}{rows:List (List AV)}(hd:dead g)(hg:H.gs.get g=some ⟨e,fz,rows.flatten⟩)(hn:rows.length=n)(hz:∀row∈rows,row.length=z)(hp:qd4 rows=true):FzR H kp km dead (.slc g e 0 n z) (.vals z rows):=
 .slc hd hg rfl hn hz (by rw[Nat.zero_add];show _≤rows.flatten.length;rw[qat hz,hn];exact Nat.le_refl _) fun j x y hx hy=>by
  simp only[Nat.zero_add] at hx
  rw[hy] at hx
  cases hx
  exact .pure ((qa6 _).1 (qcx hp) _ (List.mem_of_getElem? hy))
def ds0:Ds:=⟨1,[],[],[]⟩
def qbv(H:AH)(q:Int):AH:=⟨H.next+5,((H.gs.set H.next ⟨0,0,qj0 (st0 q H.next)⟩).set (H.next+3) ⟨0,0,dsC ds0 q (H.next+4)⟩).set (H.next+4) ⟨0,0,dsL ds0⟩,(H.ms.set (H.next+1) (0,[])).set (H.next+2) (0,[])⟩
def qyq(args:List AV)(H:AH)(y:AV)(H':AH):Prop:=∃q,args=[.int .i64 q]∧(1≤q∧q≤64)∧(H.gs.get H.next=none∧H.gs.get (H.next+3)=none∧H.gs.get (H.next+4)=none∧H.ms.get (H.next+1)=none∧H.ms.get (H.next+2)=none)∧y=.tup [.ptr H.next 0 0,.ptr (H.next+3) 0 0]∧H'=qbv H q
theorem qos:OneR qyq:=by
 intro a H y H' y2 H2 h k
 obtain⟨q,rfl,-,-,rfl,rfl⟩:=h
 obtain⟨q',e,-,-,rfl,rfl⟩:=k
 simp only[List.cons.injEq,AV.int.injEq,true_and,and_true] at e
 subst e
 exact⟨rfl,rfl⟩
def predsL:List AV:=[.str [112],.int .i64 1,.int .u64 3,.bool false,.str [113],.int .i64 2,.int .u64 1,.bool true,.str [114],.int .i64 0,.int .u64 0,.bool false]
theorem q5j{N n0 nx1:Nat}{q:Int}{gs gs1:Tr Grp}{ms ms1:Tr qbm}(f1:gs.get n0=none)(f4:gs.get (n0+3)=none)(f5:gs.get (n0+4)=none)(f2:ms.get (n0+1)=none)(f3:ms.get (n0+2)=none)(hN:∀n,N≤n→gs.get n=none∧ms.get n=none)(hcl:ClosedH ⟨n0,gs,ms⟩)
  (g1:gs1.get (N+112)=some ⟨0,0,[qcd [[97],[98]] qao,.int .i64 q,.int .i64 0,.mapp (N+110),.mapp (N+111)]⟩) (g2:gs1.get (N+114)=some ⟨0,0,[.ptr (N+109) 0 0,.int .i64 q,.int .i64 1,.slc (N+113) 0 0 3 1]⟩)
  (g3:gs1.get (N+113)=some ⟨0,0,[.nils,.nils,.nils]⟩) (g4:gs1.get (N+109)=some ⟨0,0,[.slc N 0 0 2 1,.slc (N+108) 0 0 3 4]⟩) (g5:gs1.get N=some ⟨0,0,[.str [97],.str [98]]⟩) (g6:gs1.get (N+108)=some ⟨0,0,predsL⟩) (go:∀g,g<N→gs1.get g=gs.get g)
  (m1:ms1.get (N+110)=some (0,[])) (m2:ms1.get (N+111)=some (0,[])) (mo:∀g,g<N→ms1.get g=ms.get g) :
  Go.Abs.Comes (some (.tup [.ptr (N+112) 0 0,.ptr (N+114) 0 0],⟨nx1,gs1,ms1⟩)) ⟨n0,gs,ms⟩ (.tup [.ptr n0 0 0,.ptr (n0+3) 0 0]) (qbv ⟨n0,gs,ms⟩ q):=by
 have lt:∀g r,gs.get g=some r→g<N:=fun g r h=>by
  rcases Nat.lt_or_ge g N with q|q
  ·exact q
  ·rw[(hN g q).1] at h;cases h
 have ltm:∀g r,ms.get g=some r→g<N:=fun g r h=>by
  rcases Nat.lt_or_ge g N with q|q
  ·exact q
  ·rw[(hN g q).2] at h;cases h
 let p:Nat→Nat:=fun x=>if x=n0 then N+112 else if x=n0+3 then N+114 else if x=n0+4 then N+113 else x
 let r:Nat→Nat:=fun x=>if x=n0+1 then N+110 else if x=n0+2 then N+111 else x
 have p0:p n0=N+112:=if_pos rfl
 have p3:p (n0+3)=N+114:=by show (if _ then _ else _)=_;rw[if_neg (by omega),if_pos rfl]
 have p4:p (n0+4)=N+113:=by show (if _ then _ else _)=_;rw[if_neg (by omega),if_neg (by omega),if_pos rfl]
 have pn:∀g,g≠n0→g≠n0+3→g≠n0+4→p g=g:=fun g h k l=>by show (if _ then _ else _)=_;rw[if_neg h,if_neg k,if_neg l]
 have r1:r (n0+1)=N+110:=if_pos rfl
 have r2:r (n0+2)=N+111:=by show (if _ then _ else _)=_;rw[if_neg (by omega),if_pos rfl]
 have rn:∀g,g≠n0+1→g≠n0+2→r g=g:=fun g h k=>by show (if _ then _ else _)=_;rw[if_neg h,if_neg k]
 have e0:(qbv ⟨n0,gs,ms⟩ q).gs.get n0=some ⟨0,0,qj0 (st0 q n0)⟩:=by
  show (((gs.set n0 _).set (n0+3) _).set (n0+4) _).get n0=_
  rw[Tr.get_set_ne _ _ (by omega),Tr.get_set_ne _ _ (by omega),Tr.get_set_same]
 have e3:(qbv ⟨n0,gs,ms⟩ q).gs.get (n0+3)=some ⟨0,0,dsC ds0 q (n0+4)⟩:=by
  show (((gs.set n0 _).set (n0+3) _).set (n0+4) _).get (n0+3)=_
  rw[Tr.get_set_ne _ _ (by omega),Tr.get_set_same]
 have e4:(qbv ⟨n0,gs,ms⟩ q).gs.get (n0+4)=some ⟨0,0,dsL ds0⟩:=by
  show (((gs.set n0 _).set (n0+3) _).set (n0+4) _).get (n0+4)=_
  rw[Tr.get_set_same]
 have en:∀g,g≠n0→g≠n0+3→g≠n0+4→(qbv ⟨n0,gs,ms⟩ q).gs.get g=gs.get g:=fun g h k l=>by
  show (((gs.set n0 _).set (n0+3) _).set (n0+4) _).get g=_
  rw[Tr.get_set_ne _ _ l,Tr.get_set_ne _ _ k,Tr.get_set_ne _ _ h]
 have em1:(qbv ⟨n0,gs,ms⟩ q).ms.get (n0+1)=some (0,[]):=by
  show ((ms.set (n0+1) _).set (n0+2) _).get (n0+1)=_
  rw[Tr.get_set_ne _ _ (by omega),Tr.get_set_same]
 have em2:(qbv ⟨n0,gs,ms⟩ q).ms.get (n0+2)=some (0,[]):=Tr.get_set_same _ _ _
 have emn:∀g,g≠n0+1→g≠n0+2→(qbv ⟨n0,gs,ms⟩ q).ms.get g=ms.get g:=fun g h k=>by
  show ((ms.set (n0+1) _).set (n0+2) _).get g=_
  rw[Tr.get_set_ne _ _ k,Tr.get_set_ne _ _ h]
 have ig:∀g,(qbv ⟨n0,gs,ms⟩ q).gs.get g≠none→g=n0∨g=n0+3∨g=n0+4∨(g<N∧p g=g):=fun g h=>by
  by_cases a:g=n0
  ·exact .inl a
  ·by_cases b:g=n0+3
   ·exact .inr (.inl b)
   ·by_cases c:g=n0+4
    ·exact .inr (.inr (.inl c))
    ·rw[en g a b c] at h
     obtain⟨r2,hr⟩:=Option.ne_none_iff_exists'.1 h
     exact .inr (.inr (.inr ⟨lt g r2 hr,pn g a b c⟩))
 have hdead:∀x,N≤x→x≠N+112→x≠N+113→x≠N+114→qes (qbv ⟨n0,gs,ms⟩ q) p x:=fun x h1 h2 h3 h4 g hg=>by
  rcases ig g hg with rfl|rfl|rfl|⟨a,b⟩<;>omega
 refine Comes.some (p:=p) (q:=r) (Canon.new (N:=N) hN hcl (fun g r2 h=>?_) (fun g e h=>?_) (fun g r2 hn h=>?_) (fun g g' hn hn' h h' e=>?_) (fun g e hn h=>?_) (fun g g' hn hn' h h' e=>?_) ?_)
 ·have a:g≠n0:=fun e=>by subst e;have h:gs.get g=_:=h;rw[f1] at h;cases h
  have b:g≠n0+3:=fun e=>by subst e;have h:gs.get (n0+3)=_:=h;rw[f4] at h;cases h
  have c:g≠n0+4:=fun e=>by subst e;have h:gs.get (n0+4)=_:=h;rw[f5] at h;cases h
  exact⟨pn g a b c,(go g (lt g r2 h)).trans h,(en g a b c).trans h⟩
 ·have a:g≠n0+1:=fun e=>by subst e;have h:ms.get (n0+1)=_:=h;rw[f2] at h;cases h
  have b:g≠n0+2:=fun e=>by subst e;have h:ms.get (n0+2)=_:=h;rw[f3] at h;cases h
  exact⟨rn g a b,(mo g (ltm g e h)).trans h,(emn g a b).trans h⟩
 ·rcases ig g (by rw[h];simp) with rfl|rfl|rfl|⟨a,b⟩
  ·rw[e0] at h
   cases h
   refine⟨by rw[p0];omega,⟨0,0,[qcd [[97],[98]] qao,.int .i64 q,.int .i64 0,.mapp (N+110),.mapp (N+111)]⟩,by rw[p0];exact g1,Nat.le_refl _,?_⟩
   show All2 _ [qcd [[97],[98]] qao,.int .i64 q,.int .i64 0,.mapp (N+110),.mapp (N+111)] [qcd [[97],[98]] qao,.int .i64 q,.int .i64 0,.mapp (g+1),.mapp (g+2)]
   exact .cons (.pure (qdf _ _)) (.cons (.pure rfl) (.cons (.pure rfl) (.cons (.keepM ⟨r1.symm,fun hh=>(by cases em1.symm.trans hh)⟩) (.cons (.keepM ⟨r2.symm,fun hh=>(by cases em2.symm.trans hh)⟩) .nil))))
  ·rw[e3] at h
   cases h
   refine⟨by rw[p3];omega,⟨0,0,[.ptr (N+109) 0 0,.int .i64 q,.int .i64 1,.slc (N+113) 0 0 3 1]⟩,by rw[p3];exact g2,Nat.le_refl _,?_⟩
   show All2 _ [.ptr (N+109) 0 0,.int .i64 q,.int .i64 1,.slc (N+113) 0 0 3 1] [qcd [[97],[98]] qao,.int .i64 q,.int .i64 1,.slc (n0+4) 0 0 3 1]
   refine .cons (.ptr (r:=⟨0,0,[.slc N 0 0 2 1,.slc (N+108) 0 0 3 4]⟩) (hdead _ (by omega) (by omega) (by omega) (by omega)) g4 rfl (Nat.le_refl _) fun j x y hx hy=>?_) (.cons (.pure rfl) (.cons (.pure rfl) (.cons (.keepS (.inr ⟨f5,p4.symm,_,_,g3,rfl,e4,rfl⟩)) .nil)))
   match j,hx,hy with
   |0,hx,hy=>cases hx;cases hy;exact qwf (hdead _ (by omega) (by omega) (by omega) (by omega)) g5 rfl (by simp) (qhg _)
   |1,hx,hy=>cases hx;cases hy;exact qwf (hdead _ (by omega) (by omega) (by omega) (by omega)) g6 rfl (by simp[qao,prC]) (qhf _)
   |j+2,hx,hy=>simp at hx
  ·rw[e4] at h
   cases h
   refine⟨by rw[p4];omega,⟨0,0,[.nils,.nils,.nils]⟩,by rw[p4];exact g3,Nat.le_refl _,?_⟩
   show All2 _ [.nils,.nils,.nils] [.vals 10 [],.vals 10 [],.vals 10 []]
   exact .cons (.nils 10) (.cons (.nils 10) (.cons (.nils 10) .nil))
  ·have:g≠n0∧g≠n0+3∧g≠n0+4:=by
    refine⟨fun e=>?_,fun e=>?_,fun e=>?_⟩
    ·rw[e,p0] at b;omega
    ·rw[e,p3] at b;omega
    ·rw[e,p4] at b;omega
   rw[en g this.1 this.2.1 this.2.2] at h
   have hn:gs.get g=none:=hn
   rw[hn] at h;cases h
 ·rcases ig g h with rfl|rfl|rfl|⟨a,b⟩<;>rcases ig g' h' with rfl|rfl|rfl|⟨a',b'⟩<;>first|rfl|omega
 ·by_cases a:g=n0+1
  ·subst a
   rw[em1] at h
   cases h
   exact⟨by rw[r1];omega,_,by rw[r1];exact m1,rfl,rfl⟩
  ·by_cases b:g=n0+2
   ·subst b
    rw[em2] at h
    cases h
    exact⟨by rw[r2];omega,_,by rw[r2];exact m2,rfl,rfl⟩
   ·rw[emn g a b] at h
    have hn:ms.get g=none:=hn
    rw[hn] at h;cases h
 ·have im:∀g,(qbv ⟨n0,gs,ms⟩ q).ms.get g≠none→ms.get g=none→g=n0+1∨g=n0+2:=fun g h hn=>by
   by_cases a:g=n0+1
   ·exact .inl a
   ·by_cases b:g=n0+2
    ·exact .inr b
    ·rw[emn g a b,hn] at h;exact absurd rfl h
  rcases im g h hn with rfl|rfl<;>rcases im g' h' hn' with rfl|rfl<;>first|rfl|omega
 ·exact FzR.ofTup (.cons (.keepP (.inr ⟨f1,p0.symm,_,_,g1,rfl,e0,rfl⟩)) (.cons (.keepP (.inr ⟨f4,p3.symm,_,_,g2,rfl,e3,rfl⟩)) .nil))
set_option maxHeartbeats 4000000 in
theorem qv0(q:Int)(H:AH)(hq:1≤q∧q≤64)(f1:H.gs.get H.next=none)(f4:H.gs.get (H.next+3)=none)(f5:H.gs.get (H.next+4)=none)(f2:H.ms.get (H.next+1)=none)(f3:H.ms.get (H.next+2)=none) :
  ACalls Tryz.prog 10 [.int .i64 q] H fun y H'=>y=.tup [.ptr H.next 0 0,.ptr (H.next+3) 0 0]∧H'=qbv H q:=by
 have hio:=qey (P:=Tryz.prog) mixed (fun f=>draws f rfl) ysM_ok lsM_ok 10 2
 refine ACalls.onCall hio.1 hio.2 mixed (draws _ rfl) qxa rfl 10 fun N hN hcl=>?_
 obtain⟨n0,gs,ms⟩:=H
 simp only at hN f1 f2 f3 f4 f5
 have hE:∀k,gs.get (N+k)=none:=fun k=>(hN (N+k) (by omega)).1
 have hE0:gs.get N=none:=(hN N (Nat.le_refl _)).1
 have hM':∀k,ms.get (N+k)=none:=fun k=>(hN (N+k) (by omega)).2
 have k1:=fun args H=>hM 1 (f:=31) (k:=qdy LNew) rfl args H
 simp (maxSteps:=1000000) (disch:=omega) only[yMade,qaf,↓axP,axQ,seval,qaa,qab,tX,hE,hE0,k1,qv3,qy9,qy8,qlu,qlw,qlt,qlv,qja,qi9,qqs,LNew,qd8,qyb,nk1,nk2,nk3,Nat.add_assoc]
 rw[qm5 N _ _ (by simp[Tr.get_set,nk1,nk2]) (by simp[Tr.get_set]) (fun k=>by simp[Tr.get_set,nk2,nk3,hE,show ∀k,k+3≠1 from fun k=>by omega])]
 simp (maxSteps:=1000000) (disch:=omega) only[↓axP,axQ,seval,qaa,qab,tX,nk1,nk2,nk3,Nat.add_assoc]
 rw[qyl _ _ _ q hq _ (hM' _) (by rw[Nat.add_assoc];exact hM' _) (by simp[Tr.get_set,nk2,nk3,hE,Nat.add_assoc])]
 simp (maxSteps:=1000000) (disch:=omega) only[↓axP,axQ,seval,qaa,qab,tX,nk1,nk2,nk3,Nat.add_assoc]
 rw[qoq _ _ _ _ q hq (N+108) (.slc N 0 0 2 1) (.int .i64 0) (by simp[Tr.get_set,nk2,nk3,Nat.add_assoc]) (by simp[Tr.get_set,nk2,nk3,hE,Nat.add_assoc]) (by simp[Tr.get_set,nk2,nk3,hE,Nat.add_assoc])]
 simp (maxSteps:=1000000) (disch:=omega) only[↓axP,axQ,seval,qaa,qab,tX,nk1,nk2,nk3,Nat.add_assoc]
 refine q5j f1 f4 f5 f2 f3 hN hcl ?_ ?_ ?_ ?_ ?_ ?_ (fun g hg=>?_) ?_ ?_ (fun g hg=>?_)
 ·simp[Tr.get_set,nk2,nk3,qcd,qao,prC]
 ·simp[Tr.get_set,nk2,nk3,Nat.add_assoc]
 ·simp[Tr.get_set,nk2,nk3,Nat.add_assoc]
 ·simp[Tr.get_set,nk2,nk3,Nat.add_assoc]
 ·simp[Tr.get_set,nk1,nk2,nk3,Nat.add_assoc]
 ·simp[Tr.get_set,nk2,nk3,Nat.add_assoc,predsL]
 ·simp[Tr.get_set,show g≠N by omega,show ∀k,g≠N+k by omega]
 ·simp[Tr.get_set,nk2,nk3]
 ·simp[Tr.get_set,nk2,nk3]
 ·simp[Tr.get_set,show g≠N by omega,show ∀k,g≠N+k by omega]
theorem q5i:HookOne Tryz.prog 10 (qeh qyq):=by
 refine HookOne.ofRel (by decide +kernel) qos (fun args H y H' h=>?_) fun args H y H' h=>?_
 ·obtain⟨q,rfl,hq,⟨f1,f4,f5,f2,f3⟩,rfl,rfl⟩:=h
  exact qv0 q H hq f1 f4 f5 f2 f3
 ·obtain⟨q,rfl,hq,⟨f1,f4,f5,f2,f3⟩,rfl,rfl⟩:=h
  have hget:∀(H:AH) g,(qbv H q).gs.get g=if g=H.next+4 then some ⟨0,0,dsL ds0⟩ else if g=H.next+3 then some ⟨0,0,dsC ds0 q (H.next+4)⟩ else if g=H.next then some ⟨0,0,qj0 (st0 q H.next)⟩ else H.gs.get g:=fun H g=>by
   show (((H.gs.set H.next _).set (H.next+3) _).set (H.next+4) _).get g=_
   by_cases a:g=H.next+4
   ·subst a;rw[Tr.get_set_same,if_pos rfl]
   ·rw[Tr.get_set_ne _ _ a,if_neg a]
    by_cases b:g=H.next+3
    ·subst b;rw[Tr.get_set_same,if_pos rfl]
    ·rw[Tr.get_set_ne _ _ b,if_neg b]
     by_cases c:g=H.next
     ·subst c;rw[Tr.get_set_same,if_pos rfl]
     ·rw[Tr.get_set_ne _ _ c,if_neg c]
  refine⟨fun g' h=>?_,fun X H2 he ha=>?_⟩
  ·rw[hget] at h
   split at h
   ·cases h
   ·split at h
    ·cases h
    ·split at h
     ·cases h
     ·exact h
  ·have hx:∀g,(qbv H q).gs.get g≠none→X g=none:=fun g h=>by
    cases hx:X g with
    |none=>rfl
    |some r=>exact absurd (ha g r hx) h
   have x0:=hx H.next (by rw[hget,if_neg (by omega),if_neg (by omega),if_pos rfl];simp)
   have x3:=hx (H.next+3) (by rw[hget,if_neg (by omega),if_pos rfl];simp)
   have x4:=hx (H.next+4) (by rw[hget,if_pos rfl];simp)
   refine⟨qbv H2 q,⟨q,rfl,hq,⟨?_,?_,?_,by rw[he.ms,he.next];exact f2,by rw[he.ms,he.next];exact f3⟩,by rw[he.next],rfl⟩,?_⟩
   ·rw[he.gs,he.next,x0];exact f1
   ·rw[he.gs,he.next,x3];exact f4
   ·rw[he.gs,he.next,x4];exact f5
   ·refine⟨by show H2.next+5=H.next+5;rw[he.next],fun g'=>?_,fun g'=>?_⟩
    ·rw[hget,hget,he.next]
     by_cases a:g'=H.next+4
     ·subst a;rw[if_pos rfl,if_pos rfl,x4]
     ·rw[if_neg a,if_neg a]
      by_cases b:g'=H.next+3
      ·subst b;rw[if_pos rfl,if_pos rfl,x3]
      ·rw[if_neg b,if_neg b]
       by_cases c:g'=H.next
       ·subst c;rw[if_pos rfl,if_pos rfl,x0]
       ·rw[if_neg c,if_neg c];exact he.gs g'
    ·show ((H2.ms.set (H2.next+1) (0,[])).set (H2.next+2) (0,[])).get g'=((H.ms.set (H.next+1) (0,[])).set (H.next+2) (0,[])).get g'
     rw[he.next]
     by_cases e2:g'=H.next+2
     ·subst e2;rw[Tr.get_set_same,Tr.get_set_same]
     ·rw[Tr.get_set_ne _ _ e2,Tr.get_set_ne _ _ e2]
      by_cases e1:g'=H.next+1
      ·subst e1;rw[Tr.get_set_same,Tr.get_set_same]
      ·rw[Tr.get_set_ne _ _ e1,Tr.get_set_ne _ _ e1];exact he.ms g'
end
section
open Go Go.Abs Go.RowKit
attribute [local congr] qai qaj qag
attribute [local congr] qal
def qib(s:St)(n:Nat):St:={ s with g1:=n+1,g2:=n+2 }
def qcs(H:AH)(s:St):AH:=⟨H.next+3,H.gs.set H.next ⟨0,0,qj0 (qib s H.next)⟩,(H.ms.set (H.next+1) (s.mc,qcb kM qcf s.m)).set (H.next+2) (s.nc,qcb kN vN s.n)⟩
def qzp(args:List AV)(H:AH)(y:AV)(H':AH):Prop:=∃g s,args=[.ptr g 0 0]∧StAt H g s∧(H.gs.get H.next=none∧H.ms.get (H.next+1)=none∧H.ms.get (H.next+2)=none)∧y=.ptr H.next 0 0∧H'=qcs H s
theorem qo8:OneR qzp:=by
 intro a H y H' y2 H2 h k
 obtain⟨g,s,rfl,h1,-,rfl,rfl⟩:=h
 obtain⟨g',s',e,k1,-,rfl,rfl⟩:=k
 simp only[List.cons.injEq,AV.ptr.injEq,true_and,and_true] at e
 subst e
 cases h1.inj k1
 exact⟨rfl,rfl⟩
theorem clone_at{H:AH}(s:St):StAt (qcs H s) H.next (qib s H.next):=by
 refine⟨by show H.next+1≠H.next+2;omega,Tr.get_set_same _ _ _,?_,Tr.get_set_same _ _ _⟩
 show ((H.ms.set (H.next+1) _).set (H.next+2) _).get (H.next+1)=_
 rw[Tr.get_set_ne _ _ (by omega),Tr.get_set_same];rfl
theorem q7s{N n0 nx1 a b c:Nat}{s:St}{gs gs1:Tr Grp}{ms ms1:Tr qbm}(f1:gs.get n0=none)(f2:ms.get (n0+1)=none)(f3:ms.get (n0+2)=none)(hN:∀n,N≤n→gs.get n=none∧ms.get n=none)(hcl:ClosedH ⟨n0,gs,ms⟩)(ha:N≤a)(hb:N≤b)(hc:N≤c)(hbc:b≠c)
  (g1:gs1.get a=some ⟨0,0,[qcd s.ns s.ps,.int .i64 s.q,.int .i64 s.la,.mapp b,.mapp c]⟩) (go:∀g,g<N→gs1.get g=gs.get g)
  (m1:ms1.get b=some (s.mc,qcb kM qcf s.m)) (m2:ms1.get c=some (s.nc,qcb kN vN s.n)) (mo:∀g,g<N→ms1.get g=ms.get g) :
  Go.Abs.Comes (some (.ptr a 0 0,⟨nx1,gs1,ms1⟩)) ⟨n0,gs,ms⟩ (.ptr n0 0 0) (qcs ⟨n0,gs,ms⟩ s):=by
 have lt:∀g r,gs.get g=some r→g<N:=fun g r h=>by
  rcases Nat.lt_or_ge g N with q|q
  ·exact q
  ·rw[(hN g q).1] at h;cases h
 have ltm:∀g r,ms.get g=some r→g<N:=fun g r h=>by
  rcases Nat.lt_or_ge g N with q|q
  ·exact q
  ·rw[(hN g q).2] at h;cases h
 let p:Nat→Nat:=fun x=>if x=n0 then a else x
 let r:Nat→Nat:=fun x=>if x=n0+1 then b else if x=n0+2 then c else x
 have p0:p n0=a:=if_pos rfl
 have pn:∀g,g≠n0→p g=g:=fun g h=>if_neg h
 have r1:r (n0+1)=b:=if_pos rfl
 have r2:r (n0+2)=c:=by show (if _ then _ else _)=_;rw[if_neg (by omega),if_pos rfl]
 have rn:∀g,g≠n0+1→g≠n0+2→r g=g:=fun g h k=>by show (if _ then _ else _)=_;rw[if_neg h,if_neg k]
 have e0:(qcs ⟨n0,gs,ms⟩ s).gs.get n0=some ⟨0,0,qj0 (qib s n0)⟩:=Tr.get_set_same _ _ _
 have en:∀g,g≠n0→(qcs ⟨n0,gs,ms⟩ s).gs.get g=gs.get g:=fun g h=>Tr.get_set_ne _ _ h
 have em1:(qcs ⟨n0,gs,ms⟩ s).ms.get (n0+1)=some (s.mc,qcb kM qcf s.m):=by
  show ((ms.set (n0+1) _).set (n0+2) _).get (n0+1)=_
  rw[Tr.get_set_ne _ _ (by omega),Tr.get_set_same]
 have em2:(qcs ⟨n0,gs,ms⟩ s).ms.get (n0+2)=some (s.nc,qcb kN vN s.n):=Tr.get_set_same _ _ _
 have emn:∀g,g≠n0+1→g≠n0+2→(qcs ⟨n0,gs,ms⟩ s).ms.get g=ms.get g:=fun g h k=>by
  show ((ms.set (n0+1) _).set (n0+2) _).get g=_
  rw[Tr.get_set_ne _ _ k,Tr.get_set_ne _ _ h]
 have ig:∀g,gs.get g=none→(qcs ⟨n0,gs,ms⟩ s).gs.get g≠none→g=n0:=fun g hn h=>by
  by_cases a:g=n0
  ·exact a
  ·rw[en g a,hn] at h;exact absurd rfl h
 have im:∀g,ms.get g=none→(qcs ⟨n0,gs,ms⟩ s).ms.get g≠none→g=n0+1∨g=n0+2:=fun g hn h=>by
  by_cases a:g=n0+1
  ·exact .inl a
  ·by_cases b:g=n0+2
   ·exact .inr b
   ·rw[emn g a b,hn] at h;exact absurd rfl h
 refine Comes.some (p:=p) (q:=r) (Canon.new (N:=N) hN hcl (fun g r2 h=>?_) (fun g e h=>?_) (fun g r2 hn h=>?_) (fun g g' hn hn' h h' e=>?_) (fun g e hn h=>?_) (fun g g' hn hn' h h' e=>?_) ?_)
 ·have a:g≠n0:=fun e=>by subst e;have h:gs.get g=_:=h;rw[f1] at h;cases h
  exact⟨pn g a,(go g (lt g r2 h)).trans h,(en g a).trans h⟩
 ·have a:g≠n0+1:=fun e=>by subst e;have h:ms.get (n0+1)=_:=h;rw[f2] at h;cases h
  have b:g≠n0+2:=fun e=>by subst e;have h:ms.get (n0+2)=_:=h;rw[f3] at h;cases h
  exact⟨rn g a b,(mo g (ltm g e h)).trans h,(emn g a b).trans h⟩
 ·obtain rfl:=ig g hn (by rw[h];simp)
  rw[e0] at h
  cases h
  refine⟨by rw[p0];exact ha,⟨0,0,[qcd s.ns s.ps,.int .i64 s.q,.int .i64 s.la,.mapp b,.mapp c]⟩,by rw[p0];exact g1,Nat.le_refl _,?_⟩
  show All2 _ [qcd s.ns s.ps,.int .i64 s.q,.int .i64 s.la,.mapp b,.mapp c] [qcd s.ns s.ps,.int .i64 s.q,.int .i64 s.la,.mapp (g+1),.mapp (g+2)]
  exact .cons (.pure (qdf _ _)) (.cons (.pure rfl) (.cons (.pure rfl) (.cons (.keepM ⟨r1.symm,fun hh=>(by cases em1.symm.trans hh)⟩) (.cons (.keepM ⟨r2.symm,fun hh=>(by cases em2.symm.trans hh)⟩) .nil))))
 ·rw[ig g hn h,ig g' hn' h']
 ·rcases im g hn (by rw[h];simp) with rfl|rfl
  ·rw[em1] at h
   cases h
   refine⟨by rw[r1];exact hb,_,by rw[r1];exact m1,rfl,FzE.refl fun e he=>?_⟩
   simp only[qcb,List.mem_map] at he
   obtain⟨d,-,rfl⟩:=he
   exact⟨.pure rfl,.pure (qfq _)⟩
  ·rw[em2] at h
   cases h
   refine⟨by rw[r2];exact hc,_,by rw[r2];exact m2,rfl,FzE.refl fun e he=>?_⟩
   simp only[qcb,List.mem_map] at he
   obtain⟨d,-,rfl⟩:=he
   exact⟨.pure rfl,.pure rfl⟩
 ·rcases im g hn h with rfl|rfl<;>rcases im g' hn' h' with rfl|rfl
  ·rfl
  ·rw[r1,r2] at e;exact absurd e hbc
  ·rw[r1,r2] at e;exact absurd e.symm hbc
  ·rfl
 ·exact .keepP (.inr ⟨f1,p0.symm,_,_,g1,rfl,e0,rfl⟩)
noncomputable abbrev lsCn:List (FuncId×(List AV→AH→Option (AV×AH))):=[(53,qe6),(54,qe6)]
theorem lsCn_ok:∀e∈lsCn,HookOne Tryz.prog e.1 e.2:=by
 intro e he
 simp only[lsCn,List.mem_cons,List.not_mem_nil,or_false] at he
 rcases he with rfl|rfl
 ·exact mclone_A
 ·exact mclone_B
theorem qtc{nx g:Nat}{gs:Tr Grp}{ms:Tr qbm}{es:qbm}(h:ms.get g=some es)(h0:ms.get nx=none):qe6 [.mapp g] ⟨nx,gs,ms⟩=some (.mapp nx,⟨nx+1,gs,ms.set nx es⟩):=by
 simp only[qe6,h,h0]
set_option maxHeartbeats 2000000 in
theorem qwo(g:Nat)(s:St)(H:AH)(h1:StAt H g s)(f1:H.gs.get H.next=none)(f2:H.ms.get (H.next+1)=none)(f3:H.ms.get (H.next+2)=none) :
  ACalls Tryz.prog 19 [.ptr g 0 0] H fun y H'=>y=.ptr H.next 0 0∧H'=qcs H s:=by
 refine ACalls.onRun lsCn_ok mixed (draws _ rfl) q10 rfl 0 fun N hN hcl=>?_
 obtain⟨n0,gs,ms⟩:=H
 obtain⟨hne,h2,h3,h4⟩:=h1
 simp only at hN f1 f2 f3 h2 h3 h4
 have hE:∀k,gs.get (N+k)=none:=fun k=>(hN (N+k) (by omega)).1
 have hM':∀k,ms.get (N+k)=none:=fun k=>(hN (N+k) (by omega)).2
 have ltm:∀g r,ms.get g=some r→g<N:=fun g r h=>by
  rcases Nat.lt_or_ge g N with q|q
  ·exact q
  ·rw[(hN g q).2] at h;cases h
 have b1:=ltm _ _ h3
 have b2:=ltm _ _ h4
 have hgN:g<N:=by
  rcases Nat.lt_or_ge g N with q|q
  ·exact q
  ·rw[(hN g q).1] at h2;cases h2
 unfold qj0 qcd at h2
 have m1:=fun gs=>qtc (nx:=N+25) (gs:=gs) h3 (hM' 25)
 have m2:=fun gs=>qtc (nx:=N+25+1) (gs:=gs) (ms:=ms.set (N+25) (s.mc,qcb kM qcf s.m)) (g:=s.g2) (es:=(s.nc,qcb kN vN s.n)) (by rw[Tr.get_set_ne _ _ (by omega)];exact h4) (by rw[Tr.get_set_ne _ _ (by omega)];exact hM' 26)
 simp (maxSteps:=1000000) (disch:=omega) only[yStClo,qaf,↓axP,axQ,seval,qaa,qab,tX,h2,hE,hM',m1,m2,Nat.add_assoc]
 refine q7s (a:=N+23) (b:=N+25) (c:=N+26) f1 f2 f3 hN hcl (by omega) (by omega) (by omega) (by omega) ?_ (fun g hg=>?_) ?_ ?_ (fun g hg=>?_)
 ·simp[Tr.get_set,qcd]
 ·simp[Tr.get_set,show ∀k,g≠N+k by omega]
 ·simp[Tr.get_set]
 ·simp[Tr.get_set]
 ·simp[Tr.get_set,show ∀k,g≠N+k by omega]
theorem qvg:HookOne Tryz.prog 19 (qeh qzp):=by
 refine HookOne.ofRel (by decide +kernel) qo8 (fun args H y H' h=>?_) fun args H y H' h=>?_
 ·obtain⟨g,s,rfl,h1,⟨f1,f2,f3⟩,rfl,rfl⟩:=h
  exact qwo g s H h1 f1 f2 f3
 ·obtain⟨g,s,rfl,h1,⟨f1,f2,f3⟩,rfl,rfl⟩:=h
  have hgr:Grows H (qcs H s):=fun g' h=>by
   have h:(H.gs.set H.next _).get g'=none:=h
   by_cases e:g'=H.next
   ·subst e;rw[Tr.get_set_same] at h;cases h
   ·rw[Tr.get_set_ne _ _ e] at h;exact h
  refine⟨hgr,fun X H2 he ha=>?_⟩
  have x0:X H.next=none:=by
   cases hx:X H.next with
   |none=>rfl
   |some r=>
    have h2:(H.gs.set H.next ⟨0,0,qj0 (qib s H.next)⟩).get H.next=none:=ha _ _ hx
    rw[Tr.get_set_same] at h2;cases h2
  refine⟨qcs H2 s,⟨g,s,rfl,h1.ext he (ha.back hgr),⟨?_,by rw[he.ms,he.next];exact f2,by rw[he.ms,he.next];exact f3⟩,by rw[he.next],rfl⟩,?_⟩
  ·rw[he.gs,he.next,x0];exact f1
  ·refine⟨by show H2.next+3=H.next+3;rw[he.next],fun g'=>?_,fun g'=>?_⟩
   ·show (H2.gs.set H2.next ⟨0,0,qj0 (qib s H2.next)⟩).get g'=match X g' with|some r=>some r|none=>(H.gs.set H.next ⟨0,0,qj0 (qib s H.next)⟩).get g'
    rw[he.next]
    by_cases e:g'=H.next
    ·subst e
     rw[Tr.get_set_same,Tr.get_set_same,x0]
    ·rw[Tr.get_set_ne _ _ e,Tr.get_set_ne _ _ e];exact he.gs g'
   ·show ((H2.ms.set (H2.next+1) _).set (H2.next+2) _).get g'=((H.ms.set (H.next+1) _).set (H.next+2) _).get g'
    rw[he.next]
    by_cases e2:g'=H.next+2
    ·subst e2;rw[Tr.get_set_same,Tr.get_set_same]
    ·rw[Tr.get_set_ne _ _ e2,Tr.get_set_ne _ _ e2]
     by_cases e1:g'=H.next+1
     ·subst e1;rw[Tr.get_set_same,Tr.get_set_same]
     ·rw[Tr.get_set_ne _ _ e1,Tr.get_set_ne _ _ e1];exact he.ms g'
end
end Go.Proofs.YtdekdghldblfaaaGreatDoor
