import Derived.Test.YtdekdghldblfaaaGreatDoorAbsV
import Derived.Test.YtdekdghldblfaaaGreatDoorDrawsA
import Derived.Test.YtdekdghldblfaaaGreatDoorHkA
import Derived.Test.YtdekdghldblfaaaGreatDoorYMd
import Derived.Test.YtdekdghldblfaaaGreatDoorYOwn18
import Derived.Test.YtdekdghldblfaaaGreatDoorSymAA
set_option linter.unusedVariables false
set_option linter.unusedSimpArgs false
namespace Go.Proofs.YtdekdghldblfaaaGreatDoor
section
open Go Go.Abs Go.RowKit
noncomputable def hkI:List (FuncId×(List AV→AH→Option (AV×AH))):=[(143,qj1),(117,q0x)]
theorem q57:∀e∈hkI,HookOne Tryz.prog e.1 e.2:=by
 intro e he
 simp only[hkI,List.mem_cons,List.not_mem_nil,or_false] at he
 rcases he with rfl|rfl
 ·exact qoi
 ·exact qyw
theorem runI:qcp Tryz.prog (arun Tryz.prog all (qbw hkI) 2000 60):=qrl mixed draws (qc4 q57).1 (qc4 q57).2 60
def qd8:AV:=.vals 1 [[.str [97]],[.str [98]]]
def qyb:AV:=.vals 4 [[.str [112],.int .i64 1,.int .u64 3,.bool false],[.str [113],.int .i64 2,.int .u64 1,.bool true],[.str [114],.int .i64 0,.int .u64 0,.bool false]]
def LNew:List (List AV×AV):=[([qd8,qyb],.tup [.vptr [qd8,qyb] 0,.int .i64 0])]
def LGn:List (List AV×AV):=[([qd8],.bool true)]
def LAt:List (List AV×AV):=[([.str [112]],.agg [.int .i64 2,.int .i64 0,.str [112],.nils]),([.str [113]],.agg [.int .i64 2,.int .i64 0,.str [113],.nils]),([.str [114]],.agg [.int .i64 2,.int .i64 0,.str [114],.nils])]
def LGd:List (List AV×AV):=[([.agg [.int .i64 2,.int .i64 0,.str [112],.nils]],.bool true),([.agg [.int .i64 2,.int .i64 0,.str [113],.nils]],.bool true),([.agg [.int .i64 2,.int .i64 0,.str [114],.nils]],.bool true)]
def LFi:List (List AV×AV):=[([qd8,.int .u64 3],.bool true),([qd8,.int .u64 1],.bool true),([qd8,.int .u64 0],.bool true)]
def LPp:List (List AV×AV):=[([.str [112],.int .i64 1],.bool false),([.str [113],.int .i64 2],.bool false),([.str [114],.int .i64 0],.bool false)]
set_option maxRecDepth 100000 in
theorem kGn:HookOne Tryz.prog 79 (qdy LGn):=qeq (by decide +kernel) (qqu runI (by decide +kernel))
set_option maxRecDepth 100000 in
theorem kAt:HookOne Tryz.prog 81 (qdy LAt):=qeq (by decide +kernel) (qqu runI (by decide +kernel))
set_option maxRecDepth 100000 in
theorem kGd:HookOne Tryz.prog 80 (qdy LGd):=qeq (by decide +kernel) (qqu runI (by decide +kernel))
set_option maxRecDepth 100000 in
theorem kFi:HookOne Tryz.prog 46 (qdy LFi):=qeq (by decide +kernel) (qqu runI (by decide +kernel))
set_option maxRecDepth 100000 in
theorem kPp:HookOne Tryz.prog 82 (qdy LPp):=qeq (by decide +kernel) (qqu runI (by decide +kernel))
set_option maxRecDepth 100000 in
theorem kNew:HookOne Tryz.prog 31 (qdy LNew):=qeq (by decide +kernel) (qqu runI (by decide +kernel))
end
section
open Go Go.Abs Go.RowKit
attribute [local congr] qai qaj qag
attribute [local congr] qal
noncomputable abbrev ysM:List (FuncId×YF):=[(32,qps),(33,qjq),(23,yNew)]
noncomputable abbrev lsM:List (FuncId×(List AV→AH→Option (AV×AH))):=[(31,qdy LNew),(79,qdy LGn),(81,qdy LAt),(80,qdy LGd),(46,qdy LFi),(82,qdy LPp)]
theorem lsM_ok:∀e∈lsM,HookOne Tryz.prog e.1 e.2:=by
 intro e he
 simp only[lsM,List.mem_cons,List.not_mem_nil,or_false] at he
 rcases he with rfl|rfl|rfl|rfl|rfl|rfl
 ·exact kNew
 ·exact kGn
 ·exact kAt
 ·exact kGd
 ·exact kFi
 ·exact kPp
theorem ysM_ok:∀e∈ysM,qbp Tryz.prog (fun _=>true) e.1=some e.2.er:=by
 intro e he
 simp only[ysM,List.mem_cons,List.not_mem_nil,or_false] at he
 rcases he with rfl|rfl|rfl
 ·exact qu2
 ·exact qpr
 ·exact yNew_ok
theorem qv3(L:List (List AV×AV))(args:List AV)(H:AH):qdy L args H=on (frzs (qh7 3 H) args) fun ks=>on (qqt L ks) fun y=>some (y,H):=(rfl)
theorem hM(n:Nat){f:FuncId}{k:List AV→AH→Option (AV×AH)}(hh:qbw lsM f=some k)(args:List AV)(H:AH):icall ysM lsM 10 (n+1) f args H=k args H:=qay hh args H
set_option maxHeartbeats 4000000 in
theorem qm5(N:Nat)(gs:Tr Grp)(ms:Tr qbm)(h0:gs.get N=some ⟨0,0,[.str [97],.str [98]]⟩)(h2:gs.get (N+2)=some ⟨0,0,[.str [112],.int .i64 1,.int .u64 3,.bool false,.str [113],.int .i64 2,.int .u64 1,.bool true,.str [114],.int .i64 0,.int .u64 0,.bool false]⟩)(hE:∀k,gs.get (N+(k+3))=none) :
  icall ysM lsM 10 2 32 [.slc N 0 0 2 1,.slc (N+2) 0 0 3 4] ⟨N+3,gs,ms⟩=some (.tup [.ptr (N+109) 0 0,.int .i64 0],⟨N+110,(gs.set (N+108) ⟨0,0,[.str [112],.int .i64 1,.int .u64 3,.bool false,.str [113],.int .i64 2,.int .u64 1,.bool true,.str [114],.int .i64 0,.int .u64 0,.bool false]⟩).set (N+109) ⟨0,0,[.slc N 0 0 2 1,.slc (N+108) 0 0 3 4]⟩,ms⟩):=by
 refine qbn rfl rfl rfl ?_
 have u1:((112:UInt8)=113)=False:=by decide
 have u2:((113:UInt8)=112)=False:=by decide
 have u3:((112:UInt8)=114)=False:=by decide
 have u4:((114:UInt8)=112)=False:=by decide
 have u5:((113:UInt8)=114)=False:=by decide
 have u6:((114:UInt8)=113)=False:=by decide
 have b1:(([112]:List UInt8)==[113])=false:=by decide
 have b2:(([112]:List UInt8)==[114])=false:=by decide
 have b3:(([113]:List UInt8)==[114])=false:=by decide
 have hw:∀n:Nat,n<100→IntKind.i64.wrap ((n:Int)+1)=(n:Int)+1:=fun n hn=>by rw[wrap_i64]<;>omega
 have k1:=fun args H=>hM 0 (f:=79) (k:=qdy LGn) rfl args H
 have k2:=fun args H=>hM 0 (f:=81) (k:=qdy LAt) rfl args H
 have k3:=fun args H=>hM 0 (f:=80) (k:=qdy LGd) rfl args H
 have k4:=fun args H=>hM 0 (f:=46) (k:=qdy LFi) rfl args H
 have k5:=fun args H=>hM 0 (f:=82) (k:=qdy LPp) rfl args H
 simp (maxSteps:=1000000) (disch:=omega) only[qps,qak,↓axP,axQ,seval,qaa,qab,tX,h0,h2,hE,k1,k2,k3,k4,k5,qv3,qy9,qy8,qlu,qlw,qlt,qlv,qja,qi9,qqs,LGn,LAt,LGd,LFi,LPp,qd8,AV.str.injEq,AV.int.injEq,AV.agg.injEq,AV.vals.injEq,List.cons.injEq,u1,u2,u3,u4,u5,u6,b1,b2,b3,qad,qu1,qju,qu0,qjt,quz,qjs,quy,qjr,nk1,nk2,nk3,Nat.add_assoc]
theorem qyl(nx:Nat)(gs:Tr Grp)(ms:Tr qbm)(q:Int)(hq:1≤q∧q≤64)(x:List AV)(h1:ms.get nx=none)(h2:ms.get (nx+1)=none)(h3:gs.get (nx+2)=none) :
  icall ysM lsM 10 2 23 [.vptr x 0,.int .i64 q] ⟨nx,gs,ms⟩=some (.tup [.ptr (nx+2) 0 0,.int .i64 0],⟨nx+3,gs.set (nx+2) ⟨0,0,[.vptr x 0,.int .i64 q,.int .i64 0,.mapp nx,.mapp (nx+1)]⟩,(ms.set nx (0,[])).set (nx+1) (0,[])⟩):=by
 refine qbn rfl rfl rfl ?_
 have q1:(q<1)=False:=eq_false (by omega)
 have q2:((64:Int)<q)=False:=eq_false (by omega)
 simp (maxSteps:=1000000) (disch:=omega) only[yNew,qak,↓axP,axQ,seval,qaa,qab,tX,h1,h2,h3,q1,q2,nk1,nk2,nk3,Nat.add_assoc]
theorem qoq(nx g:Nat)(gs:Tr Grp)(ms:Tr qbm)(q:Int)(hq:1≤q∧q≤64)(n:Nat)(u v:AV)(h0:gs.get g=some ⟨0,0,[u,.slc n 0 0 3 4]⟩)(h1:gs.get nx=none)(h2:gs.get (nx+1)=none) :
  icall ysM lsM 10 2 33 [.ptr g 0 0,.int .i64 q] ⟨nx,gs,ms⟩=some (.tup [.ptr (nx+1) 0 0,.int .i64 0],⟨nx+2,(gs.set nx ⟨0,0,[.nils,.nils,.nils]⟩).set (nx+1) ⟨0,0,[.ptr g 0 0,.int .i64 q,.int .i64 1,.slc nx 0 0 3 1]⟩,ms⟩):=by
 refine qbn rfl rfl rfl ?_
 have q1:(q<1)=False:=eq_false (by omega)
 have q2:((64:Int)<q)=False:=eq_false (by omega)
 have hm:q5d 1 24 [.nils] ⟨nx,gs,ms⟩ (.int .i64 3) (.int .i64 3)=some (.slc nx 0 0 3 1,⟨nx+1,gs.set nx ⟨0,0,[.nils,.nils,.nils]⟩,ms⟩):=by
  simp[q5d,newsl,AH.free,h1,AH.add]
 simp (maxSteps:=1000000) (disch:=omega) only[qjq,qak,↓axP,axQ,seval,qaa,qab,tX,hm,h0,h1,h2,q1,q2,nk1,nk2,nk3,Nat.add_assoc]
end
section
open Go Go.Abs Go.RowKit
attribute [local congr] qai qaj qag
attribute [local congr] qal
def qao:List Pr:=[⟨[112],1,3,false⟩,⟨[113],2,1,true⟩,⟨[114],0,0,false⟩]
def st0(q:Int)(n:Nat):St:=⟨[[97],[98]],qao,q,0,n+1,n+2,0,[],0,[]⟩
def qei(H:AH)(q:Int):AH:=⟨H.next+3,H.gs.set H.next ⟨0,0,qj0 (st0 q H.next)⟩,(H.ms.set (H.next+1) (0,[])).set (H.next+2) (0,[])⟩
def q5h(args:List AV)(H:AH)(y:AV)(H':AH):Prop:=∃q,args=[.int .i64 q]∧(1≤q∧q≤64)∧(H.gs.get H.next=none∧H.ms.get (H.next+1)=none∧H.ms.get (H.next+2)=none)∧y=.tup [.ptr H.next 0 0,.vptr [] 0]∧H'=qei H q
theorem qtd:OneR q5h:=by
 intro a H y H' y2 H2 h k
 obtain⟨q,rfl,-,-,rfl,rfl⟩:=h
 obtain⟨q',e,-,-,rfl,rfl⟩:=k
 simp only[List.cons.injEq,AV.int.injEq,true_and,and_true] at e
 subst e
 exact⟨rfl,rfl⟩
theorem made_at{H:AH}(q:Int):StAt (qei H q) H.next (st0 q H.next):=by
 refine⟨by show H.next+1≠H.next+2;omega,Tr.get_set_same _ _ _,?_,Tr.get_set_same _ _ _⟩
 show ((H.ms.set (H.next+1) _).set (H.next+2) _).get (H.next+1)=_
 rw[Tr.get_set_ne _ _ (by omega),Tr.get_set_same];rfl
theorem made_fin{N n0 nx1:Nat}{q:Int}{gs gs1:Tr Grp}{ms ms1:Tr qbm}(f1:gs.get n0=none)(f2:ms.get (n0+1)=none)(f3:ms.get (n0+2)=none)(hN:∀n,N≤n→gs.get n=none∧ms.get n=none)(hcl:ClosedH ⟨n0,gs,ms⟩)
  (g1:gs1.get (N+112)=some ⟨0,0,[qcd [[97],[98]] qao,.int .i64 q,.int .i64 0,.mapp (N+110),.mapp (N+111)]⟩) (g2:∃r,gs1.get (N+114)=some r∧r.e=0) (go:∀g,g<N→gs1.get g=gs.get g)
  (m1:ms1.get (N+110)=some (0,[])) (m2:ms1.get (N+111)=some (0,[])) (mo:∀g,g<N→ms1.get g=ms.get g) :
  Go.Abs.Comes (some (.tup [.ptr (N+112) 0 0,.ptr (N+114) 0 0],⟨nx1,gs1,ms1⟩)) ⟨n0,gs,ms⟩ (.tup [.ptr n0 0 0,.vptr [] 0]) (qei ⟨n0,gs,ms⟩ q):=by
 have lt:∀g,gs.get g≠none→g<N:=fun g h=>by
  rcases Nat.lt_or_ge g N with q|q
  ·exact q
  ·exact absurd (hN g q).1 h
 have ltm:∀g,ms.get g≠none→g<N:=fun g h=>by
  rcases Nat.lt_or_ge g N with q|q
  ·exact q
  ·exact absurd (hN g q).2 h
 let p:Nat→Nat:=fun x=>if x=n0 then N+112 else x
 let r:Nat→Nat:=fun x=>if x=n0+1 then N+110 else if x=n0+2 then N+111 else x
 have p0:p n0=N+112:=if_pos rfl
 have pn:∀g,g≠n0→p g=g:=fun g h=>if_neg h
 have r1:r (n0+1)=N+110:=if_pos rfl
 have r2:r (n0+2)=N+111:=by show (if _ then _ else _)=_;rw[if_neg (by omega),if_pos rfl]
 have rn:∀g,g≠n0+1→g≠n0+2→r g=g:=fun g h k=>by show (if _ then _ else _)=_;rw[if_neg h,if_neg k]
 have hgs:∀g,(qei ⟨n0,gs,ms⟩ q).gs.get g=if g=n0 then some ⟨0,0,qj0 (st0 q n0)⟩ else gs.get g:=fun g=>by
  show (gs.set n0 _).get g=_
  by_cases e:g=n0
  ·subst e;rw[Tr.get_set_same,if_pos rfl]
  ·rw[Tr.get_set_ne _ _ e,if_neg e]
 have hms:∀g,(qei ⟨n0,gs,ms⟩ q).ms.get g=if g=n0+2 then some (0,[]) else if g=n0+1 then some (0,[]) else ms.get g:=fun g=>by
  show ((ms.set (n0+1) (0,[])).set (n0+2) (0,[])).get g=_
  by_cases e:g=n0+2
  ·subst e;rw[Tr.get_set_same,if_pos rfl]
  ·rw[Tr.get_set_ne _ _ e,if_neg e]
   by_cases e:g=n0+1
   ·subst e;rw[Tr.get_set_same,if_pos rfl]
   ·rw[Tr.get_set_ne _ _ e,if_neg e]
 have oldm:∀g,ms.get g≠none→r g=g∧(qei ⟨n0,gs,ms⟩ q).ms.get g≠none:=fun g h=>by
  have e1:g≠n0+1:=fun e=>h (by rw[e];exact f2)
  have e2:g≠n0+2:=fun e=>h (by rw[e];exact f3)
  exact⟨rn g e1 e2,by rw[hms,if_neg e2,if_neg e1];exact h⟩
 have oldg:∀g,gs.get g≠none→p g=g∧(qei ⟨n0,gs,ms⟩ q).gs.get g≠none:=fun g h=>by
  have e1:g≠n0:=fun e=>h (by rw[e];exact f1)
  exact⟨pn g e1,by rw[hgs,if_neg e1];exact h⟩
 have hrefl:∀x,qd7 (fun g=>gs.get g≠none) (fun g=>ms.get g≠none) x→FzR ⟨nx1,gs1,ms1⟩ (kpR ⟨n0,gs,ms⟩ ⟨nx1,gs1,ms1⟩ (qei ⟨n0,gs,ms⟩ q) p) (kmR (qei ⟨n0,gs,ms⟩ q) r) (qes (qei ⟨n0,gs,ms⟩ q) p) x x:=fun x hx=>
  FzR.refl (S:=fun g=>gs.get g≠none) (M:=fun g=>ms.get g≠none) (fun g e h=>.inl ⟨h,rfl,rfl⟩) (fun g h=>⟨(oldm g h).1.symm,(oldm g h).2⟩) x hx
 have im:∀g,(qei ⟨n0,gs,ms⟩ q).ms.get g≠none→(g=n0+1∧r g=N+110)∨(g=n0+2∧r g=N+111)∨(g<N∧r g=g):=fun g h=>by
  rw[hms] at h
  by_cases e2:g=n0+2
  ·exact .inr (.inl ⟨e2,by rw[e2];exact r2⟩)
  ·rw[if_neg e2] at h
   by_cases e1:g=n0+1
   ·exact .inl ⟨e1,by rw[e1];exact r1⟩
   ·rw[if_neg e1] at h
    exact .inr (.inr ⟨ltm g h,rn g e1 e2⟩)
 have ig:∀g,(qei ⟨n0,gs,ms⟩ q).gs.get g≠none→(g=n0∧p g=N+112)∨(g<N∧p g=g):=fun g h=>by
  rw[hgs] at h
  by_cases e2:g=n0
  ·exact .inl ⟨e2,by rw[e2];exact p0⟩
  ·rw[if_neg e2] at h
   exact .inr ⟨lt g h,pn g e2⟩
 refine Comes.some (p:=p) (q:=r) ⟨oldg,fun g s2 h=>?_,fun g g' h h' e=>?_,oldm,fun g es2 h=>?_,fun g g' h h' e=>?_,?_⟩
 ·have h0:=h
  rw[hgs] at h
  by_cases e:g=n0
  ·subst e
   rw[if_pos rfl] at h
   cases h
   refine⟨⟨0,0,[qcd [[97],[98]] qao,.int .i64 q,.int .i64 0,.mapp (N+110),.mapp (N+111)]⟩,by rw[p0];exact g1,Nat.le_refl _,fun hh=>absurd f1 hh,fun i y hy=>?_⟩
   have hy:[qcd [[97],[98]] qao,AV.int .i64 q,.int .i64 0,.mapp (g+1),.mapp (g+2)][i]? = some y:=hy
   match i,hy with
   |0,hy=>cases hy;exact⟨_,rfl,.pure (qdf _ _)⟩
   |1,hy=>cases hy;exact⟨_,rfl,.pure rfl⟩
   |2,hy=>cases hy;exact⟨_,rfl,.pure rfl⟩
   |3,hy=>cases hy;exact⟨_,rfl,.keepM ⟨r1.symm,by rw[hms,if_neg (by omega),if_pos rfl];simp⟩⟩
   |4,hy=>cases hy;exact⟨_,rfl,.keepM ⟨r2.symm,by rw[hms,if_pos rfl];simp⟩⟩
   |i+5,hy=>simp at hy
  ·rw[if_neg e] at h
   refine⟨s2,by rw[pn g e];show gs1.get g=_;rw[go g (lt g (by rw[h];simp))];exact h,Nat.le_refl _,fun _=>rfl,fun i y hy=>⟨y,hy,hrefl y (hcl.cell g s2 i y h hy)⟩⟩
 ·rcases ig g h with⟨a,b⟩|⟨a,b⟩<;>rcases ig g' h' with⟨c,d⟩|⟨c,d⟩<;>omega
 ·have h0:=h
  rw[hms] at h
  by_cases e2:g=n0+2
  ·rw[if_pos e2] at h
   cases h
   exact⟨_,by rw[e2,r2];exact m2,rfl,rfl⟩
  ·rw[if_neg e2] at h
   by_cases e1:g=n0+1
   ·rw[if_pos e1] at h
    cases h
    exact⟨_,by rw[e1,r1];exact m1,rfl,rfl⟩
   ·rw[if_neg e1] at h
    refine⟨es2,by rw[rn g e1 e2];show ms1.get g=_;rw[mo g (ltm g (by rw[h];simp))];exact h,rfl,FzE.refl fun e he=>?_⟩
    have:=hcl.ent g es2 h e he
    exact⟨hrefl _ this.1,hrefl _ this.2⟩
 ·rcases im g h with⟨a,b⟩|⟨a,b⟩|⟨a,b⟩<;>rcases im g' h' with⟨c,d⟩|⟨c,d⟩|⟨c,d⟩<;>omega
 ·obtain⟨rr,k1,k2⟩:=g2
  refine FzR.ofTup (.cons (.keepP (.inr ⟨f1,p0.symm,_,_,g1,rfl,by rw[hgs,if_pos rfl],rfl⟩)) (.cons (.ptr (r:=rr) (row:=[]) (fun g' hg' e=>?_) k1 k2 (Nat.zero_le _) fun j x y hx hy=>by simp at hy) .nil))
  rcases ig g' hg' with⟨a,b⟩|⟨a,b⟩<;>omega
set_option maxHeartbeats 4000000 in
theorem q0u(q:Int)(H:AH)(hq:1≤q∧q≤64)(f1:H.gs.get H.next=none)(f2:H.ms.get (H.next+1)=none)(f3:H.ms.get (H.next+2)=none) :
  ACalls Tryz.prog 10 [.int .i64 q] H fun y H'=>y=.tup [.ptr H.next 0 0,.vptr [] 0]∧H'=qei H q:=by
 have hio:=qey (P:=Tryz.prog) mixed (fun f=>draws f rfl) ysM_ok lsM_ok 10 2
 refine ACalls.onCall hio.1 hio.2 mixed (draws _ rfl) qxa rfl 10 fun N hN hcl=>?_
 obtain⟨n0,gs,ms⟩:=H
 simp only at hN f1 f2 f3
 have lt:∀g r,gs.get g=some r→g<N:=fun g r h=>by
  rcases Nat.lt_or_ge g N with q|q
  ·exact q
  ·rw[(hN g q).1] at h;cases h
 have ltm:∀g r,ms.get g=some r→g<N:=fun g r h=>by
  rcases Nat.lt_or_ge g N with q|q
  ·exact q
  ·rw[(hN g q).2] at h;cases h
 have hE:∀k,gs.get (N+k)=none:=fun k=>(hN (N+k) (by omega)).1
 have hE0:gs.get N=none:=(hN N (Nat.le_refl _)).1
 have hM':∀k,ms.get (N+k)=none:=fun k=>(hN (N+k) (by omega)).2
 have k1:=fun args H=>hM 1 (f:=31) (k:=qdy LNew) rfl args H
 simp (maxSteps:=1000000) (disch:=omega) only[yMade,qaf,↓axP,axQ,seval,qaa,qab,tX,hE,hE0,k1,qv3,qy9,qy8,qlu,qlw,qlt,qlv,qja,qi9,qqs,LNew,qd8,qyb,nk1,nk2,nk3,Nat.add_assoc]
 rw[qm5 N _ _ (by simp[Tr.get_set,nk1,nk2]) (by simp[Tr.get_set]) (fun k=>by simp[Tr.get_set,nk2,nk3,hE,show ∀k,k+3≠1 from fun k=>by omega])]
 simp (maxSteps:=1000000) (disch:=omega) only[↓axP,axQ,seval,qaa,qab,tX,nk1,nk2,nk3,Nat.add_assoc]
 rw[qyl _ _ _ q hq _ (hM' _) (by rw[Nat.add_assoc];exact hM' _) (by simp[Tr.get_set,nk2,nk3,hE,Nat.add_assoc])]
 simp (maxSteps:=1000000) (disch:=omega) only[↓axP,axQ,seval,qaa,qab,tX,nk1,nk2,nk3,Nat.add_assoc]
 rw[qoq _ _ _ _ q hq (N+108) (.slc N 0 0 2 1) (.int .i64 0) (by simp[Tr.get_set,nk2,nk3,Nat.add_assoc]) (by simp[Tr.get_set,nk2,nk3,hE,Nat.add_assoc]) (by simp[Tr.get_set,nk2,nk3,hE,Nat.add_assoc])]
 simp (maxSteps:=1000000) (disch:=omega) only[↓axP,axQ,seval,qaa,qab,tX,nk1,nk2,nk3,Nat.add_assoc]
 refine made_fin f1 f2 f3 hN hcl ?_ ⟨_,Tr.get_set_same _ _ _,rfl⟩ (fun g hg=>?_) ?_ ?_ (fun g hg=>?_)
 ·simp[Tr.get_set,nk2,nk3,qcd,qao,prC]
 ·simp[Tr.get_set,show g≠N by omega,show ∀k,g≠N+k by omega]
 ·simp[Tr.get_set,nk2,nk3]
 ·simp[Tr.get_set,nk2,nk3]
 ·simp[Tr.get_set,show g≠N by omega,show ∀k,g≠N+k by omega]
theorem made_one:HookOne Tryz.prog 10 (qeh q5h):=by
 refine HookOne.ofRel (by decide +kernel) qtd (fun args H y H' h=>?_) fun args H y H' h=>?_
 ·obtain⟨q,rfl,hq,⟨f1,f2,f3⟩,rfl,rfl⟩:=h
  exact q0u q H hq f1 f2 f3
 ·obtain⟨q,rfl,hq,⟨f1,f2,f3⟩,rfl,rfl⟩:=h
  refine⟨fun g' h=>?_,fun X H2 he ha=>⟨qei H2 q,⟨q,rfl,hq,⟨?_,by rw[he.ms,he.next];exact f2,by rw[he.ms,he.next];exact f3⟩,by rw[he.next],rfl⟩,?_⟩⟩
  ·have h:(H.gs.set H.next _).get g'=none:=h
   by_cases e:g'=H.next
   ·subst e;rw[Tr.get_set_same] at h;cases h
   ·rw[Tr.get_set_ne _ _ e] at h;exact h
  ·rw[he.gs,he.next]
   cases hx:X H.next with
   |none=>exact f1
   |some r=>
    have h2:(H.gs.set H.next ⟨0,0,qj0 (st0 q H.next)⟩).get H.next=none:=ha _ _ hx
    rw[Tr.get_set_same] at h2;cases h2
  ·refine⟨by show H2.next+3=H.next+3;rw[he.next],fun g'=>?_,fun g'=>?_⟩
   ·show (H2.gs.set H2.next ⟨0,0,qj0 (st0 q H2.next)⟩).get g'=match X g' with|some r=>some r|none=>(H.gs.set H.next ⟨0,0,qj0 (st0 q H.next)⟩).get g'
    rw[he.next]
    by_cases e:g'=H.next
    ·subst e
     rw[Tr.get_set_same,Tr.get_set_same]
     cases hx:X H.next with
     |none=>rfl
     |some r=>
      have h2:(H.gs.set H.next ⟨0,0,qj0 (st0 q H.next)⟩).get H.next=none:=ha _ _ hx
      rw[Tr.get_set_same] at h2;cases h2
    ·rw[Tr.get_set_ne _ _ e,Tr.get_set_ne _ _ e];exact he.gs g'
   ·show ((H2.ms.set (H2.next+1) (0,[])).set (H2.next+2) (0,[])).get g'=((H.ms.set (H.next+1) (0,[])).set (H.next+2) (0,[])).get g'
    rw[he.next]
    by_cases e2:g'=H.next+2
    ·subst e2;rw[Tr.get_set_same,Tr.get_set_same]
    ·rw[Tr.get_set_ne _ _ e2,Tr.get_set_ne _ _ e2]
     by_cases e1:g'=H.next+1
     ·subst e1;rw[Tr.get_set_same,Tr.get_set_same]
     ·rw[Tr.get_set_ne _ _ e1,Tr.get_set_ne _ _ e1];exact he.ms g'
end
end Go.Proofs.YtdekdghldblfaaaGreatDoor
