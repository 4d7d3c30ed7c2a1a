import Derived.Test.YtdekdghldblfaaaGreatDoorSymB
import Derived.Test.YtdekdghldblfaaaGreatDoorSymVV
import Derived.Test.YtdekdghldblfaaaGreatDoorAbsV
import Derived.Test.YtdekdghldblfaaaGreatDoorDrawsA
import Derived.Test.YtdekdghldblfaaaGreatDoorAbsSB
set_option linter.unusedVariables false
set_option linter.unusedSimpArgs false
namespace Go.Proofs.YtdekdghldblfaaaGreatDoor
section
open Go Go.Abs Go.RowKit
attribute [local congr] qai qaj qag
def andI(a b:Int):Int:=IntKind.u64.wrap ((BitVec.ofInt 64 a &&& BitVec.ofInt 64 b).toNat:Nat)
def orI(a b:Int):Int:=IntKind.u64.wrap ((BitVec.ofInt 64 a ||| BitVec.ofInt 64 b).toNat:Nat)
def anotI(a b:Int):Int:=IntKind.u64.wrap ((BitVec.ofInt 64 a &&& ~~~BitVec.ofInt 64 b).toNat:Nat)
theorem b_and(t:TypeId)(nc:Bool)(a b:Int):ibin .and t (some (.int .u64)) nc (.int .u64 a) (.int .u64 b)=some (.int .u64 (andI a b)):=(rfl)
theorem b_or(t:TypeId)(nc:Bool)(a b:Int):ibin .or t (some (.int .u64)) nc (.int .u64 a) (.int .u64 b)=some (.int .u64 (orI a b)):=(rfl)
theorem b_anot(t:TypeId)(nc:Bool)(a b:Int):ibin .andNot t (some (.int .u64)) nc (.int .u64 a) (.int .u64 b)=some (.int .u64 (anotI a b)):=(rfl)
def qhi(a b:Int):Bool:=decide (anotI a b=0)
noncomputable def leqS:List AV→Option AV
 |[.int .u64 a,.int .u64 b]=>some (.bool (qhi a b))
 |_=>none
theorem qv1(a b:Int):leqS [.int .u64 a,.int .u64 b]=some (.bool (qhi a b)):=rfl
theorem q5p:HookOne Tryz.prog 15 (qae leqS):=by
 refine HookOne.ofPureF (by decide +kernel) fun args y h H=>?_
 unfold leqS at h;split at h
 ·rename_i a b
  cases h
  refine ACalls.ofRun (l:=[]) (by simp) mixed (draws _ rfl) yLLeq_ok rfl (by rfl) 0 ?_ H
  simp (maxSteps:=1000000) (disch:=omega) only[yLLeq,qak,↓axP,axQ,seval,qaa,qab,tX,b_anot]
  exact Ans.some (.pure rfl)
 ·cases h
structure Cl where
 id:Int
 lab:Int
 hd:Tm
 bd:Tm
def clC(c:Cl):List AV:=.int .i64 c.id::.int .u64 c.lab::(tmC c.hd++tmC c.bd)
def qcf(l:List Cl):AV:=.vals 10 (l.map clC)
theorem qbh(c:Cl):(clC c).length=10:=by simp[clC,qbf]
theorem q7w{a b:Cl}(h:clC a=clC b):a=b:=by
 obtain⟨i,l,x,y⟩:=a;obtain⟨i',l',x',y'⟩:=b
 simp only[clC,List.cons.injEq,AV.int.injEq,true_and] at h
 obtain⟨rfl,rfl,h⟩:=h
 have h1:=List.append_inj h (by rw[qbf,qbf])
 rw[qjy h1.1,qjy h1.2]
theorem qjf{a b:List Cl}(h:qcf a=qcf b):a=b:=by
 simp only[qcf,AV.vals.injEq,true_and] at h
 exact qna (fun a b=>q7w) h
theorem q4o(c:Cl):qa2 (clC c)=true:=by
 rw[qa6]
 intro x hx
 simp only[clC,List.mem_cons,List.mem_append] at hx
 rcases hx with rfl|rfl|hx|hx
 ·rfl
 ·rfl
 ·exact (qa6 _).1 (qcq c.hd) x hx
 ·exact (qa6 _).1 (qcq c.bd) x hx
theorem qfq(l:List Cl):qd4 (l.map clC)=true:=by
 rw[qeo]
 intro r hr
 simp only[List.mem_map] at hr
 obtain⟨p,-,rfl⟩:=hr
 exact q4o p
noncomputable def ofCl:AV→Option Cl:=back fun c=>.agg (clC c)
theorem ofCl_eq(c:Cl):ofCl (.agg (clC c))=some c:=qkm (f:=fun c=>AV.agg (clC c)) (fun a b h=>q7w (by simpa using h)) c
def OkT(t:Tm):Prop:=t.height≤70∧Fine 1000 t
def q1s(c:Cl):Prop:=OkT c.hd∧OkT c.bd
noncomputable def q0o:List AV→Option AV
 |[x]=>(ofCl x).bind fun c=>only (q1s c) (some (.agg (clC c)))
 |_=>none
theorem ownCS_eq{c:Cl}(h:q1s c):q0o [.agg (clC c)]=some (.agg (clC c)):=by
 simp only[q0o,ofCl_eq,Option.bind_some];exact qa0 h _
mutual
theorem qx3:∀t:Tm,qa1 (rho []) t=t
 |.mk k n s l=>by
  have:=qsu l
  simp only[qa1,this]
  split
  ·rfl
  ·rfl
theorem qsu:∀l:List Tm,qsv (rho []) l=l
 |[]=>by simp[qsv]
 |t::l=>by simp[qsv,qx3 t,qsu l]
end
theorem ownC_one:HookOne Tryz.prog 62 (qae q0o):=by
 refine HookOne.ofPureF (by decide +kernel) fun args y h H=>?_
 have hl:∀e∈[(107,qhq (qhp 70))],HookOne Tryz.prog e.1 e.2:=by
  intro e he;simp at he;subst he;exact q34 70
 unfold q0o at h;split at h
 ·rename_i x
  rw[Option.bind_eq_some_iff] at h
  obtain⟨c,h1,h2⟩:=h
  obtain⟨⟨hh,hb⟩,h3⟩:=qau h2
  cases h3
  obtain rfl:=qdi h1
  refine ACalls.ofRun hl mixed (draws _ rfl) yOwn_ok rfl (by simp[qa2,qba,q4o]) 0 ?_ H
  have hr:∀t:Tm,OkT t→∀H,qhq (qhp 70) [.agg (tmC t),.nilm] H=some (.agg (tmC t),H):=fun t ht H=>by
   have:=qqc (n:=70) (t:=t) (v:=.nilm) (m:=[]) (H:=H) rfl ht
   rwa [qx3] at this
  have r1:=hr c.hd hh
  have r2:=hr c.bd hb
  unfold clC
  simp (maxSteps:=1000000) (disch:=omega) only[yOwn,qaf,↓axP,axQ,seval,qaa,qab,tX,r1,r2]
  exact Ans.some (.pure (by simp[qba,qa2,qa6];exact fun x hx=>by rcases hx with hx|hx;exact (qa6 _).1 (qcq c.hd) x hx;exact (qa6 _).1 (qcq c.bd) x hx))
 ·cases h
noncomputable def qrd:List AV→Option AV
 |[.vals 1 rows]=>only (rows≠[]∧rows.length≤1000000∧(∀r∈rows,r.length=1)∧qd4 rows=true) (some (.vals 1 rows))
 |_=>none
theorem qwp:HookOne Tryz.prog 77 (qae qrd):=by
 refine HookOne.ofPureF (by decide +kernel) fun args y h H=>?_
 unfold qrd at h;split at h
 ·rename_i rows
  obtain⟨⟨hl,hn,hr,hp⟩,h3⟩:=qau h
  cases h3
  refine ACalls.ofRun (l:=[]) (by simp) mixed (draws _ rfl) qz6 rfl (by simp[qa2,qba,hp]) 0 ?_ H
  obtain⟨t,l',rfl⟩:=List.exists_cons_of_ne_nil hl
  have e:∀t ts,ibin .eql 72 (some (.slice 9)) true (.vals 1 (t::ts)) .nils=some (.bool false):=fun t ts=>(rfl)
  have h0:(l'.length+1=0)=False:=by simp
  have h1:(l'.length+1)*16≤140737488355328∧l'.length+1≤9223372036854775807:=by simp at hn ⊢;omega
  simp only[q25,qaf,↓axP,axQ,seval,qaa,qab,e,List.length_cons,h0,h1]
  refine Ans.some (Fz.ofSlc (by simp only[↓axP,axQ,seval,qaa,qab];rfl) (by simp) hr ?_)
  exact FzL.pure (qcx hp)
 ·cases h
noncomputable def qre:List AV→Option AV
 |[.vals 4 rows]=>only (rows≠[]∧rows.length≤1000000∧(∀r∈rows,r.length=4)∧qd4 rows=true) (some (.vals 4 rows))
 |_=>none
theorem qwq:HookOne Tryz.prog 91 (qae qre):=by
 refine HookOne.ofPureF (by decide +kernel) fun args y h H=>?_
 unfold qre at h;split at h
 ·rename_i rows
  obtain⟨⟨hl,hn,hr,hp⟩,h3⟩:=qau h
  cases h3
  refine ACalls.ofRun (l:=[]) (by simp) mixed (draws _ rfl) qz7 rfl (by simp[qa2,qba,hp]) 0 ?_ H
  obtain⟨t,l',rfl⟩:=List.exists_cons_of_ne_nil hl
  have e:∀t ts,ibin .eql 101 (some (.slice 76)) true (.vals 4 (t::ts)) .nils=some (.bool false):=fun t ts=>(rfl)
  have h0:(l'.length+1=0)=False:=by simp
  have h1:(l'.length+1)*40≤140737488355328∧l'.length+1≤9223372036854775807:=by simp at hn ⊢;omega
  simp only[q26,qaf,↓axP,axQ,seval,qaa,qab,e,List.length_cons,h0,h1]
  refine Ans.some (Fz.ofSlc (by simp only[↓axP,axQ,seval,qaa,qab];rfl) (by simp) hr ?_)
  exact FzL.pure (qcx hp)
 ·cases h
noncomputable def qor:List AV→Option AV
 |[x]=>(q0p x).bind fun s=>only (s.1≠[]∧s.1.length≤1000000) (some (.vals 1 (s.1.map fun s=>[.str s])))
 |_=>none
theorem q49{ns:List (List UInt8)}(ps:List Pr)(h:ns≠[]∧ns.length≤1000000):qor [qcd ns ps]=some (.vals 1 (ns.map fun s=>[.str s])):=by
 simp only[qor,qlo,Option.bind_some];exact qa0 h _
noncomputable def qs3:List AV→Option AV
 |[x]=>(q0p x).bind fun s=>only (s.2≠[]∧s.2.length≤1000000) (some (.vals 4 (s.2.map prC)))
 |_=>none
theorem q4q(ns:List (List UInt8)){ps:List Pr}(h:ps≠[]∧ps.length≤1000000):qs3 [qcd ns ps]=some (.vals 4 (ps.map prC)):=by
 simp only[qs3,qlo,Option.bind_some];exact qa0 h _
theorem q48:HookOne Tryz.prog 38 (qae qor):=by
 refine HookOne.ofPureF (by decide +kernel) fun args y h H=>?_
 have hl:∀e∈[(77,qae qrd)],HookOne Tryz.prog e.1 e.2:=by
  intro e he;simp at he;subst he;exact qwp
 unfold qor at h;split at h
 ·rename_i x
  rw[Option.bind_eq_some_iff] at h
  obtain⟨⟨ns,ps⟩,h1,h2⟩:=h
  obtain⟨⟨hne,hlen⟩,h3⟩:=qau h2
  cases h3
  obtain rfl:=qdi h1
  simp only at hne hlen ⊢
  refine ACalls.ofRun hl mixed (draws _ rfl) qz0 rfl (by simp[qa2,qdf]) 0 ?_ H
  have hc:qrd [.vals 1 (ns.map fun s=>[.str s])]=some (.vals 1 (ns.map fun s=>[.str s])):=qa0 ⟨by simpa using hne,by simpa using hlen,by simp,qhg ns⟩ _
  unfold qcd
  simp (maxSteps:=1000000) (disch:=omega) only[q11,qaf,↓axP,axQ,seval,qaa,qab,tX,hc]
  exact Ans.some (.pure (by simp[qba,qhg]))
 ·cases h
theorem q4p:HookOne Tryz.prog 41 (qae qs3):=by
 refine HookOne.ofPureF (by decide +kernel) fun args y h H=>?_
 have hl:∀e∈[(91,qae qre)],HookOne Tryz.prog e.1 e.2:=by
  intro e he;simp at he;subst he;exact qwq
 unfold qs3 at h;split at h
 ·rename_i x
  rw[Option.bind_eq_some_iff] at h
  obtain⟨⟨ns,ps⟩,h1,h2⟩:=h
  obtain⟨⟨hne,hlen⟩,h3⟩:=qau h2
  cases h3
  obtain rfl:=qdi h1
  simp only at hne hlen ⊢
  refine ACalls.ofRun hl mixed (draws _ rfl) ySAll_ok rfl (by simp[qa2,qdf]) 0 ?_ H
  have hc:qre [.vals 4 (ps.map prC)]=some (.vals 4 (ps.map prC)):=qa0 ⟨by simpa using hne,by simpa using hlen,by simp[prC],qhf ps⟩ _
  unfold qcd
  simp (maxSteps:=1000000) (disch:=omega) only[ySAll,qaf,↓axP,axQ,seval,qaa,qab,tX,hc]
  exact Ans.some (.pure (by simp[qba,qhf]))
 ·cases h
end
section
open Go Go.Abs Go.RowKit
attribute [local congr] qai qaj qag
attribute [local congr] qal
structure St where
 ns:List (List UInt8)
 ps:List Pr
 q:Int
 la:Int
 g1:Nat
 g2:Nat
 mc:Nat
 m:List (Nat×(List UInt8×Int)×List Cl)
 nc:Nat
 n:List (Nat×Int×Int)
def kM(k:List UInt8×Int):AV:=.agg [.str k.1,.int .i64 k.2]
def kN(k:Int):AV:=.int .u64 k
def vN(v:Int):AV:=.int .i64 v
def qj0(s:St):List AV:=[qcd s.ns s.ps,.int .i64 s.q,.int .i64 s.la,.mapp s.g1,.mapp s.g2]
theorem qkr(a b:List UInt8×Int):mcmp (kM a) (kM b)=some (decide (a=b)):=by
 obtain⟨a1,a2⟩:=a;obtain⟨b1,b2⟩:=b
 by_cases h:a1=b1
 ·subst h
  simp[kM,mcmp]
 ·simp[kM,mcmp,h]
theorem q5t(a b:Int):mcmp (kN a) (kN b)=some (decide (a=b)):=qkq _ _ _
theorem kM_inj(a b:List UInt8×Int)(h:kM a=kM b):a=b:=by
 obtain⟨a1,a2⟩:=a;obtain⟨b1,b2⟩:=b
 simpa[kM] using h
theorem kN_inj(a b:Int)(h:kN a=kN b):a=b:=by simpa[kN] using h
theorem vN_inj(a b:Int)(h:vN a=vN b):a=b:=by simpa[vN] using h
structure StAt(H:AH)(g:Nat)(s:St):Prop where
 ne:s.g1≠s.g2
 cell:H.gs.get g=some ⟨0,0,qj0 s⟩
 m1:H.ms.get s.g1=some (s.mc,qcb kM qcf s.m)
 m2:H.ms.get s.g2=some (s.nc,qcb kN vN s.n)
theorem StAt.inj{H:AH}{g:Nat}{s s':St}(a:StAt H g s)(b:StAt H g s'):s=s':=by
 have h0:=a.cell.symm.trans b.cell
 obtain⟨ns,ps,q,la,g1,g2,mc,m,nc,n⟩:=s
 obtain⟨ns',ps',q',la',g1',g2',mc',m',nc',n'⟩:=s'
 simp only[qj0,Option.some.injEq,Grp.mk.injEq,true_and,List.cons.injEq,AV.int.injEq,AV.mapp.injEq,and_true] at h0
 obtain⟨h1,rfl,rfl,rfl,rfl⟩:=h0
 have h2:(ns,ps)=(ns',ps'):=qxu (x:=(ns,ps)) (y:=(ns',ps')) h1
 cases h2
 have e1:=a.m1.symm.trans b.m1
 have e2:=a.m2.symm.trans b.m2
 simp only[Option.some.injEq,Prod.mk.injEq] at e1 e2
 obtain⟨rfl,e1⟩:=e1
 obtain⟨rfl,e2⟩:=e2
 cases qq4 kM_inj (fun a b=>qjf) e1
 cases qq4 kN_inj vN_inj e2
 rfl
theorem StAt.ext{X:Nat→Option Grp}{H H2:AH}{g:Nat}{s:St}(a:StAt H g s)(he:Ext X H H2)(ha:Apart X H):StAt H2 g s:=
 ⟨a.ne,he.get ha a.cell,by rw[he.ms];exact a.m1,by rw[he.ms];exact a.m2⟩
theorem StAt.move{H H2:AH}{g:Nat}{s:St}(a:StAt H g s)(h1:H2.gs.get g=H.gs.get g)(h2:H2.ms=H.ms):StAt H2 g s:=
 ⟨a.ne,by rw[h1];exact a.cell,by rw[h2];exact a.m1,by rw[h2];exact a.m2⟩
structure OkSt(s:St):Prop where
 ns:s.ns=[[97],[98]]
 ps:s.ps≠[]∧s.ps.length≤1000
 la:0≤s.la∧s.la≤1000000
 m:∀e∈s.m,(e.2.2.length:Int)≤s.la∧∀c∈e.2.2,q1s c
 n:∀e∈s.n,0≤e.2.2∧e.2.2≤s.la
def qbb(s:St)(nm:List UInt8)(ar:Int):List Cl:=(qbz (nm,ar) s.m).getD []
def qav(s:St)(l:Int):Int:=(qbz l s.n).getD 0
theorem OkSt.cls{s:St}(h:OkSt s)(nm:List UInt8)(ar:Int):((qbb s nm ar).length:Int)≤s.la∧∀c∈qbb s nm ar,q1s c:=by
 unfold qbb
 cases hl:qbz (nm,ar) s.m with
 |none=>exact⟨by simpa using h.la.1,by simp⟩
 |some v=>
  obtain⟨e,h1,h2,h3⟩:=qhh hl
  subst h3
  exact h.m e h1
theorem OkSt.cnt{s:St}(h:OkSt s)(l:Int):0≤qav s l∧qav s l≤s.la:=by
 unfold qav
 cases hl:qbz l s.n with
 |none=>exact⟨Int.le_refl _,h.la.1⟩
 |some v=>
  obtain⟨e,h1,h2,h3⟩:=qhh hl
  subst h3
  exact h.n e h1
theorem qf1(a:List UInt8)(n:Int):mkey (.pair .str (.int .i64)) (.agg [.str a,.int .i64 n])=true:=by simp[mkey]
theorem get_N{s:St}{nx:Nat}{gs:Tr Grp}{ms:Tr qbm}(h:ms.get s.g2=some (s.nc,qcb kN vN s.n))(l:Int):mop (.get (.int .u64) (.int .i64 0) false) [.mapp s.g2,.int .u64 l] ⟨nx,gs,ms⟩=some (.int .i64 (qav s l),⟨nx,gs,ms⟩):=by
 obtain⟨b,hb⟩:=q6t q5t (vE:=vN) l s.n
 have hb':mfind (.int .u64 l) (qcb kN vN s.n)=_:=hb
 rw[qqo,qyp]
 simp only[decide_true,if_true,h,qa8,hb']
 unfold qav
 cases qbz l s.n with
 |none=>rfl
 |some v=>rfl
theorem get_M{s:St}{nx:Nat}{gs:Tr Grp}{ms:Tr qbm}(h:ms.get s.g1=some (s.mc,qcb kM qcf s.m))(nm:List UInt8)(ar:Int):mop (.get (.pair .str (.int .i64)) .nils false) [.mapp s.g1,.agg [.str nm,.int .i64 ar]] ⟨nx,gs,ms⟩=some (match qbz (nm,ar) s.m with|some v=>qcf v|none=>.nils,⟨nx,gs,ms⟩):=by
 obtain⟨b,hb⟩:=q6t qkr (vE:=qcf) (nm,ar) s.m
 have hb':mfind (.agg [.str nm,.int .i64 ar]) (qcb kM qcf s.m)=_:=hb
 rw[qqo,qf1]
 simp only[if_true,h,qa8,hb']
 cases qbz (nm,ar) s.m with
 |none=>rfl
 |some v=>rfl
def q7j(args:List AV)(H:AH)(y:AV):Prop:=∃g s l,args=[.ptr g 0 0,.int .u64 l]∧StAt H g s∧y=.int .i64 (qav s l)
theorem q1g(a:List AV)(H:AH)(y y2:AV)(h:q7j a H y)(k:q7j a H y2):y=y2:=by
 obtain⟨g,s,l,rfl,h1,rfl⟩:=h
 obtain⟨g',s',l',e,k1,rfl⟩:=k
 simp only[List.cons.injEq,AV.ptr.injEq,AV.int.injEq,true_and,and_true] at e
 obtain⟨rfl,rfl⟩:=e
 cases h1.inj k1
 rfl
theorem count_one:HookOne Tryz.prog 16 (qeh (qe3 q7j)):=by
 refine HookOne.ofReadR (by decide +kernel) q1g (fun args H y h=>?_) fun args H y X H2 h he ha=>?_
 ·obtain⟨g,s,l,rfl,h1,rfl⟩:=h
  refine ACalls.onRun (l:=[]) (by simp) mixed (draws _ rfl) q23 rfl 0 fun N hN hcl=>?_
  obtain⟨nx0,gs,ms⟩:=H
  obtain⟨-,h2,-,h4⟩:=h1
  simp only at h2 h4
  unfold qj0 at h2
  have hg:=fun nx gs=>get_N (s:=s) (nx:=nx) (gs:=gs) h4 l
  simp (maxSteps:=1000000) (disch:=omega) only[yCount,qak,↓axP,axQ,seval,qaa,qab,tX,h2,hg]
  exact Comes.some (Canon.pure hcl (fun g r h=>h) (fun g r h=>h) rfl)
 ·obtain⟨g,s,l,rfl,h1,rfl⟩:=h
  exact⟨g,s,l,rfl,h1.ext he ha,rfl⟩
def qec(s:St)(nm:List UInt8)(ar cl:Int):List Cl:=(qbb s nm ar).filter fun c=>qhi c.lab cl
def qve(args:List AV)(H:AH)(y:AV):Prop:=∃g s nm ar cl,args=[.ptr g 0 0,.str nm,.int .i64 ar,.int .u64 cl]∧StAt H g s∧OkSt s∧y=qcf (qec s nm ar cl)
theorem qml(a:List AV)(H:AH)(y y2:AV)(h:qve a H y)(k:qve a H y2):y=y2:=by
 obtain⟨g,s,nm,ar,l,rfl,h1,h2,rfl⟩:=h
 obtain⟨g',s',nm',ar',l',e,k1,k2,rfl⟩:=k
 simp only[List.cons.injEq,AV.ptr.injEq,AV.int.injEq,AV.str.injEq,true_and,and_true] at e
 obtain⟨rfl,rfl,rfl,rfl⟩:=e
 cases h1.inj k1
 rfl
noncomputable abbrev lsVw:List (FuncId×(List AV→AH→Option (AV×AH))):=[(15,qae leqS),(62,qae q0o)]
theorem lsVw_ok:∀e∈lsVw,HookOne Tryz.prog e.1 e.2:=by
 intro e he
 simp only[lsVw,List.mem_cons,List.not_mem_nil,or_false] at he
 rcases he with rfl|rfl
 ·exact q5p
 ·exact ownC_one
def VwJ(B:Nat)(gs0:Tr Grp)(ms0:Tr qbm)(H:AH)(o:AV)(l:List Cl):Prop:=
 H.wf∧B≤H.next∧Ows H o 10 (l.map clC).flatten l.length∧OB B o∧(∀g,g<B→H.gs.get g=gs0.get g)∧H.ms=ms0
set_option maxHeartbeats 1000000 in
theorem vw_loop(F0:Nat)(B:Nat)(cl:Int)(gs0:Tr Grp)(ms0:Tr qbm)(ls:List Cl)(hlen:ls.length≤1000000)(hok:∀c∈ls,q1s c):∀(l2 l1:List Cl) (o:AV) (H:AH) (F:Nat),ls=l1++l2→VwJ B gs0 ms0 H o (l1.filter fun c=>qhi c.lab cl)→l2.length<F →
  ∃o' H',iter (ycode (tcall lsVw) F0 q1x) F (mk [(3,.int .u64 cl),(9,o),(19,.vals 10 (ls.map clC)),(20,.int .i64 ls.length),(21,.int .i64 l1.length)]) H=some (.exit 0,mk [(9,o')],H')∧VwJ B gs0 ms0 H' o' (ls.filter fun c=>qhi c.lab cl):=by
 intro l2
 induction l2 with
 |nil=>
  intro l1 o H F h1 h2 h4
  obtain⟨k,rfl⟩:=qam (f:=fun _ _=>none) (n:=F) (by omega)
  rw[List.append_nil] at h1
  subst h1
  have hlt:((ls.length:Int)<(ls.length:Int))=False:=by simp
  refine⟨o,H,?_,h2⟩
  rw[qad]
  simp (maxSteps:=1000000) (disch:=omega) only[qk8,qjp,↓axP,axQ,seval,qaa,qab,tX,hlt]
 |cons c l2 ih=>
  intro l1 o H F h1 h2 h4
  obtain⟨k,rfl⟩:=qam (f:=fun _ _=>none) (n:=F) (by omega)
  have hR:l1.length+1≤1000000:=by rw[h1] at hlen;simp at hlen;omega
  have hlt:((l1.length:Int)<(ls.length:Int))=True:=eq_true (by rw[h1];simp;omega)
  have hget:(ls.map clC)[l1.length]? = some (.int .i64 c.id::.int .u64 c.lab::(tmC c.hd++tmC c.bd)):=by rw[h1];simp[clC]
  have hi:(0:Int)≤(l1.length:Int):=by omega
  have hw:IntKind.i64.wrap ((l1.length:Int)+1)=(l1.length:Int)+1:=by rw[wrap_i64]<;>omega
  have hc:=hok c (by rw[h1];simp)
  have hown:q0o [.agg (.int .i64 c.id::.int .u64 c.lab::(tmC c.hd++tmC c.bd))]=some (.agg (.int .i64 c.id::.int .u64 c.lab::(tmC c.hd++tmC c.bd))):=ownCS_eq hc
  obtain⟨w1,w2,w3,w4,w5,w6⟩:=h2
  obtain⟨nx,gs,ms⟩:=H
  simp only at w2 w5 w6
  subst w6
  have e0:=qmj w1
  have hs:(l1++[c]).length=l1.length+1:=by simp
  cases hq:qhi c.lab cl with
  |false=>
   have hf:((l1++[c]).filter fun c=>qhi c.lab cl)=l1.filter fun c=>qhi c.lab cl:=by simp[List.filter_append,hq]
   have wfA:AH.wf ⟨nx+1,gs.set nx ⟨0,0,clC c⟩,ms⟩:=fun g hg=>by
    have:nx+1≤g:=hg
    show (gs.set nx _).get g=none
    rw[Tr.get_set_ne _ _ (by omega)];exact w1 g (by show nx≤g;omega)
   have owA:Ows ⟨nx+1,gs.set nx ⟨0,0,clC c⟩,ms⟩ o 10 ((l1.filter fun c=>qhi c.lab cl).map clC).flatten (l1.filter fun c=>qhi c.lab cl).length:=w3.keep (by simp) fun g hg=>by
    have:g<nx:=hg
    show (gs.set nx _).get g=_
    rw[Tr.get_set_ne _ _ (by omega)]
   obtain⟨o',H',k1,k2⟩:=ih (l1++[c]) o ⟨nx+1,gs.set nx ⟨0,0,.int .i64 c.id::.int .u64 c.lab::(tmC c.hd++tmC c.bd)⟩,ms⟩ k (by simp[h1])
    (by rw[hf];exact⟨wfA,by show B≤nx+1;omega,owA,w4,fun g hg=>by show (gs.set nx _).get g=_;rw[Tr.get_set_ne _ _ (by omega)];exact w5 g hg,rfl⟩) (by simp at h4;omega)
   refine⟨o',H',?_,k2⟩
   rw[hs] at k1
   rw[qad]
   simp (maxSteps:=1000000) (disch:=omega) only[↓axP,axQ,seval,qaa,qab] at k1
   simp (maxSteps:=1000000) (disch:=omega) only[qk8,qjp,↓axP,axQ,seval,qaa,qab,tX,hlt,hi,hget,hw,Int.toNat_natCast,e0,qv1,hq,k1]
  |true=>
   have hf:((l1++[c]).filter fun c=>qhi c.lab cl)=(l1.filter fun c=>qhi c.lab cl)++[c]:=by simp[List.filter_append,hq]
   have hfl:(l1.filter fun c=>qhi c.lab cl).length≤l1.length:=List.length_filter_le _ _
   have e1:gs.get (nx+1)=none:=w1 (nx+1) (Nat.le_succ nx)
   have q1:(nx+1=nx)=False:=by simp
   have wfA:AH.wf ⟨nx+2,(gs.set nx ⟨0,0,clC c⟩).set (nx+1) ⟨0,0,clC c⟩,ms⟩:=fun g hg=>by
    have:nx+2≤g:=hg
    show ((gs.set nx _).set (nx+1) _).get g=none
    rw[Tr.get_set_ne _ _ (by omega),Tr.get_set_ne _ _ (by omega)];exact w1 g (by show nx≤g;omega)
   have owA:Ows ⟨nx+2,(gs.set nx ⟨0,0,clC c⟩).set (nx+1) ⟨0,0,clC c⟩,ms⟩ o 10 ((l1.filter fun c=>qhi c.lab cl).map clC).flatten (l1.filter fun c=>qhi c.lab cl).length:=w3.keep (by simp) fun g hg=>by
    have:g<nx:=hg
    show ((gs.set nx _).set (nx+1) _).get g=_
    rw[Tr.get_set_ne _ _ (by omega),Tr.get_set_ne _ _ (by omega)]
   obtain⟨v',H',p1,p2,p3,p4,p5,p6⟩:=qe5 (x:=.slc (nx+1) 0 0 1 10) (z:=10) (b:=128) (m:=1) (xs:=clC c) owA wfA (by simp only[clC,↓axP,axQ,seval,qaa,qab,tX]) (qbh c) (by omega) (by omega) (by omega)
   have pp:iapp 10 128 o (.slc (nx+1) 0 0 1 10) ⟨nx+2,(gs.set nx ⟨0,0,.int .i64 c.id::.int .u64 c.lab::(tmC c.hd++tmC c.bd)⟩).set (nx+1) ⟨0,0,.int .i64 c.id::.int .u64 c.lab::(tmC c.hd++tmC c.bd)⟩,ms⟩=some (v',H'):=p1
   have hcat:((l1.filter fun c=>qhi c.lab cl).map clC).flatten++clC c=(((l1++[c]).filter fun c=>qhi c.lab cl).map clC).flatten:=by rw[hf];simp
   have hln:(l1.filter fun c=>qhi c.lab cl).length+1=((l1++[c]).filter fun c=>qhi c.lab cl).length:=by rw[hf];simp
   rw[hcat,hln] at p2
   obtain⟨o',H2,k1,k2⟩:=ih (l1++[c]) v' H' k (by simp[h1])
    ⟨p3,Nat.le_trans (by show B ≤ nx + 2; omega) p4.1,p2,p6 B (by show B ≤ nx + 2; omega) w4,fun g hg=>by
     rw[p4.get w4 hg (by show g<nx+2;omega)]
     show ((gs.set nx _).set (nx+1) _).get g=_
     rw [Tr.get_set_ne _ _ (by omega),Tr.get_set_ne _ _ (by omega)]; exact w5 g hg,p5⟩ (by simp at h4; omega)
   refine⟨o',H2,?_,k2⟩
   rw[hs] at k1
   rw[qad]
   simp (maxSteps:=1000000) (disch:=omega) only[↓axP,axQ,seval,qaa,qab] at k1
   simp (maxSteps:=1000000) (disch:=omega) only[qk8,qjp,↓axP,axQ,seval,qaa,qab,tX,hlt,hi,hget,hw,Int.toNat_natCast,e0,e1,q1,qv1,hq,hown,pp,p2.fit,p2.cell,k1,Nat.add_assoc]
theorem VwJ.fzr{B:Nat}{H H':AH}{o:AV}{l:List Cl}(hN:∀g,B≤g→H.gs.get g=none)(h:VwJ B H.gs H.ms H' o l):FzR H' (kpR H H' H id) (kmR H id) (qes H id) o (qcf l):=by
 obtain⟨w1,w2,w3,w4,w5,w6⟩:=h
 exact Ows.fzr w3 w4 hN (by simp) (fun row hr=>by simp only[List.mem_map] at hr;obtain⟨c,-,rfl⟩:=hr;exact qbh c) rfl (qcx (qfq l))
theorem VwJ.canon{B:Nat}{H H':AH}{o:AV}{l:List Cl}(hN:∀n,B≤n→H.gs.get n=none∧H.ms.get n=none)(hc:ClosedH H)(h:VwJ B H.gs H.ms H' o l):Canon H H' o H (qcf l) id id:=by
 refine Canon.same hc (fun g r hg=>?_) (fun g r hg=>?_) (h.fzr fun g hg=>(hN g hg).1)
 ·obtain⟨w1,w2,w3,w4,w5,w6⟩:=h
  rcases Nat.lt_or_ge g B with q|q
  ·rw[w5 g q];exact hg
  ·rw[(hN g q).1] at hg;cases hg
 ·rw[h.2.2.2.2.2];exact hg
set_option maxHeartbeats 1000000 in
theorem qxl:HookOne Tryz.prog 26 (qeh (qe3 qve)):=by
 refine HookOne.ofReadR (by decide +kernel) qml (fun args H y h=>?_) fun args H y X H2 h he ha=>?_
 ·obtain⟨g,s,nm,ar,cl,rfl,h1,hok,rfl⟩:=h
  have hcls:=hok.cls nm ar
  refine ACalls.onRun lsVw_ok mixed (draws _ rfl) yView_ok rfl ((qbb s nm ar).length+1) fun N hN hcl=>?_
  obtain⟨nx0,gs,ms⟩:=H
  obtain⟨-,h2,h3,-⟩:=h1
  simp only at h2 h3 hN
  unfold qj0 at h2
  have hg:=fun nx gs=>get_M (s:=s) (nx:=nx) (gs:=gs) h3 nm ar
  have hJ0:VwJ N gs ms ⟨N,gs,ms⟩ .nils []:=⟨fun g hg=>(hN g hg).1,Nat.le_refl _,qe4 _ _,qi1 _,fun _ _=>rfl,rfl⟩
  cases hlk:qbz (nm,ar) s.m with
  |none=>
   have hv:qec s nm ar cl=[]:=by simp[qec,qbb,hlk]
   rw[hv]
   simp only[hlk] at hg
   have hl0:(qbb s nm ar).length=0:=by simp[qbb,hlk]
   rw[hl0]
   simp (maxSteps:=1000000) (disch:=omega) only[yView,qb1,↓axP,axQ,seval,qaa,qab,tX,h2,hg,qad,qk8,qjp]
   exact Comes.some (VwJ.canon (H:=⟨nx0,gs,ms⟩) hN hcl hJ0)
  |some v=>
   have hv:qbb s nm ar=v:=by simp[qbb,hlk]
   unfold qec
   rw[hv] at hcls ⊢
   simp only[hlk] at hg
   unfold qcf at hg
   have hla:=hok.la
   obtain⟨o',H',k1,k2⟩:=vw_loop (v.length+1) N cl gs ms v (by omega) hcls.2 v [] .nils ⟨N,gs,ms⟩ (v.length+1) rfl hJ0 (by omega)
   have hml:((v.map clC).length)=v.length:=by simp
   simp (maxSteps:=1000000) (disch:=omega) only[↓axP,axQ,seval,qaa,qab] at k1
   simp (maxSteps:=1000000) (disch:=omega) only[yView,qb1,↓axP,axQ,seval,qaa,qab,tX,h2,hg,hml,k1]
   exact Comes.some (VwJ.canon (H:=⟨nx0,gs,ms⟩) hN hcl k2)
 ·obtain⟨g,s,nm,ar,cl,rfl,h1,hok,rfl⟩:=h
  exact⟨g,s,nm,ar,cl,rfl,h1.ext he ha,hok,rfl⟩
end
section
open Go Go.Abs Go.RowKit
attribute [local congr] qai qaj qag
attribute [local congr] qal
def qdp(s:St)(cl:Int)(ps:List Pr):List Cl:=ps.flatMap fun p=>qec s p.nm p.ar cl
def q5o(args:List AV)(H:AH)(y:AV):Prop:=∃g s cl,args=[.ptr g 0 0,.int .u64 cl]∧StAt H g s∧OkSt s∧y=qcf (qdp s cl s.ps)
theorem qtg(a:List AV)(H:AH)(y y2:AV)(h:q5o a H y)(k:q5o a H y2):y=y2:=by
 obtain⟨g,s,l,rfl,h1,h2,rfl⟩:=h
 obtain⟨g',s',l',e,k1,k2,rfl⟩:=k
 simp only[List.cons.injEq,AV.ptr.injEq,AV.int.injEq,AV.str.injEq,true_and,and_true] at e
 obtain⟨rfl,rfl⟩:=e
 cases h1.inj k1
 rfl
theorem qyf{H:AH}{o:AV}{z b n:Nat}{cs:List AV}(h:Ows H o z cs n):iapp z b o (.vals z []) H=some (o,H):=by
 obtain⟨-,h⟩:=h
 rcases h with⟨rfl,-⟩|⟨g,e,rfl,-,-⟩
 ·simp[iapp,qan,qej]
 ·simp[iapp,qan,qej]
theorem qxm{s:St}(h:OkSt s)(nm:List UInt8)(ar cl:Int):(qec s nm ar cl).length≤1000000:=by
 have h1:=(h.cls nm ar).1
 have h2:=h.la
 have:(qec s nm ar cl).length≤(qbb s nm ar).length:=List.length_filter_le _ _
 omega
theorem qys{s:St}(h:OkSt s)(cl:Int):∀ps:List Pr,(qdp s cl ps).length≤ps.length*1000000
 |[]=>by simp[qdp]
 |p::ps=>by
  have h1:=qxm h p.nm p.ar cl
  have h2:=qys h cl ps
  have:qdp s cl (p::ps)=qec s p.nm p.ar cl++qdp s cl ps:=by simp[qdp]
  rw[this,List.length_append,List.length_cons]
  omega
noncomputable abbrev lsLi:List (FuncId×(List AV→AH→Option (AV×AH))):=[(41,qae qs3),(26,qeh (qe3 qve))]
theorem lsLi_ok:∀e∈lsLi,HookOne Tryz.prog e.1 e.2:=by
 intro e he
 simp only[lsLi,List.mem_cons,List.not_mem_nil,or_false] at he
 rcases he with rfl|rfl
 ·exact q4p
 ·exact qxl
set_option maxHeartbeats 1000000 in
theorem li_loop(F0:Nat)(B g:Nat)(cl:Int)(s:St)(gs0:Tr Grp)(ms0:Tr qbm)(nx0:Nat)(hs:StAt ⟨nx0,gs0,ms0⟩ g s)(hg:g<B)(hok:OkSt s):∀(l2 l1:List Pr) (o:AV) (H:AH) (F:Nat),s.ps=l1++l2→VwJ B gs0 ms0 H o (qdp s cl l1)→l2.length<F →
  ∃o' H',iter (ycode (tcall lsLi) F0 q2x) F (mk [(0,.ptr g 0 0),(1,.int .u64 cl),(5,o),(12,.vals 4 (s.ps.map prC)),(13,.int .i64 s.ps.length),(14,.int .i64 l1.length)]) H=some (.exit 0,mk [(5,o')],H')∧VwJ B gs0 ms0 H' o' (qdp s cl s.ps):=by
 intro l2
 induction l2 with
 |nil=>
  intro l1 o H F h1 h2 h4
  obtain⟨k,rfl⟩:=qam (f:=fun _ _=>none) (n:=F) (by omega)
  rw[List.append_nil] at h1
  rw[←h1] at h2 ⊢
  have hlt:((s.ps.length:Int)<(s.ps.length:Int))=False:=by simp
  refine⟨o,H,?_,h2⟩
  rw[qad]
  simp (maxSteps:=1000000) (disch:=omega) only[qpv,qmc,↓axP,axQ,seval,qaa,qab,tX,hlt]
 |cons p l2 ih=>
  intro l1 o H F h1 h2 h4
  obtain⟨k,rfl⟩:=qam (f:=fun _ _=>none) (n:=F) (by omega)
  have hlen:=hok.ps.2
  have hR:l1.length+1≤1000:=by rw[h1] at hlen;simp at hlen;omega
  have hlt:((l1.length:Int)<(s.ps.length:Int))=True:=eq_true (by rw[h1];simp;omega)
  have hget:(s.ps.map prC)[l1.length]? = some [.str p.nm,.int .i64 p.ar,.int .u64 p.ce,.bool p.dy]:=by rw[h1];simp[prC]
  have hi:(0:Int)≤(l1.length:Int):=by omega
  have hw:IntKind.i64.wrap ((l1.length:Int)+1)=(l1.length:Int)+1:=by rw[wrap_i64]<;>omega
  obtain⟨w1,w2,w3,w4,w5,w6⟩:=h2
  obtain⟨nx,gs,ms⟩:=H
  simp only at w2 w5 w6
  subst w6
  have e0:=qmj w1
  have hsn:(l1++[p]).length=l1.length+1:=by simp
  have hcat:qdp s cl (l1++[p])=qdp s cl l1++qec s p.nm p.ar cl:=by simp[qdp]
  have wfA:AH.wf ⟨nx+1,gs.set nx ⟨0,0,[.str p.nm,.int .i64 p.ar,.int .u64 p.ce,.bool p.dy]⟩,ms⟩:=fun g hg=>by
   have:nx+1≤g:=hg
   show (gs.set nx _).get g=none
   rw[Tr.get_set_ne _ _ (by omega)];exact w1 g (by show nx≤g;omega)
  have gA:∀g,g<B→(gs.set nx ⟨0,0,[.str p.nm,.int .i64 p.ar,.int .u64 p.ce,.bool p.dy]⟩).get g=gs0.get g:=fun g hg=>by rw[Tr.get_set_ne _ _ (by omega)];exact w5 g hg
  have owA:Ows ⟨nx+1,gs.set nx ⟨0,0,[.str p.nm,.int .i64 p.ar,.int .u64 p.ce,.bool p.dy]⟩,ms⟩ o 10 ((qdp s cl l1).map clC).flatten (qdp s cl l1).length:=w3.keep (by simp) fun g hg=>by
   have:g<nx:=hg
   show (gs.set nx _).get g=_
   rw[Tr.get_set_ne _ _ (by omega)]
  have hview:qeh (qe3 qve) [.ptr g 0 0,.str p.nm,.int .i64 p.ar,.int .u64 cl] ⟨nx+1,gs.set nx ⟨0,0,[.str p.nm,.int .i64 p.ar,.int .u64 p.ce,.bool p.dy]⟩,ms⟩=some (.vals 10 ((qec s p.nm p.ar cl).map clC),⟨nx+1,gs.set nx ⟨0,0,[.str p.nm,.int .i64 p.ar,.int .u64 p.ce,.bool p.dy]⟩,ms⟩):=
   qhe qml ⟨g,s,p.nm,p.ar,cl,rfl,hs.move (gA g hg) rfl,hok,rfl⟩
  cases hvw:qec s p.nm p.ar cl with
  |nil=>
   rw[hvw,List.append_nil] at hcat
   rw[hvw,List.map_nil] at hview
   have pp:=qyf (b:=128) owA
   obtain⟨o',H2,k1,k2⟩:=ih (l1++[p]) o ⟨nx+1,gs.set nx ⟨0,0,[.str p.nm,.int .i64 p.ar,.int .u64 p.ce,.bool p.dy]⟩,ms⟩ k (by simp[h1])
    (by rw[hcat];exact⟨wfA,by show B≤nx+1;omega,owA,w4,gA,rfl⟩) (by simp at h4;omega)
   refine⟨o',H2,?_,k2⟩
   rw[hsn] at k1
   rw[qad]
   simp (maxSteps:=1000000) (disch:=omega) only[↓axP,axQ,seval,qaa,qab] at k1
   simp (maxSteps:=1000000) (disch:=omega) only[qpv,qmc,↓axP,axQ,seval,qaa,qab,tX,hlt,hi,hget,hw,Int.toNat_natCast,e0,hview,pp,k1]
  |cons c vs=>
   have hvl:=qxm hok p.nm p.ar cl
   have hll:=qys hok cl l1
   obtain⟨v',H',p1,p2,p3,p4,p5,p6⟩:=qe5 (x:=.vals 10 ((qec s p.nm p.ar cl).map clC)) (z:=10) (b:=128) (m:=(qec s p.nm p.ar cl).length) (xs:=((qec s p.nm p.ar cl).map clC).flatten) owA wfA (by simp only[↓axP,axQ,seval,qaa,qab,tX,List.length_map]) (by rw[qat (z:=10) (by intro r hr;simp only[List.mem_map] at hr;obtain⟨c,-,rfl⟩:=hr;exact qbh c),List.length_map]) (by rw[hvw];simp) (by omega) (by omega)
   have hfl:((qdp s cl l1).map clC).flatten++((qec s p.nm p.ar cl).map clC).flatten=((qdp s cl (l1++[p])).map clC).flatten:=by rw[hcat];simp
   have hln:(qdp s cl l1).length+(qec s p.nm p.ar cl).length=(qdp s cl (l1++[p])).length:=by rw[hcat];simp
   rw[hfl,hln] at p2
   rw[←hvw] at *
   obtain⟨o',H2,k1,k2⟩:=ih (l1++[p]) v' H' k (by simp[h1])
    ⟨p3,Nat.le_trans (by show B ≤ nx + 1; omega) p4.1,p2,p6 B (by show B ≤ nx + 1; omega) w4,fun g hg=>by
     rw[p4.get w4 hg (by show g<nx+1;omega)]
     exact gA g hg,p5⟩ (by simp at h4; omega)
   refine⟨o',H2,?_,k2⟩
   rw[hsn] at k1
   rw[qad]
   simp (maxSteps:=1000000) (disch:=omega) only[↓axP,axQ,seval,qaa,qab] at k1
   simp (maxSteps:=1000000) (disch:=omega) only[qpv,qmc,↓axP,axQ,seval,qaa,qab,tX,hlt,hi,hget,hw,Int.toNat_natCast,e0,hview,p1,p2.fit,p2.cell,k1]
set_option maxHeartbeats 1000000 in
theorem list_one:HookOne Tryz.prog 13 (qeh (qe3 q5o)):=by
 refine HookOne.ofReadR (by decide +kernel) qtg (fun args H y h=>?_) fun args H y X H2 h he ha=>?_
 ·obtain⟨g,s,cl,rfl,h1,hok,rfl⟩:=h
  refine ACalls.onRun lsLi_ok mixed (draws _ rfl) yList_ok rfl (s.ps.length+1) fun N hN hcl=>?_
  obtain⟨nx0,gs,ms⟩:=H
  have h1':=h1
  obtain⟨-,h2,-,-⟩:=h1
  simp only at h2 hN
  have hgN:g<N:=by
   rcases Nat.lt_or_ge g N with q|q
   ·exact q
   ·rw[(hN g q).1] at h2;cases h2
  unfold qj0 at h2
  have hJ0:VwJ N gs ms ⟨N,gs,ms⟩ .nils []:=⟨fun g hg=>(hN g hg).1,Nat.le_refl _,qe4 _ _,qi1 _,fun _ _=>rfl,rfl⟩
  have hps:=hok.ps
  have hpr:=q4q s.ns (ps:=s.ps) ⟨hps.1,by omega⟩
  obtain⟨o',H',k1,k2⟩:=li_loop (s.ps.length+1) N g cl s gs ms nx0 h1' hgN hok s.ps [] .nils ⟨N,gs,ms⟩ (s.ps.length+1) rfl hJ0 (by omega)
  have hml:(s.ps.map prC).length=s.ps.length:=by simp
  have hsv:qba (qcd s.ns s.ps)=true:=qdf _ _
  unfold qcd at h2 hpr
  simp (maxSteps:=1000000) (disch:=omega) only[↓axP,axQ,seval,qaa,qab] at k1
  simp (maxSteps:=1000000) (disch:=omega) only[yList,qak,↓axP,axQ,seval,qaa,qab,tX,h2,hpr,hml,k1]
  exact Comes.some (VwJ.canon (H:=⟨nx0,gs,ms⟩) hN hcl k2)
 ·obtain⟨g,s,cl,rfl,h1,hok,rfl⟩:=h
  exact⟨g,s,cl,rfl,h1.ext he ha,hok,rfl⟩
end
section
open Go Go.Abs Go.RowKit
theorem run0:qcp Tryz.prog (arun Tryz.prog all (qbw []) 1000 50):=qrl mixed draws (qc4 (P:=Tryz.prog) (l:=[]) (by simp)).1 (qc4 (P:=Tryz.prog) (l:=[]) (by simp)).2 50
def qm6:AV:=.vals 1 [[.str [97]],[.str [98]]]
theorem qq3{l:Int}(h:answers (qrn Tryz.prog all (qbw []) 1000 50 37 [qm6,.int .u64 l] AH.empty) (.bool true)=true)(H:AH):ACalls Tryz.prog 37 [qm6,.int .u64 l] H fun y H'=>y=.bool true∧H'=H:=by
 obtain⟨x,H1,h2,h3⟩:=q1p h
 rw[qrm] at h2
 exact ACalls.memoF 100 (run0 _ _ _ _ _ h2).2 h3 (m:=3) (ks:=[qm6,.int .u64 l]) rfl
set_option maxRecDepth 100000 in
theorem fit0:answers (qrn Tryz.prog all (qbw []) 1000 50 37 [qm6,.int .u64 0] AH.empty) (.bool true)=true:=by decide +kernel
set_option maxRecDepth 100000 in
theorem fit1:answers (qrn Tryz.prog all (qbw []) 1000 50 37 [qm6,.int .u64 1] AH.empty) (.bool true)=true:=by decide +kernel
set_option maxRecDepth 100000 in
theorem fit2:answers (qrn Tryz.prog all (qbw []) 1000 50 37 [qm6,.int .u64 2] AH.empty) (.bool true)=true:=by decide +kernel
set_option maxRecDepth 100000 in
theorem fit3:answers (qrn Tryz.prog all (qbw []) 1000 50 37 [qm6,.int .u64 3] AH.empty) (.bool true)=true:=by decide +kernel
noncomputable def fitS:List AV→Option AV
 |[.vals 1 [[.str [97]],[.str [98]]],.int .u64 l]=>if 0≤l∧l<4 then some (.bool true) else none
 |_=>none
theorem fit_eq{l:Int}(h:0≤l∧l<4):fitS [.vals 1 [[.str [97]],[.str [98]]],.int .u64 l]=some (.bool true):=if_pos h
theorem fit_one:HookOne Tryz.prog 37 (qae fitS):=by
 refine HookOne.ofPureF (by decide +kernel) fun args y h H=>?_
 unfold fitS at h;split at h
 ·rename_i l
  split at h
  ·rename_i hc
   cases h
   have:l=0∨l=1∨l=2∨l=3:=by omega
   rcases this with rfl|rfl|rfl|rfl
   ·exact qq3 fit0 H
   ·exact qq3 fit1 H
   ·exact qq3 fit2 H
   ·exact qq3 fit3 H
  ·cases h
 ·cases h
end
end Go.Proofs.YtdekdghldblfaaaGreatDoor
