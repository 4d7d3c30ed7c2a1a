import Derived.Test.YtdekdghldblfaaaGreatDoorSymHH
import Derived.Test.YtdekdghldblfaaaGreatDoorAbsV
set_option linter.unusedVariables false
set_option linter.unusedSimpArgs false
namespace Go.Proofs.YtdekdghldblfaaaGreatDoor
section
open Go Go.Abs Go.RowKit
def Vr(r:Int→Option Tm):Prop:=∀n u,r n=some u→∃i:Int,(0≤i∧i≤2147483647)∧u=q0c i
theorem own_vr:∀(l:List Int) (k:Nat),k+l.length≤1000000→Vr (rho (qev k l))
 |[],k,hk,n,u,h=>by simp[qev,rho] at h
 |a::l,k,hk,n,u,h=>by
  unfold rho qev at h
  rw[List.find?_cons] at h
  split at h
  ·simp only[Option.map_some,Option.some.injEq] at h
   subst h
   exact⟨k,by simp at hk;omega,rfl⟩
  ·exact own_vr l (k+1) (by simp at hk;omega) n u h
theorem qfd{r:Int→Option Tm}(h:Vr r)(t:Tm):(qa1 r t).kind=t.kind:=by
 by_cases k:t.kind=0
 ·rw[qmx k]
  cases hr:r t.num with
  |none=>rfl
  |some u=>
   obtain⟨i,-,rfl⟩:=h _ _ hr
   exact k.symm
 ·rw[qeg k];rfl
theorem qlm{r:Int→Option Tm}(h:Vr r)(t:Tm)(s:List UInt8)(m:Int):isP (qa1 r t) s m=isP t s m:=by
 by_cases k:t.kind=0
 ·have k':=(qfd h t).trans k
  simp[isP,k,k']
 ·rw[qeg k]
  show (decide (1<t.kind)&&(t.name==s)&&decide (((t.args.map (qa1 r)).length:Int)=m))=_
  rw[List.length_map];rfl
theorem q5g{f:Tm→Tm}:∀l:List Tm,(∀x∈l,(f x).size=x.size∧(f x).height=x.height∧(f x).allG=true)→Tm.sizes (l.map f)=Tm.sizes l∧Tm.heights (l.map f)=Tm.heights l∧Tm.allsG (l.map f)=true
 |[],_=>⟨rfl,rfl,rfl⟩
 |x::l,h=>by
  obtain⟨a,b,c⟩:=h x (List.mem_cons_self ..)
  obtain⟨a',b',c'⟩:=q5g l fun y hy=>h y (List.mem_cons_of_mem _ hy)
  simp[Tm.sizes,Tm.heights,Tm.allsG,a,b,c,a',b',c']
theorem repl_sz{r:Int→Option Tm}(h:Vr r){t:Tm}(hf:Fine 1000 t):t.allG=true→(qa1 r t).size=t.size∧(qa1 r t).height=t.height∧(qa1 r t).allG=true:=by
 induction hf with
 |mk k n s l hk hn hs hl hx ih=>
  intro hg
  rw[qfz] at hg
  simp only[Tm.kind,Tm.num,Tm.name,Tm.args,Bool.and_eq_true] at hg
  obtain⟨hg1,hg2⟩:=hg
  unfold qa1
  by_cases h0:k=0
  ·subst h0
   have hl0:l=[]:=by
    simp only[qdh,if_true,Bool.and_eq_true,decide_eq_true_eq] at hg1
    exact List.eq_nil_of_length_eq_zero hg1.2
   subst hl0
   rw[if_pos rfl]
   cases hr:r n with
   |none=>exact⟨rfl,rfl,by rw[qfz];simp[Tm.kind,Tm.num,Tm.name,Tm.args,Tm.allsG];exact hg1⟩
   |some u=>
    obtain⟨i,hi,rfl⟩:=h _ _ hr
    refine⟨rfl,rfl,?_⟩
    show (q0c i).allG=true
    simp[q0c,Tm.allG,qdh,Tm.allsG,hi]
  ·rw[if_neg h0,qiv]
   obtain⟨a,b,c⟩:=q5g l fun x hx'=>ih x hx' (que hg2 x hx')
   refine⟨?_,?_,?_⟩
   ·show Tm.sizes (l.map (qa1 r))+1=Tm.sizes l+1
    rw[a]
   ·show Tm.heights (l.map (qa1 r))+1=Tm.heights l+1
    rw[b]
   ·show (qdh k n s (l.map (qa1 r)).length&&Tm.allsG (l.map (qa1 r)))=true
    rw[c,List.length_map,hg1];rfl
theorem qss{r:Int→Option Tm}(h:Vr r){t:Tm}(hf:Fine 1000 t)(hg:t.good=true):(qa1 r t).good=true:=by
 unfold Tm.good at hg ⊢
 simp only[Bool.and_eq_true,decide_eq_true_eq] at hg ⊢
 obtain⟨a,b,c⟩:=repl_sz h hf hg.2
 exact⟨⟨by omega,by omega⟩,c⟩
theorem q37(f:Tm→List Gl×Int)(t:Tm)(ts:List Tm):(qaz f (t::ts)).2=if (f t).2=0 then (qaz f ts).2 else (f t).2:=by
 rw[qaz]
 split
 ·split
  ·rename_i h;rw[h]
  ·rfl
 ·rfl
theorem qgj(f:Tm→List Gl×Int)(k:Int)(l:List Tm):(qfe f k l).2=(qaz f l).2:=by
 unfold qfe
 split
 ·rename_i h;rw[h]
 ·rfl
theorem q39{r:Int→Option Tm}(h:Vr r):∀(n:Nat) (t:Tm),(qbe n (qa1 r t)).2=(qbe n t).2
 |0,t=>rfl
 |n+1,t=>by
  have ih:=q39 h n
  have hw:∀l:List Tm,(qaz (qbe n) (l.map (qa1 r))).2=(qaz (qbe n) l).2:=by
   intro l
   induction l with
   |nil=>rfl
   |cons x l il=>rw[List.map_cons,q37,q37,ih,il]
  have hp:=qlm h t
  have hk:=qfd h t
  unfold qbe
  rw[hk]
  simp only[hp]
  by_cases k0:t.kind=0
  ·rw[if_pos k0,if_pos k0]
  ·rw[if_neg k0,if_neg k0]
   have ha:(qa1 r t).args=t.args.map (qa1 r):=by rw[qeg k0];rfl
   by_cases k1:t.kind=1
   ·rw[if_pos k1,if_pos k1]
   ·rw[if_neg k1,if_neg k1]
    by_cases c1:isP t [116,114,117,101] 0=true
    ·rw[if_pos c1,if_pos c1]
    ·rw[if_neg c1,if_neg c1]
     by_cases c2:isP t [33] 0=true
     ·rw[if_pos c2,if_pos c2]
     ·rw[if_neg c2,if_neg c2]
      by_cases c3:isP t [44] 2=true
      ·rw[if_pos c3,if_pos c3,ha]
       exact hw _
      ·rw[if_neg c3,if_neg c3]
       by_cases c4:isP t [59] 2=true
       ·obtain⟨a,b,hab⟩:=qbu (qb9 (m:=2) c4)
        rw[ha,hab]
        simp only[List.map_cons,List.map_nil,List.getD_cons_zero,List.getD_cons_succ,qlm h a,c4,Bool.true_and,if_true]
        by_cases c5:isP a [45,62] 2=true
        ·rw[if_pos c5,if_pos c5,qgj,qgj]
         obtain⟨c,d,hcd⟩:=qbu (qb9 (m:=2) c5)
         have hak:a.kind≠0:=fun e=>by simp[isP,e] at c5
         rw[qeg hak,hcd]
         exact hw [c,d,b]
        ·rw[if_neg c5,if_neg c5,qgj,qgj]
         exact hw [a,b]
       ·have c4':isP t [59] 2=false:=by simpa using c4
        simp only[c4',Bool.false_and,Bool.false_eq_true,if_false]
        by_cases c6:isP t [45,62] 2=true
        ·obtain⟨a,b,hab⟩:=qbu (qb9 (m:=2) c6)
         rw[if_pos c6,if_pos c6,qgj,qgj,ha,hab]
         exact hw [a,b,qh8]
        ·rw[if_neg c6,if_neg c6]
         by_cases c7:isP t [92,43] 1=true
         ·rw[if_pos c7,if_pos c7,qgj,qgj,ha]
          exact hw _
         ·rw[if_neg c7,if_neg c7]
theorem qx4{r:Int→Option Tm}(h:Vr r)(t:Tm):qjn (qa1 r t)=qjn t:=by simp only[qjn,qlm h]
theorem of_repl{r:Int→Option Tm}(h:Vr r){t:Tm}(hf:Fine 1000 t)(hg:t.good=true):(ofP (qa1 r t)).2=(ofP t).2:=by
 unfold ofP
 rw[if_pos hg,if_pos (qss h hf hg)]
 exact q39 h 64 t
def qf4(h b:Tm):Tm:=.mk 2 0 [58,45] [h,b]
noncomputable def qdq(h b:Tm):Tm×Tm:=
 if (qf4 h b).good=true then (qa1 (rho (qev 0 (qax (qc8 (qf4 h b))))) h,qa1 (rho (qev 0 (qax (qc8 (qf4 h b))))) b) else (qah h,qbl)
theorem qoo(h b:Tm):qah (qf4 h b)=qf4 (qa1 (rho (qev 0 (qax (qc8 (qf4 h b))))) h) (qa1 (rho (qev 0 (qax (qc8 (qf4 h b))))) b):=by
 unfold qah
 rw[qeg (show (qf4 h b).kind≠0 by show (2:Int)≠0;omega)]
 rfl
theorem qek{t a b:Tm}(h:(qbd t a b).2.2=0):(qbd t a b).1=a∧(qbd t a b).2.1=b∧a.kind≠0∧a.kind≠1∧qjn a=false∧(ofP b).2=0:=by
 simp only[qbd] at h ⊢
 by_cases k0:a.kind=0
 ·simp[k0] at h
 ·by_cases k1:a.kind=1
  ·simp[k1] at h
  ·by_cases k2:qjn a=true
   ·simp[k0,k1,k2] at h
   ·have k2':qjn a=false:=by simpa using k2
    simp only[k0,k1,k2',if_false,Bool.false_eq_true] at h ⊢
    by_cases k3:(ofP b).2=0
    ·simp[k3,k0,k1]
    ·simp[k3] at h
theorem qo9{t a b:Tm}(k0:a.kind≠0)(k1:a.kind≠1)(k2:qjn a=false)(k3:(ofP b).2=0):qbd t a b=(a,b,0):=by simp[qbd,k0,k1,k2,k3]
theorem pre_true(t:Tm):qax (qc8 (qf4 t qbl))=qax (qc8 t):=by
 have e:qc8 (qf4 t qbl)=qf4 t qbl::(qc8 t++[qbl]):=by
  rw[q4r]
  show _::(qc8 t++(qc8 qbl++[]))=_
  rfl
 rw[e]
 have h1:qax (qf4 t qbl::(qc8 t++[qbl]))=qax (qc8 t++[qbl]):=by
  unfold qax
  rw[List.foldl_cons,if_neg (fun h=>by have:(2:Int)=0:=h.1;omega)]
 rw[h1,qha,if_neg (fun h=>by have:(2:Int)=0:=h.1;omega)]
theorem qgx{t:Tm}(hf:Fine 1000 t)(h:(qac t).2.2=0):qac (qah t)=((qdq (qac t).1 (qac t).2.1).1,(qdq (qac t).1 (qac t).2.1).2,0):=by
 have hg:=qcl h
 have hv:Vr (rho (qev 0 (qax (qc8 t)))):=own_vr _ 0 (by have:=qlh hg;omega)
 have hgp:(qah t).good=true:=qss hv hf hg
 unfold qac at h ⊢
 rw[if_pos hg] at h ⊢
 rw[if_pos hgp,show isP (qah t) [58,45] 2=isP t [58,45] 2 from qlm hv t _ _]
 split at h
 ·rename_i hc
  rw[if_pos hc,if_pos hc]
  obtain⟨a,b,hab⟩:=qbu (qb9 (m:=2) hc)
  rw[hab] at h ⊢
  simp only[List.getD_cons_zero,List.getD_cons_succ] at h ⊢
  obtain⟨e1,e2,k0,k1,k2,k3⟩:=qek h
  have ht:t=qf4 a b:=by
   obtain⟨k,n,s,l⟩:=t
   simp only[isP,Tm.kind,Tm.name,Tm.args,Bool.and_eq_true,decide_eq_true_eq,beq_iff_eq] at hc hab
   have hgo:=qnk hg
   obtain⟨⟨c1,c2⟩,c3⟩:=hc
   have c1:=of_decide_eq_true c1
   unfold qdh at hgo
   rw[if_neg (by show ¬k=0;omega),if_neg (by show ¬k=1;omega)] at hgo
   split at hgo
   ·rename_i hk
    simp only[Bool.and_eq_true,decide_eq_true_eq] at hgo
    have hk:k=2:=hk
    have hn:n=0:=hgo.1.1
    rw[hk,hn,c2,hab];rfl
   ·cases hgo
  have ha:Fine 1000 a:=hf.args.2.1 a (by rw[hab];simp)
  have hb:Fine 1000 b:=hf.args.2.1 b (by rw[hab];simp)
  have hbg:b.good=true:=qqw hg (by rw[hab];simp)
  rw[e1,e2]
  have hfd:qdq a b=(qa1 (rho (qev 0 (qax (qc8 t)))) a,qa1 (rho (qev 0 (qax (qc8 t)))) b):=by
   unfold qdq
   rw[←ht,if_pos hg]
  rw[hfd]
  have hpa:(qah t).args=[qa1 (rho (qev 0 (qax (qc8 t)))) a,qa1 (rho (qev 0 (qax (qc8 t)))) b]:=by
   conv=>lhs;rw[ht,qoo]
   rw[←ht];rfl
  rw[hpa]
  simp only[List.getD_cons_zero,List.getD_cons_succ]
  exact qo9 (by rw[qfd hv];exact k0) (by rw[qfd hv];exact k1) (by rw[qx4 hv];exact k2) (by rw[of_repl hv hb hbg];exact k3)
 ·rename_i hc
  rw[if_neg hc,if_neg hc]
  obtain⟨e1,e2,k0,k1,k2,k3⟩:=qek h
  rw[e1,e2]
  have hfd:qdq t qbl=(qah t,qbl):=by
   unfold qdq
   split
   ·rw[pre_true];rfl
   ·rfl
  rw[hfd]
  exact qo9 (by rw[show (qah t).kind=t.kind from qfd hv t];exact k0) (by rw[show (qah t).kind=t.kind from qfd hv t];exact k1) (by rw[show qjn (qah t)=qjn t from qx4 hv t];exact k2) k3
theorem sof_same{ps:List Pr}{a b:Tm}(ha:a.good=true)(hb:b.good=true)(hk:b.kind=a.kind)(hn:b.name=a.name)(hl:b.args.length=a.args.length):qd6 ps b=qd6 ps a:=by
 unfold qd6
 rw[if_pos ha,if_pos hb,hk,hn,hl]
theorem q3m(ps:List Pr){t:Tm}(hf:Fine 1000 t)(h:(qac t).2.2=0):qd6 ps (qac (qah t)).1=qd6 ps (qac t).1:=by
 have hp:=qgx hf h
 have h1:=qgy h
 have h2:=qgy (t:=qah t) (by rw[hp])
 have hg:=qcl h
 refine sof_same h1.1 h2.1 ?_ ?_ ?_
 all_goals
  have hk:(qac t).1.kind≠0:=by
   intro e
   have:=qcl h
   unfold qac at h e
   rw[if_pos this] at h e
   split at h
   ·rename_i hc
    rw[if_pos hc] at e
    obtain⟨e1,-,k0,-⟩:=qek h
    rw[e1] at e;exact k0 e
   ·rename_i hc
    rw[if_neg hc] at e
    obtain⟨e1,-,k0,-⟩:=qek h
    rw[e1] at e;exact k0 e
  rw[hp]
  simp only[qdq]
  split
  all_goals first|(rw[qeg hk];simp[Tm.kind,Tm.name,Tm.args];done)|(unfold qah;rw[qeg hk];simp[Tm.kind,Tm.name,Tm.args])
end
section
open Go Go.Abs Go.RowKit
structure Ds where
 nx:Int
 r0:List Cl
 r1:List Cl
 r2:List Cl
def dsC(d:Ds)(q:Int)(gl:Nat):List AV:=[qcd [[97],[98]] qao,.int .i64 q,.int .i64 d.nx,.slc gl 0 0 3 1]
def dsL(d:Ds):List AV:=[qcf d.r0,qcf d.r1,qcf d.r2]
structure DsAt(H:AH)(g gl:Nat)(q:Int)(d:Ds):Prop where
 ne:g≠gl
 cell:H.gs.get g=some ⟨0,0,dsC d q gl⟩
 rows:H.gs.get gl=some ⟨0,0,dsL d⟩
theorem DsAt.inj{H:AH}{g gl gl':Nat}{q q':Int}{d d':Ds}(a:DsAt H g gl q d)(b:DsAt H g gl' q' d'):gl=gl'∧q=q'∧d=d':=by
 have h0:=a.cell.symm.trans b.cell
 obtain⟨nx,r0,r1,r2⟩:=d
 obtain⟨nx',r0',r1',r2'⟩:=d'
 simp only[dsC,Option.some.injEq,Grp.mk.injEq,true_and,List.cons.injEq,AV.int.injEq,AV.slc.injEq,and_true] at h0
 obtain⟨rfl,rfl,rfl⟩:=h0
 have h1:=a.rows.symm.trans b.rows
 simp only[dsL,Option.some.injEq,Grp.mk.injEq,true_and,List.cons.injEq,and_true] at h1
 obtain⟨e0,e1,e2⟩:=h1
 rw[qjf e0,qjf e1,qjf e2]
 exact⟨rfl,rfl,rfl⟩
theorem DsAt.ext{X:Nat→Option Grp}{H H2:AH}{g gl:Nat}{q:Int}{d:Ds}(a:DsAt H g gl q d)(he:Ext X H H2)(ha:Apart X H):DsAt H2 g gl q d:=
 ⟨a.ne,he.get ha a.cell,he.get ha a.rows⟩
theorem DsAt.move{H H2:AH}{g gl:Nat}{q:Int}{d:Ds}(a:DsAt H g gl q d)(h1:H2.gs.get g=H.gs.get g)(h2:H2.gs.get gl=H.gs.get gl):DsAt H2 g gl q d:=
 ⟨a.ne,by rw[h1];exact a.cell,by rw[h2];exact a.rows⟩
def OkL(k:Int)(l:List Cl):Prop:=(l.length:Int)≤k∧∀c∈l,q1s c
structure OkDs(d:Ds):Prop where
 nx:1≤d.nx∧d.nx≤1000001
 r0:OkL d.nx d.r0
 r1:OkL d.nx d.r1
 r2:OkL d.nx d.r2
def qia(l:Int)(r:List Cl):Nat:=(r.filter fun c=>decide (c.lab=l)).length
def qt3(d:Ds)(l:Int):Nat:=qia l d.r0+qia l d.r1+qia l d.r2
def qdk(d:Ds)(p:Pr)(c:Cl)(first:Bool):Ds:=
  { nx:=d.nx + 1
    r0:=if p.nm=[112] then qe9 d.r0 c first else d.r0
    r1:=if p.nm=[113] then qe9 d.r1 c first else d.r1
    r2:=if p.nm = [114] then qe9 d.r2 c first else d.r2 }
end
section
open Go Go.Abs Go.RowKit
def qn5:Nat→List UInt8
 |0=>[32,116,114,117,101,32,102,97,105,108,32,33,32]
 |1=>[32,92,43,32,99,97,108,108,32,116,104,114,111,119,32,118,97,114,32,110,111,110,118,97,114,32,97,116,111,109,32,105,110,116,101,103,101,114,32,97,116,111,109,105,99,32,99,111,109,112,111,117,110,100,32,97,115,115,101,114,116,122,32,97,115,115,101,114,116,97,32,114,101,116,114,97,99,116,32,108,97,98,101,108,32]
 |2=>[32,44,32,59,32,45,62,32,61,32,92,61,32,61,61,32,92,61,61,32,64,60,32,64,62,32,64,61,60,32,64,62,61,32,105,115,32,61,58,61,32,61,92,61,32,60,32,62,32,61,60,32,62,61,32,61,46,46,32,99,111,112,121,95,116,101,114,109,32,97,116,111,109,95,108,101,110,103,116,104,32,97,116,111,109,95,99,104,97,114,115,32,110,117,109,98,101,114,95,99,104,97,114,115,32,115,111,114,116,32,109,115,111,114,116,32,107,101,121,115,111,114,116,32,108,101,110,103,116,104,32,117,110,108,97,98,101,108,32,58,45,32]
 |3=>[32,99,97,116,99,104,32,102,105,110,100,97,108,108,32,102,117,110,99,116,111,114,32,97,114,103,32]
 |4=>[32,116,111,95,108,97,98,101,108,101,100,32]
 |_=>[]
def qqg(s nm:List UInt8):Nat→Nat→Bool
 |0,_=>false
 |k+1,i=>if i+nm.length+2≤s.length then (if (s[i]?.getD 0=32∧(s.drop (i+1)).take nm.length=nm∧s[i+1+nm.length]?.getD 0=32∧nm≠[]) then true else qqg s nm k (i+1)) else false
def ppP(nm:List UInt8)(ar:Nat):Bool:=if 5≤ar then false else if nm.any (fun c=>decide (c=32))=true then false else qqg (qn5 ar) nm ((qn5 ar).length+1) 0
noncomputable def qhb(ps:List Pr)(t:Tm):Pr×Int:=
 if t.good=true then
  if t.kind=0 then (zPr,6) else if t.kind=1 then (zPr,5) else if ppP t.name t.args.length=true then (zPr,8) else
  match qdj ps t.name t.args.length with
  |some p=>(p,0)
  |none=>(zPr,7)
 else (zPr,1)
noncomputable def qjo(q:Int)(d:Ds)(t:Tm)(l:Int)(first:Bool):Int×Int×Ds:=
 if (qac t).2.2≠0 then (0,(qac t).2.2,d) else
 if (qhb qao (qac t).1).2≠0 then (0,(qhb qao (qac t).1).2,d) else
 if qhi l (qhb qao (qac t).1).1.ce=false then (0,9,d) else
 if q≤(qt3 d l:Int) then (0,10,d) else
 (d.nx,0,qdk d (qhb qao (qac t).1).1 ⟨d.nx,l,(qdq (qac t).1 (qac t).2.1).1,(qdq (qac t).1 (qac t).2.1).2⟩ first)
theorem find3{nm:List UInt8}{ar:Int}{p:Pr}(h:qdj qao nm ar=some p):(p=⟨[112],1,3,false⟩∧nm=[112]∧ar=1)∨(p=⟨[113],2,1,true⟩∧nm=[113]∧ar=2)∨(p=⟨[114],0,0,false⟩∧nm=[114]∧ar=0):=by
 have h1:=List.mem_of_find?_eq_some h
 have h2:=List.find?_some h
 simp only[qao,List.mem_cons,List.not_mem_nil,or_false] at h1
 rcases h1 with rfl|rfl|rfl
 ·left;simp at h2;exact⟨rfl,h2.1.symm,h2.2.symm⟩
 ·right;left;simp at h2;exact⟨rfl,h2.1.symm,h2.2.symm⟩
 ·right;right;simp at h2;exact⟨rfl,h2.1.symm,h2.2.symm⟩
theorem q4u:qep [112] 1=false∧qep [113] 2=false∧qep [114] 0=false:=by
 refine⟨?_,?_,?_⟩<;>(unfold qep hasB;decide +kernel)
theorem pp3:ppP [112] 1=false∧ppP [113] 2=false∧ppP [114] 0=false:=by decide +kernel
theorem qxt(a:Tm):((qhb qao a).2=0↔(qd6 qao a).2=0)∧((qd6 qao a).2=0→(qhb qao a).1=(qd6 qao a).1):=by
 unfold qhb qd6
 by_cases hg:a.good=true
 ·rw[if_pos hg,if_pos hg]
  by_cases k0:a.kind=0
  ·rw[if_pos k0,if_pos k0];simp
  ·rw[if_neg k0,if_neg k0]
   by_cases k1:a.kind=1
   ·rw[if_pos k1,if_pos k1];simp
   ·rw[if_neg k1,if_neg k1]
    cases hf:qdj qao a.name a.args.length with
    |none=>
     constructor
     ·constructor<;>(intro h;split at h<;>simp at h)
     ·intro h;split at h<;>simp at h
    |some p=>
     have hb:qep a.name a.args.length=false∧ppP a.name a.args.length=false:=by
      rcases find3 hf with⟨-,h1,h2⟩|⟨-,h1,h2⟩|⟨-,h1,h2⟩
      ·have h3:a.args.length=1:=by omega
       rw[h1,h3];exact⟨q4u.1,pp3.1⟩
      ·have h3:a.args.length=2:=by omega
       rw[h1,h3];exact⟨q4u.2.1,pp3.2.1⟩
      ·have h3:a.args.length=0:=by omega
       rw[h1,h3];exact⟨q4u.2.2,pp3.2.2⟩
     rw[hb.1,hb.2]
     simp
 ·rw[if_neg hg,if_neg hg];simp
theorem sof_in{a:Tm}(h:(qd6 qao a).2=0):(qd6 qao a).1=⟨[112],1,3,false⟩∨(qd6 qao a).1=⟨[113],2,1,true⟩∨(qd6 qao a).1=⟨[114],0,0,false⟩:=by
 have:=q3n h
 simpa[qao] using this
structure DR(s:St)(d:Ds):Prop where
 nx:d.nx=s.la+1
 r0:d.r0=qbb s [112] 1
 r1:d.r1=qbb s [113] 2
 r2:d.r2=qbb s [114] 0
 cnt:∀l,(qt3 d l:Int)=qav s l
theorem qlx(l:Int)(r:List Cl)(c:Cl)(first:Bool):qia l (qe9 r c first)=qia l r+if l=c.lab then 1 else 0:=by
 unfold qia qe9
 by_cases h:c.lab=l
 ·subst h
  cases first<;>simp[List.filter_append]
 ·have h':¬l=c.lab:=fun e=>h e.symm
  cases first<;>simp[h,h',List.filter_append]
theorem DR.add{s:St}{d:Ds}{q:Int}(h:DR s d)(hv:SInv s q){t:Tm}(hf:Fine 1000 t)(l:Int)(first:Bool):DR (qc6 s t l first).2.2 (qjo q d t l first).2.2:=by
 have hps:=hv.ps
 have hq:=hv.quo
 unfold qc6 qjo
 by_cases k1:(qac t).2.2=0
 ·obtain⟨b1,b2⟩:=qxt (qac t).1
  have hsp:=q3m qao hf k1
  by_cases k2:(qd6 qao (qac t).1).2=0
  ·have k2':=b1.2 k2
   have b2':=b2 k2
   cases k3:qhi l (qd6 qao (qac t).1).1.ce with
   |false=>simp only[ne_eq,k1,k2,k2',b2',k3,hps,hsp,not_true_eq_false,if_true,if_false];exact h
   |true=>
    have hcl:=h.cnt l
    by_cases k4:q≤qav s l
    ·simp only[ne_eq,k1,k2,k2',b2',k3,k4,hq,hcl,hps,hsp,not_true_eq_false,Bool.true_eq_false,if_true,if_false];exact h
    ·simp only[ne_eq,k1,k2,k2',b2',k3,k4,hq,hcl,hps,hsp,not_true_eq_false,Bool.true_eq_false,if_false]
     have hcp:=qgx hf k1
     have e1:(qac (qah t)).1=(qdq (qac t).1 (qac t).2.1).1:=by rw[hcp]
     have e2:(qac (qah t)).2.1=(qdq (qac t).1 (qac t).2.1).2:=by rw[hcp]
     rw[e1,e2]
     generalize (qdq (qac t).1 (qac t).2.1).1=hd
     generalize (qdq (qac t).1 (qac t).2.1).2=bd
     have hx:=h.nx
     have hin:=sof_in k2
     generalize (qd6 qao (qac t).1).1=p at hin
     have u1:¬((112:UInt8)=113):=by decide
     have u2:¬((112:UInt8)=114):=by decide
     have u3:¬((113:UInt8)=112):=by decide
     have u4:¬((113:UInt8)=114):=by decide
     have u5:¬((114:UInt8)=112):=by decide
     have u6:¬((114:UInt8)=113):=by decide
     have hcn:∀j,(qt3 (qdk d p ⟨d.nx,l,hd,bd⟩ first) j:Int)=qav (qd2 s p hd bd l first) j:=by
      intro j
      rw[qq9]
      have h1:=h.cnt j
      have h2:=h.cnt l
      have hj:(qt3 (qdk d p ⟨d.nx,l,hd,bd⟩ first) j:Int)=qt3 d j+if j=l then 1 else 0:=by
       rcases hin with rfl|rfl|rfl
       ·simp only[qt3,qdk,List.cons.injEq,and_true,u1,u2,u3,u4,u5,u6,if_true,if_false,qlx]
        split<;>simp<;>omega
       ·simp only[qt3,qdk,List.cons.injEq,and_true,u1,u2,u3,u4,u5,u6,if_true,if_false,qlx]
        split<;>simp<;>omega
       ·simp only[qt3,qdk,List.cons.injEq,and_true,u1,u2,u3,u4,u5,u6,if_true,if_false,qlx]
        split<;>simp<;>omega
      rw[hj]
      split
      ·rename_i hjl;subst hjl;omega
      ·omega
     refine⟨by show d.nx+1=s.la+1+1;omega,?_,?_,?_,hcn⟩
     all_goals
      rw[qrc]
      simp only[qdk,h.r0,h.r1,h.r2,hx]
      rcases hin with rfl|rfl|rfl<;>simp[u1,u2,u3,u4,u5,u6]
  ·have k2':¬(qhb qao (qac t).1).2=0:=fun e=>k2 (b1.1 e)
   simp only[ne_eq,k1,k2,k2',hps,hsp,not_true_eq_false,not_false_eq_true,if_true,if_false];exact h
 ·simp only[ne_eq,k1,not_false_eq_true,if_true];exact h
end
section
open Go Go.Abs Go.RowKit
def qh4(H:AH)(g gl:Nat)(q:Int)(d:Ds):AH:=⟨H.next,(H.gs.set g ⟨0,0,dsC d q gl⟩).set gl ⟨0,0,dsL d⟩,H.ms⟩
theorem qcw(H:AH){g gl:Nat}(hne:g≠gl)(q:Int)(d:Ds)(x:Nat):(qh4 H g gl q d).gs.get x=if x=g then some ⟨0,0,dsC d q gl⟩ else if x=gl then some ⟨0,0,dsL d⟩ else H.gs.get x:=by
 show ((H.gs.set g _).set gl _).get x=_
 by_cases a:x=gl
 ·subst a
  rw[Tr.get_set_same,if_neg (Ne.symm hne),if_pos rfl]
 ·rw[Tr.get_set_ne _ _ a,if_neg a]
  by_cases b:x=g
  ·subst b
   rw[Tr.get_set_same,if_pos rfl]
  ·rw[Tr.get_set_ne _ _ b,if_neg b]
def q1f(args:List AV)(H:AH)(y:AV)(H':AH):Prop:=∃g gl q d t l first,args=[.ptr g 0 0,.agg (tmC t),.int .u64 l,.bool first]∧DsAt H g gl q d∧OkDs d∧d.nx≤1000000∧Fine 1000 t∧(0≤l∧l<4) ∧
 y=.tup [.int .i64 (qjo q d t l first).1,.int .i64 (qjo q d t l first).2.1]∧H'=if (qjo q d t l first).2.1=0 then qh4 H g gl q (qjo q d t l first).2.2 else H
theorem qt1:OneR q1f:=by
 intro a H y H' y2 H2 h k
 obtain⟨g,gl,q,d,t,l,f,rfl,h1,-,-,-,-,rfl,rfl⟩:=h
 obtain⟨g',gl',q',d',t',l',f',e,k1,-,-,-,-,rfl,rfl⟩:=k
 simp only[List.cons.injEq,AV.ptr.injEq,AV.int.injEq,AV.agg.injEq,AV.bool.injEq,true_and,and_true] at e
 obtain⟨rfl,e2,rfl,rfl⟩:=e
 obtain⟨rfl,rfl,rfl⟩:=h1.inj k1
 cases qjy e2
 exact⟨rfl,rfl⟩
theorem q4m{X:Nat→Option Grp}{H H2:AH}{g gl:Nat}{q:Int}{d:Ds}(hne:g≠gl)(he:Ext X H H2)(ha:Apart X (qh4 H g gl q d)):Ext X (qh4 H g gl q d) (qh4 H2 g gl q d):=by
 refine⟨he.next,fun x=>?_,he.ms⟩
 have hx:∀r,X x=some r→(qh4 H g gl q d).gs.get x=none:=fun r h=>ha x r h
 rw[qcw _ hne,qcw _ hne]
 rw[qcw _ hne] at hx
 by_cases a:x=g
 ·rw[if_pos a] at hx
  rw[if_pos a,if_pos a]
  cases h:X x with
  |none=>rfl
  |some r=>exact absurd (hx r h) (by simp)
 ·rw[if_neg a] at hx
  rw[if_neg a,if_neg a]
  by_cases b:x=gl
  ·rw[if_pos b] at hx
   rw[if_pos b,if_pos b]
   cases h:X x with
   |none=>rfl
   |some r=>exact absurd (hx r h) (by simp)
  ·rw[if_neg b,if_neg b];exact he.gs x
theorem qvn(H:AH){g gl:Nat}(hne:g≠gl)(q:Int)(d:Ds):Grows H (qh4 H g gl q d):=by
 intro x h
 rw[qcw _ hne] at h
 split at h
 ·cases h
 ·split at h
  ·cases h
  ·exact h
theorem putDs_at(H:AH){g gl:Nat}(hne:g≠gl)(q:Int)(d:Ds):DsAt (qh4 H g gl q d) g gl q d:=
 ⟨hne,by rw[qcw _ hne,if_pos rfl],by rw[qcw _ hne,if_neg (Ne.symm hne),if_pos rfl]⟩
theorem qpj(q:Int)(d:Ds)(t:Tm)(l:Int)(first:Bool):((qjo q d t l first).2.1≠0∧(qjo q d t l first).2.2=d∧(qjo q d t l first).1=0) ∨
  ((qac t).2.2=0∧(qhb qao (qac t).1).2=0∧qhi l (qhb qao (qac t).1).1.ce=true∧(qt3 d l:Int)<q∧qjo q d t l first=(d.nx,0,qdk d (qhb qao (qac t).1).1 ⟨d.nx,l,(qdq (qac t).1 (qac t).2.1).1,(qdq (qac t).1 (qac t).2.1).2⟩ first)):=by
 unfold qjo
 by_cases k1:(qac t).2.2=0
 ·rw[if_neg (by simpa using k1)]
  by_cases k2:(qhb qao (qac t).1).2=0
  ·rw[if_neg (by simpa using k2)]
   cases k3:qhi l (qhb qao (qac t).1).1.ce with
   |false=>left;rw[if_pos rfl];exact⟨by simp,rfl,rfl⟩
   |true=>
    rw[if_neg (by simp)]
    by_cases k4:q≤(qt3 d l:Int)
    ·left;rw[if_pos k4];exact⟨by simp,rfl,rfl⟩
    ·right;rw[if_neg k4];exact⟨k1,k2,rfl,by omega,rfl⟩
  ·left;rw[if_pos k2];exact⟨k2,rfl,rfl⟩
 ·left;rw[if_pos k1];exact⟨k1,rfl,rfl⟩
theorem qvu{k:Int}{r:List Cl}(h:OkL k r){c:Cl}(hc:q1s c)(first:Bool):OkL (k+1) (qe9 r c first):=by
 refine⟨by rw[qql];have:=h.1;omega,fun x hx=>?_⟩
 rcases qj6 hx with rfl|hx
 ·exact hc
 ·exact h.2 x hx
theorem qqj{k:Int}{r:List Cl}(h:OkL k r):OkL (k+1) r:=⟨by have:=h.1;omega,h.2⟩
theorem okDs_add{d:Ds}(h:OkDs d)(hn:d.nx≤1000000)(p:Pr){c:Cl}(hc:q1s c)(first:Bool):OkDs (qdk d p c first):=by
 have hx:=h.nx
 refine⟨⟨by show 1≤d.nx+1;omega,by show d.nx+1≤1000001;omega⟩,?_,?_,?_⟩
 ·show OkL (d.nx+1) (if _ then _ else _)
  split
  ·exact qvu h.r0 hc first
  ·exact qqj h.r0
 ·show OkL (d.nx+1) (if _ then _ else _)
  split
  ·exact qvu h.r1 hc first
  ·exact qqj h.r1
 ·show OkL (d.nx+1) (if _ then _ else _)
  split
  ·exact qvu h.r2 hc first
  ·exact qqj h.r2
theorem qzb{t:Tm}(hf:Fine 1000 t)(h:(qac t).2.2=0):OkT (qdq (qac t).1 (qac t).2.1).1∧OkT (qdq (qac t).1 (qac t).2.1).2:=by
 obtain⟨-,h1,h2⟩:=qqr hf h
 rw[qgx hf h] at h1 h2
 exact⟨h1,h2⟩
theorem q43{q:Int}{d:Ds}(h:OkDs d)(hn:d.nx≤1000000){t:Tm}(hf:Fine 1000 t)(l:Int)(first:Bool):OkDs (qjo q d t l first).2.2∧(qjo q d t l first).2.2.nx≤d.nx+1:=by
 rcases qpj q d t l first with⟨-,h2,-⟩|⟨k1,-,-,-,h5⟩
 ·rw[h2];exact⟨h,by omega⟩
 ·rw[h5]
  have:=qzb hf k1
  exact⟨okDs_add h hn _ ⟨this.1,this.2⟩ first,Int.le_refl _⟩
theorem qwm{args:List AV}{H:AH}{y:AV}{H':AH}(h:q1f args H y H'):Grows H H'∧∀X H2,Ext X H H2→Apart X H'→∃H2',q1f args H2 y H2'∧Ext X H' H2':=by
 obtain⟨g,gl,q,d,t,l,first,rfl,h1,h2,h3,h4,h5,rfl,rfl⟩:=h
 have hgr:Grows H (if (qjo q d t l first).2.1=0 then qh4 H g gl q (qjo q d t l first).2.2 else H):=by
  split
  ·exact qvn _ h1.ne _ _
  ·exact Grows.refl _
 refine⟨hgr,fun X H2 he ha=>⟨_,⟨g,gl,q,d,t,l,first,rfl,h1.ext he (ha.back hgr),h2,h3,h4,h5,rfl,rfl⟩,?_⟩⟩
 split at ha
 ·rename_i hc
  rw[if_pos hc,if_pos hc]
  exact q4m h1.ne he ha
 ·rename_i hc
  rw[if_neg hc,if_neg hc]
  exact he
end
end Go.Proofs.YtdekdghldblfaaaGreatDoor
