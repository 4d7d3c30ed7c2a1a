import Derived.Test.YtdekdghldblfaaaGreatDoorSymDA
import Derived.Test.YtdekdghldblfaaaGreatDoorSymRA
import Derived.Test.YtdekdghldblfaaaGreatDoorSymCD
import Derived.Test.YtdekdghldblfaaaGreatDoorSymRB
set_option linter.unusedVariables false
set_option linter.unusedSimpArgs false
namespace Go.Proofs.YtdekdghldblfaaaGreatDoor
section
open Go Go.Abs Go.RowKit
noncomputable def rfitS:List AV→Option AV
 |[x,.int .u64 l]=>only (x=qd8∧0≤l∧l<4) (some (.bool true))
 |_=>none
theorem rfitS_eq{l:Int}(h:0≤l∧l<4):rfitS [.vals 1 [[.str [97]],[.str [98]]],.int .u64 l]=some (.bool true):=qa0 ⟨rfl,h⟩ _
theorem rfit_one:HookOne Tryz.prog 46 (qae rfitS):=by
 refine HookOne.ofPureF (by decide +kernel) fun args y h H=>?_
 unfold rfitS at h;split at h
 ·rename_i x l
  obtain⟨⟨rfl,h1,h2⟩,h3⟩:=qau h
  cases h3
  have:l=0∨l=1∨l=2∨l=3:=by omega
  have hk:∀v∈[(0:Int),1,2,3],qdy LFi4 [qd8,.int .u64 v] H=some (.bool true,H):=by
   intro v hv
   refine qyv (ks:=[qd8,.int .u64 v]) (by rfl) ?_
   simp only[List.mem_cons,List.not_mem_nil,or_false] at hv
   rcases hv with rfl|rfl|rfl|rfl<;>simp[LFi4,qy9,qy8,qlu,qlw,qlt,qlv,qja,qi9,qqs]
  rcases this with rfl|rfl|rfl|rfl<;>exact kFi4.ok _ _ _ _ (hk _ (by simp))
 ·cases h
theorem qt4{t:Tm}(h:(qac t).2.2=0):t=qf4 (qac t).1 (qac t).2.1∨((qac t).1=t∧(qac t).2.1=qbl):=by
 have hg:=qcl h
 unfold qac at h ⊢
 rw[if_pos hg] at h ⊢
 split at h
 ·rename_i hc
  rw[if_pos hc]
  obtain⟨a,b,hab⟩:=qbu (qb9 (m:=2) hc)
  rw[hab] at h ⊢
  simp only[List.getD_cons_zero,List.getD_cons_succ] at h ⊢
  obtain⟨e1,e2,-⟩:=qek h
  left
  rw[e1,e2]
  obtain⟨k,n,s,l⟩:=t
  simp only[isP,Tm.kind,Tm.name,Tm.args,Bool.and_eq_true,decide_eq_true_eq,beq_iff_eq] at hc hab
  have hgo:=qnk hg
  obtain⟨⟨c1,c2⟩,c3⟩:=hc
  have c1:=of_decide_eq_true c1
  unfold qdh at hgo
  rw[if_neg (by show ¬k=0;omega),if_neg (by show ¬k=1;omega)] at hgo
  split at hgo
  ·rename_i hk
   simp only[Bool.and_eq_true,decide_eq_true_eq] at hgo
   have hk:k=2:=hk
   have hn:n=0:=hgo.1.1
   rw[hk,hn,c2,hab];rfl
  ·cases hgo
 ·rename_i hc
  rw[if_neg hc]
  obtain⟨e1,e2,-⟩:=qek h
  exact .inr ⟨e1,e2⟩
theorem q6q{h b:Tm}(h1:Fine 1000 h)(h2:Fine 1000 b):Fine 1000 (qf4 h b):=.mk _ _ _ _ (by omega) (by omega) (by unfold maxLen;simp) (by simp) fun x hx=>by
 simp only[List.mem_cons,List.not_mem_nil,or_false] at hx
 rcases hx with rfl|rfl
 ·exact h1
 ·exact h2
def RowC2(N:Nat)(H:AH)(o:AV)(r:List Cl):Prop:=o=qcf r∨(Ows H o 10 (r.map clC).flatten r.length∧OB N o)
theorem RowC2.fzr{N:Nat}{H:AH}{o:AV}{r:List Cl}{kp:Nat→Nat→Nat→Nat→Prop}{km:Nat→Nat→Prop}{dead:Nat→Prop}(h:RowC2 N H o r)(hd:∀g,N≤g→dead g):FzR H kp km dead o (qcf r):=by
 rcases h with rfl|⟨⟨h1,h2⟩,h3⟩
 ·exact .pure (qfq r)
 ·rcases h2 with⟨rfl,h0⟩|⟨g,e,rfl,hg,-⟩
  ·have:r=[]:=List.eq_nil_of_length_eq_zero h0
   subst this
   exact .nils 10
  ·exact qwf (hd g (h3 _ _ _ _ _ rfl)) hg (by simp) (fun row hr=>by simp only[List.mem_map] at hr;obtain⟨c,-,rfl⟩:=hr;exact qbh c) (qfq r)
theorem qq6{N g gl nx0 nx1:Nat}{q:Int}{d d':Ds}{gs gs1:Tr Grp}{ms:Tr qbm}{o0 o1 o2:AV}{idn:Int}(h1:DsAt ⟨nx0,gs,ms⟩ g gl q d)(hN:∀n,N≤n→gs.get n=none∧ms.get n=none)(hcl:ClosedH ⟨nx0,gs,ms⟩)
  (hg1:gs1.get g=some ⟨0,0,dsC d' q gl⟩) (hgl:gs1.get gl=some ⟨0,0,[o0,o1,o2]⟩) (f0:RowC2 N ⟨nx1,gs1,ms⟩ o0 d'.r0) (f1:RowC2 N ⟨nx1,gs1,ms⟩ o1 d'.r1) (f2:RowC2 N ⟨nx1,gs1,ms⟩ o2 d'.r2)
  (hgo:∀g',g'<N→g'≠g→g'≠gl→gs1.get g'=gs.get g'):Go.Abs.Comes (some (.tup [.int .i64 idn,.int .i64 0],⟨nx1,gs1,ms⟩)) ⟨nx0,gs,ms⟩ (.tup [.int .i64 idn,.int .i64 0]) (qh4 ⟨nx0,gs,ms⟩ g gl q d'):=by
 obtain⟨hne,h2,h3⟩:=h1
 simp only at h2 h3
 have lt:∀g' r,gs.get g'=some r→g'<N:=fun g' r h=>by
  rcases Nat.lt_or_ge g' N with q|q
  ·exact q
  ·rw[(hN g' q).1] at h;cases h
 have hd:∀x,(qh4 ⟨nx0,gs,ms⟩ g gl q d').gs.get x≠none↔gs.get x≠none:=fun x=>by
  rw[qcw _ hne]
  by_cases a:x=g
  ·subst a;rw[if_pos rfl,h2];simp
  ·rw[if_neg a]
   by_cases b:x=gl
   ·subst b;rw[if_pos rfl,h3];simp
   ·rw[if_neg b]
 have hdead:∀x,N≤x→qes (qh4 ⟨nx0,gs,ms⟩ g gl q d') _root_.id x:=fun x hx g' hg' e=>by
  have hg':=(hd g').1 hg'
  have e:g'=x:=e
  rw[e,(hN x hx).1] at hg'
  exact hg' rfl
 refine Comes.some (Canon.updF hcl hd rfl (fun _ _ h=>h) (fun x r2 h=>?_) (.pure rfl))
 rw[qcw _ hne] at h
 by_cases a:x=g
 ·subst a
  rw[if_pos rfl] at h
  cases h
  refine⟨_,hg1,Nat.le_refl _,rfl,.cons (.pure (qdf _ _)) (.cons (.pure rfl) (.cons (.pure rfl) (.cons (.keepS (.inl ⟨?_,rfl,rfl⟩)) .nil)))⟩
  show gs.get gl≠none
  rw[h3];simp
 ·rw[if_neg a] at h
  by_cases b:x=gl
  ·subst b
   rw[if_pos rfl] at h
   cases h
   exact⟨_,hgl,Nat.le_refl _,rfl,.cons (f0.fzr hdead) (.cons (f1.fzr hdead) (.cons (f2.fzr hdead) .nil))⟩
  ·rw[if_neg b] at h
   have h:gs.get x=some r2:=h
   exact⟨r2,by show gs1.get x=_;rw[hgo x (lt x _ h) a b];exact h,Nat.le_refl _,rfl,q1o (H1:=⟨nx1,gs1,ms⟩) (H2:=qh4 ⟨nx0,gs,ms⟩ g gl q d') (p:=_root_.id) (q:=_root_.id) hcl (fun g hg=>⟨rfl,hg⟩) h⟩
theorem qze(r:List Cl):(r.map clC).flatten.length=r.length*10:=by
 rw[qat (z:=10) (fun row hr=>by simp only[List.mem_map] at hr;obtain⟨c,-,rfl⟩:=hr;exact qbh c),List.length_map]
theorem q3o{ps:List Pr}{t:Tm}(h:(qhb ps t).2=0):qdj ps t.name t.args.length=some (qhb ps t).1:=by
 revert h
 unfold qhb
 split
 ·split
  ·intro h;simp at h
  ·split
   ·intro h;simp at h
   ·split
    ·intro h;simp at h
    ·cases hf:qdj ps t.name t.args.length with
     |none=>intro h;simp at h
     |some p=>intro _;rfl
 ·intro h;simp at h
theorem q38{N nx ga e n:Nat}{gs:Tr Grp}{ms:Tr qbm}{r:List Cl}(h:gs.get ga=some ⟨e,0,(r.map clC).flatten⟩)(hn:n=r.length)(hN:N≤ga)(hlt:ga<nx):RowC2 N ⟨nx,gs,ms⟩ (.slc ga e 0 n 10) r:=by
 subst hn
 exact .inr ⟨⟨qze r,.inr ⟨ga,e,rfl,h,hlt⟩⟩,fun g' e' i n z hh=>by cases hh;exact hN⟩
theorem ad_00(d:Ds)(c:Cl)(f:Bool):(qdk d ⟨[112],1,3,false⟩ c f).r0=qe9 d.r0 c f:=by simp[qdk]
theorem ad_01(d:Ds)(c:Cl)(f:Bool):(qdk d ⟨[112],1,3,false⟩ c f).r1=d.r1:=by simp[qdk]
theorem ad_02(d:Ds)(c:Cl)(f:Bool):(qdk d ⟨[112],1,3,false⟩ c f).r2=d.r2:=by simp[qdk]
theorem ad_10(d:Ds)(c:Cl)(f:Bool):(qdk d ⟨[113],2,1,true⟩ c f).r0=d.r0:=by simp[qdk]
theorem ad_11(d:Ds)(c:Cl)(f:Bool):(qdk d ⟨[113],2,1,true⟩ c f).r1=qe9 d.r1 c f:=by simp[qdk]
theorem ad_12(d:Ds)(c:Cl)(f:Bool):(qdk d ⟨[113],2,1,true⟩ c f).r2=d.r2:=by simp[qdk]
theorem ad_20(d:Ds)(c:Cl)(f:Bool):(qdk d ⟨[114],0,0,false⟩ c f).r0=d.r0:=by simp[qdk]
theorem ad_21(d:Ds)(c:Cl)(f:Bool):(qdk d ⟨[114],0,0,false⟩ c f).r1=d.r1:=by simp[qdk]
theorem ad_22(d:Ds)(c:Cl)(f:Bool):(qdk d ⟨[114],0,0,false⟩ c f).r2=qe9 d.r2 c f:=by simp[qdk]
end
section
open Go Go.Abs Go.RowKit
attribute [local congr] qai qaj qag
attribute [local congr] qal
noncomputable abbrev lsDa:List (FuncId×(List AV→AH→Option (AV×AH))):=[(44,qae qfw),(45,qae rsofS),(46,qae rfitS),(47,qae q4e),(48,qeh (qe3 q7i)),(50,qae qgh),(49,qae qhu),(51,qae qso),(52,qae qol)]
theorem lsDa_ok:∀e∈lsDa,HookOne Tryz.prog e.1 e.2:=by
 intro e he
 simp only[lsDa,List.mem_cons,List.not_mem_nil,or_false] at he
 rcases he with rfl|rfl|rfl|rfl|rfl|rfl|rfl|rfl|rfl
 ·exact qvm
 ·exact rsof_one
 ·exact rfit_one
 ·exact qx1
 ·exact dcnt_one
 ·exact qiw
 ·exact qsq
 ·exact q3z
 ·exact qmv
theorem q77(n:List UInt8)(a b:Tm):(Tm.mk 2 0 n [a,b]).args=[a,b]:=(rfl)
set_option maxHeartbeats 4000000 in
theorem q1e(g gl:Nat)(q:Int)(d:Ds)(t:Tm)(l:Int)(first:Bool)(H:AH)(h1:DsAt H g gl q d)(hok:OkDs d)(hnx:d.nx≤1000000)(hf:Fine 1000 t)(hl4:0≤l∧l<4) :
  ACalls Tryz.prog 17 [.ptr g 0 0,.agg (tmC t),.int .u64 l,.bool first] H fun y H'=>y=.tup [.int .i64 (qjo q d t l first).1,.int .i64 (qjo q d t l first).2.1]∧H'=if (qjo q d t l first).2.1=0 then qh4 H g gl q (qjo q d t l first).2.2 else H:=by
 refine ACalls.onRun lsDa_ok mixed (draws _ rfl) yRAdd_ok rfl 0 fun N hN hcl=>?_
 obtain⟨nx0,gs,ms⟩:=H
 have h1':=h1
 obtain⟨hne,h2,h3⟩:=h1
 simp only at h2 h3 hN
 have lt:∀g r,gs.get g=some r→g<N:=fun g r h=>by
  rcases Nat.lt_or_ge g N with q|q
  ·exact q
  ·rw[(hN g q).1] at h;cases h
 have hgN:=lt _ _ h2
 have hlN:=lt _ _ h3
 have hE:∀k,gs.get (N+k)=none:=fun k=>(hN (N+k) (by omega)).1
 have hE0:gs.get N=none:=(hN N (Nat.le_refl _)).1
 have q1:∀k,(g=N+k)=False:=fun k=>eq_false (by omega)
 have q2:∀k,(N+k=g)=False:=fun k=>eq_false (by omega)
 have q3:(g=N)=False:=eq_false (by omega)
 have q4:(N=g)=False:=eq_false (by omega)
 have r1:∀k,(gl=N+k)=False:=fun k=>eq_false (by omega)
 have r2:∀k,(N+k=gl)=False:=fun k=>eq_false (by omega)
 have r3:(gl=N)=False:=eq_false (by omega)
 have r4:(N=gl)=False:=eq_false (by omega)
 have q5:(g=gl)=False:=eq_false hne
 have q6:(gl=g)=False:=eq_false (Ne.symm hne)
 have hsv:qcd [[97],[98]] qao=.vptr [.vals 1 [[.str [97]],[.str [98]]],.vals 4 (qao.map prC)] 0:=rfl
 have h2':gs.get g=some ⟨0,0,[.vptr [.vals 1 [[.str [97]],[.str [98]]],.vals 4 (qao.map prC)] 0,.int .i64 q,.int .i64 d.nx,.slc gl 0 0 3 1]⟩:=h2
 have h3':gs.get gl=some ⟨0,0,[qcf d.r0,qcf d.r1,qcf d.r2]⟩:=h3
 have c1:=qhl hf
 by_cases k1:(qac t).2.2=0
 ·have hg:=qcl k1
  obtain⟨⟨-,hfh⟩,⟨-,hfb⟩⟩:=clk_ok (m:=70) (by omega) hf (by have:=(qqx hg).2.1;omega)
  obtain⟨hgh,hgb⟩:=qgy k1
  have c2:=rsofS_eq hfh
  rw[hsv] at c2
  have hsh:=qt4 k1
  have hfd:=qzb hf k1
  rw[k1] at c1
  have k1n:¬(qac t).2.2≠0:=fun h=>h k1
  obtain⟨p,hp⟩:∃p,p=(qhb qao (qac t).1).1:=⟨_,rfl⟩
  by_cases k2:(qhb qao (qac t).1).2=0
  ·have hr0:qjo q d t l first=if qhi l p.ce=false then (0,9,d) else if q≤(qt3 d l:Int) then (0,10,d) else (d.nx,0,qdk d p ⟨d.nx,l,(qdq (qac t).1 (qac t).2.1).1,(qdq (qac t).1 (qac t).2.1).2⟩ first):=by
    unfold qjo
    rw[if_neg k1n,if_neg (fun h=>h k2),hp]
   have hpin:p=⟨[112],1,3,false⟩∨p=⟨[113],2,1,true⟩∨p=⟨[114],0,0,false⟩:=by
    have hb:=qxt (qac t).1
    rw[hp,hb.2 (hb.1.1 k2)]
    exact sof_in (hb.1.1 k2)
   have hc0:(prC p)=[.str p.nm,.int .i64 p.ar,.int .u64 p.ce,.bool p.dy]:=rfl
   rw[←hp,k2,hc0] at c2
   have c3:=rfitS_eq hl4
   have c4:=qqb l p.ce
   have hlq:qe2 l p.ce=qhi l p.ce:=or_leq p.ce l (by rcases hpin with rfl|rfl|rfl<;>simp) hl4
   rw[hlq] at c4
   have c5:∀nx gs',gs'.get g=gs.get g→gs'.get gl=gs.get gl→qeh (qe3 q7i) [.ptr g 0 0,.int .u64 l] ⟨nx,gs',ms⟩=some (.int .i64 (qt3 d l),⟨nx,gs',ms⟩):=fun nx gs' e1 e2=>
    qhe qt0 ⟨g,gl,q,d,l,rfl,h1'.move e1 e2,hok,rfl⟩
   rw[hr0]
   cases hlb:qhi l p.ce with
   |false=>
    rw[hlb] at c4
    simp only[if_true]
    rw[if_neg (by simp)]
    simp (maxSteps:=1000000) (disch:=omega) only[qz3,qb1,↓axP,axQ,seval,qaa,qab,tX,hE,hE0,q1,q2,q3,q4,r1,r2,r3,r4,q5,q6,nk1,nk2,nk3,h2',h3',c1,c2,c3,c4,Nat.add_assoc]
    refine qdv (H:=⟨nx0,gs,ms⟩) hN hcl (by rfl) (fun g hg=>?_) rfl
    simp[Tr.get_set,show g≠N by omega,show ∀k,g≠N+k by omega]
   |true=>
    rw[hlb] at c4
    simp only[Bool.true_eq_false,if_false]
    by_cases hq:q≤(qt3 d l:Int)
    ·rw[if_pos hq,if_neg (by simp)]
     simp (maxSteps:=1000000) (disch:=omega) only[qz3,qb1,↓axP,axQ,seval,qaa,qab,tX,hE,hE0,q1,q2,q3,q4,r1,r2,r3,r4,q5,q6,nk1,nk2,nk3,h2',h3',c1,c2,c3,c4,Nat.add_assoc]
     rw[c5 _ _ (by simp[Tr.get_set,q1,q2,q3,q4]) (by simp[Tr.get_set,r1,r2,r3,r4])]
     simp (maxSteps:=1000000) (disch:=omega) only[↓axP,axQ,seval,qaa,qab,tX,hE,hE0,q1,q2,q3,q4,r1,r2,r3,r4,q5,q6,nk1,nk2,nk3,h2',h3',hq,Nat.add_assoc]
     refine qdv (H:=⟨nx0,gs,ms⟩) hN hcl (by rfl) (fun g hg=>?_) rfl
     simp[Tr.get_set,show g≠N by omega,show ∀k,g≠N+k by omega]
    ·rw[if_neg hq,if_pos rfl]
     have hq':(q≤(qt3 d l:Int))=False:=eq_false hq
     clear c1 hr0
     obtain⟨hh,hhe⟩:∃hh,(qac t).1=hh:=⟨_,rfl⟩
     obtain⟨bb,hbe⟩:∃bb,(qac t).2.1=bb:=⟨_,rfl⟩
     have c1:=qhl hf
     rw[hhe,hbe,k1] at c1
     rw[hhe] at c2 hp k2 hfh hgh
     rw[hbe] at hfb hgb
     rw[hhe,hbe] at hsh hfd ⊢
     simp (maxSteps:=1000000) (disch:=omega) only[qz3,qb1,↓axP,axQ,seval,qaa,qab,tX,hE,hE0,q1,q2,q3,q4,r1,r2,r3,r4,q5,q6,nk1,nk2,nk3,h2',h3',c1,c2,c3,c4,Nat.add_assoc]
     rw[c5 _ _ (by simp[Tr.get_set,q1,q2,q3,q4]) (by simp[Tr.get_set,r1,r2,r3,r4])]
     have c6:=qix [58,45] [hh,bb]
     simp only[List.map_cons,List.map_nil] at c6
     have c7:qhu [.agg (tmC (.mk 2 0 [58,45] [hh,bb])),.int .i64 0]=some (qhv (qf4 hh bb)):=qsr (q6q hfh hfb)
     have c9:=qmw hh.name hh.args.length
     rw[hsv] at c9
     have hfind:=q3o k2
     rw[←hp] at hfind
     have hw:IntKind.i64.wrap (d.nx+1)=d.nx+1:=by have:=hok.nx;rw[wrap_i64]<;>omega
     obtain⟨⟨hx1,hx2⟩,hr0,hr1,hr2⟩:=hok
     have b0:=hr0.1
     have b1:=hr1.1
     have b2:=hr2.1
     have hway:(qhu [.agg (tmC (.mk 2 0 [58,45] [hh,bb])),.int .i64 0]=some (.tup [.agg (tmC (.mk 2 0 [58,45] [(qdq hh bb).1,(qdq hh bb).2])),.int .i64 (qax (qc8 (qf4 hh bb))).length,.int .i64 0])∧True) ∨
       (qhu [.agg (tmC (.mk 2 0 [58,45] [hh,bb])),.int .i64 0]=some (.tup [.agg [.int .i64 0,.int .i64 0,.str [],.vals 4 []],.int .i64 0,.int .i64 1])∧qso [.agg (tmC hh),.agg (tmC bb)]=some (.agg (tmC (.mk 2 0 [58,45] [(qdq hh bb).1,(qdq hh bb).2])))):=by
      by_cases hgd:(qf4 hh bb).good=true
      ·left
       refine⟨?_,trivial⟩
       rw[c7]
       unfold qhv
       rw[if_pos hgd,qoo]
       unfold qdq
       rw[if_pos hgd];rfl
      ·right
       rw[c7]
       unfold qhv qdq
       rw[if_neg hgd,if_neg hgd]
       rcases hsh with hsh|⟨-,hsh⟩
       ·rw[←hsh] at hgd;exact absurd hg hgd
       ·rw[hsh]
        refine⟨?_,q30 hgh hfh⟩
        unfold tmA z0T
        rw[qbq];rfl
     clear c7
     generalize (qdq hh bb).1=xh at *
     generalize (qdq hh bb).2=xb at *
     unfold qcf at h3'
     rcases qq2 hh.name hh.args.length with⟨e1,e2⟩|⟨e1,e2⟩|⟨e1,e2⟩|⟨e1,e2⟩
     ·rw[e1] at hfind;cases hfind
     ·rw[e1] at hfind
      cases hfind
      rw[e2] at c9
      have hbd1:(1+d.r0.length)*128≤140737488355328∧1+d.r0.length≤9223372036854775807:=by omega
      have hbd2:d.r0.length*128≤140737488355328∧d.r0.length≤9223372036854775807:=by omega
      have hbd3:(d.r0.length+1)*128≤140737488355328∧d.r0.length+1≤9223372036854775807:=by omega
      have hf0:(d.r0.map clC).flatten.length=d.r0.length*10:=qze _
      have ht0:List.take (d.r0.length*10) (d.r0.map clC).flatten=(d.r0.map clC).flatten:=List.take_of_length_le (by omega)
      have hz0:d.r0.length=0→d.r0=[]:=List.eq_nil_of_length_eq_zero
      by_cases hz:d.r0.length=0
      all_goals
       cases first
       all_goals
        rcases hway with⟨c7,c8⟩|⟨c7,c8⟩
        all_goals
         simp (maxSteps:=1000000) (disch:=omega) only[↓axP,axQ,seval,qaa,qab,tX,hE,hE0,q1,q2,q3,q4,r1,r2,r3,r4,q5,q6,nk1,nk2,nk3,h2',h3',hq',hw,c6,c7,c8,c9,Nat.add_assoc,q77,List.length_map,List.map_cons,List.map_nil,hz,hbd1,hbd2,hbd3,hf0]
         refine qq6 h1' hN hcl ?_ (Tr.get_set_same _ _ _) ?_ ?_ ?_ (fun g' hg' hgg hgl=>?_)
         ·show Tr.get _ g=some (Grp.mk 0 0 [.vptr [.vals 1 [[.str [97]],[.str [98]]],.vals 4 (qao.map prC)] 0,.int .i64 q,.int .i64 (d.nx+1),.slc gl 0 0 3 1])
          simp[Tr.get_set,q1,q2,q3,q4,q5,q6]
         ·rw[ad_00]
          refine q38 ?_ ?_ (by omega) (by omega)
          ·first
           |(simp[Tr.get_set,r1,r2,q1,q2,nk2,nk3,qe9,hz0 hz,clC];done)
           |(simp[Tr.get_set,r1,r2,q1,q2,nk2,nk3,qe9,clC,ht0];done)
          ·first
           |(simp[qe9,hz];done)
           |(simp[qe9];omega)
         ·rw[ad_01]
          exact .inl rfl
         ·rw[ad_02]
          exact .inl rfl
         ·simp[Tr.get_set,show g'≠N by omega,show ∀k,g'≠N+k by omega,hgg,hgl]
     ·rw[e1] at hfind
      cases hfind
      rw[e2] at c9
      have hbd1:(1+d.r1.length)*128≤140737488355328∧1+d.r1.length≤9223372036854775807:=by omega
      have hbd2:d.r1.length*128≤140737488355328∧d.r1.length≤9223372036854775807:=by omega
      have hbd3:(d.r1.length+1)*128≤140737488355328∧d.r1.length+1≤9223372036854775807:=by omega
      have hf0:(d.r1.map clC).flatten.length=d.r1.length*10:=qze _
      have ht0:List.take (d.r1.length*10) (d.r1.map clC).flatten=(d.r1.map clC).flatten:=List.take_of_length_le (by omega)
      have hz0:d.r1.length=0→d.r1=[]:=List.eq_nil_of_length_eq_zero
      by_cases hz:d.r1.length=0
      all_goals
       cases first
       all_goals
        rcases hway with⟨c7,c8⟩|⟨c7,c8⟩
        all_goals
         simp (maxSteps:=1000000) (disch:=omega) only[↓axP,axQ,seval,qaa,qab,tX,hE,hE0,q1,q2,q3,q4,r1,r2,r3,r4,q5,q6,nk1,nk2,nk3,h2',h3',hq',hw,c6,c7,c8,c9,Nat.add_assoc,q77,List.length_map,List.map_cons,List.map_nil,hz,hbd1,hbd2,hbd3,hf0]
         refine qq6 h1' hN hcl ?_ (Tr.get_set_same _ _ _) ?_ ?_ ?_ (fun g' hg' hgg hgl=>?_)
         ·show Tr.get _ g=some (Grp.mk 0 0 [.vptr [.vals 1 [[.str [97]],[.str [98]]],.vals 4 (qao.map prC)] 0,.int .i64 q,.int .i64 (d.nx+1),.slc gl 0 0 3 1])
          simp[Tr.get_set,q1,q2,q3,q4,q5,q6]
         ·rw[ad_10]
          exact .inl rfl
         ·rw[ad_11]
          refine q38 ?_ ?_ (by omega) (by omega)
          ·first
           |(simp[Tr.get_set,r1,r2,q1,q2,nk2,nk3,qe9,hz0 hz,clC];done)
           |(simp[Tr.get_set,r1,r2,q1,q2,nk2,nk3,qe9,clC,ht0];done)
          ·first
           |(simp[qe9,hz];done)
           |(simp[qe9];omega)
         ·rw[ad_12]
          exact .inl rfl
         ·simp[Tr.get_set,show g'≠N by omega,show ∀k,g'≠N+k by omega,hgg,hgl]
     ·rw[e1] at hfind
      cases hfind
      rw[e2] at c9
      have hbd1:(1+d.r2.length)*128≤140737488355328∧1+d.r2.length≤9223372036854775807:=by omega
      have hbd2:d.r2.length*128≤140737488355328∧d.r2.length≤9223372036854775807:=by omega
      have hbd3:(d.r2.length+1)*128≤140737488355328∧d.r2.length+1≤9223372036854775807:=by omega
      have hf0:(d.r2.map clC).flatten.length=d.r2.length*10:=qze _
      have ht0:List.take (d.r2.length*10) (d.r2.map clC).flatten=(d.r2.map clC).flatten:=List.take_of_length_le (by omega)
      have hz0:d.r2.length=0→d.r2=[]:=List.eq_nil_of_length_eq_zero
      by_cases hz:d.r2.length=0
      all_goals
       cases first
       all_goals
        rcases hway with⟨c7,c8⟩|⟨c7,c8⟩
        all_goals
         simp (maxSteps:=1000000) (disch:=omega) only[↓axP,axQ,seval,qaa,qab,tX,hE,hE0,q1,q2,q3,q4,r1,r2,r3,r4,q5,q6,nk1,nk2,nk3,h2',h3',hq',hw,c6,c7,c8,c9,Nat.add_assoc,q77,List.length_map,List.map_cons,List.map_nil,hz,hbd1,hbd2,hbd3,hf0]
         refine qq6 h1' hN hcl ?_ (Tr.get_set_same _ _ _) ?_ ?_ ?_ (fun g' hg' hgg hgl=>?_)
         ·show Tr.get _ g=some (Grp.mk 0 0 [.vptr [.vals 1 [[.str [97]],[.str [98]]],.vals 4 (qao.map prC)] 0,.int .i64 q,.int .i64 (d.nx+1),.slc gl 0 0 3 1])
          simp[Tr.get_set,q1,q2,q3,q4,q5,q6]
         ·rw[ad_20]
          exact .inl rfl
         ·rw[ad_21]
          exact .inl rfl
         ·rw[ad_22]
          refine q38 ?_ ?_ (by omega) (by omega)
          ·first
           |(simp[Tr.get_set,r1,r2,q1,q2,nk2,nk3,qe9,hz0 hz,clC];done)
           |(simp[Tr.get_set,r1,r2,q1,q2,nk2,nk3,qe9,clC,ht0];done)
          ·first
           |(simp[qe9,hz];done)
           |(simp[qe9];omega)
         ·simp[Tr.get_set,show g'≠N by omega,show ∀k,g'≠N+k by omega,hgg,hgl]
  ·have hr:qjo q d t l first=(0,(qhb qao (qac t).1).2,d):=by
    unfold qjo
    rw[if_neg k1n,if_pos k2]
   have k2':((qhb qao (qac t).1).2=0)=False:=eq_false k2
   rw[hr,if_neg k2]
   have hc0:∀p:Pr,(prC p)=[.str p.nm,.int .i64 p.ar,.int .u64 p.ce,.bool p.dy]:=fun p=>rfl
   rw[hc0] at c2
   simp (maxSteps:=1000000) (disch:=omega) only[qz3,qb1,↓axP,axQ,seval,qaa,qab,tX,hE,hE0,q1,q2,q3,q4,r1,r2,r3,r4,q5,q6,nk1,nk2,nk3,h2',h3',c1,c2,k2',Nat.add_assoc]
   refine qdv (H:=⟨nx0,gs,ms⟩) hN hcl (by rfl) (fun g hg=>?_) rfl
   simp[Tr.get_set,show g≠N by omega,show ∀k,g≠N+k by omega]
 ·have hr:qjo q d t l first=(0,(qac t).2.2,d):=by
   unfold qjo
   rw[if_pos k1]
  have k1':((qac t).2.2=0)=False:=eq_false k1
  rw[hr,if_neg k1]
  simp (maxSteps:=1000000) (disch:=omega) only[qz3,qb1,↓axP,axQ,seval,qaa,qab,tX,hE,hE0,q1,q2,q3,q4,r1,r2,r3,r4,q5,q6,nk1,nk2,nk3,h2',h3',c1,k1',Nat.add_assoc]
  refine qdv (H:=⟨nx0,gs,ms⟩) hN hcl (by rfl) (fun g hg=>?_) rfl
  simp[Tr.get_set,show g≠N by omega,show ∀k,g≠N+k by omega]
theorem dadd_one:HookOne Tryz.prog 17 (qeh q1f):=by
 refine HookOne.ofRel (by decide +kernel) qt1 (fun args H y H' h=>?_) fun args H y H' h=>qwm h
 obtain⟨g,gl,q,d,t,l,first,rfl,h1,h2,h3,h4,h5,rfl,rfl⟩:=h
 exact q1e g gl q d t l first H h1 h2 h3 h4 h5
end
section
open Go Go.Abs Go.RowKit
attribute [local congr] qai qaj qag
attribute [local congr] qal
def rowD(d:Ds)(i:Int):List Cl:=if i=0 then d.r0 else if i=1 then d.r1 else if i=2 then d.r2 else []
def qd1(d:Ds)(nm:List UInt8)(ar cl:Int):List Cl:=(rowD d (quk nm ar)).filter fun c=>qe2 c.lab cl
def qty(args:List AV)(H:AH)(y:AV):Prop:=∃g gl q d nm ar cl,args=[.ptr g 0 0,.str nm,.int .i64 ar,.int .u64 cl]∧DsAt H g gl q d∧OkDs d∧y=qcf (qd1 d nm ar cl)
theorem qo5(a:List AV)(H:AH)(y y2:AV)(h:qty a H y)(k:qty a H y2):y=y2:=by
 obtain⟨g,gl,q,d,nm,ar,l,rfl,h1,h2,rfl⟩:=h
 obtain⟨g',gl',q',d',nm',ar',l',e,k1,k2,rfl⟩:=k
 simp only[List.cons.injEq,AV.ptr.injEq,AV.int.injEq,AV.str.injEq,true_and,and_true] at e
 obtain⟨rfl,rfl,rfl,rfl⟩:=e
 obtain⟨-,-,rfl⟩:=h1.inj k1
 rfl
noncomputable abbrev lsRVw:List (FuncId×(List AV→AH→Option (AV×AH))):=[(47,qae q4e),(52,qae qol)]
theorem lsRVw_ok:∀e∈lsRVw,HookOne Tryz.prog e.1 e.2:=by
 intro e he
 simp only[lsRVw,List.mem_cons,List.not_mem_nil,or_false] at he
 rcases he with rfl|rfl
 ·exact qx1
 ·exact qmv
set_option maxHeartbeats 1000000 in
theorem rvw_loop(F0 g gl:Nat)(q:Int)(d:Ds)(cl:Int)(i:Nat)(r:List Cl)(hr:r.length≤1000001)(hi3:i<3)(hci:(dsL d)[i]? = some (qcf r))(B:Nat)(gs0:Tr Grp)(ms0:Tr qbm)(hgB:g<B)(hlB:gl<B)(h0:gs0.get g=some ⟨0,0,dsC d q gl⟩)(h1:gs0.get gl=some ⟨0,0,dsL d⟩):∀(l2 l1:List Cl) (o:AV) (H:AH) (F:Nat),r=l1++l2→VwJ B gs0 ms0 H o (l1.filter fun c=>qe2 c.lab cl)→l2.length<F →
  ∃o' H',iter (ycode (tcall lsRVw) F0 quw) F (mk [(0,.ptr g 0 0),(3,.int .u64 cl),(9,o),(10,.int .i64 i),(11,.int .i64 l1.length)]) H=some (.exit 0,mk [(9,o')],H')∧VwJ B gs0 ms0 H' o' (r.filter fun c=>qe2 c.lab cl):=by
 intro l2
 have hi0:(0:Int)≤(i:Int):=by omega
 have hi4:(i:Int)<3:=by omega
 have hml:(r.map clC).length=r.length:=by simp
 unfold qcf at hci
 unfold dsC at h0
 induction l2 with
 |nil=>
  intro l1 o H F hs h2 h4
  obtain⟨k,rfl⟩:=qam (f:=fun _ _=>none) (n:=F) (by omega)
  rw[List.append_nil] at hs
  have hlt:((l1.length:Int)<(r.length:Int))=False:=by rw[hs];simp
  refine⟨o,H,?_,by rw[hs];exact h2⟩
  obtain⟨w1,w2,w3,w4,w5,w6⟩:=h2
  obtain⟨nx,gs,ms⟩:=H
  have h0':=(w5 g hgB).trans h0
  have h1':=(w5 gl hlB).trans h1
  simp only at h0' h1'
  rw[qad]
  simp (maxSteps:=1000000) (disch:=omega) only[qii,qg6,↓axP,axQ,seval,qaa,qab,tX,h0',h1',hi0,hi4,Nat.mul_one,hci,hml,hlt,Int.toNat_natCast]
 |cons c l2 ih=>
  intro l1 o H F hs h2 h4
  obtain⟨k,rfl⟩:=qam (f:=fun _ _=>none) (n:=F) (by omega)
  have hR:l1.length+1≤1000001:=by rw[hs] at hr;simp at hr;omega
  have hlt:((l1.length:Int)<(r.length:Int))=True:=eq_true (by rw[hs];simp;omega)
  have hget:(r.map clC)[l1.length]? = some (.int .i64 c.id::.int .u64 c.lab::(tmC c.hd++tmC c.bd)):=by rw[hs];simp[clC]
  have hl:(0:Int)≤(l1.length:Int):=by omega
  have w3':IntKind.i64.wrap ((l1.length:Int)+1)=(l1.length:Int)+1:=by rw[wrap_i64]<;>omega
  have hls:(l1++[c]).length=l1.length+1:=by simp
  have hj:=h2
  obtain⟨w1,w2,w3,w4,w5,w6⟩:=h2
  obtain⟨nx,gs,ms⟩:=H
  simp only at w2 w5 w6
  subst w6
  have h0':=(w5 g hgB).trans h0
  have h1':=(w5 gl hlB).trans h1
  have e0:=qmj w1
  cases hq:qe2 c.lab cl with
  |false=>
   have hf:((l1++[c]).filter fun c=>qe2 c.lab cl)=l1.filter fun c=>qe2 c.lab cl:=by simp[List.filter_append,hq]
   obtain⟨o',H',k1,k2⟩:=ih (l1++[c]) o ⟨nx,gs,ms⟩ k (by simp[hs]) (by rw[hf];exact hj) (by simp at h4;omega)
   refine⟨o',H',?_,k2⟩
   rw[hls] at k1
   rw[qad]
   simp (maxSteps:=1000000) (disch:=omega) only[↓axP,axQ,seval,qaa,qab] at k1
   simp (maxSteps:=1000000) (disch:=omega) only[qii,qg6,↓axP,axQ,seval,qaa,qab,tX,h0',h1',hi0,hi4,Nat.mul_one,hci,hml,hlt,hget,hl,w3',qqb,hq,k1,Int.toNat_natCast]
  |true=>
   have hf:((l1++[c]).filter fun c=>qe2 c.lab cl)=(l1.filter fun c=>qe2 c.lab cl)++[c]:=by simp[List.filter_append,hq]
   have hfl:(l1.filter fun c=>qe2 c.lab cl).length≤l1.length:=List.length_filter_le _ _
   have wfA:AH.wf ⟨nx+1,gs.set nx ⟨0,0,clC c⟩,ms⟩:=fun g hg=>by
    have:nx+1≤g:=hg
    show (gs.set nx _).get g=none
    rw[Tr.get_set_ne _ _ (by omega)];exact w1 g (by show nx≤g;omega)
   have owA:Ows ⟨nx+1,gs.set nx ⟨0,0,clC c⟩,ms⟩ o 10 ((l1.filter fun c=>qe2 c.lab cl).map clC).flatten (l1.filter fun c=>qe2 c.lab cl).length:=w3.add _
   obtain⟨v',H',p1,p2,p3,p4,p5,p6⟩:=qe5 (x:=.slc nx 0 0 1 10) (z:=10) (b:=128) (m:=1) (xs:=clC c) owA wfA (by simp only[clC,↓axP,axQ,seval,qaa,qab,tX]) (qbh c) (by omega) (by omega) (by omega)
   have pp:iapp 10 128 o (.slc nx 0 0 1 10) ⟨nx+1,gs.set nx ⟨0,0,.int .i64 c.id::.int .u64 c.lab::(tmC c.hd++tmC c.bd)⟩,ms⟩=some (v',H'):=p1
   have hcat:((l1.filter fun c=>qe2 c.lab cl).map clC).flatten++clC c=(((l1++[c]).filter fun c=>qe2 c.lab cl).map clC).flatten:=by rw[hf];simp
   have hln:(l1.filter fun c=>qe2 c.lab cl).length+1=((l1++[c]).filter fun c=>qe2 c.lab cl).length:=by rw[hf];simp
   rw[hcat,hln] at p2
   obtain⟨o',H2,k1,k2⟩:=ih (l1++[c]) v' H' k (by simp[hs])
    ⟨p3,Nat.le_trans (by show B ≤ nx + 1; omega) p4.1,p2,p6 B (by show B ≤ nx + 1; omega) w4,fun g hg=>by
     rw[p4.get w4 hg (by show g<nx+1;omega)]
     show (gs.set nx _).get g=_
     rw [Tr.get_set_ne _ _ (by omega)]; exact w5 g hg,p5⟩ (by simp at h4; omega)
   refine⟨o',H2,?_,k2⟩
   rw[hls] at k1
   rw[qad]
   simp (maxSteps:=1000000) (disch:=omega) only[↓axP,axQ,seval,qaa,qab] at k1
   simp (maxSteps:=1000000) (disch:=omega) only[qii,qg6,↓axP,axQ,seval,qaa,qab,tX,h0',h1',hi0,hi4,Nat.mul_one,hci,hml,hlt,hget,hl,w3',qqb,hq,e0,pp,p2.fit,p2.cell,k1,Int.toNat_natCast,Nat.add_assoc]
theorem rowD_at(d:Ds)(nm:List UInt8)(ar:Int):quk nm ar = -1∨∃i:Nat,i<3∧quk nm ar=(i:Int)∧(dsL d)[i]? = some (qcf (rowD d (quk nm ar))):=by
 rcases qq2 nm ar with⟨-,e⟩|⟨-,e⟩|⟨-,e⟩|⟨-,e⟩
 ·exact .inl e
 ·exact .inr ⟨0,by omega,by rw[e];rfl,by rw[e];rfl⟩
 ·exact .inr ⟨1,by omega,by rw[e];rfl,by rw[e];rfl⟩
 ·exact .inr ⟨2,by omega,by rw[e];rfl,by rw[e];rfl⟩
theorem OkDs.row{d:Ds}(h:OkDs d)(i:Int):(rowD d i).length≤1000001∧∀c∈rowD d i,q1s c:=by
 have hx:=h.nx
 unfold rowD
 split
 ·have:=h.r0;exact⟨by have:=this.1;omega,this.2⟩
 ·split
  ·have:=h.r1;exact⟨by have:=this.1;omega,this.2⟩
  ·split
   ·have:=h.r2;exact⟨by have:=this.1;omega,this.2⟩
   ·exact⟨by simp,by simp⟩
set_option maxHeartbeats 1000000 in
theorem q63:HookOne Tryz.prog 59 (qeh (qe3 qty)):=by
 refine HookOne.ofReadR (by decide +kernel) qo5 (fun args H y h=>?_) fun args H y X H2 h he ha=>?_
 ·obtain⟨g,gl,q,d,nm,ar,cl,rfl,h1,hok,rfl⟩:=h
  refine ACalls.onRun lsRVw_ok mixed (draws _ rfl) q2f rfl 1000005 fun N hN hcl=>?_
  obtain⟨nx0,gs,ms⟩:=H
  obtain⟨-,h2,h3⟩:=h1
  simp only at h2 h3 hN
  have lt:∀g r,gs.get g=some r→g<N:=fun g r h=>by
   rcases Nat.lt_or_ge g N with q|q
   ·exact q
   ·rw[(hN g q).1] at h;cases h
  have hrf:=qmw nm ar
  have hJ0:VwJ N gs ms ⟨N,gs,ms⟩ .nils []:=⟨fun g hg=>(hN g hg).1,Nat.le_refl _,qe4 _ _,qi1 _,fun _ _=>rfl,rfl⟩
  unfold qd1
  rcases rowD_at d nm ar with hi|⟨i,hi3,hi,hci⟩
  ·have hr:rowD d (quk nm ar)=[]:=by rw[hi];rfl
   rw[hr]
   rw[hi] at hrf
   unfold dsC qcd at h2
   unfold qcd at hrf
   simp (maxSteps:=1000000) (disch:=omega) only[q2g,qb1,↓axP,axQ,seval,qaa,qab,tX,h2,hrf,qad,qii,qg6]
   exact Comes.some (VwJ.canon (H:=⟨nx0,gs,ms⟩) hN hcl hJ0)
  ·have hro:=hok.row (quk nm ar)
   obtain⟨o',H',k1,k2⟩:=rvw_loop 1000005 g gl q d cl i (rowD d (quk nm ar)) hro.1 hi3 hci N gs ms (lt _ _ h2) (lt _ _ h3) h2 h3 (rowD d (quk nm ar)) [] .nils ⟨N,gs,ms⟩ 1000005 rfl hJ0 (by omega)
   rw[hi] at hrf
   unfold dsC qcd at h2
   unfold qcd at hrf
   simp (maxSteps:=1000000) (disch:=omega) only[↓axP,axQ,seval,qaa,qab] at k1
   simp (maxSteps:=1000000) (disch:=omega) only[q2g,qb1,↓axP,axQ,seval,qaa,qab,tX,h2,hrf,k1]
   exact Comes.some (VwJ.canon (H:=⟨nx0,gs,ms⟩) hN hcl k2)
 ·obtain⟨g,gl,q,d,nm,ar,cl,rfl,h1,hok,rfl⟩:=h
  exact⟨g,gl,q,d,nm,ar,cl,rfl,h1.ext he ha,hok,rfl⟩
end
section
open Go Go.Abs Go.RowKit
attribute [local congr] qai qaj qag
attribute [local congr] qal
def qzj(d:Ds)(cl:Int):List Cl:=qd1 d [112] 1 cl++qd1 d [113] 2 cl++qd1 d [114] 0 cl
def qtz(args:List AV)(H:AH)(y:AV):Prop:=∃g gl q d cl,args=[.ptr g 0 0,.int .u64 cl]∧DsAt H g gl q d∧OkDs d∧y=qcf (qzj d cl)
theorem qo6(a:List AV)(H:AH)(y y2:AV)(h:qtz a H y)(k:qtz a H y2):y=y2:=by
 obtain⟨g,gl,q,d,l,rfl,h1,h2,rfl⟩:=h
 obtain⟨g',gl',q',d',l',e,k1,k2,rfl⟩:=k
 simp only[List.cons.injEq,AV.ptr.injEq,AV.int.injEq,true_and,and_true] at e
 obtain⟨rfl,rfl⟩:=e
 obtain⟨-,-,rfl⟩:=h1.inj k1
 rfl
noncomputable abbrev q5k:List (FuncId×(List AV→AH→Option (AV×AH))):=[(59,qeh (qe3 qty))]
theorem lsRLi_ok:∀e∈q5k,HookOne Tryz.prog e.1 e.2:=by
 intro e he
 simp only[q5k,List.mem_singleton] at he
 subst he
 exact q63
theorem qno{d:Ds}(h:OkDs d)(nm:List UInt8)(ar cl:Int):(qd1 d nm ar cl).length≤1000001:=
 Nat.le_trans (List.length_filter_le _ _) (h.row _).1
set_option maxHeartbeats 1000000 in
theorem qqa(F0 k g gl:Nat)(q:Int)(d:Ds)(cl:Int)(i:Nat)(nm:List UInt8)(ar ce:Int)(dy:Bool)(hi:i<3)(hget:(qao.map prC)[i]? = some [.str nm,.int .i64 ar,.int .u64 ce,.bool dy])(B nx0:Nat)(gs0:Tr Grp)(ms0:Tr qbm)(hgB:g<B)(hlB:gl<B)(h1:DsAt ⟨nx0,gs0,ms0⟩ g gl q d)(hok:OkDs d)(o:AV)(H:AH)(l:List Cl)(hl:l.length≤4000000)(hJ:VwJ B gs0 ms0 H o l) :
  ∃o' H',iter (ycode (tcall q5k) F0 ql8) (k+1) (mk [(0,.ptr g 0 0),(1,.int .u64 cl),(5,o),(6,.int .i64 i)]) H=iter (ycode (tcall q5k) F0 ql8) k (mk [(0,.ptr g 0 0),(1,.int .u64 cl),(5,o'),(6,.int .i64 ((i:Int)+1))]) H'∧VwJ B gs0 ms0 H' o' (l++qd1 d nm ar cl):=by
 obtain⟨w1,w2,w3,w4,w5,w6⟩:=hJ
 obtain⟨nx,gs,ms⟩:=H
 simp only at w2 w5 w6
 subst w6
 have h2:=h1.cell
 simp only at h2
 have h0':=(w5 g hgB).trans h2
 unfold dsC qcd at h0'
 have hm3:(qao.map prC).length=3:=rfl
 have hi0:(0:Int)≤(i:Int):=by omega
 have hlt:((i:Int)<3)=True:=eq_true (by omega)
 have hw:IntKind.i64.wrap ((i:Int)+1)=(i:Int)+1:=by rw[wrap_i64]<;>omega
 have hvl:=qno hok nm ar cl
 have hJ':∀nx',nx≤nx'→AH.wf ⟨nx',gs,ms⟩∧Ows ⟨nx',gs,ms⟩ o 10 (l.map clC).flatten l.length:=fun nx' hn=>⟨fun g hg=>w1 g (by have:nx'≤g:=hg;show nx≤g;omega),w3.keep hn fun _ _=>rfl⟩
 obtain⟨wf28,ow28⟩:=hJ' (nx+28) (by omega)
 have hview:qeh (qe3 qty) [.ptr g 0 0,.str nm,.int .i64 ar,.int .u64 cl] ⟨nx+28,gs,ms⟩=some (.vals 10 ((qd1 d nm ar cl).map clC),⟨nx+28,gs,ms⟩):=
  qhe qo5 ⟨g,gl,q,d,nm,ar,cl,rfl,h1.move (w5 g hgB) (w5 gl hlB),hok,rfl⟩
 cases hvw:qd1 d nm ar cl with
 |nil=>
  rw[hvw,List.map_nil] at hview
  have pp:=qyf (b:=128) ow28
  refine⟨o,⟨nx+28,gs,ms⟩,?_,?_⟩
  ·rw[qad]
   simp (maxSteps:=1000000) (disch:=omega) only[ql7,qik,↓axP,axQ,seval,qaa,qab,tX,h0',hm3,hlt,hi0,hget,hw,Int.toNat_natCast,hview,pp,ow28.fit,ow28.cell]
  ·rw[List.append_nil]
   exact⟨wf28,by show B≤nx+28;omega,ow28,w4,w5,rfl⟩
 |cons c vs=>
  obtain⟨v',H',p1,p2,p3,p4,p5,p6⟩:=qe5 (x:=.vals 10 ((qd1 d nm ar cl).map clC)) (z:=10) (b:=128) (m:=(qd1 d nm ar cl).length) (xs:=((qd1 d nm ar cl).map clC).flatten) ow28 wf28 (by simp only[↓axP,axQ,seval,qaa,qab,tX,List.length_map]) (by rw[qat (z:=10) (by intro r hr;simp only[List.mem_map] at hr;obtain⟨c,-,rfl⟩:=hr;exact qbh c),List.length_map]) (by rw[hvw];simp) (by omega) (by omega)
  rw[←hvw] at *
  refine⟨v',H',?_,?_⟩
  ·rw[qad]
   simp (maxSteps:=1000000) (disch:=omega) only[ql7,qik,↓axP,axQ,seval,qaa,qab,tX,h0',hm3,hlt,hi0,hget,hw,Int.toNat_natCast,hview,p1,p2.fit,p2.cell]
  ·have e1:((l++qd1 d nm ar cl).map clC).flatten=(l.map clC).flatten++((qd1 d nm ar cl).map clC).flatten:=by simp
   refine⟨p3,Nat.le_trans (by show B≤nx+28;omega) p4.1,by rw[e1,List.length_append];exact p2,p6 B (by show B≤nx+28;omega) w4,fun g hg=>?_,p5⟩
   rw[p4.get w4 hg (by show g<nx+28;omega)]
   exact w5 g hg
set_option maxHeartbeats 1000000 in
theorem q7c:HookOne Tryz.prog 22 (qeh (qe3 qtz)):=by
 refine HookOne.ofReadR (by decide +kernel) qo6 (fun args H y h=>?_) fun args H y X H2 h he ha=>?_
 ·obtain⟨g,gl,q,d,cl,rfl,h1,hok,rfl⟩:=h
  refine ACalls.onRun lsRLi_ok mixed (draws _ rfl) q2m rfl 5 fun N hN hcl=>?_
  obtain⟨nx0,gs,ms⟩:=H
  have h1':=h1
  obtain⟨-,h2,h3⟩:=h1
  simp only at h2 h3 hN
  have lt:∀g r,gs.get g=some r→g<N:=fun g r h=>by
   rcases Nat.lt_or_ge g N with q|q
   ·exact q
   ·rw[(hN g q).1] at h;cases h
  have hJ0:VwJ N gs ms ⟨N,gs,ms⟩ .nils []:=⟨fun g hg=>(hN g hg).1,Nat.le_refl _,qe4 _ _,qi1 _,fun _ _=>rfl,rfl⟩
  have b0:=qno hok [112] 1 cl
  have b1:=qno hok [113] 2 cl
  obtain⟨o1,H1,k1,j1⟩:=qqa 5 4 g gl q d cl 0 [112] 1 3 false (by omega) rfl N nx0 gs ms (lt _ _ h2) (lt _ _ h3) h1' hok .nils ⟨N,gs,ms⟩ [] (by simp) hJ0
  obtain⟨o2,H2,k2,j2⟩:=qqa 5 3 g gl q d cl 1 [113] 2 1 true (by omega) rfl N nx0 gs ms (lt _ _ h2) (lt _ _ h3) h1' hok o1 H1 _ (by simp;omega) j1
  obtain⟨o3,H3,k3,j3⟩:=qqa 5 2 g gl q d cl 2 [114] 0 0 false (by omega) rfl N nx0 gs ms (lt _ _ h2) (lt _ _ h3) h1' hok o2 H2 _ (by simp;omega) j2
  have e1:((0:Nat):Int)+1=((1:Nat):Int):=rfl
  have e2:((1:Nat):Int)+1=((2:Nat):Int):=rfl
  rw[e1] at k1
  rw[e2] at k2
  rw[k2,k3] at k1
  have hend:iter (ycode (tcall q5k) 5 ql8) 2 (mk [(0,.ptr g 0 0),(1,.int .u64 cl),(5,o3),(6,.int .i64 (((2:Nat):Int)+1))]) H3=some (.exit 0,mk [(5,o3)],H3):=by
   obtain⟨w1,w2,w3,w4,w5,w6⟩:=j3
   obtain⟨nx,gs',ms'⟩:=H3
   simp only at w5
   have h0':=(w5 g (lt _ _ h2)).trans h2
   unfold dsC qcd at h0'
   have hm3:(qao.map prC).length=3:=rfl
   have e3:((2:Nat):Int)+1=3:=rfl
   rw[qad,e3]
   simp (maxSteps:=1000000) (disch:=omega) only[ql7,qik,↓axP,axQ,seval,qaa,qab,tX,h0',hm3]
  rw[hend] at k1
  rw[List.nil_append] at j3
  simp (maxSteps:=1000000) (disch:=omega) only[↓axP,axQ,seval,qaa,qab] at k1
  simp (maxSteps:=1000000) (disch:=omega) only[yRList,qak,↓axP,axQ,seval,qaa,qab,tX,k1]
  exact Comes.some (VwJ.canon (H:=⟨nx0,gs,ms⟩) hN hcl j3)
 ·obtain⟨g,gl,q,d,cl,rfl,h1,hok,rfl⟩:=h
  exact⟨g,gl,q,d,cl,rfl,h1.ext he ha,hok,rfl⟩
end
end Go.Proofs.YtdekdghldblfaaaGreatDoor
