import Derived.Test.YtdekdghldblfaaaGreatDoorSymMM
import Derived.Test.YtdekdghldblfaaaGreatDoorHkA
import Derived.Test.YtdekdghldblfaaaGreatDoorYOwn18
import Derived.Test.YtdekdghldblfaaaGreatDoorSymA
set_option linter.unusedVariables false
set_option linter.unusedSimpArgs false
namespace Go.Proofs.YtdekdghldblfaaaGreatDoor
section
open Go Go.Abs Go.RowKit
theorem q3n{ps:List Pr}{t:Tm}(h:(qd6 ps t).2=0):(qd6 ps t).1∈ps:=by
 revert h
 unfold qd6
 repeat' split
 all_goals (intro h;simp at h)
 rename_i p hp
 unfold qdj at hp
 exact List.mem_of_find?_eq_some hp
structure SInv(s:St)(q:Int):Prop where
 ps:s.ps=qao
 quo:s.q=q
 lab:∀e∈s.m,∀c∈e.2.2,0≤c.lab∧c.lab<4
 cnt:∀l,0≤l→l<4→0≤qav s l∧qav s l≤q
 tot:((qbb s [112] 1).length:Int)+(qbb s [113] 2).length+(qbb s [114] 0).length=qav s 0+qav s 1+qav s 2+qav s 3
theorem sinv0(q:Int)(hq:1≤q)(n:Nat):SInv (st0 q n) q:=⟨rfl,rfl,fun e he=>(by cases he),fun l _ _=>⟨Int.le_refl _,by show 0≤q;omega⟩,rfl⟩
theorem good0(H:AH)(q:Int):Good (qei H q) H.next (st0 q H.next) 0:=⟨made_at q,⟨rfl,⟨by simp[st0,qao],by simp[st0,qao]⟩,⟨Int.le_refl _,by show (0:Int)≤1000000;omega⟩,fun e he=>(by cases he),fun e he=>(by cases he)⟩,fun e he=>(by cases he),Int.le_refl _⟩
theorem qrc(s:St)(p:Pr)(hd bd:Tm)(l:Int)(first:Bool)(nm:List UInt8)(ar:Int):qbb (qd2 s p hd bd l first) nm ar=if (nm,ar)=(p.nm,p.ar) then qe9 (qbb s p.nm p.ar) ⟨s.la+1,l,hd,bd⟩ first else qbb s nm ar:=by
 unfold qbb
 show ((qbz (nm,ar) (qbc _ _ _ _).2).getD [])=_
 rw[qlq]
 split<;>rfl
theorem qq9(s:St)(p:Pr)(hd bd:Tm)(l:Int)(first:Bool)(j:Int):qav (qd2 s p hd bd l first) j=if j=l then qav s l+1 else qav s j:=by
 unfold qav
 show ((qbz j (qbc _ _ _ _).2).getD 0)=_
 rw[qlq]
 split<;>rfl
theorem SInv.add{s:St}{q:Int}(h:SInv s q){t:Tm}{l:Int}(hl:0≤l∧l<4)(first:Bool):SInv (qc6 s t l first).2.2 q:=by
 rcases qc5 s t l first with⟨h1,h2,-⟩|⟨h1,h2,h3,h4,h5⟩
 ·rw[h2];exact h
 ·rw[h5]
  simp only
  have hm:=q3n h2
  generalize (qd6 s.ps (qac (qah t)).1).1=p at hm ⊢
  rw[h.ps] at hm
  have hq:=h.quo
  refine⟨h.ps,h.quo,fun e he c hc=>?_,fun j h0 h4'=>?_,?_⟩
  ·rcases qc1 he with he|⟨-,he⟩
   ·exact h.lab e he c hc
   ·rw[he] at hc
    rcases qj6 hc with rfl|hc
    ·exact hl
    ·unfold qbb at hc
     cases hlk:qbz (p.nm,p.ar) s.m with
     |none=>rw[hlk] at hc;cases hc
     |some v=>
      rw[hlk] at hc
      obtain⟨e',k1,k2,k3⟩:=qhh hlk
      subst k3
      exact h.lab e' k1 c hc
  ·rw[qq9]
   have:=h.cnt j h0 h4'
   have:=h.cnt l hl.1 hl.2
   split<;>omega
  ·have ht:=h.tot
   have c0:=qq9 s p (qac (qah t)).1 (qac (qah t)).2.1 l first
   have hsum:qav (qd2 s p (qac (qah t)).1 (qac (qah t)).2.1 l first) 0+qav (qd2 s p (qac (qah t)).1 (qac (qah t)).2.1 l first) 1+qav (qd2 s p (qac (qah t)).1 (qac (qah t)).2.1 l first) 2+qav (qd2 s p (qac (qah t)).1 (qac (qah t)).2.1 l first) 3=qav s 0+qav s 1+qav s 2+qav s 3+1:=by
    rw[c0,c0,c0,c0]
    have:l=0∨l=1∨l=2∨l=3:=by omega
    rcases this with rfl|rfl|rfl|rfl<;>simp<;>omega
   rw[hsum,←ht,qrc,qrc,qrc]
   simp only[qao,List.mem_cons,List.not_mem_nil,or_false] at hm
   have u1:((112:UInt8)=113)=False:=by decide
   have u2:((113:UInt8)=112)=False:=by decide
   have u3:((112:UInt8)=114)=False:=by decide
   have u4:((114:UInt8)=112)=False:=by decide
   have u5:((113:UInt8)=114)=False:=by decide
   have u6:((114:UInt8)=113)=False:=by decide
   rcases hm with rfl|rfl|rfl<;>simp[qql,u1,u2,u3,u4,u5,u6]<;>omega
end
section
open Go Go.Abs Go.RowKit
noncomputable def hkJ:List (FuncId×(List AV→AH→Option (AV×AH))):=(179,qy2)::hkI
theorem hkJ_ok:∀e∈hkJ,HookOne Tryz.prog e.1 e.2:=by
 intro e he
 rcases List.mem_cons.1 he with rfl|he
 ·exact q5z
 ·exact q57 e he
theorem runJ:qcp Tryz.prog (arun Tryz.prog all (qbw hkJ) 2000 100):=qrl mixed draws (qc4 hkJ_ok).1 (qc4 hkJ_ok).2 100
def LSay:List (List AV×AV):=[([.str [112,40,49,41]],.agg [.int .i64 2,.int .i64 0,.str [112],.vals 4 [[.int .i64 1,.int .i64 1,.str [],.nils]]]),([.str [112,40,50,41]],.agg [.int .i64 2,.int .i64 0,.str [112],.vals 4 [[.int .i64 1,.int .i64 2,.str [],.nils]]])]
set_option maxRecDepth 100000 in
theorem kSay:AllE Tryz.prog 25 LSay:=qqu runJ (by decide +kernel)
end
section
open Go Go.Abs Go.RowKit
attribute [local congr] qai qaj qag
attribute [local congr] qal
def tP(n:Int):Tm:=.mk 2 0 [112] [.mk 1 n [] []]
theorem ACalls.seen{P:Program}{f:FuncId}{args:List AV}{x y:AV}(hf:∀H,FzR H (fun _ _ _ _=>False) (fun _ _=>False) (fun _=>False) x y){H:AH}(h:ACalls P f args H fun y' H'=>y'=x∧H'=H):ACalls P f args H fun y' H'=>y'=y∧H'=H:=by
 intro K G vs w hr hv
 refine (h K G vs w hr hv).mono fun e w' ⟨u,x',G',H',h1,h2,h3,h4,h5,h6⟩=>?_
 subst h5;subst h6
 refine⟨u,y,G',H',h1,h2,h3,?_,rfl,rfl⟩
 exact FzR_ok h3 (fun g r b o n hd _ _=>hd.elim) (G:=G') (Gf:=G') (fun b o v hv=>hv) (fun g e g' e' hk=>hk.elim) (fun g g' hk=>hk.elim) (hf _) u h4
theorem say_fz(n:Int)(H:AH):FzR H (fun _ _ _ _=>False) (fun _ _=>False) (fun _=>False) (.agg [.int .i64 2,.int .i64 0,.str [112],.vals 4 [[.int .i64 1,.int .i64 n,.str [],.nils]]]) (tmA (tP n)):=by
 refine .ofAgg (.cons (.pure rfl) (.cons (.pure rfl) (.cons (.pure rfl) (.cons ?_ .nil))))
 refine .vals rfl (by simp) (by simp[qbf,qof,tP]) fun j x y hx hy=>?_
 have hx:[AV.int .i64 1,.int .i64 n,.str [],.nils][j]? = some x:=hx
 have hy:[AV.int .i64 1,.int .i64 n,.str [],.vals 4 []][j]? = some y:=hy
 match j,hx,hy with
 |0,hx,hy=>cases hx;cases hy;exact .pure rfl
 |1,hx,hy=>cases hx;cases hy;exact .pure rfl
 |2,hx,hy=>cases hx;cases hy;exact .pure rfl
 |3,hx,hy=>cases hx;cases hy;exact .nils 4
 |j+4,hx,hy=>simp at hx
noncomputable def sayS:List AV→Option AV
 |[.str s]=>if s=[112,40,49,41] then some (tmA (tP 1)) else if s=[112,40,50,41] then some (tmA (tP 2)) else none
 |_=>none
theorem say_one:HookOne Tryz.prog 25 (qae sayS):=by
 refine HookOne.ofPureF (by decide +kernel) fun args y h H=>?_
 unfold sayS at h;split at h
 ·rename_i s
  split at h
  ·rename_i hs
   cases h;subst hs
   exact ACalls.seen (say_fz 1) (kSay _ (List.mem_cons_self ..) 1 _ _ rfl)
  ·split at h
   ·rename_i hs
    cases h;subst hs
    exact ACalls.seen (say_fz 2) (kSay _ (List.mem_cons_of_mem _ (List.mem_cons_self ..)) 1 _ _ rfl)
   ·cases h
 ·cases h
def LSame:List (List AV×AV):=[([.agg [.int .i64 2,.int .i64 0,.str [112],.vals 4 [[.int .i64 1,.int .i64 1,.str [],.vals 4 []]]],.agg [.int .i64 2,.int .i64 0,.str [112],.vals 4 [[.int .i64 1,.int .i64 1,.str [],.vals 4 []]]]],.bool true)]
set_option maxRecDepth 100000 in
theorem kSame:AllE Tryz.prog 14 LSame:=qqu runI (by decide +kernel)
noncomputable def qxv:List AV→Option AV
 |[x,y]=>only (x=tmA (tP 1)∧y=tmA (tP 1)) (some (.bool true))
 |_=>none
theorem same1_eq:qxv [.agg (tmC (tP 1)),.agg (tmC (tP 1))]=some (.bool true):=qa0 ⟨rfl,rfl⟩ _
theorem q3v:HookOne Tryz.prog 14 (qae qxv):=by
 refine HookOne.ofPureF (by decide +kernel) fun args y h H=>?_
 unfold qxv at h;split at h
 ·rename_i x z
  obtain⟨⟨h1,h2⟩,h3⟩:=qau h
  cases h3;subst h1;subst h2
  exact kSame _ (List.mem_cons_self ..) 4 _ _ rfl
 ·cases h
theorem cl1(n:Int)(hn:0≤n):qac (tP n)=(tP n,qbl,0):=rfl
theorem pl1(n:Int):qah (tP n)=tP n:=rfl
theorem pb1:qep [112] 1=false:=by decide +kernel
theorem sof1(n:Int):qd6 qao (tP n)=(⟨[112],1,3,false⟩,0):=by
 have hg:(tP n).good=true:=rfl
 unfold qd6
 rw[if_pos hg,if_neg (by show ¬(2:Int)=0;omega),if_neg (by show ¬(2:Int)=1;omega),if_neg (by show ¬qep [112] 1=true;rw[pb1];simp)]
 rfl
theorem q6o(n:Int)(h:0≤n∧n≤5):Fine 1000 (tP n):=.mk _ _ _ _ (by omega) (by omega) (by unfold maxLen;simp) (by simp) fun x hx=>by
 rw[List.mem_singleton] at hx;subst hx
 exact .mk _ _ _ _ (by omega) (by omega) (by unfold maxLen;simp) (by simp) (fun x hx=>by cases hx)
def aw1:St:=qd2 (st0 9 0) ⟨[112],1,3,false⟩ (tP 1) qbl 0 false
def aw2:St:=qd2 aw1 ⟨[112],1,3,false⟩ (tP 2) qbl 1 false
theorem awp1:qc6 (st0 9 0) (tP 1) 0 false=(1,0,aw1):=by
 unfold qc6
 rw[cl1 1 (by omega),pl1,cl1 1 (by omega)]
 have:(st0 9 0).ps=qao:=rfl
 rw[this,sof1]
 rfl
theorem awp2:qc6 aw1 (tP 2) 1 false=(2,0,aw2):=by
 unfold qc6
 rw[cl1 2 (by omega),pl1,cl1 2 (by omega)]
 have:aw1.ps=qao:=rfl
 rw[this,sof1]
 rfl
theorem awv0:qec aw2 [112] 1 0=[⟨1,0,tP 1,qbl⟩]:=rfl
theorem awv1:qec aw2 [112] 1 1=[⟨1,0,tP 1,qbl⟩,⟨2,1,tP 2,qbl⟩]:=rfl
theorem Good.view{nx0 nx g k:Nat}{gs:Tr Grp}{ms:Tr qbm}{s:St}(h:Good ⟨nx0,gs,ms⟩ g s k)(nm:List UInt8)(ar cl:Int):qeh (qe3 qve) [.ptr g 0 0,.str nm,.int .i64 ar,.int .u64 cl] ⟨nx,gs,ms⟩=some (.vals 10 ((qec s nm ar cl).map clC),⟨nx,gs,ms⟩):=
 qhe qml ⟨g,s,nm,ar,cl,rfl,h.at'.move rfl rfl,h.ok,rfl⟩
theorem Good.next{nx0 nx g k:Nat}{gs:Tr Grp}{ms:Tr qbm}{s:St}(h:Good ⟨nx0,gs,ms⟩ g s k):Good ⟨nx,gs,ms⟩ g s k:=⟨h.at'.move rfl rfl,h.ok,h.full,h.la⟩
theorem Good.eq'{nx g k:Nat}{gs:Tr Grp}{ms:Tr qbm}{s:St}(h:Good ⟨nx,gs,ms⟩ g s k)(hk:k<1000000){t:Tm}(hf:Fine 1000 t){l:Int}(hl:0≤l∧l<4)(first:Bool):∃gs' ms',qeh addR [.ptr g 0 0,.agg (tmC t),.int .u64 l,.bool first] ⟨nx,gs,ms⟩=some (.tup [.int .i64 (qc6 s t l first).1,.int .i64 (qc6 s t l first).2.1],⟨nx,gs',ms'⟩)∧Good ⟨nx,gs',ms'⟩ g (qc6 s t l first).2.2 (k+1)∧(∀g',g'≠g→gs'.get g'=gs.get g')∧(∀g',g'≠s.g1→g'≠s.g2→ms'.get g'=ms.get g')∧(qc6 s t l first).2.2.g1=s.g1∧(qc6 s t l first).2.2.g2=s.g2:=by
 have h1:=h.eq hk hf hl first
 have h2:=h.add hk hf l first
 by_cases hc:(qc6 s t l first).2.1=0
 ·rw[if_pos hc] at h1 h2
  have hg:(qc6 s t l first).2.2.g1=s.g1∧(qc6 s t l first).2.2.g2=s.g2:=by
   rcases qc5 s t l first with⟨-,h2,-⟩|⟨-,-,-,-,h5⟩
   ·rw[h2];exact⟨rfl,rfl⟩
   ·rw[h5];exact⟨rfl,rfl⟩
  refine⟨_,_,h1,h2,fun g' hg'=>Tr.get_set_ne _ _ hg',fun g' e1 e2=>?_,hg.1,hg.2⟩
  rw[Tr.get_set_ne _ _ (by rw[hg.2];exact e2),Tr.get_set_ne _ _ (by rw[hg.1];exact e1)]
 ·rw[if_neg hc] at h1 h2
  have hs:(qc6 s t l first).2.2=s:=by
   rcases qc5 s t l first with⟨-,h2,-⟩|⟨-,-,-,-,h5⟩
   ·exact h2
   ·rw[h5] at hc;exact absurd rfl hc
  refine⟨gs,ms,h1,h2,fun _ _=>rfl,fun _ _ _=>rfl,by rw[hs],by rw[hs]⟩
end
section
open Go Go.Abs Go.RowKit
attribute [local congr] qai qaj qag
noncomputable abbrev lsAw:List (FuncId×(List AV→AH→Option (AV×AH))):=[(10,qeh q5h),(25,qae sayS),(12,qeh addR),(26,qeh (qe3 qve)),(14,qae qxv)]
theorem lsAw_ok:∀e∈lsAw,HookOne Tryz.prog e.1 e.2:=by
 intro e he
 simp only[lsAw,List.mem_cons,List.not_mem_nil,or_false] at he
 rcases he with rfl|rfl|rfl|rfl|rfl
 ·exact made_one
 ·exact say_one
 ·exact q8c
 ·exact qxl
 ·exact q3v
theorem made_eq(q:Int)(hq:1≤q∧q≤64){nx:Nat}{gs:Tr Grp}{ms:Tr qbm}(f1:gs.get nx=none)(f2:ms.get (nx+1)=none)(f3:ms.get (nx+2)=none):qeh q5h [.int .i64 q] ⟨nx,gs,ms⟩=some (.tup [.ptr nx 0 0,.vptr [] 0],qei ⟨nx,gs,ms⟩ q):=
 qfp qtd ⟨q,rfl,hq,⟨f1,f2,f3⟩,rfl,rfl⟩
def qly:List AV→Option AV
 |[]=>some (.bool true)
 |_=>none
theorem qfm:qly []=some (.bool true):=(rfl)
set_option maxHeartbeats 4000000 in
theorem qwu:HookOne Tryz.prog 9 (qae qly):=by
 refine HookOne.ofPureF (by decide +kernel) fun args y h H=>?_
 unfold qly at h;split at h
 ·cases h
  refine ACalls.ofRun lsAw_ok mixed (draws _ rfl) q29 rfl (by rfl) 10 ?_ H
  have hm:qeh q5h [.int .i64 9] ⟨0,.nil,.nil⟩=some (.tup [.ptr 0 0 0,.vptr [] 0],⟨3,(qei ⟨0,.nil,.nil⟩ 9).gs,(qei ⟨0,.nil,.nil⟩ 9).ms⟩):=made_eq 9 (by omega) (Tr.get_nil _) (Tr.get_nil _) (Tr.get_nil _)
  have g0:Good ⟨3,(qei ⟨0,.nil,.nil⟩ 9).gs,(qei ⟨0,.nil,.nil⟩ 9).ms⟩ 0 (st0 9 0) 0:=good0 ⟨0,.nil,.nil⟩ 9
  generalize (qei ⟨0,.nil,.nil⟩ 9).gs=gs0 at hm g0
  generalize (qei ⟨0,.nil,.nil⟩ 9).ms=ms0 at hm g0
  obtain⟨gs1,ms1,a1,g1,-⟩:=g0.eq' (by omega) (q6o 1 (by omega)) (l:=0) (by omega) false
  rw[awp1] at a1 g1
  obtain⟨gs2,ms2,a2,g2,-⟩:=g1.eq' (by omega) (q6o 2 (by omega)) (l:=1) (by omega) false
  simp only at a2 g2
  rw[awp2] at a2 g2
  simp only at a1 a2 g2
  have s1:sayS [.str [112,40,49,41]]=some (.agg (tmC (tP 1))):=rfl
  have s2:sayS [.str [112,40,50,41]]=some (.agg (tmC (tP 2))):=rfl
  have v0:=fun nx=>g2.view (nx:=nx) [112] 1 0
  have v1:=fun nx=>g2.view (nx:=nx) [112] 1 1
  rw[awv0] at v0
  rw[awv1] at v1
  simp only[List.map_cons,List.map_nil,clC] at v0 v1
  simp (maxSteps:=1000000) (disch:=omega) only[yAwake,xinit_0,↓axP,axQ,seval,qaa,qab,tX,hm,s1,s2,a1,a2,v0,v1,same1_eq]
  exact Ans.some (.pure rfl)
 ·cases h
end
section
open Go Go.Abs Go.RowKit
attribute [local congr] qai qaj qag
def qh9:Nat→Tm→Bool
 |0,_=>true
 |n+1,t=>decide (12<t.args.length)||t.args.any (qh9 n)
theorem qnq{M:Nat}:∀(n:Nat) (t:Tm),qh9 n t=false→Fine M t→Fine 12 t
 |0,t,h,_=>by cases h
 |n+1,t,h,hf=>by
  cases hf with
  |mk k m s l hk hn hs hl hx=>
   simp only[qh9,Tm.args,Bool.or_eq_false_iff] at h
   exact .mk k m s l hk hn hs (by have:=of_decide_eq_false h.1;omega) fun x hxl=>qnq n x (by simpa using List.any_eq_false.1 h.2 x hxl) (hx x hxl)
theorem q6p{N M:Nat}(h:N≤M):∀t:Tm,Fine N t→Fine M t
 |t,hf=>by
  induction hf with
  |mk k n s l hk hn hs hl hx ih=>exact .mk k n s l hk hn hs (by omega) ih
noncomputable def qwl(m:Nat):List AV→Option AV
 |[x,.int .i64 n]=>(ofT x).bind fun t=>only (n=m∧m≤1000) (some (.bool (qh9 m t)))
 |_=>none
theorem qq7{m:Nat}{n:Int}{t:Tm}(h:n=m∧m≤1000):qwl m [.agg (tmC t),.int .i64 n]=some (.bool (qh9 m t)):=by
 show (ofT (tmA t)).bind _=_
 rw[qcc];exact qa0 h _
theorem q1d{m:Nat}(hm:m≤1000)(F0:Nat)(t:Tm)(hl:t.args.length≤12):∀(l2 l1:List Tm) (F:Nat),t.args=l1++l2→l2.length<F →
  iter (ycode (tcall [(11,qae (qwl m))]) F0 q21) F (mk [(1,.int .i64 ((m:Int)+1)),(2,.ptr 0 0 0),(5,.int .i64 l1.length)]) ⟨1,Tr.nil.set 0 ⟨0,0,tmC t⟩,.nil⟩ =
   if l2.any (qh9 m)=true then some (.ret,mk [(4,.bool true)],⟨1,Tr.nil.set 0 ⟨0,0,tmC t⟩,.nil⟩) else some (.exit 0,mk [],⟨1,Tr.nil.set 0 ⟨0,0,tmC t⟩,.nil⟩):=by
 intro l2
 induction l2 with
 |nil=>
  intro l1 F h1 h4
  obtain⟨k,rfl⟩:=qam (f:=fun _ _=>none) (n:=F) (by omega)
  rw[List.append_nil] at h1
  have hlt:((l1.length:Int)<(t.args.length:Int))=False:=by rw[h1];simp
  rw[qad]
  simp (maxSteps:=1000000) (disch:=omega) only[qpz,qmd,↓axP,axQ,seval,qaa,qab,tX,hlt,List.length_map,List.any_nil]
  all_goals rfl
 |cons x l2 ih=>
  intro l1 F h1 h4
  obtain⟨k,rfl⟩:=qam (f:=fun _ _=>none) (n:=F) (by omega)
  have hR:l1.length+1≤12:=by rw[h1] at hl;simp at hl;omega
  have hlt:((l1.length:Int)<(t.args.length:Int))=True:=eq_true (by rw[h1];simp;omega)
  have hget:(t.args.map tmC)[l1.length]? = some (tmC x):=by rw[h1];simp
  have hi:(0:Int)≤(l1.length:Int):=by omega
  have hs:(m:Int)+1-1=m:=by omega
  have IH:=ih (l1++[x]) k (by simp[h1]) (by simp at h4;omega)
  have hls:(l1++[x]).length=l1.length+1:=by simp
  rw[hls] at IH
  simp only[Int.natCast_add,Int.natCast_one] at IH
  have hr:=qq7 (m:=m) (n:=m) (t:=x) ⟨rfl,hm⟩
  rw[qad,List.any_cons]
  cases hd:qh9 m x with
  |true=>
   simp (maxSteps:=1000000) (disch:=omega) only[qpz,qmd,↓axP,axQ,seval,qaa,qab,tX,hlt,hi,hget,Int.toNat_natCast,List.length_map,hr,hd,hs]
  |false=>
   simp (maxSteps:=1000000) (disch:=omega) only[qpz,qmd,↓axP,axQ,seval,qaa,qab,tX,hlt,hi,hget,Int.toNat_natCast,List.length_map,hr,hd,hs,IH]
theorem qo4:∀m:Nat,HookOne Tryz.prog 11 (qae (qwl m))
 |0=>by
  refine HookOne.ofPureF (by decide +kernel) fun args y h H=>?_
  unfold qwl at h;split at h
  ·rename_i x n
   rw[Option.bind_eq_some_iff] at h
   obtain⟨t,h1,h2⟩:=h
   obtain⟨⟨rfl,hc⟩,h3⟩:=qau h2
   cases h3
   obtain rfl:=qbr h1
   refine ACalls.ofRun (l:=[]) (by simp) mixed (draws _ rfl) qxf rfl (by simp[qa2,qas,qba]) 0 ?_ H
   unfold tmA
   simp (maxSteps:=1000000) (disch:=omega) only[q22,qak,↓axP,axQ,seval,qaa,qab,tX,qh9]
   exact Ans.some (.pure rfl)
  ·cases h
 |m+1=>by
  refine HookOne.ofPureF (by decide +kernel) fun args y h H=>?_
  have hl:∀e∈[(11,qae (qwl m))],HookOne Tryz.prog e.1 e.2:=by
   intro e he;simp at he;subst he;exact qo4 m
  unfold qwl at h;split at h
  ·rename_i x n
   rw[Option.bind_eq_some_iff] at h
   obtain⟨t,h1,h2⟩:=h
   obtain⟨⟨rfl,hc⟩,h3⟩:=qau h2
   cases h3
   obtain rfl:=qbr h1
   refine ACalls.ofRun hl mixed (draws _ rfl) qxf rfl (by simp[qa2,qas,qba]) (t.args.length+1) ?_ H
   unfold tmA
   have h0:(((m:Int)+1)<1)=False:=eq_false (by omega)
   by_cases hn:t.args.length≤12
   ·have hn1:((12:Int)<(t.args.length:Int))=False:=eq_false (by omega)
    have hn2:decide (12<t.args.length)=false:=by simp;omega
    have q:=q1d (m:=m) (by omega) (t.args.length+1) t hn t.args [] (t.args.length+1) rfl (Nat.lt_succ_self _)
    simp only[List.length_nil,Int.natCast_zero] at q
    simp only[qh9,hn2,Bool.false_or]
    cases ha:t.args.any (qh9 m) with
    |true=>
     simp only[ha,if_true] at q
     simp (maxSteps:=1000000) (disch:=omega) only[q22,qak,↓axP,axQ,seval,qaa,qab,tX,h0,hn1,List.length_map,q]
     exact Ans.some (.pure rfl)
    |false=>
     simp only[ha,if_false] at q
     simp (maxSteps:=1000000) (disch:=omega) only[q22,qak,↓axP,axQ,seval,qaa,qab,tX,h0,hn1,List.length_map,q]
     exact Ans.some (.pure rfl)
   ·have hn1:((12:Int)<(t.args.length:Int))=True:=eq_true (by omega)
    have hn2:decide (12<t.args.length)=true:=by simp;omega
    simp only[qh9,hn2,Bool.true_or]
    simp (maxSteps:=1000000) (disch:=omega) only[q22,qak,↓axP,axQ,seval,qaa,qab,tX,h0,hn1,List.length_map]
    exact Ans.some (.pure rfl)
  ·cases h
end
end Go.Proofs.YtdekdghldblfaaaGreatDoor
