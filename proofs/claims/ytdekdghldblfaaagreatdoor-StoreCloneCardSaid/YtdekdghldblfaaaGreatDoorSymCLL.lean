import Derived.Test.YtdekdghldblfaaaGreatDoorYOwn18
import Derived.Test.YtdekdghldblfaaaGreatDoorSymA
import Derived.Test.YtdekdghldblfaaaGreatDoorSymRB
import Derived.Test.YtdekdghldblfaaaGreatDoorSymS
import Derived.Test.YtdekdghldblfaaaGreatDoorYDc
import Derived.Test.YtdekdghldblfaaaGreatDoorSymHH
import Derived.Test.YtdekdghldblfaaaGreatDoorSymCD
import Derived.Test.YtdekdghldblfaaaGreatDoorSymDR
import Derived.Test.YtdekdghldblfaaaGreatDoorSymDH2
set_option linter.unusedVariables false
set_option linter.unusedSimpArgs false
namespace Go.Proofs.YtdekdghldblfaaaGreatDoor
section
open Go Go.Abs Go.RowKit
attribute [local congr] qai qaj qag
noncomputable def ownS(n:Nat):List AV→Option AV
 |[x]=>(ofT x).bind fun t=>only (t.height≤n∧Fine 1000 t) (some (tmA t))
 |_=>none
theorem qqi{n:Nat}{t:Tm}(h:t.height≤n∧Fine 1000 t):ownS n [.agg (tmC t)]=some (.agg (tmC t)):=by
 show (ofT (tmA t)).bind _=_
 rw[qcc];exact qa0 h _
def OwnJ(t:Tm)(H:AH)(o:AV)(l:List Tm):Prop:=
 H.wf∧3≤H.next∧H.gs.get 0=some ⟨0,0,tmC t⟩∧H.gs.get 1=some ⟨0,0,[.int .i64 0,.int .i64 0,.str [],.nils]⟩∧H.gs.get 2=some ⟨0,0,[.int .i64 t.kind,.int .i64 t.num,.str t.name,o]⟩∧Ows H o 4 (l.map tmC).flatten l.length∧OB 3 o
set_option maxHeartbeats 1000000 in
theorem q42{n:Nat}(F0:Nat)(t:Tm)(hl:t.args.length≤1000):∀(l2 l1:List Tm) (o:AV) (H:AH) (F:Nat),t.args=l1++l2→(∀x∈l2,x.height≤n∧Fine 1000 x)→OwnJ t H o l1→l2.length<F →
  ∃o' H',iter (ycode (tcall [(18,qae (ownS n))]) F0 qu7) F (mk [(1,.ptr 0 0 0),(2,.ptr 1 0 0),(3,.ptr 2 0 0),(4,.int .i64 l1.length)]) H=some (.exit 0,mk [(2,.ptr 1 0 0),(3,.ptr 2 0 0)],H')∧OwnJ t H' o' t.args:=by
 intro l2
 induction l2 with
 |nil=>
  intro l1 o H F h1 h2 h3 h4
  obtain⟨m,rfl⟩:=qam (f:=fun _ _=>none) (n:=F) (by omega)
  rw[List.append_nil] at h1
  have hlt:((l1.length:Int)<(t.args.length:Int))=False:=by rw[h1];simp
  have h0:=h3.2.2.1
  refine⟨o,H,?_,by rw[h1];exact h3⟩
  rw[qad]
  simp (maxSteps:=1000000) (disch:=omega) only[qsa,qle,↓axP,axQ,seval,qaa,qab,tX,hlt,h0,List.length_map]
 |cons x l2 ih=>
  intro l1 o H F h1 h2 h3 h4
  obtain⟨m,rfl⟩:=qam (f:=fun _ _=>none) (n:=F) (by omega)
  have hR:l1.length+1≤1000:=by rw[h1] at hl;simp at hl;omega
  have hlt:((l1.length:Int)<(t.args.length:Int))=True:=eq_true (by rw[h1];simp;omega)
  have hget:(t.args.map tmC)[l1.length]? = some (tmC x):=by rw[h1];simp
  have hi:(0:Int)≤(l1.length:Int):=by omega
  obtain⟨w1,w2,g0,g1,g2,w3,w4⟩:=h3
  have hr:=qqi (h2 x (List.mem_cons_self ..))
  obtain⟨nx,gs,ms⟩:=H
  simp only at g0 g1 g2 w2
  have e8:gs.get (nx+8)=none:=w1 (nx+8) (by simp)
  have q0:(0=nx+8)=False:=eq_false (by omega)
  have q2:(2=nx+8)=False:=eq_false (by omega)
  have wfA:AH.wf ⟨nx+12,gs.set (nx+8) ⟨0,0,tmC x⟩,ms⟩:=fun g hg=>by
   show (gs.set (nx+8) _).get g=none
   have:nx+12≤g:=hg
   rw[Tr.get_set_ne _ _ (by omega)];exact w1 g (by show nx≤g;omega)
  have owA:Ows ⟨nx+12,gs.set (nx+8) ⟨0,0,tmC x⟩,ms⟩ o 4 (l1.map tmC).flatten l1.length:=w3.keep (by simp) fun g hg=>Tr.get_set_ne _ _ (by have:g<nx:=hg;omega)
  obtain⟨v',H',e1,e2,e3,e4,e5,e6⟩:=qe5 (x:=.slc (nx+8) 0 0 1 4) (z:=4) (b:=56) (m:=1) (xs:=tmC x) owA wfA (by simp only[↓axP,axQ,seval,qaa,qab,tX]) (qbf x) (by omega) (by omega) (by omega)
  have f0:H'.gs.get 0=some ⟨0,0,tmC t⟩:=by rw[e4.get w4 (by omega) (by show 0<nx+12;omega)];show (gs.set (nx+8) _).get 0=_;rw[Tr.get_set_ne _ _ (by omega)];exact g0
  have f1:H'.gs.get 1=some ⟨0,0,[.int .i64 0,.int .i64 0,.str [],.nils]⟩:=by rw[e4.get w4 (by omega) (by show 1<nx+12;omega)];show (gs.set (nx+8) _).get 1=_;rw[Tr.get_set_ne _ _ (by omega)];exact g1
  have f2:H'.gs.get 2=some ⟨0,0,[.int .i64 t.kind,.int .i64 t.num,.str t.name,o]⟩:=by rw[e4.get w4 (by omega) (by show 2<nx+12;omega)];show (gs.set (nx+8) _).get 2=_;rw[Tr.get_set_ne _ _ (by omega)];exact g2
  have o':=e6 3 (by show 3≤nx+12;omega) w4
  have hn3:3≤H'.next:=Nat.le_trans (by show 3≤nx+12;omega) e4.1
  have hfl:(l1.map tmC).flatten++tmC x=((l1++[x]).map tmC).flatten:=by simp
  rw[hfl] at e2
  obtain⟨o2,H2,k1,k2⟩:=ih (l1++[x]) v' ⟨H'.next,H'.gs.set 2 ⟨0,0,[.int .i64 t.kind,.int .i64 t.num,.str t.name,v']⟩,H'.ms⟩ m (by simp[h1]) (fun y hy=>h2 y (List.mem_cons_of_mem _ hy))
   ⟨qp1 e3 (by omega) _,hn3,by show (H'.gs.set 2 _).get 0=_;rw[Tr.get_set_ne _ _ (by omega)];exact f0,by show (H'.gs.set 2 _).get 1=_;rw[Tr.get_set_ne _ _ (by omega)];exact f1,Tr.get_set_same _ _ _,by simpa using e2.set o' (by omega) _,o'⟩ (by simp at h4;omega)
  refine⟨o2,H2,?_,k2⟩
  rw[qad]
  have hs:(l1++[x]).length=l1.length+1:=by simp
  rw[hs] at k1
  simp (maxSteps:=1000000) (disch:=omega) only[↓axP,axQ,seval,qaa,qab] at k1
  simp (maxSteps:=1000000) (disch:=omega) only[qsa,qle,↓axP,axQ,seval,qaa,qab,tX,hlt,hi,hget,Int.toNat_natCast,List.length_map,g0,g2,q0,q2,e8,hr,e1,f2,e2.fit,e2.cell,k1]
theorem q41{n:Nat}(hown:HookOne Tryz.prog 18 (qae (ownS n))):HookOne Tryz.prog 18 (qae (ownS (n+1))):=by
 refine HookOne.ofPureF (by decide +kernel) fun args y h H=>?_
 have hl:∀e∈[(18,qae (ownS n))],HookOne Tryz.prog e.1 e.2:=by
  intro e he;simp at he;subst he;exact hown
 unfold ownS at h;split at h
 ·rename_i x
  rw[Option.bind_eq_some_iff] at h
  obtain⟨t,h1,h2⟩:=h
  obtain⟨hc,h3⟩:=qau h2
  cases h3
  obtain rfl:=qbr h1
  refine ACalls.ofRun hl mixed (draws _ rfl) q2w rfl (by simp[qa2,qas]) (t.args.length+1) ?_ H
  have hA:∀x∈t.args,x.height≤n∧Fine 1000 x:=fun x hx=>by
   obtain⟨i,hi,rfl⟩:=List.getElem_of_mem hx
   have:=qfv hi
   have h0:=hc.1
   rw[qbk] at h0
   exact⟨by omega,hc.2.args.2.1 _ hx⟩
  have wf0:AH.wf ⟨3,((Tr.nil.set 0 ⟨0,0,tmC t⟩).set 1 ⟨0,0,[.int .i64 0,.int .i64 0,.str [],.nils]⟩).set 2 ⟨0,0,[.int .i64 t.kind,.int .i64 t.num,.str t.name,.nils]⟩,.nil⟩:=qip (qip (qip qp2 _) _) _
  obtain⟨o',H',k1,w1,w2,g0,g1,g2,w3,w4⟩:=q42 (n:=n) (t.args.length+1) t hc.2.args.1 t.args [] .nils _ (t.args.length+1) rfl hA ⟨wf0,Nat.le_refl _,by simp only[↓axP,axQ,seval,qaa,qab],by simp only[↓axP,axQ,seval,qaa,qab],by simp only[↓axP,axQ,seval,qaa,qab],qe4 _ _,qi1 _⟩ (Nat.lt_succ_self _)
  simp (maxSteps:=1000000) (disch:=omega) only[↓axP,axQ,seval,qaa,qab] at k1
  unfold tmA
  have ho:o'.one=true:=by
   obtain⟨-,q⟩:=w3
   rcases q with⟨rfl,-⟩|⟨g,e,rfl,-⟩<;>rfl
  simp (maxSteps:=1000000) (disch:=omega) only[yOwn18,qaf,↓axP,axQ,seval,qaa,qab,tX,k1,g2,g1,ho]
  rw[qbq t]
  refine Ans.some (.ofAgg (.cons (.pure rfl) (.cons (.pure rfl) (.cons (.pure rfl) (.cons ?_ (.nil _))))))
  exact (w3.set w4 (by omega) _).fz (by simp) (qvk _) (FzL.pure (qcx (qci _)))
 ·cases h
theorem qm2:∀n:Nat,HookOne Tryz.prog 18 (qae (ownS n))
 |0=>by
  refine HookOne.ofPureF (by decide +kernel) fun args y h H=>?_
  unfold ownS at h;split at h
  ·rename_i x
   rw[Option.bind_eq_some_iff] at h
   obtain⟨t,h1,h2⟩:=h
   obtain⟨hc,h3⟩:=qau h2
   have:=hc.1
   rw[qbk] at this
   omega
  ·cases h
 |n+1=>q41 (qm2 n)
end
section
open Go Go.Abs Go.RowKit
attribute [local congr] qai qaj qag
noncomputable def ofCls:AV→Option (List Cl):=back qcf
theorem ofCls_eq(l:List Cl):ofCls (qcf l)=some l:=qkm (fun a b h=>qjf h) l
noncomputable def qzo:List AV→Option AV
 |[x,y]=>(ofCls x).bind fun l=>only (y=qcf l∧l.length≤10000000∧∀c∈l,q1s c) (some (.bool true))
 |_=>none
theorem q7o{l:List Cl}(h:l.length≤10000000∧∀c∈l,q1s c):qzo [.vals 10 (l.map clC),.vals 10 (l.map clC)]=some (.bool true):=by
 show (ofCls (qcf l)).bind _=_
 rw[ofCls_eq];exact qa0 ⟨rfl,h⟩ _
noncomputable abbrev lsCs:List (FuncId×(List AV→AH→Option (AV×AH))):=[(18,qae (ownS 70)),(58,qae (qhs 70))]
theorem lsCs_ok:∀e∈lsCs,HookOne Tryz.prog e.1 e.2:=by
 intro e he
 simp only[lsCs,List.mem_cons,List.not_mem_nil,or_false] at he
 rcases he with rfl|rfl
 ·exact qm2 70
 ·exact q3d 70
set_option maxHeartbeats 4000000 in
theorem cs_loop(F0:Nat)(l:List Cl)(hlen:l.length≤10000000)(hok:∀c∈l,q1s c):∀(l2 l1:List Cl) (nx F:Nat),l=l1++l2→l2.length<F →
  ∃nx',iter (ycode (tcall lsCs) F0 qva) F (mk [(0,.vals 10 (l.map clC)),(1,.vals 10 (l.map clC)),(5,.int .i64 l1.length)]) ⟨nx,.nil,.nil⟩=some (.exit 0,mk [],⟨nx',.nil,.nil⟩):=by
 intro l2
 induction l2 with
 |nil=>
  intro l1 nx F h1 h4
  obtain⟨k,rfl⟩:=qam (f:=fun _ _=>none) (n:=F) (by omega)
  rw[List.append_nil] at h1
  subst h1
  have hlt:((l.length:Int)<(l.length:Int))=False:=by simp
  refine⟨nx,?_⟩
  rw[qad]
  simp (maxSteps:=1000000) (disch:=omega) only[qsd,qlf,↓axP,axQ,seval,qaa,qab,tX,hlt,List.length_map]
 |cons c l2 ih=>
  intro l1 nx F h1 h4
  obtain⟨k,rfl⟩:=qam (f:=fun _ _=>none) (n:=F) (by omega)
  have hR:l1.length+1≤10000000:=by rw[h1] at hlen;simp at hlen;omega
  have hlt:((l1.length:Int)<(l.length:Int))=True:=eq_true (by rw[h1];simp;omega)
  have hget:(l.map clC)[l1.length]? = some (.int .i64 c.id::.int .u64 c.lab::(tmC c.hd++tmC c.bd)):=by rw[h1];simp[clC]
  have hi:(0:Int)≤(l1.length:Int):=by omega
  have hw:IntKind.i64.wrap ((l1.length:Int)+1)=(l1.length:Int)+1:=by rw[wrap_i64]<;>omega
  obtain⟨o1,o2⟩:=hok c (by rw[h1];simp)
  have a1:=qqi o1
  have a2:=qqi o2
  have b1:=qmo o1
  have b2:=qmo o2
  obtain⟨nx2,k3⟩:=ih (l1++[c]) (nx+54) k (by simp[h1]) (by simp at h4;omega)
  have hs:(l1++[c]).length=l1.length+1:=by simp
  rw[hs] at k3
  refine⟨nx2,?_⟩
  rw[qad]
  simp (maxSteps:=1000000) (disch:=omega) only[↓axP,axQ,seval,qaa,qab] at k3
  simp (maxSteps:=1000000) (disch:=omega) only[qsd,qlf,↓axP,axQ,seval,qaa,qab,tX,hlt,hi,hget,hw,a1,a2,b1,b2,Int.toNat_natCast,List.length_map,k3]
theorem q7n:HookOne Tryz.prog 21 (qae qzo):=by
 refine HookOne.ofPureF (by decide +kernel) fun args y h H=>?_
 unfold qzo at h;split at h
 ·rename_i x z
  rw[Option.bind_eq_some_iff] at h
  obtain⟨l,h1,h2⟩:=h
  obtain⟨⟨rfl,hlen,hok⟩,h3⟩:=qau h2
  cases h3
  obtain rfl:=qdi h1
  refine ACalls.ofRun lsCs_ok mixed (draws _ rfl) q24 rfl (by simp[qa2,qcf,qba,qfq]) 10000005 ?_ H
  obtain⟨nx',k1⟩:=cs_loop 10000005 l hlen hok l [] 0 10000005 rfl (by omega)
  unfold qcf
  simp (maxSteps:=1000000) (disch:=omega) only[↓axP,axQ,seval,qaa,qab] at k1
  simp (maxSteps:=1000000) (disch:=omega) only[yClses,qak,↓axP,axQ,seval,qaa,qab,tX,k1,List.length_map]
  exact Ans.some (.pure rfl)
 ·cases h
end
section
open Go Go.Abs Go.RowKit
structure Tri(gs:Tr Grp)(ms:Tr qbm)(s:St)(w:Ds)(k:Nat):Prop where
 gS:∀nx,Good ⟨nx,gs,ms⟩ 0 s k
 dW:∀nx,DsAt ⟨nx,gs,ms⟩ 3 4 20 w
 vs:SInv s 20
 di:DInv s
 ow:OkDs w
 nw:w.nx≤k+1
 dr:DR s w
 nums:s.g1=1∧s.g2=2
 wf:∀g,5≤g→gs.get g=none∧ms.get g=none
theorem q7d{s:St}(h:DInv s)(t:Tm)(l:Int)(first:Bool):DInv (qc6 s t l first).2.2:=by
 rcases qc5 s t l first with⟨-,h2,-⟩|⟨-,-,-,-,h5⟩
 ·rw[h2];exact h
 ·rw[h5];exact qzk h _ _ _ _ _
theorem Tri.step{gs:Tr Grp}{ms:Tr qbm}{s:St}{w:Ds}{k:Nat}(h:Tri gs ms s w k)(hk:k<1000){t:Tm}(hf:Fine 1000 t){l:Int}(hl:0≤l∧l<4)(first:Bool) :
  ∃gs1 ms1 gs2 i e j f s' w',(∀nx,qeh addR [.ptr 0 0 0,.agg (tmC t),.int .u64 l,.bool first] ⟨nx,gs,ms⟩=some (.tup [.int .i64 i,.int .i64 e],⟨nx,gs1,ms1⟩)) ∧
   (∀nx,qeh q1f [.ptr 3 0 0,.agg (tmC t),.int .u64 l,.bool first] ⟨nx,gs1,ms1⟩=some (.tup [.int .i64 j,.int .i64 f],⟨nx,gs2,ms1⟩))∧Tri gs2 ms1 s' w' (k+1):=by
 obtain⟨gs1,ms1,a1,a2,a3,a4,a5,a6⟩:=Good.eqA h.gS (by omega) hf hl first
 have hd1:∀nx,DsAt ⟨nx,gs1,ms1⟩ 3 4 20 w:=fun nx=>(h.dW nx).move (a3 3 (by omega)) (a3 4 (by omega))
 have hnx:=h.nw
 have hb:=fun nx=>qfp qt1 (args:=[.ptr 3 0 0,.agg (tmC t),.int .u64 l,.bool first]) (H:=⟨nx,gs1,ms1⟩) ⟨3,4,20,w,t,l,first,rfl,hd1 nx,h.ow,by omega,hf,hl,rfl,rfl⟩
 obtain⟨o1,o2⟩:=q43 (q:=20) h.ow (by omega) hf l first
 have hdr:=h.dr.add h.vs hf l first
 have hvs:=h.vs.add hl (t:=t) first
 have hdi:=q7d h.di t l first
 by_cases hc:(qjo 20 w t l first).2.1=0
 ·simp only[hc,if_true] at hb
  refine⟨gs1,ms1,(qh4 ⟨0,gs1,ms1⟩ 3 4 20 (qjo 20 w t l first).2.2).gs,_,_,_,_,_,_,a1,hb,fun nx=>(a2 nx).other ?_ rfl rfl,fun nx=>?_,hvs,hdi,o1,by omega,hdr,⟨a5.trans h.nums.1,a6.trans h.nums.2⟩,fun g hg=>⟨?_,?_⟩⟩
  ·rw[qcw _ (by omega),if_neg (by omega),if_neg (by omega)]
  ·exact putDs_at ⟨nx,gs1,ms1⟩ (by omega) 20 _
  ·rw[qcw _ (by omega),if_neg (by omega),if_neg (by omega)]
   exact (a3 g (by omega)).trans (h.wf g hg).1
  ·exact (a4 g (by rw[h.nums.1];omega) (by rw[h.nums.2];omega)).trans (h.wf g hg).2
 ·simp only[hc,if_false] at hb
  have hw:(qjo 20 w t l first).2.2=w:=by
   rcases qpj 20 w t l first with⟨-,h2,-⟩|⟨-,-,-,-,h5⟩
   ·exact h2
   ·rw[h5] at hc;exact absurd rfl hc
  rw[hw] at hdr
  refine⟨gs1,ms1,gs1,_,_,_,_,_,w,a1,hb,a2,hd1,hvs,hdi,h.ow,by omega,hdr,⟨a5.trans h.nums.1,a6.trans h.nums.2⟩,fun g hg=>⟨?_,?_⟩⟩
  ·exact (a3 g (by omega)).trans (h.wf g hg).1
  ·exact (a4 g (by rw[h.nums.1];omega) (by rw[h.nums.2];omega)).trans (h.wf g hg).2
structure Cl2(gs:Tr Grp)(ms:Tr qbm)(s:St)(w:Ds)(k cg:Nat)(c:St)(kc:Nat):Prop where
 gS:∀nx,Good ⟨nx,gs,ms⟩ 0 s k
 dW:∀nx,DsAt ⟨nx,gs,ms⟩ 3 4 20 w
 at':∀nx,StAt ⟨nx,gs,ms⟩ cg c
 ok:OkSt c
 di:DInv c
 la:c.la≤kc
 hc:5≤cg
 cn:c.g1=cg+1∧c.g2=cg+2
 nums:s.g1=1∧s.g2=2
theorem Tri.clone{gs:Tr Grp}{ms:Tr qbm}{s:St}{w:Ds}{k:Nat}(h:Tri gs ms s w k){nx:Nat}(hn:5≤nx):∃gs1 ms1 c,qeh qzp [.ptr 0 0 0] ⟨nx,gs,ms⟩=some (.ptr nx 0 0,⟨nx+3,gs1,ms1⟩)∧Cl2 gs1 ms1 s w k nx c k:=by
 have hg:=h.gS nx
 refine⟨_,_,qib s nx,qfp qo8 ⟨0,s,rfl,hg.at',⟨(h.wf nx hn).1,(h.wf (nx+1) (by omega)).2,(h.wf (nx+2) (by omega)).2⟩,rfl,rfl⟩,fun x=>(h.gS x).other ?_ ?_ ?_,fun x=>(h.dW x).move ?_ ?_,fun x=>(clone_at (H:=⟨nx,gs,ms⟩) s).move rfl rfl,⟨hg.ok.ns,hg.ok.ps,hg.ok.la,hg.ok.m,hg.ok.n⟩,⟨h.di.keys,h.di.born,h.di.bmax,h.di.ids,h.di.uid,h.di.cnt⟩,hg.la,hn,⟨rfl,rfl⟩,h.nums⟩
 ·exact Tr.get_set_ne _ _ (by show 0≠nx;omega)
 ·rw[h.nums.1]
  show ((ms.set (nx+1) _).set (nx+2) _).get 1=_
  rw[Tr.get_set_ne _ _ (by omega),Tr.get_set_ne _ _ (by omega)]
 ·rw[h.nums.2]
  show ((ms.set (nx+1) _).set (nx+2) _).get 2=_
  rw[Tr.get_set_ne _ _ (by omega),Tr.get_set_ne _ _ (by omega)]
 ·exact Tr.get_set_ne _ _ (by show 3≠nx;omega)
 ·exact Tr.get_set_ne _ _ (by show 4≠nx;omega)
theorem qqe{H:AH}{g x:Nat}(s:St)(h:x≠g):(qcu H g s).gs.get x=H.gs.get x:=Tr.get_set_ne _ _ h
theorem qya{H:AH}{g x:Nat}{s:St}(h1:x≠s.g1)(h2:x≠s.g2):(qcu H g s).ms.get x=H.ms.get x:=by
 show ((H.ms.set s.g1 _).set s.g2 _).get x=_
 rw[Tr.get_set_ne _ _ h2,Tr.get_set_ne _ _ h1]
theorem Cl2.put{gs:Tr Grp}{ms:Tr qbm}{s:St}{w:Ds}{k cg kc kc':Nat}{c c':St}(h:Cl2 gs ms s w k cg c kc)(h1:c'.g1=c.g1)(h2:c'.g2=c.g2)(hok:OkSt c')(hdi:DInv c')(hla:c'.la≤kc')(nx0:Nat):Cl2 (qcu ⟨nx0,gs,ms⟩ cg c').gs (qcu ⟨nx0,gs,ms⟩ cg c').ms s w k cg c' kc':=by
 have hc:=h.hc
 have e1:c'.g1=cg+1:=h1.trans h.cn.1
 have e2:c'.g2=cg+2:=h2.trans h.cn.2
 refine⟨fun x=>(h.gS x).other (qqe _ (by omega)) ?_ ?_,fun x=>(h.dW x).move (qqe _ (by omega)) (qqe _ (by omega)),fun x=>?_,hok,hdi,hla,hc,⟨e1,e2⟩,h.nums⟩
 ·rw[h.nums.1];exact qya (by omega) (by omega)
 ·rw[h.nums.2];exact qya (by omega) (by omega)
 ·refine⟨by omega,Tr.get_set_same _ _ _,?_,Tr.get_set_same _ _ _⟩
  show ((ms.set c'.g1 _).set c'.g2 _).get c'.g1=_
  rw[Tr.get_set_ne _ _ (by omega),Tr.get_set_same]
theorem Cl2.add{gs:Tr Grp}{ms:Tr qbm}{s:St}{w:Ds}{k cg kc:Nat}{c:St}(h:Cl2 gs ms s w k cg c kc)(hk:kc<1000){t:Tm}(hf:Fine 1000 t){l:Int}(hl:0≤l∧l<4)(first:Bool) :
  ∃gs1 ms1 i e c',(∀nx,qeh addR [.ptr cg 0 0,.agg (tmC t),.int .u64 l,.bool first] ⟨nx,gs,ms⟩=some (.tup [.int .i64 i,.int .i64 e],⟨nx,gs1,ms1⟩))∧Cl2 gs1 ms1 s w k cg c' (kc+1):=by
 have hla:=h.la
 have hb:=fun nx=>qfp qrw (args:=[.ptr cg 0 0,.agg (tmC t),.int .u64 l,.bool first]) (H:=⟨nx,gs,ms⟩) ⟨cg,c,t,l,first,rfl,h.at' nx,h.ok,by omega,hf,hl,rfl,rfl⟩
 rcases qc5 c t l first with⟨h1,h2,-⟩|⟨h1,h2,h3,h4,h5⟩
 ·simp only[h1,if_false] at hb
  exact⟨gs,ms,_,_,c,hb,⟨h.gS,h.dW,h.at',h.ok,h.di,by omega,h.hc,h.cn,h.nums⟩⟩
 ·rw[h5] at hb
  simp only[if_true] at hb
  obtain⟨-,hk1,hk2⟩:=qqr hf h1
  refine⟨_,_,_,_,_,hb,h.put (c':=qd2 c (qd6 c.ps (qac (qah t)).1).1 (qac (qah t)).1 (qac (qah t)).2.1 l first) rfl rfl (qzx h.ok (by omega) _ hk1 hk2 _ _) (qzk h.di _ _ _ _ _) ?_ 0⟩
  show c.la+1≤_
  omega
theorem Cl2.drop{gs:Tr Grp}{ms:Tr qbm}{s:St}{w:Ds}{k cg kc:Nat}{c:St}(h:Cl2 gs ms s w k cg c kc)(i:Int) :
  ∃gs1 ms1 e c',(∀nx,qeh dropR [.ptr cg 0 0,.int .i64 i] ⟨nx,gs,ms⟩=some (.int .i64 e,⟨nx,gs1,ms1⟩))∧Cl2 gs1 ms1 s w k cg c' (kc+1):=by
 have hla:=h.la
 have hb:=fun nx=>qfp qtu (args:=[.ptr cg 0 0,.int .i64 i]) (H:=⟨nx,gs,ms⟩) ⟨cg,c,i,rfl,h.at' nx,h.ok,h.di,rfl,rfl⟩
 rcases qwj c i with⟨h1,h2⟩|⟨e,j,x,he,hx,h5⟩
 ·simp only[h1,if_false] at hb
  exact⟨gs,ms,_,c,hb,⟨h.gS,h.dW,h.at',h.ok,h.di,by omega,h.hc,h.cn,h.nums⟩⟩
 ·rw[h5] at hb
  simp only[if_true] at hb
  refine⟨_,_,_,_,hb,h.put (c':=qd9 c e.2.1 e.2.2 j x.lab) rfl rfl (q68 h.ok h.di he hx) (qtw h.di he hx).1 ?_ 0⟩
  show c.la≤_
  omega
theorem rleq3{l:Int}(h:0≤l∧l<4):qe2 l 3=true:=by
 have:=or_leq 3 l (by omega) h
 rw[leq3 h] at this
 exact this
theorem q5m{s:St}{w:Ds}(hv:SInv s 20)(hd:DR s w):qzj w 3=qdp s 3 s.ps:=by
 have hall:∀nm ar,∀c∈qbb s nm ar,qe2 c.lab 3=true:=fun nm ar c hc=>by
  unfold qbb at hc
  cases hlk:qbz (nm,ar) s.m with
  |none=>rw[hlk] at hc;cases hc
  |some v=>
   rw[hlk] at hc
   obtain⟨e',k1,k2,k3⟩:=qhh hlk
   subst k3
   exact rleq3 (hv.lab e' k1 c hc)
 have hf:∀nm ar,(qbb s nm ar).filter (fun c=>qe2 c.lab 3)=qbb s nm ar:=fun nm ar=>List.filter_eq_self.2 (hall nm ar)
 have e0:qd1 w [112] 1 3=qbb s [112] 1:=by
  show (w.r0).filter _=_
  rw[hd.r0];exact hf _ _
 have e1:qd1 w [113] 2 3=qbb s [113] 2:=by
  show (w.r1).filter _=_
  rw[hd.r1];exact hf _ _
 have e2:qd1 w [114] 0 3=qbb s [114] 0:=by
  show (w.r2).filter _=_
  rw[hd.r2];exact hf _ _
 unfold qzj
 rw[e0,e1,e2,hv.ps]
 simp only[qdp,qao,List.flatMap_cons,List.flatMap_nil,List.append_nil,hv.all,List.append_assoc]
theorem q5n{s:St}(hok:OkSt s):∀c∈qdp s 3 s.ps,q1s c:=fun c hc=>by
 simp only[qdp,List.mem_flatMap] at hc
 obtain⟨p,-,hc⟩:=hc
 exact (hok.cls p.nm p.ar).2 c (List.mem_filter.1 hc).1
end
section
open Go Go.Abs Go.RowKit
attribute [local congr] qai qaj qag
theorem qtx:∀(n:Nat) (t:Tm),qh9 n t=false→t.height≤n
 |0,t,h=>by cases h
 |n+1,t,h=>by
  rw[qbk]
  simp only[qh9,Bool.or_eq_false_iff] at h
  have ha:∀x∈t.args,x.height≤n:=fun x hx=>qtx n x (by simpa using List.any_eq_false.1 h.2 x hx)
  have:∀l:List Tm,(∀x∈l,x.height≤n)→Tm.heights l≤n:=by
   intro l
   induction l with
   |nil=>intro _;simp[Tm.heights]
   |cons x l ih=>
    intro h
    have h1:=h x (List.mem_cons_self ..)
    have h2:=ih fun y hy=>h y (List.mem_cons_of_mem _ hy)
    simp only[Tm.heights]
    omega
  have:=this t.args ha
  omega
noncomputable abbrev lsCl:List (FuncId×(List AV→AH→Option (AV×AH))):=[(9,qae qly),(10,qeh qyq),(11,qae (qwl 40)),(18,qae (ownS 70)),(12,qeh addR),(17,qeh q1f),(19,qeh qzp),(20,qeh dropR),(13,qeh (qe3 q5o)),(22,qeh (qe3 qtz)),(21,qae qzo)]
theorem lsCl_ok:∀e∈lsCl,HookOne Tryz.prog e.1 e.2:=by
 intro e he
 simp only[lsCl,List.mem_cons,List.not_mem_nil,or_false] at he
 rcases he with rfl|rfl|rfl|rfl|rfl|rfl|rfl|rfl|rfl|rfl|rfl
 ·exact qwu
 ·exact q5i
 ·exact qo4 40
 ·exact qm2 70
 ·exact q8c
 ·exact dadd_one
 ·exact qvg
 ·exact q0i
 ·exact list_one
 ·exact q7c
 ·exact q7n
def ClEnd(m:AV)(k:Nat)(r:XR):Prop:=(∃H',r=some (.ret,mk [(4,.bool true)],H'))∨(∃s w nx gs ms,r=some (.exit 0,mk [(1,m),(5,.ptr 0 0 0),(6,.ptr 3 0 0)],⟨nx,gs,ms⟩)∧5≤nx∧Tri gs ms s w k)
theorem qw7{m:AV}{k:Nat}{r r':XR}(h:r=r'):ClEnd m k r=ClEnd m k r':=by rw[h]
attribute [local congr] qw7
set_option maxHeartbeats 4000000 in
theorem cl_loop(F0:Nat)(m:AV)(acs:List Ac)(hlen:acs.length≤25)(hfi:∀a∈acs,Fine maxLen a.t):∀(l2 l1:List Ac) (s:St) (w:Ds) (nx:Nat) (gs:Tr Grp) (ms:Tr qbm) (F:Nat),acs=l1++l2→5≤nx→Tri gs ms s w l1.length→l2.length<F →
  ClEnd m acs.length (iter (ycode (tcall lsCl) F0 qvc) F (mk [(0,.vals 8 (acs.map acC)),(1,m),(5,.ptr 0 0 0),(6,.ptr 3 0 0),(7,.int .i64 l1.length)]) ⟨nx,gs,ms⟩):=by
 intro l2
 induction l2 with
 |nil=>
  intro l1 s w nx gs ms F h1 hn hg h4
  obtain⟨k,rfl⟩:=qam (f:=fun _ _=>none) (n:=F) (by omega)
  rw[List.append_nil] at h1
  subst h1
  have hlt:((acs.length:Int)<(acs.length:Int))=False:=by simp
  rw[qad]
  simp (maxSteps:=1000000) (disch:=omega) only[qmg,qim,↓axP,axQ,seval,qaa,qab,tX,hlt,List.length_map]
  exact .inr ⟨s,w,nx,gs,ms,rfl,hn,hg⟩
 |cons a l2 ih=>
  intro l1 s w nx gs ms F h1 hn hg h4
  obtain⟨k,rfl⟩:=qam (f:=fun _ _=>none) (n:=F) (by omega)
  have hR:l1.length+1≤25:=by rw[h1] at hlen;simp at hlen;omega
  have hlt:((l1.length:Int)<(acs.length:Int))=True:=eq_true (by rw[h1];simp;omega)
  have hget:(acs.map acC)[l1.length]? = some (.int .i64 a.op::.int .i64 a.id::(tmC a.t++[.int .u64 a.l,.bool a.first])):=by rw[h1];simp[acC]
  have hi:(0:Int)≤(l1.length:Int):=by omega
  have hw:IntKind.i64.wrap ((l1.length:Int)+1)=(l1.length:Int)+1:=by rw[wrap_i64]<;>omega
  have hdp:=qq7 (m:=40) (n:=40) (t:=a.t) ⟨rfl,by omega⟩
  rw[qad]
  cases hd:qh9 40 a.t with
  |true=>
   rw[hd] at hdp
   simp (maxSteps:=1000000) (disch:=omega) only[qmg,qim,↓axP,axQ,seval,qaa,qab,tX,hlt,hi,hget,hdp,Int.toNat_natCast,List.length_map]
   exact .inl ⟨_,rfl⟩
  |false=>
   rw[hd] at hdp
   have hft:Fine 1000 a.t:=q6p (by omega) _ (qnq 40 a.t hd (hfi a (by rw[h1];simp)))
   have how:=qqi (n:=70) (t:=a.t) ⟨by have:=qtx 40 a.t hd;omega,hft⟩
   have hl3:=and3 a.l
   generalize hle:andI a.l 3=l at hl3
   have hs:(l1++[a]).length=l1.length+1:=by simp
   obtain⟨gs1,ms1,gs2,i,e,j,f,s',w',a1,a2,a3⟩:=hg.step (by omega) hft hl3 a.first
   have IH:=fun nx hn=>ih (l1++[a]) s' w' nx gs2 ms1 k (by simp[h1]) hn (by rw[hs];exact a3) (by simp at h4;omega)
   rw[hs] at IH
   simp (maxSteps:=1000000) (disch:=omega) only[↓axP,axQ,seval,qaa,qab] at IH
   simp (maxSteps:=1000000) (disch:=omega) only[qmg,qim,↓axP,axQ,seval,qaa,qab,tX,hlt,hi,hget,hdp,how,hw,tmC_4,tmC_5,b_and,hle,a1,a2,Int.toNat_natCast,List.length_map]
   exact IH _ (by omega)
def q8n(k:Nat)(r:XR):Prop:=(∃H',r=some (.ret,mk [(4,.bool true)],H'))∨(∃s w nx gs ms cg c kc,r=some (.exit 2,mk [(5,.ptr 0 0 0),(6,.ptr 3 0 0)],⟨nx,gs,ms⟩)∧Cl2 gs ms s w k cg c kc∧SInv s 20∧DR s w∧OkDs w)
theorem quj{k:Nat}{r r':XR}(h:r=r'):q8n k r=q8n k r':=by rw[h]
attribute [local congr] quj
set_option maxHeartbeats 4000000 in
theorem cl2_loop(F0 k0:Nat)(s:St)(w:Ds)(hv:SInv s 20)(hdr:DR s w)(how:OkDs w)(cg kc0:Nat)(hkc:kc0≤500)(acs:List Ac)(hlen:acs.length≤25)(hfi:∀a∈acs,Fine maxLen a.t):∀(l2 l1:List Ac) (c:St) (nx:Nat) (gs:Tr Grp) (ms:Tr qbm) (F:Nat),acs=l1++l2→Cl2 gs ms s w k0 cg c (kc0+l1.length)→l2.length<F →
  q8n k0 (iter (ycode (tcall lsCl) F0 qvb) F (mk [(1,.vals 8 (acs.map acC)),(5,.ptr 0 0 0),(6,.ptr 3 0 0),(8,.ptr cg 0 0),(9,.int .i64 l1.length)]) ⟨nx,gs,ms⟩):=by
 intro l2
 induction l2 with
 |nil=>
  intro l1 c nx gs ms F h1 hg h4
  obtain⟨k,rfl⟩:=qam (f:=fun _ _=>none) (n:=F) (by omega)
  rw[List.append_nil] at h1
  subst h1
  have hlt:((acs.length:Int)<(acs.length:Int))=False:=by simp
  rw[qad]
  simp (maxSteps:=1000000) (disch:=omega) only[qil,qg8,↓axP,axQ,seval,qaa,qab,tX,hlt,List.length_map]
  exact .inr ⟨s,w,nx,gs,ms,cg,c,_,rfl,hg,hv,hdr,how⟩
 |cons a l2 ih=>
  intro l1 c nx gs ms F h1 hg h4
  obtain⟨k,rfl⟩:=qam (f:=fun _ _=>none) (n:=F) (by omega)
  have hR:l1.length+1≤25:=by rw[h1] at hlen;simp at hlen;omega
  have hlt:((l1.length:Int)<(acs.length:Int))=True:=eq_true (by rw[h1];simp;omega)
  have hget:(acs.map acC)[l1.length]? = some (.int .i64 a.op::.int .i64 a.id::(tmC a.t++[.int .u64 a.l,.bool a.first])):=by rw[h1];simp[acC]
  have hi:(0:Int)≤(l1.length:Int):=by omega
  have hw:IntKind.i64.wrap ((l1.length:Int)+1)=(l1.length:Int)+1:=by rw[wrap_i64]<;>omega
  have hdp:=qq7 (m:=40) (n:=40) (t:=a.t) ⟨rfl,by omega⟩
  rw[qad]
  cases hd:qh9 40 a.t with
  |true=>
   rw[hd] at hdp
   simp (maxSteps:=1000000) (disch:=omega) only[qil,qg8,↓axP,axQ,seval,qaa,qab,tX,hlt,hi,hget,hdp,Int.toNat_natCast,List.length_map]
   exact .inl ⟨_,rfl⟩
  |false=>
   rw[hd] at hdp
   have hft:Fine 1000 a.t:=q6p (by omega) _ (qnq 40 a.t hd (hfi a (by rw[h1];simp)))
   have hl3:=and3 a.l
   generalize hle:andI a.l 3=l at hl3
   have hs:(l1++[a]).length=l1.length+1:=by simp
   by_cases hop:a.op=0
   ·obtain⟨gs1,ms1,i,e,c',a1,a3⟩:=hg.add (by omega) hft hl3 a.first
    have IH:=fun nx=>ih (l1++[a]) c' nx gs1 ms1 k (by simp[h1]) (by rw[hs];exact a3) (by simp at h4;omega)
    rw[hs] at IH
    simp (maxSteps:=1000000) (disch:=omega) only[↓axP,axQ,seval,qaa,qab] at IH
    simp (maxSteps:=1000000) (disch:=omega) only[qil,qg8,↓axP,axQ,seval,qaa,qab,tX,hlt,hi,hget,hdp,hw,hop,tmC_4,tmC_5,b_and,hle,a1,Int.toNat_natCast,List.length_map]
    exact IH _
   ·have hop':(a.op=0)=False:=eq_false hop
    obtain⟨gs1,ms1,e,c',a1,a3⟩:=hg.drop a.id
    have IH:=fun nx=>ih (l1++[a]) c' nx gs1 ms1 k (by simp[h1]) (by rw[hs];exact a3) (by simp at h4;omega)
    rw[hs] at IH
    simp (maxSteps:=1000000) (disch:=omega) only[↓axP,axQ,seval,qaa,qab] at IH
    simp (maxSteps:=1000000) (disch:=omega) only[qil,qg8,↓axP,axQ,seval,qaa,qab,tX,hlt,hi,hget,hdp,hw,hop',tmC_4,tmC_5,b_and,hle,a1,Int.toNat_natCast,List.length_map]
    exact IH _
theorem tri0:Tri (qbv ⟨0,.nil,.nil⟩ 20).gs (qbv ⟨0,.nil,.nil⟩ 20).ms (st0 20 0) ds0 0:=by
 have hms:(qbv ⟨0,.nil,.nil⟩ 20).ms=(qei ⟨0,.nil,.nil⟩ 20).ms:=rfl
 have hg:∀x,(qbv ⟨0,.nil,.nil⟩ 20).gs.get x=if x=4 then some ⟨0,0,dsL ds0⟩ else if x=3 then some ⟨0,0,dsC ds0 20 4⟩ else if x=0 then some ⟨0,0,qj0 (st0 20 0)⟩ else none:=fun x=>by
  show (((Tr.nil.set 0 _).set (0+3) _).set (0+4) _).get x=_
  by_cases a:x=4
  ·subst a;rw[Tr.get_set_same,if_pos rfl]
  ·rw[Tr.get_set_ne _ _ a,if_neg a]
   by_cases b:x=3
   ·subst b;rw[Tr.get_set_same,if_pos rfl]
   ·rw[Tr.get_set_ne _ _ b,if_neg b]
    by_cases c:x=0
    ·subst c;rw[Tr.get_set_same,if_pos rfl]
    ·rw[Tr.get_set_ne _ _ c,if_neg c];exact Tr.get_nil _
 refine⟨fun nx=>((good0 ⟨0,.nil,.nil⟩ 20).next (nx:=nx)).other ?_ rfl rfl,fun nx=>⟨by omega,?_,?_⟩,sinv0 20 (by omega) 0,⟨List.nodup_nil,List.nodup_nil,fun b hb=>(by cases hb),fun e he=>(by cases he),fun e he=>(by cases he),fun l=>rfl⟩,⟨⟨Int.le_refl _,by show (1:Int)≤1000001;omega⟩,⟨by show (0:Int)≤1;omega,fun c hc=>(by cases hc)⟩,⟨by show (0:Int)≤1;omega,fun c hc=>(by cases hc)⟩,⟨by show (0:Int)≤1;omega,fun c hc=>(by cases hc)⟩⟩,by show (1:Int)≤_;omega,⟨rfl,rfl,rfl,rfl,fun l=>rfl⟩,⟨rfl,rfl⟩,fun g hg'=>⟨?_,?_⟩⟩
 ·show (qbv ⟨0,.nil,.nil⟩ 20).gs.get 0=(qei ⟨0,.nil,.nil⟩ 20).gs.get 0
  rw[hg 0];rfl
 ·show (qbv ⟨0,.nil,.nil⟩ 20).gs.get 3=_
  rw[hg,if_neg (by omega),if_pos rfl]
 ·show (qbv ⟨0,.nil,.nil⟩ 20).gs.get 4=_
  rw[hg,if_pos rfl]
 ·rw[hg,if_neg (by omega),if_neg (by omega),if_neg (by omega)]
 ·show ((Tr.nil.set (0+1) _).set (0+2) _).get g=_
  have e2:g≠0+2:=by omega
  have e1:g≠0+1:=by omega
  rw[Tr.get_set_ne _ _ e2,Tr.get_set_ne _ _ e1];exact Tr.get_nil _
set_option maxHeartbeats 4000000 in
theorem q7p(acs mor:List Ac)(hlen:acs.length≤9223372036854775807)(hfi:∀a∈acs,Fine maxLen a.t)(hlm:mor.length≤9223372036854775807)(hfm:∀a∈mor,Fine maxLen a.t)(H:AH):ACalls Tryz.prog 6 [.vals 8 (acs.map acC),.vals 8 (mor.map acC)] H fun y H'=>y=.bool true∧H'=H:=by
 refine ACalls.ofRun lsCl_ok mixed (draws _ rfl) q28 rfl (by simp[qa2,qba,pure_acs,q8h]) 100 ?_ H
 have hml:(acs.map acC).length=acs.length:=by simp
 have hmm:(mor.map acC).length=mor.length:=by simp
 by_cases q3:25<(acs.length:Int)
 ·have q3':(25<(acs.length:Int))=True:=eq_true q3
  simp (maxSteps:=1000000) (disch:=omega) only[qoc,qak,↓axP,axQ,seval,qaa,qab,tX,qfm,hml,q3']
  exact Ans.some (.pure rfl)
 ·have q3':(25<(acs.length:Int))=False:=eq_false q3
  by_cases q4:25<(mor.length:Int)
  ·have q4':(25<(mor.length:Int))=True:=eq_true q4
   simp (maxSteps:=1000000) (disch:=omega) only[qoc,qak,↓axP,axQ,seval,qaa,qab,tX,qfm,hml,hmm,q3',q4']
   exact Ans.some (.pure rfl)
  ·have q4':(25<(mor.length:Int))=False:=eq_false q4
   have hm:qeh qyq [.int .i64 20] ⟨0,.nil,.nil⟩=some (.tup [.ptr 0 0 0,.ptr 3 0 0],⟨5,(qbv ⟨0,.nil,.nil⟩ 20).gs,(qbv ⟨0,.nil,.nil⟩ 20).ms⟩):=qfp qos ⟨20,rfl,by omega,⟨Tr.get_nil _,Tr.get_nil _,Tr.get_nil _,Tr.get_nil _,Tr.get_nil _⟩,rfl,rfl⟩
   have t0:=tri0
   generalize (qbv ⟨0,.nil,.nil⟩ 20).gs=gs0 at hm t0
   generalize (qbv ⟨0,.nil,.nil⟩ 20).ms=ms0 at hm t0
   have ha:acs.length≤25:=by omega
   have hb:mor.length≤25:=by omega
   have hE:=cl_loop 100 (.vals 8 (mor.map acC)) acs ha hfi acs [] (st0 20 0) ds0 5 gs0 ms0 100 rfl (by omega) t0 (by omega)
   simp (maxSteps:=1000000) (disch:=omega) only[↓axP,axQ,seval,qaa,qab] at hE
   rcases hE with⟨H',k1⟩|⟨s,w,nx,gs,ms,k1,hn,hg⟩
   ·simp (maxSteps:=1000000) (disch:=omega) only[qoc,qak,↓axP,axQ,seval,qaa,qab,tX,qfm,hml,hmm,q3',q4',hm,k1]
    exact Ans.some (.pure rfl)
   ·obtain⟨gs1,ms1,c,a1,a2⟩:=hg.clone hn
    have hE2:=cl2_loop 100 acs.length s w hg.vs hg.dr hg.ow nx acs.length (by omega) mor hb hfm mor [] c (nx+3) gs1 ms1 100 rfl a2 (by omega)
    simp (maxSteps:=1000000) (disch:=omega) only[↓axP,axQ,seval,qaa,qab] at hE2
    rcases hE2 with⟨H',k2⟩|⟨s2,w2,nx2,gs2,ms2,cg,c2,kc,k2,g2,v2,d2,o2⟩
    ·simp (maxSteps:=1000000) (disch:=omega) only[qoc,qak,↓axP,axQ,seval,qaa,qab,tX,qfm,hml,hmm,q3',q4',hm,k1,a1,k2]
     exact Ans.some (.pure rfl)
    ·have hL:=fun nx=>(g2.gS 0).list (nx:=nx) 3
     have hL2:∀nx,qeh (qe3 qtz) [.ptr 3 0 0,.int .u64 3] ⟨nx,gs2,ms2⟩=some (.vals 10 ((qzj w2 3).map clC),⟨nx,gs2,ms2⟩):=fun nx=>qhe qo6 ⟨3,4,20,w2,3,rfl,g2.dW nx,o2,rfl⟩
     rw[q5m v2 d2] at hL2
     have hcs:=q7o (l:=qdp s2 3 s2.ps) ⟨by have:=v2.le 3;omega,q5n (g2.gS 0).ok⟩
     simp (maxSteps:=1000000) (disch:=omega) only[qoc,qak,↓axP,axQ,seval,qaa,qab,tX,qfm,hml,hmm,q3',q4',hm,k1,a1,k2,hL,hL2,hcs]
     exact Ans.some (.pure rfl)
end
end Go.Proofs.YtdekdghldblfaaaGreatDoor
