import Derived.Test.YtdekdghldblfaaaGreatDoorSymB
import Derived.Test.YtdekdghldblfaaaGreatDoorYRc
import Derived.Test.YtdekdghldblfaaaGreatDoorSymCC
import Derived.Test.YtdekdghldblfaaaGreatDoorSymAA
import Derived.Test.YtdekdghldblfaaaGreatDoorAbsV
import Derived.Test.YtdekdghldblfaaaGreatDoorSymRA
set_option linter.unusedVariables false
set_option linter.unusedSimpArgs false
namespace Go.Proofs.YtdekdghldblfaaaGreatDoor
section
open Go Go.Abs Go.RowKit
attribute [local congr] qai qaj qag
def isR(t:Tm)(nm:List UInt8)(m:Int):Bool:=decide (t.kind=2)&&(t.name==nm)&&decide ((t.args.length:Int)=m)
theorem qyy{t:Tm}(h:t.kind≤2)(nm:List UInt8)(m:Int):isR t nm m=isP t nm m:=by
 have:decide (t.kind=2)=decide (1<t.kind):=decide_eq_decide.2 (by omega)
 unfold isR isP;rw[this]
noncomputable def isRS:List AV→Option AV
 |[x,.str nm,.int .i64 m]=>(ofT x).map fun t=>.bool (isR t nm m)
 |_=>none
theorem qb8(t:Tm)(nm:List UInt8)(m:Int):isRS [.agg (tmC t),.str nm,.int .i64 m]=some (.bool (isR t nm m)):=by
 show (ofT (tmA t)).map _=_
 rw[qcc];rfl
theorem q4f:HookOne Tryz.prog 97 (qae isRS):=by
 refine HookOne.ofPureF (by decide +kernel) fun args y h H=>?_
 unfold isRS at h;split at h
 ·rename_i x nm m
  rw[Option.map_eq_some_iff] at h
  obtain⟨t,h1,rfl⟩:=h
  obtain rfl:=qbr h1
  refine ACalls.ofRun (l:=[]) (by simp) mixed (draws _ rfl) yRis_ok rfl (by simp[qa2,qas,qba]) 0 ?_ H
  unfold isR
  by_cases c1:t.kind=2<;>cases c2:t.name==nm
  all_goals
   simp only[yRis,qb7,tmA,↓axP,axQ,seval,qaa,qab,tX,c1,c2,List.length_map]
   exact Ans.some (.pure rfl)
 ·cases h
noncomputable def qgh:List AV→Option AV
 |[.str nm,x]=>(ofLs x).bind fun l=>some (tmA (.mk 2 0 nm l))
 |_=>none
theorem qix(nm:List UInt8)(l:List Tm):qgh [.str nm,.vals 4 (l.map tmC)]=some (.agg (tmC (.mk 2 0 nm l))):=by
 simp[qgh,qj5,tmA]
theorem qiw:HookOne Tryz.prog 50 (qae qgh):=by
 refine HookOne.ofPureF (by decide +kernel) fun args y h H=>?_
 unfold qgh at h;split at h
 ·rename_i nm x
  rw[Option.bind_eq_some_iff] at h
  obtain⟨l,h1,h3⟩:=h
  cases h3
  obtain rfl:=qdi h1
  unfold lsA
  refine ACalls.ofRun (l:=[]) (by simp) mixed (draws _ rfl) q2s rfl (by simp[qa2,qba,qci]) 0 ?_ H
  simp only[yRComp,qak,↓axP,axQ,seval,qaa,qab,tmA,qbq,Tm.kind,Tm.num,Tm.name,Tm.args]
  exact Ans.some (.pure (by simp[qba,qa2,qci]))
 ·cases h
theorem qsx:HookOne Tryz.prog 81 (qae qrk):=by
 refine HookOne.ofPureF (by decide +kernel) fun args y h H=>?_
 unfold qrk at h;split at h
 ·rename_i nm
  cases h
  refine ACalls.ofRun (l:=[]) (by simp) mixed (draws _ rfl) q2u rfl (by rfl) 0 ?_ H
  simp only[yRAtom,qaf,↓axP,axQ,seval,qaa,qab,tmA,qbq,Tm.kind,Tm.num,Tm.name,Tm.args,List.map_nil]
  refine Ans.some (.ofAgg (.cons (.pure rfl) (.cons (.pure rfl) (.cons (.pure rfl) (.cons (.nils 4) (.nil _))))))
 ·cases h
def RG(n:Nat)(t:Tm):Prop:=RC n t∧t.allG=true
theorem q1r{l:List Tm}(h:Tm.allsG l=true){x:Tm}(hx:x∈l):x.allG=true:=by
 induction l with
 |nil=>cases hx
 |cons y l ih=>
  simp only[Tm.allsG,Bool.and_eq_true] at h
  rcases List.mem_cons.1 hx with rfl|hx
  ·exact h.1
  ·exact ih h.2 hx
theorem RG.arg{n:Nat}{t x:Tm}(h:RG (n+1) t)(hx:x∈t.args):RG n x:=by
 refine⟨h.1.arg hx,?_⟩
 have:=h.2
 rw[qfz,Bool.and_eq_true] at this
 exact q1r this.2 hx
theorem RG.up{n:Nat}{t:Tm}(h:RG n t):RG (n+1) t:=⟨h.1.up,h.2⟩
theorem RG.kind{n:Nat}{t:Tm}(h:RG n t):t.kind≤2:=by
 have:=h.2
 rw[qfz,Bool.and_eq_true] at this
 have:=this.1
 unfold qdh at this
 by_cases h0:t.kind=0
 ·omega
 ·by_cases h1:t.kind=1
  ·omega
  ·by_cases h2:t.kind=2
   ·omega
   ·simp[h0,h1,h2] at this
noncomputable def q0n(n:Nat):List AV→Option AV
 |[x]=>(ofT x).bind fun t=>only (RG n t) (some (.tup [glV (qbe n t).1,.int .i64 (qbe n t).2]))
 |_=>none
theorem qct{n:Nat}{t:Tm}(h:RG n t):q0n n [.agg (tmC t)]=some (.tup [glV (qbe n t).1,.int .i64 (qbe n t).2]):=by
 show (ofT (tmA t)).bind _=_
 rw[qcc];exact qa0 h _
noncomputable def rtwoS(n:Nat):List AV→Option AV
 |[x,y]=>(ofT x).bind fun a=>(ofT y).bind fun b=>only (RG n a∧RG n b) (some (.tup [glV (qaz (qbe n) [a,b]).1.flatten,.int .i64 (qaz (qbe n) [a,b]).2]))
 |_=>none
theorem rtwoS_eq{n:Nat}{a b:Tm}(h:RG n a∧RG n b):rtwoS n [.agg (tmC a),.agg (tmC b)]=some (.tup [glV (qaz (qbe n) [a,b]).1.flatten,.int .i64 (qaz (qbe n) [a,b]).2]):=by
 show (ofT (tmA a)).bind (fun a=>(ofT (tmA b)).bind _)=_
 rw[qcc,Option.bind_some,qcc];exact qa0 h _
theorem rtwo_one{n:Nat}(hof:HookOne Tryz.prog 98 (qae (q0n n))):HookOne Tryz.prog 131 (qae (rtwoS n)):=by
 refine HookOne.ofPureF (by decide +kernel) fun args y h H=>?_
 have hl:∀e∈[(98,qae (q0n n))],HookOne Tryz.prog e.1 e.2:=by
  intro e he;simp at he;subst he;exact hof
 unfold rtwoS at h;split at h
 ·rename_i x y
  rw[Option.bind_eq_some_iff] at h
  obtain⟨a,h1,h2⟩:=h
  rw[Option.bind_eq_some_iff] at h2
  obtain⟨b,h3,h4⟩:=h2
  obtain⟨⟨hA,hB⟩,h5⟩:=qau h4
  cases h5
  obtain rfl:=qbr h1
  obtain rfl:=qbr h3
  refine ACalls.ofRun hl mixed (draws _ rfl) yRtwo_ok rfl (by simp[qa2,qas]) 0 ?_ H
  unfold tmA
  have la:=qll n a
  have lb:=qll n b
  have sa:=hA.1.2.2
  have sb:=hB.1.2.2
  by_cases ea:(qbe n a).2=0
  ·by_cases eb:(qbe n b).2=0
   ·have hw:qaz (qbe n) [a,b]=([(qbe n a).1,(qbe n b).1],0):=by simp[qaz,ea,eb]
    rw[hw]
    simp only[List.flatten_cons,List.flatten_nil,List.append_nil]
    generalize hga:(qbe n a).1=p at la
    generalize hgb:(qbe n b).1=q at lb
    have l6:((p.map glC).flatten).take (p.length*6)=(p.map glC).flatten:=List.take_of_length_le (by rw[flat6];omega)
    have u6:(p.length*6≤((p.map glC).flatten).length)=True:=by rw[flat6];simp
    by_cases hp:p.length=0
    ·obtain rfl:=List.eq_nil_of_length_eq_zero hp
     by_cases hq:q.length=0
     ·obtain rfl:=List.eq_nil_of_length_eq_zero hq
      simp (maxSteps:=1000000) (disch:=omega) only[qur,qak,↓axP,axQ,seval,qaa,qab,tX,qct hA,qct hB,ea,eb,hga,hgb,qhy]
      exact Ans.some (.ofTup (.cons (.zslc 6) (.cons (.pure rfl) (.nil _))))
     ·have q1:(q.length*88≤140737488355328)=True:=eq_true (by omega)
      have q2:(q.length≤9223372036854775807)=True:=eq_true (by omega)
      simp (maxSteps:=1000000) (disch:=omega) only[qur,qak,↓axP,axQ,seval,qaa,qab,tX,qct hA,qct hB,ea,eb,hga,hgb,qhy,hq,q1,q2]
      exact Ans.some (.ofTup (.cons (Fz.ofSlc (by simp only[↓axP,axQ,seval,qaa,qab];rfl) (by simp) (by simpa using qvj q) (by simpa using FzL.pure (qvo q))) (.cons (.pure rfl) (.nil _))))
    ·have p1:(p.length*88≤140737488355328)=True:=eq_true (by omega)
     have p2:(p.length≤9223372036854775807)=True:=eq_true (by omega)
     by_cases hq:q.length=0
     ·obtain rfl:=List.eq_nil_of_length_eq_zero hq
      simp (maxSteps:=1000000) (disch:=omega) only[qur,qak,↓axP,axQ,seval,qaa,qab,tX,qct hA,qct hB,ea,eb,hga,hgb,qhy,hp,p1,p2]
      exact Ans.some (.ofTup (.cons (Fz.ofSlc (by simp only[↓axP,axQ,seval,qaa,qab];rfl) (by simp) (by simpa using qvj p) (by simpa using FzL.pure (qvo p))) (.cons (.pure rfl) (.nil _))))
     ·have q1:((p.length+q.length)*88≤140737488355328)=True:=eq_true (by omega)
      have q2:(p.length+q.length≤9223372036854775807)=True:=eq_true (by omega)
      simp (maxSteps:=1000000) (disch:=omega) only[qur,qak,↓axP,axQ,seval,qaa,qab,tX,qct hA,qct hB,ea,eb,hga,hgb,qhy,hp,p1,p2,hq,q1,q2,l6,u6]
      exact Ans.some (.ofTup (.cons (Fz.ofSlc (by simp only[↓axP,axQ,seval,qaa,qab];rfl) (by simp) (by simpa using qvj (p++q)) (by simpa using FzL.pure (qvo (p++q)))) (.cons (.pure rfl) (.nil _))))
   ·have hw:qaz (qbe n) [a,b]=([],(qbe n b).2):=by simp[qaz,ea,eb]
    rw[hw]
    simp (maxSteps:=1000000) (disch:=omega) only[qur,qak,↓axP,axQ,seval,qaa,qab,tX,qct hA,qct hB,ea,eb]
    exact Ans.some (.ofTup (.cons (.nils 6) (.cons (.pure rfl) (.nil _))))
  ·have hw:qaz (qbe n) [a,b]=([],(qbe n a).2):=by simp[qaz,ea]
   rw[hw]
   simp (maxSteps:=1000000) (disch:=omega) only[qur,qak,↓axP,axQ,seval,qaa,qab,tX,qct hA,qct hB,ea]
   exact Ans.some (.ofTup (.cons (.nils 6) (.cons (.pure rfl) (.nil _))))
 ·cases h
noncomputable def qsp(n:Nat):List AV→Option AV
 |[.int .i64 k,x]=>(ofLs x).bind fun l=>only (l.length≤1000∧∀t∈l,RG n t) (some (.tup [glV (qfe (qbe n) k l).1,.int .i64 (qfe (qbe n) k l).2]))
 |_=>none
theorem qiu{n:Nat}{k:Int}{l:List Tm}(h:l.length≤1000∧∀t∈l,RG n t):qsp n [.int .i64 k,.vals 4 (l.map tmC)]=some (.tup [glV (qfe (qbe n) k l).1,.int .i64 (qfe (qbe n) k l).2]):=by
 simp only[qsp,qj5,Option.bind_some];exact qa0 h _
def RowJ(k:Int)(H:AH)(o:AV)(R:List (List Gl)):Prop:=
 H.wf∧1≤H.next∧H.gs.get 0=some ⟨0,0,[.int .i64 k,.int .i64 0,.int .i64 0,.str [],.nils,o]⟩∧Ows H o 1 (R.map glV) R.length∧OB 1 o
set_option maxHeartbeats 1000000 in
theorem q0m{n:Nat}(F0:Nat)(k:Int)(l:List Tm)(hl:l.length≤1000):∀(l2 l1:List Tm) (R:List (List Gl)) (o:AV) (H:AH) (F:Nat),l1.length=R.length→l=l1++l2→(∀t∈l2,RG n t)→RowJ k H o R→l2.length<F →
  ((qaz (qbe n) l2).2=0→∃o' H',iter (ycode (tcall [(98,qae (q0n n))]) F0 qpo) F (mk [(1,.vals 4 (l.map tmC)),(6,.ptr 0 0 0),(7,.int .i64 R.length)]) H=some (.exit 0,mk [(6,.ptr 0 0 0)],H')∧RowJ k H' o' (R++(qaz (qbe n) l2).1)) ∧
  ((qaz (qbe n) l2).2≠0→∃H',iter (ycode (tcall [(98,qae (q0n n))]) F0 qpo) F (mk [(1,.vals 4 (l.map tmC)),(6,.ptr 0 0 0),(7,.int .i64 R.length)]) H=some (.ret,mk [(4,.nils),(5,.int .i64 (qaz (qbe n) l2).2)],H')):=by
 intro l2
 induction l2 with
 |nil=>
  intro l1 R o H F h1 h2 h3 h4 h6
  obtain⟨m,rfl⟩:=qam (f:=fun _ _=>none) (n:=F) (by omega)
  have hlt:((R.length:Int)<(l.length:Int))=False:=by subst h2;simp;omega
  refine⟨fun _=>⟨o,H,?_,by simpa[qaz] using h4⟩,fun h=>absurd rfl h⟩
  rw[qad]
  simp (maxSteps:=1000000) (disch:=omega) only[qig,qg4,↓axP,axQ,seval,qaa,qab,List.length_map,hlt]
 |cons t l2 ih=>
  intro l1 R o H F h1 h2 h3 h4 h6
  obtain⟨m,rfl⟩:=qam (f:=fun _ _=>none) (n:=F) (by omega)
  have hlt:((R.length:Int)<(l.length:Int))=True:=by subst h2;simp;omega
  have hget:(l.map tmC)[R.length]? = some (tmC t):=by subst h2;rw[←h1];simp
  have h0:(0:Int)≤(R.length:Int):=by omega
  have hR:R.length+1≤1000:=by subst h2;simp at hl;omega
  have hr:=qct (h3 t (List.mem_cons_self ..))
  rw[qad]
  by_cases hz:(qbe n t).2=0
  ·obtain⟨w1,w2,g0,w3,w4⟩:=h4
   obtain⟨nx,gs,ms⟩:=H
   simp only at g0 w2
   have e8:=qmj w1
   have q0:(0=nx)=False:=eq_false (by omega)
   have wfA:AH.wf ⟨nx+1,gs.set nx ⟨0,0,[glV (qbe n t).1]⟩,ms⟩:=qip w1 _
   have owA:Ows ⟨nx+1,gs.set nx ⟨0,0,[glV (qbe n t).1]⟩,ms⟩ o 1 (R.map glV) R.length:=w3.add _
   obtain⟨v',H',e1,e2,e3,e4,e5,e6⟩:=qe5 (x:=.slc nx 0 0 1 1) (z:=1) (b:=24) (m:=1) (xs:=[glV (qbe n t).1]) owA wfA (by simp only[↓axP,axQ,seval,qaa,qab]) rfl (by omega) (by omega) (by omega)
   have f0:H'.gs.get 0=some ⟨0,0,[.int .i64 k,.int .i64 0,.int .i64 0,.str [],.nils,o]⟩:=by rw[e4.get w4 (by omega) (by show 0<nx+1;omega)];show (gs.set nx _).get 0=_;rw[Tr.get_set_ne _ _ (by omega)];exact g0
   have o':=e6 1 (by show 1≤nx+1;omega) w4
   have hn1:1≤H'.next:=Nat.le_trans (by show 1≤nx+1;omega) e4.1
   have hL:R.length+1=(R++[(qbe n t).1]).length:=by simp
   have hC:R.map glV++[glV (qbe n t).1]=(R++[(qbe n t).1]).map glV:=by simp
   rw[hL,hC] at e2
   have IH:=ih (l1++[t]) (R++[(qbe n t).1]) v' ⟨H'.next,H'.gs.set 0 ⟨0,0,[.int .i64 k,.int .i64 0,.int .i64 0,.str [],.nils,v']⟩,H'.ms⟩ m (by simp[h1]) (by simp[h2]) (fun x hx=>h3 x (List.mem_cons_of_mem _ hx))
    ⟨qp1 e3 (by omega) _,hn1,Tr.get_set_same _ _ _,e2.set o' (by omega) _,o'⟩ (by simp at h6;omega)
   rw[←hL] at IH
   simp only[Int.natCast_add,Int.natCast_one] at IH
   have hW1:(qaz (qbe n) (t::l2)).2=(qaz (qbe n) l2).2:=by
    simp only[qaz,hz,if_true]
    split
    ·rename_i h;exact h.symm
    ·rfl
   refine⟨fun h=>?_,fun h=>?_⟩
   ·rw[hW1] at h
    obtain⟨o2,H2,k1,k2⟩:=IH.1 h
    have:(qaz (qbe n) (t::l2)).1=(qbe n t).1::(qaz (qbe n) l2).1:=by simp[qaz,hz,h]
    refine⟨o2,H2,?_,by rw[this];simpa using k2⟩
    simp (maxSteps:=1000000) (disch:=omega) only[qig,qg4,↓axP,axQ,seval,qaa,qab,tX,List.length_map,hlt,h0,hget,Int.toNat_natCast,e8,hr,hz,qi7,qqy,q0,g0,e1,f0,e2.fit,e2.cell,k1]
   ·obtain⟨H2,k1⟩:=IH.2 (by rw[←hW1];exact h)
    refine⟨H2,?_⟩
    rw[hW1]
    simp (maxSteps:=1000000) (disch:=omega) only[qig,qg4,↓axP,axQ,seval,qaa,qab,tX,List.length_map,hlt,h0,hget,Int.toNat_natCast,e8,hr,hz,qi7,qqy,q0,g0,e1,f0,e2.fit,e2.cell,k1]
  ·have hW:qaz (qbe n) (t::l2)=([],(qbe n t).2):=by simp[qaz,hz]
   rw[hW]
   refine⟨fun h=>absurd h hz,fun _=>⟨H,?_⟩⟩
   simp (maxSteps:=1000000) (disch:=omega) only[qig,qg4,↓axP,axQ,seval,qaa,qab,tX,List.length_map,hlt,h0,hget,Int.toNat_natCast,hr,hz]
end
section
open Go Go.Abs Go.RowKit
attribute [local congr] qai qaj qag
attribute [local congr] qal
def stepV(a:List Int)(t:Tm):List Int:=if t.kind=0∧t.num∉a then a++[t.num] else a
mutual
theorem qxn:∀(t:Tm) (a:List Int),t.allG=true→q0d t a=(qc8 t).foldl stepV a
 |.mk k n s l,a,h=>by
  simp only[Tm.allG,Bool.and_eq_true] at h
  have ih:=fun a=>qsg l a h.2
  unfold q0d qc8
  rw[List.foldl_cons]
  by_cases h0:k=0
  ·rw[if_pos h0]
   have hl:l=[]:=by
    have:=h.1
    unfold qdh at this
    rw[if_pos h0] at this
    simp only[Bool.and_eq_true,decide_eq_true_eq] at this
    exact List.eq_nil_of_length_eq_zero this.2
   subst hl
   simp only[qon,List.foldl_nil,stepV,Tm.kind,Tm.num,h0,true_and]
   by_cases hm:n∈a<;>simp[hm]
  ·rw[if_neg h0,ih]
   congr 1
   simp[stepV,Tm.kind,h0]
theorem qsg:∀(l:List Tm) (a:List Int),Tm.allsG l=true→qgc l a=(qon l).foldl stepV a
 |[],a,_=>rfl
 |t::ts,a,h=>by
  simp only[Tm.allsG,Bool.and_eq_true] at h
  unfold qgc qon
  rw[List.foldl_append,←qxn t a h.1,qsg ts _ h.2]
end
theorem qqx{t:Tm}(h:t.good=true):t.size≤2000∧t.height≤64∧t.allG=true:=by
 unfold Tm.good at h
 simp only[Bool.and_eq_true,decide_eq_true_eq] at h
 exact⟨h.1.1,h.1.2,h.2⟩
theorem qsn:HookOne Tryz.prog 100 (qae qiq):=by
 refine HookOne.ofPureF (by decide +kernel) fun args y h H=>?_
 have hl:∀e∈lsRv,HookOne Tryz.prog e.1 e.2:=by
  intro e he;simp[lsRv] at he;subst he;exact qhd
 have hy:∀e∈ysRv,qbp Tryz.prog (fun _=>true) e.1=some e.2.er:=by
  intro e he;simp[ysRv] at he;subst he;exact q14
 unfold qiq at h;split at h
 ·rename_i x
  rw[Option.bind_eq_some_iff] at h
  obtain⟨t,h1,h2⟩:=h
  obtain⟨hf,h3⟩:=qau h2
  cases h3
  obtain rfl:=qbr h1
  have hok:=qey (P:=Tryz.prog) mixed (fun f=>draws f rfl) hy hl 100002 64
  refine ACalls.onCall hok.1 hok.2 mixed (draws _ rfl) q2h rfl 100002 fun N hN hcl=>?_
  obtain⟨nx0,gs,ms⟩:=H
  simp only at hN
  have lt:∀g r,gs.get g=some r→g<N:=fun g r h=>by
   rcases Nat.lt_or_ge g N with q|q
   ·exact q
   ·rw[(hN g q).1] at h;cases h
  have e0:=(hN N (Nat.le_refl _)).1
  have hgood:∀(nx:Nat) (gs:Tr Grp) (ms:Tr qbm),icall ysRv lsRv 100002 64 80 [.agg (tmC t)] ⟨nx,gs,ms⟩=some (.bool t.good,⟨nx,gs,ms⟩):=fun nx gs ms=>by
   rw[qay (k:=qae qfj) rfl]
   simp (maxSteps:=1000000) (disch:=omega) only[↓axP,axQ,seval,qaa,qab,tX,qap hf]
  unfold tmA
  cases hg:t.good with
  |false=>
   rw[hg] at hgood
   have hv:qjx t=[]:=by simp[qjx,hg]
   rw[hv]
   simp (maxSteps:=1000000) (disch:=omega) only[q2i,qaf,↓axP,axQ,seval,qaa,qab,tX,e0,hgood]
   refine Comes.some (Canon.same hcl (fun g r h=>?_) (fun g r h=>h) (.nils 1))
   show (gs.set N _).get g=_
   rw[Tr.get_set_ne _ _ (by have:=lt g r h;omega)];exact h
  |true=>
   rw[hg] at hgood
   obtain⟨g1,g2,g3⟩:=qqx hg
   have hv:qjx t=q0d t []:=by rw[qxn t [] g3];simp only[qjx,hg,if_true,qax];rfl
   rw[hv]
   have wf0:AH.wf ⟨N+1,gs.set N ⟨0,0,tmC t⟩,ms⟩:=fun g h=>by
    have:N+1≤g:=h
    show (gs.set N _).get g=none
    rw[Tr.get_set_ne _ _ (by omega)];exact (hN g (by omega)).1
   obtain⟨o',H',k1,k2⟩:=rv_call 100002 (by omega) 64 t g2 hf [] .nils (N+1) (N+1) (gs.set N ⟨0,0,tmC t⟩) ms (by simp;omega) wf0 (qe4 _ _) (qi1 _) (Nat.le_refl _)
   obtain⟨nx',gs',ms'⟩:=H'
   have b0:(gs.set N ⟨0,0,tmC t⟩).get N=some ⟨0,0,tmC t⟩:=Tr.get_set_same _ _ _
   have vo:o'.one=true∧o'.cells=[o']∧o'.fit=true:=⟨by rcases k2.ow.2 with⟨rfl,-⟩|⟨g,e,rfl,-⟩<;>rfl,k2.ow.cell,k2.ow.fit⟩
   simp (maxSteps:=1000000) (disch:=omega) only[q2i,qaf,↓axP,axQ,seval,qaa,qab,tX,e0,hgood,k1]
   obtain⟨a1,a2,a3,a4,a5,a6⟩:=k2
   simp only at a5
   have offn:∀g,Off .nils g:=fun g e i m z he=>by cases he
   refine Comes.some (Canon.same hcl (fun g r h=>?_) (fun g r h=>by rw[a5];exact h) ?_)
   ·have hgl:=lt g r h
    rw[show gs'.get g=(gs.set N ⟨0,0,tmC t⟩).get g from (a6 g (by omega) (offn g)).1,Tr.get_set_ne _ _ (by omega)];exact h
   ·have hO:OB N o':=fun g e i n z h=>by have:=a3 g e i n z h;omega
    exact Ows.fzr (H0:=⟨nx0,gs,ms⟩) a2 hO (fun g hg=>(hN g hg).1) (by simp[qft]) (fun row hr=>by simp only[qft,List.mem_map] at hr;obtain⟨n,-,rfl⟩:=hr;rfl) (qnf _).symm (qm0 _)
 ·cases h
end
section
open Go Go.Abs Go.RowKit
attribute [local congr] qai qaj qag
def idxF(n:Int):List Int→Nat→Option Nat
 |[],_=>none
 |a::l,k=>if n=a then some k else idxF n l (k+1)
theorem q4g(n:Int):∀(l:List Int) (k:Nat),rho (qev k l) n=(idxF n l k).map fun i:Nat=>q0c (i:Int)
 |[],k=>rfl
 |a::l,k=>by
  unfold rho qev idxF
  rw[List.find?_cons]
  by_cases h:n=a
  ·simp[h]
  ·simp only[h,decide_false,if_false]
   exact q4g n l (k+1)
noncomputable def qk1(n:Nat):List AV→Option AV
 |[x,v,.int .i64 0]=>(ofT x).bind fun t=>@dite _ (∃vs:List Int,v=.vals 1 (qft vs)∧vs.length≤2000∧(t.height≤n∧Fine 1000 t)∧t.allG=true) (Classical.propDecidable _) (fun h=>some (tmA (qa1 (rho (qev 0 h.choose)) t))) fun _=>none
 |_=>none
theorem intR_inj{a b:List Int}(h:AV.vals 1 (qft a)=.vals 1 (qft b)):a=b:=by
 simp only[AV.vals.injEq,true_and] at h
 exact qna (fun a b h=>by simpa using h) h
theorem qxx{n:Nat}{t:Tm}{vs:List Int}(h1:vs.length≤2000)(h2:t.height≤n∧Fine 1000 t)(h3:t.allG=true):qk1 n [.agg (tmC t),.vals 1 (qft vs),.int .i64 0]=some (.agg (tmC (qa1 (rho (qev 0 vs)) t))):=by
 show (ofT (tmA t)).bind _=_
 rw[qcc,Option.bind_some]
 have hx:∃vs':List Int,AV.vals 1 (qft vs)=.vals 1 (qft vs')∧vs'.length≤2000∧(t.height≤n∧Fine 1000 t)∧t.allG=true:=⟨vs,rfl,h1,h2,h3⟩
 rw[dif_pos hx]
 have:=intR_inj hx.choose_spec.1
 rw[←this];rfl
theorem qxw{n:Nat}{args:List AV}{y:AV}(h:qk1 n args=some y):∃t vs,args=[tmA t,.vals 1 (qft vs),.int .i64 0]∧vs.length≤2000∧(t.height≤n∧Fine 1000 t)∧t.allG=true∧y=tmA (qa1 (rho (qev 0 vs)) t):=by
 unfold qk1 at h;split at h
 ·rename_i x v
  rw[Option.bind_eq_some_iff] at h
  obtain⟨t,h1,h2⟩:=h
  split at h2
  ·rename_i hx
   have hs:=hx.choose_spec
   cases h2
   obtain rfl:=qbr h1
   refine⟨t,hx.choose,?_,hs.2.1,hs.2.2.1,hs.2.2.2,rfl⟩
   have:=hs.1
   rw[←this]
  ·cases h2
 ·cases h
theorem rrf_loop{l:List (FuncId×(List AV→AH→Option (AV×AH)))}(F0:Nat)(t:Tm)(vs:List Int)(hvl:vs.length≤2000)(gs:Tr Grp)(b0:gs.get 0=some ⟨0,0,tmC t⟩)(b1:gs.get 1=some ⟨0,0,[.int .i64 0,.int .i64 0,.str [],.nils]⟩):∀(l2 l1:List Int) (nx F:Nat),vs=l1++l2→l2.length<F →
  ∃nx2,iter (ycode (tcall l) F0 quu) F (mk [(1,.vals 1 (qft vs)),(2,.int .i64 0),(3,.ptr 0 0 0),(6,.ptr 1 0 0),(7,.int .i64 l1.length)]) ⟨nx,gs,.nil⟩=match idxF t.num l2 l1.length with
   |some i=>some (.ret,mk [(6,.ptr 1 0 0)],⟨nx2,gs.set 1 ⟨0,0,[.int .i64 0,.int .i64 i,.str [],.nils]⟩,.nil⟩)
   |none=>some (.exit 0,mk [(3,.ptr 0 0 0),(6,.ptr 1 0 0)],⟨nx2,gs,.nil⟩):=by
 intro l2
 have hrl:(qft vs).length=vs.length:=by simp[qft]
 induction l2 with
 |nil=>
  intro l1 nx F h1 h4
  obtain⟨k,rfl⟩:=qam (f:=fun _ _=>none) (n:=F) (by omega)
  rw[List.append_nil] at h1
  have hlt:((l1.length:Int)<(vs.length:Int))=False:=by rw[h1];simp
  refine⟨nx,?_⟩
  rw[qad]
  simp only[idxF]
  simp (maxSteps:=1000000) (disch:=omega) only[ql1,qih,↓axP,axQ,seval,qaa,qab,tX,hlt,hrl]
 |cons x l2 ih=>
  intro l1 nx F h1 h4
  obtain⟨k,rfl⟩:=qam (f:=fun _ _=>none) (n:=F) (by omega)
  have hR:l1.length+1≤2000:=by rw[h1] at hvl;simp at hvl;omega
  have hlt:((l1.length:Int)<(vs.length:Int))=True:=eq_true (by rw[h1];simp;omega)
  have hi:(0:Int)≤(l1.length:Int):=by omega
  have w3:IntKind.i64.wrap ((l1.length:Int)+1)=(l1.length:Int)+1:=by rw[wrap_i64]<;>omega
  have w4:IntKind.i64.wrap (0+(l1.length:Int))=(l1.length:Int):=by rw[wrap_i64]<;>omega
  have w5:IntKind.i64.wrap (l1.length:Int)=(l1.length:Int):=by rw[wrap_i64]<;>omega
  have hget:(qft vs)[l1.length]? = some [.int .i64 x]:=by rw[h1];simp[qft]
  have hls:(l1++[x]).length=l1.length+1:=by simp
  by_cases hx:x=t.num
  ·refine⟨nx+7,?_⟩
   rw[qad]
   simp only[idxF,hx,if_true]
   rw[hx] at hget
   simp (maxSteps:=1000000) (disch:=omega) only[ql1,qih,↓axP,axQ,seval,qaa,qab,tX,hlt,hrl,hi,hget,b0,b1,w3,w4,w5,Int.toNat_natCast,Int.zero_add]
  ·have hx':t.num≠x:=fun e=>hx e.symm
   obtain⟨nx2,IH⟩:=ih (l1++[x]) (nx+7) k (by simp[h1]) (by simp at h4;omega)
   rw[hls] at IH
   simp only[Int.natCast_add,Int.natCast_one] at IH
   refine⟨nx2,?_⟩
   rw[qad]
   simp only[idxF,hx',if_false]
   rw[←IH]
   simp (maxSteps:=1000000) (disch:=omega) only[ql1,qih,↓axP,axQ,seval,qaa,qab,tX,hlt,hrl,hi,hget,b0,hx,w3,Int.toNat_natCast]
def qf0:List AV:=[.int .i64 0,.int .i64 0,.str [],.nils]
theorem rrb_loop{n:Nat}(F0:Nat)(t:Tm)(vs:List Int)(hvl:vs.length≤2000)(hl:t.args.length≤1000)(gs:Tr Grp)(b0:gs.get 0=some ⟨0,0,tmC t⟩):∀(l2 l1:List Tm) (nx F:Nat),t.args=l1++l2→(∀x∈l2,(x.height≤n∧Fine 1000 x)∧x.allG=true)→l2.length<F →
  iter (ycode (tcall [(101,qae (qk1 n)),(50,qae qgh)]) F0 qut) F (mk [(1,.vals 1 (qft vs)),(2,.int .i64 0),(3,.ptr 0 0 0),(6,.ptr 1 0 0),(8,.slc 2 0 0 t.args.length 4),(9,.int .i64 l1.length)]) ⟨nx,gs.set 2 ⟨0,0,((l1.map (qa1 (rho (qev 0 vs)))).map tmC).flatten++(List.replicate l2.length qf0).flatten⟩,.nil⟩=some (.exit 2,mk [(3,.ptr 0 0 0),(6,.ptr 1 0 0),(8,.slc 2 0 0 t.args.length 4)],⟨nx,gs.set 2 ⟨0,0,((t.args.map (qa1 (rho (qev 0 vs)))).map tmC).flatten⟩,.nil⟩):=by
 intro l2
 induction l2 with
 |nil=>
  intro l1 nx F h1 h2 h4
  obtain⟨k,rfl⟩:=qam (f:=fun _ _=>none) (n:=F) (by omega)
  rw[List.append_nil] at h1
  have hlt:((l1.length:Int)<(t.args.length:Int))=False:=by rw[h1];simp
  have b0':∀r,(gs.set 2 r).get 0=some ⟨0,0,tmC t⟩:=fun r=>by rw[Tr.get_set_ne _ _ (by omega)];exact b0
  rw[←h1,qad]
  rw[←h1] at hlt
  simp (maxSteps:=1000000) (disch:=omega) only[qr3,qlc,↓axP,axQ,seval,qaa,qab,tX,hlt,b0,List.length_map,List.length_nil,List.replicate_zero,List.append_nil]
 |cons x l2 ih=>
  intro l1 nx F h1 h2 h4
  obtain⟨k,rfl⟩:=qam (f:=fun _ _=>none) (n:=F) (by omega)
  have hR:l1.length+1≤1000:=by rw[h1] at hl;simp at hl;omega
  have hlt:((l1.length:Int)<(t.args.length:Int))=True:=eq_true (by rw[h1];simp;omega)
  have hi:(0:Int)≤(l1.length:Int):=by omega
  have w3:IntKind.i64.wrap ((l1.length:Int)+1)=(l1.length:Int)+1:=by rw[wrap_i64]<;>omega
  have hget:(t.args.map tmC)[l1.length]? = some (tmC x):=by rw[h1];simp
  have hls:(l1++[x]).length=l1.length+1:=by simp
  obtain⟨hx1,hx2⟩:=h2 x (List.mem_cons_self ..)
  have hr:=qxx (n:=n) hvl hx1 hx2
  have IH:=ih (l1++[x]) nx k (by simp[h1]) (fun y hy=>h2 y (List.mem_cons_of_mem _ hy)) (by simp at h4;omega)
  rw[hls] at IH
  simp only[Int.natCast_add,Int.natCast_one] at IH
  have hpl:((l1.map (qa1 (rho (qev 0 vs)))).map tmC).flatten.length=l1.length*4:=by
   rw[qat (qvk _),List.length_map,List.length_map]
  have hcl:(((l1.map (qa1 (rho (qev 0 vs)))).map tmC).flatten++(List.replicate (x::l2).length qf0).flatten).length=l1.length*4+(l2.length+1)*4:=by
   rw[List.length_append,hpl,qd0];rfl
  have hnew:(((l1.map (qa1 (rho (qev 0 vs)))).map tmC).flatten++(List.replicate (x::l2).length qf0).flatten).take (l1.length*4)++tmC (qa1 (rho (qev 0 vs)) x)++(((l1.map (qa1 (rho (qev 0 vs)))).map tmC).flatten++(List.replicate (x::l2).length qf0).flatten).drop (l1.length*4+4)=(((l1++[x]).map (qa1 (rho (qev 0 vs)))).map tmC).flatten++(List.replicate l2.length qf0).flatten:=by
   rw[←hpl,List.take_left,←List.drop_drop,List.drop_left,List.length_cons,List.replicate_succ,List.flatten_cons]
   have:(qf0++(List.replicate l2.length qf0).flatten).drop 4=(List.replicate l2.length qf0).flatten:=List.drop_left' rfl
   rw[this]
   simp
  have hbd:l1.length*4+4≤(((l1.map (qa1 (rho (qev 0 vs)))).map tmC).flatten++(List.replicate (x::l2).length qf0).flatten).length:=by rw[hcl];omega
  rw[qad]
  generalize (((l1.map (qa1 (rho (qev 0 vs)))).map tmC).flatten++(List.replicate (x::l2).length qf0).flatten)=C at hnew hbd ⊢
  have q1:((2:Nat)=0)=False:=by simp
  rw[←IH,←hnew]
  simp (maxSteps:=1000000) (disch:=omega) only[qr3,qlc,↓axP,axQ,seval,qaa,qab,tX,hlt,hi,hget,b0,hr,hbd,w3,Int.toNat_natCast,List.length_map]
end
section
open Go Go.Abs Go.RowKit
attribute [local congr] qai qaj qag
theorem allsG_of{l:List Tm}(h:Tm.allsG l=true):∀x∈l,x.allG=true:=by
 induction l with
 |nil=>intro x hx;cases hx
 |cons y l ih=>
  intro x hx
  simp only[Tm.allsG,Bool.and_eq_true] at h
  rcases List.mem_cons.1 hx with rfl|hx
  ·exact h.1
  ·exact ih h.2 x hx
theorem fz_var(H:AH)(i:Int):Fz H (.agg [.int .i64 0,.int .i64 i,.str [],.nils]) (.agg (tmC (q0c i))):=by
 rw[qbq]
 exact .ofAgg (.cons (.pure rfl) (.cons (.pure rfl) (.cons (.pure rfl) (.cons (.nils 4) (.nil _)))))
theorem mk_rows(nx:Nat)(gs:Tr Grp)(ms:Tr qbm)(h:gs.get nx=none)(n:Nat)(hn:n≤1000):q5d 4 56 [.int .i64 0,.int .i64 0,.str [],.nils] ⟨nx,gs,ms⟩ (.int .i64 n) (.int .i64 n)=some (.slc nx 0 0 n 4,⟨nx+1,gs.set nx ⟨0,0,(List.replicate n qf0).flatten⟩,ms⟩):=by
 have h1:((n:Int)).toNat*4≤16777216:=by simp;omega
 have h2:(56:Int)*(n:Int)≤281474976710656:=by omega
 have h3:(n:Int)≤9223372036854775807:=by omega
 unfold q5d
 simp only
 rw[if_pos ⟨by omega,Int.le_refl _,h1,h2,h3,by simp[AH.free,h]⟩]
 simp[AH.add,qf0]
set_option maxHeartbeats 1000000 in
theorem rr_step{n:Nat}(hs:HookOne Tryz.prog 101 (qae (qk1 n))):HookOne Tryz.prog 101 (qae (qk1 (n+1))):=by
 refine HookOne.ofPureF (by decide +kernel) fun args y h H=>?_
 have hl:∀e∈[(101,qae (qk1 n)),(50,qae qgh)],HookOne Tryz.prog e.1 e.2:=by
  intro e he
  simp only[List.mem_cons,List.not_mem_nil,or_false] at he
  rcases he with rfl|rfl
  ·exact hs
  ·exact qiw
 obtain⟨t,vs,rfl,hvl,hc,hg,rfl⟩:=qxw h
 refine ACalls.ofRun hl mixed (draws _ rfl) q2c rfl (by
  have:qa2 (qft vs).flatten=true:=by rw[qnf];exact qm0 _
  simp only[qa2,qba,qas,Bool.true_and,Bool.and_true]
  first | exact pure_intR vs | (simp [qba,qeo,qa2,qft])) (vs.length + t.args.length + 1) ?_ H
 have b0:((Tr.nil.set 0 (⟨0,0,tmC t⟩:Grp)).set 1 ⟨0,0,[.int .i64 0,.int .i64 0,.str [],.nils]⟩).get 0=some ⟨0,0,tmC t⟩:=by rw[Tr.get_set_ne _ _ (by omega),Tr.get_set_same]
 have b1:((Tr.nil.set 0 (⟨0,0,tmC t⟩:Grp)).set 1 ⟨0,0,[.int .i64 0,.int .i64 0,.str [],.nils]⟩).get 1=some ⟨0,0,[.int .i64 0,.int .i64 0,.str [],.nils]⟩:=Tr.get_set_same _ _ _
 unfold tmA
 by_cases k0:t.kind=0
 ·rw[qmx k0,q4g]
  obtain⟨nx2,k1⟩:=rrf_loop (l:=[(101,qae (qk1 n)),(50,qae qgh)]) (vs.length+t.args.length+1) t vs hvl _ b0 b1 vs [] 2 (vs.length+t.args.length+1) rfl (by omega)
  cases hi:idxF t.num vs 0 with
  |some i=>
   simp only[List.length_nil,hi,Int.natCast_zero] at k1
   rw[Option.map_some,Option.getD_some]
   simp (maxSteps:=1000000) (disch:=omega) only[qr4,qb7,↓axP,axQ,seval,qaa,qab,tX,k0,k1]
   exact Ans.some (fz_var _ _)
  |none=>
   simp only[List.length_nil,hi,Int.natCast_zero] at k1
   rw[Option.map_none,Option.getD_none]
   simp (maxSteps:=1000000) (disch:=omega) only[qr4,qb7,↓axP,axQ,seval,qaa,qab,tX,k0,k1]
   exact Ans.some (.pure (qas t))
 ·rw[qeg k0]
  by_cases ha:t.args=[]
  ·have:(.mk t.kind t.num t.name (t.args.map (qa1 (rho (qev 0 vs)))):Tm)=t:=by cases t;simp only[Tm.args] at ha;subst ha;rfl
   rw[this]
   have ha':((t.args.length:Int)=0)=True:=eq_true (by rw[ha];rfl)
   simp (maxSteps:=1000000) (disch:=omega) only[qr4,qb7,↓axP,axQ,seval,qaa,qab,tX,k0,ha',List.length_map]
   exact Ans.some (.pure (qas t))
  ·have hal:=hc.2.args.1
   have hpos:t.args.length≠0:=fun e=>ha (List.eq_nil_of_length_eq_zero e)
   have ha':((t.args.length:Int)=0)=False:=eq_false (by omega)
   have hgn:=hg
   rw[qfz,Bool.and_eq_true] at hgn
   have hkn:t.kind=2∧t.num=0:=by
    have h1:=hgn.1
    unfold qdh at h1
    rw[if_neg k0] at h1
    by_cases k1:t.kind=1
    ·rw[if_pos k1] at h1
     simp only[Bool.and_eq_true,decide_eq_true_eq] at h1
     exact absurd h1.2 hpos
    ·rw[if_neg k1] at h1
     by_cases k2:t.kind=2
     ·rw[if_pos k2] at h1
      simp at h1
      exact⟨k2,h1.1.1⟩
     ·rw[if_neg k2] at h1;cases h1
   rw[hkn.1,hkn.2]
   have hargs:∀x∈t.args,(x.height≤n∧Fine 1000 x)∧x.allG=true:=fun x hx=>⟨qnz hc.1 hc.2 x hx,allsG_of hgn.2 x hx⟩
   have k1:=rrb_loop (n:=n) (vs.length+t.args.length+1) t vs hvl hal _ b0 t.args [] 3 (vs.length+t.args.length+1) rfl hargs (by omega)
   have hw0:(0:Int)≤(t.args.length:Int):=by omega
   have hw1:(t.args.length*4≤16777216)=True:=eq_true (by omega)
   have hw2:((56:Int)*(t.args.length:Int)≤281474976710656)=True:=eq_true (by omega)
   have hw3:((t.args.length:Int)≤9223372036854775807)=True:=eq_true (by omega)
   have hfl:((t.args.map (qa1 (rho (qev 0 vs)))).map tmC).flatten.length=t.args.length*4:=by rw[qat (qvk _),List.length_map,List.length_map]
   have hch:chunk 4 t.args.length ((((t.args.map (qa1 (rho (qev 0 vs)))).map tmC).flatten).take (t.args.length*4))=(t.args.map (qa1 (rho (qev 0 vs)))).map tmC:=by
    rw[←hfl,List.take_length]
    have:=qpb (qvk (t.args.map (qa1 (rho (qev 0 vs)))))
    rw[List.length_map,List.length_map] at this
    exact this
   have hcp:=qix t.name (t.args.map (qa1 (rho (qev 0 vs))))
   simp only[List.map_nil,List.flatten_nil,List.nil_append,List.length_nil,Int.natCast_zero] at k1
   have e2:((Tr.nil.set 0 (⟨0,0,tmC t⟩:Grp)).set 1 ⟨0,0,[.int .i64 0,.int .i64 0,.str [],.nils]⟩).get 2=none:=by rw[Tr.get_set_ne _ _ (by omega),Tr.get_set_ne _ _ (by omega)];exact Tr.get_nil _
   have hmk:=mk_rows 2 _ .nil e2 t.args.length hal
   simp (maxSteps:=1000000) (disch:=omega) only[qr4,qb7,↓axP,axQ,seval,qaa,qab,tX,k0,ha',List.length_map,hmk,Int.toNat_natCast,k1,hfl,hch,hcp]
   exact Ans.some (.pure (qas _))
end
section
open Go Go.Abs Go.RowKit
attribute [local congr] qai qaj qag
theorem rrS_0(args:List AV):qk1 0 args=none:=by
 cases h:qk1 0 args with
 |none=>rfl
 |some y=>
  obtain⟨t,vs,-,-,hc,-⟩:=qxw h
  have:=hc.1
  have:=qbo t
  omega
theorem rr_any:∀n,HookOne Tryz.prog 101 (qae (qk1 n)):=qj9 _ (fun h=>rr_step h) rrS_0 (by decide +kernel)
noncomputable def qhv(t:Tm):AV:=if t.good=true then .tup [tmA (qah t),.int .i64 (qax (qc8 t)).length,.int .i64 0] else .tup [tmA z0T,.int .i64 0,.int .i64 1]
noncomputable def qhu:List AV→Option AV
 |[x,.int .i64 0]=>(ofT x).bind fun t=>only (Fine 1000 t) (some (qhv t))
 |_=>none
theorem qsr{t:Tm}(h:Fine 1000 t):qhu [.agg (tmC t),.int .i64 0]=some (qhv t):=by
 show (ofT (tmA t)).bind _=_
 rw[qcc];exact qa0 h _
theorem qsq:HookOne Tryz.prog 49 (qae qhu):=by
 refine HookOne.ofPureF (by decide +kernel) fun args y h H=>?_
 have hl:∀e∈[(80,qae qfj),(100,qae qiq),(101,qae (qk1 64))],HookOne Tryz.prog e.1 e.2:=by
  intro e he
  simp only[List.mem_cons,List.not_mem_nil,or_false] at he
  rcases he with rfl|rfl|rfl
  ·exact qhd
  ·exact qsn
  ·exact rr_any 64
 unfold qhu at h;split at h
 ·rename_i x
  rw[Option.bind_eq_some_iff] at h
  obtain⟨t,h1,h2⟩:=h
  obtain⟨hf,h3⟩:=qau h2
  cases h3
  obtain rfl:=qbr h1
  refine ACalls.ofRun hl mixed (draws _ rfl) q2o rfl (by simp[qa2,qas,qba]) 0 ?_ H
  have hgd:=qap hf
  unfold tmA
  cases hg:t.good with
  |false=>
   rw[hg] at hgd
   have:qhv t=.tup [tmA z0T,.int .i64 0,.int .i64 1]:=by simp[qhv,hg]
   rw[this]
   simp (maxSteps:=1000000) (disch:=omega) only[q2p,qak,↓axP,axQ,seval,qaa,qab,tX,hgd]
   refine Ans.some (.ofTup (.cons ?_ (.cons (.pure rfl) (.cons (.pure rfl) (.nil _)))))
   unfold tmA z0T
   rw[qbq]
   exact .ofAgg (.cons (.pure rfl) (.cons (.pure rfl) (.cons (.pure rfl) (.cons (.nils 4) (.nil _)))))
  |true=>
   rw[hg] at hgd
   obtain⟨g1,g2,g3⟩:=qqx hg
   have hvs:qiq [.agg (tmC t)]=some (.vals 1 (qft (qax (qc8 t)))):=by rw[qli hf];simp[qjx,hg]
   have hvl:=qlh hg
   have hr:=qxx (n:=64) hvl ⟨g2,hf⟩ g3
   have:qhv t=.tup [tmA (qah t),.int .i64 (qax (qc8 t)).length,.int .i64 0]:=by simp[qhv,hg]
   rw[this]
   have hrl:(qft (qax (qc8 t))).length=(qax (qc8 t)).length:=by simp[qft]
   have hw:IntKind.i64.wrap (0+((qax (qc8 t)).length:Int))=((qax (qc8 t)).length:Int):=by rw[wrap_i64]<;>omega
   have hw':IntKind.i64.wrap ((qax (qc8 t)).length:Int)=((qax (qc8 t)).length:Int):=by rw[wrap_i64]<;>omega
   have hgt:((2147483648:Int)<((qax (qc8 t)).length:Int))=False:=eq_false (by omega)
   have hge:((2147483648:Int)≤0)=False:=by simp
   unfold qah
   simp (maxSteps:=1000000) (disch:=omega) only[q2p,qak,↓axP,axQ,seval,qaa,qab,tX,hgd,hvs,hrl,hw,hw',hgt,hge,hr,Int.zero_add]
   exact Ans.some (.ofTup (.cons (.pure (qas _)) (.cons (.pure rfl) (.cons (.pure rfl) (.nil _)))))
 ·cases h
end
section
open Go Go.Abs Go.RowKit
attribute [local congr] qai qaj qag
attribute [local congr] qal
noncomputable abbrev ysTw:List (FuncId×YF):=[(102,q19)]
noncomputable abbrev lsTw:List (FuncId×(List AV→AH→Option (AV×AH))):=[(49,qae qhu),(100,qae qiq),(50,qae qgh)]
theorem lsTw_ok:∀e∈lsTw,HookOne Tryz.prog e.1 e.2:=by
 intro e he
 simp only[lsTw,List.mem_cons,List.not_mem_nil,or_false] at he
 rcases he with rfl|rfl|rfl
 ·exact qsq
 ·exact qsn
 ·exact qiw
theorem ysTw_ok:∀e∈ysTw,qbp Tryz.prog (fun _=>true) e.1=some e.2.er:=by
 intro e he
 simp only[ysTw,List.mem_singleton] at he
 subst he
 exact q18
def iE(n:Int):AV:=.int .i64 n
theorem tw_loop(call:qar)(F0:Nat)(g:Nat)(p3 p4 p5 p6:AV)(vs:List Int)(hvl:vs.length≤2000)(nx:Nat)(gs:Tr Grp)(ms0:Tr qbm):∀(l2 l1:List Int) (m:List (Nat×Int×Int)) (c:Nat) (ms:Tr qbm) (F:Nat),vs=l1++l2→ms.get g=some (c,qcb iE iE m)→(∀g',g'≠g→ms.get g'=ms0.get g')→l2.length<F →
  ∃ms',iter (ycode call F0 qus) F (mk [(3,p3),(4,p4),(5,p5),(6,p6),(8,.vals 1 (qft vs)),(9,.vals 1 []),(10,.mapp g),(11,.int .i64 l1.length)]) ⟨nx,gs,ms⟩=some (.exit 0,mk [(3,p3),(4,p4),(5,p5),(6,p6),(9,.vals 1 []),(10,.mapp g)],⟨nx,gs,ms'⟩)∧∀g',g'≠g→ms'.get g'=ms0.get g':=by
 intro l2
 have hrl:(qft vs).length=vs.length:=by simp[qft]
 induction l2 with
 |nil=>
  intro l1 m c ms F h1 h2 h3 h4
  obtain⟨k,rfl⟩:=qam (f:=fun _ _=>none) (n:=F) (by omega)
  rw[List.append_nil] at h1
  have hlt:((l1.length:Int)<(vs.length:Int))=False:=by rw[h1];simp
  refine⟨ms,?_,h3⟩
  rw[qad]
  simp (maxSteps:=1000000) (disch:=omega) only[qr2,qlb,↓axP,axQ,seval,qaa,qab,tX,hlt,hrl]
 |cons x l2 ih=>
  intro l1 m c ms F h1 h2 h3 h4
  obtain⟨k,rfl⟩:=qam (f:=fun _ _=>none) (n:=F) (by omega)
  have hR:l1.length+1≤2000:=by rw[h1] at hvl;simp at hvl;omega
  have hlt:((l1.length:Int)<(vs.length:Int))=True:=eq_true (by rw[h1];simp;omega)
  have hi:(0:Int)≤(l1.length:Int):=by omega
  have w3:IntKind.i64.wrap ((l1.length:Int)+1)=(l1.length:Int)+1:=by rw[wrap_i64]<;>omega
  have hget:(qft vs)[l1.length]? = some [.int .i64 x]:=by rw[h1];simp[qft]
  have hs:mset (.int .i64 x) (.int .i64 (l1.length:Int)) c (qcb iE iE m)=some ((qbc x (l1.length:Int) c m).1,qcb iE iE (qbc x (l1.length:Int) c m).2):=set_E (kE:=iE) (vE:=iE) (fun a b=>qkq _ _ _) x (l1.length:Int) c m
  obtain⟨ms',k1,k2⟩:=ih (l1++[x]) _ _ (ms.set g ((qbc x (l1.length:Int) c m).1,qcb iE iE (qbc x (l1.length:Int) c m).2)) k (by simp[h1]) (Tr.get_set_same _ _ _) (fun g' hg=>by rw[Tr.get_set_ne _ _ hg];exact h3 g' hg) (by simp at h4;omega)
  have hls:(l1++[x]).length=l1.length+1:=by simp
  rw[hls] at k1
  simp only[Int.natCast_add,Int.natCast_one] at k1
  refine⟨ms',?_,k2⟩
  rw[qad]
  simp (maxSteps:=1000000) (disch:=omega) only[qr2,qlb,↓axP,axQ,seval,qaa,qab,tX,hlt,hi,hrl,hget,w3,h2,hs,k1,Int.toNat_natCast]
theorem tw_comp(g nx:Nat)(gs:Tr Grp)(ms:Tr qbm)(nm:List UInt8)(a b:Tm)(h:gs.get g=some ⟨0,0,tmC a++tmC b⟩):icall ysTw lsTw 2001 2 50 [.str nm,.slc g 0 0 2 4] ⟨nx,gs,ms⟩=some (.agg (tmC (.mk 2 0 nm [a,b])),⟨nx,gs.set g ⟨0,8,tmC a++tmC b⟩,ms⟩):=by
 rw[qay (k:=qae qgh) rfl]
 have e:=qix nm [a,b]
 simp only[List.map_cons,List.map_nil] at e
 simp (maxSteps:=1000000) (disch:=omega) only[↓axP,axQ,seval,qaa,qab,tX,h,e,q6m,chunk]
theorem tw_swap(g nx:Nat)(gs:Tr Grp)(ms:Tr qbm)(h0:gs.get nx=none)(h1:gs.get (nx+1)=none):icall ysTw lsTw 2001 2 102 [.agg (tmC qbl),.mapp g] ⟨nx,gs,ms⟩=some (.agg (tmC qbl),⟨nx+2,(gs.set nx ⟨0,0,tmC qbl⟩).set (nx+1) ⟨0,0,tmC qbl⟩,ms⟩):=by
 refine qbn rfl rfl rfl ?_
 have htr:tmC qbl=[.int .i64 2,.int .i64 0,.str [116,114,117,101],.vals 4 []]:=by rw[qbq];rfl
 have q1:(nx+1=nx)=False:=by simp
 rw[htr]
 simp (maxSteps:=1000000) (disch:=omega) only[q19,qak,↓axP,axQ,seval,qaa,qab,tX,h0,h1,q1,nk1,nk2,Nat.add_assoc]
noncomputable def qso:List AV→Option AV
 |[x,y]=>(ofT x).bind fun t=>only ((t.good=true∧Fine 1000 t)∧y=tmA qbl) (some (tmA (.mk 2 0 [58,45] [qah t,qbl])))
 |_=>none
theorem q30{t:Tm}(h:t.good=true)(hf:Fine 1000 t):qso [.agg (tmC t),.agg (tmC qbl)]=some (.agg (tmC (.mk 2 0 [58,45] [qah t,qbl]))):=by
 show (ofT (tmA t)).bind _=_
 rw[qcc];exact qa0 (by exact⟨⟨h,hf⟩,rfl⟩) _
set_option maxHeartbeats 1000000 in
theorem q3z:HookOne Tryz.prog 51 (qae qso):=by
 refine HookOne.ofPureF (by decide +kernel) fun args y h H=>?_
 unfold qso at h;split at h
 ·rename_i x z
  rw[Option.bind_eq_some_iff] at h
  obtain⟨t,h1,h2⟩:=h
  obtain⟨⟨⟨hg,hf⟩,rfl⟩,h3⟩:=qau h2
  cases h3
  obtain rfl:=qbr h1
  have hic:=qey (P:=Tryz.prog) mixed (fun f=>draws f rfl) ysTw_ok lsTw_ok 2001 2
  refine ACalls.onCall hic.1 hic.2 mixed (draws _ rfl) q17 rfl 2001 fun N hN hcl=>?_
  obtain⟨nx0,gs,ms⟩:=H
  simp only at hN
  have lt:∀g r,gs.get g=some r→g<N:=fun g r h=>by
   rcases Nat.lt_or_ge g N with q|q
   ·exact q
   ·rw[(hN g q).1] at h;cases h
  have ltm:∀g r,ms.get g=some r→g<N:=fun g r h=>by
   rcases Nat.lt_or_ge g N with q|q
   ·exact q
   ·rw[(hN g q).2] at h;cases h
  have e:∀i,gs.get (N+i)=none:=fun i=>(hN (N+i) (by omega)).1
  have em:∀i,ms.get (N+i)=none:=fun i=>(hN (N+i) (by omega)).2
  have e0:gs.get N=none:=(hN N (Nat.le_refl _)).1
  have c1:∀nx gs ms,icall ysTw lsTw 2001 2 49 [.agg (tmC t),.int .i64 0] ⟨nx,gs,ms⟩=some (.tup [.agg (tmC (qah t)),.int .i64 (qax (qc8 t)).length,.int .i64 0],⟨nx,gs,ms⟩):=fun nx gs ms=>by
   rw[qay (k:=qae qhu) rfl]
   have:qhu [.agg (tmC t),.int .i64 0]=some (.tup [.agg (tmC (qah t)),.int .i64 (qax (qc8 t)).length,.int .i64 0]):=by rw[qsr hf];simp[qhv,hg,tmA]
   simp (maxSteps:=1000000) (disch:=omega) only[↓axP,axQ,seval,qaa,qab,tX,this]
  have c2:∀nx gs ms,icall ysTw lsTw 2001 2 100 [.agg (tmC t)] ⟨nx,gs,ms⟩=some (.vals 1 (qft (qax (qc8 t))),⟨nx,gs,ms⟩):=fun nx gs ms=>by
   rw[qay (k:=qae qiq) rfl]
   have:qiq [.agg (tmC t)]=some (.vals 1 (qft (qax (qc8 t)))):=by rw[qli hf];simp[qjx,hg]
   simp (maxSteps:=1000000) (disch:=omega) only[↓axP,axQ,seval,qaa,qab,tX,this]
  have c3:∀nx gs ms,icall ysTw lsTw 2001 2 100 [.agg (tmC qbl)] ⟨nx,gs,ms⟩=some (.vals 1 [],⟨nx,gs,ms⟩):=fun nx gs ms=>by
   rw[qay (k:=qae qiq) rfl]
   have:qiq [.agg (tmC qbl)]=some (.vals 1 []):=by rw[qli qjc];rfl
   simp (maxSteps:=1000000) (disch:=omega) only[↓axP,axQ,seval,qaa,qab,tX,this]
  have htr:tmC qbl=[.int .i64 2,.int .i64 0,.str [116,114,117,101],.vals 4 []]:=by rw[qbq];rfl
  unfold tmA
  simp (maxSteps:=1000000) (disch:=omega) only[yRtwic,qak,↓axP,axQ,seval,qaa,qab,tX,e,e0,em,c1,c2,c3,nk1,nk2,nk3,Nat.add_assoc]
  have hvl:=qlh hg
  obtain⟨ms',k1,k2⟩:=tw_loop (icall ysTw lsTw 2001 2) 2001 (N+10) (.ptr (N+1) 0 0) (.ptr (N+2) 0 0) (.ptr (N+3) 0 0) (.int .i64 (qax (qc8 t)).length) (qax (qc8 t)) hvl (N+11) ((((gs.set N ⟨0,0,tmC t⟩).set (N+1) ⟨0,0,tmC qbl⟩).set (N+2) ⟨0,0,[.int .i64 0,.int .i64 0,.str [],.nils]⟩).set (N+3) ⟨0,0,tmC (qah t)⟩) (ms.set (N+10) (0,[])) (qax (qc8 t)) [] [] 0 (ms.set (N+10) (0,[])) 2001 rfl (Tr.get_set_same _ _ _) (fun _ _=>rfl) (by omega)
  simp (maxSteps:=1000000) (disch:=omega) only[↓axP,axQ,seval,qaa,qab] at k1
  rw[k1]
  simp (maxSteps:=1000000) (disch:=omega) only[q15,qpn,qad,↓axP,axQ,seval,qaa,qab,tX,e,e0,em,c1,c2,c3,nk1,nk2,nk3,Nat.add_assoc]
  rw[tw_swap _ _ _ _ (by simp[Tr.get_set,nk2,nk3,e]) (by simp[Tr.get_set,nk2,nk3,e,Nat.add_assoc])]
  simp (maxSteps:=1000000) (disch:=omega) only[↓axP,axQ,seval,qaa,qab,tX,e,e0,em,nk1,nk2,nk3,Nat.add_assoc]
  rw[tw_comp _ _ _ _ [58,45] (qah t) qbl (by simp[Tr.get_set,nk3])]
  simp (maxSteps:=1000000) (disch:=omega) only[↓axP,axQ,seval,qaa,qab,tX,e,e0,em,nk1,nk2,nk3,Nat.add_assoc]
  refine Comes.some (Canon.pure hcl (fun g r h=>?_) (fun g r h=>?_) (qas _))
  ·have:=lt g r h
   simp[Tr.get_set,show g≠N by omega,show ∀k,g≠N+k by omega]
   exact h
  ·have:=ltm g r h
   show ms'.get g=_
   rw[k2 g (by omega),Tr.get_set_ne _ _ (by omega)]
   exact h
 ·cases h
end
section
open Go Go.Abs Go.RowKit
attribute [local congr] qai qaj qag
theorem q31{n:Nat}(hof:HookOne Tryz.prog 98 (qae (q0n n))):HookOne Tryz.prog 132 (qae (qsp n)):=by
 refine HookOne.ofPureF (by decide +kernel) fun args y h H=>?_
 have hl:∀e∈[(98,qae (q0n n))],HookOne Tryz.prog e.1 e.2:=by
  intro e he;simp at he;subst he;exact hof
 unfold qsp at h;split at h
 ·rename_i k x
  rw[Option.bind_eq_some_iff] at h
  obtain⟨l,h1,h2⟩:=h
  obtain⟨⟨hn,hR⟩,h3⟩:=qau h2
  cases h3
  obtain rfl:=qdi h1
  unfold lsA
  refine ACalls.ofRun hl mixed (draws _ rfl) q2a rfl (by simp[qa2,qba,qci]) (l.length+1) ?_ H
  have wf0:AH.wf ⟨1,Tr.nil.set 0 ⟨0,0,[.int .i64 k,.int .i64 0,.int .i64 0,.str [],.nils,.nils]⟩,.nil⟩:=qip qp2 _
  obtain⟨q1,q2⟩:=q0m (n:=n) (l.length+1) k l hn l [] [] .nils _ (l.length+1) rfl rfl hR ⟨wf0,Nat.le_refl _,by simp only[↓axP,axQ,seval,qaa,qab],qe4 _ _,qi1 _⟩ (Nat.lt_succ_self _)
  simp only[List.length_nil,Int.natCast_zero] at q1 q2
  by_cases hz:(qaz (qbe n) l).2=0
  ·obtain⟨o',H',k1,w1,w2,g0,w3,w4⟩:=q1 hz
   have ho:o'.one=true:=by
    obtain⟨-,q⟩:=w3
    rcases q with⟨rfl,-⟩|⟨g,e,rfl,-⟩<;>rfl
   obtain⟨nx,gs,ms⟩:=H'
   simp only at g0 w2
   have e8:=qmj w1
   have q0:(0=nx)=False:=eq_false (by omega)
   simp (maxSteps:=1000000) (disch:=omega) only[q2b,qak,↓axP,axQ,seval,qaa,qab,k1,g0,ho,e8,q0,qfe,hz]
   refine Ans.some (.ofTup (.cons (Fz.ofSlc (by simp only[↓axP,axQ,seval,qaa,qab];rfl) rfl (by simp[qe8]) ?_) (.cons (.pure rfl) (.nil _))))
   simp only[List.map_cons,List.map_nil,List.flatten_cons,List.flatten_nil,List.append_nil,glC,qbq,zT,Tm.kind,Tm.num,Tm.name,Tm.args,List.cons_append,List.nil_append]
   refine .cons (.pure rfl) (.cons (.pure rfl) (.cons (.pure rfl) (.cons (.pure rfl) (.cons (.nils 4) (.cons ?_ (.nil _))))))
   rw[qhk]
   refine (w3.add _).fz (by simp) (by simp) ?_
   have:(List.map (fun r=>[glV r]) (qaz (qbe n) l).1).flatten=([]++(qaz (qbe n) l).1).map glV:=by
    rw[List.nil_append]
    induction (qaz (qbe n) l).1 with
    |nil=>rfl
    |cons a b ih=>simp[ih]
   rw[this]
   refine FzL.pure ?_
   rw[qa6]
   intro x hx
   obtain⟨r,_,rfl⟩:=List.mem_map.1 hx
   exact qcr r
  ·obtain⟨H',k1⟩:=q2 hz
   simp (maxSteps:=1000000) (disch:=omega) only[q2b,qak,↓axP,axQ,seval,qaa,qab,k1,qfe,hz]
   exact Ans.some (.ofTup (.cons (.nils 6) (.cons (.pure rfl) (.nil _))))
 ·cases h
theorem qyz{t:Tm}{s s':List UInt8}{m m':Int}(h:isP t s m=true)(hm:m≠m'):isP t s' m'=false:=by
 unfold isP at h ⊢
 simp only[Bool.and_eq_true,decide_eq_true_eq] at h
 have:decide ((t.args.length:Int)=m')=false:=decide_eq_false (by omega)
 rw[this,Bool.and_false]
theorem fail_RG{n:Nat}{t:Tm}(h:RG n t):RG n qh8:=
 ⟨⟨by have:=h.1.1;have:=qbo t;simp[qh8,Tm.height,Tm.heights];omega,qtq,by simp[qh8,Tm.size,Tm.sizes]⟩,by decide⟩
set_option maxHeartbeats 4000000 in
theorem rof_step{n:Nat}(hof:HookOne Tryz.prog 98 (qae (q0n n))):HookOne Tryz.prog 98 (qae (q0n (n+1))):=by
 refine HookOne.ofPureF (by decide +kernel) fun args y h H=>?_
 have hl:∀e∈[(97,qae isRS),(50,qae qgh),(81,qae qrk),(131,qae (rtwoS n)),(132,qae (qsp n))],HookOne Tryz.prog e.1 e.2:=by
  intro e he
  simp only[List.mem_cons,List.not_mem_nil,or_false] at he
  rcases he with rfl|rfl|rfl|rfl|rfl
  ·exact q4f
  ·exact qiw
  ·exact qsx
  ·exact rtwo_one hof
  ·exact q31 hof
 unfold q0n at h;split at h
 ·rename_i x
  rw[Option.bind_eq_some_iff] at h
  obtain⟨t,h1,h2⟩:=h
  obtain⟨hc,h3⟩:=qau h2
  cases h3
  obtain rfl:=qbr h1
  refine ACalls.ofRun hl mixed (draws _ rfl) yRof_ok rfl (by simp[qa2,qas]) 0 ?_ H
  have hRG:∀x∈t.args,RG n x:=fun x hx=>hc.arg hx
  have hi:=qyy hc.kind
  unfold tmA
  by_cases k0:t.kind=0
  ·simp only[qbe,if_pos k0]
   have e:=qix [99,97,108,108] [t]
   simp only[List.map_cons,List.map_nil] at e
   simp (maxSteps:=1000000) (disch:=omega) only[q2e,qaf,↓axP,axQ,seval,qaa,qab,tX,k0,e]
   refine Ans.some (.ofTup (.cons (Fz.ofSlc (by simp only[↓axP,axQ,seval,qaa,qab];rfl) rfl (by simp[qe8]) ?_) (.cons (.pure rfl) (.nil _))))
   simp only[List.map_cons,List.map_nil,List.flatten_cons,List.flatten_nil,List.append_nil,glC]
   exact .cons (.pure rfl) (.append (.pure (qcq _)) (.cons (.nils 1) (.nil _)))
  ·simp only[qbe,if_neg k0]
   by_cases k1:t.kind=1
   ·simp only[if_pos k1]
    have k0':((1:Int)=0)=False:=by simp
    simp (maxSteps:=1000000) (disch:=omega) only[q2e,qaf,↓axP,axQ,seval,qaa,qab,tX,k1,k0']
    exact Ans.some (.ofTup (.cons (.nils 6) (.cons (.pure rfl) (.nil _))))
   ·simp only[if_neg k1]
    cases c3:isP t [44] 2 with
    |true=>
     have c1:=qyz (s':=[116,114,117,101]) (m':=0) c3 (by omega)
     have c2:=qyz (s':=[33]) (m':=0) c3 (by omega)
     simp only[c1,c2,Bool.false_eq_true,if_false,if_true]
     obtain⟨a,b,hab⟩:=qbu (qb9 (m:=2) c3)
     have e1:=rtwoS_eq (n:=n) (a:=a) (b:=b) ⟨hRG a (by rw[hab];simp),hRG b (by rw[hab];simp)⟩
     rw[hab]
     simp (maxSteps:=1000000) (disch:=omega) only[q2e,qaf,↓axP,axQ,seval,qaa,qab,tX,k0,k1,qb8,hi,c3,hab,List.map_cons,List.map_nil,e1]
     exact Ans.some (.ofTup (.cons (.pure (qcr _)) (.cons (.pure rfl) (.nil _))))
    |false=>
     cases c1:isP t [116,114,117,101] 0 with
     |true=>
      simp (maxSteps:=1000000) (disch:=omega) only[q2e,qaf,↓axP,axQ,seval,qaa,qab,tX,k0,k1,qb8,hi,c1,c3]
      exact Ans.some (.ofTup (.cons (.nils 6) (.cons (.pure rfl) (.nil _))))
     |false=>
      cases c2:isP t [33] 0 with
      |true=>
       simp (maxSteps:=1000000) (disch:=omega) only[q2e,qaf,↓axP,axQ,seval,qaa,qab,tX,k0,k1,qb8,hi,c1,c2,c3]
       refine Ans.some (.ofTup (.cons (Fz.ofSlc (by simp only[↓axP,axQ,seval,qaa,qab];rfl) rfl (by simp[qe8]) ?_) (.cons (.pure rfl) (.nil _))))
       simp only[List.map_cons,List.map_nil,List.flatten_cons,List.flatten_nil,List.append_nil,glC,qbq,zT,Tm.kind,Tm.num,Tm.name,Tm.args,List.cons_append,List.nil_append,qwd]
       exact .cons (.pure rfl) (.cons (.pure rfl) (.cons (.pure rfl) (.cons (.pure rfl) (.cons (.nils 4) (.cons (.nils 1) (.nil _))))))
      |false=>
       cases c4:isP t [59] 2 with
       |true=>
        obtain⟨a,b,hab⟩:=qbu (qb9 (m:=2) c4)
        have hRa:=hRG a (by rw[hab];simp)
        have hRb:=hRG b (by rw[hab];simp)
        have hia:=qyy hRa.kind
        simp only[hab,List.getD_cons_zero,List.getD_cons_succ,Bool.true_and]
        cases c5:isP a [45,62] 2 with
        |true=>
         obtain⟨c,d,hcd⟩:=qbu (qb9 (m:=2) c5)
         obtain⟨m,rfl⟩:∃m,n=m+1:=⟨n-1,by have:=hRa.1.1;have:=qbo a;omega⟩
         have hRc:RG (m+1) c:=(hRa.arg (by rw[hcd];simp)).up
         have hRd:RG (m+1) d:=(hRa.arg (by rw[hcd];simp)).up
         have e:=qiu (n:=m+1) (k:=4) (l:=[c,d,b]) ⟨by simp,by simp[hRc,hRd,hRb]⟩
         simp only[List.map_cons,List.map_nil] at e
         simp only[hcd,List.getD_cons_zero,List.getD_cons_succ]
         simp (maxSteps:=1000000) (disch:=omega) only[q2e,qaf,↓axP,axQ,seval,qaa,qab,tX,k0,k1,qb8,hi,hia,c1,c2,c3,c4,c5,hab,hcd,List.map_cons,List.map_nil,e]
         exact Ans.some (.ofTup (.cons (.pure (qcr _)) (.cons (.pure rfl) (.nil _))))
        |false=>
         have e:=qiu (n:=n) (k:=3) (l:=[a,b]) ⟨by simp,by simp[hRa,hRb]⟩
         simp only[List.map_cons,List.map_nil] at e
         simp (maxSteps:=1000000) (disch:=omega) only[q2e,qaf,↓axP,axQ,seval,qaa,qab,tX,k0,k1,qb8,hi,hia,c1,c2,c3,c4,c5,hab,List.map_cons,List.map_nil,e]
         exact Ans.some (.ofTup (.cons (.pure (qcr _)) (.cons (.pure rfl) (.nil _))))
       |false=>
        cases c6:isP t [45,62] 2 with
        |true=>
         obtain⟨a,b,hab⟩:=qbu (qb9 (m:=2) c6)
         have hRa:=hRG a (by rw[hab];simp)
         have hRb:=hRG b (by rw[hab];simp)
         have e:=qiu (n:=n) (k:=4) (l:=[a,b,qh8]) ⟨by simp,by simp[hRa,hRb,fail_RG hRa]⟩
         simp only[List.map_cons,List.map_nil,qh8] at e
         simp only[hab,List.getD_cons_zero,List.getD_cons_succ,qh8]
         simp (maxSteps:=1000000) (disch:=omega) only[q2e,qaf,↓axP,axQ,seval,qaa,qab,tX,k0,k1,qb8,hi,c1,c2,c3,c4,c6,hab,List.map_cons,List.map_nil,qb4,e]
         exact Ans.some (.ofTup (.cons (.pure (qcr _)) (.cons (.pure rfl) (.nil _))))
        |false=>
         cases c7:isP t [92,43] 1 with
         |true=>
          have hL:=qb9 (m:=1) c7
          obtain⟨a,hab⟩:∃a,t.args=[a]:=by
           match hq:t.args,hL with
           |[a],_=>exact⟨a,rfl⟩
          have e:=qiu (n:=n) (k:=5) (l:=[a]) ⟨by simp,by simp[hRG a (by rw[hab];simp)]⟩
          simp only[List.map_cons,List.map_nil] at e
          rw[hab]
          simp (maxSteps:=1000000) (disch:=omega) only[q2e,qaf,↓axP,axQ,seval,qaa,qab,tX,k0,k1,qb8,hi,c1,c2,c3,c4,c6,c7,hab,List.map_cons,List.map_nil,e]
          exact Ans.some (.ofTup (.cons (.pure (qcr _)) (.cons (.pure rfl) (.nil _))))
         |false=>
          simp (maxSteps:=1000000) (disch:=omega) only[q2e,qaf,↓axP,axQ,seval,qaa,qab,tX,k0,k1,qb8,hi,c1,c2,c3,c4,c6,c7]
          refine Ans.some (.ofTup (.cons (Fz.ofSlc (by simp only[↓axP,axQ,seval,qaa,qab];rfl) rfl (by simp[qe8]) ?_) (.cons (.pure rfl) (.nil _))))
          simp only[List.map_cons,List.map_nil,List.flatten_cons,List.flatten_nil,List.append_nil,glC]
          exact .cons (.pure rfl) (.append (.pure (qcq _)) (.cons (.nils 1) (.nil _)))
 ·cases h
theorem q4d:∀n:Nat,HookOne Tryz.prog 98 (qae (q0n n))
 |0=>by
  refine HookOne.ofPureF (by decide +kernel) fun args y h H=>?_
  unfold q0n at h;split at h
  ·rename_i x
   rw[Option.bind_eq_some_iff] at h
   obtain⟨t,h1,h2⟩:=h
   obtain⟨hc,h3⟩:=qau h2
   have:=hc.1.1
   have:=qbo t
   omega
  ·cases h
 |n+1=>rof_step (q4d n)
theorem RG_good{t:Tm}(hf:Fine 1000 t)(hg:t.good=true):RG 64 t:=by
 refine⟨qrx hf hg,?_⟩
 unfold Tm.good at hg
 simp only[Bool.and_eq_true] at hg
 exact hg.2
end
section
open Go Go.Abs Go.RowKit
attribute [local congr] qai qaj qag
theorem good_of{t:Tm}(h:RG 64 t):t.good=true:=by
 unfold Tm.good
 simp only[Bool.and_eq_true,decide_eq_true_eq]
 exact⟨⟨h.1.2.2,h.1.1⟩,h.2⟩
theorem q45{t:Tm}(h:RG 64 t):ofP t=qbe 64 t:=by unfold ofP;rw[if_pos (good_of h)]
theorem q3e:RG 64 qbl:=⟨⟨by simp[qbl,Tm.height,Tm.heights],qjc,by simp[qbl,Tm.size,Tm.sizes]⟩,by decide⟩
theorem qt2(t:Tm):(isP t [58,45] 2=true∧qjn t=true)∨(isP t [58,45] 2=false∧isP t [44] 2=true∧qjn t=true)∨(isP t [58,45] 2=false∧isP t [44] 2=false∧isP t [59] 2=true∧qjn t=true) ∨
  (isP t [58,45] 2=false∧isP t [44] 2=false∧isP t [59] 2=false∧isP t [45,62] 2=true∧qjn t=true)∨(isP t [58,45] 2=false∧isP t [44] 2=false∧isP t [59] 2=false∧isP t [45,62] 2=false∧isP t [92,43] 1=true∧qjn t=true) ∨
  (isP t [58,45] 2=false∧isP t [44] 2=false∧isP t [59] 2=false∧isP t [45,62] 2=false∧isP t [92,43] 1=false∧isP t [33] 0=true∧qjn t=true) ∨
  (isP t [58,45] 2=false∧isP t [44] 2=false∧isP t [59] 2=false∧isP t [45,62] 2=false∧isP t [92,43] 1=false∧isP t [33] 0=false∧isP t [116,114,117,101] 0=true∧qjn t=true) ∨
  (isP t [58,45] 2=false∧isP t [44] 2=false∧isP t [59] 2=false∧isP t [45,62] 2=false∧isP t [92,43] 1=false∧isP t [33] 0=false∧isP t [116,114,117,101] 0=false∧isP t [102,97,105,108] 0=true∧qjn t=true) ∨
  (isP t [58,45] 2=false∧isP t [44] 2=false∧isP t [59] 2=false∧isP t [45,62] 2=false∧isP t [92,43] 1=false∧isP t [33] 0=false∧isP t [116,114,117,101] 0=false∧isP t [102,97,105,108] 0=false∧qjn t=false):=by
 unfold qjn
 cases isP t [58,45] 2<;>cases isP t [44] 2<;>cases isP t [59] 2<;>cases isP t [45,62] 2<;>cases isP t [92,43] 1<;>cases isP t [33] 0<;>cases isP t [116,114,117,101] 0<;>cases isP t [102,97,105,108] 0<;>simp
set_option maxHeartbeats 8000000 in
theorem qvm:HookOne Tryz.prog 44 (qae qfw):=by
 refine HookOne.ofPureF (by decide +kernel) fun args y h H=>?_
 have hl:∀e∈[(80,qae qfj),(81,qae qrk),(97,qae isRS),(98,qae (q0n 64))],HookOne Tryz.prog e.1 e.2:=by
  intro e he
  simp only[List.mem_cons,List.not_mem_nil,or_false] at he
  rcases he with rfl|rfl|rfl|rfl
  ·exact qhd
  ·exact qsx
  ·exact q4f
  ·exact q4d 64
 unfold qfw at h;split at h
 ·rename_i x
  rw[Option.bind_eq_some_iff] at h
  obtain⟨t,h1,h2⟩:=h
  obtain⟨hf,h3⟩:=qau h2
  cases h3
  obtain rfl:=qbr h1
  refine ACalls.ofRun hl mixed (draws _ rfl) qu6 rfl (by simp[qa2,qas]) 0 ?_ H
  cases hg:t.good with
  |false=>
   have:qac t=(zT,zT,1):=by simp[qac,hg]
   rw[this]
   unfold tmA
   simp (maxSteps:=1000000) (disch:=omega) only[qc0,qaf,↓axP,axQ,seval,qaa,qab,tX,qap hf,hg,qb4]
   exact Ans.some (.ofTup (.cons (qce _) (.cons (qce _) (.cons (.pure rfl) (.nil _)))))
  |true=>
   have ht:=RG_good hf hg
   have hi:=qyy ht.kind
   cases c1:isP t [58,45] 2 with
   |true=>
    obtain⟨a,b,hab⟩:=qbu (qb9 (m:=2) c1)
    have ra:RG 64 a:=(RG.arg (n:=63) ht (by rw[hab];simp)).up
    have rb:RG 64 b:=(RG.arg (n:=63) ht (by rw[hab];simp)).up
    have hia:=qyy ra.kind
    have:qac t=qbd t a b:=by simp[qac,hg,c1,hab]
    rw[this]
    unfold tmA qbd
    by_cases k0:a.kind=0
    ·simp (maxSteps:=1000000) (disch:=omega) only[qc0,qaf,↓axP,axQ,seval,qaa,qab,tX,qap hf,hg,qb8,hi,hia,c1,hab,List.map_cons,List.map_nil,k0,qb4]
     exact Ans.some (.ofTup (.cons (qce _) (.cons (qce _) (.cons (.pure rfl) (.nil _)))))
    ·by_cases k1:a.kind=1
     ·have k0':((1:Int)=0)=False:=by simp
      simp (maxSteps:=1000000) (disch:=omega) only[qc0,qaf,↓axP,axQ,seval,qaa,qab,tX,qap hf,hg,qb8,hi,hia,c1,hab,List.map_cons,List.map_nil,k1,k0',qb4]
      exact Ans.some (.ofTup (.cons (qce _) (.cons (qce _) (.cons (.pure rfl) (.nil _)))))
     ·rcases qt2 a with h|h|h|h|h|h|h|h|h
      case inr.inr.inr.inr.inr.inr.inr.inr=>
       by_cases hz:(qbe 64 b).2=0
       ·simp (maxSteps:=1000000) (disch:=omega) only[qc0,qaf,↓axP,axQ,seval,qaa,qab,tX,qap hf,hg,qb8,hi,hia,c1,hab,List.map_cons,List.map_nil,k0,k1,qb4,h,qct rb,q45 rb,hz,Bool.false_eq_true]
        exact Ans.some (.ofTup (.cons (.pure (qas _)) (.cons (.pure (qas _)) (.cons (.pure rfl) (.nil _)))))
       ·simp (maxSteps:=1000000) (disch:=omega) only[qc0,qaf,↓axP,axQ,seval,qaa,qab,tX,qap hf,hg,qb8,hi,hia,c1,hab,List.map_cons,List.map_nil,k0,k1,qb4,h,qct rb,q45 rb,hz,Bool.false_eq_true]
        exact Ans.some (.ofTup (.cons (qce _) (.cons (qce _) (.cons (.pure rfl) (.nil _)))))
      all_goals
       simp (maxSteps:=1000000) (disch:=omega) only[qc0,qaf,↓axP,axQ,seval,qaa,qab,tX,qap hf,hg,qb8,hi,hia,c1,hab,List.map_cons,List.map_nil,k0,k1,qb4,h]
       exact Ans.some (.ofTup (.cons (qce _) (.cons (qce _) (.cons (.pure rfl) (.nil _)))))
   |false=>
    have:qac t=qbd t t qbl:=by simp[qac,hg,c1]
    rw[this]
    have bt:=qct q3e
    have at':=qb4 [116,114,117,101]
    have ot:=q45 q3e
    simp only[qbl] at bt ot
    unfold tmA qbd
    simp only[qbl]
    by_cases k0:t.kind=0
    ·simp (maxSteps:=1000000) (disch:=omega) only[qc0,qaf,↓axP,axQ,seval,qaa,qab,tX,qap hf,hg,qb8,hi,c1,k0,at']
     exact Ans.some (.ofTup (.cons (qce _) (.cons (qce _) (.cons (.pure rfl) (.nil _)))))
    ·by_cases k1:t.kind=1
     ·have k0':((1:Int)=0)=False:=by simp
      simp (maxSteps:=1000000) (disch:=omega) only[qc0,qaf,↓axP,axQ,seval,qaa,qab,tX,qap hf,hg,qb8,hi,c1,k1,k0',at']
      exact Ans.some (.ofTup (.cons (qce _) (.cons (qce _) (.cons (.pure rfl) (.nil _)))))
     ·rcases qt2 t with h|h|h|h|h|h|h|h|h
      case inl=>rw[c1] at h;cases h.1
      case inr.inr.inr.inr.inr.inr.inr.inr=>
       by_cases hz:(qbe 64 (Tm.mk 2 0 [116,114,117,101] [])).2=0
       ·simp (maxSteps:=1000000) (disch:=omega) only[qc0,qaf,↓axP,axQ,seval,qaa,qab,tX,qap hf,hg,qb8,hi,k0,k1,at',h,bt,ot,hz,Bool.false_eq_true]
        exact Ans.some (.ofTup (.cons (.pure (qas _)) (.cons (.pure (qas _)) (.cons (.pure rfl) (.nil _)))))
       ·simp (maxSteps:=1000000) (disch:=omega) only[qc0,qaf,↓axP,axQ,seval,qaa,qab,tX,qap hf,hg,qb8,hi,k0,k1,at',h,bt,ot,hz,Bool.false_eq_true]
        exact Ans.some (.ofTup (.cons (qce _) (.cons (qce _) (.cons (.pure rfl) (.nil _)))))
      all_goals
       simp (maxSteps:=1000000) (disch:=omega) only[qc0,qaf,↓axP,axQ,seval,qaa,qab,tX,qap hf,hg,qb8,hi,k0,k1,at',h]
       exact Ans.some (.ofTup (.cons (qce _) (.cons (qce _) (.cons (.pure rfl) (.nil _)))))
 ·cases h
end
section
open Go Go.Abs Go.RowKit
attribute [local congr] qai qaj qag
noncomputable def qhs(n:Nat):List AV→Option AV
 |[x,y]=>(ofT x).bind fun a=>only (y=tmA a∧a.height≤n∧Fine 1000 a) (some (.bool true))
 |_=>none
theorem qmo{n:Nat}{a:Tm}(h:a.height≤n∧Fine 1000 a):qhs n [.agg (tmC a),.agg (tmC a)]=some (.bool true):=by
 show (ofT (tmA a)).bind _=_
 rw[qcc];exact qa0 (by exact⟨rfl,h⟩) _
theorem q0f{n:Nat}(F0:Nat)(t:Tm)(hl:t.args.length≤1000):∀(l2 l1:List Tm) (nx F:Nat),t.args=l1++l2→(∀x∈l2,x.height≤n∧Fine 1000 x)→l2.length<F →
  ∃nx',iter (ycode (tcall [(58,qae (qhs n))]) F0 qum) F (mk [(2,.ptr 0 0 0),(3,.ptr 1 0 0),(5,.int .i64 l1.length)]) ⟨nx,(Tr.nil.set 0 ⟨0,0,tmC t⟩).set 1 ⟨0,0,tmC t⟩,.nil⟩=some (.exit 0,mk [],⟨nx',(Tr.nil.set 0 ⟨0,0,tmC t⟩).set 1 ⟨0,0,tmC t⟩,.nil⟩):=by
 intro l2
 induction l2 with
 |nil=>
  intro l1 nx F h1 h2 h4
  obtain⟨k,rfl⟩:=qam (f:=fun _ _=>none) (n:=F) (by omega)
  rw[List.append_nil] at h1
  have hlt:((l1.length:Int)<(t.args.length:Int))=False:=by rw[h1];simp
  refine⟨nx,?_⟩
  rw[qad]
  simp (maxSteps:=1000000) (disch:=omega) only[qr0,qk9,↓axP,axQ,seval,qaa,qab,tX,hlt,List.length_map]
 |cons x l2 ih=>
  intro l1 nx F h1 h2 h4
  obtain⟨k,rfl⟩:=qam (f:=fun _ _=>none) (n:=F) (by omega)
  have hR:l1.length+1≤1000:=by rw[h1] at hl;simp at hl;omega
  have hlt:((l1.length:Int)<(t.args.length:Int))=True:=eq_true (by rw[h1];simp;omega)
  have hget:(t.args.map tmC)[l1.length]? = some (tmC x):=by rw[h1];simp
  have hi:(0:Int)≤(l1.length:Int):=by omega
  obtain⟨nx',IH⟩:=ih (l1++[x]) (nx+12) k (by simp[h1]) (fun y hy=>h2 y (List.mem_cons_of_mem _ hy)) (by simp at h4;omega)
  have hls:(l1++[x]).length=l1.length+1:=by simp
  rw[hls] at IH
  simp only[Int.natCast_add,Int.natCast_one] at IH
  have hr:=qmo (n:=n) (h2 x (List.mem_cons_self ..))
  refine⟨nx',?_⟩
  rw[qad]
  simp (maxSteps:=1000000) (disch:=omega) only[qr0,qk9,↓axP,axQ,seval,qaa,qab,tX,hlt,hi,hget,Int.toNat_natCast,List.length_map,hr,IH]
theorem q0e{n:Nat}(hs:HookOne Tryz.prog 58 (qae (qhs n))):HookOne Tryz.prog 58 (qae (qhs (n+1))):=by
 refine HookOne.ofPureF (by decide +kernel) fun args y h H=>?_
 have hl:∀e∈[(58,qae (qhs n))],HookOne Tryz.prog e.1 e.2:=by
  intro e he;simp at he;subst he;exact hs
 unfold qhs at h;split at h
 ·rename_i x y
  rw[Option.bind_eq_some_iff] at h
  obtain⟨t,h1,h2⟩:=h
  obtain⟨⟨rfl,hc⟩,h3⟩:=qau h2
  cases h3
  obtain rfl:=qbr h1
  refine ACalls.ofRun hl mixed (draws _ rfl) q1z rfl (by simp[qa2,qas]) (t.args.length+1) ?_ H
  have hA:∀x∈t.args,x.height≤n∧Fine 1000 x:=fun x hx=>by
   have:=qfh hx
   have h0:=hc.1
   rw[qbk] at h0
   exact⟨by omega,hc.2.args.2.1 _ hx⟩
  obtain⟨nx',q⟩:=q0f (n:=n) (t.args.length+1) t hc.2.args.1 t.args [] 2 (t.args.length+1) rfl hA (Nat.lt_succ_self _)
  simp only[List.length_nil,Int.natCast_zero] at q
  unfold tmA
  simp (maxSteps:=1000000) (disch:=omega) only[yTSame,qak,↓axP,axQ,seval,qaa,qab,tX,q,beq_self_eq_true]
  exact Ans.some (.pure rfl)
 ·cases h
theorem tsameS_0(args:List AV):qhs 0 args=none:=by
 unfold qhs
 split
 ·rename_i x y
  cases ofT x with
  |none=>rfl
  |some a=>exact qm3 (fun h=>by have:=h.2.1;have:=qbo a;omega) _
 ·rfl
theorem q3d:∀n,HookOne Tryz.prog 58 (qae (qhs n)):=qj9 _ (fun h=>q0e h) tsameS_0 (by decide +kernel)
end
end Go.Proofs.YtdekdghldblfaaaGreatDoor
