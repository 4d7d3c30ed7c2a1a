import Derived.Test.YtdekdghldblfaaaGreatDoorAbsS
import Derived.Test.YtdekdghldblfaaaGreatDoorGoodA
import Derived.Test.YtdekdghldblfaaaGreatDoorDrawsA
import Derived.Test.YtdekdghldblfaaaGreatDoorYBody
import Derived.Test.YtdekdghldblfaaaGreatDoorAbsSB
set_option linter.unusedVariables false
set_option linter.unusedSimpArgs false
namespace Go.Proofs.YtdekdghldblfaaaGreatDoor
section
open Go Go.Abs Go.ChangeShapes Go.WideShapes Go.ChangeAt Go.RowKit
mutual
def tmC:Tm→List AV
 |.mk k n s l=>[.int .i64 k,.int .i64 n,.str s,.vals 4 (qof l)]
def qof:List Tm→List (List AV)
 |[]=>[]
 |t::ts=>tmC t::qof ts
end
def tmA(t:Tm):AV:=.agg (tmC t)
theorem qfo:∀l:List Tm,qof l=l.map tmC
 |[]=>by simp[qof]
 |t::ts=>by simp[qof,qfo ts]
theorem qbq(t:Tm):tmC t=[.int .i64 t.kind,.int .i64 t.num,.str t.name,.vals 4 (t.args.map tmC)]:=by
 cases t;simp[tmC,qfo,Tm.kind,Tm.num,Tm.name,Tm.args]
theorem qbf(t:Tm):(tmC t).length=4:=by rw[qbq];rfl
theorem tmC_0(t:Tm):(tmC t)[0]? = some (.int .i64 t.kind):=by rw[qbq];exact (rfl)
theorem tmC_1(t:Tm):(tmC t)[1]? = some (.int .i64 t.num):=by rw[qbq];exact (rfl)
theorem tmC_2(t:Tm):(tmC t)[2]? = some (.str t.name):=by rw[qbq];exact (rfl)
theorem tmC_3(t:Tm):(tmC t)[3]? = some (.vals 4 (t.args.map tmC)):=by rw[qbq];exact (rfl)
theorem qxp(t:Tm){n:Nat}(h:4≤n):(tmC t).take n=tmC t:=List.take_of_length_le (by rw[qbf];omega)
theorem tmC_drop(t:Tm){n:Nat}(h:4≤n):(tmC t).drop n=[]:=List.drop_eq_nil_of_le (by rw[qbf];omega)
theorem tmC_one(t:Tm):(tmC t).all AV.one=true:=by rw[qbq];exact (rfl)
theorem tmC_ne(t:Tm):(tmC t=[])=False:=by rw[qbq];simp
set_option linter.defProp false in
def tX:=And.intro @qbf (And.intro @tmC_0 (And.intro @tmC_1 (And.intro @tmC_2 (And.intro @tmC_3 (And.intro @qxp (And.intro @tmC_drop (And.intro @tmC_one @tmC_ne)))))))
mutual
def ofA:AV→Option (List Tm)
 |.vals z rows=>if z=4 then ofRs rows else none
 |_=>none
def ofL:List AV→Option Tm
 |[]=>none
 |.int .i64 k::xs=>ofL1 k xs
 |_::_=>none
def ofL1(k:Int):List AV→Option Tm
 |.int .i64 n::xs=>ofL2 k n xs
 |_=>none
def ofL2(k n:Int):List AV→Option Tm
 |.str s::xs=>ofL3 k n s xs
 |_=>none
def ofL3(k n:Int)(s:List UInt8):List AV→Option Tm
 |a::[]=>match ofA a with|some l=>some (.mk k n s l)|none=>none
 |_=>none
def ofRs:List (List AV)→Option (List Tm)
 |[]=>some []
 |r::rs=>match ofL r,ofRs rs with
  |some t,some ts=>some (t::ts)
  |_,_=>none
end
mutual
theorem q46:∀t:Tm,ofL (tmC t)=some t
 |.mk k n s l=>by simp[tmC,ofL,ofL1,ofL2,ofL3,ofA,qqk l]
theorem qqk:∀l:List Tm,ofRs (qof l)=some l
 |[]=>by simp[qof,ofRs]
 |t::ts=>by simp[qof,ofRs,q46 t,qqk ts]
end
theorem qjy{t t':Tm}(h:tmC t=tmC t'):t=t':=by
 have:=q46 t
 rw[h,q46] at this
 exact (Option.some.inj this).symm
theorem q3f{t t':Tm}(h:tmA t=tmA t'):t=t':=qjy (by unfold tmA at h;exact AV.agg.inj h)
theorem rows_inj{l l':List Tm}(h:l.map tmC=l'.map tmC):l=l':=by
 have:=qqk l
 rw[qfo,h,←qfo,qqk] at this
 exact (Option.some.inj this).symm
noncomputable def back{α:Type}(f:α→AV)(x:AV):Option α:=@dite _ (∃t,x=f t) (Classical.propDecidable _) (fun h=>some h.choose) fun _=>none
theorem qkm{α:Type}{f:α→AV}(hf:∀a b,f a=f b→a=b)(t:α):back f (f t)=some t:=by
 have h:∃t',f t=f t':=⟨t,rfl⟩
 unfold back
 rw[dif_pos h]
 exact congrArg some (hf _ _ h.choose_spec).symm
theorem qdi{α:Type}{f:α→AV}{x:AV}{t:α}(h:back f x=some t):x=f t:=by
 unfold back at h
 split at h
 ·rename_i hx;cases h;exact hx.choose_spec
 ·cases h
noncomputable abbrev ofT:AV→Option Tm:=back tmA
theorem qcc(t:Tm):ofT (tmA t)=some t:=qkm (fun _ _=>q3f) t
theorem qbr{x:AV}{t:Tm}(h:ofT x=some t):x=tmA t:=qdi h
mutual
theorem qcq:∀t:Tm,qa2 (tmC t)=true
 |.mk k n s l=>by simp[tmC,qa2,qba,qmz l]
theorem qmz:∀l:List Tm,qd4 (qof l)=true
 |[]=>by simp[qof,qd4]
 |t::ts=>by simp[qof,qd4,qcq t,qmz ts]
end
theorem qas(t:Tm):qba (tmA t)=true:=by simp[tmA,qba,qcq]
theorem qci(l:List Tm):qd4 (l.map tmC)=true:=by rw[←qfo];exact qmz l
theorem qrv(b o n:Nat):(⟨b,o,none⟩:Addr).add n=⟨b,o+n,none⟩:=by
 unfold Addr.add
 split
 ·rename_i h;subst h;rfl
 ·rfl
mutual
theorem qxo{N:Nat}{G:Gh}{w:World}(hN:N≤maxLen)(hM:∀b o v,G.M b o=some v→w.cell? ⟨b,o,none⟩=some v):∀(t:Tm) (us:List Value),Fine N t→VRs G (tmC t) us→∃sl,us=[.int .i64 t.kind,.int .i64 t.num,.string ⟨t.name.toArray⟩,sl]∧Holds w (fun _=>True) t (tmV t.kind t.num t.name sl)
 |.mk k n s l,us,hf,hv=>by
  simp only[tmC,VRs,VR] at hv
  obtain⟨_,_,rfl,rfl,_,_,rfl,rfl,_,_,rfl,rfl,sl,_,rfl,⟨a,cap,rfl,hc,hin⟩,rfl⟩:=hv
  refine⟨_,rfl,?_⟩
  have hlen:(qof l).length=l.length:=by rw[qfo];simp
  rw[hlen]
  rcases hin with h0|⟨b,o,rfl,hin⟩
  ·have:l=[]:=List.eq_nil_of_length_eq_zero (by rw[←hlen,h0];rfl)
   subst this
   exact .leaf _ _ _ _ _
  ·cases hf with
   |mk _ _ _ _ hk hn hs hl hx=>
    have key:=qsi hN hM l b o hx hin
    have kk:∀i:Nat,∃L:Value,∀hi:i<l.length,Holds w (fun _=>True) l[i] (tmV l[i].kind l[i].num l[i].name L)∧w.cell? ⟨b,o+(i*4+0),none⟩=some (.int .i64 l[i].kind)∧w.cell? ⟨b,o+(i*4+1),none⟩=some (.int .i64 l[i].num) ∧
      w.cell? ⟨b,o+(i*4+2),none⟩=some (.string ⟨l[i].name.toArray⟩)∧w.cell? ⟨b,o+(i*4+3),none⟩=some L:=by
     intro i
     by_cases hi:i<l.length
     ·obtain⟨L,q⟩:=key i hi
      exact⟨L,fun _=>q⟩
     ·exact⟨undef,fun h=>absurd h hi⟩
    refine .node k n s l ⟨b,o,none⟩ cap (fun i=>(kk i).choose) trivial (by omega) (fun i hi=>((kk i).choose_spec hi).1) (fun i hi=>?_) (fun i hi=>?_) (fun i hi=>?_) (fun i hi=>?_)
    all_goals rw[qrv]
    ·exact ((kk i).choose_spec hi).2.1
    ·exact ((kk i).choose_spec hi).2.2.1
    ·exact ((kk i).choose_spec hi).2.2.2.1
    ·exact ((kk i).choose_spec hi).2.2.2.2
theorem qsi{N:Nat}{G:Gh}{w:World}(hN:N≤maxLen)(hM:∀b o v,G.M b o=some v→w.cell? ⟨b,o,none⟩=some v):∀(l:List Tm) (b o:Nat),(∀x∈l,Fine N x)→VRows G 4 (qof l) b o→∀(i:Nat) (hi:i<l.length),∃L,Holds w (fun _=>True) l[i] (tmV l[i].kind l[i].num l[i].name L) ∧
  w.cell? ⟨b,o+(i*4+0),none⟩=some (.int .i64 l[i].kind)∧w.cell? ⟨b,o+(i*4+1),none⟩=some (.int .i64 l[i].num)∧w.cell? ⟨b,o+(i*4+2),none⟩=some (.string ⟨l[i].name.toArray⟩)∧w.cell? ⟨b,o+(i*4+3),none⟩=some L
 |[],b,o,hf,hv,i,hi=>by simp at hi
 |t::ts,b,o,hf,hv,i,hi=>by
  simp only[qof,VRows] at hv
  obtain⟨hz,hr,hrs⟩:=hv
  cases i with
  |zero=>
   have hcells:∀(j:Nat) x,(tmC t)[j]? = some x→∃u,G.M b (o+j)=some u∧VR G x u:=fun j x hj=>hr.get j x hj
   have hex:∃us:List Value,VRs G (tmC t) us∧∀(j:Nat) u,us[j]? = some u→w.cell? ⟨b,o+j,none⟩=some u:=by
    have:∀j:Nat,∃u:Value,j<4→∃x,(tmC t)[j]? = some x∧G.M b (o+j)=some u∧VR G x u:=by
     intro j
     by_cases hj:j<4
     ·obtain⟨u,q⟩:=hcells j _ (List.getElem?_eq_getElem (by rw[qbf];exact hj))
      exact⟨u,fun _=>⟨_,List.getElem?_eq_getElem (by rw[qbf];exact hj),q⟩⟩
     ·exact⟨undef,fun h=>absurd h hj⟩
    refine⟨(List.range 4).map fun j=>(this j).choose,VRs.of_get (by rw[qbf];rfl) fun j x hj=>?_,fun j u hj=>?_⟩
    ·have hj4:j<4:=by rw[←qbf t];exact (List.getElem?_eq_some_iff.1 hj).1
     obtain⟨x',h1,h2,h3⟩:=(this j).choose_spec hj4
     rw[hj] at h1;cases h1
     exact⟨_,by rw[List.getElem?_map,List.getElem?_range hj4];rfl,h3⟩
    ·rw[List.getElem?_map] at hj
     have hj4:j<4:=by
      by_cases h:j<4
      ·exact h
      ·rw[List.getElem?_eq_none (by simp;omega)] at hj;cases hj
     rw[List.getElem?_range hj4] at hj
     cases hj
     obtain⟨x',h1,h2,h3⟩:=(this j).choose_spec hj4
     exact hM _ _ _ h2
   obtain⟨us,hus,hc⟩:=hex
   obtain⟨sl,rfl,hh⟩:=qxo hN hM t us (hf t (List.mem_cons_self ..)) hus
   refine⟨sl,hh,?_,?_,?_,?_⟩
   ·have:=hc 0 _ rfl;simpa using this
   ·have:=hc 1 _ rfl;simpa using this
   ·have:=hc 2 _ rfl;simpa using this
   ·have:=hc 3 _ rfl;simpa using this
  |succ i=>
   obtain⟨L,q0,q1,q2,q3,q4⟩:=qsi hN hM ts b (o+4) (fun x hx=>hf x (List.mem_cons_of_mem _ hx)) hrs i (by simpa using hi)
   refine⟨L,q0,?_,?_,?_,?_⟩
   ·rw[show o+((i+1)*4+0)=o+4+(i*4+0) by omega];exact q1
   ·rw[show o+((i+1)*4+1)=o+4+(i*4+1) by omega];exact q2
   ·rw[show o+((i+1)*4+2)=o+4+(i*4+2) by omega];exact q3
   ·rw[show o+((i+1)*4+3)=o+4+(i*4+3) by omega];exact q4
end
end
section
open Go Go.Abs Go.ChangeShapes Go.WideShapes Go.ChangeAt Go.RowKit
theorem q06{P:Program}{f:FuncId}{args:List AV}{y:AV}(hy:q07 y=true)(h:∀(G:Gh) (vs:Array Value) (w:World),(∀b o v,G.M b o=some v→w.cell? ⟨b,o,none⟩=some v)→VRs G args vs.toList→Calls P f vs w fun e w'=>∃u,e=.returned u∧VR G y u∧Below w.heap.size w w')(H:AH) :
  ACalls P f args H fun y' H'=>y'=y∧H'=H:=fun K G vs w hr hv=>
 (h G vs w hr.mem hv).mono fun e w' ⟨u,h1,h2,h3⟩=>⟨u,y,G,H,h1,Gh.le.refl _,hr.stay h3,h2,rfl,rfl⟩
noncomputable def only{α:Type}(p:Prop)(x:Option α):Option α:=@ite _ p (Classical.propDecidable _) x none
theorem qa0{α:Type}{p:Prop}(h:p)(x:Option α):only p x=x:=if_pos h
theorem qau{α:Type}{p:Prop}{x:Option α}{y:α}(h:only p x=some y):p∧x=some y:=by
 unfold only at h
 split at h
 ·rename_i hp;exact⟨hp,h⟩
 ·cases h
theorem tm_one{G:Gh}{t:Tm}{u:Value}{w:World}{N:Nat}(hN:N≤maxLen)(hf:Fine N t)(hM:∀b o v,G.M b o=some v→w.cell? ⟨b,o,none⟩=some v)(hv:VR G (tmA t) u):Holds w (fun _=>True) t u:=by
 unfold tmA at hv
 simp only[VR] at hv
 obtain⟨us,rfl,h2⟩:=hv
 obtain⟨sl,he,hh⟩:=qxo hN hM t us.toList hf h2
 obtain rfl:us=#[.int .i64 t.kind,.int .i64 t.num,.string ⟨t.name.toArray⟩,sl]:=by cases us;simpa using he
 exact hh
noncomputable def qfj:List AV→Option AV
 |[x]=>(ofT x).bind fun t=>only (Fine 1000 t) (some (.bool t.good))
 |_=>none
theorem goodS_eq{t:Tm}(h:Fine 1000 t):qfj [tmA t]=some (.bool t.good):=by simp[qfj,qcc,qa0 h]
theorem q6e:HookOne Tryz.prog 42 (qs1 qfj):=by
 refine HookOne.ofPure (by decide +kernel) fun args y h H=>?_
 unfold qfj at h
 split at h
 ·rename_i x
  rw[Option.bind_eq_some_iff] at h
  obtain⟨t,h1,h2⟩:=h
  obtain⟨hf,h3⟩:=qau h2
  cases h3
  have:=qbr h1
  subst this
  refine q06 rfl (fun G vs w hM hv=>?_) H
  obtain⟨u,hu,hv1⟩:=hv.one
  obtain rfl:vs=#[u]:=by cases vs;simpa using hu
  refine (good_any 1000 (by omega) t hf w u (tm_one (by unfold maxLen;omega) hf hM hv1)).mono fun e w' ⟨he,hb⟩=>⟨_,he,by simp[VR],hb⟩
 ·cases h
end
section
open Go Go.Abs Go.RowKit
attribute [local congr] qai qaj qag
def lsA(l:List Tm):AV:=.vals 4 (l.map tmC)
theorem lsA_inj(l l':List Tm)(h:lsA l=lsA l'):l=l':=rows_inj (by unfold lsA at h;injection h)
noncomputable def ofLs:AV→Option (List Tm):=back lsA
theorem qj5(l:List Tm):ofLs (.vals 4 (l.map tmC))=some l:=qkm lsA_inj l
theorem qvk(l:List Tm):∀r∈l.map tmC,r.length=4:=by
 intro r hr
 rw[List.mem_map] at hr
 obtain⟨t,_,rfl⟩:=hr
 exact qbf t
theorem qcx{rs:List (List AV)}(h:qd4 rs=true):qa2 rs.flatten=true:=by
 rw[qa6]
 intro x hx
 obtain⟨r,hr,hxr⟩:=List.mem_flatten.1 hx
 exact (qa6 r).1 ((qeo rs).1 h r hr) x hxr
noncomputable def qo7:List AV→Option AV
 |[.nils]=>some (.vals 4 [])
 |[x]=>(ofLs x).bind fun l=>only (l≠[]∧l.length≤1000000000) (some (.vals 4 (l.map tmC)))
 |_=>none
theorem q7t(l:List Tm)(h:l≠[]∧l.length≤1000000000):qo7 [.vals 4 (l.map tmC)]=some (.vals 4 (l.map tmC)):=by
 simp[qo7,qj5,qa0 h]
theorem q7r:qo7 [.nils]=some (.vals 4 []):=(rfl)
theorem q7q:HookOne Tryz.prog 67 (qae qo7):=by
 refine HookOne.ofPureF (by decide +kernel) fun args y h H=>?_
 unfold qo7 at h;split at h
 ·cases h
  refine ACalls.ofRun (l:=[]) (by simp) mixed (draws _ rfl) qse rfl (by rfl) 0 ?_ H
  have e:ibin .eql 30 (some (.slice 32)) true .nils .nils=some (.bool true):=rfl
  simp only[q27,qaf,↓axP,axQ,seval,qaa,qab,e]
  exact Ans.some (.nils 4)
 ·rename_i x _
  rw[Option.bind_eq_some_iff] at h
  obtain⟨l,h1,h2⟩:=h
  obtain⟨⟨hl,hn⟩,h3⟩:=qau h2
  cases h3
  obtain rfl:=qdi h1
  unfold lsA
  refine ACalls.ofRun (l:=[]) (by simp) mixed (draws _ rfl) qse rfl (by simp[qa2,qba,qci]) 0 ?_ H
  obtain⟨t,l',rfl⟩:=List.exists_cons_of_ne_nil hl
  have e:∀ts,ibin .eql 30 (some (.slice 32)) true (.vals 4 (tmC t::ts)) .nils=some (.bool false):=fun ts=>(rfl)
  have h0:((l'.map tmC).length+1=0)=False:=by simp
  have h1:((l'.map tmC).length+1)*56≤140737488355328∧(l'.map tmC).length+1≤9223372036854775807:=by simp at hn ⊢;omega
  simp only[q27,qaf,↓axP,axQ,seval,qaa,qab,e,List.map_cons,h0,h1]
  refine Ans.some (Fz.ofSlc (by simp only[↓axP,axQ,seval,qaa,qab];rfl) (by simp) (qvk (t::l')) ?_)
  exact FzL.pure (qcx (qci (t::l')))
 ·cases h
noncomputable def q7k:List AV→Option AV
 |[.str nm,.nils]=>some (tmA (.mk 2 0 nm []))
 |[.str nm,x]=>(ofLs x).bind fun l=>only (l≠[]∧l.length≤1000000000) (some (tmA (.mk 2 0 nm l)))
 |_=>none
theorem compS_eq(nm:List UInt8)(l:List Tm)(h:l≠[]∧l.length≤1000000000):q7k [.str nm,.vals 4 (l.map tmC)]=some (.agg (tmC (.mk 2 0 nm l))):=by
 simp[q7k,qj5,qa0 h,tmA]
theorem comp_one:HookOne Tryz.prog 28 (qae q7k):=by
 refine HookOne.ofPureF (by decide +kernel) fun args y h H=>?_
 have hl:∀e∈[(67,qae qo7)],HookOne Tryz.prog e.1 e.2:=by
  intro e he;simp at he;subst he;exact q7q
 unfold q7k at h;split at h
 ·rename_i nm
  cases h
  refine ACalls.ofRun hl mixed (draws _ rfl) qxi rfl (by rfl) 0 ?_ H
  simp only[yComp,qak,↓axP,axQ,seval,qaa,qab,q7r,tmA,qbq,Tm.kind,Tm.num,Tm.name,Tm.args,List.map_nil]
  exact Ans.some (.pure rfl)
 ·rename_i nm x _
  rw[Option.bind_eq_some_iff] at h
  obtain⟨l,h1,h2⟩:=h
  obtain⟨hh,h3⟩:=qau h2
  cases h3
  obtain rfl:=qdi h1
  unfold lsA
  refine ACalls.ofRun hl mixed (draws _ rfl) qxi rfl (by simp[qa2,qba,qci]) 0 ?_ H
  simp only[yComp,qak,↓axP,axQ,seval,qaa,qab,q7t _ hh,tmA,qbq,Tm.kind,Tm.num,Tm.name,Tm.args]
  exact Ans.some (.pure (by simp[qba,qa2,qci]))
 ·cases h
def qrk:List AV→Option AV
 |[.str nm]=>some (tmA (.mk 2 0 nm []))
 |_=>none
theorem qb4(nm:List UInt8):qrk [.str nm]=some (.agg (tmC (.mk 2 0 nm []))):=(rfl)
theorem qzt:HookOne Tryz.prog 83 (qae qrk):=by
 refine HookOne.ofPureF (by decide +kernel) fun args y h H=>?_
 unfold qrk at h;split at h
 ·rename_i nm
  cases h
  refine ACalls.ofRun (l:=[]) (by simp) mixed (draws _ rfl) yAtom_ok rfl (by rfl) 0 ?_ H
  simp only[yAtom,qaf,↓axP,axQ,seval,qaa,qab,tmA,qbq,Tm.kind,Tm.num,Tm.name,Tm.args,List.map_nil]
  refine Ans.some (.ofAgg (.cons (.pure rfl) (.cons (.pure rfl) (.cons (.pure rfl) (.cons (.nils 4) (.nil _))))))
 ·cases h
end
section
open Go Go.Abs Go.RowKit
attribute [local congr] qai qaj qag
def isP(t:Tm)(nm:List UInt8)(m:Int):Bool:=decide (1<t.kind)&&(t.name==nm)&&decide ((t.args.length:Int)=m)
noncomputable def isS:List AV→Option AV
 |[x,.str nm,.int .i64 m]=>(ofT x).map fun t=>.bool (isP t nm m)
 |_=>none
theorem qcj(t:Tm)(nm:List UInt8)(m:Int):isS [.agg (tmC t),.str nm,.int .i64 m]=some (.bool (isP t nm m)):=by
 show (ofT (tmA t)).map _=_
 rw[qcc];rfl
theorem q5v:HookOne Tryz.prog 84 (qae isS):=by
 refine HookOne.ofPureF (by decide +kernel) fun args y h H=>?_
 unfold isS at h;split at h
 ·rename_i x nm m
  rw[Option.map_eq_some_iff] at h
  obtain⟨t,h1,rfl⟩:=h
  obtain rfl:=qbr h1
  refine ACalls.ofRun (l:=[]) (by simp) mixed (draws _ rfl) yIs_ok rfl (by simp[qa2,qas,qba]) 0 ?_ H
  unfold isP
  by_cases c1:1<t.kind<;>cases c2:t.name==nm
  all_goals
   simp only[yIs,qb7,tmA,↓axP,axQ,seval,qaa,qab,tX,c1,c2,List.length_map]
   exact Ans.some (.pure rfl)
 ·cases h
end
section
open Go Go.Abs Go.RowKit
inductive Gl where
 |mk (kind:Int) (t:Tm) (l:List (List Gl))
mutual
def glC:Gl→List AV
 |.mk k t l=>.int .i64 k::(tmC t++[.vals 1 (qwd l)])
def q05:List Gl→List (List AV)
 |[]=>[]
 |g::gs=>glC g::q05 gs
def qwd:List (List Gl)→List (List AV)
 |[]=>[]
 |r::rs=>[.vals 6 (q05 r)]::qwd rs
end
theorem qls:∀l:List Gl,q05 l=l.map glC
 |[]=>by simp[q05]
 |g::gs=>by simp[q05,qls gs]
def glV(r:List Gl):AV:=.vals 6 (r.map glC)
theorem qi7(r:List Gl):(glV r).cells=[glV r]:=(rfl)
theorem qqy(r:List Gl):(glV r).fit=true:=(rfl)
theorem qhk:∀l:List (List Gl),qwd l=l.map fun r=>[glV r]
 |[]=>by simp[qwd]
 |r::rs=>by simp[qwd,qhk rs,glV,qls]
mutual
theorem glC_inj:∀(a b:Gl),glC a=glC b→a=b
 |.mk k t l,.mk k' t' l',h=>by
  simp only[glC,List.cons.injEq,AV.int.injEq,true_and] at h
  obtain⟨rfl,h⟩:=h
  obtain⟨h1,h2⟩:=List.append_inj h (by rw[qbf,qbf])
  have ht:=qjy h1
  simp only[List.cons.injEq,AV.vals.injEq,true_and,and_true] at h2
  have hl:=qqz l l' h2
  subst ht;subst hl;rfl
theorem qy7:∀(a b:List Gl),q05 a=q05 b→a=b
 |[],[],h=>rfl
 |[],_::_,h=>by simp[q05] at h
 |_::_,[],h=>by simp[q05] at h
 |a::xs,b::ys,h=>by
  simp only[q05,List.cons.injEq] at h
  rw[glC_inj a b h.1,qy7 xs ys h.2]
theorem qqz:∀(a b:List (List Gl)),qwd a=qwd b→a=b
 |[],[],h=>rfl
 |[],_::_,h=>by simp[qwd] at h
 |_::_,[],h=>by simp[qwd] at h
 |a::xs,b::ys,h=>by
  simp only[qwd,List.cons.injEq,AV.vals.injEq,true_and,and_true] at h
  rw[qy7 a b h.1,qqz xs ys h.2]
end
mutual
theorem pure_glC:∀g:Gl,qa2 (glC g)=true
 |.mk k t l=>by
  rw[qa6]
  intro x hx
  simp only[glC,List.mem_cons,List.mem_append,List.not_mem_nil,or_false] at hx
  rcases hx with rfl|hx|rfl
  ·rfl
  ·exact (qa6 _).1 (qcq t) x hx
  ·simp[qba,qm1 l]
theorem qiy:∀l:List Gl,qd4 (q05 l)=true
 |[]=>by simp[q05,qd4]
 |g::gs=>by simp[q05,qd4,pure_glC g,qiy gs]
theorem qm1:∀l:List (List Gl),qd4 (qwd l)=true
 |[]=>by simp[qwd,qd4]
 |r::rs=>by simp[qwd,qd4,qa2,qba,qiy r,qm1 rs]
end
theorem qe8(g:Gl):(glC g).length=6:=by cases g;simp[glC,qbf]
theorem qcr(r:List Gl):qba (glV r)=true:=by simp[glV,qba,←qls,qiy]
def qnl(l:List (List Gl)):AV:=.vals 1 (l.map fun r=>[glV r])
theorem glsV_inj(a b:List (List Gl))(h:qnl a=qnl b):a=b:=by
 unfold qnl at h
 injection h with _ h
 exact qqz a b (by rw[qhk,qhk];exact h)
theorem qsz(l:List (List Gl)):qba (qnl l)=true:=by simp only[qnl,qba];rw[←qhk];exact qm1 l
noncomputable def ofRws:AV→Option (List (List Gl)):=back qnl
theorem ofRws_eq(r:List (List Gl)):ofRws (qnl r)=some r:=qkm glsV_inj r
def qaz(f:Tm→List Gl×Int):List Tm→List (List Gl)×Int
 |[]=>([],0)
 |t::ts=>if (f t).2=0 then (if (qaz f ts).2=0 then ((f t).1::(qaz f ts).1,0) else ([],(qaz f ts).2)) else ([],(f t).2)
def zT:Tm:=.mk 0 0 [] []
def qfe(f:Tm→List Gl×Int)(k:Int)(l:List Tm):List Gl×Int:=if (qaz f l).2=0 then ([.mk k zT (qaz f l).1],0) else ([],(qaz f l).2)
def qh8:Tm:=.mk 2 0 [102,97,105,108] []
def qbe:Nat→Tm→List Gl×Int
 |0,_=>([],0)
 |n+1,t=>
  if t.kind=0 then ([.mk 1 (.mk 2 0 [99,97,108,108] [t]) []],0)
  else if t.kind=1 then ([],5)
  else if isP t [116,114,117,101] 0 then ([],0)
  else if isP t [33] 0 then ([.mk 2 zT []],0)
  else if isP t [44] 2 then ((qaz (qbe n) t.args).1.flatten,(qaz (qbe n) t.args).2)
  else if isP t [59] 2&&isP (t.args.getD 0 zT) [45,62] 2 then qfe (qbe n) 4 [(t.args.getD 0 zT).args.getD 0 zT,(t.args.getD 0 zT).args.getD 1 zT,t.args.getD 1 zT]
  else if isP t [59] 2 then qfe (qbe n) 3 t.args
  else if isP t [45,62] 2 then qfe (qbe n) 4 [t.args.getD 0 zT,t.args.getD 1 zT,qh8]
  else if isP t [92,43] 1 then qfe (qbe n) 5 t.args
  else ([.mk 1 t []],0)
def RC(n:Nat)(t:Tm):Prop:=t.height≤n∧Fine 1000 t∧t.size≤2000
noncomputable def q4c(n:Nat):List AV→Option AV
 |[x]=>(ofT x).bind fun t=>only (RC n t) (some (.tup [glV (qbe n t).1,.int .i64 (qbe n t).2]))
 |_=>none
theorem q4b{n:Nat}{t:Tm}(h:RC n t):q4c n [.agg (tmC t)]=some (.tup [glV (qbe n t).1,.int .i64 (qbe n t).2]):=by
 show (ofT (tmA t)).bind _=_
 rw[qcc];exact qa0 h _
noncomputable def qvi(n:Nat):List AV→Option AV
 |[x]=>(ofLs x).bind fun l=>only (l.length≤1000∧∀t∈l,RC n t) (some (.tup [qnl (qaz (qbe n) l).1,.int .i64 (qaz (qbe n) l).2]))
 |_=>none
theorem qxy{n:Nat}{l:List Tm}(h:l.length≤1000∧∀t∈l,RC n t):qvi n [.vals 4 (l.map tmC)]=some (.tup [qnl (qaz (qbe n) l).1,.int .i64 (qaz (qbe n) l).2]):=by
 simp only[qvi,qj5,Option.bind_some];exact qa0 h _
attribute [local congr] qai qaj qag
set_option maxHeartbeats 1000000 in
theorem q36{n:Nat}(F0:Nat)(l:List Tm)(hl:l.length≤1000):∀(l2 l1:List Tm) (R:List (List Gl)) (o:AV) (H:AH) (F:Nat),l1.length=R.length→l=l1++l2→(∀t∈l2,RC n t)→Ows H o 1 (R.map glV) R.length→H.wf→l2.length<F →
  ((qaz (qbe n) l2).2=0→∃o' H',iter (ycode (tcall [(126,qae (q4c n))]) F0 qw8) F (mk [(4,o),(9,.vals 4 (l.map tmC)),(10,.int .i64 l.length),(11,.int .i64 R.length)]) H=some (.exit 0,mk [(4,o')],H')∧Ows H' o' 1 ((R++(qaz (qbe n) l2).1).map glV) (R++(qaz (qbe n) l2).1).length∧H'.wf) ∧
  ((qaz (qbe n) l2).2≠0→∃H',iter (ycode (tcall [(126,qae (q4c n))]) F0 qw8) F (mk [(4,o),(9,.vals 4 (l.map tmC)),(10,.int .i64 l.length),(11,.int .i64 R.length)]) H=some (.ret,mk [(2,.nils),(3,.int .i64 (qaz (qbe n) l2).2)],H')):=by
 intro l2
 induction l2 with
 |nil=>
  intro l1 R o H F h1 h2 h3 h4 h5 h6
  obtain⟨m,rfl⟩:=qam (f:=fun _ _=>none) (n:=F) (by omega)
  have hlt:((R.length:Int)<(l.length:Int))=False:=by subst h2;simp;omega
  refine⟨fun _=>⟨o,H,?_,by simpa[qaz] using h4,h5⟩,fun h=>absurd rfl h⟩
  rw[qad]
  simp only[qpp,ql2,↓axP,axQ,seval,qaa,qab,hlt]
 |cons t l2 ih=>
  intro l1 R o H F h1 h2 h3 h4 h5 h6
  obtain⟨m,rfl⟩:=qam (f:=fun _ _=>none) (n:=F) (by omega)
  have hlt:((R.length:Int)<(l.length:Int))=True:=by subst h2;simp;omega
  have hget:(l.map tmC)[R.length]? = some (tmC t):=by subst h2;rw[←h1];simp
  have h0:(0:Int)≤(R.length:Int):=by omega
  have hR:R.length+1≤1000:=by subst h2;simp at hl;omega
  have hw:IntKind.i64.wrap ((R.length:Int)+1)=((R.length+1:Nat):Int):=by rw[wrap_i64]<;>omega
  obtain⟨nx,gs,ms⟩:=H
  have g0:=qmj h5
  have g1:gs.get (nx+1)=none:=h5 (nx+1) (Nat.le_succ nx)
  have n1:(nx=nx+1)=False:=by simp
  have n2:(nx+1=nx)=False:=by simp
  have hr:=q4b (h3 t (List.mem_cons_self ..))
  obtain⟨v',H',e1,e2,e3,e4,e5⟩:=qe5 (x:=.slc (nx+1) 0 0 1 1) (z:=1) (b:=24) (m:=1) (xs:=[glV (qbe n t).1]) ((h4.add ⟨0,0,tmC t⟩).add ⟨0,0,[glV (qbe n t).1]⟩) (qip (qip h5 _) _) (by simp only[↓axP,axQ,seval,qaa,qab]) rfl (by omega) (by omega) (by omega)
  have hL:R.length+1=(R++[(qbe n t).1]).length:=by simp
  have hC:R.map glV++[glV (qbe n t).1]=(R++[(qbe n t).1]).map glV:=by simp
  rw[hL,hC] at e2
  have IH:=ih (l1++[t]) (R++[(qbe n t).1]) v' H' m (by simp[h1]) (by simp[h2]) (fun x hx=>h3 x (List.mem_cons_of_mem _ hx)) e2 e3 (by simp at h6;omega)
  rw[←hL] at IH
  rw[qad]
  by_cases hz:(qbe n t).2=0
  ·simp only[qpp,ql2,↓axP,axQ,seval,qaa,qab,tX,qi7,qqy,hlt,h0,hget,Int.toNat_natCast,g0,g1,n1,n2,hr,hz,e1,hw]
   have hW1:(qaz (qbe n) (t::l2)).2=(qaz (qbe n) l2).2:=by
    simp only[qaz,hz,if_true]
    split
    ·rename_i h;exact h.symm
    ·rfl
   refine⟨fun h=>?_,fun h=>?_⟩
   ·rw[hW1] at h
    obtain⟨o',H2,k1,k2,k3⟩:=IH.1 h
    have:(qaz (qbe n) (t::l2)).1=(qbe n t).1::(qaz (qbe n) l2).1:=by simp[qaz,hz,h]
    exact⟨o',H2,k1,by rw[this];simpa[Nat.add_assoc,Nat.add_comm] using k2,k3⟩
   ·obtain⟨H2,k1⟩:=IH.2 (by rw[←hW1];exact h)
    exact⟨H2,by rw[hW1];exact k1⟩
  ·have hW:qaz (qbe n) (t::l2)=([],(qbe n t).2):=by simp[qaz,hz]
   rw[hW]
   refine⟨fun h=>absurd h hz,fun _=>?_⟩
   simp only[qpp,ql2,↓axP,axQ,seval,qaa,qab,tX,qi7,qqy,hlt,h0,hget,Int.toNat_natCast,g0,g1,n1,n2,hr,hz,hw]
   exact⟨_,rfl⟩
theorem rows_one{n:Nat}(hrow:HookOne Tryz.prog 126 (qae (q4c n))):HookOne Tryz.prog 147 (qae (qvi n)):=by
 refine HookOne.ofPureF (by decide +kernel) fun args y h H=>?_
 have hl:∀e∈[(126,qae (q4c n))],HookOne Tryz.prog e.1 e.2:=by
  intro e he;simp at he;subst he;exact hrow
 unfold qvi at h;split at h
 ·rename_i x
  rw[Option.bind_eq_some_iff] at h
  obtain⟨l,h1,h2⟩:=h
  obtain⟨⟨hn,hR⟩,h3⟩:=qau h2
  cases h3
  obtain rfl:=qdi h1
  unfold lsA
  refine ACalls.ofRun hl mixed (draws _ rfl) yRows_ok rfl (by simp[qa2,qba,qci]) (l.length+1) ?_ H
  obtain⟨q1,q2⟩:=q36 (n:=n) (l.length+1) l hn l [] [] .nils AH.empty (l.length+1) rfl rfl hR (qe4 _ _) qp2 (Nat.lt_succ_self _)
  simp only[List.length_nil,Int.natCast_zero,Int.ofNat_zero,qzg,Int.cast_ofNat_Int] at q1 q2
  by_cases hz:(qaz (qbe n) l).2=0
  ·obtain⟨o',H',k1,k2,k3⟩:=q1 hz
   simp only[yRows,qaf,↓axP,axQ,seval,qaa,qab,List.length_map,k1,hz]
   refine Ans.some (.ofTup (.cons ?_ (.cons (.pure rfl) (.nil _))))
   refine k2.fz (by simp) (by simp) ?_
   have:(List.map (fun r=>[glV r]) (qaz (qbe n) l).1).flatten=([]++(qaz (qbe n) l).1).map glV:=by
    rw[List.nil_append]
    induction (qaz (qbe n) l).1 with
    |nil=>rfl
    |cons a b ih=>simp[ih]
   rw[this]
   refine FzL.pure ?_
   rw[qa6]
   intro x hx
   obtain⟨r,_,rfl⟩:=List.mem_map.1 hx
   exact qcr r
  ·obtain⟨H',k1⟩:=q2 hz
   have hW:∀l:List Tm,(qaz (qbe n) l).2≠0→(qaz (qbe n) l).1=[]:=by
    intro l
    induction l with
    |nil=>intro h;exact absurd rfl h
    |cons t l ih=>
     intro h
     simp only[qaz] at h ⊢
     split
     ·rename_i h1;simp only[h1,if_true] at h
      split
      ·rename_i h2;simp[h2] at h
      ·rfl
     ·rfl
   simp only[yRows,qaf,↓axP,axQ,seval,qaa,qab,List.length_map,k1,hz,hW l hz]
   exact Ans.some (.ofTup (.cons (.nils 1) (.cons (.pure rfl) (.nil _))))
 ·cases h
end
section
open Go Go.Abs Go.RowKit
attribute [local congr] qai qaj qag
noncomputable def q47(n:Nat):List AV→Option AV
 |[.int .i64 k,x]=>(ofLs x).bind fun l=>only (l.length≤1000∧∀t∈l,RC n t) (some (.tup [glV (qfe (qbe n) k l).1,.int .i64 (qfe (qbe n) k l).2]))
 |_=>none
theorem qlp{n:Nat}{k:Int}{l:List Tm}(h:l.length≤1000∧∀t∈l,RC n t):q47 n [.int .i64 k,.vals 4 (l.map tmC)]=some (.tup [glV (qfe (qbe n) k l).1,.int .i64 (qfe (qbe n) k l).2]):=by
 simp only[q47,qj5,Option.bind_some];exact qa0 h _
theorem q04(r:List (List Gl)):(qnl r).cells=[qnl r]:=(rfl)
theorem glsV_fit(r:List (List Gl)):(qnl r).fit=true:=(rfl)
theorem glsV_one(r:List (List Gl)):(qnl r).one=true:=(rfl)
theorem frA_glsV(r:List (List Gl))(H:AH):frA (qnl r) H=some (qnl r,H):=(rfl)
theorem q0r{n:Nat}(hrows:HookOne Tryz.prog 147 (qae (qvi n))):HookOne Tryz.prog 149 (qae (q47 n)):=by
 refine HookOne.ofPureF (by decide +kernel) fun args y h H=>?_
 have hl:∀e∈[(147,qae (qvi n))],HookOne Tryz.prog e.1 e.2:=by
  intro e he;simp at he;subst he;exact hrows
 unfold q47 at h;split at h
 ·rename_i k x
  rw[Option.bind_eq_some_iff] at h
  obtain⟨l,h1,h2⟩:=h
  obtain⟨hh,h3⟩:=qau h2
  cases h3
  obtain rfl:=qdi h1
  unfold lsA
  refine ACalls.ofRun hl mixed (draws _ rfl) qz4 rfl (by simp[qa2,qba,qci]) 0 ?_ H
  have e:=qxy hh
  by_cases hz:(qaz (qbe n) l).2=0
  ·simp only[qu8,qak,↓axP,axQ,seval,qaa,qab,e,hz,q04,glsV_fit,glsV_one,qfe]
   refine Ans.some (.ofTup (.cons (Fz.ofSlc (by simp only[↓axP,axQ,seval,qaa,qab];rfl) rfl (by simp[qe8]) ?_) (.cons (.pure rfl) (.nil _))))
   simp only[List.map_cons,List.map_nil,List.flatten_cons,List.flatten_nil,List.append_nil,glC,qbq,zT,Tm.kind,Tm.num,Tm.name,Tm.args,List.cons_append,List.nil_append]
   refine .cons (.pure rfl) (.cons (.pure rfl) (.cons (.pure rfl) (.cons (.pure rfl) (.cons (.nils 4) (.cons ?_ (.nil _))))))
   rw[qhk]
   exact .pure (qsz _)
  ·simp only[qu8,qak,↓axP,axQ,seval,qaa,qab,e,hz,qfe]
   exact Ans.some (.ofTup (.cons (.nils 6) (.cons (.pure rfl) (.nil _))))
 ·cases h
def zeros(n:Nat):List AV:=(List.replicate n [.int .i64 0,.int .i64 0,.int .i64 0,.str [],.nils,.nils]).flatten
def qi6(args:List AV)(H:AH):Option (AV×AH):=
 match args with
 |[.nils,.int .i64 n]=>if n=0 then some (.nils,H) else if 0<n∧n≤10000000∧H.gs.get H.next=none then some (.slc H.next 0 0 0 6,H.add (zeros n.toNat)) else none
 |_=>none
theorem grow_one:HookOne Tryz.prog 174 qi6:=by
 have hl:∀e∈([]:List (FuncId×(List AV→AH→Option (AV×AH)))),HookOne Tryz.prog e.1 e.2:=by intro e he;cases he
 obtain⟨c1,c2⟩:=qlj hl
 have main:∀args H x H',qi6 args H=some (x,H')→qa3 Tryz.prog 174=true∧ACalls Tryz.prog 174 args H fun y H1=>y=x∧H1=H':=by
  intro args H x H' h
  unfold qi6 at h
  split at h
  ·rename_i n
   split at h
   ·rename_i h0
    cases h
    subst h0
    refine qpl c1 c2 mixed (draws _ rfl) qxb (F:=0) rfl ?_
    simp only[yGrow,qak,↓axP,axQ,seval,qaa,qab]
    all_goals rfl
   ·rename_i h0
    split at h
    ·rename_i hc
     cases h
     refine qpl c1 c2 mixed (draws _ rfl) qxb (F:=0) rfl ?_
     have w1:IntKind.i64.wrap (0-0)=0:=by decide
     have w2:IntKind.i64.wrap (n-0)=n:=by rw[wrap_i64]<;>omega
     have n0:(n<0)=False:=by simp;omega
     have n1:(0<n)=True:=by simp;omega
     have n2:n≤9223372036854775807:=by omega
     have n3:n.toNat*88≤281474976710656:=by omega
     have n4:=hc.2.2
     obtain⟨nx,gs,ms⟩:=H
     simp only at n4
     simp only[yGrow,qak,↓axP,axQ,seval,qaa,qab,w1,w2,n0,n1,qa9,islice,qe0,n2,n3,n4,Int.toNat_zero,Nat.sub_self,or_false,true_or,Int.le_refl]
     all_goals rfl
    ·cases h
  ·cases h
 refine⟨(by decide +kernel),fun args H x H' h=>(main args H x H' h).2,fun args H x H' h=>?_⟩
 unfold qi6 at h
 split at h
 ·rename_i n
  split at h
  ·rename_i h0
   cases h
   exact FrameR.same fun R H2 _ _=>by simp only[qi6,if_pos h0]
  ·rename_i h0
   split at h
   ·rename_i hc
    cases h
    refine FrameR.add fun R H2 he ha hR=>?_
    have:=(qe0 H2).1 (Ext.free he hR ((qe0 H).2 hc.2.2))
    simp only[qi6,if_neg h0]
    rw[if_pos ⟨hc.1,hc.2.1,this⟩,he.next]
   ·cases h
 ·cases h
end
section
open Go Go.Abs Go.RowKit
attribute [local congr] qai qaj qag
theorem qka(r:List Gl)(H:AH):qhx false H (glV r)=some (.int .i64 r.length,H):=by unfold glV;rw[len_v];simp
theorem qhy(r:List Gl)(H:AH):qan H 6 (glV r)=some (r.length,(r.map glC).flatten):=by unfold glV;rw[qv2,if_pos rfl];simp
noncomputable def qnr:List AV→Option AV
 |[x]=>(ofRws x).bind fun rs=>only (rs.length≤2∧∀r∈rs,r.length≤100000) (some (glV rs.flatten))
 |_=>none
theorem q1i{rs:List (List Gl)}(h:rs.length≤2∧∀r∈rs,r.length≤100000):qnr [qnl rs]=some (glV rs.flatten):=by
 simp only[qnr,ofRws_eq,Option.bind_some];exact qa0 h _
theorem flat6(a:List Gl):(a.map glC).flatten.length=a.length*6:=by
 rw[qat (z:=6)]
 ·simp
 ·intro r hr;obtain⟨g,_,rfl⟩:=List.mem_map.1 hr;exact qe8 g
theorem qvo(a:List Gl):qa2 (a.map glC).flatten=true:=qcx (by rw[←qls];exact qiy a)
theorem qvj(a:List Gl):∀r∈a.map glC,r.length=6:=by intro r hr;obtain⟨g,_,rfl⟩:=List.mem_map.1 hr;exact qe8 g
set_option maxHeartbeats 1000000 in
theorem q1h:HookOne Tryz.prog 148 (qae qnr):=by
 refine HookOne.ofPureF (by decide +kernel) fun args y h H=>?_
 have hl:∀e∈[(174,qi6)],HookOne Tryz.prog e.1 e.2:=by
  intro e he;simp at he;subst he;exact grow_one
 unfold qnr at h;split at h
 ·rename_i x
  rw[Option.bind_eq_some_iff] at h
  obtain⟨rs,h1,h2⟩:=h
  obtain⟨⟨hn,hr⟩,h3⟩:=qau h2
  cases h3
  obtain rfl:=qdi h1
  refine ACalls.ofRun hl mixed (draws _ rfl) qz5 rfl (by simp[qa2,qsz]) 3 ?_ H
  match rs,hn with
  |[],_=>
   simp (maxSteps:=1000000) (disch:=omega) only[qf7,qaf,↓axP,axQ,seval,qaa,qab,qad,qdn,qda,qdm,qc9,qi6,qnl,List.map_nil]
   exact Ans.some (.nils 6)
  |[a],_=>
   have ha:=hr a (by simp)
   by_cases h0:a=[]
   ·subst h0
    simp (maxSteps:=1000000) (disch:=omega) only[qf7,qaf,↓axP,axQ,seval,qaa,qab,qad,qdn,qda,qdm,qc9,qi6,qnl,List.map_cons,List.map_nil,qka,qhy]
    exact Ans.some (.nils 6)
   ·have h1:0<a.length:=List.length_pos_iff.2 h0
    have h2:((a.length:Int)=0)=False:=by simp;omega
    have h3:(0<(a.length:Int))=True:=by simp;omega
    have h4:((a.length:Int)≤10000000)=True:=by simp;omega
    have h5:((a.length:Int)<0)=False:=by simp
    have h6:(a.length=0)=False:=by simp;omega
    have h7:(a.length*88≤140737488355328)=True:=by simp;omega
    have h8:(a.length≤9223372036854775807)=True:=by simp;omega
    simp (maxSteps:=1000000) (disch:=omega) only[qf7,qaf,↓axP,axQ,seval,qaa,qab,qad,qdn,qda,qdm,qc9,qi6,qnl,List.map_cons,List.map_nil,qka,qhy,Int.zero_add,h2,h3,h4,h5,h6,h7,h8]
    exact Ans.some (Fz.ofSlc (by simp only[↓axP,axQ,seval,qaa,qab];rfl) (by simp) (by simpa using qvj a) (by simpa using FzL.pure (qvo a)))
  |[a,b],_=>
   have ha:=hr a (by simp)
   have hb:=hr b (by simp)
   have s0:((a.length:Int)+(b.length:Int)≤10000000)=True:=by simp;omega
   have s1:((a.length:Int)<0)=False:=by simp
   have s2:((a.length:Int)+(b.length:Int)<0)=False:=by simp;omega
   have s3:(a.length*88≤140737488355328)=True:=by simp;omega
   have s4:(a.length≤9223372036854775807)=True:=by simp;omega
   have s5:(b.length*88≤140737488355328)=True:=by simp;omega
   have s6:(b.length≤9223372036854775807)=True:=by simp;omega
   have s7:((a.length+b.length)*88≤140737488355328)=True:=by simp;omega
   have s8:(a.length+b.length≤9223372036854775807)=True:=by simp;omega
   have t1:(1:Int)+1=2:=rfl
   have l6:((a.map glC).flatten).take (a.length*6)=(a.map glC).flatten:=List.take_of_length_le (by rw[flat6];omega)
   by_cases ha0:a=[]
   ·subst ha0
    by_cases hb0:b=[]
    ·subst hb0
     simp (maxSteps:=1000000) (disch:=omega) only[qf7,qaf,↓axP,axQ,seval,qaa,qab,qad,qdn,qda,qdm,qc9,qi6,qnl,List.map_cons,List.map_nil,qka,qhy,Int.zero_add]
     exact Ans.some (.nils 6)
    ·have b1:=List.length_pos_iff.2 hb0
     have u1:((b.length:Int)=0)=False:=by simp;omega
     have u2:(0<(b.length:Int))=True:=by simp;omega
     have u3:((b.length:Int)≤10000000)=True:=by simp;omega
     have u4:(b.length=0)=False:=by simp;omega
     have u5:((b.length:Int)<0)=False:=by simp
     simp (maxSteps:=1000000) (disch:=omega) only[qf7,qaf,↓axP,axQ,seval,qaa,qab,qad,qdn,qda,qdm,qc9,qi6,qnl,List.map_cons,List.map_nil,qka,qhy,Int.zero_add,s5,s6,u1,u2,u3,u4,u5]
     exact Ans.some (Fz.ofSlc (by simp only[↓axP,axQ,seval,qaa,qab];rfl) (by simp) (by simpa using qvj b) (by simpa using FzL.pure (qvo b)))
   ·have a1:=List.length_pos_iff.2 ha0
    have v0:((a.length:Int)=0)=False:=by simp;omega
    have v1:((a.length:Int)+(b.length:Int)=0)=False:=by simp;omega
    have v2:(0<(a.length:Int)+(b.length:Int))=True:=by simp;omega
    have v3:(a.length=0)=False:=by simp;omega
    by_cases hb0:b=[]
    ·subst hb0
     have v4:(0<(a.length:Int))=True:=by simp;omega
     have v5:((a.length:Int)≤10000000)=True:=by simp;omega
     simp (maxSteps:=1000000) (disch:=omega) only[qf7,qaf,↓axP,axQ,seval,qaa,qab,qad,qdn,qda,qdm,qc9,qi6,qnl,List.map_cons,List.map_nil,qka,qhy,Int.zero_add,Int.add_zero,s1,s3,s4,v0,v3,v4,v5]
     exact Ans.some (Fz.ofSlc (by simp only[↓axP,axQ,seval,qaa,qab];rfl) (by simp) (by simpa using qvj a) (by simpa using FzL.pure (qvo a)))
    ·have b1:=List.length_pos_iff.2 hb0
     have u4:(b.length=0)=False:=by simp;omega
     have u6:(a.length*6≤((a.map glC).flatten).length)=True:=by rw[flat6];simp
     simp (maxSteps:=1000000) (disch:=omega) only[qf7,qaf,↓axP,axQ,seval,qaa,qab,qad,qdn,qda,qdm,qc9,qi6,qnl,List.map_cons,List.map_nil,qka,qhy,Int.zero_add,s0,s1,s2,s3,s4,s7,s8,v0,v1,v2,v3,u4,u6,l6]
     exact Ans.some (Fz.ofSlc (by simp only[↓axP,axQ,seval,qaa,qab];rfl) (by simp) (by simpa using qvj (a++b)) (by simpa using FzL.pure (qvo (a++b))))
 ·cases h
end
section
open Go Go.Abs Go.RowKit
attribute [local congr] qai qaj qag
theorem qfh{l:List Tm}{x:Tm}(h:x∈l):x.height≤Tm.heights l:=by
 obtain⟨i,hi,rfl⟩:=List.getElem_of_mem h
 exact qfv hi
theorem size_mem{l:List Tm}{x:Tm}(h:x∈l):x.size≤Tm.sizes l:=by
 induction l with
 |nil=>cases h
 |cons y l ih=>
  simp only[Tm.sizes]
  rcases List.mem_cons.1 h with rfl|h
  ·omega
  ·have:=ih h;omega
theorem RC.arg{n:Nat}{t x:Tm}(h:RC (n+1) t)(hx:x∈t.args):RC n x:=by
 obtain⟨h1,h2,h3⟩:=h
 have a1:=qfh hx
 have a2:=size_mem hx
 rw[qbk] at h1
 rw[qdd] at h3
 exact⟨by omega,h2.args.2.1 x hx,by omega⟩
theorem RC.up{n:Nat}{t:Tm}(h:RC n t):RC (n+1) t:=⟨by have:=h.1;omega,h.2⟩
theorem qbo(t:Tm):0<t.height:=by rw[qbk];omega
theorem qmt{f:Tm→List Gl×Int}(hf:∀t,(f t).1.length≤t.size):∀l:List Tm,(qaz f l).1.length≤l.length∧(qaz f l).1.flatten.length≤Tm.sizes l∧∀r∈(qaz f l).1,r.length≤Tm.sizes l
 |[]=>by simp[qaz,Tm.sizes]
 |t::ts=>by
  obtain⟨h1,h2,h3⟩:=qmt hf ts
  have h0:=hf t
  simp only[qaz,Tm.sizes]
  split
  ·split
   ·refine⟨by simp;exact h1,by simp only[List.flatten_cons,List.length_append];omega,fun r hr=>?_⟩
    rcases List.mem_cons.1 hr with rfl|hr
    ·omega
    ·have:=h3 r hr;omega
   ·simp
  ·simp
theorem qb9{t:Tm}{s:List UInt8}{m:Nat}(h:isP t s m=true):t.args.length=m:=by
 unfold isP at h
 simp only[Bool.and_eq_true,decide_eq_true_eq] at h
 omega
theorem qp7(t:Tm):0<t.size:=by rw[qdd];omega
theorem qll:∀(n:Nat) (t:Tm),(qbe n t).1.length≤t.size
 |0,t=>by simp[qbe]
 |n+1,t=>by
  have hp:=qp7 t
  have hn:∀k l,(qfe (qbe n) k l).1.length≤1:=fun k l=>by unfold qfe;split<;>simp
  simp only[qbe]
  split
  ·simp;omega
  ·split
   ·simp
   ·split
    ·simp
    ·split
     ·simp;omega
     ·split
      ·have:=(qmt (qll n) t.args).2.1
       rw[qdd];simp only;omega
      ·split
       ·exact Nat.le_trans (hn _ _) hp
       ·split
        ·exact Nat.le_trans (hn _ _) hp
        ·split
         ·exact Nat.le_trans (hn _ _) hp
         ·split
          ·exact Nat.le_trans (hn _ _) hp
          ·simp;omega
theorem qbu{t:Tm}(h:t.args.length=2):∃a b,t.args=[a,b]:=by
 match hl:t.args,h with
 |[a,b],_=>exact⟨a,b,rfl⟩
theorem qtq:Fine 1000 qh8:=.mk _ _ _ _ (by omega) (by omega) (by unfold maxLen;simp) (by simp) (fun x hx=>by cases hx)
set_option maxHeartbeats 4000000 in
theorem row_step{n:Nat}(hrow:HookOne Tryz.prog 126 (qae (q4c n))):HookOne Tryz.prog 126 (qae (q4c (n+1))):=by
 refine HookOne.ofPureF (by decide +kernel) fun args y h H=>?_
 have hrows:=rows_one hrow
 have hl:∀e∈[(84,qae isS),(28,qae q7k),(83,qae qrk),(147,qae (qvi n)),(149,qae (q47 n)),(148,qae qnr)],HookOne Tryz.prog e.1 e.2:=by
  intro e he
  simp only[List.mem_cons,List.not_mem_nil,or_false] at he
  rcases he with rfl|rfl|rfl|rfl|rfl|rfl
  ·exact q5v
  ·exact comp_one
  ·exact qzt
  ·exact hrows
  ·exact q0r hrows
  ·exact q1h
 unfold q4c at h;split at h
 ·rename_i x
  rw[Option.bind_eq_some_iff] at h
  obtain⟨t,h1,h2⟩:=h
  obtain⟨hc,h3⟩:=qau h2
  cases h3
  obtain rfl:=qbr h1
  refine ACalls.ofRun hl mixed (draws _ rfl) yRow_ok rfl (by simp[qa2,qas]) 0 ?_ H
  have hRC:∀x∈t.args,RC n x:=fun x hx=>hc.arg hx
  have hlen:t.args.length≤1000:=hc.2.1.args.1
  have oneG:∀g:Gl,glV [g]=.vals 6 [glC g]:=fun g=>rfl
  unfold tmA
  by_cases k0:t.kind=0
  ·simp only[qbe,if_pos k0]
   have e:=compS_eq [99,97,108,108] [t] (by simp)
   simp only[List.map_cons,List.map_nil] at e
   simp (maxSteps:=1000000) (disch:=omega) only[q2d,qaf,↓axP,axQ,seval,qaa,qab,tX,k0,e]
   refine Ans.some (.ofTup (.cons (Fz.ofSlc (by simp only[↓axP,axQ,seval,qaa,qab];rfl) rfl (by simp[qe8]) ?_) (.cons (.pure rfl) (.nil _))))
   simp only[List.map_cons,List.map_nil,List.flatten_cons,List.flatten_nil,List.append_nil,glC]
   exact .cons (.pure rfl) (.append (.pure (qcq _)) (.cons (.nils 1) (.nil _)))
  ·simp only[qbe,if_neg k0]
   by_cases k1:t.kind=1
   ·simp only[if_pos k1]
    have k0':((1:Int)=0)=False:=by simp
    simp (maxSteps:=1000000) (disch:=omega) only[q2d,qaf,↓axP,axQ,seval,qaa,qab,tX,k1,k0']
    exact Ans.some (.ofTup (.cons (.nils 6) (.cons (.pure rfl) (.nil _))))
   ·simp only[if_neg k1]
    cases c1:isP t [116,114,117,101] 0 with
    |true=>
     simp (maxSteps:=1000000) (disch:=omega) only[q2d,qaf,↓axP,axQ,seval,qaa,qab,tX,k0,k1,qcj,c1]
     exact Ans.some (.ofTup (.cons (.nils 6) (.cons (.pure rfl) (.nil _))))
    |false=>
     cases c2:isP t [33] 0 with
     |true=>
      simp (maxSteps:=1000000) (disch:=omega) only[q2d,qaf,↓axP,axQ,seval,qaa,qab,tX,k0,k1,qcj,c1,c2]
      refine Ans.some (.ofTup (.cons (Fz.ofSlc (by simp only[↓axP,axQ,seval,qaa,qab];rfl) rfl (by simp[qe8]) ?_) (.cons (.pure rfl) (.nil _))))
      simp only[List.map_cons,List.map_nil,List.flatten_cons,List.flatten_nil,List.append_nil,glC,qbq,zT,Tm.kind,Tm.num,Tm.name,Tm.args,List.cons_append,List.nil_append,qwd]
      exact .cons (.pure rfl) (.cons (.pure rfl) (.cons (.pure rfl) (.cons (.pure rfl) (.cons (.nils 4) (.cons (.nils 1) (.nil _))))))
     |false=>
      cases c3:isP t [44] 2 with
      |true=>
       have e1:=qxy ⟨hlen,hRC⟩
       have hL:=qb9 (m:=2) c3
       obtain⟨q1,q2,q3⟩:=qmt (qll n) t.args
       have e2:=q1i (rs:=(qaz (qbe n) t.args).1) ⟨by omega,fun r hr=>by have:=q3 r hr;have:=qdd t;have:=hc.2.2;omega⟩
       simp (maxSteps:=1000000) (disch:=omega) only[q2d,qaf,↓axP,axQ,seval,qaa,qab,tX,k0,k1,qcj,c1,c2,c3,e1,frA_glsV,e2]
       exact Ans.some (.ofTup (.cons (.pure (qcr _)) (.cons (.pure rfl) (.nil _))))
      |false=>
       cases c4:isP t [59] 2 with
       |true=>
        obtain⟨a,b,hab⟩:=qbu (qb9 (m:=2) c4)
        have hRa:=hRC a (by rw[hab];simp)
        have hRb:=hRC b (by rw[hab];simp)
        simp only[hab,List.getD_cons_zero,List.getD_cons_succ,Bool.true_and]
        cases c5:isP a [45,62] 2 with
        |true=>
         obtain⟨c,d,hcd⟩:=qbu (qb9 (m:=2) c5)
         obtain⟨m,rfl⟩:∃m,n=m+1:=⟨n-1,by have:=hRa.1;have:=qbo a;omega⟩
         have hRc:RC (m+1) c:=(hRa.arg (by rw[hcd];simp)).up
         have hRd:RC (m+1) d:=(hRa.arg (by rw[hcd];simp)).up
         have e:=qlp (n:=m+1) (k:=4) (l:=[c,d,b]) ⟨by simp,by simp[hRc,hRd,hRb]⟩
         simp only[List.map_cons,List.map_nil] at e
         simp only[hcd,List.getD_cons_zero,List.getD_cons_succ]
         simp (maxSteps:=1000000) (disch:=omega) only[q2d,qaf,↓axP,axQ,seval,qaa,qab,tX,k0,k1,qcj,c1,c2,c3,c4,c5,hab,hcd,List.map_cons,List.map_nil,e]
         exact Ans.some (.ofTup (.cons (.pure (qcr _)) (.cons (.pure rfl) (.nil _))))
        |false=>
         have e:=qlp (n:=n) (k:=3) (l:=[a,b]) ⟨by simp,by simp[hRa,hRb]⟩
         simp only[List.map_cons,List.map_nil] at e
         simp (maxSteps:=1000000) (disch:=omega) only[q2d,qaf,↓axP,axQ,seval,qaa,qab,tX,k0,k1,qcj,c1,c2,c3,c4,c5,hab,List.map_cons,List.map_nil,e]
         exact Ans.some (.ofTup (.cons (.pure (qcr _)) (.cons (.pure rfl) (.nil _))))
       |false=>
        cases c6:isP t [45,62] 2 with
        |true=>
         obtain⟨a,b,hab⟩:=qbu (qb9 (m:=2) c6)
         have hRa:=hRC a (by rw[hab];simp)
         have hRb:=hRC b (by rw[hab];simp)
         have hRf:RC n qh8:=⟨by have:=hRa.1;have:=qbo a;simp[qh8,Tm.height,Tm.heights];omega,qtq,by simp[qh8,Tm.size,Tm.sizes]⟩
         have e:=qlp (n:=n) (k:=4) (l:=[a,b,qh8]) ⟨by simp,by simp[hRa,hRb,hRf]⟩
         simp only[List.map_cons,List.map_nil,qh8] at e
         simp only[hab,List.getD_cons_zero,List.getD_cons_succ,qh8]
         simp (maxSteps:=1000000) (disch:=omega) only[q2d,qaf,↓axP,axQ,seval,qaa,qab,tX,k0,k1,qcj,c1,c2,c3,c4,c6,hab,List.map_cons,List.map_nil,qb4,e]
         exact Ans.some (.ofTup (.cons (.pure (qcr _)) (.cons (.pure rfl) (.nil _))))
        |false=>
         cases c7:isP t [92,43] 1 with
         |true=>
          have e:=qlp (n:=n) (k:=5) ⟨hlen,hRC⟩
          simp (maxSteps:=1000000) (disch:=omega) only[q2d,qaf,↓axP,axQ,seval,qaa,qab,tX,k0,k1,qcj,c1,c2,c3,c4,c6,c7,e]
          exact Ans.some (.ofTup (.cons (.pure (qcr _)) (.cons (.pure rfl) (.nil _))))
         |false=>
          simp (maxSteps:=1000000) (disch:=omega) only[q2d,qaf,↓axP,axQ,seval,qaa,qab,tX,k0,k1,qcj,c1,c2,c3,c4,c6,c7]
          refine Ans.some (.ofTup (.cons (Fz.ofSlc (by simp only[↓axP,axQ,seval,qaa,qab];rfl) rfl (by simp[qe8]) ?_) (.cons (.pure rfl) (.nil _))))
          simp only[List.map_cons,List.map_nil,List.flatten_cons,List.flatten_nil,List.append_nil,glC]
          exact .cons (.pure rfl) (.append (.pure (qcq _)) (.cons (.nils 1) (.nil _)))
 ·cases h
theorem q4a:∀n:Nat,HookOne Tryz.prog 126 (qae (q4c n))
 |0=>by
  refine HookOne.ofPureF (by decide +kernel) fun args y h H=>?_
  unfold q4c at h;split at h
  ·rename_i x
   rw[Option.bind_eq_some_iff] at h
   obtain⟨t,h1,h2⟩:=h
   obtain⟨hc,h3⟩:=qau h2
   have:=hc.1
   have:=qbo t
   omega
  ·cases h
 |n+1=>row_step (q4a n)
end
end Go.Proofs.YtdekdghldblfaaaGreatDoor
