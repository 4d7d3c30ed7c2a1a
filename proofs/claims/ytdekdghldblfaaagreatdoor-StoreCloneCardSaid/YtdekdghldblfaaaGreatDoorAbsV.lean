import Derived.Test.YtdekdghldblfaaaGreatDoorAbsL
import Derived.Test.YtdekdghldblfaaaGreatDoorAbsSB
set_option linter.unusedVariables false
set_option linter.unusedSimpArgs false
namespace Go.Abs
section
open Go Go.RowKit
theorem qfk{f g:AV→Option AV}(h:∀x y,f x=some y→g x=some y):∀{xs ys:List AV},frzs f xs=some ys→frzs g xs=some ys
 |[],ys,e=>e
 |x::xs,ys,e=>by
  simp only[frzs] at e ⊢
  split at e
  ·rename_i y hy
   rw[h _ _ hy]
   split at e
   ·rename_i ys' hys
    cases e
    simp only[qfk h hys]
   ·cases e
  ·cases e
theorem frzV_ext{R:Nat→Option Grp}{H H2:AH}(he:Ext R H H2)(ha:Apart R H):∀(n:Nat) (x y:AV),qh7 n H x=some y→qh7 n H2 x=some y:=by
 intro n
 induction n with
 |zero=>intro x y h;cases h
 |succ n ih=>
  intro x y h
  simp only[qh7] at h ⊢
  split at h
  ·split at h
   ·rename_i ys hys
    simp only[qfk ih hys];exact h
   ·cases h
  ·split at h
   ·rename_i ys hys
    simp only[qfk ih hys];exact h
   ·cases h
  ·split at h
   ·rename_i r hr
    simp only[he.get ha hr]
    split at h
    ·rename_i hc
     rw[if_pos hc]
     split at h
     ·rename_i ys hys
      simp only[qfk ih hys];exact h
     ·cases h
    ·cases h
   ·cases h
  ·split at h
   ·rename_i hz
    rw[if_pos hz]
    split at h
    ·rename_i ys hys
     simp only[qfk ih hys];exact h
    ·cases h
   ·cases h
  ·split at h
   ·rename_i z hz
    simp only[ih _ _ hz];exact h
   ·cases h
  ·exact h
theorem qza{K:Kx}{G Gf:Gh}{H:AH}{w:World}(h:HRel K G H w)(hM:∀b o v,K.B≤b→w.cell? ⟨b,o,none⟩=some v→v.oneCell'=true→Gf.M b o=some v)(hG:∀b o v,G.M b o=some v→Gf.M b o=some v)(n:Nat){xs ys:List AV}{us:List Value}(hf:frzs (qh7 n H) xs=some ys)(hv:VRs G xs us):VRs Gf ys us:=by
 obtain⟨q1,q2⟩:=qdt hf
 refine VRs.of_get (by rw[hv.len,q1]) fun j y hj=>?_
 obtain⟨x,h3,h4⟩:=q2 j y hj
 obtain⟨v,h5,h6⟩:=hv.get j x h3
 exact⟨v,h5,frzV_ok h hM hG n x y v h4 h6⟩
theorem ACalls.memoF{P:Program}{f:FuncId}{ks:List AV}{x y:AV}{H1:AH}(n:Nat)(h:ACalls P f ks AH.empty fun x' H'=>x'=x∧H'=H1)(hf:frz n H1 x=some y){m:Nat}{args:List AV}{H:AH}(hk:frzs (qh7 m H) args=some ks) :
  ACalls P f args H fun y' H'=>y'=y∧H'=H:=by
 intro K G vs w hr hv
 have hv':VRs (allG w) ks vs.toList:=qza hr (fun b o v _ hc ho=>qco hc ho) (fun b o v hM=>qco (hr.mem b o v hM) (hr.ones b o v hM)) m hk hv
 refine (h _ _ vs w (qjk w hr.glob) hv').mono fun e w' ⟨u,x',G',H',h1,h2,h3,h4,h5,h6⟩=>?_
 subst h5;subst h6
 refine⟨u,y,qvw G w.heap.size w',H,h1,qqn hr,qqm hr h3.below,?_,rfl,rfl⟩
 refine frz_ok h3 (fun b o v hB hc ho=>?_) n x' y u hf h4
 simp only[qvw]
 rw[if_neg (by show ¬b<w.heap.size;have:w.heap.size≤b:=hB;omega)]
 exact qco hc ho
abbrev AllE(P:Program)(f:FuncId)(L:List (List AV×AV)):Prop:=∀e∈L,∀m args H,frzs (qh7 m H) args=some e.1→ACalls P f args H fun y H'=>y=e.2∧H'=H
end
section
open Go Go.RowKit
structure FnOK(P:Program)(f:FuncId)(fn:IFun):Prop where
 okc:okC fn.body
 ok:∀call F,qcp P call→qaw call→∀args H x H',Nat.ble args.length fn.nt=true→xend fn (xcode call F fn.body (xinit args 0 .nil) H)=some (x,H')→qa3 P f=true∧ACalls P f args H fun y H1=>y=x∧H1=H'
theorem FnOK.plain{P:Program}{f:FuncId}{fn:IFun}(hm:P.follows .mixedOrders=true)(hD:qwg P f=true)(hfn:qbp P (fun _=>true) f=some fn):FnOK P f fn:=by
 unfold qbp at hfn
 simp only[cond_true] at hfn
 split at hfn
 ·rename_i fn' hf'
  cases hnm : (fn'.name == "runtime.NumGoroutine") with
  |true=>rw[hnm] at hfn;cases hfn
  |false=>
   rw[hnm] at hfn
   simp only[cond_false] at hfn
   split at hfn
   ·rename_i c hbody
    split at hfn
    ·rename_i rs hrs
     cases hfn
     have hcd:qf3 P fn'.ntmps c=true:=by
      have:=hD
      unfold qwg at this
      rw[hf'] at this
      simpa[hbody] using this
     refine⟨qcz _ _ _,fun call F ih ihf args H x H' hb h=>?_⟩
     refine⟨by unfold qa3;rw[hf'];simp[hnm,hbody],?_⟩
     refine ACalls.of_body hf' hbody (Nat.le_of_ble_eq_true hb) ?_
     have hxi:∀k,(xinit args 0 .nil).get k=(tinit args 0).get k:=by
      intro k
      rw[qio,qgd]
      simp only[Nat.zero_le,true_and,Nat.zero_add,Nat.sub_zero,if_true,Tr.get_nil]
      by_cases hk:k<args.length
      ·rw[if_pos hk]
      ·rw[if_neg hk,List.getElem?_eq_none (by omega)]
     have main:∀e T1 H1,xcode call F (qcg P fn'.ntmps c) (xinit args 0 .nil) H=some (e,T1,H1)→(e=.normal∨e=.ret)→ires T1 H1 rs=some x→H1=H'→AT P fn'.ntmps c (tinit args 0) H (bodyQ P fn' fun y H1=>y=x∧H1=H'):=by
      rintro e T1 H1 k1 k2 k3 rfl
      have hAT:=qlg (nt:=fn'.ntmps) ih ihf hm c _ _ _ _ _ hcd k1
      intro K G a w hr ht
      refine wp_mono (hAT K G a w hr (ht.congr hxi)) fun e1 a1 w1 ⟨G',T2,H2,r1,r2,r3,r4,r5,r6⟩=>?_
      subst r4;subst r5;subst r6
      refine⟨G',T2,H2,r1,r2,r3,?_⟩
      rcases k2 with rfl|rfl<;>exact⟨x,qv5 hrs k3,rfl,rfl⟩
     cases hx:xcode call F (qcg P fn'.ntmps c) (xinit args 0 .nil) H with
     |none=>rw[hx] at h;simp[xend] at h
     |some r=>
      obtain⟨e,T1,H1⟩:=r
      rw[hx] at h
      cases e with
      |normal=>
       simp only[xend] at h
       split at h
       ·rename_i y hy;cases h;exact main _ _ _ hx (.inl rfl) hy rfl
       ·cases h
      |ret=>
       simp only[xend] at h
       split at h
       ·rename_i y hy;cases h;exact main _ _ _ hx (.inr rfl) hy rfl
       ·cases h
      |exit id=>simp[xend] at h
    ·cases hfn
   ·cases hfn
 ·cases hfn
end
section
open Go Go.RowKit
abbrev Sps:=FuncId→Option MZ
noncomputable def qk6(sp:Sps)(hook:qk7)(F:Nat):Nat→qar
 |0=>fun _ _ _=>none
 |n+1=>fun f args H=>match hook f with
  |some h=>h args H
  |none=>match sp f with
   |some m=>m (qk6 sp hook F n) F args H
   |none=>none
structure SpOK(P:Program)(f:FuncId)(m:MZ):Prop where
 frame:∀call F,qaw call→∀args H x H',m call F args H=some (x,H')→FrameR x H H' (m call F args)
 ok:∀call F,qcp P call→qaw call→∀args H x H',m call F args H=some (x,H')→qa3 P f=true∧ACalls P f args H fun y H1=>y=x∧H1=H'
theorem qid{P:Program}{sp:Sps}{hook:qk7}{F:Nat}(hf:∀f m,sp f=some m→SpOK P f m)(hh:qg1 hook):∀n,qaw (qk6 sp hook F n)
 |0=>fun f args H x H' h=>by simp only[qk6] at h;cases h
 |n+1=>fun f args H x H' h=>by
  have ih:=qid (F:=F) hf hh n
  simp only[qk6] at h
  split at h
  ·rename_i hk hr
   obtain⟨q1,q2⟩:=hh _ _ hr _ _ _ _ h
   refine⟨q1,fun R H2 he ha=>?_⟩
   obtain⟨H2',k1,k2⟩:=q2 R H2 he ha
   exact⟨H2',by simp only[qk6,hr];exact k1,k2⟩
  ·rename_i hr
   split at h
   ·rename_i m hm
    obtain⟨q1,q2⟩:=(hf f m hm).frame _ F ih args H x H' h
    refine⟨q1,fun R H2 he ha=>?_⟩
    obtain⟨H2',k1,k2⟩:=q2 R H2 he ha
    exact⟨H2',by simp only[qk6,hr,hm];exact k1,k2⟩
   ·cases h
theorem qzu{P:Program}{sp:Sps}{hook:qk7}{F:Nat}(hf:∀f m,sp f=some m→SpOK P f m)(hh:q8l P hook)(hfr:qg1 hook):∀n,qcp P (qk6 sp hook F n)
 |0=>fun f args H x H' h=>by simp only[qk6] at h;cases h
 |n+1=>fun f args H x H' h=>by
  have ih:=qzu (F:=F) hf hh hfr n
  have ihf:=qid (F:=F) hf hfr n
  simp only[qk6] at h
  split at h
  ·rename_i hk hr
   exact hh _ _ hr _ _ _ _ h
  ·split at h
   ·rename_i m hm
    exact (hf f m hm).ok _ F ih ihf args H x H' h
   ·cases h
noncomputable def qvf(fn:IFun):MZ:=fun c F args H=>bif Nat.ble args.length fn.nt then xend fn (xcode c F fn.body (xinit args 0 .nil) H) else none
theorem SpOK.text{P:Program}{f:FuncId}{fn:IFun}(h:FnOK P f fn):SpOK P f (qvf fn):=by
 refine⟨fun call F ih args H x H' hx=>?_,fun call F ih ihf args H x H' hx=>?_⟩
 ·unfold qvf at hx
  cases hb:Nat.ble args.length fn.nt with
  |false=>rw[hb] at hx;cases hx
  |true=>
   rw[hb] at hx
   simp only[cond_true] at hx
   obtain⟨q1,q2⟩:=qod (f:=fun H=>xcode call F fn.body (xinit args 0 .nil) H) (fun e T1 H1 h1=>qh2 ih h.okc h1) hx
   refine⟨q1,fun R H2 he ha=>?_⟩
   obtain⟨H2',k1,k2⟩:=q2 R H2 he ha
   exact⟨H2',by simp only[qvf,hb,cond_true];exact k1,k2⟩
 ·unfold qvf at hx
  cases hb:Nat.ble args.length fn.nt with
  |false=>rw[hb] at hx;cases hx
  |true=>
   rw[hb] at hx
   simp only[cond_true] at hx
   exact h.ok call F ih ihf args H x H' hb hx
end
section
open Go Go.RowKit
def frzP:Nat→AH→AV→Option AV
 |0,_,_=>none
 |n+1,H,x=>match x with
  |.agg cs=>match frzs (frzP n H) cs with
   |some ys=>some (.agg ys)
   |none=>none
  |.tup cs=>match frzs (frzP n H) cs with
   |some ys=>some (.tup ys)
   |none=>none
  |.slc g e i len z=>match H.gs.get g with
   | some r=>if r.e = e ∧ i + len * z ≤ r.cells.length then (match frzs (frzP n H) ((r.cells.drop i).take (len * z)) with
    |some ys=>some (.vals z (chunk z len ys))
    | none=>none) else none
   |none=>none
  |.ptr g e i=>match H.gs.get g with
   | some r=>if r.e = e then (match frzs (frzP n H) r.cells with
    |some ys=>some (.vptr ys i)
    | none=>none) else none
   |none=>none
  |x=>if q07 x=true then some x else none
theorem frzP_ok{K:Kx}{G Gf:Gh}{H:AH}{w:World}(h:HRel K G H w)(hM:∀b o v,K.B≤b→w.cell? ⟨b,o,none⟩=some v→v.oneCell'=true→Gf.M b o=some v):∀(n:Nat) (x y:AV) (u:Value),frzP n H x=some y→VR G x u→VR Gf y u:=by
 intro n
 induction n with
 |zero=>intro x y u hf hv;cases hf
 |succ n ih=>
  intro x y u hf hv
  have list:∀{cs ys:List AV} {us:List Value},frzs (frzP n H) cs=some ys→VRs G cs us→VRs Gf ys us:=by
   intro cs ys us h1 h2
   obtain⟨q1,q2⟩:=qdt h1
   refine VRs.of_get (by rw[h2.len,q1]) fun j y hj=>?_
   obtain⟨x,h3,h4⟩:=q2 j y hj
   obtain⟨v,h5,h6⟩:=h2.get j x h3
   exact⟨v,h5,ih x y v h4 h6⟩
  simp only[frzP] at hf
  split at hf
  ·rename_i cs
   split at hf
   ·rename_i ys hys
    cases hf
    simp only[VR] at hv ⊢
    obtain⟨us,rfl,h2⟩:=hv
    exact⟨us,rfl,list hys h2⟩
   ·cases hf
  ·rename_i cs
   split at hf
   ·rename_i ys hys
    cases hf
    simp only[VR] at hv ⊢
    obtain⟨us,rfl,h2⟩:=hv
    exact⟨us,rfl,list hys h2⟩
   ·cases hf
  ·rename_i g e i len z
   split at hf
   ·rename_i r hr
    split at hf
    ·rename_i hc
     obtain⟨rfl,hfit⟩:=hc
     split at hf
     ·rename_i ys hys
      cases hf
      simp only[VR] at hv ⊢
      obtain⟨b,o,m,cap,hmu,rfl,hcap,_⟩:=hv
      obtain⟨b',o',m',cs,t,q⟩:=h.grp g r hr
      rw[q.mu] at hmu
      cases hmu
      obtain⟨q1,q2⟩:=qdt hys
      have hlen:ys.length=len*z:=by rw[q1,List.length_take,List.length_drop];omega
      refine⟨_,cap,by rw[qcm],by rw[qcm];exact hcap,.inr ⟨b,o+i,rfl,qel len ys (o+i) hlen fun j y hj=>?_⟩⟩
      obtain⟨x,h3,h4⟩:=q2 j y hj
      obtain⟨v,h5,h6,h7⟩:=q.cellsIn i (len*z) j x h3
      exact⟨v,hM _ _ _ q.low h5 h7,ih x y v h4 h6⟩
     ·cases hf
    ·cases hf
   ·cases hf
  ·rename_i g e i
   split at hf
   ·rename_i r hr
    split at hf
    ·rename_i hc
     subst hc
     split at hf
     ·rename_i ys hys
      cases hf
      simp only[VR] at hv ⊢
      obtain⟨b,o,m,hmu,rfl⟩:=hv
      obtain⟨b',o',m',cs,t,q⟩:=h.grp g r hr
      rw[q.mu] at hmu
      cases hmu
      obtain⟨q1,q2⟩:=qdt hys
      refine⟨b,o,rfl,VRow.of_get fun j y hj=>?_⟩
      obtain⟨x,h3,h4⟩:=q2 j y hj
      obtain⟨v,h5,h6,h7⟩:=q.cell j x h3
      exact⟨v,hM _ _ _ q.low (by rw[qby q.heap];exact h5) h7,ih x y v h4 h6⟩
     ·cases hf
    ·cases hf
   ·cases hf
  ·split at hf
   ·rename_i hfl
    cases hf
    exact qq1 hfl hv
   ·cases hf
theorem ACalls.memoP{P:Program}{f:FuncId}{ks:List AV}{x y:AV}{H1:AH}(n:Nat)(h:ACalls P f ks AH.empty fun x' H'=>x'=x∧H'=H1)(hf:frzP n H1 x=some y){m:Nat}{args:List AV}{H:AH}(hk:frzs (qh7 m H) args=some ks) :
  ACalls P f args H fun y' H'=>y'=y∧H'=H:=by
 intro K G vs w hr hv
 have hv':VRs (allG w) ks vs.toList:=qza hr (fun b o v _ hc ho=>qco hc ho) (fun b o v hM=>qco (hr.mem b o v hM) (hr.ones b o v hM)) m hk hv
 refine (h _ _ vs w (qjk w hr.glob) hv').mono fun e w' ⟨u,x',G',H',h1,h2,h3,h4,h5,h6⟩=>?_
 subst h5;subst h6
 refine⟨u,y,qvw G w.heap.size w',H,h1,qqn hr,qqm hr h3.below,?_,rfl,rfl⟩
 refine frzP_ok h3 (fun b o v hB hc ho=>?_) n x' y u hf h4
 simp only[qvw]
 rw[if_neg (by show ¬b<w.heap.size;have:w.heap.size≤b:=hB;omega)]
 exact qco hc ho
def q66(n:Nat)(x y:AV):Bool:=match x,y with
 |.tup (.vptr r i::xs),.tup (.vptr r' i'::ys)=>Nat.beq i i'&&dsame n (.agg r) (.agg r')&&dsame n (.tup xs) (.tup ys)
 |x,y=>dsame n x y
theorem q65{n:Nat}{x y:AV}(h:q66 n x y=true):x=y:=by
 unfold q66 at h
 split at h
 ·simp only[Bool.and_eq_true] at h
  obtain⟨⟨h1,h2⟩,h3⟩:=h
  have e1:=Nat.eq_of_beq_eq_true h1
  have e2:=qje _ _ _ h2
  have e3:=qje _ _ _ h3
  cases e2;cases e3;subst e1;rfl
 ·exact qje _ _ _ h
def qrp(r:Option (AV×AH))(y:AV):Bool:=
 match r with
 |some (x,H)=>match frzP 100 H x with
  |some x'=>q66 100 x' y
  |none=>false
 |none=>false
theorem qwx{r:Option (AV×AH)}{y:AV}(h:qrp r y=true):∃x H,r=some (x,H)∧frzP 100 H x=some y:=by
 unfold qrp at h
 split at h
 ·rename_i x H
  split at h
  ·rename_i x' hx
   rw[←q65 h]
   exact⟨x,H,rfl,hx⟩
  ·cases h
 ·cases h
noncomputable def qqt:List (List AV×AV)→List AV→Option AV
 |[],_=>none
 |e::L,ks=>@ite _ (ks=e.1) (Classical.propDecidable _) (some e.2) (qqt L ks)
theorem qyu:∀{L:List (List AV×AV)} {ks:List AV} {y:AV},qqt L ks=some y→(ks,y)∈L
 |[],ks,y,h=>by cases h
 |e::L,ks,y,h=>by
  unfold qqt at h
  split at h
  ·rename_i he
   cases h;subst he;exact List.mem_cons_self ..
  ·exact List.mem_cons_of_mem _ (qyu h)
theorem qqs(ks:List AV)(k:List AV)(y:AV)(L:List (List AV×AV)):qqt ((k,y)::L) ks=@ite _ (ks=k) (Classical.propDecidable _) (some y) (qqt L ks):=rfl
noncomputable def qdy(L:List (List AV×AV))(args:List AV)(H:AH):Option (AV×AH):=on (frzs (qh7 3 H) args) fun ks=>on (qqt L ks) fun y=>some (y,H)
theorem qyk{α β:Type}{x:Option α}{f:α→Option β}{y:β}(h:on x f=some y):∃a,x=some a∧f a=some y:=by
 cases x with
 |none=>cases h
 |some a=>exact⟨a,rfl,h⟩
theorem qyv{L:List (List AV×AV)}{args ks:List AV}{H:AH}{y:AV}(h1:frzs (qh7 3 H) args=some ks)(h2:qqt L ks=some y):qdy L args H=some (y,H):=by
 unfold qdy
 rw[h1,qa8,h2,qa8]
theorem qeq{P:Program}{f:FuncId}{L:List (List AV×AV)}(hb:qa3 P f=true)(h:AllE P f L):HookOne P f (qdy L):=by
 have key:∀{args H x H'},qdy L args H=some (x,H')→H'=H∧∃ks,frzs (qh7 3 H) args=some ks∧qqt L ks=some x:=by
  intro args H x H' hx
  obtain⟨ks,h1,h2⟩:=qyk hx
  obtain⟨y,h3,h4⟩:=qyk h2
  cases h4
  exact⟨rfl,ks,h1,h3⟩
 refine⟨hb,fun args H x H' hx=>?_,fun args H x H' hx=>?_⟩
 ·obtain⟨rfl,ks,h1,h2⟩:=key hx
  exact h (ks,x) (qyu h2) 3 args _ h1
 ·obtain⟨rfl,ks,h1,h2⟩:=key hx
  refine FrameR.same fun R H2 he ha=>?_
  exact qyv (qfk (frzV_ext he ha 3) h1) h2
theorem qy8(f:AV→Option AV):frzs f []=some []:=rfl
theorem qy9(f:AV→Option AV)(x:AV)(xs:List AV):frzs f (x::xs)=on (f x) fun y=>on (frzs f xs) fun ys=>some (y::ys):=by
 simp only[frzs,on]
 cases f x with
 |none=>rfl
 |some y=>cases frzs f xs<;>rfl
theorem qlt(n:Nat)(H:AH)(s:List UInt8):qh7 (n+1) H (.str s)=some (.str s):=rfl
theorem qlv(n:Nat)(H:AH)(k:IntKind)(a:Int):qh7 (n+1) H (.int k a)=some (.int k a):=rfl
theorem qja(n:Nat)(H:AH)(b:Bool):qh7 (n+1) H (.bool b)=some (.bool b):=rfl
theorem qi9(n:Nat)(H:AH):qh7 (n+1) H .nils=some .nils:=rfl
theorem qlw(n:Nat)(H:AH)(cs:List AV):qh7 (n+1) H (.agg cs)=on (frzs (qh7 n H) cs) fun ys=>some (.agg ys):=by
 simp only[qh7,on]
 cases frzs (qh7 n H) cs<;>rfl
theorem qlu(n:Nat)(H:AH)(g e i len z:Nat):qh7 (n+1) H (.slc g e i len z)=on (H.gs.get g) fun r=>if r.e=e∧i+len*z≤r.cells.length then on (frzs (qh7 n H) ((r.cells.drop i).take (len*z))) fun ys=>some (.vals z (chunk z len ys)) else none:=by
 simp only[qh7,on]
 cases H.gs.get g with
 |none=>rfl
 |some r=>
  dsimp only
  split
  ·cases frzs (qh7 n H) ((r.cells.drop i).take (len*z))<;>rfl
  ·rfl
theorem qqu{P:Program}{good:FuncId→Bool}{hook:qk7}{F n:Nat}(hok:qcp P (arun P good hook F n)){f:FuncId}{L:List (List AV×AV)}(h:(L.all fun e=>qrp (qrn P good hook F n f e.1 AH.empty) e.2)=true):AllE P f L:=by
 intro e he m args H hk
 have h1:=List.all_eq_true.1 h e he
 obtain⟨x,H1,h2,h3⟩:=qwx h1
 rw[qrm] at h2
 exact ACalls.memoP 100 (hok _ _ _ _ _ h2).2 h3 hk
end
section
open Go Go.RowKit
inductive FzR(H:AH)(kp:Nat→Nat→Nat→Nat→Prop)(km:Nat→Nat→Prop)(dead:Nat→Prop):AV→AV→Prop
 |pure {x:AV} (h:qba x=true):FzR H kp km dead x x
 |und:FzR H kp km dead .und .und
 |nils (z:Nat):FzR H kp km dead .nils (.vals z [])
 |zslc (z:Nat):FzR H kp km dead .zslc (.vals z [])
 |agg {xs ys:List AV} (hl:xs.length=ys.length) (h:∀(i:Nat) x y,xs[i]? = some x→ys[i]? = some y→FzR H kp km dead x y):FzR H kp km dead (.agg xs) (.agg ys)
 |tup {xs ys:List AV} (hl:xs.length=ys.length) (h:∀(i:Nat) x y,xs[i]? = some x→ys[i]? = some y→FzR H kp km dead x y):FzR H kp km dead (.tup xs) (.tup ys)
 |fn {f:Fn} {xs ys:List AV} (hl:xs.length=ys.length) (h:∀(i:Nat) x y,xs[i]? = some x→ys[i]? = some y→FzR H kp km dead x y):FzR H kp km dead (.fn f xs) (.fn f ys)
 |iface {t:TypeId} {x y:AV} (h:FzR H kp km dead x y):FzR H kp km dead (.iface t x) (.iface t y)
 |slc {g e i len z:Nat} {r:Grp} {rows:List (List AV)} (hd:dead g) (hg:H.gs.get g=some r) (he:r.e=e) (hn:rows.length=len) (hz:∀row∈rows,row.length=z) (hb:i+len*z≤r.cells.length)
   (h:∀(j:Nat) x y,r.cells[i+j]? = some x→rows.flatten[j]? = some y→FzR H kp km dead x y):FzR H kp km dead (.slc g e i len z) (.vals z rows)
 |vals {z:Nat} {rows rows':List (List AV)} (hn:rows.length=rows'.length) (hz:∀row∈rows,row.length=z) (hz':∀row∈rows',row.length=z)
   (h:∀(j:Nat) x y,rows.flatten[j]? = some x→rows'.flatten[j]? = some y→FzR H kp km dead x y):FzR H kp km dead (.vals z rows) (.vals z rows')
 |ptr {g e i:Nat} {r:Grp} {row:List AV} (hd:dead g) (hg:H.gs.get g=some r) (he:r.e=e) (hb:row.length≤r.cells.length)
   (h:∀(j:Nat) x y,r.cells[j]? = some x→row[j]? = some y→FzR H kp km dead x y):FzR H kp km dead (.ptr g e i) (.vptr row i)
 |vptr {i:Nat} {row row':List AV} (hl:row.length=row'.length) (h:∀(j:Nat) x y,row[j]? = some x→row'[j]? = some y→FzR H kp km dead x y):FzR H kp km dead (.vptr row i) (.vptr row' i)
 |keepP {g e g' e' i:Nat} (h:kp g e g' e'):FzR H kp km dead (.ptr g e i) (.ptr g' e' i)
 |keepS {g e g' e' i len z:Nat} (h:kp g e g' e'):FzR H kp km dead (.slc g e i len z) (.slc g' e' i len z)
 |keepM {g g':Nat} (h:km g g'):FzR H kp km dead (.mapp g) (.mapp g')
theorem FzR_ok{K:Kx}{G Gf:Gh}{H:AH}{w:World}{kp:Nat→Nat→Nat→Nat→Prop}{km:Nat→Nat→Prop}{dead:Nat→Prop}(h:HRel K G H w)
  (hM:∀g r b o n,dead g→H.gs.get g=some r→G.mu g r.e=some (b,o,n)→∀j x v,r.cells[j]? = some x→w.cell? ⟨b,o+j,none⟩=some v→v.oneCell'=true→Gf.M b (o+j)=some v)
  (hG:∀b o v,G.M b o=some v→Gf.M b o=some v) (hkp:∀g e g' e',kp g e g' e'→∀x,G.mu g e=some x→Gf.mu g' e'=some x) (hkm:∀g g',km g g'→∀x,G.mm g=some x→Gf.mm g'=some x)
  {x y:AV} (hf:FzR H kp km dead x y):∀u,VR G x u→VR Gf y u:=by
 induction hf with
 |pure hp=>exact fun u hv=>qi0 hG _ _ hp hv
 |und=>exact fun u hv=>hv
 |nils z=>intro u hv;simp only[VR] at hv ⊢;subst hv;exact⟨none,0,rfl,Nat.le_refl _,.inl trivial⟩
 |zslc z=>intro u hv;simp only[VR] at hv ⊢;obtain⟨a,rfl⟩:=hv;exact⟨a,0,rfl,Nat.le_refl _,.inl trivial⟩
 |agg hl hx ih=>
  intro u hv
  simp only[VR] at hv ⊢
  obtain⟨us,rfl,h2⟩:=hv
  refine⟨us,rfl,VRs.of_get (by rw[h2.len,hl]) fun j y hj=>?_⟩
  obtain⟨hlt,-⟩:=List.getElem?_eq_some_iff.1 hj
  obtain⟨v,h3,h4⟩:=h2.get j _ (List.getElem?_eq_getElem (by omega))
  exact⟨v,h3,ih j _ y (List.getElem?_eq_getElem (by omega)) hj v h4⟩
 |tup hl hx ih=>
  intro u hv
  simp only[VR] at hv ⊢
  obtain⟨us,rfl,h2⟩:=hv
  refine⟨us,rfl,VRs.of_get (by rw[h2.len,hl]) fun j y hj=>?_⟩
  obtain⟨hlt,-⟩:=List.getElem?_eq_some_iff.1 hj
  obtain⟨v,h3,h4⟩:=h2.get j _ (List.getElem?_eq_getElem (by omega))
  exact⟨v,h3,ih j _ y (List.getElem?_eq_getElem (by omega)) hj v h4⟩
 |fn hl hx ih=>
  intro u hv
  simp only[VR] at hv ⊢
  obtain⟨us,rfl,h2⟩:=hv
  refine⟨us,rfl,VRs.of_get (by rw[h2.len,hl]) fun j y hj=>?_⟩
  obtain⟨hlt,-⟩:=List.getElem?_eq_some_iff.1 hj
  obtain⟨v,h3,h4⟩:=h2.get j _ (List.getElem?_eq_getElem (by omega))
  exact⟨v,h3,ih j _ y (List.getElem?_eq_getElem (by omega)) hj v h4⟩
 |iface hx ih=>
  intro u hv
  simp only[VR] at hv ⊢
  obtain⟨v,rfl,h2⟩:=hv
  exact⟨v,rfl,ih v h2⟩
 |@slc g e i len z r rows hd hg he hn hz hb hx ih=>
  intro u hv
  simp only[VR] at hv ⊢
  obtain⟨b,o,n,cap,hmu,rfl,hcap,hfit⟩:=hv
  obtain⟨b',o',n',cs,t,q⟩:=h.grp g r hg
  rw[←he,q.mu] at hmu
  cases hmu
  refine⟨_,cap,by rw[hn],by rw[hn];exact hcap,.inr ⟨b,o+i,rfl,qdw hz fun j y hj=>?_⟩⟩
  have hlt:j<len*z:=by
   have:=(List.getElem?_eq_some_iff.1 hj).1
   rwa [qat hz,hn] at this
  have hc:r.cells[i+j]? = some (r.cells[i+j]'(by omega)):=List.getElem?_eq_getElem (by omega)
  obtain⟨v,h1,h2,h3⟩:=q.cell _ _ hc
  refine⟨v,?_,ih j _ y hc hj v h2⟩
  rw[Nat.add_assoc]
  exact hM g r b o n hd hg q.mu _ _ v hc (by rw[qby q.heap];exact h1) h3
 |@vals z rows rows' hn hz hz' hx ih=>
  intro u hv
  simp only[VR] at hv ⊢
  obtain⟨a,cap,rfl,hcap,hin⟩:=hv
  refine⟨a,cap,by rw[hn],by rw[←hn];exact hcap,?_⟩
  rcases hin with h0|⟨b,o,rfl,hin⟩
  ·left;subst h0;exact List.eq_nil_of_length_eq_zero hn.symm
  ·right
   refine⟨b,o,rfl,qdw hz' fun j y hj=>?_⟩
   have hlt:j<rows.flatten.length:=by
    have:=(List.getElem?_eq_some_iff.1 hj).1
    rw[qat hz'] at this
    rw[qat hz,hn];exact this
   obtain⟨v,h1,h2⟩:=VRows.flat hin j _ (List.getElem?_eq_getElem hlt)
   exact⟨v,hG _ _ _ h1,ih j _ y (List.getElem?_eq_getElem hlt) hj v h2⟩
 |@ptr g e i r row hd hg he hb hx ih=>
  intro u hv
  simp only[VR] at hv ⊢
  obtain⟨b,o,n,hmu,rfl⟩:=hv
  obtain⟨b',o',n',cs,t,q⟩:=h.grp g r hg
  rw[←he,q.mu] at hmu
  cases hmu
  refine⟨b,o,rfl,VRow.of_get fun j y hj=>?_⟩
  have hlt:=(List.getElem?_eq_some_iff.1 hj).1
  have hc:r.cells[j]? = some (r.cells[j]'(by omega)):=List.getElem?_eq_getElem (by omega)
  obtain⟨v,h1,h2,h3⟩:=q.cell _ _ hc
  exact⟨v,hM g r b o n hd hg q.mu _ _ v hc (by rw[qby q.heap];exact h1) h3,ih j _ y hc hj v h2⟩
 |@vptr i row row' hl hx ih=>
  intro u hv
  simp only[VR] at hv ⊢
  obtain⟨b,o,rfl,h2⟩:=hv
  refine⟨b,o,rfl,VRow.of_get fun j y hj=>?_⟩
  obtain⟨hlt,-⟩:=List.getElem?_eq_some_iff.1 hj
  obtain⟨v,h3,h4⟩:=h2.get j _ (List.getElem?_eq_getElem (by omega))
  exact⟨v,hG _ _ _ h3,ih j _ y (List.getElem?_eq_getElem (by omega)) hj v h4⟩
 |keepP hk=>
  intro u hv
  simp only[VR] at hv ⊢
  obtain⟨b,o,n,hmu,rfl⟩:=hv
  exact⟨b,o,n,hkp _ _ _ _ hk _ hmu,rfl⟩
 |keepS hk=>
  intro u hv
  simp only[VR] at hv ⊢
  obtain⟨b,o,n,cap,hmu,rfl,h1,h2⟩:=hv
  exact⟨b,o,n,cap,hkp _ _ _ _ hk _ hmu,rfl,h1,h2⟩
 |keepM hk=>
  intro u hv
  simp only[VR] at hv ⊢
  obtain⟨b,hmm,rfl⟩:=hv
  exact⟨b,hkm _ _ hk _ hmm,rfl⟩
def FzE(R:AV→AV→Prop):List (Nat×AV×AV)→List (Nat×AV×AV)→Prop
 |[],l=>l=[]
 |(n,k,x)::es,l=>∃k' x' l',l=(n,k',x')::l'∧R k k'∧R x x'∧FzE R es l'
theorem FzE_ok{R:AV→AV→Prop}{G Gf:Gh}(hR:∀x y,R x y→∀u,VR G x u→VR Gf y u):∀{es es':List (Nat×AV×AV)} {l:List MapEntry},FzE R es es'→ERel G es l→ERel Gf es' l
 |[],es',l,h,he=>by simp only[FzE] at h;subst h;exact he
 |(n,k,x)::es,es',l,h,he=>by
  simp only[FzE] at h
  obtain⟨k',x',l',rfl,h1,h2,h3⟩:=h
  simp only[ERel] at he ⊢
  obtain⟨e,m,rfl,e0,e1,e2,e3⟩:=he
  exact⟨e,m,rfl,e0,hR _ _ h1 _ e1,hR _ _ h2 _ e2,FzE_ok hR h3 e3⟩
theorem FzE.refl{R:AV→AV→Prop}:∀{es:List (Nat×AV×AV)},(∀e∈es,R e.2.1 e.2.1∧R e.2.2 e.2.2)→FzE R es es
 |[],_=>rfl
 |(n,k,x)::es,h=>⟨k,x,es,rfl,(h _ (List.mem_cons_self ..)).1,(h _ (List.mem_cons_self ..)).2,FzE.refl fun e he=>h e (List.mem_cons_of_mem _ he)⟩
def kpR(H H1 H2:AH)(p:Nat→Nat)(g e g' e':Nat):Prop:=(H.gs.get g'≠none∧g=g'∧e=e')∨(H.gs.get g'=none∧g=p g'∧∃r1 r2,H1.gs.get g=some r1∧r1.e=e∧H2.gs.get g'=some r2∧r2.e=e')
def kmR(H2:AH)(q:Nat→Nat)(g g':Nat):Prop:=g=q g'∧H2.ms.get g'≠none
def qes(H2:AH)(p:Nat→Nat)(g:Nat):Prop:=∀g',H2.gs.get g'≠none→p g'≠g
structure Canon(H H1:AH)(x1:AV)(H2:AH)(x2:AV)(p q:Nat→Nat):Prop where
 oldg:∀g,H.gs.get g≠none→p g=g∧H2.gs.get g≠none
 grp:∀g r2,H2.gs.get g=some r2→∃r1,H1.gs.get (p g)=some r1∧r1.fz≤r2.fz∧(H.gs.get g≠none→r2.e=r1.e)∧∀(i:Nat) y,r2.cells[i]? = some y→∃x,r1.cells[i]? = some x∧FzR H1 (kpR H H1 H2 p) (kmR H2 q) (qes H2 p) x y
 inj:∀g g',H2.gs.get g≠none→H2.gs.get g'≠none→p g=p g'→g=g'
 oldm:∀g,H.ms.get g≠none→q g=g∧H2.ms.get g≠none
 map:∀g es2,H2.ms.get g=some es2→∃es1,H1.ms.get (q g)=some es1∧es2.1=es1.1∧FzE (FzR H1 (kpR H H1 H2 p) (kmR H2 q) (qes H2 p)) es1.2 es2.2
 injm:∀g g',H2.ms.get g≠none→H2.ms.get g'≠none→q g=q g'→g=g'
 res:FzR H1 (kpR H H1 H2 p) (kmR H2 q) (qes H2 p) x1 x2
open Classical in
theorem Canon.rel{K:Kx}{G G1:Gh}{H H1 H2:AH}{w w':World}{x1 x2:AV}{u:Value}{p q:Nat→Nat}(c:Canon H H1 x1 H2 x2 p q)(hr:HRel K G H w)(hle:G.le G1)(h1:HRel K G1 H1 w')(hv:VR G1 x1 u) :
  ∃G2,G.le G2∧HRel K G2 H2 w'∧VR G2 x2 u:=by
 have hall:=qjk w' h1.glob
 let kept:Nat→Prop:=fun b=>∃g r1 o n,H2.gs.get g≠none∧H1.gs.get (p g)=some r1∧G1.mu (p g) r1.e=some (b,o,n)
 let G2 : Gh:=⟨fun b o=>if K.B ≤ b ∧ ¬kept b then (allG w').M b o else G1.M b o,
  fun g e=>if H.gs.get g≠none then G1.mu g e else match H2.gs.get g with
   |some r2=>if e=r2.e then (match H1.gs.get (p g) with|some r1=>G1.mu (p g) r1.e|none=>none) else none
   |none=>none,
  fun g=>if H2.ms.get g ≠ none then G1.mm (q g) else none⟩
 have hM:∀b o v,G1.M b o=some v→G2.M b o=some v:=by
  intro b o v hv
  show (if _ then _ else _)=_
  split
  ·exact qco (h1.mem b o v hv) (h1.ones b o v hv)
  ·exact hv
 have mu_old:∀g e,H.gs.get g≠none→G2.mu g e=G1.mu g e:=fun g e hg=>by
  show (if _ then _ else _)=_
  rw[if_pos hg]
 have mu_new:∀g r2 r1,H.gs.get g=none→H2.gs.get g=some r2→H1.gs.get (p g)=some r1→G2.mu g r2.e=G1.mu (p g) r1.e:=fun g r2 r1 hg k2 k1=>by
  show (if _ then _ else _)=_
  rw[if_neg (by simp[hg]),k2]
  simp only[k1,if_true]
 have hmm:∀g,H2.ms.get g≠none→G2.mm g=G1.mm (q g):=fun g hg=>by
  show (if _ then _ else _)=_
  rw[if_pos hg]
 have hok:∀x y,FzR H1 (kpR H H1 H2 p) (kmR H2 q) (qes H2 p) x y→∀u,VR G1 x u→VR G2 y u:=fun x y hf=>by
  refine FzR_ok h1 ?_ hM ?_ ?_ hf
  ·intro g r b o n hd hg hmu j x v hj hc ho
   obtain⟨b',o',n',cs,t,a⟩:=h1.grp g r hg
   rw[a.mu] at hmu
   cases hmu
   have hk:¬kept b:=by
    rintro⟨g',r1,o2,n2,k1,k2,k3⟩
    exact h1.apart (p g') g r1 r _ _ _ _ _ _ k2 hg (hd g' k1) k3 a.mu rfl
   show (if _ then _ else _)=_
   rw[if_pos ⟨a.low,hk⟩]
   exact qco hc ho
  ·intro g e g' e' hk x hx
   rcases hk with⟨k1,rfl,rfl⟩|⟨k1,rfl,r1,r2,k2,rfl,k3,rfl⟩
   ·rw[mu_old _ _ k1];exact hx
   ·rw[mu_new g' r2 r1 k1 k3 k2];exact hx
  ·rintro g g' ⟨rfl,k⟩ x hx
   rw[hmm g' k];exact hx
 have hle2:G.le G2:=by
  refine⟨fun b o v hv=>hM b o v (hle.M b o v hv),fun g e x hx=>?_,fun g x hx=>?_⟩
  ·have:H.gs.get g≠none:=fun hn=>by rw[hr.fresh g hn] at hx;cases hx
   rw[mu_old g e this];exact hle.mu g e x hx
  ·have:H.ms.get g≠none:=fun hn=>by rw[hr.mfresh g hn] at hx;cases hx
   rw[hmm g (c.oldm g this).2,(c.oldm g this).1];exact hle.mm g x hx
 have hgrp:∀g r2,H2.gs.get g=some r2→∃r1 b o n cs t,H1.gs.get (p g)=some r1∧GrpAt K G1 w' (p g) r1 b o n cs t∧G2.mu g r2.e=some (b,o,n)∧GrpAt K G2 w' g r2 b o n cs t:=by
  intro g r2 hg
  obtain⟨r1,k1,k2,k3,k4⟩:=c.grp g r2 hg
  obtain⟨b,o,n,cs,t,a⟩:=h1.grp _ r1 k1
  have hmu:G2.mu g r2.e=some (b,o,n):=by
   by_cases ho:H.gs.get g=none
   ·rw[mu_new g r2 r1 ho hg k1];exact a.mu
   ·have:=(c.oldg g ho).1
    rw[mu_old g _ ho,k3 ho]
    rw[this] at a;exact a.mu
  refine⟨r1,b,o,n,cs,t,k1,a,hmu,hmu,a.low,a.heap,a.size,fun i y hi=>?_,fun j hj=>?_⟩
  ·obtain⟨x,m1,m2⟩:=k4 i y hi
   obtain⟨v,n1,n2,n3⟩:=a.cell i x m1
   exact⟨v,n1,hok _ _ m2 _ n2,n3⟩
  ·show (if _ then _ else _)=_
   rw[if_neg (fun hc=>hc.2 ⟨g,r1,o,n,by rw[hg];simp,k1,a.mu⟩)]
   exact a.free j (by omega)
 refine⟨G2,hle2,⟨h1.below,h1.hB,?_,?_,?_,?_,?_,?_,?_,?_,?_,?_⟩,hok _ _ c.res _ hv⟩
 ·intro b o v hv
  have hv:(if K.B≤b∧¬kept b then (allG w').M b o else G1.M b o)=some v:=hv
  split at hv
  ·exact hall.mem b o v hv
  ·exact h1.mem b o v hv
 ·intro b o v hv
  have hv:(if K.B≤b∧¬kept b then (allG w').M b o else G1.M b o)=some v:=hv
  split at hv
  ·exact hall.ones b o v hv
  ·exact h1.ones b o v hv
 ·intro b o hb
  show (if _ then _ else _)=_
  rw[if_neg (by omega)]
  exact h1.old b o hb
 ·intro g r2 hg
  obtain⟨r1,b,o,n,cs,t,-,-,-,a⟩:=hgrp g r2 hg
  exact⟨b,o,n,cs,t,a⟩
 ·intro g g' r r' b o n b' o' n' e1 e2 hne m1 m2
  obtain⟨s1,b1,o1,n1,c1,t1,k1,a1,j1,-⟩:=hgrp g r e1
  obtain⟨s2,b2,o2,n2,c2,t2,k2,a2,j2,-⟩:=hgrp g' r' e2
  rw[j1] at m1
  rw[j2] at m2
  cases m1;cases m2
  exact h1.apart (p g) (p g') s1 s2 _ _ _ _ _ _ k1 k2 (fun hp=>hne (c.inj g g' (by rw[e1];simp) (by rw[e2];simp) hp)) a1.mu a2.mu
 ·intro g hg e
  have ho:H.gs.get g=none:=by
   cases hh:H.gs.get g with
   |none=>rfl
   |some r=>exact absurd hg (c.oldg g (by rw[hh];simp)).2
  show (if _ then _ else _)=_
  rw[if_neg (by simp[ho]),hg]
 ·intro g es2 hg
  obtain⟨es1,k1,k2,k3⟩:=c.map g es2 hg
  obtain⟨b,l,cl,a⟩:=h1.maps _ es1 k1
  exact⟨b,l,cl,by rw[hmm g (by rw[hg];simp)];exact a.mm,a.low,a.heap,FzE_ok hok k3 a.ents,by rw[k2];exact a.clock⟩
 ·intro g g' es es' b b' e1 e2 hne m1 m2
  obtain⟨s1,k1,-,-⟩:=c.map g es e1
  obtain⟨s2,k2,-,-⟩:=c.map g' es' e2
  rw[hmm g (by rw[e1];simp)] at m1
  rw[hmm g' (by rw[e2];simp)] at m2
  exact h1.mapart (q g) (q g') s1 s2 b b' k1 k2 (fun hp=>hne (c.injm g g' (by rw[e1];simp) (by rw[e2];simp) hp)) m1 m2
 ·intro g hg
  show (if _ then _ else _)=_
  rw[if_neg (by simp[hg])]
 ·intro g r2 e hg hlt
  obtain⟨r1,k1,k2,k3,-⟩:=c.grp g r2 hg
  by_cases ho:H.gs.get g=none
  ·show (if _ then _ else _)=_
   rw[if_neg (by simp[ho]),hg]
   simp only
   rw[if_neg (by omega)]
  ·rw[mu_old g e ho]
   refine h1.ages g r1 e (by rw[←(c.oldg g ho).1];rw[(c.oldg g ho).1] at k1 ⊢;exact k1) (by rw[←k3 ho];exact hlt)
theorem ACalls.canon{P:Program}{f:FuncId}{args:List AV}{H H1 H2:AH}{x1 x2:AV}{p q:Nat→Nat}(h:ACalls P f args H fun y H'=>y=x1∧H'=H1)(c:Canon H H1 x1 H2 x2 p q):ACalls P f args H fun y H'=>y=x2∧H'=H2:=by
 intro K G vs w hr hv
 refine (h K G vs w hr hv).mono fun e w' ⟨u,x,G1,H',k1,k2,k3,k4,k5,k6⟩=>?_
 subst k5;subst k6
 obtain⟨G2,m1,m2,m3⟩:=c.rel hr k2 k3 k4
 exact⟨u,x2,G2,H2,k1,m1,m2,m3,rfl,rfl⟩
end
section
open Go Go.RowKit
section
variable (S M:Nat→Prop)
mutual
def qd7:AV→Prop
 |.ptr g _ _=>S g
 |.slc g _ _ _ _=>S g
 |.mapp g=>M g
 |.vptr row _=>qx6 row
 |.vals z rows=>(∀r∈rows,r.length=z)∧refR rows
 |.fn _ cap=>qx6 cap
 |.iface _ v=>qd7 v
 |.agg cs=>qx6 cs
 |.tup cs=>qx6 cs
 |_=>True
def qx6:List AV→Prop
 |[]=>True
 |x::xs=>qd7 x∧qx6 xs
def refR:List (List AV)→Prop
 |[]=>True
 |r::rs=>qx6 r∧refR rs
end
end
section
variable {S M:Nat→Prop} {G:Gh} (hmu:∀g e y,G.mu g e=some y→S g) (hmm:∀g y,G.mm g=some y→M g)
include hmu hmm
set_option linter.unusedSectionVars false
mutual
theorem qj2:∀(x:AV) (u:Value),VR G x u→qd7 S M x
 |.bool b,u,hv=>by simp only[qd7]
 |.int k n,u,hv=>by simp only[qd7]
 |.str s,u,hv=>by simp only[qd7]
 |.nilp,u,hv=>by simp only[qd7]
 |.nils,u,hv=>by simp only[qd7]
 |.zslc,u,hv=>by simp only[qd7]
 |.nilf,u,hv=>by simp only[qd7]
 |.nili,u,hv=>by simp only[qd7]
 |.nilm,u,hv=>by simp only[qd7]
 |.und,u,hv=>by simp only[qd7]
 |.ptr ..,u,hv=>by simp only[VR,qd7] at hv ⊢;obtain⟨b,o,n,h1,_⟩:=hv;exact hmu _ _ _ h1
 |.slc ..,u,hv=>by simp only[VR,qd7] at hv ⊢;obtain⟨b,o,n,c,h1,_⟩:=hv;exact hmu _ _ _ h1
 |.mapp _,u,hv=>by simp only[VR,qd7] at hv ⊢;obtain⟨b,h1,_⟩:=hv;exact hmm _ _ h1
 |.vptr row i,u,hv=>by
  simp only[VR,qd7] at hv ⊢
  obtain⟨b,o,h1,h2⟩:=hv
  exact qvl row b o h2
 |.vals z rows,u,hv=>by
  simp only[VR,qd7] at hv ⊢
  obtain⟨a,cap,h1,h0,h2⟩:=hv
  rcases h2 with rfl|⟨b,o,h2,h3⟩
  ·exact⟨by simp,by simp only[refR]⟩
  ·exact qx5 z rows b o h3
 |.fn f cap,u,hv=>by
  simp only[VR,qd7] at hv ⊢
  obtain⟨cs,h1,h2⟩:=hv
  exact qqd cap _ h2
 |.iface t x,u,hv=>by
  simp only[VR,qd7] at hv ⊢
  obtain⟨v,h1,h2⟩:=hv
  exact qj2 x v h2
 |.agg cs,u,hv=>by
  simp only[VR,qd7] at hv ⊢
  obtain⟨us,h1,h2⟩:=hv
  exact qqd cs _ h2
 |.tup cs,u,hv=>by
  simp only[VR,qd7] at hv ⊢
  obtain⟨us,h1,h2⟩:=hv
  exact qqd cs _ h2
theorem qqd:∀(xs:List AV) (us:List Value),VRs G xs us→qx6 S M xs
 |[],us,hv=>by simp only[qx6]
 |x::xs,us,hv=>by
  simp only[VRs,qx6] at hv ⊢
  obtain⟨u,us',h1,h2,h3⟩:=hv
  exact⟨qj2 x u h2,qqd xs us' h3⟩
theorem qvl:∀(xs:List AV) (b o:Nat),VRow G xs b o→qx6 S M xs
 |[],b,o,hv=>by simp only[qx6]
 |x::xs,b,o,hv=>by
  simp only[VRow,qx6] at hv ⊢
  obtain⟨⟨u,h1,h2⟩,h3⟩:=hv
  exact⟨qj2 x u h2,qvl xs b (o+1) h3⟩
theorem qx5(z:Nat):∀(rs:List (List AV)) (b o:Nat),VRows G z rs b o→(∀r∈rs,r.length=z)∧refR S M rs
 |[],b,o,hv=>by simp only[refR];simp
 |r::rs,b,o,hv=>by
  simp only[VRows,refR] at hv ⊢
  obtain⟨h1,h2,h3⟩:=hv
  obtain⟨k1,k2⟩:=qx5 z rs b (o+z) h3
  exact⟨by simp[h1];exact fun a ha=>k1 a ha,qvl r b o h2,k2⟩
end
end
section
variable {S M:Nat→Prop} {H:AH} {kp:Nat→Nat→Nat→Nat→Prop} {km:Nat→Nat→Prop} {dead:Nat→Prop} (hk:∀g e,S g→kp g e g e) (hm:∀g,M g→km g g)
include hk hm
set_option linter.unusedSectionVars false
mutual
theorem FzR.refl:∀(x:AV),qd7 S M x→FzR H kp km dead x x
 |.bool b,h=>.pure rfl
 |.int k n,h=>.pure rfl
 |.str s,h=>.pure rfl
 |.nilp,h=>.pure rfl
 |.nils,h=>.pure rfl
 |.zslc,h=>.pure rfl
 |.nilf,h=>.pure rfl
 |.nili,h=>.pure rfl
 |.nilm,h=>.pure rfl
 |.und,h=>.und
 |.ptr g e i,h=>.keepP (hk _ _ (by simpa only[qd7] using h))
 |.slc g e i len z,h=>.keepS (hk _ _ (by simpa only[qd7] using h))
 |.mapp g,h=>.keepM (hm _ (by simpa only[qd7] using h))
 |.vptr row i,h=>.vptr rfl fun j x y h1 h2=>by
  rw[h1] at h2;cases h2
  exact FzR.reflL row (by simpa only[qd7] using h) x (List.mem_of_getElem? h1)
 |.vals z rows,h=>by
  simp only[qd7] at h
  refine .vals rfl h.1 h.1 fun j x y h1 h2=>?_
  rw[h1] at h2;cases h2
  exact FzR.reflR rows h.2 x (List.mem_of_getElem? h1)
 |.fn f cap,h=>.fn rfl fun j x y h1 h2=>by
  rw[h1] at h2;cases h2
  exact FzR.reflL cap (by simpa only[qd7] using h) x (List.mem_of_getElem? h1)
 |.iface t v,h=>.iface (FzR.refl v (by simpa only[qd7] using h))
 |.agg cs,h=>.agg rfl fun j x y h1 h2=>by
  rw[h1] at h2;cases h2
  exact FzR.reflL cs (by simpa only[qd7] using h) x (List.mem_of_getElem? h1)
 |.tup cs,h=>.tup rfl fun j x y h1 h2=>by
  rw[h1] at h2;cases h2
  exact FzR.reflL cs (by simpa only[qd7] using h) x (List.mem_of_getElem? h1)
theorem FzR.reflL:∀(xs:List AV),qx6 S M xs→∀x∈xs,FzR H kp km dead x x
 |[],h=>by simp
 |x::xs,h=>by
  simp only[qx6] at h
  have h1:=FzR.refl x h.1
  have h2:=FzR.reflL xs h.2
  intro y hy
  rcases List.mem_cons.1 hy with rfl|hy
  ·exact h1
  ·exact h2 y hy
theorem FzR.reflR:∀(rs:List (List AV)),refR S M rs→∀x∈rs.flatten,FzR H kp km dead x x
 |[],h=>by simp
 |r::rs,h=>by
  simp only[refR] at h
  have h1:=FzR.reflL r h.1
  have h2:=FzR.reflR rs h.2
  intro y hy
  rw[List.flatten_cons,List.mem_append] at hy
  rcases hy with hy|hy
  ·exact h1 y hy
  ·exact h2 y hy
end
end
structure ClosedH(H:AH):Prop where
 cell:∀g r (i:Nat) x,H.gs.get g=some r→r.cells[i]? = some x→qd7 (fun g=>H.gs.get g≠none) (fun g=>H.ms.get g≠none) x
 ent:∀g es,H.ms.get g=some es→∀e∈es.2,qd7 (fun g=>H.gs.get g≠none) (fun g=>H.ms.get g≠none) e.2.1∧qd7 (fun g=>H.gs.get g≠none) (fun g=>H.ms.get g≠none) e.2.2
theorem ERel.refs{G:Gh}{S M:Nat→Prop}(hmu:∀g e y,G.mu g e=some y→S g)(hmm:∀g y,G.mm g=some y→M g):∀{es:List (Nat×AV×AV)} {l:List MapEntry},ERel G es l→∀e∈es,qd7 S M e.2.1∧qd7 S M e.2.2
 |[],l,h,e,he=>by cases he
 |(n,k,x)::es,l,h,e,he=>by
  simp only[ERel] at h
  obtain⟨m,ms,rfl,h0,h1,h2,h3⟩:=h
  rcases List.mem_cons.1 he with rfl|he
  ·exact⟨qj2 hmu hmm _ _ h1,qj2 hmu hmm _ _ h2⟩
  ·exact ERel.refs hmu hmm h3 e he
theorem HRel.closed{K:Kx}{G:Gh}{H:AH}{w:World}(h:HRel K G H w):ClosedH H:=by
 have hmu:∀g e y,G.mu g e=some y→H.gs.get g≠none:=fun g e y hy hn=>by rw[h.fresh g hn e] at hy;cases hy
 have hmm:∀g y,G.mm g=some y→H.ms.get g≠none:=fun g y hy hn=>by rw[h.mfresh g hn] at hy;cases hy
 refine⟨fun g r i x hg hx=>?_,fun g es hg e he=>?_⟩
 ·obtain⟨b,o,n,cs,t,q⟩:=h.grp g r hg
  obtain⟨u,_,h2,_⟩:=q.cell i x hx
  exact qj2 hmu hmm x u h2
 ·obtain⟨b,l,c,q⟩:=h.maps g es hg
  exact ERel.refs hmu hmm q.ents e he
end
section
open Go Go.RowKit
namespace Tr
def dep{α:Type}:Tr α→Nat
 |.nil=>0
 |.node a b c d _=>1+(dep a+dep b+dep c+dep d)
theorem qgs{α:Type}:∀(t:Tr α) (p:Pth),dep t≤p.length→t.getP p=none
 |.nil,p,h=>by simp[getP]
 |.node a b c d v,[],h=>by simp[dep] at h
 |.node a b c d v,q::p,h=>by
  simp only[dep,List.length_cons] at h
  cases q
  ·exact qgs a p (by omega)
  ·exact qgs b p (by omega)
  ·exact qgs c p (by omega)
  ·exact qgs d p (by omega)
def bnd:Nat→Nat
 |0=>0
 |d+1=>4*bnd d+1
theorem qs5:∀(d k n:Nat),bnd d≤n→n<k→d≤(pathF k n).length
 |0,k,n,h,hk=>by omega
 |d+1,0,n,h,hk=>by omega
 |d+1,k+1,n,h,hk=>by
  simp only[bnd] at h
  have hn:Nat.beq n 0=false:=by
   cases hb:Nat.beq n 0 with
   |false=>rfl
   |true=>have:=Nat.eq_of_beq_eq_true hb;omega
  have:=qs5 d k ((n-1)/4) (by omega) (by omega)
  simp only[pathF,hn,cond_false,List.length_cons]
  omega
theorem far{α:Type}(t:Tr α):∃N,∀n,N≤n→t.get n=none:=
 ⟨bnd (dep t),fun n hn=>qgs t _ (qs5 _ _ n hn (Nat.lt_succ_self n))⟩
end Tr
def Comes(r:Option (AV×AH))(H:AH)(x2:AV)(H2:AH):Prop:=∃x1 H1 p q,r=some (x1,H1)∧Canon H H1 x1 H2 x2 p q
theorem qal{r r':Option (AV×AH)}{H:AH}{x2:AV}{H2:AH}(h:r=r'):Comes r H x2 H2=Comes r' H x2 H2:=by rw[h]
theorem Comes.some{x1 x2:AV}{H H1 H2:AH}{p q:Nat→Nat}(c:Canon H H1 x1 H2 x2 p q):Comes (some (x1,H1)) H x2 H2:=⟨x1,H1,p,q,rfl,c⟩
theorem ACalls.onCall{P:Program}{call:qar}(c1:qcp P call)(c2:qaw call)(hm:P.follows .mixedOrders=true){f:FuncId}(hD:qwg P f=true){y:YF}(hy:qbp P (fun _=>true) f=some y.er)
  {args:List AV} (hb:Nat.ble args.length y.nt=true) (F:Nat) {H H2:AH} {x2:AV}
  (h:∀N,(∀n,N≤n→H.gs.get n=none∧H.ms.get n=none)→ClosedH H→Comes (yend y.res (ycode call F y.body (xinit args 0 .nil) ⟨N,H.gs,H.ms⟩)) H x2 H2):ACalls P f args H fun y' H'=>y'=x2∧H'=H2:=by
 intro K G vs w hr hv
 obtain⟨N1,h1⟩:=H.gs.far
 obtain⟨N2,h2⟩:=H.ms.far
 obtain⟨x1,H1,p,q,k1,k2⟩:=h (N1+N2) (fun n hn=>⟨h1 n (by omega),h2 n (by omega)⟩) hr.closed
 have A:=(qpl c1 c2 hm hD hy hb k1).2
 have k2':Canon ⟨N1+N2,H.gs,H.ms⟩ H1 x1 H2 x2 p q:=⟨k2.oldg,k2.grp,k2.inj,k2.oldm,k2.map,k2.injm,k2.res⟩
 exact (A.canon k2') K G vs w (hr.next _) hv
theorem ACalls.onRun{P:Program}{l:List (FuncId×(List AV→AH→Option (AV×AH)))}(hl:∀e∈l,HookOne P e.1 e.2)(hm:P.follows .mixedOrders=true){f:FuncId}(hD:qwg P f=true){y:YF}(hy:qbp P (fun _=>true) f=some y.er)
  {args:List AV} (hb:Nat.ble args.length y.nt=true) (F:Nat) {H H2:AH} {x2:AV}
  (h:∀N,(∀n,N≤n→H.gs.get n=none∧H.ms.get n=none)→ClosedH H→Comes (yend y.res (ycode (tcall l) F y.body (xinit args 0 .nil) ⟨N,H.gs,H.ms⟩)) H x2 H2):ACalls P f args H fun y' H'=>y'=x2∧H'=H2:=
 ACalls.onCall (qlj hl).1 (qlj hl).2 hm hD hy hb F h
theorem Canon.same{H H1:AH}{x1 x2:AV}(hc:ClosedH H)(hg:∀g r,H.gs.get g=some r→H1.gs.get g=some r)(hm:∀g r,H.ms.get g=some r→H1.ms.get g=some r)(hx:FzR H1 (kpR H H1 H id) (kmR H id) (qes H id) x1 x2):Canon H H1 x1 H x2 id id:=by
 have hS:∀g e,H.gs.get g≠none→kpR H H1 H id g e g e:=fun g e h=>.inl ⟨h,rfl,rfl⟩
 have hM:∀g,H.ms.get g≠none→kmR H id g g:=fun g h=>⟨rfl,h⟩
 refine⟨fun g h=>⟨rfl,h⟩,fun g r2 h=>⟨r2,hg g r2 h,Nat.le_refl _,fun _=>rfl,fun i y hy=>⟨y,hy,FzR.refl hS hM y (hc.cell g r2 i y h hy)⟩⟩,fun g g' _ _ h=>h,fun g h=>⟨rfl,h⟩,fun g es2 h=>⟨es2,hm g es2 h,rfl,?_⟩,fun g g' _ _ h=>h,hx⟩
 exact FzE.refl fun e he=>⟨FzR.refl hS hM _ (hc.ent g es2 h e he).1,FzR.refl hS hM _ (hc.ent g es2 h e he).2⟩
theorem Canon.pure{H H1:AH}{x:AV}(hc:ClosedH H)(hg:∀g r,H.gs.get g=some r→H1.gs.get g=some r)(hm:∀g r,H.ms.get g=some r→H1.ms.get g=some r)(hx:qba x=true):Canon H H1 x H x id id:=Canon.same hc hg hm (.pure hx)
end
section
open Go Go.RowKit
noncomputable def icall(ys:List (FuncId×YF))(l:List (FuncId×(List AV→AH→Option (AV×AH))))(F n:Nat):qar:=
 qk6 (fun f=>(ys.find? fun e=>Nat.beq f e.1).map fun e=>qvf e.2.er) (qbw l) F n
theorem qey{P:Program}{ys:List (FuncId×YF)}{l:List (FuncId×(List AV→AH→Option (AV×AH)))}(hm:P.follows .mixedOrders=true)(hD:∀f,qwg P f=true)(hy:∀e∈ys,qbp P (fun _=>true) e.1=some e.2.er)(hl:∀e∈l,HookOne P e.1 e.2)(F n:Nat) :
  qcp P (icall ys l F n)∧qaw (icall ys l F n):=by
 obtain⟨h1,h2⟩:=qc4 hl
 have hs:∀f m,((ys.find? fun e=>Nat.beq f e.1).map fun e=>qvf e.2.er)=some m→SpOK P f m:=by
  intro f m h
  rw[Option.map_eq_some_iff] at h
  obtain⟨e,he,rfl⟩:=h
  have h3:=List.mem_of_find?_eq_some he
  have h4:=List.find?_some he
  have h5:f=e.1:=Nat.eq_of_beq_eq_true h4
  subst h5
  exact SpOK.text (FnOK.plain hm (hD e.1) (hy e h3))
 exact⟨qzu hs h1 h2 n,qid hs h2 n⟩
theorem qbn{ys:List (FuncId×YF)}{l:List (FuncId×(List AV→AH→Option (AV×AH)))}{F n:Nat}{f:FuncId}{y:YF}(hh:qbw l f=none)(hf:(ys.find? fun e=>Nat.beq f e.1)=some (f,y)){args:List AV}(hb:Nat.ble args.length y.nt=true){H:AH}{r:AV×AH}
  (h:yend y.res (ycode (icall ys l F n) F y.body (xinit args 0 .nil) H)=some r):icall ys l F (n+1) f args H=some r:=by
 unfold icall
 simp only[qk6,hh,hf,Option.map_some]
 unfold qvf
 have:y.er.nt=y.nt:=rfl
 rw[this,hb]
 exact qrz h
theorem qay{ys:List (FuncId×YF)}{l:List (FuncId×(List AV→AH→Option (AV×AH)))}{F n:Nat}{f:FuncId}{k:List AV→AH→Option (AV×AH)}(hh:qbw l f=some k)(args:List AV)(H:AH):icall ys l F (n+1) f args H=k args H:=by
 unfold icall
 simp only[qk6,hh]
end
section
open Go Go.RowKit
noncomputable def qeh(R:List AV→AH→AV→AH→Prop)(args:List AV)(H:AH):Option (AV×AH):=@dite _ (∃p:AV×AH,R args H p.1 p.2) (Classical.propDecidable _) (fun h=>some h.choose) fun _=>none
def OneR(R:List AV→AH→AV→AH→Prop):Prop:=∀a H y H' y2 H2,R a H y H'→R a H y2 H2→y=y2∧H'=H2
theorem q4h{R:List AV→AH→AV→AH→Prop}{args:List AV}{H H':AH}{y:AV}(h:qeh R args H=some (y,H')):R args H y H':=by
 unfold qeh at h
 split at h
 ·rename_i hx
  have hs:=hx.choose_spec
  injection h with h
  rw[h] at hs
  exact hs
 ·cases h
theorem qfp{R:List AV→AH→AV→AH→Prop}(hu:OneR R){args:List AV}{H H':AH}{y:AV}(h:R args H y H'):qeh R args H=some (y,H'):=by
 have hx:∃p:AV×AH,R args H p.1 p.2:=⟨(y,H'),h⟩
 unfold qeh
 rw[dif_pos hx]
 obtain⟨e1,e2⟩:=hu _ _ _ _ _ _ hx.choose_spec h
 exact congrArg some (Prod.ext e1 e2)
theorem HookOne.ofRel{P:Program}{f:FuncId}{R:List AV→AH→AV→AH→Prop}(hb:qa3 P f=true)(hu:OneR R)(h:∀args H y H',R args H y H'→ACalls P f args H fun y1 H1=>y1=y∧H1=H')
  (hf:∀args H y H',R args H y H'→Grows H H'∧∀X H2,Ext X H H2→Apart X H'→∃H2',R args H2 y H2'∧Ext X H' H2'):HookOne P f (qeh R):=by
 refine⟨hb,fun args H x H' hx=>h _ _ _ _ (q4h hx),fun args H x H' hx=>?_⟩
 obtain⟨h1,h2⟩:=hf _ _ _ _ (q4h hx)
 refine⟨h1,fun X H2 he ha=>?_⟩
 obtain⟨H2',h3,h4⟩:=h2 X H2 he ha
 exact⟨H2',qfp hu h3,h4⟩
def qe3(Q:List AV→AH→AV→Prop)(args:List AV)(H:AH)(y:AV)(H':AH):Prop:=Q args H y∧H'=H
theorem qsw{Q:List AV→AH→AV→Prop}(hu:∀a H y y2,Q a H y→Q a H y2→y=y2):OneR (qe3 Q):=fun a H y H' y2 H2 h k=>⟨hu _ _ _ _ h.1 k.1,h.2.trans k.2.symm⟩
theorem HookOne.ofReadR{P:Program}{f:FuncId}{Q:List AV→AH→AV→Prop}(hb:qa3 P f=true)(hu:∀a H y y2,Q a H y→Q a H y2→y=y2)(h:∀args H y,Q args H y→ACalls P f args H fun y1 H1=>y1=y∧H1=H)
  (hx:∀args H y X H2,Q args H y→Ext X H H2→Apart X H→Q args H2 y):HookOne P f (qeh (qe3 Q)):=by
 refine HookOne.ofRel hb (qsw hu) (fun args H y H' hq=>?_) fun args H y H' hq=>?_
 ·obtain⟨h1,rfl⟩:=hq
  exact h _ _ _ h1
 ·obtain⟨h1,rfl⟩:=hq
  exact⟨Grows.refl _,fun X H2 he ha=>⟨H2,⟨hx _ _ _ _ _ h1 he ha,rfl⟩,he⟩⟩
theorem qhe{Q:List AV→AH→AV→Prop}(hu:∀a H y y2,Q a H y→Q a H y2→y=y2){args:List AV}{H:AH}{y:AV}(h:Q args H y):qeh (qe3 Q) args H=some (y,H):=qfp (qsw hu) ⟨h,rfl⟩
theorem Canon.upd{H H1 H2:AH}{x1 x2:AV}(hc:ClosedH H)(hd:∀g,H2.gs.get g≠none↔H.gs.get g≠none)(hdm:∀g,H2.ms.get g≠none↔H.ms.get g≠none)
  (hg:∀g r2,H2.gs.get g=some r2→H1.gs.get g=some r2∧∀x∈r2.cells,qd7 (fun g=>H.gs.get g≠none) (fun g=>H.ms.get g≠none) x)
  (hm:∀g es2,H2.ms.get g=some es2→∃es1,H1.ms.get g=some es1∧es2.1=es1.1∧FzE (FzR H1 (kpR H H1 H2 id) (kmR H2 id) (qes H2 id)) es1.2 es2.2)
  (hx:FzR H1 (kpR H H1 H2 id) (kmR H2 id) (qes H2 id) x1 x2):Canon H H1 x1 H2 x2 id id:=by
 have hS:∀g e,H.gs.get g≠none→kpR H H1 H2 id g e g e:=fun g e h=>.inl ⟨h,rfl,rfl⟩
 have hM:∀g,H.ms.get g≠none→kmR H2 id g g:=fun g h=>⟨rfl,(hdm g).2 h⟩
 refine⟨fun g h=>⟨rfl,(hd g).2 h⟩,fun g r2 h=>?_,fun g g' _ _ h=>h,fun g h=>⟨rfl,(hdm g).2 h⟩,hm,fun g g' _ _ h=>h,hx⟩
 obtain⟨k1,k2⟩:=hg g r2 h
 exact⟨r2,k1,Nat.le_refl _,fun _=>rfl,fun i y hy=>⟨y,hy,FzR.refl hS hM y (k2 y (List.mem_of_getElem? hy))⟩⟩
theorem Canon.refl{H H1 H2:AH}(hdm:∀g,H2.ms.get g≠none↔H.ms.get g≠none){x:AV}(hx:qd7 (fun g=>H.gs.get g≠none) (fun g=>H.ms.get g≠none) x):FzR H1 (kpR H H1 H2 id) (kmR H2 id) (qes H2 id) x x:=
 FzR.refl (S:=fun g=>H.gs.get g≠none) (M:=fun g=>H.ms.get g≠none) (fun g e h=>.inl ⟨h,rfl,rfl⟩) (fun g h=>⟨rfl,(hdm g).2 h⟩) x hx
inductive All2(R:AV→AV→Prop):List AV→List AV→Prop
 |nil:All2 R [] []
 |cons {x y:AV} {xs ys:List AV} (h:R x y) (t:All2 R xs ys):All2 R (x::xs) (y::ys)
theorem All2.len{R:AV→AV→Prop}{xs ys:List AV}(h:All2 R xs ys):xs.length=ys.length:=by
 induction h with
 |nil=>rfl
 |cons _ _ ih=>simp[ih]
theorem All2.get{R:AV→AV→Prop}{xs ys:List AV}(h:All2 R xs ys):∀(i:Nat) x y,xs[i]? = some x→ys[i]? = some y→R x y:=by
 induction h with
 |nil=>intro i x y h;simp at h
 |cons hr _ ih=>
  intro i x y h1 h2
  cases i with
  |zero=>simp at h1 h2;subst h1;subst h2;exact hr
  |succ i=>exact ih i x y (by simpa using h1) (by simpa using h2)
theorem FzR.ofTup{H:AH}{kp:Nat→Nat→Nat→Nat→Prop}{km:Nat→Nat→Prop}{dead:Nat→Prop}{xs ys:List AV}(h:All2 (FzR H kp km dead) xs ys):FzR H kp km dead (.tup xs) (.tup ys):=.tup h.len h.get
theorem FzR.ofAgg{H:AH}{kp:Nat→Nat→Nat→Nat→Prop}{km:Nat→Nat→Prop}{dead:Nat→Prop}{xs ys:List AV}(h:All2 (FzR H kp km dead) xs ys):FzR H kp km dead (.agg xs) (.agg ys):=.agg h.len h.get
end
section
open Go Go.RowKit
section
variable {K V:Type} [DecidableEq K] (kE:K→AV) (vE:V→AV)
def qcb(m:List (Nat×K×V)):List (Nat×AV×AV):=m.map fun e=>(e.1,kE e.2.1,vE e.2.2)
def qbz(k:K)(m:List (Nat×K×V)):Option V:=(m.find? fun e=>decide (k=e.2.1)).map (·.2.2)
def qbc(k:K)(v:V)(c:Nat):List (Nat×K×V)→Nat×List (Nat×K×V)
 |[]=>(c+1,[(c,k,v)])
 |e::m=>if k=e.2.1 then (c,(e.1,k,v)::m) else ((qbc k v c m).1,e::(qbc k v c m).2)
variable {kE vE}
variable (hc:∀a b,mcmp (kE a) (kE b)=some (decide (a=b)))
include hc
theorem q6t(k:K):∀m:List (Nat×K×V),∃b,mfind (kE k) (qcb kE vE m)=some ((qbz k m).map fun v=>(b,vE v))
 |[]=>⟨0,rfl⟩
 |e::m=>by
  obtain⟨n,k',v⟩:=e
  obtain⟨b,ih⟩:=q6t k m
  show ∃b,mfind (kE k) ((n,kE k',vE v)::qcb kE vE m)=_
  rw[qm9,hc,qa8,ih]
  by_cases h:k=k'
  ·exact⟨n,by simp[h,qbz]⟩
  ·exact⟨b,by simp[h,qbz]⟩
theorem qp9(k:K)(v:V)(x:AV){R:AV→AV→Prop}(hx:R x (vE v))(hk:R (kE k) (kE k))(c:Nat):∀m:List (Nat×K×V),(∀e∈qcb kE vE m,R e.2.1 e.2.1∧R e.2.2 e.2.2)→∃es,mset (kE k) x c (qcb kE vE m)=some ((qbc k v c m).1,es)∧FzE R es (qcb kE vE (qbc k v c m).2)
 |[],_=>⟨[(c,kE k,x)],rfl,⟨kE k,vE v,[],rfl,hk,hx,rfl⟩⟩
 |e::m,h=>by
  obtain⟨n,k',u⟩:=e
  obtain⟨es,h1,h2⟩:=qp9 k v x hx hk c m fun e he=>h e (List.mem_cons_of_mem _ he)
  have h0:=h (n,kE k',vE u) (List.mem_cons_self ..)
  show ∃es,mset (kE k) x c ((n,kE k',vE u)::qcb kE vE m)=_∧_
  rw[qyn,hc,qa8,h1]
  by_cases hkk:k=k'
  ·refine⟨(n,kE k,x)::qcb kE vE m,by simp[hkk,qbc],?_⟩
   rw[show (qbc k v c ((n,k',u)::m)).2=(n,k,v)::m by simp[qbc,hkk]]
   exact⟨kE k,vE v,_,rfl,hk,hx,FzE.refl fun e he=>h e (List.mem_cons_of_mem _ he)⟩
  ·refine⟨(n,kE k',vE u)::es,by simp[hkk,qbc,on],?_⟩
   rw[show (qbc k v c ((n,k',u)::m)).2=(n,k',u)::(qbc k v c m).2 by simp[qbc,hkk]]
   exact⟨kE k',vE u,_,rfl,h0.1,h0.2,h2⟩
theorem set_E(k:K)(v:V)(c:Nat)(m:List (Nat×K×V)):mset (kE k) (vE v) c (qcb kE vE m)=some ((qbc k v c m).1,qcb kE vE (qbc k v c m).2):=by
 obtain⟨es,h1,h2⟩:=qp9 (R:=fun a b=>a=b) hc k v (vE v) rfl rfl c m fun e _=>⟨rfl,rfl⟩
 have:∀{a b:List (Nat×AV×AV)},FzE (fun x y=>x=y) a b→a=b:=by
  intro a
  induction a with
  |nil=>intro b h;exact h.symm
  |cons e a ih=>
   obtain⟨n,k,x⟩:=e
   rintro b ⟨k',x',l',rfl,rfl,rfl,h⟩
   rw[ih h]
 rw[h1,this h2]
omit hc
theorem qlq(k:K)(v:V)(c:Nat)(j:K):∀m:List (Nat×K×V),qbz j (qbc k v c m).2=if j=k then some v else qbz j m
 |[]=>by
  by_cases h:j=k<;>simp[qbc,qbz,h]
 |e::m=>by
  obtain⟨n,k',u⟩:=e
  have ih:=qlq k v c j m
  by_cases hk:k=k'
  ·subst hk
   by_cases h:j=k
   ·simp[qbc,qbz,h]
   ·simp[qbc,qbz,h]
  ·rw[show (qbc k v c ((n,k',u)::m)).2=(n,k',u)::(qbc k v c m).2 by simp[qbc,hk]]
   by_cases h:j=k'
   ·have:j≠k:=fun e=>hk (e.symm.trans h)
    subst h
    simp[qbz,this]
   ·have e1:qbz j ((n,k',u)::(qbc k v c m).2)=qbz j (qbc k v c m).2:=by simp[qbz,h]
    have e2:qbz j ((n,k',u)::m)=qbz j m:=by simp[qbz,h]
    rw[e1,e2,ih]
theorem qc1{k:K}{v:V}{c:Nat}:∀{m:List (Nat×K×V)} {e:Nat×K×V},e∈(qbc k v c m).2→e∈m∨(e.2.1=k∧e.2.2=v)
 |[],e,h=>by
  simp only[qbc,List.mem_singleton] at h
  subst h;exact .inr ⟨rfl,rfl⟩
 |d::m,e,h=>by
  unfold qbc at h
  split at h
  ·rcases List.mem_cons.1 h with rfl|h
   ·exact .inr ⟨rfl,rfl⟩
   ·exact .inl (List.mem_cons_of_mem _ h)
  ·rcases List.mem_cons.1 h with rfl|h
   ·exact .inl (List.mem_cons_self ..)
   ·rcases qc1 h with h|h
    ·exact .inl (List.mem_cons_of_mem _ h)
    ·exact .inr h
theorem qhh{k:K}{m:List (Nat×K×V)}{v:V}(h:qbz k m=some v):∃e∈m,e.2.1=k∧e.2.2=v:=by
 unfold qbz at h
 rw[Option.map_eq_some_iff] at h
 obtain⟨e,h1,h2⟩:=h
 exact⟨e,List.mem_of_find?_eq_some h1,by have:=List.find?_some h1;simpa[eq_comm] using this,h2⟩
end
theorem qq4{K V:Type}{kE:K→AV}{vE:V→AV}(hk:∀a b,kE a=kE b→a=b)(hv:∀a b,vE a=vE b→a=b):∀{a b:List (Nat×K×V)},qcb kE vE a=qcb kE vE b→a=b
 |[],[],_=>rfl
 |[],_::_,h=>by simp[qcb] at h
 |_::_,[],h=>by simp[qcb] at h
 |x::a,y::b,h=>by
  obtain⟨x1,x2,x3⟩:=x;obtain⟨y1,y2,y3⟩:=y
  simp only[qcb,List.map_cons,List.cons.injEq,Prod.mk.injEq] at h
  obtain⟨⟨h1,h2,h3⟩,h4⟩:=h
  rw[h1,hk _ _ h2,hv _ _ h3,qq4 hk hv h4]
end
section
open Go Go.RowKit
def qdg(z by_:Nat)(args:List AV)(H:AH):Option (AV×AH):=
 match args with
 |[.nils,.int .i64 0,.slc gv ev iv mv zv]=>bif Nat.beq mv 0 then none else iapp z by_ .nils (.slc gv ev iv mv zv) H
 |[.zslc,.int .i64 0,.slc gv ev iv mv zv]=>bif Nat.beq mv 0 then none else iapp z by_ .zslc (.slc gv ev iv mv zv) H
 |[.slc g e 0 len z',.int .i64 (.ofNat i),.slc gv ev iv mv zv]=>
  bif Nat.beq mv 0||Nat.beq gv g then none else
  bif Nat.beq i len then iapp z by_ (.slc g e 0 len z') (.slc gv ev iv mv zv) H else
  match qan H z (.slc gv ev iv mv zv) with
  |some (m,xs)=>
   match H.gs.get g with
   |some r=>
    bif Nat.beq r.e e&&Nat.beq z' z&&Nat.beq r.fz 0&&Nat.beq r.cells.length (len*z)&&Nat.blt i len&&Nat.blt 0 m&&Nat.ble ((len+m)*by_) 140737488355328&&Nat.ble (len+m) 9223372036854775807 then
     some (.slc g (e+1) 0 (len+m) z,⟨H.next,H.gs.set g ⟨e+1,0,r.cells.take (i*z)++xs++r.cells.drop (i*z)⟩,H.ms⟩)
    else none
   |none=>none
  |none=>none
 |_=>none
def qkh(z:Nat)(args:List AV)(H:AH):Option (AV×AH):=
 match args with
 |[.slc g e 0 len z',.int .i64 (.ofNat i),.int .i64 (.ofNat j)]=>
  match H.gs.get g with
  |some r=>
   bif Nat.beq r.e e&&Nat.beq z' z&&Nat.beq r.fz 0&&Nat.beq r.cells.length (len*z)&&Nat.blt i j&&Nat.ble j len&&Nat.ble len 9223372036854775807 then
    some (.slc g (e+1) 0 (len-(j-i)) z,⟨H.next,H.gs.set g ⟨e+1,0,r.cells.take (i*z)++r.cells.drop (j*z)⟩,H.ms⟩)
   else none
  |none=>none
 |_=>none
def qk2(z:Nat)(id:Int):Nat→List AV→Option (Option Nat)
 |0,_=>some none
 |n+1,cs=>match cs with
  |.int .i64 k::_=>match qk2 z id n (cs.drop z) with
   | some o=>some (bif decide (k = id) then some 0 else match o with
    |some j=>some (j+1)
    | none=>none)
   |none=>none
  |_=>none
theorem qxz{z:Nat}{id:Int}:∀{n:Nat} {cs:List AV} {o:Option Nat},qk2 z id n cs=some o→∃ks:Nat→Int,(∀j,j<n→cs[j*z]? = some (.int .i64 (ks j))) ∧
  match o with
  |none=>∀j,j<n→ks j≠id
  |some i=>i<n∧ks i=id∧∀j,j<i→ks j≠id
 |0,cs,o,h=>by
  simp only[qk2] at h;cases h
  exact⟨fun _=>0,fun j hj=>by omega,fun j hj=>by omega⟩
 |n+1,cs,o,h=>by
  simp only[qk2] at h
  split at h
  ·rename_i k l
   split at h
   ·rename_i o' ho'
    cases h
    obtain⟨ks,h1,h2⟩:=qxz ho'
    refine⟨fun j=>match j with|0=>k|j+1=>ks j,fun j hj=>?_,?_⟩
    ·cases j with
     |zero=>simp
     |succ j=>
      have:=h1 j (by omega)
      rw[List.getElem?_drop] at this
      rw[show (j+1)*z=z+j*z by rw[Nat.add_mul];omega]
      exact this
    ·by_cases hk:k=id
     ·simp only[hk,decide_true,cond_true]
      exact⟨Nat.succ_pos _,trivial,fun j hj=>by omega⟩
     ·simp only[hk,decide_false,cond_false]
      cases o' with
      |none=>
       simp only at h2 ⊢
       intro j hj
       cases j with
       |zero=>exact hk
       |succ j=>exact h2 j (by omega)
      |some i=>
       simp only at h2 ⊢
       refine⟨by omega,h2.2.1,fun j hj=>?_⟩
       cases j with
       |zero=>exact hk
       |succ j=>exact h2.2.2 j (by omega)
   ·cases h
  ·cases h
def qez(z:Nat)(id:Int)(H:AH):List (Nat×AV×AV)→Option (List ((Nat×AV×AV)×Nat))
 |[]=>some []
 |t::es=>match qan H z t.2.2 with
  |some (m,cs)=>bif Nat.ble m 4611686018427387904 then match qk2 z id m cs with
   |some (some j)=>match qez z id H es with
    |some l=>some ((t,j)::l)
    |none=>none
   |some none=>qez z id H es
   |none=>none else none
  |none=>none
theorem qnh{z:Nat}{id:Int}{H:AH}:∀{es:List (Nat×AV×AV)} {l:List ((Nat×AV×AV)×Nat)},qez z id H es=some l →
  (∀t∈es,∃m cs o,qan H z t.2.2=some (m,cs)∧m≤4611686018427387904∧qk2 z id m cs=some o∧∀j,o=some j→(t,j)∈l) ∧
  ∀t j,(t,j)∈l→t∈es∧∃m cs,qan H z t.2.2=some (m,cs)∧qk2 z id m cs=some (some j)
 |[],l,h=>by
  simp only[qez] at h;cases h
  exact⟨fun t ht=>(nomatch ht),fun t j h=>(nomatch h)⟩
 |t0::es,l,h=>by
  simp only[qez] at h
  split at h
  ·rename_i m cs hc
   cases hm:Nat.ble m 4611686018427387904 with
   |false=>rw[hm] at h;cases h
   |true=>
    rw[hm] at h
    simp only[cond_true] at h
    have hm':=Nat.le_of_ble_eq_true hm
    split at h
    ·rename_i j hj
     split at h
     ·rename_i l' hl'
      cases h
      obtain⟨q1,q2⟩:=qnh hl'
      refine⟨fun t ht=>?_,fun t i hi=>?_⟩
      ·rcases List.mem_cons.1 ht with rfl|ht
       ·exact⟨m,cs,some j,hc,hm',hj,fun i hi=>by cases hi;exact List.mem_cons_self ..⟩
       ·obtain⟨m',cs',o',k1,k2,k3,k4⟩:=q1 t ht
        exact⟨m',cs',o',k1,k2,k3,fun i hi=>List.mem_cons_of_mem _ (k4 i hi)⟩
      ·rcases List.mem_cons.1 hi with hi|hi
       ·cases hi;exact⟨List.mem_cons_self ..,m,cs,hc,hj⟩
       ·obtain⟨k1,k2⟩:=q2 t i hi
        exact⟨List.mem_cons_of_mem _ k1,k2⟩
     ·cases h
    ·rename_i hj
     obtain⟨q1,q2⟩:=qnh h
     refine⟨fun t ht=>?_,fun t i hi=>?_⟩
     ·rcases List.mem_cons.1 ht with rfl|ht
      ·exact⟨m,cs,none,hc,hm',hj,fun i hi=>by cases hi⟩
      ·exact q1 t ht
     ·obtain⟨k1,k2⟩:=q2 t i hi
      exact⟨List.mem_cons_of_mem _ k1,k2⟩
    ·cases h
  ·cases h
theorem qhj{z:Nat}{id:Int}{R:Nat→Option Grp}{H H2:AH}(he:Ext R H H2)(ha:Apart R H):∀{es:List (Nat×AV×AV)} {l:List ((Nat×AV×AV)×Nat)},qez z id H es=some l→qez z id H2 es=some l
 |[],l,h=>h
 |t0::es,l,h=>by
  simp only[qez] at h ⊢
  split at h
  ·rename_i m cs hc
   rw[qb3 he ha hc]
   simp only
   cases hm:Nat.ble m 4611686018427387904 with
   |false=>rw[hm] at h;cases h
   |true=>
    rw[hm] at h
    simp only[cond_true] at h ⊢
    split at h
    ·rename_i j hj
     split at h
     ·rename_i l' hl'
      cases h
      rw[qhj he ha hl']
     ·cases h
    ·rename_i hj
     exact qhj he ha h
    ·cases h
  ·cases h
theorem ERel.mem{G:Gh}:∀{es:List (Nat×AV×AV)} {l:List MapEntry},ERel G es l→∀e∈l,∃t∈es,t.1=e.born∧VR G t.2.1 e.key∧VR G t.2.2 e.val
 |[],l,h,e,he=>by simp only[ERel] at h;subst h;cases he
 |(n,k,x)::es,l,h,e,he=>by
  simp only[ERel] at h
  obtain⟨e0,l',rfl,h0,h1,h2,h3⟩:=h
  rcases List.mem_cons.1 he with rfl|he
  ·exact⟨_,List.mem_cons_self ..,h0.symm,h1,h2⟩
  ·obtain⟨t,ht,q⟩:=ERel.mem h3 e he
   exact⟨t,List.mem_cons_of_mem _ ht,q⟩
theorem ERel.mem'{G:Gh}:∀{es:List (Nat×AV×AV)} {l:List MapEntry},ERel G es l→∀t∈es,∃e∈l,t.1=e.born∧VR G t.2.1 e.key∧VR G t.2.2 e.val
 |[],l,h,e,he=>by cases he
 |(n,k,x)::es,l,h,e,he=>by
  simp only[ERel] at h
  obtain⟨e0,l',rfl,h0,h1,h2,h3⟩:=h
  rcases List.mem_cons.1 he with rfl|he
  ·exact⟨_,List.mem_cons_self ..,h0.symm,h1,h2⟩
  ·obtain⟨t,ht,q⟩:=ERel.mem' h3 e he
   exact⟨t,List.mem_cons_of_mem _ ht,q⟩
theorem ERel.born{G:Gh}:∀{es:List (Nat×AV×AV)} {l:List MapEntry},ERel G es l→l.map (·.born)=es.map (·.1)
 |[],l,h=>by simp only[ERel] at h;subst h;rfl
 |(n,k,x)::es,l,h=>by
  simp only[ERel] at h
  obtain⟨e0,l',rfl,h0,h1,h2,h3⟩:=h
  simp only[List.map_cons,h0,ERel.born h3]
def qvt:List Nat→Bool
 |[]=>true
 |n::l=>bif l.all (fun m=>!(Nat.beq n m)) then qvt l else false
theorem qyi:∀{l:List Nat},qvt l=true→l.Nodup
 |[],_=>List.nodup_nil
 |n::l,h=>by
  simp only[qvt] at h
  cases ha:l.all (fun m=>!(Nat.beq n m)) with
  |false=>rw[ha] at h;cases h
  |true=>
   rw[ha] at h
   refine List.nodup_cons.2 ⟨fun hm=>?_,qyi h⟩
   have:=List.all_eq_true.1 ha n hm
   rw[Nat.beq_refl] at this
   cases this
def keyB:AV→Bool
 |.agg [.str _,.int .i64 _]=>true
 |_=>false
def mapB(es:qbm):Bool:=es.2.all (fun t=>Nat.blt t.1 es.1&&keyB t.2.1)&&qvt (es.2.map (·.1))
theorem q6r{es:List (Nat×AV×AV)}(h:(es.map (·.1)).Nodup){t:Nat×AV×AV}(ht:t∈es):es.find? (fun x=>x.1==t.1)=some t:=by
 induction es with
 |nil=>cases ht
 |cons x es ih=>
  rw[List.map_cons,List.nodup_cons] at h
  rw[List.find?_cons]
  rcases List.mem_cons.1 ht with rfl|ht
  ·simp
  ·have:(x.1==t.1)=false:=by
    cases hc:x.1==t.1 with
    |false=>rfl
    |true=>exact absurd (by rw[beq_iff_eq.1 hc];exact List.mem_map_of_mem ht) h.1
   rw[this]
   exact ih h.2 ht
theorem qee(b:Nat):∀(vs:List Value) (o:Nat) (w:World),w.setCells b o vs={ w with heap:=(w.setCells b o vs).heap }
 |[],o,w=>rfl
 |v::vs,o,w=>by
  rw[World.setCells]
  have:=qee b vs (o+1) (w.setCell ⟨b,o,none⟩ v)
  rw[this]
  rfl
theorem qsm{w:World}{b p1 p2:Nat}{A B:List Value}{cs:Array Value}{t:TypeId}{f:Nat×Nat}(hb:w.heap[b]? = some (.cells cs t f))(hp:p1+B.length=p2)(hin:p2+A.length≤cs.size) :
  (w.setCells b p2 A).setCells b p1 B=w.setCells b p1 (B++A):=by
 obtain⟨c1,h1,s1,g1⟩:=qdz b t f A p2 w cs hb hin
 obtain⟨c2,h2,s2,g2⟩:=qdz b t f B p1 (w.setCells b p2 A) c1 h1 (by omega)
 obtain⟨c3,h3,s3,g3⟩:=qdz b t f (B++A) p1 w cs hb (by rw[List.length_append];omega)
 have hc:c2=c3:=by
  refine Array.ext_getElem? fun j=>?_
  rw[g2,g1,g3,List.length_append]
  by_cases q1:p1≤j∧j<p1+B.length
  ·rw[if_pos q1,if_pos (by omega),List.getElem?_append_left (by omega)]
  ·rw[if_neg q1]
   by_cases q2:p2≤j∧j<p2+A.length
   ·rw[if_pos q2,if_pos (by omega),List.getElem?_append_right (by omega)]
    congr 1;omega
   ·rw[if_neg q2,if_neg (by omega)]
 have hh:((w.setCells b p2 A).setCells b p1 B).heap=(w.setCells b p1 (B++A)).heap:=by
  refine Array.ext_getElem? fun k=>?_
  by_cases hk:k=b
  ·subst hk;rw[h2,h3,hc]
  ·rw[qck b k hk,qck b k hk,qck b k hk]
 rw[qee b B p1 (w.setCells b p2 A),hh,qee b A p2 w,qee b (B++A) p1 w]
end
section
open Go Go.RowKit
structure LessH(H H':AH):Prop where
 none':∀g,H.gs.get g=none→H'.gs.get g=none
 some':∀g r,H.gs.get g=some r→∃r',H'.gs.get g=some r'∧r'.e=r.e∧r'.fz=r.fz∧∀(i:Nat) x,r'.cells[i]? = some x→r.cells[i]? = some x
 ms:∀g,H'.ms.get g=H.ms.get g
theorem LessH.back{H H':AH}(h:LessH H H'){g:Nat}{r':Grp}(hg:H'.gs.get g=some r'):∃r,H.gs.get g=some r∧r'.e=r.e∧r'.fz=r.fz∧∀(i:Nat) x,r'.cells[i]? = some x→r.cells[i]? = some x:=by
 cases hr:H.gs.get g with
 |none=>rw[h.none' g hr] at hg;cases hg
 |some r=>
  obtain⟨q,h1,h2⟩:=h.some' g r hr
  rw[hg] at h1
  cases h1
  exact⟨r,rfl,h2⟩
theorem HRel.less{K:Kx}{G:Gh}{H H':AH}{w:World}(h:HRel K G H w)(hl:LessH H H'):HRel K G H' w:=by
 refine⟨h.below,h.hB,h.mem,h.ones,h.old,?_,?_,?_,?_,?_,?_,?_⟩
 ·intro g r' hg
  obtain⟨r,h1,h2,h3,h4⟩:=hl.back hg
  obtain⟨b,o,n,cs,t,q⟩:=h.grp g r h1
  exact⟨b,o,n,cs,t,by rw[h2];exact q.mu,q.low,q.heap,q.size,fun i x hi=>q.cell i x (h4 i x hi),fun j hj=>q.free j (by rw[←h3];exact hj)⟩
 ·intro g g' r r' b o n b' o' n' h1 h2 hne h3 h4
  obtain⟨r1,k1,k2,_⟩:=hl.back h1
  obtain⟨r2,k3,k4,_⟩:=hl.back h2
  exact h.apart g g' r1 r2 b o n b' o' n' k1 k3 hne (by rw[←k2];exact h3) (by rw[←k4];exact h4)
 ·intro g hg e
  refine h.fresh g ?_ e
  cases hr:H.gs.get g with
  |none=>rfl
  |some r=>obtain⟨q,h1,_⟩:=hl.some' g r hr;rw[hg] at h1;cases h1
 ·intro g es hg;exact h.maps g es (by rw[←hl.ms];exact hg)
 ·intro g g' es es' b b' h1 h2;exact h.mapart g g' es es' b b' (by rw[←hl.ms];exact h1) (by rw[←hl.ms];exact h2)
 ·intro g hg;exact h.mfresh g (by rw[←hl.ms];exact hg)
 ·intro g r' e hg he
  obtain⟨r,h1,h2,_⟩:=hl.back hg
  exact h.ages g r e h1 (by rw[←h2];exact he)
end
section
open Go Go.RowKit
theorem All2.self{R:AV→AV→Prop}:∀{l:List AV},(∀x∈l,R x x)→All2 R l l
 |[],_=>.nil
 |x::l,h=>.cons (h x (List.mem_cons_self ..)) (All2.self fun y hy=>h y (List.mem_cons_of_mem _ hy))
theorem All2.back{R:AV→AV→Prop}{xs ys:List AV}(h:All2 R xs ys)(i:Nat)(y:AV)(hy:ys[i]? = some y):∃x,xs[i]? = some x∧R x y:=by
 have hlt:=(List.getElem?_eq_some_iff.1 hy).1
 have hc:xs[i]? = some (xs[i]'(by rw[h.len];exact hlt)):=List.getElem?_eq_getElem _
 exact⟨_,hc,h.get i _ y hc hy⟩
theorem q1o{H H1 H2:AH}{p q:Nat→Nat}(hc:ClosedH H)(ho:∀g,H.ms.get g≠none→q g=g∧H2.ms.get g≠none){g:Nat}{r:Grp}(h:H.gs.get g=some r):All2 (FzR H1 (kpR H H1 H2 p) (kmR H2 q) (qes H2 p)) r.cells r.cells:=
 All2.self fun x hx=>by
  obtain⟨i,hi,rfl⟩:=List.getElem_of_mem hx
  exact FzR.refl (S:=fun g=>H.gs.get g≠none) (M:=fun g=>H.ms.get g≠none) (fun g e h=>.inl ⟨h,rfl,rfl⟩) (fun g h=>⟨(ho g h).1.symm,(ho g h).2⟩) _ (hc.cell g r i _ h (List.getElem?_eq_getElem hi))
theorem Canon.updF{H H1 H2:AH}{x1 x2:AV}(hc:ClosedH H)(hd:∀g,H2.gs.get g≠none↔H.gs.get g≠none)(hm2:H2.ms=H.ms)(hm1:∀g e,H.ms.get g=some e→H1.ms.get g=some e)
  (hg:∀g r2,H2.gs.get g=some r2→∃r1,H1.gs.get g=some r1∧r1.fz≤r2.fz∧r2.e=r1.e∧All2 (FzR H1 (kpR H H1 H2 id) (kmR H2 id) (qes H2 id)) r1.cells r2.cells)
  (hx:FzR H1 (kpR H H1 H2 id) (kmR H2 id) (qes H2 id) x1 x2):Canon H H1 x1 H2 x2 id id:=by
 have ho:∀g,H.ms.get g≠none→id g=g∧H2.ms.get g≠none:=fun g h=>⟨rfl,by rw[hm2];exact h⟩
 refine⟨fun g h=>⟨rfl,(hd g).2 h⟩,fun g r2 h=>?_,fun g g' _ _ h=>h,ho,fun g es2 h=>?_,fun g g' _ _ h=>h,hx⟩
 ·obtain⟨r1,a,b,c,d⟩:=hg g r2 h
  exact⟨r1,a,b,fun _=>c,fun i y hy=>d.back i y hy⟩
 ·rw[hm2] at h
  refine⟨es2,hm1 g _ h,rfl,FzE.refl fun e he=>?_⟩
  have:=hc.ent g es2 h e he
  have hr:∀x,qd7 (fun g=>H.gs.get g≠none) (fun g=>H.ms.get g≠none) x→FzR H1 (kpR H H1 H2 id) (kmR H2 id) (qes H2 id) x x:=fun x hx=>
   FzR.refl (S:=fun g=>H.gs.get g≠none) (M:=fun g=>H.ms.get g≠none) (fun g e h=>.inl ⟨h,rfl,rfl⟩) (fun g h=>⟨rfl,(ho g h).2⟩) x hx
  exact⟨hr _ this.1,hr _ this.2⟩
theorem Canon.new{N:Nat}{H H1 H2:AH}{x1 x2:AV}{p r:Nat→Nat}(hN:∀n,N≤n→H.gs.get n=none∧H.ms.get n=none)(hc:ClosedH H)
  (go:∀g r2,H.gs.get g=some r2→p g=g∧H1.gs.get g=some r2∧H2.gs.get g=some r2)
  (mo:∀g e,H.ms.get g=some e→r g=g∧H1.ms.get g=some e∧H2.ms.get g=some e)
  (gn:∀g r2,H.gs.get g=none→H2.gs.get g=some r2→N≤p g∧∃r1,H1.gs.get (p g)=some r1∧r1.fz≤r2.fz∧All2 (FzR H1 (kpR H H1 H2 p) (kmR H2 r) (qes H2 p)) r1.cells r2.cells)
  (gi:∀g g',H.gs.get g=none→H.gs.get g'=none→H2.gs.get g≠none→H2.gs.get g'≠none→p g=p g'→g=g')
  (mn:∀g e,H.ms.get g=none→H2.ms.get g=some e→N≤r g∧∃e1,H1.ms.get (r g)=some e1∧e.1=e1.1∧FzE (FzR H1 (kpR H H1 H2 p) (kmR H2 r) (qes H2 p)) e1.2 e.2)
  (mi:∀g g',H.ms.get g=none→H.ms.get g'=none→H2.ms.get g≠none→H2.ms.get g'≠none→r g=r g'→g=g')
  (hx:FzR H1 (kpR H H1 H2 p) (kmR H2 r) (qes H2 p) x1 x2):Canon H H1 x1 H2 x2 p r:=by
 have og:∀g,H.gs.get g≠none→(p g=g∧H2.gs.get g≠none)∧g<N:=fun g h=>by
  obtain⟨r2,hr⟩:=Option.ne_none_iff_exists'.1 h
  obtain⟨a,b,c⟩:=go g r2 hr
  refine⟨⟨a,by rw[c];simp⟩,?_⟩
  rcases Nat.lt_or_ge g N with q|q
  ·exact q
  ·exact absurd (hN g q).1 h
 have om:∀g,H.ms.get g≠none→(r g=g∧H2.ms.get g≠none)∧g<N:=fun g h=>by
  obtain⟨r2,hr⟩:=Option.ne_none_iff_exists'.1 h
  obtain⟨a,b,c⟩:=mo g r2 hr
  refine⟨⟨a,by rw[c];simp⟩,?_⟩
  rcases Nat.lt_or_ge g N with q|q
  ·exact q
  ·exact absurd (hN g q).2 h
 have hr:∀x,qd7 (fun g=>H.gs.get g≠none) (fun g=>H.ms.get g≠none) x→FzR H1 (kpR H H1 H2 p) (kmR H2 r) (qes H2 p) x x:=fun x hx=>
  FzR.refl (S:=fun g=>H.gs.get g≠none) (M:=fun g=>H.ms.get g≠none) (fun g e h=>.inl ⟨h,rfl,rfl⟩) (fun g h=>⟨(om g h).1.1.symm,(om g h).1.2⟩) x hx
 refine⟨fun g h=>(og g h).1,fun g r2 h=>?_,fun g g' h h' e=>?_,fun g h=>(om g h).1,fun g es2 h=>?_,fun g g' h h' e=>?_,hx⟩
 ·cases hh:H.gs.get g with
  |none=>
   obtain⟨-,r1,a,b,c⟩:=gn g r2 hh h
   exact⟨r1,a,b,fun hn=>absurd rfl hn,fun i y hy=>c.back i y hy⟩
  |some r0=>
   obtain⟨a,b,c⟩:=go g r0 hh
   rw[c] at h
   cases h
   refine⟨_,by rw[a];exact b,Nat.le_refl _,fun _=>rfl,fun i y hy=>⟨y,hy,hr y (hc.cell g _ i y hh hy)⟩⟩
 ·by_cases k1:H.gs.get g=none
  ·by_cases k2:H.gs.get g'=none
   ·exact gi g g' k1 k2 h h' e
   ·obtain⟨⟨a,-⟩,b⟩:=og g' k2
    obtain⟨r2,hr⟩:=Option.ne_none_iff_exists'.1 h
    have:=(gn g r2 k1 hr).1
    omega
  ·obtain⟨⟨a,-⟩,b⟩:=og g k1
   by_cases k2:H.gs.get g'=none
   ·obtain⟨r2,hr⟩:=Option.ne_none_iff_exists'.1 h'
    have:=(gn g' r2 k2 hr).1
    omega
   ·obtain⟨⟨a',-⟩,b'⟩:=og g' k2
    omega
 ·cases hh:H.ms.get g with
  |none=>
   obtain⟨-,r1,a,b,c⟩:=mn g es2 hh h
   exact⟨r1,a,b,c⟩
  |some r0=>
   obtain⟨a,b,c⟩:=mo g r0 hh
   rw[c] at h
   cases h
   refine⟨_,by rw[a];exact b,rfl,FzE.refl fun e he=>?_⟩
   have:=hc.ent g _ hh e he
   exact⟨hr _ this.1,hr _ this.2⟩
 ·by_cases k1:H.ms.get g=none
  ·by_cases k2:H.ms.get g'=none
   ·exact mi g g' k1 k2 h h' e
   ·obtain⟨⟨a,-⟩,b⟩:=om g' k2
    obtain⟨r2,hr⟩:=Option.ne_none_iff_exists'.1 h
    have:=(mn g r2 k1 hr).1
    omega
  ·obtain⟨⟨a,-⟩,b⟩:=om g k1
   by_cases k2:H.ms.get g'=none
   ·obtain⟨r2,hr⟩:=Option.ne_none_iff_exists'.1 h'
    have:=(mn g' r2 k2 hr).1
    omega
   ·obtain⟨⟨a',-⟩,b'⟩:=om g' k2
    omega
end
section
open Go Go.RowKit
theorem HRel.newMapOf{K:Kx}{G:Gh}{H:AH}{w:World}(h:HRel K G H w){g nx:Nat}(hf:H.ms.get g=none){es0:qbm}{l0:Array MapEntry}{c0:Nat}(he:ERel G es0.2 l0.toList)(hc0:c0=es0.1) :
  HRel K (G.putm g w.heap.size) ⟨nx,H.gs,H.ms.set g es0⟩ (w.alloc (.map l0 c0)):=by
 have hle:=Gh.putm_le (b:=w.heap.size) (h.mfresh g hf)
 have hb:Below w.heap.size w (w.alloc (.map l0 c0)):=Below.alloc (Below.refl _ _) (Nat.le_refl _) _
 have hs:=h.kept hb
 have hne:∀{g':Nat},g'≠g→(G.putm g w.heap.size).mm g'=G.mm g':=fun {g'} hc=>by show (if _ then _ else _)=_;rw[if_neg hc]
 have hsame:(G.putm g w.heap.size).mm g=some w.heap.size:=by show (if _ then _ else _)=_;rw[if_pos rfl]
 refine⟨hs.below,hs.hB,hs.mem,hs.ones,hs.old,?_,hs.apart,hs.fresh,?_,?_,?_,hs.ages⟩
 ·intro g' r hr
  obtain⟨b,o,n,c,t,q⟩:=hs.grp g' r hr
  exact⟨b,o,n,c,t,q.mu,q.low,q.heap,q.size,fun i x hi=>by obtain⟨u,h1,h2,h3⟩:=q.cell i x hi;exact⟨u,h1,VR.mono hle _ _ h2,h3⟩,q.free⟩
 ·intro g' es hg'
  have hg':(H.ms.set g es0).get g'=some es:=hg'
  by_cases hc:g'=g
  ·subst hc
   rw[Tr.get_set_same] at hg'
   cases hg'
   exact⟨w.heap.size,l0,c0,hsame,h.hB,by show (w.heap.push _)[w.heap.size]? = _;simp,he.mono hle,hc0⟩
  ·rw[Tr.get_set_ne _ _ hc] at hg'
   obtain⟨b,l,c,q⟩:=hs.maps g' es hg'
   exact⟨b,l,c,by rw[hne hc];exact q.mm,q.low,q.heap,q.ents.mono hle,q.clock⟩
 ·intro g1 g2 e1 e2 b1 b2 k1 k2 k3 k4 k5
  have z1:(H.ms.set g es0).get g1=some e1:=k1
  have z2:(H.ms.set g es0).get g2=some e2:=k2
  clear k1 k2
  have old:∀{g':Nat} {es:qbm} {b:Nat},H.ms.get g'=some es→G.mm g'=some b→b<w.heap.size:=fun {g' es b} hg hm=>by
   obtain⟨b',l,c,q⟩:=h.maps g' es hg
   rw[q.mm] at hm;cases hm
   exact qcy q.heap
  by_cases c1:g1=g
  ·have c2:g2≠g:=fun c2=>k3 (c1.trans c2.symm)
   subst c1
   rw[hsame] at k4
   rw[Tr.get_set_ne _ _ c2] at z2
   rw[hne c2] at k5
   cases k4
   have:=old z2 k5
   omega
  ·rw[Tr.get_set_ne _ _ c1] at z1
   rw[hne c1] at k4
   by_cases c2:g2=g
   ·subst c2
    rw[hsame] at k5
    cases k5
    have:=old z1 k4
    omega
   ·rw[Tr.get_set_ne _ _ c2] at z2
    rw[hne c2] at k5
    exact h.mapart g1 g2 e1 e2 b1 b2 z1 z2 k3 k4 k5
 ·intro g' hg'
  have hg':(H.ms.set g es0).get g'=none:=hg'
  by_cases hc:g'=g
  ·subst hc;rw[Tr.get_set_same] at hg';cases hg'
  ·rw[Tr.get_set_ne _ _ hc] at hg'
   rw[hne hc];exact h.mfresh g' hg'
def qe6(args:List AV)(H:AH):Option (AV×AH):=match args with
 |[.mapp g]=>match H.ms.get g with
  |some es=>match H.ms.get H.next with
   |none=>some (.mapp H.next,⟨H.next+1,H.gs,H.ms.set H.next es⟩)
   |some _=>none
  |none=>none
 |_=>none
theorem HookOne.mclone{P:Program}{f:FuncId}(hb:qa3 P f=true)(h:∀(b:Nat) (es:Array MapEntry) (clock:Nat) (w:World),w.heap[b]? = some (.map es clock)→Calls P f #[.map (some b)] w fun e w'=>e=.returned (.map (some w.heap.size))∧w'=w.alloc (.map es clock)):HookOne P f qe6:=by
 refine⟨hb,fun args H x H' hm=>?_,fun args H x H' hm=>?_⟩
 ·unfold qe6 at hm
  split at hm<;>try (cases hm;done)
  rename_i g
  split at hm
  ·rename_i es hes
   split at hm
   ·rename_i hf
    cases hm
    intro K G vs w hr hv
    obtain⟨u,hu,hm⟩:=hv.one
    simp only[VR] at hm
    obtain⟨b,hmm,rfl⟩:=hm
    obtain⟨b',l,c,q⟩:=hr.maps g es hes
    rw[q.mm] at hmm
    cases hmm
    obtain rfl:vs=#[.map (some b)]:=by cases vs;simpa using hu
    refine (h b l c w q.heap).mono fun e w' ⟨he,hw⟩=>?_
    subst hw
    refine⟨_,_,_,_,he,Gh.putm_le (hr.mfresh _ hf),hr.newMapOf (nx:=H.next+1) hf q.ents q.clock,?_,rfl,rfl⟩
    simp only[VR]
    exact⟨_,by show (if _ then _ else _)=_;rw[if_pos rfl],rfl⟩
   ·cases hm
  ·cases hm
 ·unfold qe6 at hm
  split at hm<;>try (cases hm;done)
  rename_i g
  split at hm
  ·rename_i es hes
   split at hm
   ·rename_i hf
    cases hm
    exact FrameR.ms fun R H2 he ha=>by simp only[qe6,he.ms,he.next,hes,hf]
   ·cases hm
  ·cases hm
end
end Go.Abs
