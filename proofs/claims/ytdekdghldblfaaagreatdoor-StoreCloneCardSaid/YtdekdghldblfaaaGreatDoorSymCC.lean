import Derived.Test.YtdekdghldblfaaaGreatDoorYFi
import Derived.Test.YtdekdghldblfaaaGreatDoorSymB
import Derived.Test.YtdekdghldblfaaaGreatDoorSymUU
import Derived.Test.YtdekdghldblfaaaGreatDoorAbsV
import Derived.Test.YtdekdghldblfaaaGreatDoorYDs
import Derived.Test.YtdekdghldblfaaaGreatDoorSymRA
set_option linter.unusedVariables false
set_option linter.unusedSimpArgs false
namespace Go.Proofs.YtdekdghldblfaaaGreatDoor
section
open Go Go.Abs Go.RowKit
attribute [local congr] qai qaj qag
end
section
open Go Go.Abs Go.RowKit
attribute [local congr] qai qaj qag
attribute [local congr] qal
def Off(v:AV)(g:Nat):Prop:=∀e i m z,v≠.slc g e i m z
theorem off_app{H H':AH}{v v' x:AV}{z b n m:Nat}{cs xs:List AV}(h:Ows H v z cs n)(hx:qan H z x=some (m,xs))(hm:m≠0)(hp:iapp z b v x H=some (v',H')){g:Nat}(hg:g<H.next)(ho:Off v g):Off v' g:=by
 rcases h.2 with⟨rfl,-⟩|⟨g1,e1,rfl,h2,h3⟩
 ·rw[qlz,hx,qa8] at hp
  simp only[if_neg hm] at hp
  split at hp
  ·cases hp
   intro e i m z he
   cases he
   exact Nat.lt_irrefl _ hg
  ·cases hp
 ·rw[qn0,hx,qa8] at hp
  simp only[if_neg hm,h2,qa8] at hp
  split at hp
  ·cases hp
   intro e i m z he
   cases he
   exact ho _ _ _ _ rfl
  ·cases hp
end
section
open Go Go.Abs Go.RowKit
attribute [local congr] qai qaj qag
attribute [local congr] qal
mutual
def q0d:Tm→List Int→List Int
 |.mk k n _ l,a=>if k=0 then (if n∈a then a else a++[n]) else qgc l a
def qgc:List Tm→List Int→List Int
 |[],a=>a
 |t::ts,a=>qgc ts (q0d t a)
end
theorem varG_var{t:Tm}(h:t.kind=0)(a:List Int):q0d t a=if t.num∈a then a else a++[t.num]:=by
 cases t;simp only[Tm.kind] at h;unfold q0d;rw[if_pos h];rfl
theorem varG_mk{t:Tm}(h:t.kind≠0)(a:List Int):q0d t a=qgc t.args a:=by
 cases t;simp only[Tm.kind] at h;simp[q0d,h,Tm.args]
theorem qsh:∀(l m:List Tm) (a:List Int),qgc (l++m) a=qgc m (qgc l a)
 |[],m,a=>rfl
 |t::l,m,a=>by simp only[List.cons_append,qgc,qsh l m]
mutual
theorem varG_len:∀(t:Tm) (a:List Int),(q0d t a).length≤a.length+t.size
 |.mk k n s l,a=>by
  unfold q0d
  have:=qmn l a
  simp only[Tm.size]
  split
  ·split
   ·omega
   ·simp
  ·omega
theorem qmn:∀(l:List Tm) (a:List Int),(qgc l a).length≤a.length+Tm.sizes l
 |[],a=>by simp[qgc,Tm.sizes]
 |t::ts,a=>by
  have h1:=varG_len t a
  have h2:=qmn ts (q0d t a)
  simp only[qgc,Tm.sizes]
  omega
end
noncomputable abbrev ysRv:List (FuncId×YF):=[(133,qoa)]
noncomputable abbrev lsRv:List (FuncId×(List AV→AH→Option (AV×AH))):=[(80,qae qfj)]
structure RvK(B:Nat)(nx:Nat)(gs:Tr Grp)(ms:Tr qbm)(o:AV)(a:List Int)(o':AV)(H':AH):Prop where
 wf:H'.wf
 ow:Ows H' o' 1 (qgm a) a.length
 ob:OB B o'
 le:nx≤H'.next
 mss:H'.ms=ms
 keep:∀g,g<nx→Off o g→H'.gs.get g=gs.get g∧Off o' g
theorem RvK.refl{B nx:Nat}{gs:Tr Grp}{ms:Tr qbm}{o:AV}{a:List Int}(h1:AH.wf ⟨nx,gs,ms⟩)(h2:Ows ⟨nx,gs,ms⟩ o 1 (qgm a) a.length)(h3:OB B o):RvK B nx gs ms o a o ⟨nx,gs,ms⟩:=⟨h1,h2,h3,Nat.le_refl _,rfl,fun _ _ h=>⟨rfl,h⟩⟩
theorem own_off{H:AH}{o:AV}{z n:Nat}{cs:List AV}(h:Ows H o z cs n){g:Nat}(hg:H.next≤g):Off o g:=fun e i m z' he=>by
 rcases h.2 with⟨rfl,-⟩|⟨g1,e1,rfl,-,h3⟩
 ·cases he
 ·cases he;omega
theorem RvK.trans{B nx nx1:Nat}{gs gs1:Tr Grp}{ms ms1:Tr qbm}{o o1 o2:AV}{a b:List Int}{H2:AH}(h:RvK B nx gs ms o a o1 ⟨nx1,gs1,ms1⟩)(k:RvK B nx1 gs1 ms1 o1 b o2 H2):RvK B nx gs ms o b o2 H2:=by
 have hn:nx≤nx1:=h.le
 have hm:ms1=ms:=h.mss
 refine⟨k.wf,k.ow,k.ob,Nat.le_trans hn k.le,k.mss.trans hm,fun g hg ho=>?_⟩
 obtain⟨a1,a2⟩:=h.keep g hg ho
 obtain⟨b1,b2⟩:=k.keep g (by omega) a2
 exact⟨b1.trans a1,b2⟩
theorem own_box{nx:Nat}{gs:Tr Grp}{ms:Tr qbm}{o:AV}{cs:List AV}{n z:Nat}(h:Ows ⟨nx,gs,ms⟩ o z cs n)(x:Grp)(k:Nat)(hk:1≤k):Ows ⟨nx+k,gs.set nx x,ms⟩ o z cs n:=h.keep (by show nx≤nx+k;omega) fun g hg=>by
 have:g<nx:=hg
 show (gs.set nx _).get g=_
 rw[Tr.get_set_ne _ _ (by omega)]
theorem own_at{H:AH}{o:AV}{a:List Int}(h:Ows H o 1 (qgm a) a.length){i:Nat}{x:Int}(hx:a[i]? = some x):∃g e cs,o=.slc g e 0 a.length 1∧H.gs.get g=some ⟨e,0,cs⟩∧cs[i]? = some (.int .i64 x):=by
 rcases h.2 with⟨-,h2⟩|⟨g,e,h1,h2,-⟩
 ·rw[List.eq_nil_of_length_eq_zero h2] at hx;cases hx
 ·exact⟨g,e,_,h1,h2,by simp[qgm,hx]⟩
set_option maxHeartbeats 1000000 in
theorem rv_find(call:qar)(F0:Nat)(t:Tm)(bx nx:Nat)(gs:Tr Grp)(ms:Tr qbm)(o:AV)(a:List Int)(hal:a.length≤100000)(hb:gs.get bx=some ⟨0,0,tmC t⟩)(ho:Ows ⟨nx,gs,ms⟩ o 1 (qgm a) a.length):∀(l2 l1:List Int) (nx' F:Nat),a=l1++l2→l2.length<F →
  ∃nx2,(t.num∈l2→iter (ycode call F0 qpm) F (mk [(1,o),(2,.ptr bx 0 0),(5,.int .i64 l1.length)]) ⟨nx',gs,ms⟩=some (.ret,mk [(4,o)],⟨nx2,gs,ms⟩))∧(t.num∉l2→iter (ycode call F0 qpm) F (mk [(1,o),(2,.ptr bx 0 0),(5,.int .i64 l1.length)]) ⟨nx',gs,ms⟩=some (.exit 0,mk [(1,o),(2,.ptr bx 0 0)],⟨nx2,gs,ms⟩))∧nx'≤nx2:=by
 intro l2
 have hlen:∀H,qhx false H o=some (.int .i64 a.length,H):=fun H=>by
  rcases ho.2 with⟨rfl,h⟩|⟨g,e,rfl,-⟩
  ·rw[h];rfl
  ·rfl
 induction l2 with
 |nil=>
  intro l1 nx' F h1 h4
  obtain⟨k,rfl⟩:=qam (f:=fun _ _=>none) (n:=F) (by omega)
  rw[List.append_nil] at h1
  have hlt:((l1.length:Int)<(a.length:Int))=False:=by rw[h1];simp
  refine⟨nx',fun h=>(by cases h),fun _=>?_,Nat.le_refl _⟩
  rw[qad]
  simp (maxSteps:=1000000) (disch:=omega) only[qif,qg3,↓axP,axQ,seval,qaa,qab,tX,hlt,hlen]
 |cons x l2 ih=>
  intro l1 nx' F h1 h4
  obtain⟨k,rfl⟩:=qam (f:=fun _ _=>none) (n:=F) (by omega)
  have hR:l1.length+1≤100000:=by rw[h1] at hal;simp at hal;omega
  have hlt:((l1.length:Int)<(a.length:Int))=True:=eq_true (by rw[h1];simp;omega)
  have hi:(0:Int)≤(l1.length:Int):=by omega
  have w3:IntKind.i64.wrap ((l1.length:Int)+1)=(l1.length:Int)+1:=by rw[wrap_i64]<;>omega
  obtain⟨g,e,cs,rfl,hg,hc⟩:=own_at ho (i:=l1.length) (x:=x) (by rw[h1];simp)
  simp only at hg
  have hlt2:l1.length<a.length:=by rw[h1];simp
  have hls:(l1++[x]).length=l1.length+1:=by simp
  by_cases hx:x=t.num
  ·subst hx
   refine⟨nx'+7,fun _=>?_,fun h=>absurd (List.mem_cons_self ..) h,by omega⟩
   rw[qad]
   simp (maxSteps:=1000000) (disch:=omega) only[qif,qg3,↓axP,axQ,seval,qaa,qab,tX,hlt,hlen,hi,hg,hc,hb,Int.toNat_natCast,Nat.mul_one]
  ·obtain⟨nx2,IH,IH2,hn⟩:=ih (l1++[x]) (nx'+7) k (by simp[h1]) (by simp at h4;omega)
   rw[hls] at IH IH2
   simp only[Int.natCast_add,Int.natCast_one] at IH IH2
   refine⟨nx2,fun h=>?_,fun h=>?_,by omega⟩
   ·have h:t.num∈l2:=by
     rcases List.mem_cons.1 h with h|h
     ·exact absurd h.symm hx
     ·exact h
    rw[qad,←IH h]
    simp (maxSteps:=1000000) (disch:=omega) only[qif,qg3,↓axP,axQ,seval,qaa,qab,tX,hlt,hlen,hi,hg,hc,hb,hx,w3,Int.toNat_natCast,Nat.mul_one]
   ·rw[qad,←IH2 (fun hh=>h (List.mem_cons_of_mem _ hh))]
    simp (maxSteps:=1000000) (disch:=omega) only[qif,qg3,↓axP,axQ,seval,qaa,qab,tX,hlt,hlen,hi,hg,hc,hb,hx,w3,Int.toNat_natCast,Nat.mul_one]
end
section
open Go Go.Abs Go.RowKit
attribute [local congr] qai qaj qag
attribute [local congr] qal
theorem ints_app(a:List Int)(n:Int):qgm a++[.int .i64 n]=qgm (a++[n]):=by simp[qgm]
set_option maxHeartbeats 2000000 in
theorem rv_call(F:Nat)(hF:100001<F):∀(d:Nat) (t:Tm),t.height≤d→Fine 1000 t→∀(a:List Int) (o:AV) (B nx:Nat) (gs:Tr Grp) (ms:Tr qbm),a.length+t.size≤100000→AH.wf ⟨nx,gs,ms⟩→Ows ⟨nx,gs,ms⟩ o 1 (qgm a) a.length→OB B o→B≤nx →
  ∃o' H',icall ysRv lsRv F d 133 [.agg (tmC t),o] ⟨nx,gs,ms⟩=some (o',H')∧RvK B nx gs ms o (q0d t a) o' H':=by
 intro d
 induction d with
 |zero=>intro t h;have:=qbo t;omega
 |succ d ih=>
  intro t hd hf a o B nx gs ms hsz hw ho hob hB
  have e0:=qmj hw
  have wfA:AH.wf ⟨nx+1,gs.set nx ⟨0,0,tmC t⟩,ms⟩:=qip hw _
  have owA:=own_box ho ⟨0,0,tmC t⟩ 1 (Nat.le_refl _)
  have b0:(gs.set nx ⟨0,0,tmC t⟩).get nx=some ⟨0,0,tmC t⟩:=Tr.get_set_same _ _ _
  have hk0:RvK B nx gs ms o a o ⟨nx+1,gs.set nx ⟨0,0,tmC t⟩,ms⟩:=⟨wfA,owA,hob,by show nx≤nx+1;omega,rfl,fun g hg h=>⟨Tr.get_set_ne _ _ (by omega),h⟩⟩
  have hoff:Off o nx:=own_off ho (Nat.le_refl _)
  have hsp:=qp7 t
  by_cases k0:t.kind=0
  ·rw[varG_var k0]
   obtain⟨nx2,f1,f2,hn⟩:=rv_find (icall ysRv lsRv F d) F t nx (nx+1) (gs.set nx ⟨0,0,tmC t⟩) ms o a (by omega) b0 owA a [] (nx+1) F rfl (by omega)
   by_cases hm:t.num∈a
   ·rw[if_pos hm]
    have f1:=f1 hm
    simp (maxSteps:=1000000) (disch:=omega) only[↓axP,axQ,seval,qaa,qab] at f1
    refine⟨o,⟨nx2,gs.set nx ⟨0,0,tmC t⟩,ms⟩,qbn rfl rfl rfl ?_,?_⟩
    ·simp (maxSteps:=1000000) (disch:=omega) only[qoa,qak,↓axP,axQ,seval,qaa,qab,tX,e0,k0,f1]
    ·obtain⟨a1,a2,a3,a4,a5,a6⟩:=hk0
     exact⟨fun g hg=>a1 g (by show nx+1≤g;have:nx2≤g:=hg;omega),a2.keep (by show nx+1≤nx2;omega) (fun _ _=>rfl),a3,by show nx≤nx2;omega,a5,a6⟩
   ·rw[if_neg hm]
    have f2:=f2 hm
    simp (maxSteps:=1000000) (disch:=omega) only[↓axP,axQ,seval,qaa,qab] at f2
    have wfB:AH.wf ⟨nx2+1,(gs.set nx ⟨0,0,tmC t⟩).set nx2 ⟨0,0,[.int .i64 t.num]⟩,ms⟩:=fun g hg=>by
     have:nx2+1≤g:=hg
     show (Tr.set _ _ _).get g=none
     rw[Tr.get_set_ne _ _ (by omega)];exact wfA g (by show nx+1≤g;omega)
    have owB:Ows ⟨nx2+1,(gs.set nx ⟨0,0,tmC t⟩).set nx2 ⟨0,0,[.int .i64 t.num]⟩,ms⟩ o 1 (qgm a) a.length:=owA.keep (by show nx+1≤nx2+1;omega) fun g hg=>by
     have:g<nx+1:=hg
     show (Tr.set _ _ _).get g=_
     rw[Tr.get_set_ne _ _ (by omega)]
    have lcx:qan ⟨nx2+1,(gs.set nx ⟨0,0,tmC t⟩).set nx2 ⟨0,0,[.int .i64 t.num]⟩,ms⟩ 1 (.slc nx2 0 0 1 1)=some (1,[.int .i64 t.num]):=by
     simp only[qot,qa8,Tr.get_set_same];rfl
    obtain⟨v',H',p1,p2,p3,p4,p5,p6⟩:=qe5 (x:=.slc nx2 0 0 1 1) (z:=1) (b:=8) (m:=1) (xs:=[.int .i64 t.num]) owB wfB lcx rfl (by omega) (by omega) (by omega)
    have e2:(gs.set nx ⟨0,0,tmC t⟩).get nx2=none:=wfA nx2 (by show nx+1≤nx2;omega)
    have q2:(nx=nx2)=False:=eq_false (by omega)
    refine⟨v',H',qbn rfl rfl rfl ?_,?_⟩
    ·simp (maxSteps:=1000000) (disch:=omega) only[qoa,qak,↓axP,axQ,seval,qaa,qab,tX,e0,k0,f2,b0] at e2 ⊢
     simp (maxSteps:=1000000) (disch:=omega) only[qoa,qak,↓axP,axQ,seval,qaa,qab,tX,e0,k0,f2,b0,e2,q2,p1]
    ·refine⟨p3,by rw[ints_app] at p2;simpa using p2,p6 B (by show B≤nx2+1;omega) hob,Nat.le_trans (by show nx≤nx2+1;omega) p4.1,p5,fun g hg hof=>⟨?_,off_app owB lcx (by omega) p1 (by show g<nx2+1;omega) hof⟩⟩
     rw[p4.2 g (by show g<nx2+1;omega) hof]
     show (Tr.set _ _ _).get g=_
     rw[Tr.get_set_ne _ _ (by omega),Tr.get_set_ne _ _ (by omega)]
  ·rw[varG_mk k0]
   have main:∀(l2 l1:List Tm) (o1:AV) (H1:AH) (F':Nat),t.args=l1++l2→RvK B (nx+1) (gs.set nx ⟨0,0,tmC t⟩) ms o (qgc l1 a) o1 H1→l2.length<F' →
     ∃o' H',iter (ycode (icall ysRv lsRv F d) F quq) F' (mk [(1,o1),(2,.ptr nx 0 0),(6,.int .i64 l1.length)]) H1=some (.exit 2,mk [(1,o')],H')∧RvK B (nx+1) (gs.set nx ⟨0,0,tmC t⟩) ms o (qgc t.args a) o' H':=by
    intro l2
    induction l2 with
    |nil=>
     intro l1 o1 H1 F' h1 h2 h4
     obtain⟨k,rfl⟩:=qam (f:=fun _ _=>none) (n:=F') (by omega)
     rw[List.append_nil] at h1
     have hlt:((l1.length:Int)<(t.args.length:Int))=False:=by rw[h1];simp
     obtain⟨nx1,gs1,ms1⟩:=H1
     have bx:gs1.get nx=some ⟨0,0,tmC t⟩:=by rw[(h2.keep nx (by omega) hoff).1];exact b0
     refine⟨o1,_,?_,by rw[h1];exact h2⟩
     rw[qad]
     simp (maxSteps:=1000000) (disch:=omega) only[qr1,qla,↓axP,axQ,seval,qaa,qab,tX,hlt,bx,List.length_map]
    |cons x l2 ih2=>
     intro l1 o1 H1 F' h1 h2 h4
     obtain⟨k,rfl⟩:=qam (f:=fun _ _=>none) (n:=F') (by omega)
     have hal:=hf.args.1
     have hR:l1.length+1≤1000:=by rw[h1] at hal;simp at hal;omega
     have hlt:((l1.length:Int)<(t.args.length:Int))=True:=eq_true (by rw[h1];simp;omega)
     have hget:(t.args.map tmC)[l1.length]? = some (tmC x):=by rw[h1];simp
     have hi:(0:Int)≤(l1.length:Int):=by omega
     have w3:IntKind.i64.wrap ((l1.length:Int)+1)=(l1.length:Int)+1:=by rw[wrap_i64]<;>omega
     obtain⟨nx1,gs1,ms1⟩:=H1
     have bx:gs1.get nx=some ⟨0,0,tmC t⟩:=by rw[(h2.keep nx (by omega) hoff).1];exact b0
     have hxm:x∈t.args:=by rw[h1];simp
     have hxo:=qnz (n:=d) (by omega) hf x hxm
     have hts:t.size=Tm.sizes l1+(x.size+Tm.sizes l2)+1:=by rw[qdd,h1,qa4];simp[Tm.sizes]
     have hvl:=qmn l1 a
     have hle:=h2.le
     obtain⟨o2,H2,c1,c2⟩:=ih x hxo.1 hxo.2 (qgc l1 a) o1 B nx1 gs1 ms1 (by omega) h2.wf h2.ow h2.ob (by have:nx+1≤nx1:=hle;omega)
     have hvs:qgc (l1++[x]) a=q0d x (qgc l1 a):=by rw[qsh];rfl
     obtain⟨o',H',r1,r2⟩:=ih2 (l1++[x]) o2 H2 k (by simp[h1]) (by rw[hvs];exact h2.trans c2) (by simp at h4;omega)
     have hls:(l1++[x]).length=l1.length+1:=by simp
     rw[hls] at r1
     simp only[Int.natCast_add,Int.natCast_one] at r1
     refine⟨o',H',?_,r2⟩
     obtain⟨nx2,gs2,ms2⟩:=H2
     have vo:o2.one=true∧o2.cells=[o2]∧o2.fit=true:=⟨by rcases c2.ow.2 with⟨rfl,-⟩|⟨g,e,rfl,-⟩<;>rfl,c2.ow.cell,c2.ow.fit⟩
     rw[qad]
     simp (maxSteps:=1000000) (disch:=omega) only[qr1,qla,↓axP,axQ,seval,qaa,qab,tX,hlt,hi,hget,bx,w3,Int.toNat_natCast,List.length_map,c1,r1]
   have hw1:=main t.args [] o ⟨nx+1,gs.set nx ⟨0,0,tmC t⟩,ms⟩ F rfl (RvK.refl wfA owA hob) (by have:=hf.args.1;omega)
   obtain⟨o',H',r1,r2⟩:=hw1
   simp (maxSteps:=1000000) (disch:=omega) only[↓axP,axQ,seval,qaa,qab] at r1
   refine⟨o',H',qbn rfl rfl rfl ?_,?_⟩
   ·obtain⟨nx2,gs2,ms2⟩:=H'
    simp (maxSteps:=1000000) (disch:=omega) only[qoa,qak,↓axP,axQ,seval,qaa,qab,tX,e0,k0,r1]
   ·obtain⟨a1,a2,a3,a4,a5,a6⟩:=r2
    refine⟨a1,a2,a3,by omega,a5,fun g hg h=>?_⟩
    obtain⟨c1,c2⟩:=a6 g (by omega) h
    exact⟨c1.trans (Tr.get_set_ne _ _ (by omega)),c2⟩
end
end Go.Proofs.YtdekdghldblfaaaGreatDoor
