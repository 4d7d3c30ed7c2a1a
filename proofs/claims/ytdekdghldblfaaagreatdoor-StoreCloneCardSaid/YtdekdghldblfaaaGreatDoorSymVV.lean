import Derived.Test.YtdekdghldblfaaaGreatDoorYStA
import Derived.Test.YtdekdghldblfaaaGreatDoorSymA
import Derived.Test.YtdekdghldblfaaaGreatDoorAbsV
import Derived.Test.YtdekdghldblfaaaGreatDoorSymB
import Derived.Test.YtdekdghldblfaaaGreatDoorYStB
set_option linter.unusedVariables false
set_option linter.unusedSimpArgs false
namespace Go.Proofs.YtdekdghldblfaaaGreatDoor
section
open Go Go.Abs Go.RowKit
attribute [local congr] qai qaj qag
attribute [local congr] qal
def Stk(H:AH)(g:Nat)(v:AV)(S:List Tm):Prop:=∃e cs,v=.slc g e 0 S.length 4∧H.gs.get g=some ⟨e,0,cs⟩∧cs.take (S.length*4)=(S.map tmC).flatten∧S.length*4≤cs.length
theorem flat4(S:List Tm):(S.map tmC).flatten.length=S.length*4:=by
 rw[qat (qvk S),List.length_map]
theorem stk_push{H:AH}{g:Nat}{v x:AV}{S:List Tm}{t:Tm}(h:Stk H g v S)(hx:qan H 4 x=some (1,tmC t))(hl:S.length+1≤100000000) :
  ∃v' H',iapp 4 56 v x H=some (v',H')∧Stk H' g v' (S++[t])∧H'.next=H.next∧H'.ms=H.ms∧(∀g',g'≠g→H'.gs.get g'=H.gs.get g'):=by
 obtain⟨e,cs,rfl,hg,ht,hb⟩:=h
 refine⟨.slc g (e+1) 0 (S.length+1) 4,⟨H.next,H.gs.set g ⟨e+1,0,(S.map tmC).flatten++tmC t⟩,H.ms⟩,?_,⟨e+1,(S.map tmC).flatten++tmC t,by simp,Tr.get_set_same _ _ _,?_,?_⟩,rfl,rfl,fun g' hg'=>Tr.get_set_ne _ _ hg'⟩
 ·rw[qn0,hx,qa8]
  simp only[hg,qa8]
  rw[if_neg (by omega),if_pos ⟨trivial,trivial,Nat.zero_le _,by omega,by omega,by omega⟩]
  simp only[List.drop_zero,ht]
 ·have hL:((S.map tmC).flatten++tmC t).length=(S++[t]).length*4:=by rw[List.length_append,flat4,qbf,List.length_append,List.length_singleton];omega
  rw[←hL,List.take_length];simp
 ·have hL:((S.map tmC).flatten++tmC t).length=(S++[t]).length*4:=by rw[List.length_append,flat4,qbf,List.length_append,List.length_singleton];omega
  rw[hL];exact Nat.le_refl _
theorem stk_pop{H:AH}{g:Nat}{v:AV}{S:List Tm}{t:Tm}(h:Stk H g v (S++[t])):∃e,v=.slc g e 0 (S.length+1) 4∧Stk H g (.slc g e 0 S.length 4) S∧iload (some 4) H (.ptr g e (S.length*4))=some (.agg (tmC t)):=by
 obtain⟨e,cs,hv,hg,ht,hb⟩:=h
 rw[List.length_append,List.length_singleton] at hv ht hb
 refine⟨e,hv,⟨e,cs,rfl,hg,?_,by omega⟩,?_⟩
 ·have:=congrArg (List.take (S.length*4)) ht
  rw[List.take_take,Nat.min_eq_left (by omega),List.map_append,List.flatten_append,List.take_left' (flat4 S)] at this
  exact this
 ·have hb':S.length*4+4≤cs.length:=by omega
  rw[qy3,hg,qa8,if_pos ⟨rfl,hb'⟩]
  have:=congrArg (List.drop (S.length*4)) ht
  rw[List.drop_take,List.map_append,List.flatten_append,List.drop_left' (flat4 S)] at this
  rw[show (S.length+1)*4-S.length*4=4 by omega] at this
  simp only[this,List.map_cons,List.map_nil,List.flatten_cons,List.flatten_nil,List.append_nil]
theorem Stk.keep{H H':AH}{g:Nat}{v:AV}{S:List Tm}(h:Stk H g v S)(hg:H'.gs.get g=H.gs.get g):Stk H' g v S:=by
 obtain⟨e,cs,h1,h2,h3⟩:=h
 exact⟨e,cs,h1,by rw[hg];exact h2,h3⟩
section
variable {call:qar} {F0:Nat} {cb:AV} {gst:Nat}
set_option maxHeartbeats 1000000 in
theorem q4n(x:Tm)(bx:Nat)(hx:x.args.length≤1000)(hne:bx≠gst):∀(k:Nat) (S:List Tm) (todo:AV) (H:AH) (F:Nat),k≤x.args.length→S.length+k≤10000000→H.wf→gst<H.next→bx<H.next→H.gs.get bx=some ⟨0,0,tmC x⟩→Stk H gst todo S→k<F →
  ∃todo' H',iter (ycode call F0 q20) F (mk [(1,cb),(5,todo),(6,.ptr bx 0 0),(7,.int .i64 ((k:Int)-1))]) H=some (.exit 2,mk [(1,cb),(5,todo')],H')∧Stk H' gst todo' (S++(x.args.take k).reverse)∧H'.wf∧H.next≤H'.next∧H'.ms=H.ms∧∀g,g<H.next→g≠gst→H'.gs.get g=H.gs.get g:=by
 intro k
 induction k with
 |zero=>
  intro S todo H F h1 h2 h3 h4 h5 h6 h7 h8
  obtain⟨m,rfl⟩:=qam (f:=fun _ _=>none) (n:=F) (by omega)
  refine⟨todo,H,?_,by simpa using h7,h3,Nat.le_refl _,rfl,fun _ _ _=>rfl⟩
  have hlt:((0:Int)≤((0:Nat):Int)-1)=False:=by simp
  rw[qad]
  simp (maxSteps:=1000000) (disch:=omega) only[qxe,qpy,↓axP,axQ,seval,qaa,qab,tX,hlt]
 |succ k ih=>
  intro S todo H F h1 h2 h3 h4 h5 h6 h7 h8
  obtain⟨m,rfl⟩:=qam (f:=fun _ _=>none) (n:=F) (by omega)
  obtain⟨nx,gs,ms⟩:=H
  simp only at h4 h5 h6
  have hlt:((0:Int)≤((k+1:Nat):Int)-1)=True:=eq_true (by omega)
  have hk:((k+1:Nat):Int)-1=(k:Int):=by omega
  have hget:(x.args.map tmC)[k]? = some (tmC (x.args[k]'(by omega))):=by rw[List.getElem?_map,List.getElem?_eq_getElem (by omega)];rfl
  have e0:=qmj h3
  have q1:(bx=nx)=False:=eq_false (by omega)
  have hS:Stk ⟨nx+1,gs.set nx ⟨0,0,tmC (x.args[k]'(by omega))⟩,ms⟩ gst todo S:=h7.keep (Tr.get_set_ne _ _ (by omega))
  obtain⟨v',H',p1,p2,p3,p4,p5⟩:=stk_push (x:=.slc nx 0 0 1 4) (t:=x.args[k]'(by omega)) hS (by simp only[↓axP,axQ,seval,qaa,qab,tX]) (by omega)
  obtain⟨nx',gs',ms'⟩:=H'
  simp only at p3 p4 p5
  subst p3;subst p4
  have wf1:AH.wf ⟨nx+1,gs',ms'⟩:=fun g hg=>by
   have:nx+1≤g:=hg
   show gs'.get g=none
   rw[p5 g (by omega)]
   show (gs.set nx _).get g=none
   rw[Tr.get_set_ne _ _ (by omega)];exact h3 g (by show nx≤g;omega)
  have k6:gs'.get bx=some ⟨0,0,tmC x⟩:=by
   rw[p5 bx hne]
   show (gs.set nx _).get bx=_
   rw[Tr.get_set_ne _ _ (by omega)];exact h6
  obtain⟨todo2,H2,r1,r2,r3,r4,r5,r6⟩:=ih (S++[x.args[k]'(by omega)]) v' ⟨nx+1,gs',ms'⟩ m (by omega) (by simp;omega) wf1 (by show gst<nx+1;omega) (by show bx<nx+1;omega) k6 p2 (by omega)
  refine⟨todo2,H2,?_,?_,r3,?_,r5,fun g hg hn=>?_⟩
  ·rw[qad]
   have hi:(0:Int)≤(k:Int):=by omega
   have hw:IntKind.i64.wrap ((k:Int)-1)=(k:Int)-1:=by rw[wrap_i64]<;>omega
   rw[hk]
   simp (maxSteps:=1000000) (disch:=omega) only[qxe,qpy,↓axP,axQ,seval,qaa,qab,tX,hi,h6,hget,e0,q1,Int.toNat_natCast,hw,p1,r1]
  ·have:S++[x.args[k]'(by omega)]++(x.args.take k).reverse=S++(x.args.take (k+1)).reverse:=by
    rw[List.take_succ_eq_append_getElem (by omega),List.reverse_append]
    simp
   rw[←this];exact r2
  ·have:nx+1≤H2.next:=r4
   show nx≤H2.next
   omega
  ·have:g<nx:=hg
   rw[r6 g (by show g<nx+1;omega) hn]
   show gs'.get g=gs.get g
   rw[p5 g hn]
   show (gs.set nx _).get g=_
   rw[Tr.get_set_ne _ _ (by omega)]
end
mutual
def qc8:Tm→List Tm
 |.mk k n s l=>.mk k n s l::qon l
def qon:List Tm→List Tm
 |[]=>[]
 |t::ts=>qc8 t++qon ts
end
theorem q4r(t:Tm):qc8 t=t::qon t.args:=by cases t;simp[qc8,Tm.args]
theorem qyd:∀a b:List Tm,qon (a++b)=qon a++qon b
 |[],b=>by simp[qon]
 |t::a,b=>by simp[qon,qyd a b]
theorem qms(l:List Tm):Tm.sizes l.reverse=Tm.sizes l:=by
 induction l with
 |nil=>rfl
 |cons t l ih=>rw[List.reverse_cons,qa4,ih];simp[Tm.sizes];omega
set_option maxHeartbeats 2000000 in
theorem q60{call:qar}{F0:Nat}{gst fid:Nat}{caps:List AV}(J:List Tm→AH→Prop)(ok:Tm→Prop)(hok:∀t,ok t→t.args.length≤1000∧∀x∈t.args,ok x)
  (T:Nat) (hcb:∀done x nx gs ms,done.length<T→ok x→J done ⟨nx,gs,ms⟩→AH.wf ⟨nx,gs,ms⟩→gst<nx→∃H',call fid (.agg (tmC x)::caps) ⟨nx+1,gs.set nx ⟨0,0,tmC x⟩,ms⟩=some (.bool true,H')∧J (done++[x]) H'∧H'.wf∧nx+1≤H'.next∧H'.gs.get gst=gs.get gst∧H'.gs.get nx=some ⟨0,0,tmC x⟩)
  (hJ:∀done (H H':AH),J done H→H.next≤H'.next→H'.ms=H.ms→(∀g,g<H.next→g≠gst→H'.gs.get g=H.gs.get g)→J done H') (hF0:1001<F0) :
  ∀(F:Nat) (S done:List Tm) (todo:AV) (H:AH),(∀t∈S,ok t)→Tm.sizes S<F→Tm.sizes S≤1000000→done.length+Tm.sizes S≤T→H.wf→gst<H.next→Stk H gst todo S→J done H →
   ∃H',iter (ycode call F0 q2z) F (mk [(1,.fn (.func fid) caps),(5,todo)]) H=some (.exit 0,mk [],H')∧J (done++qon S.reverse) H'∧H'.wf∧H.next≤H'.next:=by
 intro F
 induction F with
 |zero=>intro S done todo H h0 h1;omega
 |succ F ih=>
  intro S done todo H h0 h1 h2 hT h3 h4 h5 h6
  rcases List.eq_nil_or_concat S with rfl|⟨S0,x,rfl⟩
  ·obtain⟨e,cs,rfl,-⟩:=h5
   refine⟨H,?_,by simpa[qon] using h6,h3,Nat.le_refl _⟩
   rw[qad]
   simp (maxSteps:=1000000) (disch:=omega) only[qxd,qpx,↓axP,axQ,seval,qaa,qab,tX,List.length_nil]
  ·rw[List.concat_eq_append] at *
   obtain⟨e,rfl,hS0,hld⟩:=stk_pop h5
   obtain⟨nx,gs,ms⟩:=H
   simp only at h4
   have hx:=h0 x (by simp)
   obtain⟨hxl,hxa⟩:=hok x hx
   have hsz:Tm.sizes (S0++[x])=Tm.sizes S0+(1+Tm.sizes x.args):=by rw[qa4];simp[Tm.sizes,qdd x];omega
   obtain⟨⟨nx1,gs1,ms1⟩,c1,c2,c3,c4,c5,c6⟩:=hcb done x nx gs ms (by omega) hx h6 h3 h4
   simp only at c4 c5 c6
   have e0:=qmj h3
   have hS1:Stk ⟨nx1,gs1,ms1⟩ gst (.slc gst e 0 S0.length 4) S0:=hS0.keep c5
   obtain⟨todo2,⟨nx2,gs2,ms2⟩,r1,r2,r3,r4,r5,r6⟩:=q4n (call:=call) (F0:=F0) (cb:=.fn (.func fid) caps) x nx hxl (by omega) x.args.length S0 _ ⟨nx1,gs1,ms1⟩ F0 (Nat.le_refl _) (by have:=qis S0;have:=qis x.args;omega) c3 (by show gst<nx1;omega) (by show nx<nx1;omega) c6 hS1 (by omega)
   simp only at r4 r5 r6
   rw[List.take_length] at r2
   obtain ⟨H3,k1,k2,k3,k4⟩:=ih (S0 ++ x.args.reverse) (done ++ [x]) todo2 ⟨nx2,gs2,ms2⟩ (fun t ht=>by
     rcases List.mem_append.1 ht with h|h
     ·exact h0 t (by simp[h])
     ·exact hxa t (by simpa using h))
    (by rw[qa4,qms];omega) (by rw[qa4,qms];omega) (by rw[qa4,qms,List.length_append,List.length_singleton];omega) r3 (by show gst<nx2;omega) r2 (hJ _ _ _ c2 r4 r5 r6)
   refine⟨H3,?_,?_,k3,?_⟩
   ·rw[qad]
    have hpos:(0:Int)<((S0.length+1:Nat):Int):=by omega
    have hSl:=qis S0
    have hw:IntKind.i64.wrap (((S0.length+1:Nat):Int)-1)=(S0.length:Int):=by rw[wrap_i64]<;>omega
    have hw':IntKind.i64.wrap ((S0.length:Int)+1-1)=(S0.length:Int):=by rw[wrap_i64]<;>omega
    have hwx:IntKind.i64.wrap ((x.args.length:Int)-1)=(x.args.length:Int)-1:=by rw[wrap_i64]<;>omega
    have hi:(0:Int)≤(S0.length:Int):=by omega
    have hi2:(S0.length:Int)<(S0.length:Int)+1:=by omega
    have hi3:(0:Int)<(S0.length:Int)+1:=by omega
    have q1:(gst=nx)=False:=eq_false (by omega)
    have hle:S0.length≤S0.length+1:=by omega
    simp (maxSteps:=1000000) (disch:=omega) only[qxd,qpx,↓axP,axQ,seval,qaa,qab,tX,hpos,hw,hw',hi,hi2,hi3,hle,hld,e0,q1,Int.toNat_natCast,List.length_map,c1,c6,hwx,r1,k1,true_or,Nat.sub_zero]
   ·have:done++qon (S0++[x]).reverse=done++[x]++qon (S0++x.args.reverse).reverse:=by
     simp[List.reverse_append,qon,q4r,qyd]
    rw[this];exact k2
   ·show nx≤H3.next
    have:nx2≤H3.next:=k4
    omega
end
section
open Go Go.Abs Go.RowKit
attribute [local congr] qai qaj qag
attribute [local congr] qal
def qax(l:List Tm):List Int:=l.foldl (fun a t=>if t.kind=0∧t.num∉a then a++[t.num] else a) []
theorem qha(l:List Tm)(t:Tm):qax (l++[t])=if t.kind=0∧t.num∉qax l then qax l++[t.num] else qax l:=by
 unfold qax;rw[List.foldl_append];rfl
def qgm(l:List Int):List AV:=l.map (AV.int .i64)
def q1v:Nat→List Int→List (Nat×AV×AV)
 |_,[]=>[]
 |k,n::l=>(k,.int .i64 n,.bool true)::q1v (k+1) l
theorem q6d(n:Int):∀(l:List Int) (k:Nat),n∉l→mfind (.int .i64 n) (q1v k l)=some none
 |[],k,h=>rfl
 |a::l,k,h=>by
  have h1:n≠a:=fun e=>h (by simp[e])
  have h2:n∉l:=fun e=>h (by simp[e])
  rw[q1v,qm9,qkq,qa8,q6d n l (k+1) h2]
  simp[h1]
theorem q6b(n:Int):∀(l:List Int) (k:Nat),n∈l→∃j,mfind (.int .i64 n) (q1v k l)=some (some (j,.bool true))
 |[],k,h=>by cases h
 |a::l,k,h=>by
  rw[q1v,qm9,qkq,qa8]
  by_cases h1:n=a
  ·exact⟨k,by simp[h1]⟩
  ·obtain⟨j,hj⟩:=q6b n l (k+1) (by simpa[h1] using h)
   exact⟨j,by simp[h1,hj]⟩
theorem q6c(n:Int):∀(l:List Int) (k c:Nat),c=k+l.length→n∉l→mset (.int .i64 n) (.bool true) c (q1v k l)=some (c+1,q1v k (l++[n]))
 |[],k,c,hc,h=>by simp at hc;subst hc;rfl
 |a::l,k,c,hc,h=>by
  have h1:n≠a:=fun e=>h (by simp[e])
  have h2:n∉l:=fun e=>h (by simp[e])
  rw[q1v,qyn,qkq,qa8,q6c n l (k+1) c (by simp at hc;omega) h2]
  simp[h1,on,q1v]
def VJ(N:Nat)(gs0:Tr Grp)(ms0:Tr qbm)(done:List Tm)(H:AH):Prop:=∃o,
 H.gs.get (N+1)=some ⟨0,0,[o]⟩∧Ows H o 1 (qgm (qax done)) (qax done).length∧OB (N+6) o∧H.gs.get (N+3)=some ⟨0,0,[.mapp (N+2)]⟩ ∧
 H.ms.get (N+2)=some ((qax done).length,q1v 0 (qax done))∧(∀g,g<N→H.gs.get g=gs0.get g)∧(∀g,g≠N+2→H.ms.get g=ms0.get g)∧N+6≤H.next
theorem VJ.move{N:Nat}{gs0:Tr Grp}{ms0:Tr qbm}(done:List Tm)(H H':AH)(h:VJ N gs0 ms0 done H)(h1:H.next≤H'.next)(h2:H'.ms=H.ms)(h3:∀g,g<H.next→g≠N+5→H'.gs.get g=H.gs.get g):VJ N gs0 ms0 done H':=by
 obtain⟨o,a1,a2,a3,a4,a5,a6,a7,a8⟩:=h
 refine⟨o,by rw[h3 _ (by omega) (by omega)];exact a1,?_,a3,by rw[h3 _ (by omega) (by omega)];exact a4,by rw[h2];exact a5,fun g hg=>by rw[h3 _ (by omega) (by omega)];exact a6 g hg,fun g hg=>by rw[h2];exact a7 g hg,by omega⟩
 obtain⟨hl,q⟩:=a2
 refine⟨hl,?_⟩
 rcases q with q|⟨g,e,q1,q2,q3⟩
 ·exact .inl q
 ·have:=a3 g e 0 _ _ q1
  exact .inr ⟨g,e,q1,by rw[h3 g q3 (by omega)];exact q2,by omega⟩
end
section
open Go Go.Abs Go.RowKit
attribute [local congr] qai qaj qag
attribute [local congr] qal
set_option maxHeartbeats 1000000 in
theorem vars_cb{call:qar}{F0:Nat}{N:Nat}{gs0:Tr Grp}{ms0:Tr qbm}(done:List Tm)(x:Tm)(nx:Nat)(gs:Tr Grp)(ms:Tr qbm)(hJ:VJ N gs0 ms0 done ⟨nx,gs,ms⟩)(hw:AH.wf ⟨nx,gs,ms⟩)(hb:(qax done).length≤1000000) :
  ∃H',yend ql0.res (ycode call F0 ql0.body (xinit [.agg (tmC x),.ptr (N+3) 0 0,.ptr (N+1) 0 0] 0 .nil) ⟨nx+1,gs.set nx ⟨0,0,tmC x⟩,ms⟩)=some (.bool true,H')∧VJ N gs0 ms0 (done++[x]) H'∧H'.wf∧nx+1≤H'.next∧H'.gs.get (N+5)=gs.get (N+5)∧H'.gs.get nx=some ⟨0,0,tmC x⟩:=by
 have hJ0:=hJ
 have move:∀h3:qax (done++[x])=qax done,VJ N gs0 ms0 (done++[x]) ⟨nx+2,(gs.set nx ⟨0,0,tmC x⟩).set (nx+1) ⟨0,0,tmC x⟩,ms⟩:=fun h3=>by
  have:=VJ.move done ⟨nx,gs,ms⟩ ⟨nx+2,(gs.set nx ⟨0,0,tmC x⟩).set (nx+1) ⟨0,0,tmC x⟩,ms⟩ hJ0 (by simp) rfl fun g hg hn=>by
   have:g<nx:=hg
   show ((gs.set nx _).set (nx+1) _).get g=_
   rw[Tr.get_set_ne _ _ (by omega),Tr.get_set_ne _ _ (by omega)]
  unfold VJ at this ⊢
  rw[h3];exact this
 have wf2:AH.wf ⟨nx+2,(gs.set nx ⟨0,0,tmC x⟩).set (nx+1) ⟨0,0,tmC x⟩,ms⟩:=fun g hg=>by
  have:nx+2≤g:=hg
  show ((gs.set nx _).set (nx+1) _).get g=none
  rw[Tr.get_set_ne _ _ (by omega),Tr.get_set_ne _ _ (by omega)];exact hw g (by show nx≤g;omega)
 obtain⟨o,a1,a2,a3,a4,a5,a6,a7,a8⟩:=hJ
 simp only at a1 a4 a5 a6 a7 a8
 have e1:gs.get (nx+1)=none:=hw (nx+1) (Nat.le_succ nx)
 have e2:gs.get (nx+2)=none:=hw (nx+2) (by simp)
 have q1:(nx+1=nx)=False:=by simp
 have q2:(N+3=nx)=False:=eq_false (by omega)
 have q3:(N+3=nx+1)=False:=eq_false (by omega)
 have q4:(N+1=nx)=False:=eq_false (by omega)
 have q5:(N+1=nx+1)=False:=eq_false (by omega)
 by_cases hk:x.kind=0
 ·by_cases hin:x.num∈qax done
  ·obtain⟨j,hj⟩:=q6b x.num (qax done) 0 hin
   have hv:qax (done++[x])=qax done:=by rw[qha,if_neg (by simp[hin])]
   refine⟨⟨nx+2,(gs.set nx ⟨0,0,tmC x⟩).set (nx+1) ⟨0,0,tmC x⟩,ms⟩,?_,?_,?_,?_,?_,?_⟩
   ·simp (maxSteps:=1000000) (disch:=omega) only[ql0,qb7,↓axP,axQ,seval,qaa,qab,tX,hk,e1,q1,q2,q3,q4,q5,a4,a5,hj,Nat.add_assoc]
   ·exact move hv
   ·exact wf2
   ·show nx+1≤nx+2;omega
   ·show ((gs.set nx _).set (nx+1) _).get (N+5)=_
    rw[Tr.get_set_ne _ _ (by omega),Tr.get_set_ne _ _ (by omega)]
   ·show ((gs.set nx _).set (nx+1) _).get nx=_
    rw[Tr.get_set_ne _ _ (by omega),Tr.get_set_same]
  ·have hv:qax (done++[x])=qax done++[x.num]:=by rw[qha,if_pos ⟨hk,hin⟩]
   have hn:=q6d x.num (qax done) 0 hin
   have hset:=q6c x.num (qax done) 0 (qax done).length (by simp) hin
   let gA:=((gs.set nx ⟨0,0,tmC x⟩).set (nx+1) ⟨0,0,tmC x⟩).set (nx+2) ⟨0,0,[.int .i64 x.num]⟩
   let mA:=ms.set (N+2) ((qax done).length+1,q1v 0 (qax done++[x.num]))
   have wfA:AH.wf ⟨nx+3,gA,mA⟩:=fun g hg=>by
    have:nx+3≤g:=hg
    show (((gs.set nx _).set (nx+1) _).set (nx+2) _).get g=none
    rw[Tr.get_set_ne _ _ (by omega),Tr.get_set_ne _ _ (by omega),Tr.get_set_ne _ _ (by omega)];exact hw g (by show nx≤g;omega)
   have owA:Ows ⟨nx+3,gA,mA⟩ o 1 (qgm (qax done)) (qax done).length:=a2.keep (by simp) fun g hg=>by
    have:g<nx:=hg
    show (((gs.set nx _).set (nx+1) _).set (nx+2) _).get g=_
    rw[Tr.get_set_ne _ _ (by omega),Tr.get_set_ne _ _ (by omega),Tr.get_set_ne _ _ (by omega)]
   obtain⟨v',H',p1,p2,p3,p4,p5,p6⟩:=qe5 (x:=.slc (nx+2) 0 0 1 1) (z:=1) (b:=8) (m:=1) (xs:=[.int .i64 x.num]) owA wfA (by simp only[gA,↓axP,axQ,seval,qaa,qab,tX]) rfl (by omega) (by omega) (by omega)
   have kg:∀g,g<N+6→H'.gs.get g=gs.get g:=fun g hg=>by
    rw[p4.get a3 hg (by show g<nx+3;omega)]
    show (((gs.set nx _).set (nx+1) _).set (nx+2) _).get g=_
    rw[Tr.get_set_ne _ _ (by omega),Tr.get_set_ne _ _ (by omega),Tr.get_set_ne _ _ (by omega)]
   have k1:H'.gs.get (N+1)=some ⟨0,0,[o]⟩:=(kg _ (by omega)).trans a1
   have o':=p6 (N+6) (by show N+6≤nx+3;omega) a3
   have hn3:nx+3≤H'.next:=p4.1
   refine⟨⟨H'.next,H'.gs.set (N+1) ⟨0,0,[v']⟩,H'.ms⟩,?_,?_,qp1 p3 (by omega) _,?_,?_,?_⟩
   ·have vo:v'.one=true∧v'.cells=[v']∧v'.fit=true:=by
     obtain⟨-,q⟩:=p2
     rcases q with⟨rfl,-⟩|⟨g,e,rfl,-⟩<;>exact⟨rfl,rfl,rfl⟩
    have pp:iapp 1 8 o (.slc (nx+2) 0 0 1 1) ⟨nx+3,((gs.set nx ⟨0,0,tmC x⟩).set (nx+1) ⟨0,0,tmC x⟩).set (nx+2) ⟨0,0,[.int .i64 x.num]⟩,ms.set (N+2) ((qax done).length+1,q1v 0 (qax done++[x.num]))⟩=some (v',H'):=p1
    have q6:(nx+2=nx)=False:=by simp
    have q7:(nx+2=nx+1)=False:=by simp
    simp (maxSteps:=1000000) (disch:=omega) only[ql0,qb7,↓axP,axQ,seval,qaa,qab,tX,hk,e1,e2,q1,q2,q3,q4,q5,q6,q7,a1,a4,a5,hn,hset,pp,k1,vo.1,vo.2.1,vo.2.2,Nat.add_assoc]
   ·refine⟨v',Tr.get_set_same _ _ _,?_,o',?_,?_,fun g hg=>?_,fun g hg=>?_,by show N+6≤H'.next;omega⟩
    ·rw[hv]
     have:=p2.set (B:=N+6) o' (g:=N+1) (by omega) ⟨0,0,[v']⟩
     simpa[qgm] using this
    ·show (H'.gs.set (N+1) _).get (N+3)=_
     rw[Tr.get_set_ne _ _ (by omega),kg _ (by omega)];exact a4
    ·show H'.ms.get (N+2)=_
     rw[p5,hv]
     show (ms.set (N+2) _).get (N+2)=_
     rw[Tr.get_set_same];simp
    ·show (H'.gs.set (N+1) _).get g=_
     rw[Tr.get_set_ne _ _ (by omega),kg _ (by omega)];exact a6 g hg
    ·show H'.ms.get g=_
     rw[p5]
     show (ms.set (N+2) _).get g=_
     rw[Tr.get_set_ne _ _ hg];exact a7 g hg
   ·show nx+1≤H'.next;omega
   ·show (H'.gs.set (N+1) _).get (N+5)=_
    rw[Tr.get_set_ne _ _ (by omega),kg _ (by omega)]
   ·show (H'.gs.set (N+1) _).get nx=_
    rw [Tr.get_set_ne _ _ (by omega),p4.2 nx (by show nx < nx + 3; omega) (fun e i n z he=>by
     obtain⟨-,q⟩:=a2
     rcases q with⟨q,-⟩|⟨g,e',q,-,q3⟩
     ·rw[q] at he;cases he
     ·rw [q] at he; cases he; exact absurd q3 (Nat.lt_irrefl _))]
    show (((gs.set nx _).set (nx+1) _).set (nx+2) _).get nx=_
    rw[Tr.get_set_ne _ _ (by omega),Tr.get_set_ne _ _ (by omega),Tr.get_set_same]
 ·have hv:qax (done++[x])=qax done:=by rw[qha,if_neg (by simp[hk])]
  refine⟨⟨nx+2,(gs.set nx ⟨0,0,tmC x⟩).set (nx+1) ⟨0,0,tmC x⟩,ms⟩,?_,move hv,wf2,?_,?_,?_⟩
  ·simp (maxSteps:=1000000) (disch:=omega) only[ql0,qb7,↓axP,axQ,seval,qaa,qab,tX,hk,e1,q1,q2,q3,q4,q5,Nat.add_assoc]
  ·show nx+1≤nx+2;omega
  ·show ((gs.set nx _).set (nx+1) _).get (N+5)=_
   rw[Tr.get_set_ne _ _ (by omega),Tr.get_set_ne _ _ (by omega)]
  ·show ((gs.set nx _).set (nx+1) _).get nx=_
   rw[Tr.get_set_ne _ _ (by omega),Tr.get_set_same]
end
section
open Go Go.Abs Go.RowKit
attribute [local congr] qai qaj qag
attribute [local congr] qal
def qjx(t:Tm):List Int:=if t.good=true then qax (qc8 t) else []
def qft(l:List Int):List (List AV):=l.map fun n=>[.int .i64 n]
noncomputable def qiq:List AV→Option AV
 |[x]=>(ofT x).bind fun t=>only (Fine 1000 t) (some (.vals 1 (qft (qjx t))))
 |_=>none
theorem qli{t:Tm}(h:Fine 1000 t):qiq [.agg (tmC t)]=some (.vals 1 (qft (qjx t))):=by
 show (ofT (tmA t)).bind _=_
 rw[qcc];exact qa0 h _
noncomputable abbrev ysV:List (FuncId×YF):=[(94,yEach),(142,ql0)]
noncomputable abbrev lsV:List (FuncId×(List AV→AH→Option (AV×AH))):=[(42,qae qfj)]
def okT(t:Tm):Prop:=Fine 1000 t
theorem okT_args(t:Tm)(h:okT t):t.args.length≤1000∧∀x∈t.args,okT x:=⟨h.args.1,fun x hx=>h.args.2.1 x hx⟩
theorem qmm(l:List Tm):(qax l).length≤l.length:=by
 have h:∀(l:List Tm) (a:List Int),(l.foldl (fun a t=>if t.kind=0∧t.num∉a then a++[t.num] else a) a).length≤a.length+l.length:=by
  intro l
  induction l with
  |nil=>intro a;simp
  |cons t l ih=>
   intro a
   rw[List.foldl_cons]
   refine Nat.le_trans (ih _) ?_
   split<;>simp<;>omega
 simpa[qax] using h l []
end
section
open Go Go.Abs Go.RowKit
attribute [local congr] qai qaj qag
attribute [local congr] qal
mutual
def qa1(r:Int→Option Tm):Tm→Tm
 |.mk k n s l=>if k=0 then (r n).getD (.mk k n s l) else .mk k n s (qsv r l)
def qsv(r:Int→Option Tm):List Tm→List Tm
 |[]=>[]
 |t::ts=>qa1 r t::qsv r ts
end
theorem qiv(r:Int→Option Tm):∀l:List Tm,qsv r l=l.map (qa1 r)
 |[]=>by simp[qsv]
 |t::ts=>by simp[qsv,qiv r ts]
theorem qmx{r:Int→Option Tm}{t:Tm}(h:t.kind=0):qa1 r t=(r t.num).getD t:=by
 cases t;simp only[Tm.kind] at h;simp[qa1,h,Tm.num]
theorem qeg{r:Int→Option Tm}{t:Tm}(h:t.kind≠0):qa1 r t=.mk t.kind t.num t.name (t.args.map (qa1 r)):=by
 cases t;simp only[Tm.kind] at h;simp[qa1,h,Tm.num,Tm.kind,Tm.name,Tm.args,qiv]
def qq5(m:List (Nat×Int×Tm)):List (Nat×AV×AV):=m.map fun e=>(e.1,.int .i64 e.2.1,tmA e.2.2)
theorem entA_inj(a b:List (Nat×Int×Tm))(h:qq5 a=qq5 b):a=b:=by
 induction a generalizing b with
 |nil=>cases b with
  |nil=>rfl
  |cons y b=>simp[qq5] at h
 |cons x a ih=>cases b with
  |nil=>simp[qq5] at h
  |cons y b=>
   simp only[qq5,List.map_cons,List.cons.injEq,Prod.mk.injEq,AV.int.injEq,true_and] at h
   obtain⟨⟨h1,h2,h3⟩,h4⟩:=h
   have:=ih b h4
   subst this
   obtain⟨x1,x2,x3⟩:=x;obtain⟨y1,y2,y3⟩:=y
   simp only at h1 h2 h3
   rw[h1,h2,q3f h3]
noncomputable def ofE(l:List (Nat×AV×AV)):Option (List (Nat×Int×Tm)):=@dite _ (∃t,l=qq5 t) (Classical.propDecidable _) (fun h=>some h.choose) fun _=>none
theorem ofE_eq(m:List (Nat×Int×Tm)):ofE (qq5 m)=some m:=by
 have h:∃t',qq5 m=qq5 t':=⟨m,rfl⟩
 unfold ofE
 rw[dif_pos h]
 exact congrArg some (entA_inj _ _ h.choose_spec).symm
theorem ofE_ok{l:List (Nat×AV×AV)}{m:List (Nat×Int×Tm)}(h:ofE l=some m):l=qq5 m:=by
 unfold ofE at h
 split at h
 ·rename_i hx
  have:=hx.choose_spec
  cases h;exact this
 ·cases h
def rho(m:List (Nat×Int×Tm))(n:Int):Option Tm:=(m.find? fun e=>decide (n=e.2.1)).map (·.2.2)
theorem qzf(n:Int):∀m:List (Nat×Int×Tm),mfind (.int .i64 n) (qq5 m)=some ((m.find? fun e=>decide (n=e.2.1)).map fun e=>(e.1,tmA e.2.2))
 |[]=>rfl
 |e::m=>by
  obtain⟨b,k,t⟩:=e
  show mfind (.int .i64 n) ((b,.int .i64 k,tmA t)::qq5 m)=_
  rw[qm9,qkq,qa8,qzf n m]
  by_cases h:n=k
  ·simp[h]
  ·simp[h]
noncomputable def mapM(v:AV)(ms:Tr qbm):Option (List (Nat×Int×Tm)):=match v with
 |.nilm=>some []
 |.mapp g=>(ms.get g).bind fun es=>ofE es.2
 |_=>none
theorem mapM_get{v:AV}{nx:Nat}{gs:Tr Grp}{ms:Tr qbm}{m:List (Nat×Int×Tm)}(h:mapM v ms=some m)(z:AV)(n:Int) :
  mop (.get (.int .i64) z true) [v,.int .i64 n] ⟨nx,gs,ms⟩=some (.tup [((rho m n).map tmA).getD z,.bool (rho m n).isSome],⟨nx,gs,ms⟩):=by
 unfold mapM at h
 split at h
 ·cases h
  rw[qyo,qyp]
  simp[rho,mres]
 ·rename_i g
  rw[Option.bind_eq_some_iff] at h
  obtain⟨es,h1,h2⟩:=h
  have:=ofE_ok h2
  rw[qqo,qyp]
  simp only[decide_true,if_true,h1,qa8,this,qzf]
  unfold rho
  cases m.find? fun e=>decide (n=e.2.1) with
  |none=>simp[mgres,mres]
  |some e=>simp[mgres,mres]
 ·cases h
noncomputable def qhq(s:List AV→AH→Option AV)(args:List AV)(H:AH):Option (AV×AH):=match s args H with
 |some y=>some (y,H)
 |none=>none
theorem qx7{s:List AV→AH→Option AV}{args:List AV}{H:AH}{y:AV}(h:s args H=some y):qhq s args H=some (y,H):=by simp only[qhq,h]
theorem HookOne.ofRead{P:Program}{f:FuncId}{s:List AV→AH→Option AV}(hb:qa3 P f=true)(h:∀args H y,s args H=some y→ACalls P f args H fun y' H'=>y'=y∧H'=H)(hs:∀args H y R H2,s args H=some y→Ext R H H2→Apart R H→s args H2=some y):HookOne P f (qhq s):=by
 refine⟨hb,fun args H x H' hx=>?_,fun args H x H' hx=>?_⟩
 ·unfold qhq at hx
  split at hx
  ·rename_i y hy;cases hx;exact h args H _ hy
  ·cases hx
 ·unfold qhq at hx
  split at hx
  ·rename_i y hy
   cases hx
   exact FrameR.same fun R H2 he ha=>qx7 (hs args H _ R H2 hy he ha)
  ·cases hx
noncomputable def qhp(n:Nat):List AV→AH→Option AV
 |[x,v],H=>(ofT x).bind fun t=>(mapM v H.ms).bind fun m=>only (t.height≤n∧Fine 1000 t) (some (tmA (qa1 (rho m) t)))
 |_,_=>none
theorem qqc{n:Nat}{t:Tm}{v:AV}{m:List (Nat×Int×Tm)}{H:AH}(hm:mapM v H.ms=some m)(h:t.height≤n∧Fine 1000 t):qhq (qhp n) [.agg (tmC t),v] H=some (.agg (tmC (qa1 (rho m) t)),H):=by
 refine qx7 ?_
 show (ofT (tmA t)).bind _=_
 rw[qcc,Option.bind_some,hm,Option.bind_some];exact qa0 h _
theorem q0t{v:AV}{a b:Tr qbm}(h:∀g,b.get g=a.get g):mapM v b=mapM v a:=by
 unfold mapM
 cases v<;>simp only[h]
theorem qst{n:Nat}{args:List AV}{H H2:AH}{y:AV}{R:Nat→Option Grp}(h:qhp n args H=some y)(he:Ext R H H2):qhp n args H2=some y:=by
 unfold qhp at h ⊢
 split at h
 ·rw[q0t he.ms];exact h
 ·cases h
def RpJ(t:Tm)(B:Nat)(gs0:Tr Grp)(ms0:Tr qbm)(H:AH)(o:AV)(l:List Tm):Prop:=
 H.wf∧B+3≤H.next∧H.gs.get B=some ⟨0,0,tmC t⟩∧H.gs.get (B+1)=some ⟨0,0,[.int .i64 0,.int .i64 0,.str [],.nils]⟩∧H.gs.get (B+2)=some ⟨0,0,[.int .i64 t.kind,.int .i64 t.num,.str t.name,o]⟩∧Ows H o 4 (l.map tmC).flatten l.length∧OB (B+3) o∧(∀g,g<B→H.gs.get g=gs0.get g)∧H.ms=ms0
set_option maxHeartbeats 1000000 in
theorem rp_loop{n:Nat}(F0:Nat)(t:Tm)(B:Nat)(v:AV)(m:List (Nat×Int×Tm))(gs0:Tr Grp)(ms0:Tr qbm)(hv:mapM v ms0=some m)(hl:t.args.length≤1000):∀(l2 l1:List Tm) (o:AV) (H:AH) (F:Nat),t.args=l1++l2→(∀x∈l2,x.height≤n∧Fine 1000 x)→RpJ t B gs0 ms0 H o (l1.map (qa1 (rho m)))→l2.length<F →
  ∃o' H',iter (ycode (tcall [(107,qhq (qhp n))]) F0 ql4) F (mk [(1,v),(4,.ptr (B+1) 0 0),(7,.ptr (B+2) 0 0),(26,.vals 4 (t.args.map tmC)),(27,.int .i64 t.args.length),(28,.int .i64 l1.length)]) H=some (.exit 0,mk [(4,.ptr (B+1) 0 0),(7,.ptr (B+2) 0 0)],H')∧RpJ t B gs0 ms0 H' o' (t.args.map (qa1 (rho m))):=by
 intro l2
 induction l2 with
 |nil=>
  intro l1 o H F h1 h2 h3 h4
  obtain⟨k,rfl⟩:=qam (f:=fun _ _=>none) (n:=F) (by omega)
  rw[List.append_nil] at h1
  have hlt:((l1.length:Int)<(t.args.length:Int))=False:=by rw[h1];simp
  refine⟨o,H,?_,by rw[h1];exact h3⟩
  rw[qad]
  simp (maxSteps:=1000000) (disch:=omega) only[ql3,qg5,↓axP,axQ,seval,qaa,qab,tX,hlt,List.length_map]
 |cons x l2 ih=>
  intro l1 o H F h1 h2 h3 h4
  obtain⟨k,rfl⟩:=qam (f:=fun _ _=>none) (n:=F) (by omega)
  have hR:l1.length+1≤1000:=by rw[h1] at hl;simp at hl;omega
  have hlt:((l1.length:Int)<(t.args.length:Int))=True:=eq_true (by rw[h1];simp;omega)
  have hget:(t.args.map tmC)[l1.length]? = some (tmC x):=by rw[h1];simp
  have hi:(0:Int)≤(l1.length:Int):=by omega
  obtain⟨w1,w2,g0,g1,g2,w3,w4,w5,w6⟩:=h3
  obtain⟨nx,gs,ms⟩:=H
  simp only at g0 g1 g2 w2 w5 w6
  subst w6
  have hx:=h2 x (List.mem_cons_self ..)
  let y:=qa1 (rho m) x
  have g9:=qmj w1
  have e6:gs.get (nx+6)=none:=w1 (nx+6) (by simp)
  have hr:∀(nx':Nat) (gs':Tr Grp),qhq (qhp n) [.agg (tmC x),v] ⟨nx',gs',ms⟩=some (.agg (tmC y),⟨nx',gs',ms⟩):=fun nx' gs'=>qqc (H:=⟨nx',gs',ms⟩) hv hx
  have q1:(B+2=nx)=False:=eq_false (by omega)
  have q2:(B+2=nx+6)=False:=eq_false (by omega)
  have q3:(nx=nx+6)=False:=eq_false (by omega)
  have q4:(nx+6=nx)=False:=eq_false (by omega)
  have wfA:AH.wf ⟨nx+10,(gs.set nx ⟨0,0,tmC x⟩).set (nx+6) ⟨0,0,tmC y⟩,ms⟩:=fun g hg=>by
   show ((gs.set nx _).set (nx+6) _).get g=none
   have:nx+10≤g:=hg
   rw[Tr.get_set_ne _ _ (by omega),Tr.get_set_ne _ _ (by omega)];exact w1 g (by show nx≤g;omega)
  have owA:Ows ⟨nx+10,(gs.set nx ⟨0,0,tmC x⟩).set (nx+6) ⟨0,0,tmC y⟩,ms⟩ o 4 ((l1.map (qa1 (rho m))).map tmC).flatten (l1.map (qa1 (rho m))).length:=w3.keep (by simp) fun g hg=>by
   have:g<nx:=hg
   show ((gs.set nx _).set (nx+6) _).get g=_
   rw[Tr.get_set_ne _ _ (by omega),Tr.get_set_ne _ _ (by omega)]
  rw[List.length_map] at owA
  obtain⟨v',H',e1,e2,e3,e4,e5,e7⟩:=qe5 (x:=.slc (nx+6) 0 0 1 4) (z:=4) (b:=56) (m:=1) (xs:=tmC y) owA wfA (by simp only[↓axP,axQ,seval,qaa,qab,tX]) (qbf y) (by omega) (by omega) (by omega)
  have kg:∀g,g<B+3→H'.gs.get g=gs.get g:=fun g hg=>by
   rw[e4.get w4 hg (by show g<nx+10;omega)]
   show ((gs.set nx _).set (nx+6) _).get g=_
   rw[Tr.get_set_ne _ _ (by omega),Tr.get_set_ne _ _ (by omega)]
  have f0:H'.gs.get B=some ⟨0,0,tmC t⟩:=(kg _ (by omega)).trans g0
  have f1:H'.gs.get (B+1)=some ⟨0,0,[.int .i64 0,.int .i64 0,.str [],.nils]⟩:=(kg _ (by omega)).trans g1
  have f2:H'.gs.get (B+2)=some ⟨0,0,[.int .i64 t.kind,.int .i64 t.num,.str t.name,o]⟩:=(kg _ (by omega)).trans g2
  have o':=e7 (B+3) (by show B+3≤nx+10;omega) w4
  have hn3:B+3≤H'.next:=Nat.le_trans (by show B+3≤nx+10;omega) e4.1
  have hfl:((l1.map (qa1 (rho m))).map tmC).flatten++tmC y=(((l1++[x]).map (qa1 (rho m))).map tmC).flatten:=by simp[y]
  rw[hfl] at e2
  obtain⟨o2,H2,k1,k2⟩:=ih (l1++[x]) v' ⟨H'.next,H'.gs.set (B+2) ⟨0,0,[.int .i64 t.kind,.int .i64 t.num,.str t.name,v']⟩,H'.ms⟩ k (by simp[h1]) (fun y hy=>h2 y (List.mem_cons_of_mem _ hy))
   ⟨qp1 e3 (by omega) _,hn3,by show (H'.gs.set (B + 2) _).get B = _; rw [Tr.get_set_ne _ _ (by omega)]; exact f0,by show (H'.gs.set (B + 2) _).get (B + 1) = _; rw [Tr.get_set_ne _ _ (by omega)]; exact f1,Tr.get_set_same _ _ _,by simpa using e2.set o' (by omega) _,o',
    fun g hg=>by show (H'.gs.set (B + 2) _).get g = _; rw [Tr.get_set_ne _ _ (by omega),kg g (by omega)]; exact w5 g hg,e5⟩ (by simp at h4; omega)
  refine⟨o2,H2,?_,k2⟩
  rw[qad]
  have hs:(l1++[x]).length=l1.length+1:=by simp
  rw[hs] at k1
  simp (maxSteps:=1000000) (disch:=omega) only[↓axP,axQ,seval,qaa,qab] at k1
  simp (maxSteps:=1000000) (disch:=omega) only[ql3,qg5,↓axP,axQ,seval,qaa,qab,tX,hlt,hi,hget,Int.toNat_natCast,List.length_map,g0,g2,g9,q1,q2,q3,q4,e6,hr,e1,f2,e2.fit,e2.cell,k1,Nat.add_assoc]
theorem Ows.fzr{H0 H:AH}{N:Nat}{v:AV}{z n:Nat}{cs:List AV}(h:Ows H v z cs n)(hO:OB N v)(hN:∀g,N≤g→H0.gs.get g=none){rows:List (List AV)}(hn:rows.length=n)(hz:∀row∈rows,row.length=z)(he:cs=rows.flatten)(hp:qa2 cs=true) :
  FzR H (kpR H0 H H0 id) (kmR H0 id) (qes H0 id) v (.vals z rows):=by
 obtain⟨hlen,h⟩:=h
 rcases h with⟨rfl,rfl⟩|⟨g,e,rfl,h2,h3⟩
 ·have:rows=[]:=List.eq_nil_of_length_eq_zero hn
  subst this
  exact .nils z
 ·refine .slc (r:=⟨e,0,cs⟩) (fun g' hg' hgg=>hg' ?_) h2 rfl hn hz (by simp only[hlen];omega) fun j x y hx hy=>?_
  ·have:g'=g:=hgg
   rw[this];exact hN g (hO g e 0 n z rfl)
  ·simp only[Nat.zero_add] at hx
   rw[he,hy] at hx
   cases hx
   exact .pure ((qa6 cs).1 hp _ (by rw[he];exact List.mem_of_getElem? hy))
theorem rp_step{n:Nat}(hrp:HookOne Tryz.prog 107 (qhq (qhp n))):HookOne Tryz.prog 107 (qhq (qhp (n+1))):=by
 refine HookOne.ofRead (by decide +kernel) (fun args H y h=>?_) (fun args H y R H2 h he ha=>?_)
 ·have hl:∀e∈[(107,qhq (qhp n))],HookOne Tryz.prog e.1 e.2:=by
   intro e he;simp at he;subst he;exact hrp
  unfold qhp at h;split at h
  ·rename_i x v
   rw[Option.bind_eq_some_iff] at h
   obtain⟨t,h1,h2⟩:=h
   rw[Option.bind_eq_some_iff] at h2
   obtain⟨m,hm,h2⟩:=h2
   obtain⟨hc,h3⟩:=qau h2
   cases h3
   obtain rfl:=qbr h1
   refine ACalls.onRun hl mixed (draws _ rfl) quv rfl (t.args.length+1) fun N hN hcl=>?_
   obtain⟨nx0,gs,ms⟩:=H
   simp only at hN hm
   have lt:∀g r,gs.get g=some r→g<N:=fun g r h=>by
    rcases Nat.lt_or_ge g N with q|q
    ·exact q
    ·rw[(hN g q).1] at h;cases h
   have e0:=(hN N (Nat.le_refl _)).1
   have e1:=(hN (N+1) (by omega)).1
   have e2:=(hN (N+2) (by omega)).1
   have q1:(N+1=N)=False:=eq_false (by omega)
   have q2:(N=N+1)=False:=eq_false (by omega)
   have q3:(N+2=N)=False:=eq_false (by omega)
   have q4:(N=N+2)=False:=eq_false (by omega)
   have q5:(N+2=N+1)=False:=eq_false (by omega)
   have q6:(N+1=N+2)=False:=eq_false (by omega)
   unfold tmA
   by_cases hk:t.kind=0
   ·have hg:=fun (nx:Nat) (gs':Tr Grp) (z:AV) (k:Int)=>mapM_get (nx:=nx) (gs:=gs') hm z k
    rw[qmx hk]
    cases hr:rho m t.num with
    |none=>
     simp (maxSteps:=1000000) (disch:=omega) only[qld,qak,↓axP,axQ,seval,qaa,qab,tX,hk,e0,e1,e2,q1,q2,q3,q4,q5,q6,hg,hr,Option.map_none,Option.getD_none,Option.isSome_none,Nat.add_assoc]
     refine Comes.some (Canon.pure hcl (fun g r h=>?_) (fun g r h=>h) (qas t))
     have:=lt g r h
     simpa[Tr.get_set,show g≠N by omega,show g≠N+1 by omega,show g≠N+2 by omega] using h
    |some u=>
     simp (maxSteps:=1000000) (disch:=omega) only[qld,qak,↓axP,axQ,seval,qaa,qab,tX,tmA,hk,e0,e1,e2,q1,q2,q3,q4,q5,q6,hg,hr,Option.map_some,Option.getD_some,Option.isSome_some,Nat.add_assoc]
     refine Comes.some (Canon.pure hcl (fun g r h=>?_) (fun g r h=>h) (qas u))
     have:=lt g r h
     simpa[Tr.get_set,show g≠N by omega,show g≠N+1 by omega,show g≠N+2 by omega] using h
   ·rw[qeg hk]
    have hA:∀x∈t.args,x.height≤n∧Fine 1000 x:=fun x hx=>by
     obtain⟨i,hi,rfl⟩:=List.getElem_of_mem hx
     have:=qfv hi
     have h0:=hc.1
     rw[qbk] at h0
     exact⟨by omega,hc.2.args.2.1 _ hx⟩
    have wf0:AH.wf ⟨N+3,((gs.set N ⟨0,0,tmC t⟩).set (N+1) ⟨0,0,[.int .i64 0,.int .i64 0,.str [],.nils]⟩).set (N+2) ⟨0,0,[.int .i64 t.kind,.int .i64 t.num,.str t.name,.nils]⟩,ms⟩:=fun g hg=>by
     have:N+3≤g:=hg
     show (((gs.set N _).set (N+1) _).set (N+2) _).get g=none
     rw[Tr.get_set_ne _ _ (by omega),Tr.get_set_ne _ _ (by omega),Tr.get_set_ne _ _ (by omega)]
     exact (hN g (by omega)).1
    obtain ⟨o',H',k1,w1,w2,g0,g1,g2,w3,w4,w5,w6⟩:=rp_loop (n:=n) (t.args.length + 1) t N v m gs ms hm hc.2.args.1 t.args [] .nils _ (t.args.length + 1) rfl hA ⟨wf0,Nat.le_refl _,by simp only [Tr.get_set]; simp,by simp only [Tr.get_set]; simp,by simp only [Tr.get_set]; simp,qe4 _ _,qi1 _,fun g hg=>by
     show (((gs.set N _).set (N+1) _).set (N+2) _).get g=_
     rw [Tr.get_set_ne _ _ (by omega),Tr.get_set_ne _ _ (by omega),Tr.get_set_ne _ _ (by omega)],rfl⟩ (Nat.lt_succ_self _)
    simp (maxSteps:=1000000) (disch:=omega) only[↓axP,axQ,seval,qaa,qab] at k1
    have ho:o'.one=true:=by
     obtain⟨-,q⟩:=w3
     rcases q with⟨rfl,-⟩|⟨g,e,rfl,-⟩<;>rfl
    have ht3:List.take 3 (tmC t)=[.int .i64 t.kind,.int .i64 t.num,.str t.name]:=by rw[qbq];rfl
    simp (maxSteps:=1000000) (disch:=omega) only[qld,qak,↓axP,axQ,seval,qaa,qab,tX,hk,ht3,e0,e1,e2,q1,q2,q3,q4,q5,q6,k1,g2,g1,ho,Nat.add_assoc,List.length_map]
    refine Comes.some (Canon.same hcl (fun g r h=>?_) (fun g r h=>?_) ?_)
    ·have:=lt g r h
     show (H'.gs.set (N+1) _).get g=_
     rw[Tr.get_set_ne _ _ (by omega),w5 g this];exact h
    ·show H'.ms.get g=_
     rw[w6];exact h
    ·have hT:tmC (.mk t.kind t.num t.name (t.args.map (qa1 (rho m))))=[.int .i64 t.kind,.int .i64 t.num,.str t.name,.vals 4 ((t.args.map (qa1 (rho m))).map tmC)]:=by rw[qbq];rfl
     rw[hT]
     have hO:OB N o':=fun g e i n z h=>by have:=w4 g e i n z h;omega
     have w3':=w3.set (B:=N+3) w4 (g:=N+1) (by omega) ⟨0,0,[.int .i64 t.kind,.int .i64 t.num,.str t.name,o']⟩
     have hF:=Ows.fzr (H0:=⟨nx0,gs,ms⟩) (rows:=(t.args.map (qa1 (rho m))).map tmC) w3' hO (fun g hg=>(hN g hg).1) (by rw[List.length_map]) (qvk _) rfl (qcx (qci _))
     refine .agg rfl fun i x y hx hy=>?_
     rcases i with _|_|_|_|i
     ·cases hx;cases hy;exact .pure rfl
     ·cases hx;cases hy;exact .pure rfl
     ·cases hx;cases hy;exact .pure rfl
     ·cases hx;cases hy;exact hF
     ·cases hx
  ·cases h
 ·exact qst h he
theorem q34:∀n:Nat,HookOne Tryz.prog 107 (qhq (qhp n))
 |0=>by
  refine HookOne.ofRead (by decide +kernel) (fun args H y h=>?_) (fun args H y R H2 h he ha=>?_)
  ·unfold qhp at h;split at h
   ·rename_i x v
    rw[Option.bind_eq_some_iff] at h
    obtain⟨t,h1,h2⟩:=h
    rw[Option.bind_eq_some_iff] at h2
    obtain⟨m,hm,h2⟩:=h2
    obtain⟨hc,h3⟩:=qau h2
    have:=hc.1
    rw[qbk] at this
    omega
   ·cases h
  ·exact qst h he
 |n+1=>rp_step (q34 n)
end
section
open Go Go.Abs Go.RowKit
attribute [local congr] qai qaj qag
attribute [local congr] qal
set_option maxHeartbeats 1000000 in
theorem q62{F N:Nat}{gs0 gs:Tr Grp}{ms0 ms:Tr qbm}{t:Tm}(hF:1001<F)(hFs:Tm.sizes [t]<F)(hf:Fine 1000 t)(hsz:Tm.sizes [t]≤1000000)(hw:AH.wf ⟨N+4,gs,ms⟩)(g1:gs.get (N+1)=some ⟨0,0,[.nils]⟩)(g3:gs.get (N+3)=some ⟨0,0,[.mapp (N+2)]⟩)(m2:ms.get (N+2)=some (0,[]))
  (hg:∀g,g<N→gs.get g=gs0.get g) (hm:∀g,g≠N+2→ms.get g=ms0.get g) :
  ∃H',icall ysV lsV F 3 94 [.agg (tmC t),.fn (.func 142) [.ptr (N+3) 0 0,.ptr (N+1) 0 0]] ⟨N+4,gs,ms⟩=some (.bool true,H')∧VJ N gs0 ms0 (qc8 t) H':=by
 have e4:gs.get (N+4)=none:=hw (N+4) (Nat.le_refl _)
 have e5:gs.get (N+5)=none:=hw (N+5) (by show N+4≤N+5;omega)
 have hVJ:VJ N gs0 ms0 [] ⟨N+6,(gs.set (N+4) ⟨0,0,tmC t⟩).set (N+5) ⟨0,0,tmC t⟩,ms⟩:=by
  refine⟨.nils,?_,qe4 _ _,qi1 _,?_,m2,fun g h=>?_,hm,Nat.le_refl _⟩
  ·show ((gs.set (N+4) _).set (N+5) _).get (N+1)=_
   rw[Tr.get_set_ne _ _ (by omega),Tr.get_set_ne _ _ (by omega)];exact g1
  ·show ((gs.set (N+4) _).set (N+5) _).get (N+3)=_
   rw[Tr.get_set_ne _ _ (by omega),Tr.get_set_ne _ _ (by omega)];exact g3
  ·show ((gs.set (N+4) _).set (N+5) _).get g=_
   rw[Tr.get_set_ne _ _ (by omega),Tr.get_set_ne _ _ (by omega)];exact hg g h
 have wf1:AH.wf ⟨N+6,(gs.set (N+4) ⟨0,0,tmC t⟩).set (N+5) ⟨0,0,tmC t⟩,ms⟩:=fun g h=>by
  have:N+6≤g:=h
  show ((gs.set (N+4) _).set (N+5) _).get g=none
  rw[Tr.get_set_ne _ _ (by omega),Tr.get_set_ne _ _ (by omega)];exact hw g (by show N+4≤g;omega)
 have hcb:∀done x nx gs ms,done.length<1000000→okT x→VJ N gs0 ms0 done ⟨nx,gs,ms⟩→AH.wf ⟨nx,gs,ms⟩→N+5<nx→∃H',icall ysV lsV F 2 142 (.agg (tmC x)::[.ptr (N+3) 0 0,.ptr (N+1) 0 0]) ⟨nx+1,gs.set nx ⟨0,0,tmC x⟩,ms⟩=some (.bool true,H')∧VJ N gs0 ms0 (done++[x]) H'∧H'.wf∧nx+1≤H'.next∧H'.gs.get (N+5)=gs.get (N+5)∧H'.gs.get nx=some ⟨0,0,tmC x⟩:=by
  intro done x nx gs ms h1 h2 h3 h4 h5
  obtain⟨H',e,j,w,n1,k1,k2⟩:=vars_cb (call:=icall ysV lsV F 1) (F0:=F) done x nx gs ms h3 h4 (by have:=qmm done;omega)
  exact⟨H',qbn rfl rfl rfl e,j,w,n1,k1,k2⟩
 obtain⟨H',i1,i2,i3,i4⟩:=q60 (call:=icall ysV lsV F 2) (F0:=F) (gst:=N+5) (fid:=142) (caps:=[.ptr (N+3) 0 0,.ptr (N+1) 0 0]) (VJ N gs0 ms0) okT okT_args 1000000 hcb
  (fun done H H' h1 h2 h3 h4=>VJ.move done H H' h1 h2 h3 h4) hF F [t] [] (.slc (N+5) 0 0 1 4) ⟨N+6,(gs.set (N+4) ⟨0,0,tmC t⟩).set (N+5) ⟨0,0,tmC t⟩,ms⟩
  (fun x hx=>by rw[List.mem_singleton] at hx;subst hx;exact hf) hFs hsz (by simpa using hsz) wf1 (by show N+5<N+6;omega)
  ⟨0,tmC t,rfl,Tr.get_set_same _ _ _,by simp[qxp],by simp[qbf]⟩ hVJ
 refine⟨H',qbn rfl rfl rfl ?_,by simpa[qon] using i2⟩
 have q1:(N+1=N)=False:=eq_false (by omega)
 simp (maxSteps:=1000000) (disch:=omega) only[yEach,qak,↓axP,axQ,seval,qaa,qab,tX,e4,e5,q1,i1,Nat.add_assoc]
theorem qnf(l:List Int):(qft l).flatten=qgm l:=by
 induction l with
 |nil=>rfl
 |cons n l ih=>simp only[qft,qgm,List.map_cons,List.flatten_cons] at ih ⊢;rw[ih];rfl
theorem qm0(l:List Int):qa2 (qgm l)=true:=by
 rw[qa6]
 intro x hx
 simp only[qgm,List.mem_map] at hx
 obtain⟨n,-,rfl⟩:=hx
 rfl
theorem qkg{t:Tm}(hg:t.good=true):Tm.sizes [t]≤2000:=by
 unfold Tm.good at hg
 simp only[Bool.and_eq_true,decide_eq_true_eq] at hg
 simp only[Tm.sizes,Nat.add_zero]
 omega
set_option maxHeartbeats 1000000 in
theorem vars_one:HookOne Tryz.prog 113 (qae qiq):=by
 refine HookOne.ofPureF (by decide +kernel) fun args y h H=>?_
 have hl:∀e∈lsV,HookOne Tryz.prog e.1 e.2:=by
  intro e he;simp[lsV] at he;subst he;exact qgr
 have hy:∀e∈ysV,qbp Tryz.prog (fun _=>true) e.1=some e.2.er:=by
  intro e he
  simp only[ysV,List.mem_cons,List.not_mem_nil,or_false] at he
  rcases he with rfl|rfl
  ·exact yEach_ok
  ·exact q1y
 unfold qiq at h;split at h
 ·rename_i x
  rw[Option.bind_eq_some_iff] at h
  obtain⟨t,h1,h2⟩:=h
  obtain⟨hf,h3⟩:=qau h2
  cases h3
  obtain rfl:=qbr h1
  have hok:=qey (P:=Tryz.prog) mixed (fun f=>draws f rfl) hy hl (1002+Tm.sizes [t]) 3
  refine ACalls.onCall hok.1 hok.2 mixed (draws _ rfl) yVars_ok rfl (1002+Tm.sizes [t]) fun N hN hcl=>?_
  obtain⟨nx0,gs,ms⟩:=H
  simp only at hN
  have lt:∀g r,gs.get g=some r→g<N:=fun g r h=>by
   rcases Nat.lt_or_ge g N with q|q
   ·exact q
   ·rw[(hN g q).1] at h;cases h
  have ltm:∀g r,ms.get g=some r→g<N:=fun g r h=>by
   rcases Nat.lt_or_ge g N with q|q
   ·exact q
   ·rw[(hN g q).2] at h;cases h
  have e0:=(hN N (Nat.le_refl _)).1
  have e1:=(hN (N+1) (by omega)).1
  have e2:=(hN (N+2) (by omega)).2
  have e3:=(hN (N+3) (by omega)).1
  have hgood:∀(nx:Nat) (gs:Tr Grp) (ms:Tr qbm),icall ysV lsV (1002+Tm.sizes [t]) 3 42 [.agg (tmC t)] ⟨nx,gs,ms⟩=some (.bool t.good,⟨nx,gs,ms⟩):=fun nx gs ms=>by
   rw[qay (k:=qae qfj) rfl]
   simp (maxSteps:=1000000) (disch:=omega) only[↓axP,axQ,seval,qaa,qab,tX,qap hf]
  unfold tmA
  cases hg:t.good with
  |false=>
   rw[hg] at hgood
   simp (maxSteps:=1000000) (disch:=omega) only[yVars,qaf,↓axP,axQ,seval,qaa,qab,tX,e0,hgood]
   have hv:qjx t=[]:=by simp[qjx,hg]
   rw[hv]
   refine Comes.some (Canon.same hcl (fun g r h=>?_) (fun g r h=>h) (.nils 1))
   have:=lt g r h
   simpa[Tr.get_set,show g≠N by omega] using h
  |true=>
   rw[hg] at hgood
   have hs:=qkg hg
   let gsA:=((gs.set N ⟨0,0,tmC t⟩).set (N+1) ⟨0,0,[.nils]⟩).set (N+3) ⟨0,0,[.mapp (N+2)]⟩
   let msA:=ms.set (N+2) (0,[])
   obtain⟨H',i1,o,a1,a2,a3,a4,a5,a6,a7,a8⟩:=q62 (F:=1002+Tm.sizes [t]) (N:=N) (gs0:=gs) (ms0:=ms) (gs:=gsA) (ms:=msA) (t:=t) (by omega) (by omega) hf (by omega)
    (fun g h=>by
     have:N+4≤g:=h
     show (((gs.set N _).set (N+1) _).set (N+3) _).get g=none
     rw [Tr.get_set_ne _ _ (by omega),Tr.get_set_ne _ _ (by omega),Tr.get_set_ne _ _ (by omega)]; exact (hN g (by omega)).1)
    (by show (((gs.set N _).set (N+1) _).set (N+3) _).get (N+1)=_;rw[Tr.get_set_ne _ _ (by omega),Tr.get_set_same])
    (Tr.get_set_same _ _ _) (Tr.get_set_same _ _ _)
    (fun g h=>by
     show (((gs.set N _).set (N+1) _).set (N+3) _).get g=_
     rw [Tr.get_set_ne _ _ (by omega),Tr.get_set_ne _ _ (by omega),Tr.get_set_ne _ _ (by omega)])
    (fun g h=>Tr.get_set_ne _ _ h)
   have q1:(N+1=N)=False:=eq_false (by omega)
   have q2:(N+3=N)=False:=eq_false (by omega)
   have q3:(N+3=N+1)=False:=eq_false (by omega)
   have q4:(N=N+1)=False:=eq_false (by omega)
   have q5:(N=N+3)=False:=eq_false (by omega)
   have q6:(N+1=N+3)=False:=eq_false (by omega)
   have i2:icall ysV lsV (1002+Tm.sizes [t]) 3 94 [.agg (tmC t),.fn (.func 142) [.ptr (N+3) 0 0,.ptr (N+1) 0 0]] ⟨N+4,((gs.set N ⟨0,0,tmC t⟩).set (N+1) ⟨0,0,[.nils]⟩).set (N+3) ⟨0,0,[.mapp (N+2)]⟩,ms.set (N+2) (0,[])⟩=some (.bool true,H'):=i1
   obtain⟨nx',gs',ms'⟩:=H'
   simp only at a1 a4 a5 a6 a7 a8
   have vo:o.one=true∧o.cells=[o]∧o.fit=true:=by
    obtain⟨-,q⟩:=a2
    rcases q with⟨rfl,-⟩|⟨g,e',rfl,-⟩<;>exact⟨rfl,rfl,rfl⟩
   simp (maxSteps:=1000000) (disch:=omega) only[yVars,qaf,↓axP,axQ,seval,qaa,qab,tX,e0,e1,e2,e3,q1,q2,q3,q4,q5,q6,hgood,i2,a1,vo.1,vo.2.1,vo.2.2,Nat.add_assoc]
   have hv:qjx t=qax (qc8 t):=by simp[qjx,hg]
   rw[hv]
   refine Comes.some (Canon.same hcl (fun g r h=>?_) (fun g r h=>?_) ?_)
   ·rw[a6 g (lt g r h)];exact h
   ·have:=ltm g r h
    rw[a7 g (by omega)];exact h
   ·refine Ows.fzr a2 a3 (fun g hg=>(hN g (by omega)).1) (by simp[qft]) (fun row hr=>?_) (qnf _).symm (qm0 _)
    simp only[qft,List.mem_map] at hr
    obtain⟨n,-,rfl⟩:=hr
    rfl
 ·cases h
end
section
open Go Go.Abs Go.RowKit
attribute [local congr] qai qaj qag
attribute [local congr] qal
def q0c(n:Int):Tm:=.mk 0 n [] []
noncomputable def tvarS:List AV→Option AV
 |[.int .i64 n]=>some (tmA (q0c n))
 |_=>none
theorem tvar_one:HookOne Tryz.prog 29 (qae tvarS):=by
 refine HookOne.ofPureF (by decide +kernel) fun args y h H=>?_
 unfold tvarS at h;split at h
 ·rename_i n
  cases h
  refine ACalls.ofRun (l:=[]) (by simp) mixed (draws _ rfl) yTVar_ok rfl (by rfl) 0 ?_ H
  simp (maxSteps:=1000000) (disch:=omega) only[yTVar,qaf,↓axP,axQ,seval,qaa,qab,tX]
  refine Ans.some (.ofAgg ?_)
  rw[qbq]
  exact .cons (.pure rfl) (.cons (.pure rfl) (.cons (.pure rfl) (.cons (.nils 4) (.nil _))))
 ·cases h
def qev:Nat→List Int→List (Nat×Int×Tm)
 |_,[]=>[]
 |k,n::l=>(k,n,q0c k)::qev (k+1) l
theorem q4y(n:Int):∀(l:List Int) (k c:Nat),c=k+l.length→n∉l→mset (.int .i64 n) (tmA (q0c c)) c (qq5 (qev k l))=some (c+1,qq5 (qev k (l++[n])))
 |[],k,c,hc,h=>by simp at hc;subst hc;rfl
 |a::l,k,c,hc,h=>by
  have h1:n≠a:=fun e=>h (by simp[e])
  have h2:n∉l:=fun e=>h (by simp[e])
  have ih:=q4y n l (k+1) c (by simp at hc;omega) h2
  show mset (.int .i64 n) (tmA (q0c c)) c ((k,.int .i64 a,tmA (q0c k))::qq5 (qev (k+1) l))=some (c+1,(k,.int .i64 a,tmA (q0c k))::qq5 (qev (k+1) (l++[n])))
  rw[qyn,qkq,qa8,ih]
  simp[h1,on]
theorem q0b(l:List Tm):(qax l).Nodup:=by
 have h:∀(l:List Tm) (a:List Int),a.Nodup→(l.foldl (fun a t=>if t.kind=0∧t.num∉a then a++[t.num] else a) a).Nodup:=by
  intro l
  induction l with
  |nil=>intro a h;exact h
  |cons t l ih=>
   intro a h
   rw[List.foldl_cons]
   refine ih _ ?_
   split
   ·rename_i hc
    rw[List.nodup_append]
    exact⟨h,by simp,fun x hx y hy=>by simp at hy;subst hy;exact fun e=>hc.2 (e▸hx)⟩
   ·exact h
 exact h l [] List.nodup_nil
def qah(t:Tm):Tm:=qa1 (rho (qev 0 (qax (qc8 t)))) t
noncomputable def fromS:List AV→Option AV
 |[x,.int .i64 0]=>(ofT x).bind fun t=>only (t.good=true∧Fine 1000 t) (some (.tup [tmA (qah t),.int .i64 (qax (qc8 t)).length,.int .i64 0]))
 |_=>none
theorem fromS_eq{t:Tm}(h:t.good=true∧Fine 1000 t):fromS [.agg (tmC t),.int .i64 0]=some (.tup [tmA (qah t),.int .i64 (qax (qc8 t)).length,.int .i64 0]):=by
 show (ofT (tmA t)).bind _=_
 rw[qcc];exact qa0 h _
mutual
theorem qvp:∀t:Tm,(qc8 t).length=Tm.sizes [t]
 |.mk k n s l=>by
  have:=qyc l
  simp[qc8,Tm.sizes,Tm.size,this]
theorem qyc:∀l:List Tm,(qon l).length=Tm.sizes l
 |[]=>by simp[qon,Tm.sizes]
 |t::l=>by
  have h1:=qvp t
  have h2:=qyc l
  simp only[Tm.sizes,Nat.add_zero] at h1
  simp[qon,Tm.sizes,h1,h2]
end
noncomputable abbrev lsF:List (FuncId×(List AV→AH→Option (AV×AH))):=[(42,qae qfj),(29,qae tvarS),(113,qae qiq),(107,qhq (qhp 64))]
set_option maxHeartbeats 1000000 in
theorem q6j(F0:Nat)(g nx:Nat)(gs:Tr Grp)(p2 p4:AV)(vs:List Int)(hnd:vs.Nodup)(hvl:vs.length≤2000):∀(l2 l1:List Int) (ms:Tr qbm) (F:Nat),vs=l1++l2→ms.get g=some (l1.length,qq5 (qev 0 l1))→l2.length<F →
  ∃ms',iter (ycode (tcall lsF) F0 q2y) F (mk [(1,.int .i64 l1.length),(2,p2),(4,p4),(7,.mapp g),(24,.vals 1 (qft vs)),(25,.int .i64 vs.length),(26,.int .i64 l1.length)]) ⟨nx,gs,ms⟩=some (.exit 0,mk [(1,.int .i64 vs.length),(2,p2),(4,p4),(7,.mapp g)],⟨nx,gs,ms'⟩)∧ms'.get g=some (vs.length,qq5 (qev 0 vs))∧∀g',g'≠g→ms'.get g'=ms.get g':=by
 intro l2
 induction l2 with
 |nil=>
  intro l1 ms F h1 h2 h4
  obtain⟨k,rfl⟩:=qam (f:=fun _ _=>none) (n:=F) (by omega)
  rw[List.append_nil] at h1
  subst h1
  have hlt:((vs.length:Int)<(vs.length:Int))=False:=by simp
  refine⟨ms,?_,h2,fun _ _=>rfl⟩
  rw[qad]
  simp (maxSteps:=1000000) (disch:=omega) only[qxc,qpw,↓axP,axQ,seval,qaa,qab,tX,hlt]
 |cons n l2 ih=>
  intro l1 ms F h1 h2 h4
  obtain⟨k,rfl⟩:=qam (f:=fun _ _=>none) (n:=F) (by omega)
  have hR:l1.length+1≤2000:=by rw[h1] at hvl;simp at hvl;omega
  have hlt:((l1.length:Int)<(vs.length:Int))=True:=eq_true (by rw[h1];simp;omega)
  have hget:(qft vs)[l1.length]? = some [.int .i64 n]:=by rw[h1];simp[qft]
  have hi:(0:Int)≤(l1.length:Int):=by omega
  have hg:((2147483647:Int)<(l1.length:Int))=False:=eq_false (by omega)
  have hw:IntKind.i64.wrap ((l1.length:Int)+1)=(l1.length:Int)+1:=by rw[wrap_i64]<;>omega
  have hn:n∉l1:=by
   rw[h1] at hnd
   have:=(List.nodup_append.1 hnd).2.2
   exact fun hm=>this n hm n (by simp) rfl
  have hset:=q4y n l1 0 l1.length (by simp) hn
  have hv:tvarS [.int .i64 (l1.length:Int)]=some (.agg (tmC (q0c l1.length))):=rfl
  obtain⟨ms',k1,k2,k3⟩:=ih (l1++[n]) (ms.set g (l1.length+1,qq5 (qev 0 (l1++[n])))) k (by simp[h1]) (by rw[Tr.get_set_same];simp) (by simp at h4;omega)
  refine⟨ms',?_,k2,fun g' hg'=>(k3 g' hg').trans (Tr.get_set_ne _ _ hg')⟩
  rw[qad]
  have hs:(l1++[n]).length=l1.length+1:=by simp
  rw[hs] at k1
  unfold tmA at hset
  simp (maxSteps:=1000000) (disch:=omega) only[↓axP,axQ,seval,qaa,qab] at k1
  simp (maxSteps:=1000000) (disch:=omega) only[qxc,qpw,↓axP,axQ,seval,qaa,qab,tX,hlt,hi,hget,hg,hw,hv,h2,hset,Int.toNat_natCast,k1]
set_option maxHeartbeats 1000000 in
theorem from_one:HookOne Tryz.prog 87 (qae fromS):=by
 refine HookOne.ofPureF (by decide +kernel) fun args y h H=>?_
 have hl:∀e∈lsF,HookOne Tryz.prog e.1 e.2:=by
  intro e he
  simp only[lsF,List.mem_cons,List.not_mem_nil,or_false] at he
  rcases he with rfl|rfl|rfl|rfl
  ·exact qgr
  ·exact tvar_one
  ·exact vars_one
  ·exact q34 64
 unfold fromS at h;split at h
 ·rename_i x
  rw[Option.bind_eq_some_iff] at h
  obtain⟨t,h1,h2⟩:=h
  obtain⟨⟨hg,hf⟩,h3⟩:=qau h2
  cases h3
  obtain rfl:=qbr h1
  refine ACalls.onRun hl mixed (draws _ rfl) yFrom_ok rfl ((qax (qc8 t)).length+1) fun N hN hcl=>?_
  obtain⟨nx0,gs,ms⟩:=H
  simp only at hN
  have lt:∀g r,gs.get g=some r→g<N:=fun g r h=>by
   rcases Nat.lt_or_ge g N with q|q
   ·exact q
   ·rw[(hN g q).1] at h;cases h
  have ltm:∀g r,ms.get g=some r→g<N:=fun g r h=>by
   rcases Nat.lt_or_ge g N with q|q
   ·exact q
   ·rw[(hN g q).2] at h;cases h
  have e0:=(hN N (Nat.le_refl _)).1
  have e1:=(hN (N+1) (by omega)).1
  have e2:=(hN (N+2) (by omega)).2
  have hgd:qfj [.agg (tmC t)]=some (.bool true):=by rw[qap hf,hg]
  have hvars:qiq [.agg (tmC t)]=some (.vals 1 (qft (qax (qc8 t)))):=by rw[qli hf];simp[qjx,hg]
  have q1:(N+1=N)=False:=eq_false (by omega)
  have q2:(N=N+1)=False:=eq_false (by omega)
  have hlen:(qax (qc8 t)).length≤2000:=by
   have h1:=qmm (qc8 t)
   rw[qvp] at h1
   have:=qkg hg
   omega
  have hil:(qft (qax (qc8 t))).length=(qax (qc8 t)).length:=by simp[qft]
  obtain⟨ms',k1,k2,k3⟩:=q6j ((qax (qc8 t)).length+1) (N+2) (N+3) ((gs.set N ⟨0,0,tmC t⟩).set (N+1) ⟨0,0,[.int .i64 0,.int .i64 0,.str [],.nils]⟩) (.ptr N 0 0) (.ptr (N+1) 0 0) (qax (qc8 t)) (q0b _) hlen (qax (qc8 t)) [] (ms.set (N+2) (0,[])) ((qax (qc8 t)).length+1) rfl (Tr.get_set_same _ _ _) (by omega)
  have hrp:∀(nx:Nat) (gs:Tr Grp),qhq (qhp 64) [.agg (tmC t),.mapp (N+2)] ⟨nx,gs,ms'⟩=some (.agg (tmC (qah t)),⟨nx,gs,ms'⟩):=fun nx gs=>
   qqc (H:=⟨nx,gs,ms'⟩) (by show (ms'.get (N+2)).bind _=_;rw[k2];exact ofE_eq _) ⟨(qrx hf hg).1,hf⟩
  unfold tmA
  simp (maxSteps:=1000000) (disch:=omega) only[↓axP,axQ,seval,qaa,qab] at k1
  simp (maxSteps:=1000000) (disch:=omega) only[yFrom,qak,↓axP,axQ,seval,qaa,qab,tX,e0,e1,e2,q1,q2,hgd,hvars,hil,k1,hrp,Nat.add_assoc]
  refine Comes.some (Canon.same hcl (fun g r h=>?_) (fun g r h=>?_) (.pure ?_))
  ·have:=lt g r h
   simpa[Tr.get_set,show g≠N by omega,show g≠N+1 by omega] using h
  ·have:=ltm g r h
   show ms'.get g=some r
   rw[k3 g (by omega),Tr.get_set_ne _ _ (by omega)];exact h
  ·simp[qba,qa2,qcq]
 ·cases h
noncomputable def qs4:List AV→Option AV
 |[x]=>(ofT x).bind fun t=>only (t.good=true∧Fine 1000 t) (some (.tup [tmA (qah t),.int .i64 0]))
 |_=>none
theorem q4t{t:Tm}(h:t.good=true∧Fine 1000 t):qs4 [.agg (tmC t)]=some (.tup [.agg (tmC (qah t)),.int .i64 0]):=by
 show (ofT (tmA t)).bind _=_
 rw[qcc];exact qa0 h _
theorem q4s:HookOne Tryz.prog 35 (qae qs4):=by
 refine HookOne.ofPureF (by decide +kernel) fun args y h H=>?_
 have hl:∀e∈[(87,qae fromS)],HookOne Tryz.prog e.1 e.2:=by
  intro e he;simp at he;subst he;exact from_one
 unfold qs4 at h;split at h
 ·rename_i x
  rw[Option.bind_eq_some_iff] at h
  obtain⟨t,h1,h2⟩:=h
  obtain⟨hc,h3⟩:=qau h2
  cases h3
  obtain rfl:=qbr h1
  refine ACalls.ofRun hl mixed (draws _ rfl) q2v rfl (by simp[qa2,qas]) 0 ?_ H
  have hF:=fromS_eq hc
  unfold tmA at hF ⊢
  simp (maxSteps:=1000000) (disch:=omega) only[yPlain,qaf,↓axP,axQ,seval,qaa,qab,tX,hF]
  exact Ans.some (.ofTup (.cons (.pure (qas _)) (.cons (.pure rfl) (.nil _))))
 ·cases h
end
end Go.Proofs.YtdekdghldblfaaaGreatDoor
