import Derived.Test.YtdekdghldblfaaaGreatDoorAbsS
set_option linter.unusedVariables false
set_option linter.unusedSimpArgs false
namespace Go.Abs
section
open Go Go.RowKit
def FzL(H:AH)(xs ys:List AV):Prop:=xs.length=ys.length∧∀(i:Nat) x y,xs[i]? = some x→ys[i]? = some y→Fz H x y
theorem FzL.nil(H:AH):FzL H [] []:=⟨rfl,fun i x y h=>by simp at h⟩
theorem FzL.cons {H : AH} {x y : AV} {xs ys : List AV} (h : Fz H x y) (t : FzL H xs ys) : FzL H (x :: xs) (y :: ys):=⟨by simp [t.1],fun i a b ha hb=>by
 cases i with
 |zero=>simp at ha hb;subst ha;subst hb;exact h
 | succ i=>exact t.2 i a b (by simpa using ha) (by simpa using hb)⟩
theorem FzL.append {H : AH} {xs ys xs' ys' : List AV} (h : FzL H xs ys) (t : FzL H xs' ys') : FzL H (xs ++ xs') (ys ++ ys'):=⟨by simp [h.1,t.1],fun i a b ha hb=>by
 by_cases hi:i<xs.length
 ·rw[List.getElem?_append_left hi] at ha
  rw[List.getElem?_append_left (by rw[←h.1];exact hi)] at hb
  exact h.2 i a b ha hb
 ·rw[List.getElem?_append_right (by omega)] at ha
  rw[List.getElem?_append_right (by rw[←h.1];omega),←h.1] at hb
  exact t.2 _ a b ha hb⟩
theorem FzL.pure {H : AH} {xs : List AV} (h : qa2 xs = true) : FzL H xs xs:=⟨rfl,fun i a b ha hb=>by
 rw[ha] at hb;cases hb
 exact .pure ((qa6 xs).1 h a (List.mem_of_getElem? ha))⟩
theorem Fz.ofAgg{H:AH}{xs ys:List AV}(h:FzL H xs ys):Fz H (.agg xs) (.agg ys):=.agg h.1 h.2
theorem Fz.ofTup{H:AH}{xs ys:List AV}(h:FzL H xs ys):Fz H (.tup xs) (.tup ys):=.tup h.1 h.2
theorem Fz.ofSlc{H:AH}{g e len z:Nat}{cs:List AV}{rows:List (List AV)}(hg:H.gs.get g=some ⟨e,0,cs⟩)(hn:rows.length=len)(hz:∀row∈rows,row.length=z)(h:FzL H cs rows.flatten):Fz H (.slc g e 0 len z) (.vals z rows):=
 .slc hg rfl hn hz (by show 0+len*z≤cs.length;rw[h.1,qat hz,hn];omega) fun j x y hx hy=>h.2 j x y (by simpa using hx) hy
def AH.wf(H:AH):Prop:=∀g,H.next≤g→H.gs.get g=none
theorem qp2:AH.empty.wf:=fun g _=>Tr.get_nil g
theorem AH.wf.free{H:AH}(h:H.wf):H.gs.get H.next=none:=h _ (Nat.le_refl _)
theorem qmj{nx:Nat}{gs:Tr Grp}{ms:Tr qbm}(h:AH.wf ⟨nx,gs,ms⟩):gs.get nx=none:=h.free
theorem wf_set{nx:Nat}{gs:Tr Grp}{ms:Tr qbm}(h:AH.wf ⟨nx,gs,ms⟩){g:Nat}(hg:g<nx)(r:Grp):AH.wf ⟨nx,gs.set g r,ms⟩:=fun g' hg'=>by
 show (gs.set g r).get g'=none
 rw[Tr.get_set,if_neg (by have:nx≤g':=hg';omega)];exact h g' hg'
theorem qip{nx:Nat}{gs:Tr Grp}{ms:Tr qbm}(h:AH.wf ⟨nx,gs,ms⟩)(r:Grp):AH.wf ⟨nx+1,gs.set nx r,ms⟩:=fun g' hg'=>by
 show (gs.set nx r).get g'=none
 have:nx+1≤g':=hg'
 rw[Tr.get_set,if_neg (by omega)];exact h g' (by show nx≤g';omega)
def Ows(H:AH)(v:AV)(z:Nat)(cs:List AV)(n:Nat):Prop:=
 cs.length=n*z∧((v=.nils∧n=0)∨∃g e,v=.slc g e 0 n z∧H.gs.get g=some ⟨e,0,cs⟩∧g<H.next)
theorem qe4(H:AH)(z:Nat):Ows H .nils z [] 0:=⟨by simp,.inl ⟨rfl,rfl⟩⟩
def OB(B:Nat)(v:AV):Prop:=∀g e i n z,v=.slc g e i n z→B≤g
theorem qi1(B:Nat):OB B .nils:=fun g e i n z h=>by cases h
def Keeps(v:AV)(H H':AH):Prop:=H.next≤H'.next∧∀g,g<H.next→(∀e i n z,v≠.slc g e i n z)→H'.gs.get g=H.gs.get g
theorem qe5{H:AH}{v x:AV}{z b n m:Nat}{cs xs:List AV}(h:Ows H v z cs n)(hw:H.wf)(hx:qan H z x=some (m,xs))(hl:xs.length=m*z)(hm:m≠0)(hb:(n+m)*b≤140737488355328)(hb2:n+m≤9223372036854775807) :
  ∃v' H',iapp z b v x H=some (v',H')∧Ows H' v' z (cs++xs) (n+m)∧H'.wf∧Keeps v H H'∧H'.ms=H.ms∧(∀B,B≤H.next→OB B v→OB B v'):=by
 obtain⟨hlen,h⟩:=h
 rcases h with⟨rfl,rfl⟩|⟨g,e,rfl,hg,hlt⟩
 ·have hcs:cs=[]:=List.eq_nil_of_length_eq_zero (by simpa using hlen)
  subst hcs
  refine⟨.slc H.next 0 0 m z,H.add xs,?_,⟨by simp[hl],.inr ⟨H.next,0,by simp,?_,Nat.lt_succ_self _⟩⟩,?_,⟨Nat.le_succ _,fun g hg _=>?_⟩,rfl,fun B hB _ g e i n z he=>by cases he;exact hB⟩
  ·rw[qlz,hx,qa8]
   simp only[if_neg hm]
   rw[if_pos ⟨by simpa using hb,by simpa using hb2,hw.free⟩]
  ·show (H.gs.set H.next ⟨0,0,xs⟩).get H.next=_
   rw[Tr.get_set_same];simp
  ·obtain⟨nx,gs,ms⟩:=H;exact qip hw _
  ·show (H.gs.set H.next ⟨0,0,xs⟩).get g=_
   rw[Tr.get_set_ne _ _ (by omega)]
 ·refine⟨.slc g (e+1) 0 (n+m) z,⟨H.next,H.gs.set g ⟨e+1,0,cs++xs⟩,H.ms⟩,?_,⟨by rw[List.length_append,hlen,hl,Nat.add_mul],.inr ⟨g,e+1,rfl,?_,hlt⟩⟩,?_,⟨Nat.le_refl _,fun g' hg' hne=>?_⟩,rfl,fun B hB hO g' e' i n z he=>by cases he;exact hO _ _ _ _ _ rfl⟩
  ·rw[qn0,hx,qa8]
   simp only[if_neg hm,hg,qa8]
   rw[if_pos ⟨trivial,trivial,Nat.zero_le _,by omega,hb,hb2⟩]
   simp only[List.drop_zero]
   rw[List.take_of_length_le (by omega)]
  ·show (H.gs.set g _).get g=_
   rw[Tr.get_set_same]
  ·obtain⟨nx,gs,ms⟩:=H;exact wf_set hw hlt _
  ·show (H.gs.set g _).get g'=_
   rw[Tr.get_set_ne _ _ (by rintro rfl;exact hne _ _ _ _ rfl)]
theorem Ows.keep{H H':AH}{v:AV}{z n:Nat}{cs:List AV}(h:Ows H v z cs n)(hk:H.next≤H'.next)(hg:∀g,g<H.next→H'.gs.get g=H.gs.get g):Ows H' v z cs n:=by
 obtain⟨hlen,h⟩:=h
 refine⟨hlen,?_⟩
 rcases h with h|⟨g,e,h1,h2,h3⟩
 ·exact .inl h
 ·exact .inr ⟨g,e,h1,by rw[hg g h3];exact h2,by omega⟩
theorem Ows.add{nx:Nat}{gs:Tr Grp}{ms:Tr qbm}{v:AV}{z n:Nat}{cs:List AV}(h:Ows ⟨nx,gs,ms⟩ v z cs n)(r:Grp):Ows ⟨nx+1,gs.set nx r,ms⟩ v z cs n:=
 h.keep (Nat.le_succ _) fun g hg=>Tr.get_set_ne _ _ (by have:g<nx:=hg;omega)
theorem Ows.fz{H:AH}{v:AV}{z n:Nat}{cs:List AV}(h:Ows H v z cs n){rows:List (List AV)}(hn:rows.length=n)(hz:∀row∈rows,row.length=z)(hf:FzL H cs rows.flatten):Fz H v (.vals z rows):=by
 obtain⟨hlen,h⟩:=h
 rcases h with⟨rfl,rfl⟩|⟨g,e,rfl,h2,h3⟩
 ·have:rows=[]:=List.eq_nil_of_length_eq_zero hn
  subst this
  exact .nils z
 ·exact .ofSlc h2 hn hz hf
theorem Keeps.get{v:AV}{H H':AH}{B g:Nat}(h:Keeps v H H')(hO:OB B v)(hg:g<B)(hn:g<H.next):H'.gs.get g=H.gs.get g:=
 h.2 g hn fun e i n z he=>by have:=hO _ _ _ _ _ he;omega
theorem Ows.fit{H:AH}{v:AV}{z n:Nat}{cs:List AV}(h:Ows H v z cs n):v.fit=true:=by
 obtain⟨-,h⟩:=h
 rcases h with⟨rfl,-⟩|⟨g,e,rfl,-⟩<;>rfl
theorem Ows.cell{H:AH}{v:AV}{z n:Nat}{cs:List AV}(h:Ows H v z cs n):v.cells=[v]:=by
 obtain⟨-,h⟩:=h
 rcases h with⟨rfl,-⟩|⟨g,e,rfl,-⟩<;>rfl
theorem Ows.set{H:AH}{v:AV}{z n B g:Nat}{cs:List AV}(h:Ows H v z cs n)(hO:OB B v)(hg:g<B)(r:Grp):Ows ⟨H.next,H.gs.set g r,H.ms⟩ v z cs n:=by
 obtain⟨hl,h⟩:=h
 refine⟨hl,?_⟩
 rcases h with h|⟨g',e,rfl,h2,h3⟩
 ·exact .inl h
 ·have:=hO _ _ _ _ _ rfl
  exact .inr ⟨g',e,rfl,by show (H.gs.set g r).get g'=_;rw[Tr.get_set_ne _ _ (by omega)];exact h2,h3⟩
theorem Ows.len{H:AH}{v:AV}{z n:Nat}{cs:List AV}(h:Ows H v z cs n)(K:AH):qhx false K v=some (.int .i64 n,K):=by
 obtain⟨hlen,h⟩:=h
 rcases h with⟨rfl,rfl⟩|⟨g,e,rfl,h2,h3⟩
 ·exact len_n K
 ·exact len_l K _ _ _ _ _
theorem Ows.cells{H:AH}{v:AV}{z n:Nat}{cs:List AV}(h:Ows H v z cs n):qan H z v=some (n,cs):=by
 obtain⟨hlen,h⟩:=h
 rcases h with⟨rfl,rfl⟩|⟨g,e,rfl,h2,h3⟩
 ·have:cs=[]:=List.eq_nil_of_length_eq_zero (by simpa using hlen)
  subst this;exact q5s H z
 ·rw[qot,h2,qa8,if_pos ⟨rfl,rfl,by simp;omega⟩]
  simp only[List.drop_zero]
  rw[List.take_of_length_le (by omega)]
theorem qp1{H:AH}(h:H.wf){g:Nat}(hg:g<H.next)(r:Grp):AH.wf ⟨H.next,H.gs.set g r,H.ms⟩:=by
 obtain⟨nx,gs,ms⟩:=H;exact wf_set h hg r
theorem qam{f:Tr AV→AH→XR}{n:Nat}(h:n≠0):∃m,n=m+1:=⟨n-1,by omega⟩
end
section
open Go Go.RowKit
theorem HRel.freeze{K:Kx}{G:Gh}{H:AH}{w:World}(h:HRel K G H w){g:Nat}{r:Grp}(hg:H.gs.get g=some r){b o n:Nat}{cs:Array Value}{t:TypeId}(q:GrpAt K G w g r b o n cs t){m:Nat}(hm:m≤r.cells.length)(hf:r.fz≤m) :
  ∃G2,G.le G2∧G2.mu=G.mu∧(∀j x,j<m→r.cells[j]? = some x→∃u,G2.M b (o+j)=some u∧VR G2 x u)∧HRel K G2 ⟨H.next,H.gs.set g ⟨r.e,m,r.cells⟩,H.ms⟩ w:=by
 have hcell:∀j,j<m→∃u,cs[o+j]? = some u∧u.oneCell'=true∧∀x,r.cells[j]? = some x→VR G x u:=by
  intro j hj
  obtain⟨u,h1,h2,h3⟩:=q.cell j _ (List.getElem?_eq_getElem (by omega))
  exact⟨u,h1,h3,fun x hx=>by rw[List.getElem?_eq_getElem (by omega)] at hx;cases hx;exact h2⟩
 have hM:∀b' o' v,G.M b' o'=some v→(if b'=b∧o≤o'∧o'<o+m then cs[o']? else G.M b' o')=some v:=by
  intro b' o' v hv
  by_cases hc:b'=b∧o≤o'∧o'<o+m
  ·rw[if_pos hc]
   obtain⟨rfl,h1,h2⟩:=hc
   rw[←qby q.heap];exact h.mem _ _ _ hv
  ·rw[if_neg hc];exact hv
 have hle0:G.le ⟨fun b' o'=>if b'=b∧o≤o'∧o'<o+m then cs[o']? else G.M b' o',G.mu,G.mm⟩:=⟨hM,fun _ _ _ h=>h,fun _ _ h=>h⟩
 refine⟨⟨fun b' o'=>if b'=b∧o≤o'∧o'<o+m then cs[o']? else G.M b' o',G.mu,G.mm⟩,hle0,rfl,?_,?_⟩
 ·intro j x hj hx
  obtain⟨u,h1,h2,h3⟩:=hcell j hj
  refine⟨u,?_,VR.mono hle0 _ _ (h3 x hx)⟩
  show (if b=b∧o≤o+j∧o+j<o+m then cs[o+j]? else G.M b (o+j))=some u
  rw[if_pos ⟨rfl,by omega,by omega⟩];exact h1
 ·have hle:G.le ⟨fun b' o'=>if b'=b∧o≤o'∧o'<o+m then cs[o']? else G.M b' o',G.mu,G.mm⟩:=⟨hM,fun _ _ _ h=>h,fun _ _ h=>h⟩
  have hget:∀g',(H.gs.set g ⟨r.e,m,r.cells⟩).get g'=none→H.gs.get g'=none:=by
   intro g' hg'
   rw[Tr.get_set] at hg'
   split at hg'
   ·cases hg'
   ·exact hg'
  have hsome:∀g' r',(H.gs.set g ⟨r.e,m,r.cells⟩).get g'=some r'→∃r0,H.gs.get g'=some r0∧r0.e=r'.e∧r0.cells=r'.cells∧(g'=g→r'.fz=m∧r0=r)∧(g'≠g→r0=r'):=by
   intro g' r' hg'
   rw[Tr.get_set] at hg'
   split at hg'
   ·rename_i he
    cases hg'
    exact⟨r,by rw[he];exact hg,rfl,rfl,fun _=>⟨rfl,rfl⟩,fun hne=>absurd he hne⟩
   ·rename_i he
    exact⟨r',hg',rfl,rfl,fun h=>absurd h he,fun _=>rfl⟩
  refine⟨h.below,h.hB,?_,?_,?_,?_,?_,fun g' hg' e=>h.fresh g' (hget g' hg') e,?_,h.mapart,h.mfresh,?_⟩
  ·intro b' o' v hv
   simp only at hv
   split at hv
   ·rename_i hc
    obtain⟨rfl,_,_⟩:=hc
    rw[qby q.heap];exact hv
   ·exact h.mem _ _ _ hv
  ·intro b' o' v hv
   simp only at hv
   split at hv
   ·rename_i hc
    obtain⟨rfl,h1,h2⟩:=hc
    obtain⟨u,k1,k2,k3⟩:=hcell (o'-o) (by omega)
    rw[show o+(o'-o)=o' by omega] at k1
    rw[k1] at hv;cases hv;exact k2
   ·exact h.ones _ _ _ hv
  ·intro b' o' hb
   simp only
   rw[if_neg (by rintro⟨rfl,_,_⟩;have:=q.low;omega)]
   exact h.old _ _ hb
  ·intro g' r' hg'
   obtain⟨r0,k1,k2,k3,k4,k5⟩:=hsome g' r' hg'
   by_cases he:g'=g
   ·obtain⟨k6,k7⟩:=k4 he
    subst he;subst k7
    refine⟨b,o,n,cs,t,by rw[←k2];exact q.mu,q.low,q.heap,q.size,fun i x hx=>?_,fun j hj=>?_⟩
    ·rw[←k3] at hx
     obtain⟨u,q1,q2,q3⟩:=q.cell i x hx
     exact⟨u,q1,VR.mono hle _ _ q2,q3⟩
    ·simp only
     rw[k6] at hj
     rw[if_neg (by omega)]
     exact q.free j (by omega)
   ·have:=k5 he
    subst this
    obtain⟨b',o',n',cs',t',p⟩:=h.grp g' r0 k1
    have hne:b'≠b:=h.apart g' g r0 r b' o' n' b o n k1 hg he p.mu q.mu
    refine⟨b',o',n',cs',t',p.mu,p.low,p.heap,p.size,fun i x hx=>?_,fun j hj=>?_⟩
    ·obtain⟨u,q1,q2,q3⟩:=p.cell i x hx
     exact⟨u,q1,VR.mono hle _ _ q2,q3⟩
    ·simp only
     rw[if_neg (fun hc=>hne hc.1)]
     exact p.free j hj
  ·intro g1 g2 r1 r2 b1 o1 n1 b2 o2 n2 h1 h2 hne m1 m2
   obtain⟨s1,k1,e1,_⟩:=hsome g1 r1 h1
   obtain⟨s2,k2,e2,_⟩:=hsome g2 r2 h2
   exact h.apart g1 g2 s1 s2 b1 o1 n1 b2 o2 n2 k1 k2 hne (by rw[e1];exact m1) (by rw[e2];exact m2)
  ·intro g' es hg'
   obtain⟨b',l,c,p⟩:=h.maps g' es hg'
   exact⟨b',l,c,p.mm,p.low,p.heap,p.ents.mono hle,p.clock⟩
  ·intro g' r' e hg' hlt
   obtain⟨r0,k1,k2,_⟩:=hsome g' r' hg'
   exact h.ages g' r0 e k1 (by rw[k2];exact hlt)
def frA(x:AV)(H:AH):Option (AV×AH):=
 match x with
 |.slc g e i len z=>match H.gs.get g with
  |some r=>if r.e=e∧i+len*z≤r.cells.length∧r.fz≤r.cells.length then some (.vals z (chunk z len ((r.cells.drop i).take (len*z))),⟨H.next,H.gs.set g ⟨r.e,r.cells.length,r.cells⟩,H.ms⟩) else none
  |none=>none
 |x=>some (x,H)
theorem frA_ok{K:Kx}{G:Gh}{H H':AH}{w:World}(h:HRel K G H w){x y:AV}{u:Value}(hv:VR G x u)(hf:frA x H=some (y,H')):∃G2,G.le G2∧HRel K G2 H' w∧VR G2 y u:=by
 cases x<;>try (simp only[frA] at hf;cases hf;exact⟨G,Gh.le.refl _,h,hv⟩)
 rename_i g e i len z
 simp only[frA] at hf
 cases hg:H.gs.get g with
 |none=>rw[hg] at hf;cases hf
 |some r=>
  rw[hg] at hf
  simp only at hf
  by_cases hc:r.e=e∧i+len*z≤r.cells.length∧r.fz≤r.cells.length
  ·rw[if_pos hc] at hf
   cases hf
   obtain⟨b,o,n,cs,t,q⟩:=h.grp g r hg
   simp only[VR] at hv
   obtain⟨b',o',n',cap,hmu,rfl,hcap,hfit⟩:=hv
   rw[←hc.1,q.mu] at hmu
   cases hmu
   obtain⟨G2,k1,k2,k3,k4⟩:=h.freeze hg q (Nat.le_refl _) hc.2.2
   refine⟨G2,k1,k4,?_⟩
   simp only[VR]
   refine⟨_,cap,by rw[qcm],by rw[qcm];exact hcap,.inr ⟨b,o+i,rfl,qel len _ (o+i) (by rw[List.length_take,List.length_drop];omega) fun j y hj=>?_⟩⟩
   rw[List.getElem?_take] at hj
   split at hj
   ·rw[List.getElem?_drop] at hj
    obtain⟨u,p1,p2⟩:=k3 (i+j) y (List.getElem?_eq_some_iff.1 hj).1 hj
    exact⟨u,by rw[←p1];congr 1;omega,p2⟩
   ·cases hj
  ·rw[if_neg hc] at hf;cases hf
def qtp:List AV→AH→Option (List AV×AH)
 |[],H=>some ([],H)
 |x::xs,H=>match frA x H with
  |some (y,H')=>match qtp xs H' with
   |some (ys,H'')=>some (y::ys,H'')
   |none=>none
  |none=>none
theorem q6k{K:Kx}{w:World}:∀(xs:List AV) (G:Gh) (H:AH) (us:List Value) (ys:List AV) (H':AH),HRel K G H w→VRs G xs us→qtp xs H=some (ys,H')→∃G2,G.le G2∧HRel K G2 H' w∧VRs G2 ys us
 |[],G,H,us,ys,H',h,hv,hf=>by simp only[qtp] at hf;cases hf;exact⟨G,Gh.le.refl _,h,hv⟩
 |x::xs,G,H,us,ys,H',h,hv,hf=>by
  simp only[VRs] at hv
  obtain⟨u,us',rfl,h1,h2⟩:=hv
  simp only[qtp] at hf
  split at hf
  ·rename_i y H1 e1
   split at hf
   ·rename_i ys' H2 e2
    cases hf
    obtain⟨G2,k1,k2,k3⟩:=frA_ok h h1 e1
    obtain⟨G3,p1,p2,p3⟩:=q6k xs G2 _ us' _ _ k2 (VRs.mono k1 _ _ h2) e2
    exact⟨G3,k1.trans p1,p2,by simp only[VRs];exact⟨u,us',rfl,VR.mono p1 _ _ k3,p3⟩⟩
   ·cases hf
  ·cases hf
theorem q6n{x y:AV}{H H':AH}(h:frA x H=some (y,H')):FrameR y H H' (frA x):=by
 cases x<;>try (simp only[frA] at h;cases h;exact FrameR.same fun R H2 _ _=>rfl)
 rename_i g e i len z
 simp only[frA] at h
 cases hg:H.gs.get g with
 |none=>rw[hg] at h;cases h
 |some r=>
  rw[hg] at h
  simp only at h
  split at h
  ·rename_i hc
   cases h
   refine⟨Grows.put H g _ H.next,fun R H2 he ha=>?_⟩
   have hR:R g=none:=Apart.not (H:=H) (r:=⟨r.e,r.cells.length,r.cells⟩) (nx:=H.next) ha
   have hg2:H2.gs.get g=some r:=by rw[he.gs,hR];exact hg
   refine⟨⟨H2.next,H2.gs.set g ⟨r.e,r.cells.length,r.cells⟩,H2.ms⟩,by simp only[frA,hg2];rw[if_pos hc],?_⟩
   have:=Ext.put (nx:=H.next) (r:=⟨r.e,r.cells.length,r.cells⟩) he hR
   unfold AH.put at this
   rw[he.next]
   exact this
  ·cases h
theorem qox:∀{xs ys:List AV} {H H':AH},qtp xs H=some (ys,H')→qzy ys H H' (qtp xs)
 |[],ys,H,H',h=>by
  simp only[qtp] at h;cases h
  exact⟨Grows.refl H,fun R H2 he ha=>⟨H2,rfl,he⟩⟩
 |x::xs,ys,H,H',h=>by
  simp only[qtp] at h
  split at h
  ·rename_i y H1 e1
   split at h
   ·rename_i ys' H2 e2
    cases h
    obtain⟨q1,q2⟩:=q6n e1
    obtain⟨p1,p2⟩:=qox e2
    refine⟨q1.trans p1,fun R H3 he ha=>?_⟩
    obtain⟨H4,k1,k2⟩:=q2 R H3 he (ha.back p1)
    obtain⟨H5,k3,k4⟩:=p2 R H4 k2 ha
    exact⟨H5,by simp only[qtp,k1,k3],k4⟩
   ·cases h
  ·cases h
def qae(s:List AV→Option AV)(args:List AV)(H:AH):Option (AV×AH):=
 match qtp args H with
 |some (xs,H')=>match s xs with
  |some y=>some (y,H')
  |none=>none
 |none=>none
theorem HookOne.ofPureF{P:Program}{f:FuncId}{s:List AV→Option AV}(hb:qa3 P f=true)(h:∀args y,s args=some y→∀H,ACalls P f args H fun y' H'=>y'=y∧H'=H):HookOne P f (qae s):=by
 refine⟨hb,fun args H x H' hx=>?_,fun args H x H' hx=>?_⟩
 ·unfold qae at hx
  split at hx
  ·rename_i xs H1 e1
   split at hx
   ·rename_i y hy
    cases hx
    intro K G vs w hr hv
    obtain⟨G2,k1,k2,k3⟩:=q6k args G H vs.toList xs _ hr hv e1
    exact (h xs _ hy _ K G2 vs w k2 k3).mono fun e w' ⟨u,x',G',H'',p1,p2,p3,p4,p5⟩=>⟨u,x',G',H'',p1,k1.trans p2,p3,p4,p5⟩
   ·cases hx
  ·cases hx
 ·unfold qae at hx
  split at hx
  ·rename_i xs H1 e1
   split at hx
   ·rename_i y hy
    cases hx
    obtain⟨q1,q2⟩:=qox e1
    refine⟨q1,fun R H2 he ha=>?_⟩
    obtain⟨H3,k1,k2⟩:=q2 R H2 he ha
    exact⟨H3,by simp only[qae,k1,hy],k2⟩
   ·cases hx
  ·cases hx
theorem pureF_on(s:List AV→Option AV)(args:List AV)(H:AH):qae s args H=on (qtp args H) fun p=>on (s p.1) fun y=>some (y,p.2):=by
 simp only[qae,on]
 cases qtp args H with
 |none=>rfl
 |some p=>obtain⟨xs,H'⟩:=p;simp only;cases s xs<;>rfl
theorem frAs_nil(H:AH):qtp [] H=some ([],H):=(rfl)
theorem q6l(x:AV)(xs:List AV)(H:AH):qtp (x::xs) H=on (frA x H) fun p=>on (qtp xs p.2) fun q=>some (p.1::q.1,q.2):=by
 simp only[qtp,on]
 cases frA x H with
 |none=>rfl
 |some p=>obtain⟨y,H'⟩:=p;simp only;cases qtp xs H'<;>rfl
theorem q6m(g e i len z:Nat)(H:AH):frA (.slc g e i len z) H=on (H.gs.get g) fun r=>if r.e=e∧i+len*z≤r.cells.length∧r.fz≤r.cells.length then some (.vals z (chunk z len ((r.cells.drop i).take (len*z))),⟨H.next,H.gs.set g ⟨r.e,r.cells.length,r.cells⟩,H.ms⟩) else none:=by
 simp only[frA,on];cases H.gs.get g<;>rfl
section
variable (H:AH)
theorem frA_agg(cs:List AV):frA (.agg cs) H=some (.agg cs,H):=(rfl)
theorem frA_int(k:IntKind)(n:Int):frA (.int k n) H=some (.int k n,H):=(rfl)
theorem frA_str(s:List UInt8):frA (.str s) H=some (.str s,H):=(rfl)
theorem frA_bool(b:Bool):frA (.bool b) H=some (.bool b,H):=(rfl)
theorem frA_vals(z:Nat)(rows:List (List AV)):frA (.vals z rows) H=some (.vals z rows,H):=(rfl)
theorem frA_nils:frA .nils H=some (.nils,H):=(rfl)
theorem frA_zslc:frA .zslc H=some (.zslc,H):=(rfl)
theorem frA_nilp:frA .nilp H=some (.nilp,H):=(rfl)
theorem frA_nilm:frA .nilm H=some (.nilm,H):=(rfl)
theorem frA_ptr(g e i:Nat):frA (.ptr g e i) H=some (.ptr g e i,H):=(rfl)
theorem frA_vptr(r:List AV)(i:Nat):frA (.vptr r i) H=some (.vptr r i,H):=(rfl)
theorem frA_fn(f:Fn)(cap:List AV):frA (.fn f cap) H=some (.fn f cap,H):=(rfl)
end
theorem q1m(z:Nat)(l:List AV):chunk z 0 l=[]:=(rfl)
theorem qpa(z m:Nat)(l:List AV):chunk z (m+1) l=l.take z::chunk z m (l.drop z):=(rfl)
end
section
open Go Go.RowKit
set_option linter.defProp false
def onN{α β:Type}(o:Option α)(x:Option β):Option β:=match o with|none=>x|some _=>none
theorem onN_n{α β:Type}(x:Option β):onN (none:Option α) x=x:=(rfl)
def mgres(z:AV)(ok:Bool)(H:AH):Option (Nat×AV)→Option (AV×AH)
 |none=>some (mres ok z false,H)
 |some x=>some (mres ok x.2 true,H)
theorem mgres_n(z:AV)(ok:Bool)(H:AH):mgres z ok H none=some (mres ok z false,H):=(rfl)
theorem mgres_s(z:AV)(ok:Bool)(H:AH)(n:Nat)(x:AV):mgres z ok H (some (n,x))=some (mres ok x true,H):=(rfl)
theorem mres_t(x:AV)(b:Bool):mres true x b=.tup [x,.bool b]:=(rfl)
theorem mres_f(x:AV)(b:Bool):mres false x b=x:=(rfl)
theorem mop_mk(nx:Nat)(gs:Tr Grp)(ms:Tr qbm):mop .make [] ⟨nx,gs,ms⟩=onN (ms.get nx) (some (.mapp nx,⟨nx+1,gs,ms.set nx (0,[])⟩)):=by
 simp only[mop,qm8,onN]
 cases ms.get nx<;>rfl
theorem qqo(kk:MK)(z:AV)(ok:Bool)(g:Nat)(k:AV)(H:AH):mop (.get kk z ok) [.mapp g,k] H=if mkey kk k=true then on (H.ms.get g) fun es=>on (mfind k es.2) fun r=>mgres z ok H r else none:=by
 simp only[mop,qn7,on]
 cases mkey kk k with
 |false=>rfl
 |true=>
  simp only[cond_true,if_true]
  cases H.ms.get g with
  |none=>rfl
  |some es=>
   simp only
   cases mfind k es.2 with
   |none=>rfl
   |some r=>cases r<;>rfl
theorem qyo(kk:MK)(z:AV)(ok:Bool)(k:AV)(H:AH):mop (.get kk z ok) [.nilm,k] H=if mkey kk k=true then some (mres ok z false,H) else none:=by
 simp only[mop,qn7];cases mkey kk k<;>rfl
theorem mop_put(kk:MK)(g:Nat)(k x:AV)(H:AH):mop (.put kk) [.mapp g,k,x] H=if mkey kk k=true then on (H.ms.get g) fun es=>on (mset k x es.1 es.2) fun es'=>some (.und,⟨H.next,H.gs,H.ms.set g es'⟩) else none:=by
 simp only[mop,qvz,on]
 cases mkey kk k with
 |false=>rfl
 |true=>
  simp only[cond_true,if_true]
  cases H.ms.get g with
  |none=>rfl
  |some es=>simp only;cases mset k x es.1 es.2<;>rfl
theorem mop_len(g:Nat)(H:AH):mop .len [.mapp g] H=on (H.ms.get g) fun es=>some (.int .i64 es.2.length,H):=by
 simp only[mop,qta,on];cases H.ms.get g<;>rfl
theorem mop_lenn(H:AH):mop .len [.nilm] H=some (.int .i64 0,H):=(rfl)
theorem mop_del(kk:MK)(g:Nat)(k:AV)(H:AH):mop (.del kk) [.mapp g,k] H=if mkey kk k=true then on (H.ms.get g) fun es=>on (mcut k es.2) fun es'=>some (.tup [],⟨H.next,H.gs,H.ms.set g (es.1,es')⟩) else none:=by
 simp only[mop,qtb,on]
 cases mkey kk k with
 |false=>rfl
 |true=>
  simp only[cond_true,if_true]
  cases H.ms.get g with
  |none=>rfl
  |some es=>simp only;cases mcut k es.2<;>rfl
theorem qyp(k k':IntKind)(n:Int):mkey (.int k) (.int k' n)=decide (k'=k):=(rfl)
theorem mkey_s(s:List UInt8):mkey .str (.str s)=true:=(rfl)
theorem mkey_b(b:Bool):mkey .bool (.bool b)=true:=(rfl)
theorem qkq(k:IntKind)(a b:Int):mcmp (.int k a) (.int k b)=some (decide (a=b)):=by simp[mcmp]
theorem mcmp_s(a b:List UInt8):mcmp (.str a) (.str b)=some (decide (a=b)):=(rfl)
theorem mcmp_b(a b:Bool):mcmp (.bool a) (.bool b)=some (a==b):=(rfl)
theorem mfind_n(k:AV):mfind k []=some none:=(rfl)
theorem qm9(k k' x:AV)(n:Nat)(es:List (Nat×AV×AV)):mfind k ((n,k',x)::es)=on (mcmp k k') fun b=>if b=true then some (some (n,x)) else mfind k es:=by
 simp only[mfind,on]
 cases mcmp k k' with
 |none=>rfl
 |some b=>cases b<;>rfl
theorem mset_n(k x:AV)(c:Nat):mset k x c []=some (c+1,[(c,k,x)]):=(rfl)
theorem qyn(k x k' y:AV)(c n:Nat)(es:List (Nat×AV×AV)):mset k x c ((n,k',y)::es)=on (mcmp k k') fun b=>if b=true then some (c,(n,k,x)::es) else on (mset k x c es) fun p=>some (p.1,(n,k',y)::p.2):=by
 simp only[mset,on]
 cases mcmp k k' with
 |none=>rfl
 |some b=>
  cases b
  ·simp only[Bool.false_eq_true,if_false]
   cases mset k x c es<;>rfl
  ·rfl
theorem mcut_n(k:AV):mcut k []=some []:=(rfl)
theorem mcut_c(k k' y:AV)(n:Nat)(es:List (Nat×AV×AV)):mcut k ((n,k',y)::es)=on (mcmp k k') fun b=>if b=true then some es else on (mcut k es) fun es'=>some ((n,k',y)::es'):=by
 simp only[mcut,on]
 cases mcmp k k' with
 |none=>rfl
 |some b=>
  cases b
  ·simp only[Bool.false_eq_true,if_false]
   cases mcut k es<;>rfl
  ·rfl
def mentR(k z:AV)(g:Nat)(es:qbm)(H:AH):Option (Nat×AV)→Option (AV×AH)
 |some x=>some (.tup [x.2,.int .i64 x.1],H)
 |none=>on (mset k z es.1 es.2) fun es'=>some (.tup [z,.int .i64 es.1],⟨H.next,H.gs,H.ms.set g es'⟩)
theorem mentR_s(k z:AV)(g:Nat)(es:qbm)(H:AH)(n:Nat)(x:AV):mentR k z g es H (some (n,x))=some (.tup [x,.int .i64 n],H):=(rfl)
theorem mentR_n(k z:AV)(g:Nat)(es:qbm)(H:AH):mentR k z g es H none=on (mset k z es.1 es.2) fun es'=>some (.tup [z,.int .i64 es.1],⟨H.next,H.gs,H.ms.set g es'⟩):=(rfl)
theorem q5c(kk:MK)(z:AV)(g:Nat)(k:AV)(H:AH):mop (.entry kk z) [.mapp g,k] H=if mkey kk k=true then on (H.ms.get g) fun es=>on (mfind k es.2) fun r=>mentR k z g es H r else none:=by
 simp only[mop,qgk,on]
 cases mkey kk k with
 |false=>rfl
 |true=>
  simp only[cond_true,if_true]
  cases H.ms.get g with
  |none=>rfl
  |some es=>
   simp only
   cases mfind k es.2 with
   |none=>rfl
   |some r=>
    cases r with
    |some x=>rfl
    |none=>
     simp only[mentR,on]
     cases mset k z es.1 es.2<;>rfl
theorem mop_sete(g:Nat)(kd:IntKind)(b:Int)(x:AV)(H:AH):mop .sete [.mapp g,.int kd b,x] H=on (H.ms.get g) fun es=>on (mstamp b x es.2) fun es'=>some (.und,⟨H.next,H.gs,H.ms.set g (es.1,es')⟩):=by
 simp only[mop,qm7,on]
 cases H.ms.get g with
 |none=>rfl
 |some es=>simp only;cases mstamp b x es.2<;>rfl
theorem mstamp_c(b:Int)(x k y:AV)(n:Nat)(es:List (Nat×AV×AV)):mstamp b x ((n,k,y)::es)=if (n:Int)=b then some ((n,k,x)::es) else on (mstamp b x es) fun es'=>some ((n,k,y)::es'):=by
 simp only[mstamp,on]
 split
 ·rfl
 ·cases mstamp b x es<;>rfl
set_option maxRecDepth 10000
def axP:=And.intro @if_true.{1} (And.intro @if_false.{1} (And.intro @y_opse (And.intro @y_skip (And.intro @y_exit (And.intro @y_ret (And.intro @y_ops0 (And.intro @y_ops1 (And.intro @y_opsg (And.intro @y_seq (And.intro @y_cond (And.intro @y_block (And.intro @y_loop (And.intro @y_tb (And.intro @y_ta (And.intro @x_op (And.intro @x_call (And.intro @onf_fn (And.intro @qa8 (And.intro @br_t (And.intro @br_f (And.intro @bl_n (And.intro @bl_r (And.intro @iev_sv (And.intro @iev_sc (And.intro @xput_sd (And.intro @xput_sn (And.intro @q6u (And.intro @yend_n (And.intro @yend_r (And.intro @dq_some (And.intro @opk_some (And.intro @gdk_tt (And.intro @gdk_ff (And.intro @gdk_tf (And.intro @gdk_ft (And.intro @gdk_u (And.intro @sqk_n (And.intro @sqk_r (And.intro @sqk_e (And.intro @brk_t (And.intro @brk_f (And.intro @tbk_some (And.intro @tak_r (And.intro @tak_e (And.intro @dok_some (And.intro @dgk_tt (And.intro @dgk_ff (And.intro @dgk_tf (And.intro @dgk_ft @dgk_u)))))))))))))))))))))))))))))))))))))))))))))))))
def axQ:=And.intro @ite_true.{1} (And.intro @ite_false.{1} (And.intro @ne_eq.{1} (And.intro @eq_self.{1} (And.intro @List.all_cons.{0} (And.intro @List.all_nil.{0} (And.intro @List.length_cons.{0} (And.intro @List.length_nil.{0} (And.intro @List.take_succ_cons.{0} (And.intro @List.take_zero.{0} (And.intro @List.take_nil.{0} (And.intro @List.drop_succ_cons.{0} (And.intro @List.drop_zero.{0} (And.intro @List.drop_nil.{0} (And.intro @List.getElem?_cons_zero.{0} (And.intro @List.getElem?_cons_succ.{0} (And.intro @List.getElem?_nil.{0} (And.intro @List.nil_append.{0} (And.intro @List.cons_append.{0} (And.intro @List.append_nil.{0} (And.intro @List.flatten_cons.{0} (And.intro @List.flatten_nil.{0} (And.intro @List.elem_nil.{0} (And.intro @List.elem_cons.{0} (And.intro @List.all_append.{0} (And.intro @List.take_append.{0} (And.intro @List.drop_append.{0} (And.intro @List.length_append.{0} (And.intro @mstamp_c (And.intro @mop_sete (And.intro @q5c (And.intro @mentR_n (And.intro @mentR_s (And.intro @mcut_c (And.intro @mcut_n (And.intro @qyn (And.intro @mset_n (And.intro @qm9 (And.intro @mfind_n (And.intro @mcmp_b (And.intro @mcmp_s (And.intro @qkq (And.intro @mkey_b (And.intro @mkey_s (And.intro @qyp (And.intro @mop_del (And.intro @mop_lenn (And.intro @mop_len (And.intro @mop_put (And.intro @qyo (And.intro @qqo (And.intro @mop_mk (And.intro @mres_f (And.intro @mres_t (And.intro @mgres_s (And.intro @mgres_n (And.intro @onN_n (And.intro @i_mop (And.intro @bl_e (And.intro @ievs_nil (And.intro @q52 (And.intro @q0z (And.intro @qv6 (And.intro @q54 (And.intro @q53 (And.intro @q3h (And.intro @q0g (And.intro @i_ev (And.intro @i_pick (And.intro @i_new (And.intro @i_build (And.intro @i_bslice (And.intro @i_mkif (And.intro @i_empty (And.intro @i_mksl (And.intro @i_load (And.intro @i_store (And.intro @i_nilck (And.intro @i_bin (And.intro @i_un (And.intro @i_conv (And.intro @i_convs (And.intro @i_s2b (And.intro @i_b2s (And.intro @i_i2s (And.intro @i_fn (And.intro @i_slice (And.intro @i_faddr (And.intro @i_field (And.intro @i_iaddr (And.intro @i_iaddrA (And.intro @i_index (And.intro @i_ext (And.intro @i_len (And.intro @i_app (And.intro @i_mm (And.intro @i_capn (And.intro @i_appz (And.intro @b_add (And.intro @b_sub (And.intro @b_mul (And.intro @b_lss (And.intro @b_leq (And.intro @b_gtr (And.intro @b_geq (And.intro @b_eql (And.intro @b_neq (And.intro @c_eql (And.intro @c_neq (And.intro @c_add (And.intro @c_lss (And.intro @l_eql (And.intro @l_neq (And.intro @n_eql (And.intro @n_neq (And.intro @m_eql (And.intro @m_neq (And.intro @o_eql (And.intro @o_neq (And.intro @u_not (And.intro @iload_p (And.intro @iload_v (And.intro @qy3 (And.intro @iload_vs (And.intro @istore_p (And.intro @newsl_eq (And.intro @abox_eq (And.intro @add_mk (And.intro @qzg (And.intro @q5s (And.intro @lc_zslc (And.intro @qv2 (And.intro @qot (And.intro @qlz (And.intro @qzv (And.intro @qn0 (And.intro @nilck_p (And.intro @nilck_v (And.intro @nilck_f (And.intro @conv_i (And.intro @convs_s (And.intro @s2b_s (And.intro @i2s_i (And.intro @faddr_p (And.intro @faddr_v (And.intro @field_s (And.intro @field_o (And.intro @iaddr_s (And.intro @iaddr_v (And.intro @iaddrA_p (And.intro @index_s (And.intro @ext_t (And.intro @len_s (And.intro @len_l (And.intro @len_v (And.intro @len_n (And.intro @len_z (And.intro @natOf_n (And.intro @natOf_s (And.intro @qfc (And.intro @q0l (And.intro @q3p (And.intro @q51 (And.intro @q03 (And.intro @q5w (And.intro @iress_sr (And.intro @iress_sk (And.intro @ires_eq (And.intro @tupd_1 (And.intro @tupd_2 (And.intro @tupd_3 (And.intro @tupd_4 (And.intro @y_dops (And.intro @d_nil (And.intro @d_cons (And.intro @d_consg (And.intro @e_pure (And.intro @e_load (And.intro @chk_t (And.intro @e_k2 (And.intro @e_alloc (And.intro @w_nil (And.intro @w_cons (And.intro @w_none (And.intro @qwv (And.intro @Tr.get_set (And.intro @Tr.get_nil (And.intro @Tr.set_set (And.intro @ce_agg (And.intro @ce_int (And.intro @ce_str (And.intro @ce_bool (And.intro @ce_nils (And.intro @ce_zslc (And.intro @ce_nilp (And.intro @ce_nilm (And.intro @ce_nilf (And.intro @ce_nili (And.intro @ce_slc (And.intro @ce_vals (And.intro @ce_ptr (And.intro @ce_vptr (And.intro @ce_fn (And.intro @ce_mapp (And.intro @ce_iface (And.intro @fi_agg (And.intro @fi_int (And.intro @fi_str (And.intro @fi_bool (And.intro @fi_nils (And.intro @fi_zslc (And.intro @fi_nilp (And.intro @fi_nilm (And.intro @fi_nilf (And.intro @fi_nili (And.intro @fi_slc (And.intro @fi_vals (And.intro @fi_ptr (And.intro @fi_vptr (And.intro @fi_fn (And.intro @fi_mapp (And.intro @fi_iface (And.intro @on_int (And.intro @on_str (And.intro @on_bool (And.intro @on_nils (And.intro @on_zslc (And.intro @on_nilp (And.intro @on_nilm (And.intro @on_nilf (And.intro @on_nili (And.intro @on_slc (And.intro @on_vals (And.intro @on_ptr (And.intro @on_vptr (And.intro @on_fn (And.intro @on_mapp (And.intro @on_iface (And.intro @tak_n (And.intro @itk_n (And.intro @itk_r (And.intro @itk_e (And.intro @tcall_eq (And.intro @pureH_on (And.intro @pureF_on (And.intro @frAs_nil (And.intro @q6l (And.intro @q6m (And.intro @frA_agg (And.intro @frA_int (And.intro @frA_str (And.intro @frA_bool (And.intro @frA_vals (And.intro @frA_nils (And.intro @frA_zslc (And.intro @frA_nilp (And.intro @frA_nilm (And.intro @frA_ptr (And.intro @frA_vptr (And.intro @frA_fn (And.intro @wrap_i64 (And.intro @q1m (And.intro @qpa (And.intro @Bool.and_true (And.intro @Bool.true_and (And.intro @Bool.and_false (And.intro @Bool.false_and (And.intro @Bool.not_true (And.intro @Bool.not_false (And.intro @Bool.or_true (And.intro @Bool.true_or (And.intro @Bool.or_false (And.intro @Bool.false_or (And.intro @decide_true (And.intro @decide_false (And.intro @and_true (And.intro @true_and (And.intro @and_self (And.intro @and_false (And.intro @false_and (And.intro @not_true_eq_false (And.intro @not_false_eq_true (And.intro @Nat.zero_add (And.intro @Nat.add_zero (And.intro @Nat.zero_le (And.intro @Nat.le_refl (And.intro @Nat.succ_ne_zero (And.intro @Nat.zero_mul (And.intro @Nat.one_mul (And.intro @Int.natCast_one (And.intro @Int.cast_ofNat_Int (And.intro @Int.natCast_zero (And.intro @Int.natCast_add @Nat.max_self))))))))))))))))))))))))))))))))))))))))))))))))))))))))))))))))))))))))))))))))))))))))))))))))))))))))))))))))))))))))))))))))))))))))))))))))))))))))))))))))))))))))))))))))))))))))))))))))))))))))))))))))))))))))))))))))))))))))))))))))))))))))))))))))))))))))))))))))))))))))))))))))))))
end
section
open Go Go.RowKit
theorem qpb{z:Nat}:∀{rows:List (List AV)},(∀r∈rows,r.length=z)→chunk z rows.length rows.flatten=rows
 |[],_=>rfl
 |r::rows,h=>by
  have h1:=h r (List.mem_cons_self ..)
  rw[List.length_cons,qpa,List.flatten_cons,←h1,List.take_left,List.drop_left,h1,qpb fun x hx=>h x (List.mem_cons_of_mem _ hx)]
end
end Go.Abs
