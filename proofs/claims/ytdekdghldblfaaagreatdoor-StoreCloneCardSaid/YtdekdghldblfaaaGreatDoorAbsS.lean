import Derived.Test.YtdekdghldblfaaaGreatDoorAbsL
set_option linter.unusedVariables false
set_option linter.unusedSimpArgs false
namespace Go.Abs
section
open Go Go.RowKit
def Sub(T T2:Tr AV):Prop:=∀p x,T.getP p=some x→T2.getP p=some x
theorem Sub.refl(T:Tr AV):Sub T T:=fun _ _ h=>h
theorem Sub.set{T T2:Tr AV}(h:Sub T T2)(p:Pth)(x:AV):Sub (Tr.setP p T x) (Tr.setP p T2 x):=by
 intro q y hq
 rw[Tr.getP_setP] at hq ⊢
 split
 ·rename_i e;rw[if_pos e] at hq;exact hq
 ·rename_i e;rw[if_neg e] at hq;exact h q y hq
theorem Sub.xput{T T2:Tr AV}(h:Sub T T2)(d:Option Pth)(x:AV):Sub (xput T d x) (Go.Abs.xput T2 d x):=by
 cases d with
 |none=>exact h
 |some p=>exact h.set p x
theorem qaq{T T2:Tr AV}(h:Sub T T2){i:Opd}{x:AV}(e:iev T i=some x):iev T2 i=some x:=by
 cases i with
 |t p=>exact h p x e
 |c y=>exact e
theorem qgn{T T2:Tr AV}(h:Sub T T2):∀{is:List Opd} {xs:List AV},ievs T is=some xs→ievs T2 is=some xs
 |[],xs,e=>e
 |i::is,xs,e=>by
  simp only[ievs] at e ⊢
  split at e
  ·cases e
  ·rename_i x hx
   split at e
   ·cases e
   ·rename_i ys hys
    rw[qaq h hx,qgn h hys]
    exact e
theorem qh5{T T2:Tr AV}(h:Sub T T2):∀{is:List (Nat×Nat×Opd)} {xs:List (Nat×Nat×AV)},iparts T is=some xs→iparts T2 is=some xs
 |[],xs,e=>e
 |(a,b,i)::is,xs,e=>by
  simp only[iparts] at e ⊢
  split at e
  ·cases e
  ·rename_i x hx
   split at e
   ·cases e
   ·rename_i ys hys
    rw[qaq h hx,qh5 h hys]
    exact e
theorem qng{T T2:Tr AV}(h:Sub T T2){i:Option Opd}{x:Option AV}(e:ievo T i=some x):ievo T2 i=some x:=by
 cases i with
 |none=>exact e
 |some i=>
  simp only[ievo] at e ⊢
  split at e
  ·rename_i y hy;rw[qaq h hy];exact e
  ·cases e
theorem qqv{T T2:Tr AV}(h:Sub T T2){op:IOp}{H:AH}{r:AV×AH}(e:iop T op H=some r):iop T2 op H=some r:=by
 cases op<;>(try simp only[iop] at e ⊢)
 case ev x=>
  cases hx:iev T x with
  |none=>rw[hx] at e;first|(simp at e;done)|(exfalso;revert e;split<;>intro e<;>cases e)
  |some vx=>
   rw[hx] at e;rw[qaq h hx]
   try simp only at e ⊢
   exact e
 case pick c a b=>
  cases hc:iev T c with
  |none=>rw[hc] at e;first|(simp at e;done)|(exfalso;revert e;split<;>intro e<;>cases e)
  |some vc=>
   rw[hc] at e;rw[qaq h hc]
   cases vc<;>try (simp at e;done)
   rename_i bb
   cases bb
   ·simp only at e ⊢
    cases hb:iev T b with
    |none=>rw[hb] at e;first|(simp at e;done)|(exfalso;revert e;split<;>intro e<;>cases e)
    |some vb=>rw[hb] at e;rw[qaq h hb];exact e
   ·simp only at e ⊢
    cases ha:iev T a with
    |none=>rw[ha] at e;first|(simp at e;done)|(exfalso;revert e;split<;>intro e<;>cases e)
    |some va=>rw[ha] at e;rw[qaq h ha];exact e
 case mop m l=>
  cases hl:ievs T l with
  |none=>rw[hl] at e;first|(simp at e;done)|(exfalso;revert e;split<;>intro e<;>cases e)
  |some vs=>rw[hl] at e;rw[qgn h hl];exact e
 case new x=>
  cases hx:iev T x with
  |none=>rw[hx] at e;first|(simp at e;done)|(exfalso;revert e;split<;>intro e<;>cases e)
  |some vx=>
   rw[hx] at e;rw[qaq h hx]
   try simp only at e ⊢
   exact e
 case build zs parts=>
  cases hl:iparts T parts with
  |none=>rw[hl] at e;first|(simp at e;done)|(exfalso;revert e;split<;>intro e<;>cases e)
  |some vs=>rw[hl] at e;rw[qh5 h hl];exact e
 case bslice z n zs parts=>
  cases hl:iparts T parts with
  |none=>rw[hl] at e;first|(simp at e;done)|(exfalso;revert e;split<;>intro e<;>cases e)
  |some vs=>rw[hl] at e;rw[qh5 h hl];exact e
 case mkif t x=>
  cases hx:iev T x with
  |none=>rw[hx] at e;first|(simp at e;done)|(exfalso;revert e;split<;>intro e<;>cases e)
  |some vx=>
   rw[hx] at e;rw[qaq h hx]
   try simp only at e ⊢
   exact e
 case empty=>
  exact e
 case mksl z by_ zs l c=>
  cases hl:iev T l with
  |none=>rw[hl] at e;first|(simp at e;done)|(exfalso;revert e;split<;>intro e<;>cases e)
  |some vl=>
   rw[hl] at e;rw[qaq h hl]
   try simp only at e ⊢
   cases hc:iev T c with
   |none=>rw[hc] at e;first|(simp at e;done)|(exfalso;revert e;split<;>intro e<;>cases e)
   |some vc=>
    rw[hc] at e;rw[qaq h hc]
    try simp only at e ⊢
    exact e
 case load n x=>
  cases hx:iev T x with
  |none=>rw[hx] at e;first|(simp at e;done)|(exfalso;revert e;split<;>intro e<;>cases e)
  |some vx=>
   rw[hx] at e;rw[qaq h hx]
   try simp only at e ⊢
   exact e
 case store n x y=>
  cases hx:iev T x with
  |none=>rw[hx] at e;first|(simp at e;done)|(exfalso;revert e;split<;>intro e<;>cases e)
  |some vx=>
   rw[hx] at e;rw[qaq h hx]
   try simp only at e ⊢
   cases hy:iev T y with
   |none=>rw[hy] at e;first|(simp at e;done)|(exfalso;revert e;split<;>intro e<;>cases e)
   |some vy=>
    rw[hy] at e;rw[qaq h hy]
    try simp only at e ⊢
    exact e
 case nilck x=>
  cases hx:iev T x with
  |none=>rw[hx] at e;first|(simp at e;done)|(exfalso;revert e;split<;>intro e<;>cases e)
  |some vx=>
   rw[hx] at e;rw[qaq h hx]
   try simp only at e ⊢
   exact e
 case bin op t d nc x y=>
  cases hx:iev T x with
  |none=>rw[hx] at e;first|(simp at e;done)|(exfalso;revert e;split<;>intro e<;>cases e)
  |some vx=>
   rw[hx] at e;rw[qaq h hx]
   try simp only at e ⊢
   cases hy:iev T y with
   |none=>rw[hy] at e;first|(simp at e;done)|(exfalso;revert e;split<;>intro e<;>cases e)
   |some vy=>
    rw[hy] at e;rw[qaq h hy]
    try simp only at e ⊢
    exact e
 case un op x=>
  cases hx:iev T x with
  |none=>rw[hx] at e;first|(simp at e;done)|(exfalso;revert e;split<;>intro e<;>cases e)
  |some vx=>
   rw[hx] at e;rw[qaq h hx]
   try simp only at e ⊢
   exact e
 case conv k x=>
  cases hx:iev T x with
  |none=>rw[hx] at e;first|(simp at e;done)|(exfalso;revert e;split<;>intro e<;>cases e)
  |some vx=>
   rw[hx] at e;rw[qaq h hx]
   try simp only at e ⊢
   exact e
 case convs x=>
  cases hx:iev T x with
  |none=>rw[hx] at e;first|(simp at e;done)|(exfalso;revert e;split<;>intro e<;>cases e)
  |some vx=>
   rw[hx] at e;rw[qaq h hx]
   try simp only at e ⊢
   exact e
 case s2b x=>
  cases hx:iev T x with
  |none=>rw[hx] at e;first|(simp at e;done)|(exfalso;revert e;split<;>intro e<;>cases e)
  |some vx=>
   rw[hx] at e;rw[qaq h hx]
   try simp only at e ⊢
   exact e
 case b2s x=>
  cases hx:iev T x with
  |none=>rw[hx] at e;first|(simp at e;done)|(exfalso;revert e;split<;>intro e<;>cases e)
  |some vx=>
   rw[hx] at e;rw[qaq h hx]
   try simp only at e ⊢
   exact e
 case i2s x=>
  cases hx:iev T x with
  |none=>rw[hx] at e;first|(simp at e;done)|(exfalso;revert e;split<;>intro e<;>cases e)
  |some vx=>
   rw[hx] at e;rw[qaq h hx]
   try simp only at e ⊢
   exact e
 case fn f cap=>
  cases hl:ievs T cap with
  |none=>rw[hl] at e;first|(simp at e;done)|(exfalso;revert e;split<;>intro e<;>cases e)
  |some vs=>rw[hl] at e;rw[qgn h hl];exact e
 case slice z x lo hi mx=>
  cases hx:iev T x with
  |none=>rw[hx] at e;first|(simp at e;done)|(exfalso;revert e;split<;>intro e<;>cases e)
  |some vx=>
   rw[hx] at e;rw[qaq h hx]
   try simp only at e ⊢
   cases h1:ievo T lo with
   |none=>rw[h1] at e;first|(simp at e;done)|(exfalso;revert e;split<;>intro e<;>cases e)
   |some v1=>
    rw[h1] at e;rw[qng h h1]
    try simp only at e ⊢
    cases h2:ievo T hi with
    |none=>rw[h2] at e;first|(simp at e;done)|(exfalso;revert e;split<;>intro e<;>cases e)
    |some v2=>
     rw[h2] at e;rw[qng h h2]
     try simp only at e ⊢
     cases h3:ievo T mx with
     |none=>rw[h3] at e;first|(simp at e;done)|(exfalso;revert e;split<;>intro e<;>cases e)
     |some v3=>rw[h3] at e;rw[qng h h3];exact e
 case faddr off x=>
  cases hx:iev T x with
  |none=>rw[hx] at e;first|(simp at e;done)|(exfalso;revert e;split<;>intro e<;>cases e)
  |some vx=>
   rw[hx] at e;rw[qaq h hx]
   try simp only at e ⊢
   exact e
 case field off n x=>
  cases hx:iev T x with
  |none=>rw[hx] at e;first|(simp at e;done)|(exfalso;revert e;split<;>intro e<;>cases e)
  |some vx=>
   rw[hx] at e;rw[qaq h hx]
   try simp only at e ⊢
   exact e
 case iaddr z x i=>
  cases hx:iev T x with
  |none=>rw[hx] at e;first|(simp at e;done)|(exfalso;revert e;split<;>intro e<;>cases e)
  |some vx=>
   rw[hx] at e;rw[qaq h hx]
   cases hi:iev T i with
   |none=>rw[hi] at e;cases vx<;>simp at e
   |some vi=>rw[hi] at e;rw[qaq h hi];exact e
 case iaddrA n z x i=>
  cases hx:iev T x with
  |none=>rw[hx] at e;first|(simp at e;done)|(exfalso;revert e;split<;>intro e<;>cases e)
  |some vx=>
   rw[hx] at e;rw[qaq h hx]
   cases hi:iev T i with
   |none=>rw[hi] at e;cases vx<;>simp at e
   |some vi=>rw[hi] at e;rw[qaq h hi];exact e
 case index x i=>
  cases hx:iev T x with
  |none=>rw[hx] at e;first|(simp at e;done)|(exfalso;revert e;split<;>intro e<;>cases e)
  |some vx=>
   rw[hx] at e;rw[qaq h hx]
   try simp only at e ⊢
   cases hi:iev T i with
   |none=>rw[hi] at e;first|(simp at e;done)|(exfalso;revert e;split<;>intro e<;>cases e)
   |some vi=>
    rw[hi] at e;rw[qaq h hi]
    try simp only at e ⊢
    exact e
 case ext x i=>
  cases hx:iev T x with
  |none=>rw[hx] at e;first|(simp at e;done)|(exfalso;revert e;split<;>intro e<;>cases e)
  |some vx=>
   rw[hx] at e;rw[qaq h hx]
   try simp only at e ⊢
   exact e
 case len s x=>
  cases hx:iev T x with
  |none=>rw[hx] at e;first|(simp at e;done)|(exfalso;revert e;split<;>intro e<;>cases e)
  |some vx=>
   rw[hx] at e;rw[qaq h hx]
   try simp only at e ⊢
   exact e
 case app z b x y=>
  cases hx:iev T x with
  |none=>rw[hx] at e;first|(simp at e;done)|(exfalso;revert e;split<;>intro e<;>cases e)
  |some vx=>
   rw[hx] at e;rw[qaq h hx]
   try simp only at e ⊢
   cases hy:iev T y with
   |none=>rw[hy] at e;first|(simp at e;done)|(exfalso;revert e;split<;>intro e<;>cases e)
   |some vy=>
    rw[hy] at e;rw[qaq h hy]
    try simp only at e ⊢
    exact e
 case mm mx l=>
  cases hl:ievs T l with
  |none=>rw[hl] at e;first|(simp at e;done)|(exfalso;revert e;split<;>intro e<;>cases e)
  |some vs=>rw[hl] at e;rw[qgn h hl];exact e
 case capn x=>
  cases hx:iev T x with
  |none=>rw[hx] at e;first|(simp at e;done)|(exfalso;revert e;split<;>intro e<;>cases e)
  |some vx=>
   rw[hx] at e;rw[qaq h hx]
   try simp only at e ⊢
   exact e
 case appz z b zs x y=>
  cases hx:iev T x with
  |none=>rw[hx] at e;first|(simp at e;done)|(exfalso;revert e;split<;>intro e<;>cases e)
  |some vx=>
   rw[hx] at e;rw[qaq h hx]
   try simp only at e ⊢
   cases hy:iev T y with
   |none=>rw[hy] at e;first|(simp at e;done)|(exfalso;revert e;split<;>intro e<;>cases e)
   |some vy=>
    rw[hy] at e;rw[qaq h hy]
    try simp only at e ⊢
    exact e
end
section
open Go Go.RowKit
theorem qp0{T T2:Tr AV}(h:Sub T T2){call:qar}{k:IK}{H:AH}{r:AV×AH}(e:xop call T H k=some r):xop call T2 H k=some r:=by
 cases k with
 |op o=>exact qqv h e
 |call f args=>
  simp only[xop] at e ⊢
  cases hf:iev T f with
  |none=>rw[hf] at e;simp at e
  |some vf=>
   rw[hf] at e;rw[qaq h hf]
   cases hl:ievs T args with
   |none=>rw[hl] at e;exfalso;revert e;split<;>intro e<;>cases e
   |some vs=>rw[hl] at e;rw[qgn h hl];exact e
theorem qf8{call:qar}:∀{l:List IOper} {T T2:Tr AV} {H:AH} {T':Tr AV} {H':AH},Sub T T2→xops call l T H=some (T',H')→∃T2',xops call l T2 H=some (T2',H')∧Sub T' T2'
 |[],T,T2,H,T',H',h,e=>by
  simp only[xops] at e ⊢
  cases e
  exact⟨T2,rfl,h⟩
 |o::os,T,T2,H,T',H',h,e=>by
  simp only[xops] at e ⊢
  cases hg:o.guard with
  |none=>
   rw[hg] at e
   simp only at e ⊢
   split at e
   ·rename_i x H1 hx
    rw[qp0 h hx]
    exact qf8 (h.xput _ _) e
   ·cases e
  |some g=>
   obtain⟨p,want⟩:=g
   rw[hg] at e
   simp only at e ⊢
   split at e
   ·rename_i b hb
    rw[h p _ hb]
    simp only
    cases hbw:(b==want) with
    |true=>
     rw[hbw] at e
     simp only[cond_true] at e ⊢
     split at e
     ·rename_i x H1 hx
      rw[qp0 h hx]
      exact qf8 (h.xput _ _) e
     ·cases e
    |false=>
     rw[hbw] at e
     simp only[cond_false] at e ⊢
     exact qf8 (h.xput _ _) e
   ·rename_i hb
    rw[h p _ hb]
    exact qf8 (h.xput _ _) e
   ·cases e
theorem eff_mono{call:qar}{base idx:Nat}{T T2:Tr AV}(h:Sub T T2){H:AH}{W:List WE}{k:DK}{r:AV×AH×List WE}(e:eff call base T H W idx k=some r):eff call base T2 H W idx k=some r:=by
 cases k with
 |pure i=>
  simp only[eff] at e ⊢
  split at e
  ·rename_i x _ hx;rw[qqv h hx];exact e
  ·cases e
 |load n x=>
  simp only[eff] at e ⊢
  split at e
  ·rename_i p hp;rw[qaq h hp];exact e
  ·cases e
 |k2 k w=>
  simp only[eff] at e ⊢
  split at e
  ·rename_i x H1 hx;rw[qp0 h hx];exact e
  ·cases e
 |alloc i=>
  simp only[eff] at e ⊢
  split at e
  ·rename_i x H1 hx;rw[qqv h hx];exact e
  ·cases e
theorem qtn{T T2:Tr AV}(h:Sub T T2){g:Option (Pth×Bool)}{b:Bool}(e:gval T g=some b):gval T2 g=some b:=by
 cases g with
 |none=>exact e
 |some g=>
  obtain⟨p,w⟩:=g
  simp only[gval] at e ⊢
  cases hp:T.getP p with
  |none=>rw[hp] at e;simp[bval] at e
  |some x=>rw[hp] at e;rw[h p x hp];exact e
theorem qts{call:qar}{base:Nat}:∀{l:List DOp} {s s' s2:DS},Sub s.T s2.T→s2.H=s.H→s2.W=s.W→drun call base l s=some s'→∃s2',drun call base l s2=some s2'∧Sub s'.T s2'.T∧s2'.H=s'.H∧s2'.W=s'.W
 |[],s,s',s2,h,hH,hW,e=>by
  simp only[drun] at e ⊢
  cases e
  exact⟨s2,rfl,h,hH,hW⟩
 |d::l,s,s',s2,h,hH,hW,e=>by
  simp only[drun] at e ⊢
  split at e
  ·rename_i s1 h1
   simp only[dstep] at h1
   have key:∃s3,dstep call base d s2=some s3∧Sub s1.T s3.T∧s3.H=s1.H∧s3.W=s1.W:=by
    simp only[dstep]
    split at h1
    ·cases h1
    ·rename_i hg
     rw[qtn h hg]
     cases h1
     exact⟨_,rfl,h.xput _ _,hH,hW⟩
    ·rename_i hg
     rw[qtn h hg]
     simp only
     split at h1
     ·rename_i x H' W' hx
      cases h1
      rw[hH,hW,eff_mono h hx]
      exact⟨_,rfl,h.xput _ _,rfl,rfl⟩
     ·cases h1
   obtain⟨s3,k1,k2,k3,k4⟩:=key
   rw[k1]
   exact qts k2 k3 k4 e
  ·cases e
abbrev Fr:=List (Nat×AV)
def mk:Fr→Tr AV
 |[]=>.nil
 |(n,x)::l=>Tr.setP (Tr.path n) (mk l) x
def fget:Fr→Nat→Option AV
 |[],_=>none
 |(m,x)::l,n=>if m=n then some x else fget l n
theorem qh6:∀(l:Fr) (n:Nat),(mk l).getP (Tr.path n)=fget l n
 |[],n=>Tr.get_nil n
 |(m,x)::l,n=>by
  show (Tr.setP (Tr.path m) (mk l) x).get n=_
  rw[Tr.get_setP]
  simp only[fget]
  by_cases h:n=m
  ·subst h;rw[if_pos rfl,if_pos rfl]
  ·rw[if_neg h,if_neg (Ne.symm h)]
   exact qh6 l n
def tgets(T:Tr AV):List Nat→Option Fr
 |[]=>some []
 |p::ps=>match T.getP (Tr.path p) with
  |some x=>match tgets T ps with
   |some l=>some ((p,x)::l)
   |none=>none
  |none=>none
theorem qmp{T:Tr AV}:∀{ps:List Nat} {l:Fr},tgets T ps=some l→Sub (mk l) T
 |[],l,h=>by
  simp only[tgets] at h;cases h
  intro p x hp
  simp[mk,Tr.getP] at hp
 |q::ps,l,h=>by
  simp only[tgets] at h
  split at h
  ·rename_i y hy
   split at h
   ·rename_i l' hl
    cases h
    intro p x hp
    simp only[mk] at hp
    rw[Tr.getP_setP] at hp
    split at hp
    ·rename_i e;subst e;cases hp;exact hy
    ·exact qmp hl p x hp
   ·cases h
  ·cases h
theorem Sub.trans{A B C:Tr AV}(h:Sub A B)(k:Sub B C):Sub A C:=fun p x hx=>k p x (h p x hx)
inductive YC where
 |skip
 |ops (l:List IOper)
 |dops (n:Nat) (l:List DOp)
 |seq (a b:YC)
 |cond (x:Opd) (a b:YC)
 |block (id:Nat) (c:YC)
 |loop (c:YC)
 |exit (id:Nat)
 |ret
 |tb (ps:List Nat) (c:YC)
 |ta (c:YC) (ps:List Nat)
 |bad
def erase:YC→ICode
 |.skip=>.skip
 |.ops l=>.ops l
 |.dops n l=>.dops n l
 |.seq a b=>.seq (erase a) (erase b)
 |.cond x a b=>.cond x (erase a) (erase b)
 |.block id c=>.block id (erase c)
 |.loop c=>.loop (erase c)
 |.exit id=>.exit id
 |.ret=>.ret
 |.tb _ c=>erase c
 |.ta c _=>erase c
 |.bad=>.bad
noncomputable def ycode(call:qar)(F:Nat):YC→Tr AV→AH→XR
 |.skip,T,H=>some (.normal,T,H)
 |.ops l,T,H=>match xops call l T H with
  |some (T',H')=>some (.normal,T',H')
  |none=>none
 |.dops n l,T,H=>match drun call H.next l ⟨T,⟨H.next+n,H.gs,H.ms⟩,[]⟩ with
  |some s=>some (.normal,s.T,s.H)
  |none=>none
 |.seq a b,T,H=>match ycode call F a T H with
  |some (.normal,T',H')=>ycode call F b T' H'
  |r=>r
 |.cond x a b,T,H=>match iev T x with
  |some (.bool true)=>ycode call F a T H
  |some (.bool false)=>ycode call F b T H
  |_=>none
 |.block id c,T,H=>match ycode call F c T H with
  |some (.exit id',T',H')=>bif Nat.beq id' id then some (.normal,T',H') else some (.exit id',T',H')
  |r=>r
 |.loop c,T,H=>iter (ycode call F c) F T H
 |.exit id,T,H=>some (.exit id,T,H)
 |.ret,T,H=>some (.ret,T,H)
 |.tb ps c,T,H=>match tgets T ps with
  |some l=>ycode call F c (mk l) H
  |none=>none
 |.ta c ps,T,H=>match ycode call F c T H with
  | some (.normal,T',H')=>(match tgets T' ps with
   |some l=>some (.normal,mk l,H')
   | none=>none)
  |r=>r
 |.bad,_,_=>none
theorem qti{f g:Tr AV→AH→XR}(hfg:∀T T2 H e T' H',Sub T T2→f T H=some (e,T',H')→∃T2',g T2 H=some (e,T2',H')∧Sub T' T2'):∀(n:Nat) (T T2:Tr AV) (H:AH) (e:IEx) (T':Tr AV) (H':AH),Sub T T2→iter f n T H=some (e,T',H')→∃T2',iter g n T2 H=some (e,T2',H')∧Sub T' T2'
 |0,T,T2,H,e,T',H',h,hi=>by simp[iter] at hi
 |n+1,T,T2,H,e,T',H',h,hi=>by
  simp only[iter] at hi ⊢
  split at hi
  ·rename_i T1 H1 h1
   obtain⟨T3,k1,k2⟩:=hfg _ _ _ _ _ _ h h1
   rw[k1]
   exact qti hfg n _ _ _ _ _ _ k2 hi
  ·rename_i hne
   obtain⟨T3,k1,k2⟩:=hfg _ _ _ _ _ _ h hi
   rw[k1]
   refine⟨T3,?_,k2⟩
   cases e with
   |normal=>exact absurd hi (hne _ _)
   |exit id=>rfl
   |ret=>rfl
theorem qn9{call:qar}{F:Nat}:∀(c:YC) (T T2:Tr AV) (H:AH) (e:IEx) (T':Tr AV) (H':AH),Sub T T2→ycode call F c T H=some (e,T',H')→∃T2',xcode call F (erase c) T2 H=some (e,T2',H')∧Sub T' T2':=by
 intro c
 induction c with
 |skip=>intro T T2 H e T' H' h hx;simp only[ycode] at hx;cases hx;exact⟨T2,rfl,h⟩
 |ops l=>
  intro T T2 H e T' H' h hx
  simp only[ycode,erase,xcode] at hx ⊢
  split at hx
  ·rename_i T1 H1 h1
   cases hx
   obtain⟨T3,k1,k2⟩:=qf8 h h1
   rw[k1]
   exact⟨T3,rfl,k2⟩
  ·cases hx
 |dops n l=>
  intro T T2 H e T' H' h hx
  simp only[ycode,erase,xcode] at hx ⊢
  split at hx
  ·rename_i s h1
   cases hx
   obtain⟨s2,k1,k2,k3,k4⟩:=qts (s:=⟨T,⟨H.next+n,H.gs,H.ms⟩,[]⟩) (s2:=⟨T2,⟨H.next+n,H.gs,H.ms⟩,[]⟩) h rfl rfl h1
   rw[k1]
   exact⟨s2.T,by simp only[k3],k2⟩
  ·cases hx
 |seq a b iha ihb=>
  intro T T2 H e T' H' h hx
  simp only[ycode,erase,xcode] at hx ⊢
  split at hx
  ·rename_i T1 H1 h1
   obtain⟨T3,k1,k2⟩:=iha _ _ _ _ _ _ h h1
   rw[k1]
   exact ihb _ _ _ _ _ _ k2 hx
  ·rename_i hne
   obtain⟨T3,k1,k2⟩:=iha _ _ _ _ _ _ h hx
   rw[k1]
   refine⟨T3,?_,k2⟩
   cases e with
   |normal=>exact absurd hx (hne _ _)
   |exit id=>rfl
   |ret=>rfl
 |cond x a b iha ihb=>
  intro T T2 H e T' H' h hx
  simp only[ycode,erase,xcode] at hx ⊢
  split at hx
  ·rename_i hb;rw[qaq h hb];exact iha _ _ _ _ _ _ h hx
  ·rename_i hb;rw[qaq h hb];exact ihb _ _ _ _ _ _ h hx
  ·cases hx
 |block id c ih=>
  intro T T2 H e T' H' h hx
  simp only[ycode,erase,xcode] at hx ⊢
  split at hx
  ·rename_i id' T1 H1 h1
   obtain⟨T3,k1,k2⟩:=ih _ _ _ _ _ _ h h1
   rw[k1]
   simp only
   cases hb:Nat.beq id' id with
   |true=>rw[hb] at hx;cases hx;exact⟨T3,rfl,k2⟩
   |false=>rw[hb] at hx;cases hx;exact⟨T3,rfl,k2⟩
  ·rename_i hne
   obtain⟨T3,k1,k2⟩:=ih _ _ _ _ _ _ h hx
   rw[k1]
   refine⟨T3,?_,k2⟩
   cases e with
   |exit id=>exact absurd hx (hne _ _ _)
   |normal=>rfl
   |ret=>rfl
 |loop c ih=>
  intro T T2 H e T' H' h hx
  simp only[ycode,erase,xcode] at hx ⊢
  exact qti (fun T T2 H e T' H'=>ih T T2 H e T' H') F _ _ _ _ _ _ h hx
 |exit id=>intro T T2 H e T' H' h hx;simp only[ycode] at hx;cases hx;exact⟨T2,rfl,h⟩
 |ret=>intro T T2 H e T' H' h hx;simp only[ycode] at hx;cases hx;exact⟨T2,rfl,h⟩
 |tb ps c ih=>
  intro T T2 H e T' H' h hx
  simp only[ycode,erase] at hx ⊢
  split at hx
  ·rename_i l hl
   exact ih _ _ _ _ _ _ ((qmp hl).trans h) hx
  ·cases hx
 |ta c ps ih=>
  intro T T2 H e T' H' h hx
  simp only[ycode,erase] at hx ⊢
  split at hx
  ·rename_i T1 H1 h1
   split at hx
   ·rename_i l hl
    cases hx
    obtain⟨T3,k1,k2⟩:=ih _ _ _ _ _ _ h h1
    exact⟨T3,k1,(qmp hl).trans k2⟩
   ·cases hx
  ·exact ih _ _ _ _ _ _ h hx
 |bad=>intro T T2 H e T' H' h hx;simp only[ycode] at hx;cases hx
theorem qkb{T T2:Tr AV}(h:Sub T T2){H:AH}:∀{rs:List IRes} {xs:List AV},iress T H rs=some xs→iress T2 H rs=some xs
 |[],xs,e=>e
 |.tmp p::rs,xs,e=>by
  simp only[iress] at e ⊢
  split at e
  ·rename_i x hx
   rw[h p x hx]
   simp only
   split at e
   ·rename_i ys hys;rw[qkb h hys];exact e
   ·cases e
  ·cases e
 |.cell p n::rs,xs,e=>by
  simp only[iress] at e ⊢
  split at e
  ·rename_i a ha
   rw[h p a ha]
   simp only
   split at e
   ·rename_i x hx
    split at e
    ·rename_i ys hys;rw[qkb h hys];exact e
    ·cases e
   ·cases e
  ·cases e
theorem qtj{T T2:Tr AV}(h:Sub T T2){H:AH}{rs:List IRes}{x:AV}(e:ires T H rs=some x):ires T2 H rs=some x:=by
 unfold ires at e ⊢
 cases hr:iress T H rs with
 |none=>rw[hr] at e;cases e
 |some xs=>rw[hr] at e;rw[qkb h hr];exact e
structure YF where
 nt:Nat
 body:YC
 res:List IRes
def YF.er(y:YF):IFun:=⟨y.nt,erase y.body,y.res⟩
def yend(rs:List IRes):XR→Option (AV×AH)
 |some (.normal,T,H)=>match ires T H rs with
  |some x=>some (x,H)
  |none=>none
 |some (.ret,T,H)=>match ires T H rs with
  |some x=>some (x,H)
  |none=>none
 |_=>none
theorem qrz{call:qar}{F:Nat}{y:YF}{T:Tr AV}{H:AH}{r:AV×AH}(h:yend y.res (ycode call F y.body T H)=some r):xend y.er (xcode call F y.er.body T H)=some r:=by
 cases hx:ycode call F y.body T H with
 |none=>rw[hx] at h;simp[yend] at h
 |some q=>
  obtain⟨e,T1,H1⟩:=q
  obtain⟨T2,k1,k2⟩:=qn9 _ _ _ _ _ _ _ (Sub.refl T) hx
  rw[hx] at h
  show xend y.er (xcode call F (erase y.body) T H)=some r
  rw[k1]
  cases e with
  |normal=>
   simp only[yend] at h
   simp only[xend,YF.er]
   split at h
   ·rename_i x hr;rw[qtj k2 hr];exact h
   ·cases h
  |ret=>
   simp only[yend] at h
   simp only[xend,YF.er]
   split at h
   ·rename_i x hr;rw[qtj k2 hr];exact h
   ·cases h
  |exit id=>simp[yend] at h
theorem xfun_ok{P:Program}{call:qar}(ih:qcp P call)(ihf:qaw call)(hm:P.follows .mixedOrders=true){f:FuncId}(hD:qwg P f=true){fn:IFun}(hfn:qbp P (fun _=>true) f=some fn){F:Nat}{args:List AV}{H H':AH}{x:AV}(hb:Nat.ble args.length fn.nt=true)
  (h:xend fn (xcode call F fn.body (xinit args 0 .nil) H)=some (x,H')):qa3 P f=true∧ACalls P f args H fun y H1=>y=x∧H1=H':=by
 unfold qbp at hfn
 simp only[cond_true] at hfn
 split at hfn
 ·rename_i fn' hf'
  cases hnm : (fn'.name == "runtime.NumGoroutine") with
  |true=>rw[hnm] at hfn;cases hfn
  |false=>
   rw[hnm] at hfn
   simp only[cond_false] at hfn
   split at hfn
   ·rename_i c hbody
    split at hfn
    ·rename_i rs hrs
     cases hfn
     have hcd:qf3 P fn'.ntmps c=true:=by
      have:=hD
      unfold qwg at this
      rw[hf'] at this
      simpa[hbody] using this
     refine⟨by unfold qa3;rw[hf'];simp[hnm,hbody],?_⟩
     refine ACalls.of_body hf' hbody (Nat.le_of_ble_eq_true hb) ?_
     have hxi:∀k,(xinit args 0 .nil).get k=(tinit args 0).get k:=by
      intro k
      rw[qio,qgd]
      simp only[Nat.zero_le,true_and,Nat.zero_add,Nat.sub_zero,if_true,Tr.get_nil]
      by_cases hk:k<args.length
      ·rw[if_pos hk]
      ·rw[if_neg hk,List.getElem?_eq_none (by omega)]
     have main:∀e T1 H1,xcode call F (qcg P fn'.ntmps c) (xinit args 0 .nil) H=some (e,T1,H1)→(e=.normal∨e=.ret)→ires T1 H1 rs=some x→H1=H'→AT P fn'.ntmps c (tinit args 0) H (bodyQ P fn' fun y H1=>y=x∧H1=H'):=by
      rintro e T1 H1 k1 k2 k3 rfl
      have hAT:=qlg (nt:=fn'.ntmps) ih ihf hm c _ _ _ _ _ hcd k1
      intro K G a w hr ht
      refine wp_mono (hAT K G a w hr (ht.congr hxi)) fun e1 a1 w1 ⟨G',T2,H2,r1,r2,r3,r4,r5,r6⟩=>?_
      subst r4;subst r5;subst r6
      refine⟨G',T2,H2,r1,r2,r3,?_⟩
      rcases k2 with rfl|rfl<;>exact⟨x,qv5 hrs k3,rfl,rfl⟩
     cases hx:xcode call F (qcg P fn'.ntmps c) (xinit args 0 .nil) H with
     |none=>rw[hx] at h;simp[xend] at h
     |some r=>
      obtain⟨e,T1,H1⟩:=r
      rw[hx] at h
      cases e with
      |normal=>
       simp only[xend] at h
       split at h
       ·rename_i y hy;cases h;exact main _ _ _ hx (.inl rfl) hy rfl
       ·cases h
      |ret=>
       simp only[xend] at h
       split at h
       ·rename_i y hy;cases h;exact main _ _ _ hx (.inr rfl) hy rfl
       ·cases h
      |exit id=>simp[xend] at h
    ·cases hfn
   ·cases hfn
 ·cases hfn
theorem qpl{P:Program}{call:qar}(ih:qcp P call)(ihf:qaw call)(hm:P.follows .mixedOrders=true){f:FuncId}(hD:qwg P f=true){y:YF}(hy:qbp P (fun _=>true) f=some y.er){F:Nat}{args:List AV}{H H':AH}{x:AV}(hb:Nat.ble args.length y.nt=true)
  (h:yend y.res (ycode call F y.body (xinit args 0 .nil) H)=some (x,H')):qa3 P f=true∧ACalls P f args H fun y H1=>y=x∧H1=H':=
 xfun_ok ih ihf hm hD hy hb (qrz h)
end
section
open Go Go.RowKit
section
variable {α β:Type}
def on(o:Option α)(k:α→Option β):Option β:=match o with|some a=>k a|none=>none
theorem qa8(a:α)(k:α→Option β):on (some a) k=k a:=(rfl)
theorem qai{o o':Option α}{k:α→Option β}(h:o=o'):on o k=on o' k:=by rw[h]
def br(o:Option AV)(a b:Option β):Option β:=match o with|some (.bool true)=>a|some (.bool false)=>b|_=>none
theorem br_t(a b:Option β):br (some (.bool true)) a b=a:=(rfl)
theorem br_f(a b:Option β):br (some (.bool false)) a b=b:=(rfl)
theorem qaj{o o':Option AV}{a b:Option β}(h:o=o'):br o a b=br o' a b:=by rw[h]
end
def bl(id:Nat)(r:XR):XR:=match r with|some (.exit id',T',H')=>bif Nat.beq id' id then some (.normal,T',H') else some (.exit id',T',H')|r=>r
theorem bl_n(id:Nat)(T:Tr AV)(H:AH):bl id (some (.normal,T,H))=some (.normal,T,H):=(rfl)
theorem bl_r(id:Nat)(T:Tr AV)(H:AH):bl id (some (.ret,T,H))=some (.ret,T,H):=(rfl)
theorem bl_e(id i:Nat)(T:Tr AV)(H:AH):bl id (some (.exit i,T,H))=if i=id then some (.normal,T,H) else some (.exit i,T,H):=by
 simp only[bl]
 by_cases h:i=id
 ·rw[if_pos h,Tr.beq_t h];rfl
 ·rw[if_neg h,Tr.beq_f h];rfl
def sv(n:Nat):Opd:=.t (Tr.path n)
def sc(x:AV):Opd:=.c x
def sd(n:Nat):Option Pth:=some (Tr.path n)
def sg(n:Nat)(w:Bool):Option (Pth×Bool):=some (Tr.path n,w)
def sn:Option Pth:=none
def s0:Option (Pth×Bool):=none
def sr(n:Nat):IRes:=.tmp (Tr.path n)
def sk(n:Nat)(m:Option Nat):IRes:=.cell (Tr.path n) m
def oe(d s:Nat):IOper:=⟨sd d,s0,.op (.ev (sv s))⟩
theorem iev_sv(l:Fr)(n:Nat):iev (mk l) (sv n)=fget l n:=qh6 l n
theorem iev_sc(T:Tr AV)(x:AV):iev T (sc x)=some x:=(rfl)
theorem xput_sd(l:Fr)(n:Nat)(x:AV):xput (mk l) (sd n) x=mk ((n,x)::l):=(rfl)
theorem xput_sn(T:Tr AV)(x:AV):xput T sn x=T:=(rfl)
theorem q6u(m:Nat)(x:AV)(l:Fr)(n:Nat):fget ((m,x)::l) n=if m=n then some x else fget l n:=(rfl)
theorem ievs_nil(T:Tr AV):ievs T []=some []:=(rfl)
theorem q52(T:Tr AV)(i:Opd)(is:List Opd):ievs T (i::is)=on (iev T i) fun x=>on (ievs T is) fun xs=>some (x::xs):=by
 simp only[ievs,on];cases iev T i with
 |none=>rfl
 |some x=>cases ievs T is<;>rfl
theorem q0z(T:Tr AV):iparts T []=some []:=(rfl)
theorem qv6(T:Tr AV)(a b:Nat)(i:Opd)(is:List (Nat×Nat×Opd)):iparts T ((a,b,i)::is)=on (iev T i) fun x=>on (iparts T is) fun xs=>some ((a,b,x)::xs):=by
 simp only[iparts,on];cases iev T i with
 |none=>rfl
 |some x=>cases iparts T is<;>rfl
theorem q54(T:Tr AV):ievo T none=some none:=(rfl)
theorem q53(T:Tr AV)(i:Opd):ievo T (some i)=on (iev T i) fun x=>some (some x):=by
 simp only[ievo,on];cases iev T i<;>rfl
theorem q3h(T:Tr AV):tgets T []=some []:=(rfl)
theorem q0g(l:Fr)(p:Nat)(ps:List Nat):tgets (mk l) (p::ps)=on (fget l p) fun x=>on (tgets (mk l) ps) fun fr=>some ((p,x)::fr):=by
 simp only[tgets,qh6,on];cases fget l p with
 |none=>rfl
 |some x=>cases tgets (mk l) ps<;>rfl
section
variable (call:qar) (F:Nat) (T:Tr AV) (H:AH)
theorem y_skip:ycode call F .skip T H=some (.normal,T,H):=(rfl)
theorem y_exit(i:Nat):ycode call F (.exit i) T H=some (.exit i,T,H):=(rfl)
theorem y_ret:ycode call F .ret T H=some (.ret,T,H):=(rfl)
theorem y_ops0:ycode call F (.ops []) T H=some (.normal,T,H):=(rfl)
noncomputable def opk(T:Tr AV)(dst:Option Pth)(os:List IOper)(r:Option (AV×AH)):XR:=match r with
 |some p=>ycode call F (.ops os) (xput T dst p.1) p.2
 |none=>none
theorem opk_some(dst:Option Pth)(os:List IOper)(x:AV):opk call F T dst os (some (x,H))=ycode call F (.ops os) (xput T dst x) H:=(rfl)
theorem y_ops1(dst:Option Pth)(k:IK)(os:List IOper):ycode call F (.ops (⟨dst,s0,k⟩::os)) T H=opk call F T dst os (xop call T H k):=by
 simp only[ycode,xops,s0,opk];cases xop call T H k<;>rfl
theorem y_opse(d s:Nat)(os:List IOper):ycode call F (.ops (oe d s::os)) T H=opk call F T (sd d) os (xop call T H (.op (.ev (sv s)))):=y_ops1 ..
noncomputable def gdk(T:Tr AV)(H:AH)(dst:Option Pth)(w:Bool)(k:IK)(os:List IOper)(o:Option AV):XR:=match o with
 |some (.bool x)=>bif x==w then opk call F T dst os (xop call T H k) else ycode call F (.ops os) (xput T dst .und) H
 |some .und=>ycode call F (.ops os) (xput T dst .und) H
 |_=>none
section
variable (dst:Option Pth) (k:IK) (os:List IOper) (w:Bool)
theorem gdk_tt:gdk call F T H dst true k os (some (.bool true))=opk call F T dst os (xop call T H k):=(rfl)
theorem gdk_ff:gdk call F T H dst false k os (some (.bool false))=opk call F T dst os (xop call T H k):=(rfl)
theorem gdk_tf:gdk call F T H dst false k os (some (.bool true))=ycode call F (.ops os) (xput T dst .und) H:=(rfl)
theorem gdk_ft:gdk call F T H dst true k os (some (.bool false))=ycode call F (.ops os) (xput T dst .und) H:=(rfl)
theorem gdk_u:gdk call F T H dst w k os (some .und)=ycode call F (.ops os) (xput T dst .und) H:=(rfl)
end
theorem y_opsg(l:Fr)(dst:Option Pth)(n:Nat)(w:Bool)(k:IK)(os:List IOper):ycode call F (.ops (⟨dst,sg n w,k⟩::os)) (mk l) H=gdk call F (mk l) H dst w k os (fget l n):=by
 simp only[ycode,xops,sg,qh6,gdk,opk]
 cases fget l n with
 |none=>rfl
 |some x=>
  cases x<;>try rfl
  rename_i b
  cases b<;>cases w<;>simp<;>cases xop call (mk l) H k<;>rfl
noncomputable def sqk(b:YC)(r:XR):XR:=match r with|some (.normal,T,H)=>ycode call F b T H|r=>r
theorem sqk_n(b:YC):sqk call F b (some (.normal,T,H))=ycode call F b T H:=(rfl)
theorem sqk_r(b:YC):sqk call F b (some (.ret,T,H))=some (.ret,T,H):=(rfl)
theorem sqk_e(b:YC)(i:Nat):sqk call F b (some (.exit i,T,H))=some (.exit i,T,H):=(rfl)
theorem y_seq(a b:YC):ycode call F (.seq a b) T H=sqk call F b (ycode call F a T H):=by
 simp only[ycode,sqk]
 all_goals (rcases ycode call F a T H with _|⟨_|_|_,T',H'⟩<;>rfl)
noncomputable def brk(a b:YC)(T:Tr AV)(H:AH)(o:Option AV):XR:=match o with
 |some (.bool true)=>ycode call F a T H
 |some (.bool false)=>ycode call F b T H
 |_=>none
theorem brk_t(a b:YC):brk call F a b T H (some (.bool true))=ycode call F a T H:=(rfl)
theorem brk_f(a b:YC):brk call F a b T H (some (.bool false))=ycode call F b T H:=(rfl)
theorem y_cond(x:Opd)(a b:YC):ycode call F (.cond x a b) T H=brk call F a b T H (iev T x):=(rfl)
theorem y_block(id:Nat)(c:YC):ycode call F (.block id c) T H=bl id (ycode call F c T H):=(rfl)
theorem y_loop(c:YC):ycode call F (.loop c) T H=iter (ycode call F c) F T H:=(rfl)
noncomputable def tbk(c:YC)(H:AH)(o:Option Fr):XR:=match o with|some l=>ycode call F c (mk l) H|none=>none
theorem tbk_some(c:YC)(l:Fr):tbk call F c H (some l)=ycode call F c (mk l) H:=(rfl)
def tak(ps:List Nat)(r:XR):XR:=match r with
 |some (.normal,T,H)=>(match tgets T ps with|some l=>some (.normal,mk l,H)|none=>none)
 |r=>r
theorem tak_n(ps:List Nat):tak ps (some (.normal,T,H))=on (tgets T ps) fun l=>some (.normal,mk l,H):=by
 simp only[tak,on];cases tgets T ps<;>rfl
theorem tak_r(ps:List Nat):tak ps (some (.ret,T,H))=some (.ret,T,H):=(rfl)
theorem tak_e(ps:List Nat)(i:Nat):tak ps (some (.exit i,T,H))=some (.exit i,T,H):=(rfl)
theorem y_tb(ps:List Nat)(c:YC):ycode call F (.tb ps c) T H=tbk call F c H (tgets T ps):=by
 simp only[ycode,tbk]
 all_goals (cases tgets T ps<;>rfl)
theorem y_ta(ps:List Nat)(c:YC):ycode call F (.ta c ps) T H=tak ps (ycode call F c T H):=by
 simp only[ycode,tak]
 all_goals (rcases ycode call F c T H with _|⟨_|_|_,T',H'⟩<;>try rfl)
 all_goals (dsimp only;cases tgets T' ps<;>rfl)
theorem x_op(o:IOp):xop call T H (.op o)=iop T o H:=(rfl)
def onf(o:Option AV)(k:FuncId→List AV→Option (AV×AH)):Option (AV×AH):=match o with|some (.fn (.func g) cap)=>k g cap|_=>none
theorem onf_fn(g:FuncId)(cap:List AV)(k:FuncId→List AV→Option (AV×AH)):onf (some (.fn (.func g) cap)) k=k g cap:=(rfl)
theorem qag{o o':Option AV}{k:FuncId→List AV→Option (AV×AH)}(h:o=o'):onf o k=onf o' k:=by rw[h]
theorem x_call(f:Opd)(as:List Opd):xop call T H (.call f as)=onf (iev T f) fun g cap=>on (ievs T as) fun xs=>call g (xs++cap) H:=by
 simp only[xop,on,onf]
 rcases iev T f with _|x0<;>try rfl
 rcases ievs T as with _|x1<;>try rfl
 all_goals (try (cases x0<;>try rfl))
 all_goals (try (cases x1<;>try rfl))
 all_goals (try (split<;>rfl))
 all_goals (try (rename_i b;cases b<;>rfl))
noncomputable def itk(c:YC)(n:Nat)(r:XR):XR:=match r with|some (.normal,T,H)=>iter (ycode call F c) n T H|r=>r
theorem itk_n(c:YC)(n:Nat):itk call F c n (some (.normal,T,H))=iter (ycode call F c) n T H:=(rfl)
theorem itk_r(c:YC)(n:Nat):itk call F c n (some (.ret,T,H))=some (.ret,T,H):=(rfl)
theorem itk_e(c:YC)(n i:Nat):itk call F c n (some (.exit i,T,H))=some (.exit i,T,H):=(rfl)
noncomputable def run(c:YC)(T:Tr AV)(H:AH):XR:=ycode call F c T H
theorem qad(c:YC)(n:Nat):iter (ycode call F c) (n+1) T H=itk call F c n (run call F c T H):=by
 unfold run
 simp only[iter,itk]
 cases ycode call F c T H with
 |none=>rfl
 |some r=>obtain⟨e,T',H'⟩:=r;cases e<;>rfl
end
def newsl(H:AH)(z n:Nat)(cs:List AV):Option (AV×AH):=bif H.free then some (.slc H.next 0 0 n z,H.add cs) else none
def q5d(z by_:Nat)(zs:List AV)(H:AH):AV→AV→Option (AV×AH)
 |.int _ l,.int _ c=>if 0≤l∧l≤c∧c.toNat*z≤16777216∧by_*c≤281474976710656∧c≤9223372036854775807∧H.free=true then some (.slc H.next 0 0 l.toNat z,H.add ((List.replicate l.toNat zs).flatten)) else none
 |_,_=>none
def qbs(H:AH):AV→Option (AV×AH)
 |.ptr g e i=>some (.ptr g e i,H)
 |.vptr r i=>some (.vptr r i,H)
 |.fn (.func f) cap=>some (.fn (.func f) cap,H)
 |_=>none
def qd5(k:IntKind)(H:AH):AV→Option (AV×AH)
 |.int _ n=>some (.int k (k.wrap n),H)
 |_=>none
def qb6(H:AH):AV→Option (AV×AH)
 |.str s=>some (.str s,H)
 |_=>none
def qk0(H:AH):AV→Option (AV×AH)
 |.str s=>some (.vals 1 (qdu s),H)
 |_=>none
def qk3(H:AH):AV→Option (AV×AH)
 |.int _ n=>some (.str (Utf8.encode n).data.toList,H)
 |_=>none
def qb0(off:Nat)(H:AH):AV→Option (AV×AH)
 |.ptr g e i=>some (.ptr g e (i+off),H)
 |.vptr row i=>some (.vptr row (i+off),H)
 |_=>none
def qbx(off:Nat)(n:Option Nat)(H:AH):AV→Option (AV×AH)
 |.agg cs=>match n with
  |some n=>some (.agg ((cs.drop off).take n),H)
  |none=>on (cs[off]?) fun y=>some (y,H)
 |_=>none
def qy5(z:Nat)(H:AH):AV→AV→Option (AV×AH)
 |.slc g a s len z',.int _ i=>if 0≤i∧i<len∧z'=z then some (.ptr g a (s+i.toNat*z),H) else none
 |.vals z' rows,.int _ i=>if 0≤i∧z'=z then on (rows[i.toNat]?) fun r=>some (.vptr r 0,H) else none
 |_,_=>none
def q56(n z:Nat)(H:AH):AV→AV→Option (AV×AH)
 |.ptr g a s,.int _ i=>if 0≤i∧i<n then some (.ptr g a (s+i.toNat*z),H) else none
 |.vptr row s,.int _ i=>if 0≤i∧i<n then some (.vptr row (s+i.toNat*z),H) else none
 |_,_=>none
def q50(H:AH):AV→AV→Option (AV×AH)
 |.str s,.int _ i=>if 0≤i then on (s[i.toNat]?) fun c=>some (.int .u8 c.toNat,H) else none
 |_,_=>none
def qku(i:Nat)(H:AH):AV→Option (AV×AH)
 |.tup vs=>on (vs[i]?) fun y=>some (y,H)
 |_=>none
def qhx(isS:Bool)(H:AH):AV→Option (AV×AH)
 |.str s=>bif isS then some (.int .i64 s.length,H) else none
 |.slc _ _ _ len _=>bif isS then none else some (.int .i64 len,H)
 |.vals _ rows=>bif isS then none else some (.int .i64 rows.length,H)
 |.nils=>bif isS then none else some (.int .i64 0,H)
 |.zslc=>bif isS then none else some (.int .i64 0,H)
 |_=>none
def qk5(H:AH)(x:AV):Option (AV×AH):=on (qan H 1 x) fun p=>on (qjg p.2) fun l=>some (.str l,H)
def qaa(H:AH):AV→Option (AV×AH)
 |.nils=>some (.int .i64 0,H)
 |_=>none
def qab(z by_:Nat)(zs:List AV)(H:AH):AV→AV→Option (AV×AH)
 |.nils,.int _ n=>if 0<n∧n≤9223372036854775807∧n.toNat*by_≤281474976710656∧H.free=true then some (.slc H.next 0 0 n.toNat z,H.add ((List.replicate n.toNat zs).flatten)) else none
 |_,_=>none
section
variable (T:Tr AV) (H:AH)
theorem i_ev(x:Opd):iop T (.ev x) H=on (iev T x) fun x=>some (x,H):=by
 simp only[iop,xop,on,br,onf,qbs,qd5,qb6,qk0,qk3,qb0,qbx,qku,qhx,qk5,qaa]
 rcases iev T x with _|x0<;>try rfl
 all_goals (try (cases x0<;>try rfl))
 all_goals (try (split<;>rfl))
 all_goals (try (rename_i b;cases b<;>rfl))
theorem i_pick(a b c:Opd):iop T (.pick a b c) H=br (iev T a) (on (iev T b) fun x=>some (x,H)) (on (iev T c) fun x=>some (x,H)):=by
 simp only[iop,br,on]
 rcases iev T a with _|x0<;>try rfl
 cases x0<;>try rfl
 rename_i bb
 cases bb
 ·rcases iev T c with _|x1<;>rfl
 ·rcases iev T b with _|x1<;>rfl
theorem i_new(x:Opd):iop T (.new x) H=on (iev T x) fun x=>abox H x:=by
 simp only[iop,xop,on,br,onf,qbs,qd5,qb6,qk0,qk3,qb0,qbx,qku,qhx,qk5,qaa]
 rcases iev T x with _|x0<;>try rfl
 all_goals (try (cases x0<;>try rfl))
 all_goals (try (split<;>rfl))
 all_goals (try (rename_i b;cases b<;>rfl))
theorem i_build(zs:List AV)(ps:List (Nat×Nat×Opd)):iop T (.build zs ps) H=on (iparts T ps) fun ps=>on (ifill zs ps) fun cs=>some (.agg cs,H):=by
 simp only[iop,xop,on,br,onf,qbs,qd5,qb6,qk0,qk3,qb0,qbx,qku,qhx,qk5,qaa]
 rcases iparts T ps with _|x0<;>try rfl
 dsimp only
 generalize ifill zs x0=q
 rcases q with _|q<;>rfl
theorem i_bslice(z n:Nat)(zs:List AV)(ps:List (Nat×Nat×Opd)):iop T (.bslice z n zs ps) H=on (iparts T ps) fun ps=>on (ifill zs ps) fun cs=>newsl H z n cs:=by
 simp only[iop,xop,on,br,onf,qbs,qd5,qb6,qk0,qk3,qb0,qbx,qku,qhx,qk5,qaa]
 rcases iparts T ps with _|x0<;>try rfl
 dsimp only
 generalize ifill zs x0=q
 rcases q with _|q<;>rfl
theorem i_mkif(t:TypeId)(x:Opd):iop T (.mkif t x) H=on (iev T x) fun x=>some (.iface t x,H):=by
 simp only[iop,xop,on,br,onf,qbs,qd5,qb6,qk0,qk3,qb0,qbx,qku,qhx,qk5,qaa]
 rcases iev T x with _|x0<;>try rfl
 all_goals (try (cases x0<;>try rfl))
 all_goals (try (split<;>rfl))
 all_goals (try (rename_i b;cases b<;>rfl))
theorem i_empty:iop T .empty H=some (.zslc,H):=(rfl)
theorem i_mksl(z b:Nat)(zs:List AV)(l c:Opd):iop T (.mksl z b zs l c) H=on (iev T l) fun l=>on (iev T c) fun c=>q5d z b zs H l c:=by
 simp only[iop,xop,on,br,onf,qbs,qd5,qb6,qk0,qk3,qb0,qbx,qku,qhx,qk5,qaa]
 rcases iev T l with _|x0<;>try rfl
 rcases iev T c with _|x1<;>try rfl
 all_goals (try (cases x0<;>try rfl))
 all_goals (try (cases x1<;>try rfl))
 all_goals (try (split<;>rfl))
 all_goals (try (rename_i b;cases b<;>rfl))
theorem i_load(n:Option Nat)(x:Opd):iop T (.load n x) H=on (iev T x) fun x=>on (iload n H x) fun y=>some (y,H):=by
 simp only[iop,xop,on,br,onf,qbs,qd5,qb6,qk0,qk3,qb0,qbx,qku,qhx,qk5,qaa]
 rcases iev T x with _|x0<;>try rfl
 dsimp only
 generalize iload n H x0=q
 rcases q with _|q<;>rfl
theorem i_store(n:Nat)(x y:Opd):iop T (.store n x y) H=on (iev T x) fun x=>on (iev T y) fun y=>on (istore n H x y) fun H'=>some (.und,H'):=by
 simp only[iop,xop,on,br,onf,qbs,qd5,qb6,qk0,qk3,qb0,qbx,qku,qhx,qk5,qaa]
 rcases iev T x with _|x0<;>try rfl
 rcases iev T y with _|x1<;>try rfl
 dsimp only
 generalize istore n H x0 x1=q
 rcases q with _|q<;>rfl
theorem i_nilck(x:Opd):iop T (.nilck x) H=on (iev T x) fun x=>qbs H x:=by
 simp only[iop,on,qbs]
 rcases iev T x with _|x0<;>try rfl
 cases x0<;>try rfl
 rename_i f cap;cases f<;>rfl
theorem i_bin(op:BinOp)(t:TypeId)(d:Option TypeDesc)(nc:Bool)(x y:Opd):iop T (.bin op t d nc x y) H=on (iev T x) fun x=>on (iev T y) fun y=>on (ibin op t d nc x y) fun z=>some (z,H):=by
 simp only[iop,xop,on,br,onf,qbs,qd5,qb6,qk0,qk3,qb0,qbx,qku,qhx,qk5,qaa]
 rcases iev T x with _|x0<;>try rfl
 rcases iev T y with _|x1<;>try rfl
 dsimp only
 generalize ibin op t d nc x0 x1=q
 rcases q with _|q<;>rfl
theorem i_un(op:UnOp)(x:Opd):iop T (.un op x) H=on (iev T x) fun x=>on (aun op x) fun z=>some (z,H):=by
 simp only[iop,xop,on,br,onf,qbs,qd5,qb6,qk0,qk3,qb0,qbx,qku,qhx,qk5,qaa]
 rcases iev T x with _|x0<;>try rfl
 dsimp only
 generalize aun op x0=q
 rcases q with _|q<;>rfl
theorem i_conv(k:IntKind)(x:Opd):iop T (.conv k x) H=on (iev T x) fun x=>qd5 k H x:=by
 simp only[iop,xop,on,br,onf,qbs,qd5,qb6,qk0,qk3,qb0,qbx,qku,qhx,qk5,qaa]
 rcases iev T x with _|x0<;>try rfl
 all_goals (try (cases x0<;>try rfl))
 all_goals (try (split<;>rfl))
 all_goals (try (rename_i b;cases b<;>rfl))
theorem i_convs(x:Opd):iop T (.convs x) H=on (iev T x) fun x=>qb6 H x:=by
 simp only[iop,xop,on,br,onf,qbs,qd5,qb6,qk0,qk3,qb0,qbx,qku,qhx,qk5,qaa]
 rcases iev T x with _|x0<;>try rfl
 all_goals (try (cases x0<;>try rfl))
 all_goals (try (split<;>rfl))
 all_goals (try (rename_i b;cases b<;>rfl))
theorem i_s2b(x:Opd):iop T (.s2b x) H=on (iev T x) fun x=>qk0 H x:=by
 simp only[iop,xop,on,br,onf,qbs,qd5,qb6,qk0,qk3,qb0,qbx,qku,qhx,qk5,qaa]
 rcases iev T x with _|x0<;>try rfl
 all_goals (try (cases x0<;>try rfl))
 all_goals (try (split<;>rfl))
 all_goals (try (rename_i b;cases b<;>rfl))
theorem i_b2s(x:Opd):iop T (.b2s x) H=on (iev T x) fun x=>qk5 H x:=by
 simp only[iop,on,qk5]
 rcases iev T x with _|x0<;>try rfl
 dsimp only
 generalize qan H 1 x0=q
 rcases q with _|⟨m,xs⟩<;>try rfl
 dsimp only
 generalize qjg xs=r
 rcases r with _|r<;>rfl
theorem i_i2s(x:Opd):iop T (.i2s x) H=on (iev T x) fun x=>qk3 H x:=by
 simp only[iop,xop,on,br,onf,qbs,qd5,qb6,qk0,qk3,qb0,qbx,qku,qhx,qk5,qaa]
 rcases iev T x with _|x0<;>try rfl
 all_goals (try (cases x0<;>try rfl))
 all_goals (try (split<;>rfl))
 all_goals (try (rename_i b;cases b<;>rfl))
theorem i_fn(f:Fn)(cap:List Opd):iop T (.fn f cap) H=on (ievs T cap) fun cs=>some (.fn f cs,H):=by
 simp only[iop,xop,on,br,onf,qbs,qd5,qb6,qk0,qk3,qb0,qbx,qku,qhx,qk5,qaa]
 rcases ievs T cap with _|x0<;>try rfl
 all_goals (try (cases x0<;>try rfl))
 all_goals (try (split<;>rfl))
 all_goals (try (rename_i b;cases b<;>rfl))
theorem i_slice(z:Option Nat)(x:Opd)(lo hi mx:Option Opd):iop T (.slice z x lo hi mx) H=on (iev T x) fun x=>on (ievo T lo) fun lo=>on (ievo T hi) fun hi=>on (ievo T mx) fun mx=>on (islice z x lo hi mx) fun y=>some (y,H):=by
 simp only[iop,xop,on,br,onf,qbs,qd5,qb6,qk0,qk3,qb0,qbx,qku,qhx,qk5,qaa]
 rcases iev T x with _|x0<;>try rfl
 rcases ievo T lo with _|x1<;>try rfl
 rcases ievo T hi with _|x2<;>try rfl
 rcases ievo T mx with _|x3<;>try rfl
 dsimp only
 generalize islice z x0 x1 x2 x3=q
 rcases q with _|q<;>rfl
theorem i_faddr(off:Nat)(x:Opd):iop T (.faddr off x) H=on (iev T x) fun x=>qb0 off H x:=by
 simp only[iop,xop,on,br,onf,qbs,qd5,qb6,qk0,qk3,qb0,qbx,qku,qhx,qk5,qaa]
 rcases iev T x with _|x0<;>try rfl
 all_goals (try (cases x0<;>try rfl))
 all_goals (try (split<;>rfl))
 all_goals (try (rename_i b;cases b<;>rfl))
theorem i_field(off:Nat)(n:Option Nat)(x:Opd):iop T (.field off n x) H=on (iev T x) fun x=>qbx off n H x:=by
 simp only[iop,on]
 rcases iev T x with _|x0<;>try rfl
 cases x0<;>try rfl
 rename_i cs
 cases n<;>try rfl
 simp only[qbx,on]
 generalize cs[off]? = q
 rcases q with _|q<;>rfl
theorem i_iaddr(z:Nat)(x i:Opd):iop T (.iaddr z x i) H=on (iev T x) fun x=>on (iev T i) fun i=>qy5 z H x i:=by
 simp only[iop,on]
 rcases iev T x with _|x0<;>try rfl
 rcases iev T i with _|x1<;>cases x0<;>try rfl
 all_goals cases x1<;>try rfl
 rename_i z' rows k n
 simp only[qy5,on]
 generalize rows[n.toNat]? = q
 rcases q with _|q<;>rfl
theorem i_iaddrA(n z:Nat)(x i:Opd):iop T (.iaddrA n z x i) H=on (iev T x) fun x=>on (iev T i) fun i=>q56 n z H x i:=by
 simp only[iop,xop,on,br,onf,qbs,qd5,qb6,qk0,qk3,qb0,qbx,qku,qhx,qk5,qaa]
 rcases iev T x with _|x0<;>try rfl
 rcases iev T i with _|x1<;>try rfl
 all_goals (try (cases x0<;>try rfl))
 all_goals (try (cases x1<;>try rfl))
 all_goals (try (split<;>rfl))
 all_goals (try (rename_i b;cases b<;>rfl))
theorem i_index(x i:Opd):iop T (.index x i) H=on (iev T x) fun x=>on (iev T i) fun i=>q50 H x i:=by
 simp only[iop,on]
 rcases iev T x with _|x0<;>try rfl
 rcases iev T i with _|x1<;>cases x0<;>try rfl
 cases x1<;>try rfl
 rename_i s k n
 simp only[q50,on]
 generalize s[n.toNat]? = q
 rcases q with _|q<;>rfl
theorem i_ext(x:Opd)(i:Nat):iop T (.ext x i) H=on (iev T x) fun x=>qku i H x:=by
 simp only[iop,on]
 rcases iev T x with _|x0<;>try rfl
 cases x0<;>try rfl
 rename_i vs
 simp only[qku,on]
 generalize vs[i]? = q
 rcases q with _|q<;>rfl
theorem i_len(s:Bool)(x:Opd):iop T (.len s x) H=on (iev T x) fun x=>qhx s H x:=by
 simp only[iop,xop,on,br,onf,qbs,qd5,qb6,qk0,qk3,qb0,qbx,qku,qhx,qk5,qaa]
 rcases iev T x with _|x0<;>try rfl
 all_goals (try (cases x0<;>try rfl))
 all_goals (try (split<;>rfl))
 all_goals (try (rename_i b;cases b<;>rfl))
theorem i_app(z b:Nat)(s x:Opd):iop T (.app z b s x) H=on (iev T s) fun s=>on (iev T x) fun x=>iapp z b s x H:=by
 simp only[iop,xop,on,br,onf,qbs,qd5,qb6,qk0,qk3,qb0,qbx,qku,qhx,qk5,qaa]
 rcases iev T s with _|x0<;>try rfl
 rcases iev T x with _|x1<;>try rfl
 all_goals (try (cases x0<;>try rfl))
 all_goals (try (cases x1<;>try rfl))
 all_goals (try (split<;>rfl))
 all_goals (try (rename_i b;cases b<;>rfl))
theorem i_mm(mx:Bool)(l:List Opd):iop T (.mm mx l) H=on (ievs T l) fun vs=>on (amm mx vs) fun y=>some (y,H):=by
 simp only[iop,xop,on,br,onf,qbs,qd5,qb6,qk0,qk3,qb0,qbx,qku,qhx,qk5,qaa]
 rcases ievs T l with _|x0<;>try rfl
 dsimp only
 generalize amm mx x0=q
 rcases q with _|q<;>rfl
theorem i_capn(x:Opd):iop T (.capn x) H=on (iev T x) fun x=>qaa H x:=by
 simp only[iop,xop,on,br,onf,qbs,qd5,qb6,qk0,qk3,qb0,qbx,qku,qhx,qk5,qaa]
 rcases iev T x with _|x0<;>try rfl
 all_goals (try (cases x0<;>try rfl))
 all_goals (try (split<;>rfl))
 all_goals (try (rename_i b;cases b<;>rfl))
theorem i_mop(m:MOp)(l:List Opd):iop T (.mop m l) H=on (ievs T l) fun xs=>mop m xs H:=by
 simp only[iop,on]
 cases ievs T l<;>rfl
theorem i_appz(z b:Nat)(zs:List AV)(s x:Opd):iop T (.appz z b zs s x) H=on (iev T s) fun s=>on (iev T x) fun x=>qab z b zs H s x:=by
 simp only[iop,xop,on,br,onf,qbs,qd5,qb6,qk0,qk3,qb0,qbx,qku,qhx,qk5,qaa]
 rcases iev T s with _|x0<;>try rfl
 rcases iev T x with _|x1<;>try rfl
 all_goals (try (cases x0<;>try rfl))
 all_goals (try (cases x1<;>try rfl))
 all_goals (try (split<;>rfl))
 all_goals (try (rename_i b;cases b<;>rfl))
end
theorem Tr.setP_setP{α:Type}:∀(p:Pth) (t:Tr α) (x y:α),Tr.setP p (Tr.setP p t x) y=Tr.setP p t y:=by
 intro p
 induction p with
 |nil=>intro t x y;cases t<;>rfl
 |cons q p ih=>intro t x y;cases t<;>cases q<;>simp[Tr.setP,ih]
theorem Tr.set_set{α:Type}(t:Tr α)(n:Nat)(x y:α):(t.set n x).set n y=t.set n y:=Tr.setP_setP _ _ _ _
end
section
open Go Go.RowKit
mutual
def qba:AV→Bool
 |.bool _|.int ..|.str _|.nilp|.nils|.zslc|.nilf|.nili|.nilm=>true
 |.ptr ..|.slc ..|.mapp _|.und=>false
 |.vptr row _=>qa2 row
 |.vals _ rows=>qd4 rows
 |.fn _ cap=>qa2 cap
 |.iface _ v=>qba v
 |.agg cs=>qa2 cs
 |.tup cs=>qa2 cs
def qa2:List AV→Bool
 |[]=>true
 |x::xs=>qba x&&qa2 xs
def qd4:List (List AV)→Bool
 |[]=>true
 |r::rs=>qa2 r&&qd4 rs
end
theorem qa6:∀xs:List AV,qa2 xs=true↔∀x∈xs,qba x=true
 |[]=>by simp[qa2]
 |x::xs=>by simp[qa2,qa6 xs]
theorem qeo:∀rs:List (List AV),qd4 rs=true↔∀r∈rs,qa2 r=true
 |[]=>by simp[qd4]
 |r::rs=>by simp[qd4,qeo rs]
mutual
theorem qi0{G G':Gh}(h:∀b o v,G.M b o=some v→G'.M b o=some v):∀(x:AV) (u:Value),qba x=true→VR G x u→VR G' x u
 |.bool b,u,hp,hv=>hv
 |.int k n,u,hp,hv=>hv
 |.str s,u,hp,hv=>hv
 |.nilp,u,hp,hv=>hv
 |.nils,u,hp,hv=>hv
 |.zslc,u,hp,hv=>hv
 |.nilf,u,hp,hv=>hv
 |.nili,u,hp,hv=>hv
 |.nilm,u,hp,hv=>hv
 |.ptr ..,u,hp,hv=>by simp[qba] at hp
 |.slc ..,u,hp,hv=>by simp[qba] at hp
 |.mapp _,u,hp,hv=>by simp[qba] at hp
 |.und,u,hp,hv=>by simp[qba] at hp
 |.vptr row i,u,hp,hv=>by
  simp only[VR,qba] at hp hv ⊢
  obtain⟨b,o,h1,h2⟩:=hv
  exact⟨b,o,h1,qqf h row b o hp h2⟩
 |.vals z rows,u,hp,hv=>by
  simp only[VR,qba] at hp hv ⊢
  obtain⟨a,cap,h1,h0,h2⟩:=hv
  refine⟨a,cap,h1,h0,?_⟩
  rcases h2 with h2|⟨b,o,h2,h3⟩
  ·exact .inl h2
  ·exact .inr ⟨b,o,h2,qs0 h z rows b o hp h3⟩
 |.fn f cap,u,hp,hv=>by
  simp only[VR,qba] at hp hv ⊢
  obtain⟨cs,h1,h2⟩:=hv
  exact⟨cs,h1,qiz h cap _ hp h2⟩
 |.iface t x,u,hp,hv=>by
  simp only[VR,qba] at hp hv ⊢
  obtain⟨v,h1,h2⟩:=hv
  exact⟨v,h1,qi0 h x v hp h2⟩
 |.agg cs,u,hp,hv=>by
  simp only[VR,qba] at hp hv ⊢
  obtain⟨us,h1,h2⟩:=hv
  exact⟨us,h1,qiz h cs _ hp h2⟩
 |.tup cs,u,hp,hv=>by
  simp only[VR,qba] at hp hv ⊢
  obtain⟨us,h1,h2⟩:=hv
  exact⟨us,h1,qiz h cs _ hp h2⟩
theorem qiz{G G':Gh}(h:∀b o v,G.M b o=some v→G'.M b o=some v):∀(xs:List AV) (us:List Value),qa2 xs=true→VRs G xs us→VRs G' xs us
 |[],us,hp,hv=>by simpa[VRs] using hv
 |x::xs,us,hp,hv=>by
  simp only[VRs,qa2,Bool.and_eq_true] at hp hv ⊢
  obtain⟨u,us',h1,h2,h3⟩:=hv
  exact⟨u,us',h1,qi0 h x u hp.1 h2,qiz h xs us' hp.2 h3⟩
theorem qqf{G G':Gh}(h:∀b o v,G.M b o=some v→G'.M b o=some v):∀(xs:List AV) (b o:Nat),qa2 xs=true→VRow G xs b o→VRow G' xs b o
 |[],b,o,hp,hv=>by simp[VRow]
 |x::xs,b,o,hp,hv=>by
  simp only[VRow,qa2,Bool.and_eq_true] at hp hv ⊢
  obtain⟨⟨u,h1,h2⟩,h3⟩:=hv
  exact⟨⟨u,h _ _ _ h1,qi0 h x u hp.1 h2⟩,qqf h xs b (o+1) hp.2 h3⟩
theorem qs0{G G':Gh}(h:∀b o v,G.M b o=some v→G'.M b o=some v)(z:Nat):∀(rs:List (List AV)) (b o:Nat),qd4 rs=true→VRows G z rs b o→VRows G' z rs b o
 |[],b,o,hp,hv=>by simp[VRows]
 |r::rs,b,o,hp,hv=>by
  simp only[VRows,qd4,Bool.and_eq_true] at hp hv ⊢
  exact⟨hv.1,qqf h r b o hp.1 hv.2.1,qs0 h z rs b _ hp.2 hv.2.2⟩
end
inductive Fz(H:AH):AV→AV→Prop
 |pure {x:AV} (h:qba x=true):Fz H x x
 |nils (z:Nat):Fz H .nils (.vals z [])
 |zslc (z:Nat):Fz H .zslc (.vals z [])
 |agg {xs ys:List AV} (hl:xs.length=ys.length) (h:∀(i:Nat) x y,xs[i]? = some x→ys[i]? = some y→Fz H x y):Fz H (.agg xs) (.agg ys)
 |tup {xs ys:List AV} (hl:xs.length=ys.length) (h:∀(i:Nat) x y,xs[i]? = some x→ys[i]? = some y→Fz H x y):Fz H (.tup xs) (.tup ys)
 |iface {t:TypeId} {x y:AV} (h:Fz H x y):Fz H (.iface t x) (.iface t y)
 |slc {g e i len z:Nat} {r:Grp} {rows:List (List AV)} (hg:H.gs.get g=some r) (he:r.e=e) (hn:rows.length=len) (hz:∀row∈rows,row.length=z) (hb:i+len*z≤r.cells.length)
   (h:∀(j:Nat) x y,r.cells[i+j]? = some x→rows.flatten[j]? = some y→Fz H x y):Fz H (.slc g e i len z) (.vals z rows)
 |vals {z:Nat} {rows rows':List (List AV)} (hn:rows.length=rows'.length) (hz:∀row∈rows,row.length=z) (hz':∀row∈rows',row.length=z)
   (h:∀(j:Nat) x y,rows.flatten[j]? = some x→rows'.flatten[j]? = some y→Fz H x y):Fz H (.vals z rows) (.vals z rows')
 |ptr {g e i:Nat} {r:Grp} {row:List AV} (hg:H.gs.get g=some r) (he:r.e=e) (hb:row.length≤r.cells.length)
   (h:∀(j:Nat) x y,r.cells[j]? = some x→row[j]? = some y→Fz H x y):Fz H (.ptr g e i) (.vptr row i)
theorem qat{z:Nat}:∀{rs:List (List AV)},(∀r∈rs,r.length=z)→rs.flatten.length=rs.length*z
 |[],h=>by simp
 |r::rs,h=>by
  rw[List.flatten_cons,List.length_append,qat fun r' hr=>h r' (List.mem_cons_of_mem _ hr),h r (List.mem_cons_self ..),List.length_cons,Nat.succ_mul,Nat.add_comm]
theorem qdw{G:Gh}{z b:Nat}:∀{rs:List (List AV)} {o:Nat},(∀r∈rs,r.length=z)→(∀(j:Nat) y,rs.flatten[j]? = some y→∃u,G.M b (o+j)=some u∧VR G y u)→VRows G z rs b o
 |[],o,hz,h=>by simp[VRows]
 |r::rs,o,hz,h=>by
  have hr:=hz r (List.mem_cons_self ..)
  simp only[VRows]
  refine⟨hr,VRow.of_get fun j y hj=>?_,qdw (fun r' h'=>hz r' (List.mem_cons_of_mem _ h')) fun j y hj=>?_⟩
  ·refine h j y ?_
   rw[List.flatten_cons,List.getElem?_append_left (List.getElem?_eq_some_iff.1 hj).1]
   exact hj
  ·obtain⟨u,h1,h2⟩:=h (z+j) y (by rw[List.flatten_cons,List.getElem?_append_right (by omega),hr];simpa using hj)
   exact⟨u,by rw[←h1];congr 1;omega,h2⟩
theorem Fz_ok{K:Kx}{G Gf:Gh}{H:AH}{w:World}(h:HRel K G H w)(hM:∀b o v,K.B≤b→w.cell? ⟨b,o,none⟩=some v→v.oneCell'=true→Gf.M b o=some v)(hG:∀b o v,G.M b o=some v→Gf.M b o=some v){x y:AV}(hf:Fz H x y):∀u,VR G x u→VR Gf y u:=by
 induction hf with
 |pure hp=>exact fun u hv=>qi0 hG _ _ hp hv
 |nils z=>intro u hv;simp only[VR] at hv ⊢;subst hv;exact⟨none,0,rfl,Nat.le_refl _,.inl trivial⟩
 |zslc z=>intro u hv;simp only[VR] at hv ⊢;obtain⟨a,rfl⟩:=hv;exact⟨a,0,rfl,Nat.le_refl _,.inl trivial⟩
 |agg hl hx ih=>
  intro u hv
  simp only[VR] at hv ⊢
  obtain⟨us,rfl,h2⟩:=hv
  refine⟨us,rfl,VRs.of_get (by rw[h2.len,hl]) fun j y hj=>?_⟩
  obtain⟨hlt,-⟩:=List.getElem?_eq_some_iff.1 hj
  obtain⟨v,h3,h4⟩:=h2.get j _ (List.getElem?_eq_getElem (by omega))
  exact⟨v,h3,ih j _ y (List.getElem?_eq_getElem (by omega)) hj v h4⟩
 |tup hl hx ih=>
  intro u hv
  simp only[VR] at hv ⊢
  obtain⟨us,rfl,h2⟩:=hv
  refine⟨us,rfl,VRs.of_get (by rw[h2.len,hl]) fun j y hj=>?_⟩
  obtain⟨hlt,-⟩:=List.getElem?_eq_some_iff.1 hj
  obtain⟨v,h3,h4⟩:=h2.get j _ (List.getElem?_eq_getElem (by omega))
  exact⟨v,h3,ih j _ y (List.getElem?_eq_getElem (by omega)) hj v h4⟩
 |iface hx ih=>
  intro u hv
  simp only[VR] at hv ⊢
  obtain⟨v,rfl,h2⟩:=hv
  exact⟨v,rfl,ih v h2⟩
 |@slc g e i len z r rows hg he hn hz hb hx ih=>
  intro u hv
  simp only[VR] at hv ⊢
  obtain⟨b,o,n,cap,hmu,rfl,hcap,hfit⟩:=hv
  obtain⟨b',o',n',cs,t,q⟩:=h.grp g r hg
  rw[←he,q.mu] at hmu
  cases hmu
  refine⟨_,cap,by rw[hn],by rw[hn];exact hcap,.inr ⟨b,o+i,rfl,qdw hz fun j y hj=>?_⟩⟩
  have hlt:j<len*z:=by
   have:=(List.getElem?_eq_some_iff.1 hj).1
   rwa [qat hz,hn] at this
  have hc:r.cells[i+j]? = some (r.cells[i+j]'(by omega)):=List.getElem?_eq_getElem (by omega)
  obtain⟨v,h1,h2,h3⟩:=q.cell _ _ hc
  refine⟨v,hM _ _ _ q.low ?_ h3,ih j _ y hc hj v h2⟩
  rw[qby q.heap,←h1]
  congr 1;omega
 |@vals z rows rows' hn hz hz' hx ih=>
  intro u hv
  simp only[VR] at hv ⊢
  obtain⟨a,cap,rfl,hcap,hin⟩:=hv
  refine⟨a,cap,by rw[hn],by rw[←hn];exact hcap,?_⟩
  rcases hin with h0|⟨b,o,rfl,hin⟩
  ·left;subst h0;exact List.eq_nil_of_length_eq_zero hn.symm
  ·right
   refine⟨b,o,rfl,qdw hz' fun j y hj=>?_⟩
   have hlt:j<rows.flatten.length:=by
    have:=(List.getElem?_eq_some_iff.1 hj).1
    rw[qat hz'] at this
    rw[qat hz,hn];exact this
   obtain⟨v,h1,h2⟩:=VRows.flat hin j _ (List.getElem?_eq_getElem hlt)
   exact⟨v,hG _ _ _ h1,ih j _ y (List.getElem?_eq_getElem hlt) hj v h2⟩
 |@ptr g e i r row hg he hb hx ih=>
  intro u hv
  simp only[VR] at hv ⊢
  obtain⟨b,o,n,hmu,rfl⟩:=hv
  obtain⟨b',o',n',cs,t,q⟩:=h.grp g r hg
  rw[←he,q.mu] at hmu
  cases hmu
  refine⟨b,o,rfl,VRow.of_get fun j y hj=>?_⟩
  have hlt:=(List.getElem?_eq_some_iff.1 hj).1
  have hc:r.cells[j]? = some (r.cells[j]'(by omega)):=List.getElem?_eq_getElem (by omega)
  obtain⟨v,h1,h2,h3⟩:=q.cell _ _ hc
  exact⟨v,hM _ _ _ q.low (by rw[qby q.heap];exact h1) h3,ih j _ y hc hj v h2⟩
theorem HRel.anew{K:Kx}{G:Gh}{H:AH}{w:World}(h:HRel K G H w):HRel ⟨w.heap.size,w,G.M,h.glob⟩ ⟨G.M,fun _ _=>none,fun _=>none⟩ AH.empty w:=by
 refine⟨Below.refl _ _,Nat.le_refl _,h.mem,h.ones,fun _ _ _=>rfl,?_,?_,fun _ _ _=>rfl,?_,?_,fun _ _=>rfl,?_⟩
 ·intro g r hg;rw[show AH.empty.gs.get g=none from Tr.get_nil g] at hg;cases hg
 ·intro g g' r r' b o n b' o' n' hg;rw[show AH.empty.gs.get g=none from Tr.get_nil g] at hg;cases hg
 ·intro g es hg;rw[show AH.empty.ms.get g=none from Tr.get_nil g] at hg;cases hg
 ·intro g g' es es' b b' hg;rw[show AH.empty.ms.get g=none from Tr.get_nil g] at hg;cases hg
 ·intro g r e hg;rw[show AH.empty.gs.get g=none from Tr.get_nil g] at hg;cases hg
def Ans(r:Option (AV×AH))(y:AV):Prop:=∃x H,r=some (x,H)∧Fz H x y
theorem Ans.some{x y:AV}{H:AH}(h:Fz H x y):Ans (some (x,H)) y:=⟨x,H,rfl,h⟩
theorem ACalls.pure{P:Program}{f:FuncId}{args:List AV}{x y:AV}{H1:AH}(hargs:qa2 args=true)(h:ACalls P f args AH.empty fun x' H'=>x'=x∧H'=H1)(hf:Fz H1 x y)(H:AH) :
  ACalls P f args H fun y' H'=>y'=y∧H'=H:=by
 intro K G vs w hr hv
 refine (h _ _ vs w hr.anew (qiz (G:=G) (G':=⟨G.M,fun _ _=>none,fun _=>none⟩) (fun _ _ _ h=>h) _ _ hargs hv)).mono fun e w' ⟨u,x',G',H',h1,h2,h3,h4,h5,h6⟩=>?_
 subst h5;subst h6
 have hnew:∀b o v,w.heap.size≤b→w'.cell? ⟨b,o,none⟩=some v→v.oneCell'=true→(qvw G w.heap.size w').M b o=some v:=fun b o v hB hc ho=>by
  simp only[qvw]
  rw[if_neg (by omega)]
  exact qco hc ho
 refine⟨u,y,qvw G w.heap.size w',H,h1,qqn hr,qqm hr h3.below,?_,rfl,rfl⟩
 refine Fz_ok h3 hnew (fun b o v hv=>?_) hf u h4
 by_cases hb:b<w.heap.size
 ·have:=h3.old b o hb
  rw[hv] at this
  simp only[qvw]
  rw[if_pos hb]
  exact this.symm
 ·exact hnew b o v (by omega) (h3.mem b o v hv) (h3.ones b o v hv)
def qs1(s:List AV→Option AV)(args:List AV)(H:AH):Option (AV×AH):=
 match s args with
 |some y=>some (y,H)
 |none=>none
theorem HookOne.ofPure{P:Program}{f:FuncId}{s:List AV→Option AV}(hb:qa3 P f=true)(h:∀args y,s args=some y→∀H,ACalls P f args H fun y' H'=>y'=y∧H'=H):HookOne P f (qs1 s):=by
 refine⟨hb,fun args H x H' hx=>?_,fun args H x H' hx=>?_⟩
 ·unfold qs1 at hx
  split at hx
  ·rename_i y hy;cases hx;exact h args _ hy H
  ·cases hx
 ·unfold qs1 at hx
  split at hx
  ·rename_i y hy
   cases hx
   exact FrameR.same fun R H2 _ _=>by simp only[qs1,hy]
  ·cases hx
def tcall(l:List (FuncId×(List AV→AH→Option (AV×AH)))):qar:=fun f args H=>match qbw l f with|some h=>h args H|none=>none
theorem qlj{P:Program}{l:List (FuncId×(List AV→AH→Option (AV×AH)))}(h:∀e∈l,HookOne P e.1 e.2):qcp P (tcall l)∧qaw (tcall l):=by
 obtain⟨h1,h2⟩:=qc4 h
 refine⟨fun g xs H x H' hx=>?_,fun g xs H x H' hx=>?_⟩
 ·unfold tcall at hx
  split at hx
  ·rename_i k hk;exact h1 g k hk xs H x H' hx
  ·cases hx
 ·unfold tcall at hx
  split at hx
  ·rename_i k hk
   obtain⟨q1,q2⟩:=h2 g k hk xs H x H' hx
   refine⟨q1,fun R H2 a b=>?_⟩
   obtain⟨H3,k1,k2⟩:=q2 R H2 a b
   exact⟨H3,by simp only[tcall,hk,k1],k2⟩
  ·cases hx
theorem q3i(g:FuncId)(h:List AV→AH→Option (AV×AH))(l:List (FuncId×(List AV→AH→Option (AV×AH))))(args:List AV)(H:AH):tcall ((g,h)::l) g args H=h args H:=by
 simp only[tcall,qbw,Nat.beq_refl,cond_true]
theorem q0h{g f:FuncId}(hne:f≠g)(h:List AV→AH→Option (AV×AH))(l:List (FuncId×(List AV→AH→Option (AV×AH))))(args:List AV)(H:AH):tcall ((g,h)::l) f args H=tcall l f args H:=by
 simp only[tcall,qbw,Tr.beq_f hne,cond_false]
theorem ACalls.ofRun{P:Program}{l:List (FuncId×(List AV→AH→Option (AV×AH)))}(hl:∀e∈l,HookOne P e.1 e.2)(hm:P.follows .mixedOrders=true){f:FuncId}(hD:qwg P f=true){y:YF}(hy:qbp P (fun _=>true) f=some y.er)
  {args:List AV} (hb:Nat.ble args.length y.nt=true) (hargs:qa2 args=true) (F:Nat) {z:AV} (h:Ans (yend y.res (ycode (tcall l) F y.body (xinit args 0 .nil) AH.empty)) z) (H:AH):ACalls P f args H fun y' H'=>y'=z∧H'=H:=by
 obtain⟨x,H1,h1,h2⟩:=h
 obtain⟨c1,c2⟩:=qlj hl
 exact ACalls.pure hargs (qpl c1 c2 hm hD hy hb h1).2 h2 H
end
section
open Go Go.RowKit
section
variable (t:TypeId) (d:Option TypeDesc) (nc:Bool) (k:IntKind) (a b:Int) (x y:List UInt8) (p q:Bool)
theorem b_add:ibin .add t d nc (.int k a) (.int k b)=some (.int k (k.wrap (a+b))):=by cases k<;>exact (rfl)
theorem b_sub:ibin .sub t d nc (.int k a) (.int k b)=some (.int k (k.wrap (a-b))):=by cases k<;>exact (rfl)
theorem b_mul:ibin .mul t d nc (.int k a) (.int k b)=some (.int k (k.wrap (a*b))):=by cases k<;>exact (rfl)
theorem b_lss:ibin .lss t d nc (.int k a) (.int k b)=some (.bool (decide (a<b))):=by cases k<;>exact (rfl)
theorem b_leq:ibin .leq t d nc (.int k a) (.int k b)=some (.bool (decide (a≤b))):=by cases k<;>exact (rfl)
theorem b_gtr:ibin .gtr t d nc (.int k a) (.int k b)=some (.bool (decide (b<a))):=by cases k<;>exact (rfl)
theorem b_geq:ibin .geq t d nc (.int k a) (.int k b)=some (.bool (decide (b≤a))):=by cases k<;>exact (rfl)
theorem b_eql:ibin .eql t d nc (.int k a) (.int k b)=some (.bool (decide (a=b))):=by cases k<;>exact (rfl)
theorem b_neq:ibin .neq t d nc (.int k a) (.int k b)=some (.bool (!decide (a=b))):=by cases k<;>exact (rfl)
theorem c_eql:ibin .eql t d nc (.str x) (.str y)=some (.bool (x==y)):=(rfl)
theorem c_neq:ibin .neq t d nc (.str x) (.str y)=some (.bool (!(x==y))):=(rfl)
theorem c_add:ibin .add t d nc (.str x) (.str y)=if x.length+y.length≤9223372036854775807 then some (.str (x++y)) else none:=(rfl)
theorem c_lss:ibin .lss t d nc (.str x) (.str y)=some (.bool (Op.bytesLess x y)):=(rfl)
theorem l_eql:ibin .eql t (some .bool) nc (.bool p) (.bool q)=some (.bool (p==q)):=(rfl)
theorem l_neq:ibin .neq t (some .bool) nc (.bool p) (.bool q)=some (.bool (!(p==q))):=(rfl)
theorem n_eql(e:TypeId)(g i j:Nat):ibin .eql t (some (.pointer e)) nc (.ptr g i j) .nilp=some (.bool false):=(rfl)
theorem n_neq(e:TypeId)(g i j:Nat):ibin .neq t (some (.pointer e)) nc (.ptr g i j) .nilp=some (.bool true):=(rfl)
theorem m_eql(e:TypeId)(r:List AV)(i:Nat):ibin .eql t (some (.pointer e)) nc (.vptr r i) .nilp=some (.bool false):=(rfl)
theorem m_neq(e:TypeId)(r:List AV)(i:Nat):ibin .neq t (some (.pointer e)) nc (.vptr r i) .nilp=some (.bool true):=(rfl)
theorem o_eql(e:TypeId):ibin .eql t (some (.pointer e)) nc .nilp .nilp=some (.bool true):=(rfl)
theorem o_neq(e:TypeId):ibin .neq t (some (.pointer e)) nc .nilp .nilp=some (.bool false):=(rfl)
theorem u_not:aun .not (.bool p)=some (.bool (!p)):=(rfl)
end
section
variable (cs:List AV) (k:IntKind) (n:Int) (s:List UInt8) (b:Bool) (g e i len z:Nat) (rows:List (List AV)) (r:List AV) (f:Fn) (t:TypeId) (x:AV)
theorem ce_agg:(AV.agg cs).cells=cs:=(rfl)
theorem ce_int:(AV.int k n).cells=[.int k n]:=(rfl)
theorem ce_str:(AV.str s).cells=[.str s]:=(rfl)
theorem ce_bool:(AV.bool b).cells=[.bool b]:=(rfl)
theorem ce_nils:AV.nils.cells=[.nils]:=(rfl)
theorem ce_zslc:AV.zslc.cells=[.zslc]:=(rfl)
theorem ce_nilp:AV.nilp.cells=[.nilp]:=(rfl)
theorem ce_nilm:AV.nilm.cells=[.nilm]:=(rfl)
theorem ce_nilf:AV.nilf.cells=[.nilf]:=(rfl)
theorem ce_nili:AV.nili.cells=[.nili]:=(rfl)
theorem ce_slc:(AV.slc g e i len z).cells=[.slc g e i len z]:=(rfl)
theorem ce_vals:(AV.vals z rows).cells=[.vals z rows]:=(rfl)
theorem ce_ptr:(AV.ptr g e i).cells=[.ptr g e i]:=(rfl)
theorem ce_vptr:(AV.vptr r i).cells=[.vptr r i]:=(rfl)
theorem ce_fn:(AV.fn f r).cells=[.fn f r]:=(rfl)
theorem ce_mapp:(AV.mapp g).cells=[.mapp g]:=(rfl)
theorem ce_iface:(AV.iface t x).cells=[.iface t x]:=(rfl)
theorem fi_agg:(AV.agg cs).fit=cs.all AV.one:=(rfl)
theorem fi_int:(AV.int k n).fit=true:=(rfl)
theorem fi_str:(AV.str s).fit=true:=(rfl)
theorem fi_bool:(AV.bool b).fit=true:=(rfl)
theorem fi_nils:AV.nils.fit=true:=(rfl)
theorem fi_zslc:AV.zslc.fit=true:=(rfl)
theorem fi_nilp:AV.nilp.fit=true:=(rfl)
theorem fi_nilm:AV.nilm.fit=true:=(rfl)
theorem fi_nilf:AV.nilf.fit=true:=(rfl)
theorem fi_nili:AV.nili.fit=true:=(rfl)
theorem fi_slc:(AV.slc g e i len z).fit=true:=(rfl)
theorem fi_vals:(AV.vals z rows).fit=true:=(rfl)
theorem fi_ptr:(AV.ptr g e i).fit=true:=(rfl)
theorem fi_vptr:(AV.vptr r i).fit=true:=(rfl)
theorem fi_fn:(AV.fn f r).fit=true:=(rfl)
theorem fi_mapp:(AV.mapp g).fit=true:=(rfl)
theorem fi_iface:(AV.iface t x).fit=true:=(rfl)
theorem on_int:(AV.int k n).one=true:=(rfl)
theorem on_str:(AV.str s).one=true:=(rfl)
theorem on_bool:(AV.bool b).one=true:=(rfl)
theorem on_nils:AV.nils.one=true:=(rfl)
theorem on_zslc:AV.zslc.one=true:=(rfl)
theorem on_nilp:AV.nilp.one=true:=(rfl)
theorem on_nilm:AV.nilm.one=true:=(rfl)
theorem on_nilf:AV.nilf.one=true:=(rfl)
theorem on_nili:AV.nili.one=true:=(rfl)
theorem on_slc:(AV.slc g e i len z).one=true:=(rfl)
theorem on_vals:(AV.vals z rows).one=true:=(rfl)
theorem on_ptr:(AV.ptr g e i).one=true:=(rfl)
theorem on_vptr:(AV.vptr r i).one=true:=(rfl)
theorem on_fn:(AV.fn f r).one=true:=(rfl)
theorem on_mapp:(AV.mapp g).one=true:=(rfl)
theorem on_iface:(AV.iface t x).one=true:=(rfl)
end
theorem wrap_i64{x:Int}(h1 : -9223372036854775808≤x)(h2:x≤9223372036854775807):IntKind.i64.wrap x=x:=by
 rw[IntKind.wrap_i64]
 omega
section
variable (H:AH) (g e i n:Nat) (row:List AV) (v:AV) (z:Nat)
theorem iload_p:iload none H (.ptr g e i)=on (H.gs.get g) fun r=>if r.e=e then r.cells[i]? else none:=by
 simp only[iload,qcn,on]
 cases H.gs.get g with
 |none=>rfl
 |some r=>
  dsimp only
  by_cases he:r.e=e
  ·by_cases hi:i+1≤r.cells.length
   ·rw[if_pos ⟨he,hi⟩,List.getElem?_eq_getElem (by omega)]
    simp only[if_pos he]
    rw[List.drop_eq_getElem_cons (by omega)]
    rfl
   ·rw[if_neg (fun h=>hi h.2)]
    simp only[if_pos he,List.getElem?_eq_none (show r.cells.length≤i by omega)]
  ·rw[if_neg (fun h=>he h.1)]
   simp only[if_neg he]
theorem iload_v:iload none H (.vptr row i)=row[i]?:=by
 simp only[iload,qcn]
 by_cases hi:i+1≤row.length
 ·rw[if_pos hi,List.getElem?_eq_getElem (by omega),List.drop_eq_getElem_cons (by omega)]
  rfl
 ·rw[if_neg hi,List.getElem?_eq_none (by omega)]
theorem qy3:iload (some n) H (.ptr g e i)=on (H.gs.get g) fun r=>if r.e=e∧i+n≤r.cells.length then some (.agg ((r.cells.drop i).take n)) else none:=by
 simp only[iload,qcn,on]
 cases H.gs.get g with
 |none=>rfl
 |some r=>
  by_cases h:r.e=e∧i+n≤r.cells.length
  ·simp only[if_pos h]
  ·simp only[if_neg h]
theorem iload_vs:iload (some n) H (.vptr row i)=if i+n≤row.length then some (.agg ((row.drop i).take n)) else none:=by
 simp only[iload,qcn]
 by_cases h:i+n≤row.length
 ·simp only[if_pos h]
 ·simp only[if_neg h]
theorem istore_p:istore n H (.ptr g e i) v=on (H.gs.get g) fun r=>if r.e=e∧r.fz≤i∧v.cells.length=n∧i+v.cells.length≤r.cells.length∧v.fit=true then
  some ⟨H.next,H.gs.set g ⟨r.e,r.fz,r.cells.take i++v.cells++r.cells.drop (i+v.cells.length)⟩,H.ms⟩ else none:=by
 simp only[istore,on]
 cases H.gs.get g<;>rfl
theorem qe0:H.free=true↔H.gs.get H.next=none:=by
 unfold AH.free
 cases H.gs.get H.next<;>simp
theorem newsl_eq(cs:List AV):newsl H z n cs=if H.gs.get H.next=none then some (.slc H.next 0 0 n z,H.add cs) else none:=by
 unfold newsl
 by_cases h:H.gs.get H.next=none
 ·rw[if_pos h,(qe0 H).2 h];rfl
 ·rw[if_neg h]
  cases hf:H.free with
  |true=>exact absurd ((qe0 H).1 hf) h
  |false=>rfl
theorem abox_eq:abox H v=if v.fit=true∧v.cells≠[]∧H.gs.get H.next=none then some (.ptr H.next 0 0,H.add v.cells) else none:=by
 unfold abox
 simp only[qe0]
theorem add_mk(nx:Nat)(gs:Tr Grp)(ms:Tr qbm)(cs:List AV):AH.add ⟨nx,gs,ms⟩ cs=⟨nx+1,gs.set nx ⟨0,0,cs⟩,ms⟩:=(rfl)
theorem qzg:AH.empty=⟨0,.nil,.nil⟩:=(rfl)
theorem q5s:qan H z .nils=some (0,[]):=(rfl)
theorem lc_zslc:qan H z .zslc=some (0,[]):=(rfl)
theorem qv2(rows:List (List AV)):qan H z (.vals n rows)=if n=z then some (rows.length,rows.flatten) else none:=(rfl)
theorem qot(len z':Nat):qan H z (.slc g e i len z')=on (H.gs.get g) fun r=>if r.e=e∧z'=z∧i+len*z≤r.cells.length then some (len,(r.cells.drop i).take (len*z)) else none:=by
 simp only[qan,on]
 cases H.gs.get g<;>rfl
theorem qlz(b:Nat)(x:AV):iapp z b .nils x H=on (qan H z x) fun p=>if p.1=0 then some (.nils,H) else
  if p.1*b≤140737488355328∧p.1≤9223372036854775807∧H.gs.get H.next=none then some (.slc H.next 0 0 p.1 z,H.add p.2) else none:=by
 simp only[iapp,on]
 cases qan H z x with
 |none=>rfl
 |some p=>
  obtain⟨m,xs⟩:=p
  simp only[qej,if_true,qe0]
theorem qzv(b:Nat)(x:AV):iapp z b .zslc x H=on (qan H z x) fun p=>if p.1=0 then some (.zslc,H) else
  if p.1*b≤140737488355328∧p.1≤9223372036854775807∧H.gs.get H.next=none then some (.slc H.next 0 0 p.1 z,H.add p.2) else none:=by
 simp only[iapp,on]
 cases qan H z x with
 |none=>rfl
 |some p=>
  obtain⟨m,xs⟩:=p
  simp only[qej,if_true,qe0]
theorem qn0(b len z':Nat)(x:AV):iapp z b (.slc g e i len z') x H=on (qan H z x) fun p=>if p.1=0 then some (.slc g e i len z',H) else
  on (H.gs.get g) fun r=>if r.e=e∧z'=z∧r.fz≤i+len*z'∧i+len*z'≤r.cells.length∧(len+p.1)*b≤140737488355328∧len+p.1≤9223372036854775807 then
     some (.slc g (e+1) 0 (len+p.1) z',⟨H.next,H.gs.set g ⟨e+1,r.fz-i,(r.cells.drop i).take (len*z')++p.2⟩,H.ms⟩) else none:=by
 simp only[iapp,on]
 cases qan H z x with
 |none=>rfl
 |some p=>
  obtain⟨m,xs⟩:=p
  simp only[qej,if_true]
  by_cases h0:m=0
  ·simp only[if_pos h0]
  ·simp only[if_neg h0]
   cases H.gs.get g<;>rfl
end
section
variable (H:AH)
theorem nilck_p(g e i:Nat):qbs H (.ptr g e i)=some (.ptr g e i,H):=(rfl)
theorem nilck_v(r:List AV)(i:Nat):qbs H (.vptr r i)=some (.vptr r i,H):=(rfl)
theorem nilck_f(f:FuncId)(cap:List AV):qbs H (.fn (.func f) cap)=some (.fn (.func f) cap,H):=(rfl)
theorem conv_i(k k':IntKind)(n:Int):qd5 k H (.int k' n)=some (.int k (k.wrap n),H):=(rfl)
theorem convs_s(s:List UInt8):qb6 H (.str s)=some (.str s,H):=(rfl)
theorem s2b_s(s:List UInt8):qk0 H (.str s)=some (.vals 1 (qdu s),H):=(rfl)
theorem i2s_i(k:IntKind)(n:Int):qk3 H (.int k n)=some (.str (Utf8.encode n).data.toList,H):=(rfl)
theorem faddr_p(off g e i:Nat):qb0 off H (.ptr g e i)=some (.ptr g e (i+off),H):=(rfl)
theorem faddr_v(off:Nat)(r:List AV)(i:Nat):qb0 off H (.vptr r i)=some (.vptr r (i+off),H):=(rfl)
theorem field_s(off n:Nat)(cs:List AV):qbx off (some n) H (.agg cs)=some (.agg ((cs.drop off).take n),H):=(rfl)
theorem field_o(off:Nat)(cs:List AV):qbx off none H (.agg cs)=on (cs[off]?) fun y=>some (y,H):=(rfl)
theorem iaddr_s(z g a s len z':Nat)(k:IntKind)(i:Int):qy5 z H (.slc g a s len z') (.int k i)=if 0≤i∧i<len∧z'=z then some (.ptr g a (s+i.toNat*z),H) else none:=(rfl)
theorem iaddr_v(z z':Nat)(rows:List (List AV))(k:IntKind)(i:Int):qy5 z H (.vals z' rows) (.int k i)=if 0≤i∧z'=z then on (rows[i.toNat]?) fun r=>some (.vptr r 0,H) else none:=(rfl)
theorem iaddrA_p(n z g a s:Nat)(k:IntKind)(i:Int):q56 n z H (.ptr g a s) (.int k i)=if 0≤i∧i<n then some (.ptr g a (s+i.toNat*z),H) else none:=(rfl)
theorem index_s(s:List UInt8)(k:IntKind)(i:Int):q50 H (.str s) (.int k i)=if 0≤i then on (s[i.toNat]?) fun c=>some (.int .u8 c.toNat,H) else none:=(rfl)
theorem ext_t(i:Nat)(vs:List AV):qku i H (.tup vs)=on (vs[i]?) fun y=>some (y,H):=(rfl)
theorem len_s(s:List UInt8):qhx true H (.str s)=some (.int .i64 s.length,H):=(rfl)
theorem len_l(g e i len z:Nat):qhx false H (.slc g e i len z)=some (.int .i64 len,H):=(rfl)
theorem len_v(z:Nat)(rows:List (List AV)):qhx false H (.vals z rows)=some (.int .i64 rows.length,H):=(rfl)
theorem len_n:qhx false H .nils=some (.int .i64 0,H):=(rfl)
theorem len_z:qhx false H .zslc=some (.int .i64 0,H):=(rfl)
theorem natOf_n(d:Nat):qa9 none d=some d:=(rfl)
theorem natOf_s(k:IntKind)(n:Int)(d:Nat):qa9 (some (.int k n)) d=if 0≤n then some n.toNat else none:=(rfl)
theorem qfc(s:List UInt8)(lo hi:Option AV):islice none (.str s) lo hi none=on (qa9 hi s.length) fun h=>on (qa9 lo 0) fun l=>if l≤h∧h≤s.length then some (.str ((s.drop l).take (h-l))) else none:=by
 simp only[islice,on]
 cases qa9 hi s.length with
 |none=>cases qa9 lo 0<;>rfl
 |some h=>cases qa9 lo 0<;>rfl
theorem q0l(e z:Nat)(rows:List (List AV))(lo hi:Option AV):islice (some e) (.vals z rows) lo hi none=on (qa9 hi rows.length) fun h=>on (qa9 lo 0) fun l=>if l≤h∧h≤rows.length∧z=e∧z≠0 then some (.vals z ((rows.drop l).take (h-l))) else none:=by
 simp only[islice,on]
 cases qa9 hi rows.length with
 |none=>cases qa9 lo 0<;>rfl
 |some h=>cases qa9 lo 0<;>rfl
theorem q3p(n g a i len z:Nat)(lo hi:Option AV):islice (some n) (.slc g a i len z) lo hi none=on (qa9 hi len) fun h=>on (qa9 lo 0) fun l=>if l≤h∧h≤len∧z=n∧z≠0 then (if l=0∨l<h then some (.slc g a (i+l*z) (h-l) z) else some (.vals z [])) else none:=by
 simp only[islice,on]
 cases qa9 hi len with
 |none=>cases qa9 lo 0<;>rfl
 |some h=>cases qa9 lo 0<;>rfl
end
theorem q51(cs:List AV):ifill cs []=some cs:=(rfl)
theorem q03(cs:List AV)(off size:Nat)(v:AV)(rest:List (Nat×Nat×AV)):ifill cs ((off,size,v)::rest)=if v.cells.length=size∧off+v.cells.length≤cs.length∧v.fit=true then ifill (cs.take off++v.cells++cs.drop (off+v.cells.length)) rest else none:=(rfl)
section
variable (T:Tr AV) (H:AH)
theorem q5w:iress T H []=some []:=(rfl)
theorem iress_sr(l:Fr)(n:Nat)(rs:List IRes):iress (mk l) H (sr n::rs)=on (fget l n) fun x=>on (iress (mk l) H rs) fun xs=>some (x::xs):=by
 simp only[iress,sr,qh6,on]
 cases fget l n with
 |none=>rfl
 |some x=>cases iress (mk l) H rs<;>rfl
theorem iress_sk(l:Fr)(n:Nat)(m:Option Nat)(rs:List IRes):iress (mk l) H (sk n m::rs)=on (fget l n) fun a=>on (iload m H a) fun x=>on (iress (mk l) H rs) fun xs=>some (x::xs):=by
 simp only[iress,sk,qh6,on]
 cases fget l n with
 |none=>rfl
 |some a=>
  dsimp only
  cases iload m H a with
  |none=>rfl
  |some x=>cases iress (mk l) H rs<;>rfl
def tupd:List AV→AV
 |[x]=>x
 |xs=>.tup xs
theorem ires_eq(rs:List IRes):ires T H rs=on (iress T H rs) fun xs=>some (tupd xs):=by
 simp only[ires,on]
 cases iress T H rs with
 |none=>rfl
 |some xs=>match xs with
  |[]=>rfl
  |[x]=>rfl
  |x::y::zs=>rfl
theorem tupd_1(x:AV):tupd [x]=x:=(rfl)
theorem tupd_2(x y:AV):tupd [x,y]=.tup [x,y]:=(rfl)
theorem tupd_3(x y z:AV):tupd [x,y,z]=.tup [x,y,z]:=(rfl)
theorem tupd_4(x y z u:AV):tupd [x,y,z,u]=.tup [x,y,z,u]:=(rfl)
theorem yend_n(rs:List IRes):yend rs (some (.normal,T,H))=on (ires T H rs) fun x=>some (x,H):=by
 simp only[yend,on];cases ires T H rs<;>rfl
theorem yend_r(rs:List IRes):yend rs (some (.ret,T,H))=on (ires T H rs) fun x=>some (x,H):=by
 simp only[yend,on];cases ires T H rs<;>rfl
end
theorem qaf(a:AV):xinit [a] 0 .nil=mk [(0,a)]:=(rfl)
theorem qak(a b:AV):xinit [a,b] 0 .nil=mk [(1,b),(0,a)]:=(rfl)
theorem qb7(a b c:AV):xinit [a,b,c] 0 .nil=mk [(2,c),(1,b),(0,a)]:=(rfl)
theorem qb1(a b c d:AV):xinit [a,b,c,d] 0 .nil=mk [(3,d),(2,c),(1,b),(0,a)]:=(rfl)
theorem xinit_0:xinit [] 0 .nil=mk []:=(rfl)
section
variable (call:qar) (base F:Nat) (T:Tr AV) (H:AH) (W:List WE)
def dq(r:Option DS):XR:=match r with|some s=>some (.normal,s.T,s.H)|none=>none
theorem dq_some(T:Tr AV)(H:AH)(W:List WE):dq (some ⟨T,H,W⟩)=some (.normal,T,H):=(rfl)
theorem y_dops(n:Nat)(l:List DOp):ycode call F (.dops n l) T H=dq (drun call H.next l ⟨T,⟨H.next+n,H.gs,H.ms⟩,[]⟩):=by
 simp only[ycode,dq]
 all_goals (cases drun call H.next l ⟨T,⟨H.next+n,H.gs,H.ms⟩,[]⟩<;>rfl)
theorem d_nil(s:DS):drun call base [] s=some s:=(rfl)
noncomputable def dok(dst:Option Pth)(l:List DOp)(r:Option (AV×AH×List WE)):Option DS:=match r with
 |some p=>drun call base l ⟨xput T dst p.1,p.2.1,p.2.2⟩
 |none=>none
theorem dok_some(dst:Option Pth)(l:List DOp)(x:AV):dok call base T dst l (some (x,H,W))=drun call base l ⟨xput T dst x,H,W⟩:=(rfl)
theorem d_cons(idx:Nat)(dst:Option Pth)(k:DK)(l:List DOp):drun call base (⟨idx,dst,s0,k⟩::l) ⟨T,H,W⟩=dok call base T dst l (eff call base T H W idx k):=by
 simp only[drun,dstep,s0,gval,dok]
 cases eff call base T H W idx k<;>rfl
noncomputable def dgk(idx:Nat)(dst:Option Pth)(w:Bool)(k:DK)(l:List DOp)(o:Option AV):Option DS:=match o with
 |some (.bool x)=>bif x==w then dok call base T dst l (eff call base T H W idx k) else drun call base l ⟨xput T dst .und,H,W⟩
 |some .und=>drun call base l ⟨xput T dst .und,H,W⟩
 |_=>none
section
variable (idx:Nat) (dst:Option Pth) (w:Bool) (k:DK) (l:List DOp)
theorem dgk_tt:dgk call base T H W idx dst true k l (some (.bool true))=dok call base T dst l (eff call base T H W idx k):=(rfl)
theorem dgk_ff:dgk call base T H W idx dst false k l (some (.bool false))=dok call base T dst l (eff call base T H W idx k):=(rfl)
theorem dgk_tf:dgk call base T H W idx dst false k l (some (.bool true))=drun call base l ⟨xput T dst .und,H,W⟩:=(rfl)
theorem dgk_ft:dgk call base T H W idx dst true k l (some (.bool false))=drun call base l ⟨xput T dst .und,H,W⟩:=(rfl)
theorem dgk_u:dgk call base T H W idx dst w k l (some .und)=drun call base l ⟨xput T dst .und,H,W⟩:=(rfl)
end
theorem d_consg(fr:Fr)(idx:Nat)(dst:Option Pth)(n:Nat)(w:Bool)(k:DK)(l:List DOp):drun call base (⟨idx,dst,sg n w,k⟩::l) ⟨mk fr,H,W⟩=dgk call base (mk fr) H W idx dst w k l (fget fr n):=by
 simp only[drun,dstep,sg,gval,qh6,dgk,dok]
 cases fget fr n with
 |none=>rfl
 |some x=>
  cases x<;>try rfl
  rename_i b
  cases b<;>cases w<;>simp[bval]<;>cases eff call base (mk fr) H W idx k<;>rfl
theorem e_pure(idx:Nat)(i:IOp):eff call base T H W idx (.pure i)=on (iop T i H) fun p=>some (p.1,H,W):=by
 simp only[eff,on]
 cases iop T i H<;>rfl
theorem e_load(idx:Nat)(n:Option Nat)(x:Opd):eff call base T H W idx (.load n x)=on (iev T x) fun p=>on (iload n H p) fun v=>some (v,H,⟨idx,n,p,v⟩::W):=by
 simp only[eff,on]
 cases iev T x with
 |none=>rfl
 |some p=>dsimp only;cases iload n H p<;>rfl
def chk(b:Bool)(r:Option (AV×AH×List WE)):Option (AV×AH×List WE):=bif b then r else none
theorem chk_t(r:Option (AV×AH×List WE)):chk true r=r:=(rfl)
theorem e_k2(idx:Nat)(k:IK)(w:List Nat):eff call base T H W idx (.k2 k w)=on (xop call T H k) fun p=>chk (wcheck p.2 w W) (some (p.1,p.2,W)):=by
 simp only[eff,on,chk]
 cases xop call T H k<;>rfl
theorem e_alloc(idx:Nat)(i:IOp):eff call base T H W idx (.alloc i)=on (iop T i ⟨base+idx,H.gs,H.ms⟩) fun p=>some (p.1,⟨H.next,p.2.gs,p.2.ms⟩,W):=by
 simp only[eff,on]
 cases iop T i ⟨base+idx,H.gs,H.ms⟩<;>rfl
theorem w_nil(w:List Nat):wcheck H w []=true:=(rfl)
theorem w_cons(w:List Nat)(i:Nat)(n:Option Nat)(p v:AV)(es:List WE):wcheck H w (⟨i,n,p,v⟩::es)=((!w.elem i||(match iload n H p with|some u=>qny u v|none=>false))&&wcheck H w es):=by
 simp only[wcheck]
 cases w.elem i
 ·simp
 ·simp only[cond_true,Bool.not_true,Bool.false_or]
  cases iload n H p<;>rfl
theorem w_none:wcheck H [] W=true:=by
 induction W with
 |nil=>rfl
 |cons e es ih=>obtain⟨i,n,p,v⟩:=e;rw[w_cons,ih];rfl
end
theorem tcall_eq(g:FuncId)(h:List AV→AH→Option (AV×AH))(l:List (FuncId×(List AV→AH→Option (AV×AH))))(f:FuncId)(args:List AV)(H:AH):tcall ((g,h)::l) f args H=if f=g then h args H else tcall l f args H:=by
 by_cases e:f=g
 ·subst e;rw[if_pos rfl];exact q3i _ _ _ _ _
 ·rw[if_neg e];exact q0h e _ _ _ _
theorem pureH_on(s:List AV→Option AV)(args:List AV)(H:AH):qs1 s args H=on (s args) fun y=>some (y,H):=by
 simp only[qs1,on];cases s args<;>rfl
end
end Go.Abs
