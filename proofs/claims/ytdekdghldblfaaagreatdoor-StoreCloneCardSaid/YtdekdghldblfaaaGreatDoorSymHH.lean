import Derived.Test.YtdekdghldblfaaaGreatDoorSymQQ
import Derived.Test.YtdekdghldblfaaaGreatDoorYSm
import Derived.Test.YtdekdghldblfaaaGreatDoorSymB
set_option linter.unusedVariables false
set_option linter.unusedSimpArgs false
namespace Go.Proofs.YtdekdghldblfaaaGreatDoor
section
open Go Go.Abs Go.RowKit
end
section
open Go Go.Abs Go.RowKit
attribute [local congr] qai qaj qag
end
section
open Go Go.Abs Go.RowKit
def strip(c:Cl):Int×Tm×Tm:=(c.lab,c.hd,c.bd)
structure HR(c:Int)(s t:St):Prop where
 view:∀nm ar,(qec s nm ar c).map strip=(qec t nm ar c).map strip
 cnt:∀l,qhi l c=true→qav s l=qav t l
theorem hr0(c q:Int)(n m:Nat):HR c (st0 q n) (st0 q m):=⟨fun nm ar=>rfl,fun l _=>rfl⟩
theorem or_leq:∀c l:Int,(0≤c∧c<4)→(0≤l∧l<4)→(decide (orI l c=c)=qhi l c):=by
 intro c l hc hl
 have h1:c=0∨c=1∨c=2∨c=3:=by omega
 have h2:l=0∨l=1∨l=2∨l=3:=by omega
 rcases h1 with rfl|rfl|rfl|rfl<;>rcases h2 with rfl|rfl|rfl|rfl<;>decide
def GInv(s:St):Prop:=∀e∈s.m,∀c∈e.2.2,c.hd.good=true∧c.bd.good=true
theorem que{l:List Tm}(h:Tm.allsG l=true):∀x∈l,x.allG=true:=by
 induction l with
 |nil=>intro x hx;cases hx
 |cons y l ih=>
  intro x hx
  simp only[Tm.allsG,Bool.and_eq_true] at h
  rcases List.mem_cons.1 hx with rfl|hx
  ·exact h.1
  ·exact ih h.2 x hx
theorem q3q{l:List Tm}{x:Tm}(h:x∈l):x.size≤Tm.sizes l:=by
 induction l with
 |nil=>cases h
 |cons y l ih=>
  rcases List.mem_cons.1 h with rfl|h
  ·simp[Tm.sizes]
  ·have:=ih h;simp[Tm.sizes];omega
theorem qqw{t x:Tm}(h:t.good=true)(hx:x∈t.args):x.good=true:=by
 unfold Tm.good at h ⊢
 simp only[Bool.and_eq_true,decide_eq_true_eq] at h ⊢
 obtain⟨⟨h1,h2⟩,h3⟩:=h
 rw[qdd] at h1
 rw[qbk] at h2
 rw[qfz,Bool.and_eq_true] at h3
 have a:=q3q hx
 have b:=qfh hx
 exact⟨⟨by omega,by omega⟩,que h3.2 x hx⟩
theorem qgy{t:Tm}(h:(qac t).2.2=0):(qac t).1.good=true∧(qac t).2.1.good=true:=by
 have hg:=qcl h
 have key:∀a b:Tm,a.good=true→b.good=true→(qbd t a b).2.2=0→(qbd t a b).1.good=true∧(qbd t a b).2.1.good=true:=by
  intro a b ha hb
  simp only[qbd]
  generalize (if a.kind=0 then (6:Int) else if a.kind=1 then 5 else if qjn a=true then 8 else (ofP b).2)=e
  by_cases h0:e=0
  ·rw[if_pos h0];intro _;exact⟨ha,hb⟩
  ·rw[if_neg h0];intro h;exact absurd h h0
 unfold qac at h ⊢
 rw[if_pos hg] at h ⊢
 split at h
 ·rename_i hc
  rw[if_pos hc]
  obtain⟨a,b,hab⟩:=qbu (qb9 (m:=2) hc)
  rw[hab] at h ⊢
  exact key a b (qqw hg (by rw[hab];simp)) (qqw hg (by rw[hab];simp)) h
 ·rename_i hc
  rw[if_neg hc]
  exact key t qbl hg rfl h
end
section
open Go Go.Abs Go.RowKit
attribute [local congr] qai qaj qag
def SeEnd(a b:Int)(r:XR):Prop:=(∃H',r=some (.ret,mk [(6,.bool true)],H'))∨(∃s' nx gs ms,r=some (.exit 0,mk [(1,.int .u64 a),(2,.int .u64 b),(7,.ptr 0 0 0)],⟨nx,gs,ms⟩)∧Good ⟨nx,gs,ms⟩ 0 s' 30∧SInv s' 20)
theorem qw4{a b:Int}{r r':XR}(h:r=r'):SeEnd a b r=SeEnd a b r':=by rw[h]
attribute [local congr] qw4
theorem SInv.le{s:St}{q:Int}(h:SInv s q)(c:Int):((qdp s c s.ps).length:Int)≤q*4:=by
 have hv:∀nm ar,(qec s nm ar c).length≤(qbb s nm ar).length:=fun nm ar=>List.length_filter_le _ _
 have h1:=hv [112] 1
 have h2:=hv [113] 2
 have h3:=hv [114] 0
 have ht:=h.tot
 have c0:=h.cnt 0 (by omega) (by omega)
 have c1:=h.cnt 1 (by omega) (by omega)
 have c2:=h.cnt 2 (by omega) (by omega)
 have c3:=h.cnt 3 (by omega) (by omega)
 rw[h.ps]
 simp only[qdp,qao,List.flatMap_cons,List.flatMap_nil,List.append_nil,List.length_append]
 omega
end
section
open Go Go.Abs Go.RowKit
attribute [local congr] qai qaj qag
structure Two(gs:Tr Grp)(ms:Tr qbm)(s t:St)(k:Nat):Prop where
 gS:∀nx,Good ⟨nx,gs,ms⟩ 0 s k
 gT:∀nx,Good ⟨nx,gs,ms⟩ 3 t k
 vs:SInv s 20
 vt:SInv t 20
 is:GInv s
 it:GInv t
 nums:s.g1=1∧s.g2=2∧t.g1=4∧t.g2=5
theorem Good.eqA{g k:Nat}{gs:Tr Grp}{ms:Tr qbm}{s:St}(h:∀nx,Good ⟨nx,gs,ms⟩ g s k)(hk:k<1000000){t:Tm}(hf:Fine 1000 t){l:Int}(hl:0≤l∧l<4)(first:Bool):∃gs' ms',(∀nx,qeh addR [.ptr g 0 0,.agg (tmC t),.int .u64 l,.bool first] ⟨nx,gs,ms⟩=some (.tup [.int .i64 (qc6 s t l first).1,.int .i64 (qc6 s t l first).2.1],⟨nx,gs',ms'⟩))∧(∀nx,Good ⟨nx,gs',ms'⟩ g (qc6 s t l first).2.2 (k+1))∧(∀g',g'≠g→gs'.get g'=gs.get g')∧(∀g',g'≠s.g1→g'≠s.g2→ms'.get g'=ms.get g')∧(qc6 s t l first).2.2.g1=s.g1∧(qc6 s t l first).2.2.g2=s.g2:=by
 have h1:=fun nx=>(h nx).eq hk hf hl first
 have h2:=fun nx=>(h nx).add hk hf l first
 by_cases hc:(qc6 s t l first).2.1=0
 ·simp only[hc,if_true] at h1 h2 ⊢
  have hg:(qc6 s t l first).2.2.g1=s.g1∧(qc6 s t l first).2.2.g2=s.g2:=by
   rcases qc5 s t l first with⟨-,h2,-⟩|⟨-,-,-,-,h5⟩
   ·rw[h2];exact⟨rfl,rfl⟩
   ·rw[h5];exact⟨rfl,rfl⟩
  refine⟨(qcu ⟨0,gs,ms⟩ g (qc6 s t l first).2.2).gs,(qcu ⟨0,gs,ms⟩ g (qc6 s t l first).2.2).ms,h1,h2,fun g' hg'=>Tr.get_set_ne _ _ hg',fun g' e1 e2=>?_,hg.1,hg.2⟩
  show ((ms.set (qc6 s t l first).2.2.g1 _).set (qc6 s t l first).2.2.g2 _).get g'=_
  rw[Tr.get_set_ne _ _ (by rw[hg.2];exact e2),Tr.get_set_ne _ _ (by rw[hg.1];exact e1)]
 ·simp only[hc,if_false] at h1 h2
  have hs:(qc6 s t l first).2.2=s:=by
   rcases qc5 s t l first with⟨-,h2,-⟩|⟨-,-,-,-,h5⟩
   ·exact h2
   ·rw[h5] at hc;exact absurd rfl hc
  exact⟨gs,ms,h1,h2,fun _ _=>rfl,fun _ _ _=>rfl,by rw[hs],by rw[hs]⟩
theorem Good.other{nx g k:Nat}{gs gs':Tr Grp}{ms ms':Tr qbm}{s:St}(h:Good ⟨nx,gs,ms⟩ g s k)(h1:gs'.get g=gs.get g)(h2:ms'.get s.g1=ms.get s.g1)(h3:ms'.get s.g2=ms.get s.g2):Good ⟨nx,gs',ms'⟩ g s k:=by
 obtain⟨⟨a,b,c,d⟩,e,f,i⟩:=h
 exact⟨⟨a,h1.trans b,h2.trans c,h3.trans d⟩,e,f,i⟩
def HiEnd(c:Int)(r:XR):Prop:=(∃H',r=some (.ret,mk [(6,.bool true)],H'))∨(∃s' t' nx gs ms,r=some (.exit 0,mk [(7,.int .u64 c),(8,.ptr 0 0 0),(10,.ptr 3 0 0)],⟨nx,gs,ms⟩)∧Two gs ms s' t' 90∧HR c s' t')
theorem qw6{c:Int}{r r':XR}(h:r=r'):HiEnd c r=HiEnd c r':=by rw[h]
attribute [local congr] qw6
end
end Go.Proofs.YtdekdghldblfaaaGreatDoor
