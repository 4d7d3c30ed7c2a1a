import Derived.Test.YtdekdghldblfaaaGreatDoorSymWW
import Derived.Test.YtdekdghldblfaaaGreatDoorSymDA
import Derived.Test.YtdekdghldblfaaaGreatDoorStDD
import Derived.Test.YtdekdghldblfaaaGreatDoorSymAA
import Derived.Test.YtdekdghldblfaaaGreatDoorYDp
set_option linter.unusedVariables false
set_option linter.unusedSimpArgs false
namespace Go.Proofs.YtdekdghldblfaaaGreatDoor
section
open Go Go.Abs Go.RowKit
abbrev qui:=Nat×(List UInt8×Int)×List Cl
def ixC(id:Int):List Cl→Option Nat
 |[]=>none
 |c::l=>if c.id=id then some 0 else (ixC id l).map (·+1)
theorem qi3{id:Int}:∀{l:List Cl} {j:Nat},ixC id l=some j→∃c,l[j]? = some c∧c.id=id
 |[],j,h=>by simp[ixC] at h
 |c::l,j,h=>by
  unfold ixC at h
  split at h
  ·rename_i hc
   cases h
   exact⟨c,rfl,hc⟩
  ·rw[Option.map_eq_some_iff] at h
   obtain⟨i,h1,rfl⟩:=h
   obtain⟨c',h2,h3⟩:=qi3 h1
   exact⟨c',by simpa using h2,h3⟩
theorem qx0(id:Int):∀l:List Cl,qk2 10 id l.length (l.map clC).flatten=some (ixC id l)
 |[]=>rfl
 |c::l=>by
  have ih:=qx0 id l
  have hd:(clC c++(l.map clC).flatten).drop 10=(l.map clC).flatten:=by rw[←qbh c];exact List.drop_left
  have hc:clC c++(l.map clC).flatten=.int .i64 c.id::((.int .u64 c.lab::(tmC c.hd++tmC c.bd))++(l.map clC).flatten):=rfl
  show qk2 10 id (l.length+1) (clC c++(l.map clC).flatten)=_
  rw[hc] at hd ⊢
  unfold qk2
  simp only[hd,ih,ixC]
  by_cases h:c.id=id
  ·simp[h]
  ·simp only[h,decide_false,cond_false,if_false]
   cases ixC id l<;>rfl
def hitL(id:Int):List qui→List ((Nat×AV×AV)×Nat)
 |[]=>[]
 |e::m=>match ixC id e.2.2 with
  |some j=>((e.1,kM e.2.1,qcf e.2.2),j)::hitL id m
  |none=>hitL id m
theorem q58(H:AH)(id:Int):∀m:List qui,(∀e∈m,e.2.2.length≤4611686018427387904)→qez 10 id H (qcb kM qcf m)=some (hitL id m)
 |[],_=>rfl
 |e::m,h=>by
  have ih:=q58 H id m fun e he=>h e (List.mem_cons_of_mem _ he)
  have hl:=h e (List.mem_cons_self ..)
  have hc:qan H 10 (qcf e.2.2)=some (e.2.2.length,(e.2.2.map clC).flatten):=by
   unfold qcf
   rw[qv2]
   rw[if_pos rfl,List.length_map]
  show qez 10 id H ((e.1,kM e.2.1,qcf e.2.2)::qcb kM qcf m)=_
  unfold qez
  rw[hc]
  simp only[Nat.ble_eq_true_of_le hl,cond_true,qx0]
  unfold hitL
  cases hx:ixC id e.2.2 with
  |none=>exact ih
  |some j=>simp only[ih]
def hitE(id:Int):List qui→Option (qui×Nat)
 |[]=>none
 |e::m=>match ixC id e.2.2 with
  |some j=>some (e,j)
  |none=>hitE id m
theorem qni{id:Int}:∀{m:List qui} {e:qui} {j:Nat},hitE id m=some (e,j)→e∈m∧ixC id e.2.2=some j
 |[],e,j,h=>by simp[hitE] at h
 |d::m,e,j,h=>by
  unfold hitE at h
  split at h
  ·rename_i i hi
   cases h
   exact⟨List.mem_cons_self ..,hi⟩
  ·obtain⟨h1,h2⟩:=qni h
   exact⟨List.mem_cons_of_mem _ h1,h2⟩
theorem qy6{id:Int}:∀{m:List qui},(∀e∈m,ixC id e.2.2=none)→hitL id m=[]
 |[],_=>rfl
 |e::m,h=>by
  unfold hitL
  rw[h e (List.mem_cons_self ..)]
  exact qy6 fun e he=>h e (List.mem_cons_of_mem _ he)
def UId(m:List qui):Prop:=∀e∈m,∀e'∈m,∀c∈e.2.2,∀c'∈e'.2.2,c.id=c'.id→e.2.1=e'.2.1
theorem q59{id:Int}:∀{m:List qui},(m.map (·.2.1)).Nodup→UId m→hitL id m=match hitE id m with
  |none=>[]
  |some (e,j)=>[((e.1,kM e.2.1,qcf e.2.2),j)]
 |[],_,_=>rfl
 |d::m,hk,hu=>by
  rw[List.map_cons,List.nodup_cons] at hk
  unfold hitL hitE
  cases hx:ixC id d.2.2 with
  |none=>exact q59 hk.2 fun e he e' he'=>hu e (List.mem_cons_of_mem _ he) e' (List.mem_cons_of_mem _ he')
  |some j=>
   simp only
   rw[qy6 fun e he=>?_]
   cases hy:ixC id e.2.2 with
   |none=>rfl
   |some i=>
    exfalso
    obtain⟨c,c1,c2⟩:=qi3 hx
    obtain⟨c',c3,c4⟩:=qi3 hy
    have:=hu d (List.mem_cons_self ..) e (List.mem_cons_of_mem _ he) c (List.mem_of_getElem? c1) c' (List.mem_of_getElem? c3) (c2.trans c4.symm)
    exact hk.1 (List.mem_map.2 ⟨e,he,this.symm⟩)
theorem qzm:∀(l:List Cl) (j:Nat),(l.map clC).flatten.take (j*10)++(l.map clC).flatten.drop ((j+1)*10)=((l.eraseIdx j).map clC).flatten
 |[],j=>by simp
 |c::l,0=>by
  simp only[List.map_cons,List.flatten_cons,Nat.zero_mul,List.take_zero,List.nil_append,Nat.zero_add,Nat.one_mul,List.eraseIdx_cons_zero]
  rw[←qbh c];exact List.drop_left
 |c::l,j+1=>by
  have ih:=qzm l j
  simp only[List.map_cons,List.flatten_cons,List.eraseIdx_cons_succ]
  rw[←ih,←List.append_assoc]
  have h1:(clC c++(l.map clC).flatten).take ((j+1)*10)=clC c++(l.map clC).flatten.take (j*10):=by
   rw[List.take_append,qbh,show (j+1)*10-10=j*10 by omega,List.take_of_length_le (by rw[qbh];omega)]
  have h2:(clC c++(l.map clC).flatten).drop ((j+1+1)*10)=(l.map clC).flatten.drop ((j+1)*10):=by
   rw[List.drop_append,qbh,show (j+1+1)*10-10=(j+1)*10 by omega,List.drop_of_length_le (by rw[qbh];omega),List.nil_append]
  rw[h1,h2]
def qd9(s:St)(k:List UInt8×Int)(l:List Cl)(j:Nat)(lab:Int):St:=
  { s with mc:=(qbc k (l.eraseIdx j) s.mc s.m).1
           m:=(qbc k (l.eraseIdx j) s.mc s.m).2
           nc:=(qbc lab (qav s lab-1) s.nc s.n).1
           n:=(qbc lab (qav s lab - 1) s.nc s.n).2 }
def q0w(l:List Cl)(j:Nat):Int:=match l[j]? with
 |some c=>c.lab
 |none=>0
def qhr(s:St)(id:Int):Int×St:=match hitE id s.m with
 |none=>(13,s)
 |some (e,j)=>(0,qd9 s e.2.1 e.2.2 j (q0w e.2.2 j))
def q7l(l:Int):List qui→Nat
 |[]=>0
 |e::m=>qia l e.2.2+q7l l m
section
variable {K V:Type} [DecidableEq K]
theorem qx8(k:K)(v:V)(c:Nat):∀m:List (Nat×K×V),(qbc k v c m).2.map (·.2.1)=if k∈m.map (·.2.1) then m.map (·.2.1) else m.map (·.2.1)++[k]
 |[]=>by simp[qbc]
 |e::m=>by
  have ih:=qx8 k v c m
  unfold qbc
  by_cases h:k=e.2.1
  ·rw[if_pos h];simp[h]
  ·rw[if_neg h]
   simp only[List.map_cons,ih,List.mem_cons,h,false_or]
   split<;>simp
theorem qx9(k:K)(v:V)(c:Nat):∀m:List (Nat×K×V),(qbc k v c m).2.map (·.1)=if k∈m.map (·.2.1) then m.map (·.1) else m.map (·.1)++[c]
 |[]=>by simp[qbc]
 |e::m=>by
  have ih:=qx9 k v c m
  unfold qbc
  by_cases h:k=e.2.1
  ·rw[if_pos h];simp[h]
  ·rw[if_neg h]
   simp only[List.map_cons,ih,List.mem_cons,h,false_or]
   split<;>simp
theorem q4l(k:K)(v:V)(c:Nat):∀m:List (Nat×K×V),(qbc k v c m).1=if k∈m.map (·.2.1) then c else c+1
 |[]=>by simp[qbc]
 |e::m=>by
  have ih:=q4l k v c m
  unfold qbc
  by_cases h:k=e.2.1
  ·rw[if_pos h];simp[h]
  ·rw[if_neg h]
   simp only[List.map_cons,ih,List.mem_cons,h,false_or]
theorem look_of{m:List (Nat×K×V)}(h:(m.map (·.2.1)).Nodup){e:Nat×K×V}(he:e∈m):qbz e.2.1 m=some e.2.2:=by
 induction m with
 |nil=>cases he
 |cons d m ih=>
  rw[List.map_cons,List.nodup_cons] at h
  unfold qbz
  rw[List.find?_cons]
  rcases List.mem_cons.1 he with rfl|he
  ·simp
  ·have hne:¬e.2.1=d.2.1:=fun hh=>h.1 (List.mem_map.2 ⟨e,he,hh⟩)
   simp only[hne,decide_false]
   exact ih h.2 he
end
theorem qra(l:Int)(k:List UInt8×Int)(v:List Cl)(c:Nat):∀m:List qui,q7l l (qbc k v c m).2+qia l ((qbz k m).getD [])=q7l l m+qia l v
 |[]=>by simp[qbc,q7l,qbz,qia]
 |e::m=>by
  have ih:=qra l k v c m
  unfold qbc qbz
  rw[List.find?_cons]
  by_cases h:k=e.2.1
  ·rw[if_pos h]
   simp only[h,decide_true,Option.map_some,Option.getD_some,q7l]
   omega
  ·rw[if_neg h]
   simp only[h,decide_false,q7l]
   have:((m.find? fun e=>decide (k=e.2.1)).map (·.2.2))=qbz k m:=rfl
   rw[this]
   omega
theorem qkj(l:Int):∀(r:List Cl) (j:Nat) (c:Cl),r[j]? = some c→qia l (r.eraseIdx j)+(if c.lab=l then 1 else 0)=qia l r
 |[],j,c,h=>by simp at h
 |d::r,0,c,h=>by
  simp only[List.getElem?_cons_zero,Option.some.injEq] at h
  subst h
  rw[List.eraseIdx_cons_zero]
  unfold qia
  by_cases h:d.lab=l<;>simp[h]
 |d::r,j+1,c,h=>by
  have ih:=qkj l r j c (by simpa using h)
  rw[List.eraseIdx_cons_succ]
  unfold qia at ih ⊢
  by_cases h:d.lab=l<;>simp[h]<;>omega
theorem qzn(l:Int){e:qui}:∀{m:List qui},e∈m→qia l e.2.2≤q7l l m
 |[],h=>by cases h
 |d::m,h=>by
  unfold q7l
  rcases List.mem_cons.1 h with rfl|h
  ·omega
  ·have:=qzn l h
   omega
structure DInv(s:St):Prop where
 keys:(s.m.map (·.2.1)).Nodup
 born:(s.m.map (·.1)).Nodup
 bmax:∀b∈s.m.map (·.1),b<s.mc
 ids:∀e∈s.m,∀c∈e.2.2,c.id≤s.la
 uid:UId s.m
 cnt:∀l,qav s l=(q7l l s.m:Int)
theorem q4j{K V:Type}[DecidableEq K]{m:List (Nat×K×V)}{c:Nat}(k:K)(v:V)(h1:(m.map (·.2.1)).Nodup)(h2:(m.map (·.1)).Nodup)(h3:∀b∈m.map (·.1),b<c) :
  ((qbc k v c m).2.map (·.2.1)).Nodup∧((qbc k v c m).2.map (·.1)).Nodup∧∀b∈(qbc k v c m).2.map (·.1),b<(qbc k v c m).1:=by
 rw[qx8,qx9,q4l]
 by_cases hk:k∈m.map (·.2.1)
 ·rw[if_pos hk,if_pos hk,if_pos hk];exact⟨h1,h2,h3⟩
 ·rw[if_neg hk,if_neg hk,if_neg hk]
  refine⟨?_,?_,fun b hb=>?_⟩
  ·rw[List.nodup_append]
   exact⟨h1,by simp,fun x hx y hy=>by simp at hy;subst hy;exact fun e=>hk (e▸hx)⟩
  ·rw[List.nodup_append]
   exact⟨h2,by simp,fun x hx y hy=>by simp at hy;subst hy;have:=h3 x hx;omega⟩
  ·rcases List.mem_append.1 hb with hb|hb
   ·have:=h3 b hb;omega
   ·simp at hb;omega
theorem qzk{s:St}(h:DInv s)(p:Pr)(hd bd:Tm)(l:Int)(first:Bool):DInv (qd2 s p hd bd l first):=by
 obtain⟨a,b,c⟩:=q4j (p.nm,p.ar) (qe9 (qbb s p.nm p.ar) ⟨s.la+1,l,hd,bd⟩ first) h.keys h.born h.bmax
 have hold:∀c∈qbb s p.nm p.ar,∃e∈s.m,e.2.1=(p.nm,p.ar)∧c∈e.2.2:=fun c hc=>by
  unfold qbb at hc
  cases hlk:qbz (p.nm,p.ar) s.m with
  |none=>rw[hlk] at hc;cases hc
  |some v=>
   rw[hlk] at hc
   obtain⟨e,k1,k2,k3⟩:=qhh hlk
   subst k3
   exact⟨e,k1,k2,hc⟩
 refine⟨a,b,c,fun e he x hx=>?_,fun e he e' he' x hx x' hx' heq=>?_,fun j=>?_⟩
 ·show x.id≤s.la+1
  rcases qc1 he with he|⟨-,he⟩
  ·have:=h.ids e he x hx;omega
  ·rw[he] at hx
   rcases qj6 hx with rfl|hx
   ·exact Int.le_refl _
   ·obtain⟨e0,k1,-,k3⟩:=hold x hx
    have:=h.ids e0 k1 x k3;omega
 ·rcases qc1 he with he|⟨hk,he⟩
  ·rcases qc1 he' with he'|⟨hk',he'⟩
   ·exact h.uid e he e' he' x hx x' hx' heq
   ·rw[he'] at hx'
    rcases qj6 hx' with rfl|hx'
    ·have h1:=h.ids e he x hx
     have h2:x.id=s.la+1:=heq
     omega
    ·obtain⟨e0,k1,k2,k3⟩:=hold x' hx'
     rw[hk',←k2]
     exact h.uid e he e0 k1 x hx x' k3 heq
  ·rcases qc1 he' with he'|⟨hk',he'⟩
   ·rw[he] at hx
    rcases qj6 hx with rfl|hx
    ·have h1:=h.ids e' he' x' hx'
     have h2:s.la+1=x'.id:=heq
     omega
    ·obtain⟨e0,k1,k2,k3⟩:=hold x hx
     rw[hk,←k2]
     exact h.uid e0 k1 e' he' x k3 x' hx' heq
   ·rw[hk,hk']
 ·rw[qq9]
  have h1:=qra j (p.nm,p.ar) (qe9 (qbb s p.nm p.ar) ⟨s.la+1,l,hd,bd⟩ first) s.mc s.m
  have h2:=qlx j (qbb s p.nm p.ar) ⟨s.la+1,l,hd,bd⟩ first
  have h3:=h.cnt j
  have h4:=h.cnt l
  have h5:qbb s p.nm p.ar=(qbz (p.nm,p.ar) s.m).getD []:=rfl
  rw[←h5,h2] at h1
  show _=((q7l j (qbc (p.nm,p.ar) (qe9 (qbb s p.nm p.ar) ⟨s.la+1,l,hd,bd⟩ first) s.mc s.m).2:Nat):Int)
  split
  ·rename_i hj
   subst hj
   simp only[if_true] at h1
   omega
  ·rename_i hj
   simp only[hj,if_false] at h1
   omega
theorem cnt_drop(s:St)(k:List UInt8×Int)(l:List Cl)(i:Nat)(lab j:Int):qav (qd9 s k l i lab) j=if j=lab then qav s lab-1 else qav s j:=by
 unfold qav
 show ((qbz j (qbc lab _ _ _).2).getD 0)=_
 rw[qlq]
 split<;>rfl
theorem qtw{s:St}(h:DInv s){e:qui}(he:e∈s.m){j:Nat}{c:Cl}(hc:e.2.2[j]? = some c):DInv (qd9 s e.2.1 e.2.2 j c.lab)∧1≤qav s c.lab:=by
 obtain⟨a,b,d⟩:=q4j e.2.1 (e.2.2.eraseIdx j) h.keys h.born h.bmax
 have hlk:=look_of h.keys he
 have hsub:∀x∈e.2.2.eraseIdx j,x∈e.2.2:=fun x hx=>List.mem_of_mem_eraseIdx hx
 refine⟨⟨a,b,d,fun f hf x hx=>?_,fun f hf f' hf' x hx x' hx' heq=>?_,fun i=>?_⟩,?_⟩
 ·show x.id≤s.la
  rcases qc1 hf with hf|⟨-,hf⟩
  ·exact h.ids f hf x hx
  ·rw[hf] at hx
   exact h.ids e he x (hsub x hx)
 ·rcases qc1 hf with hf|⟨hk,hf⟩
  ·rcases qc1 hf' with hf'|⟨hk',hf'⟩
   ·exact h.uid f hf f' hf' x hx x' hx' heq
   ·rw[hf'] at hx'
    rw[hk']
    exact h.uid f hf e he x hx x' (hsub x' hx') heq
  ·rcases qc1 hf' with hf'|⟨hk',hf'⟩
   ·rw[hf] at hx
    rw[hk]
    exact h.uid e he f' hf' x (hsub x hx) x' hx' heq
   ·rw[hk,hk']
 ·rw[cnt_drop]
  have h1:=qra i e.2.1 (e.2.2.eraseIdx j) s.mc s.m
  have h2:=qkj i e.2.2 j c hc
  have h3:=h.cnt i
  have h4:=h.cnt c.lab
  rw[hlk,Option.getD_some] at h1
  show _=((q7l i (qbc e.2.1 (e.2.2.eraseIdx j) s.mc s.m).2:Nat):Int)
  split
  ·rename_i hj
   subst hj
   simp only[if_true] at h2
   omega
  ·rename_i hj
   have hj':¬c.lab=i:=fun e=>hj e.symm
   simp only[hj',if_false] at h2
   omega
 ·have h1:=qzn c.lab he
  have h2:=qkj c.lab e.2.2 j c hc
  have h3:=h.cnt c.lab
  simp only[if_true] at h2
  omega
theorem q68{s:St}(h:OkSt s)(hi:DInv s){e:qui}(he:e∈s.m){j:Nat}{c:Cl}(hc:e.2.2[j]? = some c):OkSt (qd9 s e.2.1 e.2.2 j c.lab):=by
 have h1:=(qtw hi he hc).2
 refine⟨h.ns,h.ps,h.la,fun f hf=>?_,fun f hf=>?_⟩
 ·show (f.2.2.length:Int)≤s.la∧_
  rcases qc1 hf with hf|⟨-,hf⟩
  ·exact h.m f hf
  ·rw[hf]
   have:=h.m e he
   refine⟨?_,fun x hx=>this.2 x (List.mem_of_mem_eraseIdx hx)⟩
   have hl:(e.2.2.eraseIdx j).length≤e.2.2.length:=List.length_eraseIdx_le ..
   omega
 ·show 0≤f.2.2∧f.2.2≤s.la
  rcases qc1 hf with hf|⟨-,hf⟩
  ·exact h.n f hf
  ·rw[hf]
   have:=h.cnt c.lab
   omega
end
section
open Go Go.Abs Go.RowKit
attribute [local congr] qai qaj qag
attribute [local congr] qal
def tailY:YC→YC
 |.seq _ (.seq _ (.block _ (.seq _ (.seq _ (.seq _ (.cond _ c _))))))=>c
 |_=>.skip
def yDrT:YC:=tailY qu9
theorem yDrT_ok:erase yDrT=q69:=by kernel_rfl
noncomputable abbrev ysDr:List (FuncId×YF):=[(40,qh1)]
noncomputable abbrev lsDr:List (FuncId×(List AV→AH→Option (AV×AH))):=[(57,qkh 10)]
theorem lsDr_ok:∀e∈lsDr,HookOne Tryz.prog e.1 e.2:=by
 intro e he
 simp only[lsDr,List.mem_singleton] at he
 subst he
 exact q1c
noncomputable def qkv:qar:=icall ysDr lsDr 0 2
theorem q7b:qcp Tryz.prog qkv∧qaw qkv:=qey (P:=Tryz.prog) mixed (fun f=>draws f rfl) q1w lsDr_ok 0 2
theorem q7a:HookOne Tryz.prog 20 (qgv qkv):=drop_any q7b
theorem ACalls.onHook{P:Program}{f:FuncId}{k:List AV→AH→Option (AV×AH)}(hk:HookOne P f k){args:List AV}{H H2:AH}{x2:AV}
  (h:∀N,(∀n,N≤n→H.gs.get n=none∧H.ms.get n=none)→ClosedH H→Go.Abs.Comes (k args ⟨N,H.gs,H.ms⟩) H x2 H2):ACalls P f args H fun y' H'=>y'=x2∧H'=H2:=by
 intro K G vs w hr hv
 obtain⟨N1,h1⟩:=H.gs.far
 obtain⟨N2,h2⟩:=H.ms.far
 obtain⟨x1,H1,p,q,k1,k2⟩:=h (N1+N2) (fun n hn=>⟨h1 n (by omega),h2 n (by omega)⟩) hr.closed
 have A:=hk.ok _ _ _ _ k1
 have k2':Canon ⟨N1+N2,H.gs,H.ms⟩ H1 x1 H2 x2 p q:=⟨k2.oldg,k2.grp,k2.inj,k2.oldm,k2.map,k2.injm,k2.res⟩
 exact (A.canon k2') K G vs w (hr.next _) hv
theorem qyj:∀{l:List Nat},l.Nodup→qvt l=true
 |[],_=>rfl
 |n::l,h=>by
  rw[List.nodup_cons] at h
  have ha:(l.all fun m=>!(Nat.beq n m))=true:=by
   rw[List.all_eq_true]
   intro m hm
   have hne:n≠m:=fun e=>h.1 (e▸hm)
   cases hb:Nat.beq n m with
   |false=>rfl
   |true=>exact absurd (Nat.eq_of_beq_eq_true hb) hne
  unfold qvt
  rw[ha]
  exact qyj h.2
theorem mapB_of{m:List qui}{c:Nat}(h1:(m.map (·.1)).Nodup)(h2:∀b∈m.map (·.1),b<c):mapB (c,qcb kM qcf m)=true:=by
 unfold mapB
 rw[Bool.and_eq_true]
 constructor
 ·rw[List.all_eq_true]
  intro t ht
  simp only[qcb,List.mem_map] at ht
  obtain⟨e,he,rfl⟩:=ht
  have hb:=h2 e.1 (List.mem_map.2 ⟨e,he,rfl⟩)
  rw[Bool.and_eq_true]
  exact⟨Nat.ble_eq_true_of_le hb,rfl⟩
 ·have:(qcb kM qcf m).map (·.1)=m.map (·.1):=by simp[qcb]
  show qvt ((qcb kM qcf m).map (·.1))=true
  rw[this];exact qyj h1
theorem dr_clone(nx:Nat)(gs:Tr Grp)(ms:Tr qbm)(l:List Cl)(hl:l≠[])(hn:l.length≤1000000000)(h0:gs.get nx=none):qkv 40 [.vals 10 (l.map clC)] ⟨nx,gs,ms⟩=some (.slc nx 0 0 l.length 10,⟨nx+1,gs.set nx ⟨0,0,(l.map clC).flatten⟩,ms⟩):=by
 refine qbn rfl rfl rfl ?_
 obtain⟨c,l',rfl⟩:=List.exists_cons_of_ne_nil hl
 have e:∀t ts,ibin .eql 39 (some (.slice 42)) true (.vals 10 (t::ts)) .nils=some (.bool false):=fun t ts=>(rfl)
 have q0:((l'.map clC).length+1=0)=False:=by simp
 have q1:((l'.map clC).length+1)*128≤140737488355328∧(l'.map clC).length+1≤9223372036854775807:=by simp at hn ⊢;omega
 simp only[qh1,qaf,↓axP,axQ,seval,qaa,qab,tX,e,List.map_cons,List.length_cons,q0,q1,h0]
 simp
theorem dr_del(nx ga j:Nat)(gs:Tr Grp)(ms:Tr qbm)(l:List Cl)(hj:j<l.length)(hn:l.length≤1000000000)(h0:gs.get ga=some ⟨0,0,(l.map clC).flatten⟩):qkv 57 [.slc ga 0 0 l.length 10,.int .i64 (j:Int),.int .i64 ((j:Int)+1)] ⟨nx,gs,ms⟩=some (.slc ga 1 0 (l.eraseIdx j).length 10,⟨nx,gs.set ga ⟨1,0,((l.eraseIdx j).map clC).flatten⟩,ms⟩):=by
 unfold qkv
 rw[qay (k:=qkh 10) rfl]
 have hfl:(l.map clC).flatten.length=l.length*10:=by rw[qat (z:=10) (fun row hr=>by simp only[List.mem_map] at hr;obtain⟨c,-,rfl⟩:=hr;exact qbh c),List.length_map]
 have e1:((j:Int)+1)=Int.ofNat (j+1):=rfl
 rw[e1]
 show (match gs.get ga with|some r=>_|none=>_)=_
 rw[h0]
 have hc:(Nat.beq 0 0&&Nat.beq 10 10&&Nat.beq 0 0&&Nat.beq (l.map clC).flatten.length (l.length*10)&&Nat.blt j (j+1)&&Nat.ble (j+1) l.length&&Nat.ble l.length 9223372036854775807)=true:=by
  have a1:Nat.beq (l.map clC).flatten.length (l.length*10)=true:=by rw[hfl];exact Nat.beq_refl _
  have a2:Nat.blt j (j+1)=true:=Nat.ble_eq_true_of_le (Nat.le_refl _)
  have a3:Nat.ble (j+1) l.length=true:=Nat.ble_eq_true_of_le hj
  have a4:Nat.ble l.length 9223372036854775807=true:=Nat.ble_eq_true_of_le (by omega)
  rw[a1,a2,a3,a4];rfl
 simp only[hc,cond_true]
 rw[qzm,List.length_eraseIdx_of_lt hj]
 have:l.length-(j+1-j)=l.length-1:=by omega
 rw[this]
set_option maxHeartbeats 2000000 in
theorem dr_run(N g:Nat)(s:St)(e:qui)(j:Nat)(c:Cl)(id:Int)(gs:Tr Grp)(ms:Tr qbm)(h1:StAt ⟨N,gs,ms⟩ g s)(hok:OkSt s)(hi:DInv s)(he:e∈s.m)(hc:e.2.2[j]? = some c)(hN:∀n,N≤n→gs.get n=none∧ms.get n=none)(es:List (Nat×AV×AV))
  (hes:mset (kM e.2.1) (.slc (N+26) 1 0 (e.2.2.eraseIdx j).length 10) s.mc (qcb kM qcf s.m)=some ((qbc e.2.1 (e.2.2.eraseIdx j) s.mc s.m).1,es)) :
  ∃nx1 gs1,ycode qkv 3 yDrT (mk [(7,.int .i64 j),(6,qcf e.2.2),(5,.ptr (N+1) 0 0),(0,.ptr g 0 0)]) ⟨N+2,(gs.set N ⟨0,0,[.int .i64 id]⟩).set (N+1) ⟨0,0,[.str e.2.1.1,.int .i64 e.2.1.2]⟩,ms⟩=some (.ret,mk [(4,.int .i64 0)],⟨nx1,gs1,(ms.set s.g2 ((qbc c.lab (qav s c.lab-1) s.nc s.n).1,qcb kN vN (qbc c.lab (qav s c.lab-1) s.nc s.n).2)).set s.g1 ((qbc e.2.1 (e.2.2.eraseIdx j) s.mc s.m).1,es)⟩) ∧
   gs1.get (N+26)=some ⟨1,0,((e.2.2.eraseIdx j).map clC).flatten⟩∧∀g',g'<N→gs1.get g'=gs.get g':=by
 obtain⟨hne,h2,h3,h4⟩:=h1
 simp only at h2 h3 h4
 have hE:∀k,gs.get (N+k)=none:=fun k=>(hN (N+k) (by omega)).1
 have hE0:gs.get N=none:=(hN N (Nat.le_refl _)).1
 have hgN:g<N:=by
  rcases Nat.lt_or_ge g N with q|q
  ·exact q
  ·rw[(hN g q).1] at h2;cases h2
 have q1:∀k,(g=N+k)=False:=fun k=>eq_false (by omega)
 have q2:∀k,(N+k=g)=False:=fun k=>eq_false (by omega)
 have q3:(g=N)=False:=eq_false (by omega)
 have q5:(s.g1=s.g2)=False:=eq_false hne
 unfold qj0 at h2
 have hjl:j<e.2.2.length:=by
  have:=List.getElem?_eq_some_iff.1 hc
  exact this.1
 have hne0:e.2.2≠[]:=fun h=>by rw[h] at hjl;simp at hjl
 have hlen:=(hok.m e he).1
 have hla:=hok.la
 have hget:(e.2.2.map clC)[j]? = some (.int .i64 c.id::.int .u64 c.lab::(tmC c.hd++tmC c.bd)):=by rw[List.getElem?_map,hc];rfl
 have hi0:(0:Int)≤(j:Int):=by omega
 have hjl':((j:Int)<(e.2.2.length:Int)):=by omega
 have hml:(e.2.2.map clC).length=e.2.2.length:=by simp
 have hcn:=hok.cnt c.lab
 have hw1:IntKind.i64.wrap (qav s c.lab-1)=qav s c.lab-1:=by rw[wrap_i64]<;>omega
 have hw2:IntKind.i64.wrap ((j:Int)+1)=(j:Int)+1:=by rw[wrap_i64]<;>omega
 have hgn:=fun nx gs=>get_N (s:=s) (nx:=nx) (gs:=gs) h4 c.lab
 have hsn:mset (.int .u64 c.lab) (.int .i64 (qav s c.lab-1)) s.nc (qcb kN vN s.n)=some ((qbc c.lab (qav s c.lab-1) s.nc s.n).1,qcb kN vN (qbc c.lab (qav s c.lab-1) s.nc s.n).2):=set_E (vE:=vN) q5t c.lab (qav s c.lab-1) s.nc s.n
 have hes':mset (.agg [.str e.2.1.1,.int .i64 e.2.1.2]) (.slc (N+26) 1 0 (e.2.2.eraseIdx j).length 10) s.mc (qcb kM qcf s.m)=some ((qbc e.2.1 (e.2.2.eraseIdx j) s.mc s.m).1,es):=hes
 have hyd:yDrT=tailY qu9:=rfl
 unfold qcf
 refine⟨N+27,((((gs.set N ⟨0,0,[.int .i64 id]⟩).set (N+1) ⟨0,0,[.str e.2.1.1,.int .i64 e.2.1.2]⟩).set (N+26) ⟨0,0,(e.2.2.map clC).flatten⟩).set (N+26) ⟨1,0,((e.2.2.eraseIdx j).map clC).flatten⟩),?_,Tr.get_set_same _ _ _,fun g' hg'=>?_⟩
 ·rw[hyd]
  unfold qu9
  simp only[tailY]
  simp (maxSteps:=1000000) (disch:=omega) only[↓axP,axQ,seval,qaa,qab,tX,hE,hE0,q1,q2,q3,q5,nk1,nk2,nk3,h2,h3,h4,hgn,hsn,hget,hi0,hjl',hml,hw1,hw2,qf1,Nat.add_assoc,Int.toNat_natCast]
  rw[dr_clone _ _ _ e.2.2 hne0 (by omega) (by simp[Tr.get_set,hE,hE0,q1,q2])]
  simp (maxSteps:=1000000) (disch:=omega) only[↓axP,axQ,seval,qaa,qab,tX,hE,hE0,q1,q2,q3,q5,nk1,nk2,nk3,h2,h3,h4,hgn,hsn,hget,hi0,hjl',hml,hw1,hw2,qf1,Nat.add_assoc,Int.toNat_natCast]
  rw[dr_del _ _ _ _ _ _ hjl (by omega) (Tr.get_set_same _ _ _)]
  simp (maxSteps:=1000000) (disch:=omega) only[↓axP,axQ,seval,qaa,qab,tX,hE,hE0,q1,q2,q3,q5,nk1,nk2,nk3,h2,h3,h4,hgn,hsn,hget,hi0,hjl',hml,hw1,hw2,hes',qf1,Nat.add_assoc,Int.toNat_natCast]
 ·simp[Tr.get_set,show g'≠N by omega,show ∀k,g'≠N+k by omega]
end
section
open Go Go.Abs Go.RowKit
theorem drop_fin{N g nx0 nx1 ga ea:Nat}{s:St}{k:List UInt8×Int}{rl:List Cl}{j:Nat}{l:Int}{gs gs1:Tr Grp}{ms:Tr qbm}{es:List (Nat×AV×AV)}{new:List Cl}(hnew:rl.eraseIdx j=new)(h1:StAt ⟨nx0,gs,ms⟩ g s)
  (hN:∀n,N≤n→gs.get n=none∧ms.get n=none) (hcl:ClosedH ⟨nx0,gs,ms⟩)
  (hg1:gs1.get g=some ⟨0,0,[qcd s.ns s.ps,.int .i64 s.q,.int .i64 s.la,.mapp s.g1,.mapp s.g2]⟩) (hgo:∀g',g'<N→g'≠g→gs1.get g'=gs.get g') (hga:N≤ga)
  (hown:gs1.get ga=some ⟨ea,0,(new.map clC).flatten⟩)
  (hes:mset (kM k) (.slc ga ea 0 new.length 10) s.mc (qcb kM qcf s.m)=some ((qbc k new s.mc s.m).1,es)) :
  Go.Abs.Comes (some (.int .i64 0,⟨nx1,gs1,(ms.set s.g2 ((qbc l (qav s l-1) s.nc s.n).1,qcb kN vN (qbc l (qav s l-1) s.nc s.n).2)).set s.g1 ((qbc k new s.mc s.m).1,es)⟩))
   ⟨nx0,gs,ms⟩ (.int .i64 0) (qcu ⟨nx0,gs,ms⟩ g (qd9 s k rl j l)):=by
 subst hnew
 obtain⟨hne,h2,h3,h4⟩:=h1
 simp only at h2 h3 h4
 have lt:∀g' r,gs.get g'=some r→g'<N:=fun g' r h=>by
  rcases Nat.lt_or_ge g' N with q|q
  ·exact q
  ·rw[(hN g' q).1] at h;cases h
 have hgN:=lt g _ h2
 have hdm:∀g',(qcu ⟨nx0,gs,ms⟩ g (qd9 s k rl j l)).ms.get g'≠none↔ms.get g'≠none:=by
  intro g'
  show ((ms.set s.g1 _).set s.g2 _).get g'≠none↔_
  by_cases e2:g'=s.g2
  ·subst e2;rw[Tr.get_set_same,h4];simp
  ·rw[Tr.get_set_ne _ _ e2]
   by_cases e1:g'=s.g1
   ·subst e1;rw[Tr.get_set_same,h3];simp
   ·rw[Tr.get_set_ne _ _ e1]
 have hdd:∀g',(qcu ⟨nx0,gs,ms⟩ g (qd9 s k rl j l)).gs.get g'≠none↔gs.get g'≠none:=by
  intro g'
  show (gs.set g _).get g'≠none↔_
  by_cases e:g'=g
  ·subst e;rw[Tr.get_set_same,h2];simp
  ·rw[Tr.get_set_ne _ _ e]
 have hrefl:=fun x hx=>Canon.refl (H:=⟨nx0,gs,ms⟩) (H1:=⟨nx1,gs1,(ms.set s.g2 ((qbc l (qav s l-1) s.nc s.n).1,qcb kN vN (qbc l (qav s l-1) s.nc s.n).2)).set s.g1 ((qbc k (rl.eraseIdx j) s.mc s.m).1,es)⟩) (H2:=qcu ⟨nx0,gs,ms⟩ g (qd9 s k rl j l)) hdm (x:=x) hx
 refine Comes.some (Canon.upd hcl hdd hdm (fun g' r2 h=>?_) (fun g' es2 h=>?_) (.pure rfl))
 ·have h:(gs.set g ⟨0,0,qj0 (qd9 s k rl j l)⟩).get g'=some r2:=h
  by_cases e:g'=g
  ·subst e
   rw[Tr.get_set_same] at h
   cases h
   refine⟨hg1,fun x hx=>?_⟩
   have hx:x∈[qcd s.ns s.ps,.int .i64 s.q,.int .i64 s.la,.mapp s.g1,.mapp s.g2]:=hx
   simp only[List.mem_cons,List.not_mem_nil,or_false] at hx
   rcases hx with rfl|rfl|rfl|rfl|rfl
   ·exact hcl.cell g' _ 0 _ h2 rfl
   ·simp only[qd7]
   ·simp only[qd7]
   ·simp only[qd7,h3];simp
   ·simp only[qd7,h4];simp
  ·rw[Tr.get_set_ne _ _ e] at h
   refine⟨by show gs1.get g'=_;rw[hgo g' (lt g' _ h) e];exact h,fun x hx=>?_⟩
   obtain⟨i,hi,rfl⟩:=List.getElem_of_mem hx
   exact hcl.cell g' r2 i _ h (List.getElem?_eq_getElem hi)
 ·have h:((ms.set s.g1 ((qbc k (rl.eraseIdx j) s.mc s.m).1,qcb kM qcf (qbc k (rl.eraseIdx j) s.mc s.m).2)).set s.g2 ((qbc l (qav s l-1) s.nc s.n).1,qcb kN vN (qbc l (qav s l-1) s.nc s.n).2)).get g'=some es2:=h
  by_cases e2:g'=s.g2
  ·subst e2
   rw[Tr.get_set_same] at h
   cases h
   refine⟨_,by show ((ms.set s.g2 _).set s.g1 _).get s.g2=_;rw[Tr.get_set_ne _ _ (Ne.symm hne),Tr.get_set_same],rfl,FzE.refl fun e he=>?_⟩
   simp only[qcb,List.mem_map] at he
   obtain⟨d,-,rfl⟩:=he
   exact⟨.pure rfl,.pure rfl⟩
  ·rw[Tr.get_set_ne _ _ e2] at h
   by_cases e1:g'=s.g1
   ·subst e1
    rw[Tr.get_set_same] at h
    cases h
    refine⟨_,Tr.get_set_same _ _ _,rfl,?_⟩
    obtain⟨es',k1,k2⟩:=qp9 (vE:=qcf) (R:=FzR ⟨nx1,gs1,(ms.set s.g2 ((qbc l (qav s l-1) s.nc s.n).1,qcb kN vN (qbc l (qav s l-1) s.nc s.n).2)).set s.g1 ((qbc k (rl.eraseIdx j) s.mc s.m).1,es)⟩ (kpR ⟨nx0,gs,ms⟩ ⟨nx1,gs1,(ms.set s.g2 ((qbc l (qav s l-1) s.nc s.n).1,qcb kN vN (qbc l (qav s l-1) s.nc s.n).2)).set s.g1 ((qbc k (rl.eraseIdx j) s.mc s.m).1,es)⟩ (qcu ⟨nx0,gs,ms⟩ g (qd9 s k rl j l)) id) (kmR (qcu ⟨nx0,gs,ms⟩ g (qd9 s k rl j l)) id) (qes (qcu ⟨nx0,gs,ms⟩ g (qd9 s k rl j l)) id))
     qkr k (rl.eraseIdx j) (.slc ga ea 0 (rl.eraseIdx j).length 10) (by
      refine .slc (r:=⟨ea,0,((rl.eraseIdx j).map clC).flatten⟩) (fun g' hg' hgg=>?_) hown rfl (by simp) (fun row hr=>by simp only[List.mem_map] at hr;obtain⟨c,-,rfl⟩:=hr;exact qbh c) ?_ fun j x y hx hy=>?_
      ·have hgg:g'=ga:=hgg
       subst hgg
       exact (hdd g').1 hg' (hN g' hga).1
      ·show 0+_≤(List.flatten _).length
       rw[qat (z:=10) (fun row hr=>by simp only[List.mem_map] at hr;obtain⟨c,-,rfl⟩:=hr;exact qbh c),List.length_map]
       omega
      ·simp only[Nat.zero_add] at hx
       rw[hy] at hx
       cases hx
       exact .pure ((qa6 _).1 (qcx (qfq _)) _ (List.mem_of_getElem? hy))) (.pure rfl) s.mc s.m (fun e he=>⟨hrefl _ (hcl.ent s.g1 _ h3 e he).1,hrefl _ (hcl.ent s.g1 _ h3 e he).2⟩)
    rw[hes] at k1
    simp only[Option.some.injEq,Prod.mk.injEq,true_and] at k1
    subst k1
    exact k2
   ·rw[Tr.get_set_ne _ _ e1] at h
    refine⟨es2,by show ((ms.set s.g2 _).set s.g1 _).get g'=_;rw[Tr.get_set_ne _ _ e1,Tr.get_set_ne _ _ e2];exact h,rfl,FzE.refl fun e he=>?_⟩
    have:=hcl.ent g' _ h e he
    exact⟨hrefl _ this.1,hrefl _ this.2⟩
def dropR(args:List AV)(H:AH)(y:AV)(H':AH):Prop:=∃g s idn,args=[.ptr g 0 0,.int .i64 idn]∧StAt H g s∧OkSt s∧DInv s∧y=.int .i64 (qhr s idn).1∧H'=if (qhr s idn).1=0 then qcu H g (qhr s idn).2 else H
theorem qtu:OneR dropR:=by
 intro a H y H' y2 H2 h k
 obtain⟨g,s,i,rfl,h1,-,-,rfl,rfl⟩:=h
 obtain⟨g',s',i',e,k1,-,-,rfl,rfl⟩:=k
 simp only[List.cons.injEq,AV.ptr.injEq,AV.int.injEq,true_and,and_true] at e
 obtain⟨rfl,rfl⟩:=e
 cases h1.inj k1
 exact⟨rfl,rfl⟩
theorem mk_drop(g k j:Nat)(v:AV):mk [(7,.int .i64 j),(6,v),(5,.ptr k 0 0),(0,.ptr g 0 0)]=q1b g 0 k v j:=rfl
theorem dr_calls(g:Nat)(s:St)(idn:Int)(H:AH)(h1:StAt H g s)(hok:OkSt s)(hi:DInv s) :
  ACalls Tryz.prog 20 [.ptr g 0 0,.int .i64 idn] H fun y H'=>y=.int .i64 (qhr s idn).1∧H'=if (qhr s idn).1=0 then qcu H g (qhr s idn).2 else H:=by
 refine ACalls.onHook q7a fun N hN hcl=>?_
 obtain⟨nx0,gs,ms⟩:=H
 have h1':=h1
 obtain⟨hne,h2,h3,h4⟩:=h1
 simp only at h2 h3 h4 hN
 have hb:(Nat.beq 0 0&&mapB (s.mc,qcb kM qcf s.m))=true:=by rw[mapB_of hi.born hi.bmax];rfl
 have hh:=q58 ⟨N,gs,ms⟩ idn s.m (fun e he=>by have:=(hok.m e he).1;have:=hok.la;omega)
 rw[q59 hi.keys hi.uid] at hh
 have hst:qj0 s=[qcd s.ns s.ps,.int .i64 s.q,.int .i64 s.la,.mapp s.g1,.mapp s.g2]:=rfl
 cases hx:hitE idn s.m with
 |none=>
  rw[hx] at hh
  have hp:qhr s idn=(13,s):=by unfold qhr;rw[hx]
  rw[hp,if_neg (by simp)]
  unfold qgv
  simp only[h2,hst,h3,hb,cond_true,hh]
  exact Comes.some (Canon.pure hcl (fun g r h=>h) (fun g r h=>h) rfl)
 |some ej=>
  obtain⟨e,j⟩:=ej
  rw[hx] at hh
  obtain⟨he,hj⟩:=qni hx
  obtain⟨c,hc,-⟩:=qi3 hj
  have hla:q0w e.2.2 j=c.lab:=by unfold q0w;rw[hc]
  have hp:qhr s idn=(0,qd9 s e.2.1 e.2.2 j c.lab):=by unfold qhr;rw[hx];show (0,qd9 s e.2.1 e.2.2 j (q0w e.2.2 j))=_;rw[hla]
  rw[hp,if_pos rfl]
  have n0:gs.get N=none:=(hN N (Nat.le_refl _)).1
  have n1:gs.get (N+1)=none:=(hN (N+1) (by omega)).1
  obtain⟨es,hes,-⟩:=qp9 (vE:=qcf) (R:=fun _ _=>True) qkr e.2.1 (e.2.2.eraseIdx j) (.slc (N+26) 1 0 (e.2.2.eraseIdx j).length 10) trivial trivial s.mc s.m (fun _ _=>⟨trivial,trivial⟩)
  obtain⟨nx1,gs1,k1,k2,k3⟩:=dr_run N g s e j c idn gs ms (h1'.move rfl rfl) hok hi he hc hN es hes
  obtain⟨T2,hX,hsub⟩:=qn9 yDrT _ _ _ _ _ _ (Sub.refl _) k1
  rw[yDrT_ok,mk_drop] at hX
  have hT4:T2.get 4=some (.int .i64 0):=hsub _ _ rfl
  have hgN:g<N:=by
   rcases Nat.lt_or_ge g N with q|q
   ·exact q
   ·rw[(hN g q).1] at h2;cases h2
  have hrun:qgv qkv [.ptr g 0 0,.int .i64 idn] ⟨N,gs,ms⟩=some (.int .i64 0,⟨nx1,gs1,(ms.set s.g2 ((qbc c.lab (qav s c.lab-1) s.nc s.n).1,qcb kN vN (qbc c.lab (qav s c.lab-1) s.nc s.n).2)).set s.g1 ((qbc e.2.1 (e.2.2.eraseIdx j) s.mc s.m).1,es)⟩):=by
   unfold qgv
   simp only[h2,hst,h3,hb,cond_true,hh,kM,n0,n1]
   rw[qf9,hX]
   simp only[qnp,hT4]
  rw[hrun]
  exact drop_fin rfl h1' hN hcl ((k3 g hgN).trans h2) (fun g' hg' _=>k3 g' hg') (by omega) k2 hes
theorem q0i:HookOne Tryz.prog 20 (qeh dropR):=by
 refine HookOne.ofRel (by decide +kernel) qtu (fun args H y H' h=>?_) fun args H y H' h=>?_
 ·obtain⟨g,s,i,rfl,h1,h2,h3,rfl,rfl⟩:=h
  exact dr_calls g s i H h1 h2 h3
 ·obtain⟨g,s,i,rfl,h1,h2,h3,rfl,rfl⟩:=h
  have hgr:Grows H (if (qhr s i).1=0 then qcu H g (qhr s i).2 else H):=by
   split
   ·exact qsy _ _ _
   ·exact Grows.refl _
  refine⟨hgr,fun X H2 he ha=>⟨_,⟨g,s,i,rfl,h1.ext he (ha.back hgr),h2,h3,rfl,rfl⟩,?_⟩⟩
  split at ha
  ·rename_i hc
   rw[if_pos hc,if_pos hc]
   exact q4k he ha
  ·rename_i hc
   rw[if_neg hc,if_neg hc]
   exact he
theorem qwj(s:St)(i:Int):((qhr s i).1≠0∧(qhr s i).2=s)∨∃e j c,e∈s.m∧e.2.2[j]? = some c∧qhr s i=(0,qd9 s e.2.1 e.2.2 j c.lab):=by
 unfold qhr
 cases hx:hitE i s.m with
 |none=>left;exact⟨by simp,rfl⟩
 |some ej=>
  obtain⟨e,j⟩:=ej
  obtain⟨he,hj⟩:=qni hx
  obtain⟨c,hc,-⟩:=qi3 hj
  right
  refine⟨e,j,c,he,hc,?_⟩
  have:q0w e.2.2 j=c.lab:=by unfold q0w;rw[hc]
  simp only[this]
end
end Go.Proofs.YtdekdghldblfaaaGreatDoor
