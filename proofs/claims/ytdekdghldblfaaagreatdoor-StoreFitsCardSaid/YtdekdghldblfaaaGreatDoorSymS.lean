
import Derived.Test.YtdekdghldblfaaaGreatDoorSymB
import Derived.Test.YtdekdghldblfaaaGreatDoorSymVV
import Derived.Test.YtdekdghldblfaaaGreatDoorAbsV
namespace Go.Proofs.YtdekdghldblfaaaGreatDoor
open Go Go.Abs Go.RowKit
set_option linter.unusedVariables false
set_option linter.unusedSimpArgs false
attribute [local congr] on_congr br_congr onf_congr
def andI (a b : Int) : Int:=IntKind.u64.wrap ((BitVec.ofInt 64 a &&& BitVec.ofInt 64 b).toNat : Nat)
def anotI (a b : Int) : Int:=IntKind.u64.wrap ((BitVec.ofInt 64 a &&& ~~~BitVec.ofInt 64 b).toNat : Nat)
theorem b_and (t : TypeId) (nc : Bool) (a b : Int) : ibin .and t (some (.int .u64)) nc (.int .u64 a) (.int .u64 b) = some (.int .u64 (andI a b)):=(rfl)
theorem b_anot (t : TypeId) (nc : Bool) (a b : Int) : ibin .andNot t (some (.int .u64)) nc (.int .u64 a) (.int .u64 b) = some (.int .u64 (anotI a b)):=(rfl)
def leqB (a b : Int) : Bool:=decide (anotI a b = 0)
noncomputable def leqS : List AV → Option AV
 | [.int .u64 a,.int .u64 b]=>some (.bool (leqB a b))
 | _=>none
theorem leqS_eq (a b : Int) : leqS [.int .u64 a,.int .u64 b] = some (.bool (leqB a b)):=rfl
theorem leq_one : HookOne Tryz.prog 15 (pureF leqS):=by
 refine HookOne.ofPureF (by decide +kernel) fun args y h H=>?_
 unfold leqS at h; split at h
 ·rename_i a b
  cases h
  refine ACalls.ofRun (l:=[]) (by simp) mixed (draws _ rfl) yLLeq_ok rfl (by rfl) 0 ?_ H
  simp (maxSteps:=1000000) (disch:=omega) only [yLLeq,xinit_2,↓axP,axQ,↓if_true,↓if_false,ite_true,ite_false,reduceIte,ne_eq,eq_self,Nat.reduceAdd,Nat.reduceSub,Nat.reduceMul,Nat.reduceLeDiff,Nat.reduceEqDiff,Nat.reduceBEq,reduceCtorEq,Int.reduceToNat,Int.reduceLT,Int.reduceLE,Int.reduceEq,Int.reduceAdd,Int.reduceSub,Int.reduceNeg,capnY,appzY,tmC_len,tmC_0,tmC_1,tmC_2,tmC_3,tmC_take,tmC_drop,tmC_one,tmC_ne,b_anot]
  exact Ans.some (.pure rfl)
 ·cases h
structure Cl where
 id : Int
 lab : Int
 hd : Tm
 bd : Tm
def clC (c : Cl) : List AV:=.int .i64 c.id :: .int .u64 c.lab :: (tmC c.hd ++ tmC c.bd)
def clsA (l : List Cl) : AV:=.vals 10 (l.map clC)
theorem clC_len (c : Cl) : (clC c).length = 10:=by simp [clC,tmC_len]
theorem clC_inj {a b : Cl} (h : clC a = clC b) : a = b:=by
 obtain ⟨i,l,x,y⟩:=a; obtain ⟨i',l',x',y'⟩:=b
 simp only [clC,List.cons.injEq,AV.int.injEq,true_and] at h
 obtain ⟨rfl,rfl,h⟩:=h
 have h1:=List.append_inj h (by rw [tmC_len,tmC_len])
 rw [tmC_inj h1.1,tmC_inj h1.2]
theorem clsA_inj {a b : List Cl} (h : clsA a = clsA b) : a = b:=by
 simp only [clsA,AV.vals.injEq,true_and] at h
 exact map_inj (fun a b=>clC_inj) h
theorem pure_cl (c : Cl) : pureL (clC c) = true:=by
 rw [pureL_all]
 intro x hx
 simp only [clC,List.mem_cons,List.mem_append] at hx
 rcases hx with rfl | rfl | hx | hx
 ·rfl
 ·rfl
 ·exact (pureL_all _).1 (pure_tmC c.hd) x hx
 ·exact (pureL_all _).1 (pure_tmC c.bd) x hx
theorem pure_cls (l : List Cl) : pureR (l.map clC) = true:=by
 rw [pureR_all]
 intro r hr
 simp only [List.mem_map] at hr
 obtain ⟨p,-,rfl⟩:=hr
 exact pure_cl p
noncomputable def ofCl : AV → Option Cl:=back fun c=>.agg (clC c)
theorem ofCl_eq (c : Cl) : ofCl (.agg (clC c)) = some c:=back_eq (f:=fun c=>AV.agg (clC c)) (fun a b h=>clC_inj (by simpa using h)) c
def OkT (t : Tm) : Prop:=t.height ≤ 70 ∧ Fine 1000 t
def OkCl (c : Cl) : Prop:=OkT c.hd ∧ OkT c.bd
noncomputable def ownCS : List AV → Option AV
 | [x]=>(ofCl x).bind fun c=>only (OkCl c) (some (.agg (clC c)))
 | _=>none
theorem ownCS_eq {c : Cl} (h : OkCl c) : ownCS [.agg (clC c)] = some (.agg (clC c)):=by
 simp only [ownCS,ofCl_eq,Option.bind_some]; exact only_eq h _
mutual
theorem repl_nil : ∀ t : Tm,replF (rho []) t = t
 | .mk k n s l=>by
  have:=replL_nil l
  simp only [replF,this]
  split
  ·rfl
  ·rfl
theorem replL_nil : ∀ l : List Tm,replL (rho []) l = l
 | []=>by simp [replL]
 | t :: l=>by simp [replL,repl_nil t,replL_nil l]
end
theorem ownC_one : HookOne Tryz.prog 62 (pureF ownCS):=by
 refine HookOne.ofPureF (by decide +kernel) fun args y h H=>?_
 have hl : ∀ e ∈ [(107,readH (replS 70))],HookOne Tryz.prog e.1 e.2:=by
  intro e he; simp at he; subst he; exact rp_any 70
 unfold ownCS at h; split at h
 ·rename_i x
  rw [Option.bind_eq_some_iff] at h
  obtain ⟨c,h1,h2⟩:=h
  obtain ⟨⟨hh,hb⟩,h3⟩:=only_ok h2
  cases h3
  obtain rfl:=back_ok h1
  refine ACalls.ofRun hl mixed (draws _ rfl) yOwn_ok rfl (by simp [pureL,pureA,pure_cl]) 0 ?_ H
  have hr : ∀ t : Tm,OkT t → ∀ H,readH (replS 70) [.agg (tmC t),.nilm] H = some (.agg (tmC t),H):=fun t ht H=>by
   have:=replS_eq (n:=70) (t:=t) (v:=.nilm) (m:=[]) (H:=H) rfl ht
   rwa [repl_nil] at this
  have r1:=hr c.hd hh
  have r2:=hr c.bd hb
  unfold clC
  simp (maxSteps:=1000000) (disch:=omega) only [yOwn,xinit_1,↓axP,axQ,↓if_true,↓if_false,ite_true,ite_false,reduceIte,ne_eq,eq_self,Nat.reduceAdd,Nat.reduceSub,Nat.reduceMul,Nat.reduceLeDiff,Nat.reduceEqDiff,Nat.reduceBEq,reduceCtorEq,Int.reduceToNat,Int.reduceLT,Int.reduceLE,Int.reduceEq,Int.reduceAdd,Int.reduceSub,Int.reduceNeg,capnY,appzY,tmC_len,tmC_0,tmC_1,tmC_2,tmC_3,tmC_take,tmC_drop,tmC_one,tmC_ne,r1,r2]
  exact Ans.some (.pure (by simp [pureA,pureL,pureL_all] ; exact fun x hx=>by rcases hx with hx | hx; exact (pureL_all _).1 (pure_tmC c.hd) x hx; exact (pureL_all _).1 (pure_tmC c.bd) x hx))
 ·cases h
noncomputable def cloneSS : List AV → Option AV
 | [.vals 1 rows]=>only (rows ≠ [] ∧ rows.length ≤ 1000000 ∧ (∀ r ∈ rows,r.length = 1) ∧ pureR rows = true) (some (.vals 1 rows))
 | _=>none
theorem cloneSS_one : HookOne Tryz.prog 77 (pureF cloneSS):=by
 refine HookOne.ofPureF (by decide +kernel) fun args y h H=>?_
 unfold cloneSS at h; split at h
 ·rename_i rows
  obtain ⟨⟨hl,hn,hr,hp⟩,h3⟩:=only_ok h
  cases h3
  refine ACalls.ofRun (l:=[]) (by simp) mixed (draws _ rfl) yCloneS_ok rfl (by simp [pureL,pureA,hp]) 0 ?_ H
  obtain ⟨t,l',rfl⟩:=List.exists_cons_of_ne_nil hl
  have e : ∀ t ts,ibin .eql 72 (some (.slice 9)) true (.vals 1 (t :: ts)) .nils = some (.bool false):=fun t ts=>(rfl)
  have h0 : (l'.length + 1 = 0) = False:=by simp
  have h1 : (l'.length + 1) * 16 ≤ 140737488355328 ∧ l'.length + 1 ≤ 9223372036854775807:=by simp at hn ⊢; omega
  simp only [yCloneS,xinit_1,↓axP,axQ,↓if_true,↓if_false,ite_true,ite_false,reduceIte,ne_eq,eq_self,Nat.reduceAdd,Nat.reduceSub,Nat.reduceMul,Nat.reduceLeDiff,Nat.reduceEqDiff,Nat.reduceBEq,reduceCtorEq,Int.reduceToNat,Int.reduceLT,Int.reduceLE,Int.reduceEq,Int.reduceAdd,Int.reduceSub,Int.reduceNeg,capnY,appzY,e,List.length_cons,h0,h1]
  refine Ans.some (Fz.ofSlc (by simp only [↓axP,axQ,↓if_true,↓if_false,ite_true,ite_false,reduceIte,ne_eq,eq_self,Nat.reduceAdd,Nat.reduceSub,Nat.reduceMul,Nat.reduceLeDiff,Nat.reduceEqDiff,Nat.reduceBEq,reduceCtorEq,Int.reduceToNat,Int.reduceLT,Int.reduceLE,Int.reduceEq,Int.reduceAdd,Int.reduceSub,Int.reduceNeg,capnY,appzY]; rfl) (by simp) hr ?_)
  exact FzL.pure (pure_flat hp)
 ·cases h
noncomputable def namesS : List AV → Option AV
 | [x]=>(ofSig x).bind fun s=>only (s.1 ≠ [] ∧ s.1.length ≤ 1000000) (some (.vals 1 (s.1.map fun s=>[.str s])))
 | _=>none
theorem namesS_eq {ns : List (List UInt8)} (ps : List Pr) (h : ns ≠ [] ∧ ns.length ≤ 1000000) : namesS [sigV ns ps] = some (.vals 1 (ns.map fun s=>[.str s])):=by
 simp only [namesS,ofSig_eq,Option.bind_some]; exact only_eq h _
theorem names_one : HookOne Tryz.prog 38 (pureF namesS):=by
 refine HookOne.ofPureF (by decide +kernel) fun args y h H=>?_
 have hl : ∀ e ∈ [(77,pureF cloneSS)],HookOne Tryz.prog e.1 e.2:=by
  intro e he; simp at he; subst he; exact cloneSS_one
 unfold namesS at h; split at h
 ·rename_i x
  rw [Option.bind_eq_some_iff] at h
  obtain ⟨⟨ns,ps⟩,h1,h2⟩:=h
  obtain ⟨⟨hne,hlen⟩,h3⟩:=only_ok h2
  cases h3
  obtain rfl:=back_ok h1
  simp only at hne hlen ⊢
  refine ACalls.ofRun hl mixed (draws _ rfl) ySNames_ok rfl (by simp [pureL,pure_sig]) 0 ?_ H
  have hc : cloneSS [.vals 1 (ns.map fun s=>[.str s])] = some (.vals 1 (ns.map fun s=>[.str s])):=only_eq ⟨by simpa using hne,by simpa using hlen,by simp,pure_names ns⟩ _
  unfold sigV
  simp (maxSteps:=1000000) (disch:=omega) only [ySNames,xinit_1,↓axP,axQ,↓if_true,↓if_false,ite_true,ite_false,reduceIte,ne_eq,eq_self,Nat.reduceAdd,Nat.reduceSub,Nat.reduceMul,Nat.reduceLeDiff,Nat.reduceEqDiff,Nat.reduceBEq,reduceCtorEq,Int.reduceToNat,Int.reduceLT,Int.reduceLE,Int.reduceEq,Int.reduceAdd,Int.reduceSub,Int.reduceNeg,capnY,appzY,tmC_len,tmC_0,tmC_1,tmC_2,tmC_3,tmC_take,tmC_drop,tmC_one,tmC_ne,hc]
  exact Ans.some (.pure (by simp [pureA,pure_names]))
 ·cases h
end Go.Proofs.YtdekdghldblfaaaGreatDoor
namespace Go.Proofs.YtdekdghldblfaaaGreatDoor
open Go Go.Abs Go.RowKit
set_option linter.unusedVariables false
set_option linter.unusedSimpArgs false
attribute [local congr] on_congr br_congr onf_congr
attribute [local congr] Comes_congr
structure St where
 ns : List (List UInt8)
 ps : List Pr
 q : Int
 la : Int
 g1 : Nat
 g2 : Nat
 mc : Nat
 m : List (Nat × (List UInt8 × Int) × List Cl)
 nc : Nat
 n : List (Nat × Int × Int)
def kM (k : List UInt8 × Int) : AV:=.agg [.str k.1,.int .i64 k.2]
def kN (k : Int) : AV:=.int .u64 k
def vN (v : Int) : AV:=.int .i64 v
def stoC (s : St) : List AV:=[sigV s.ns s.ps,.int .i64 s.q,.int .i64 s.la,.mapp s.g1,.mapp s.g2]
theorem kM_cmp (a b : List UInt8 × Int) : mcmp (kM a) (kM b) = some (decide (a = b)):=by
 obtain ⟨a1,a2⟩:=a; obtain ⟨b1,b2⟩:=b
 by_cases h : a1 = b1
 ·subst h
  simp [kM,mcmp]
 ·simp [kM,mcmp,h]
theorem kN_cmp (a b : Int) : mcmp (kN a) (kN b) = some (decide (a = b)):=mcmp_i _ _ _
theorem kM_inj (a b : List UInt8 × Int) (h : kM a = kM b) : a = b:=by
 obtain ⟨a1,a2⟩:=a; obtain ⟨b1,b2⟩:=b
 simpa [kM] using h
theorem kN_inj (a b : Int) (h : kN a = kN b) : a = b:=by simpa [kN] using h
theorem vN_inj (a b : Int) (h : vN a = vN b) : a = b:=by simpa [vN] using h
structure StAt (H : AH) (g : Nat) (s : St) : Prop where
 ne : s.g1 ≠ s.g2
 cell : H.gs.get g = some ⟨0,0,stoC s⟩
 m1 : H.ms.get s.g1 = some (s.mc,entG kM clsA s.m)
 m2 : H.ms.get s.g2 = some (s.nc,entG kN vN s.n)
theorem StAt.inj {H : AH} {g : Nat} {s s' : St} (a : StAt H g s) (b : StAt H g s') : s = s':=by
 have h0:=a.cell.symm.trans b.cell
 obtain ⟨ns,ps,q,la,g1,g2,mc,m,nc,n⟩:=s
 obtain ⟨ns',ps',q',la',g1',g2',mc',m',nc',n'⟩:=s'
 simp only [stoC,Option.some.injEq,Grp.mk.injEq,true_and,List.cons.injEq,AV.int.injEq,AV.mapp.injEq,and_true] at h0
 obtain ⟨h1,rfl,rfl,rfl,rfl⟩:=h0
 have h2 : (ns,ps) = (ns',ps'):=sigV_inj (x:=(ns,ps)) (y:=(ns',ps')) h1
 cases h2
 have e1:=a.m1.symm.trans b.m1
 have e2:=a.m2.symm.trans b.m2
 simp only [Option.some.injEq,Prod.mk.injEq] at e1 e2
 obtain ⟨rfl,e1⟩:=e1
 obtain ⟨rfl,e2⟩:=e2
 cases entG_inj kM_inj (fun a b=>clsA_inj) e1
 cases entG_inj kN_inj vN_inj e2
 rfl
theorem StAt.ext {X : Nat → Option Grp} {H H2 : AH} {g : Nat} {s : St} (a : StAt H g s) (he : Ext X H H2) (ha : Apart X H) : StAt H2 g s:=
 ⟨a.ne,he.get ha a.cell,by rw [he.ms]; exact a.m1,by rw [he.ms]; exact a.m2⟩
theorem StAt.move {H H2 : AH} {g : Nat} {s : St} (a : StAt H g s) (h1 : H2.gs.get g = H.gs.get g) (h2 : H2.ms = H.ms) : StAt H2 g s:=
 ⟨a.ne,by rw [h1]; exact a.cell,by rw [h2]; exact a.m1,by rw [h2]; exact a.m2⟩
structure OkSt (s : St) : Prop where
 ns : s.ns = [[97],[98]]
 ps : s.ps ≠ [] ∧ s.ps.length ≤ 1000
 la : 0 ≤ s.la ∧ s.la ≤ 1000000
 m : ∀ e ∈ s.m,(e.2.2.length : Int) ≤ s.la ∧ ∀ c ∈ e.2.2,OkCl c
 n : ∀ e ∈ s.n,0 ≤ e.2.2 ∧ e.2.2 ≤ s.la
def clsOf (s : St) (nm : List UInt8) (ar : Int) : List Cl:=(lookG (nm,ar) s.m).getD []
def cntOf (s : St) (l : Int) : Int:=(lookG l s.n).getD 0
theorem OkSt.cls {s : St} (h : OkSt s) (nm : List UInt8) (ar : Int) : ((clsOf s nm ar).length : Int) ≤ s.la ∧ ∀ c ∈ clsOf s nm ar,OkCl c:=by
 unfold clsOf
 cases hl : lookG (nm,ar) s.m with
 | none=>exact ⟨by simpa using h.la.1,by simp⟩
 | some v=>
  obtain ⟨e,h1,h2,h3⟩:=look_mem hl
  subst h3
  exact h.m e h1
theorem OkSt.cnt {s : St} (h : OkSt s) (l : Int) : 0 ≤ cntOf s l ∧ cntOf s l ≤ s.la:=by
 unfold cntOf
 cases hl : lookG l s.n with
 | none=>exact ⟨Int.le_refl _,h.la.1⟩
 | some v=>
  obtain ⟨e,h1,h2,h3⟩:=look_mem hl
  subst h3
  exact h.n e h1
theorem mkey_p (a : List UInt8) (n : Int) : mkey (.pair .str (.int .i64)) (.agg [.str a,.int .i64 n]) = true:=by simp [mkey]
theorem get_N {s : St} {nx : Nat} {gs : Tr Grp} {ms : Tr MapA} (h : ms.get s.g2 = some (s.nc,entG kN vN s.n)) (l : Int) : mop (.get (.int .u64) (.int .i64 0) false) [.mapp s.g2,.int .u64 l] ⟨nx,gs,ms⟩ = some (.int .i64 (cntOf s l),⟨nx,gs,ms⟩):=by
 obtain ⟨b,hb⟩:=find_G kN_cmp (vE:=vN) l s.n
 have hb' : mfind (.int .u64 l) (entG kN vN s.n) = _:=hb
 rw [mop_get,mkey_i]
 simp only [decide_true,if_true,h,on_some,hb']
 unfold cntOf
 cases lookG l s.n with
 | none=>rfl
 | some v=>rfl
theorem get_M {s : St} {nx : Nat} {gs : Tr Grp} {ms : Tr MapA} (h : ms.get s.g1 = some (s.mc,entG kM clsA s.m)) (nm : List UInt8) (ar : Int) : mop (.get (.pair .str (.int .i64)) .nils false) [.mapp s.g1,.agg [.str nm,.int .i64 ar]] ⟨nx,gs,ms⟩ = some (match lookG (nm,ar) s.m with | some v=>clsA v | none=>.nils,⟨nx,gs,ms⟩):=by
 obtain ⟨b,hb⟩:=find_G kM_cmp (vE:=clsA) (nm,ar) s.m
 have hb' : mfind (.agg [.str nm,.int .i64 ar]) (entG kM clsA s.m) = _:=hb
 rw [mop_get,mkey_p]
 simp only [if_true,h,on_some,hb']
 cases lookG (nm,ar) s.m with
 | none=>rfl
 | some v=>rfl
def viewF (s : St) (nm : List UInt8) (ar cl : Int) : List Cl:=(clsOf s nm ar).filter fun c=>leqB c.lab cl
def viewQ (args : List AV) (H : AH) (y : AV) : Prop:=∃ g s nm ar cl,args = [.ptr g 0 0,.str nm,.int .i64 ar,.int .u64 cl] ∧ StAt H g s ∧ OkSt s ∧ y = clsA (viewF s nm ar cl)
theorem viewQ_one (a : List AV) (H : AH) (y y2 : AV) (h : viewQ a H y) (k : viewQ a H y2) : y = y2:=by
 obtain ⟨g,s,nm,ar,l,rfl,h1,h2,rfl⟩:=h
 obtain ⟨g',s',nm',ar',l',e,k1,k2,rfl⟩:=k
 simp only [List.cons.injEq,AV.ptr.injEq,AV.int.injEq,AV.str.injEq,true_and,and_true] at e
 obtain ⟨rfl,rfl,rfl,rfl⟩:=e
 cases h1.inj k1
 rfl
noncomputable abbrev lsVw : List (FuncId × (List AV → AH → Option (AV × AH))):=[(15,pureF leqS),(62,pureF ownCS)]
theorem lsVw_ok : ∀ e ∈ lsVw,HookOne Tryz.prog e.1 e.2:=by
 intro e he
 simp only [lsVw,List.mem_cons,List.not_mem_nil,or_false] at he
 rcases he with rfl | rfl
 ·exact leq_one
 ·exact ownC_one
def VwJ (B : Nat) (gs0 : Tr Grp) (ms0 : Tr MapA) (H : AH) (o : AV) (l : List Cl) : Prop:=
 H.wf ∧ B ≤ H.next ∧ Ows H o 10 (l.map clC).flatten l.length ∧ OB B o ∧ (∀ g,g < B → H.gs.get g = gs0.get g) ∧ H.ms = ms0
set_option maxHeartbeats 1000000 in
theorem vw_loop (F0 : Nat) (B : Nat) (cl : Int) (gs0 : Tr Grp) (ms0 : Tr MapA) (ls : List Cl) (hlen : ls.length ≤ 1000000) (hok : ∀ c ∈ ls,OkCl c) : ∀ (l2 l1 : List Cl) (o : AV) (H : AH) (F : Nat),ls = l1 ++ l2 → VwJ B gs0 ms0 H o (l1.filter fun c=>leqB c.lab cl) → l2.length < F →
  ∃ o' H',iter (ycode (tcall lsVw) F0 yViewa) F (mk [(3,.int .u64 cl),(9,o),(19,.vals 10 (ls.map clC)),(20,.int .i64 ls.length),(21,.int .i64 l1.length)]) H = some (.exit 0,mk [(9,o')],H') ∧ VwJ B gs0 ms0 H' o' (ls.filter fun c=>leqB c.lab cl):=by
 intro l2
 induction l2 with
 | nil=>
  intro l1 o H F h1 h2 h4
  obtain ⟨k,rfl⟩:=iter_pos (f:=fun _ _=>none) (n:=F) (by omega)
  rw [List.append_nil] at h1
  subst h1
  have hlt : ((ls.length : Int) < (ls.length : Int)) = False:=by simp
  refine ⟨o,H,?_,h2⟩
  rw [iter_one]
  simp (maxSteps:=1000000) (disch:=omega) only [yViewa_r,yViewa_,↓axP,axQ,↓if_true,↓if_false,ite_true,ite_false,reduceIte,ne_eq,eq_self,Nat.reduceAdd,Nat.reduceSub,Nat.reduceMul,Nat.reduceLeDiff,Nat.reduceEqDiff,Nat.reduceBEq,reduceCtorEq,Int.reduceToNat,Int.reduceLT,Int.reduceLE,Int.reduceEq,Int.reduceAdd,Int.reduceSub,Int.reduceNeg,capnY,appzY,tmC_len,tmC_0,tmC_1,tmC_2,tmC_3,tmC_take,tmC_drop,tmC_one,tmC_ne,hlt]
 | cons c l2 ih=>
  intro l1 o H F h1 h2 h4
  obtain ⟨k,rfl⟩:=iter_pos (f:=fun _ _=>none) (n:=F) (by omega)
  have hR : l1.length + 1 ≤ 1000000:=by rw [h1] at hlen; simp at hlen; omega
  have hlt : ((l1.length : Int) < (ls.length : Int)) = True:=eq_true (by rw [h1]; simp; omega)
  have hget : (ls.map clC)[l1.length]? = some (.int .i64 c.id :: .int .u64 c.lab :: (tmC c.hd ++ tmC c.bd)):=by rw [h1]; simp [clC]
  have hi : (0 : Int) ≤ (l1.length : Int):=by omega
  have hw : IntKind.i64.wrap ((l1.length : Int) + 1) = (l1.length : Int) + 1:=by rw [wrap_i64] <;> omega
  have hc:=hok c (by rw [h1]; simp)
  have hown : ownCS [.agg (.int .i64 c.id :: .int .u64 c.lab :: (tmC c.hd ++ tmC c.bd))] = some (.agg (.int .i64 c.id :: .int .u64 c.lab :: (tmC c.hd ++ tmC c.bd))):=ownCS_eq hc
  obtain ⟨w1,w2,w3,w4,w5,w6⟩:=h2
  obtain ⟨nx,gs,ms⟩:=H
  simp only at w2 w5 w6
  subst w6
  have e0:=wf_mk w1
  have hs : (l1 ++ [c]).length = l1.length + 1:=by simp
  cases hq : leqB c.lab cl with
  | false=>
   have hf : ((l1 ++ [c]).filter fun c=>leqB c.lab cl) = l1.filter fun c=>leqB c.lab cl:=by simp [List.filter_append,hq]
   have wfA : AH.wf ⟨nx + 1,gs.set nx ⟨0,0,clC c⟩,ms⟩:=fun g hg=>by
    have : nx + 1 ≤ g:=hg
    show (gs.set nx _).get g = none
    rw [Tr.get_set_ne _ _ (by omega)]; exact w1 g (by show nx ≤ g; omega)
   have owA : Ows ⟨nx + 1,gs.set nx ⟨0,0,clC c⟩,ms⟩ o 10 ((l1.filter fun c=>leqB c.lab cl).map clC).flatten (l1.filter fun c=>leqB c.lab cl).length:=w3.keep (by simp) fun g hg=>by
    have : g < nx:=hg
    show (gs.set nx _).get g = _
    rw [Tr.get_set_ne _ _ (by omega)]
   obtain ⟨o',H',k1,k2⟩:=ih (l1 ++ [c]) o ⟨nx + 1,gs.set nx ⟨0,0,.int .i64 c.id :: .int .u64 c.lab :: (tmC c.hd ++ tmC c.bd)⟩,ms⟩ k (by simp [h1])
    (by rw [hf]; exact ⟨wfA,by show B ≤ nx + 1; omega,owA,w4,fun g hg=>by show (gs.set nx _).get g = _; rw [Tr.get_set_ne _ _ (by omega)]; exact w5 g hg,rfl⟩) (by simp at h4; omega)
   refine ⟨o',H',?_,k2⟩
   rw [hs] at k1
   rw [iter_one]
   simp (maxSteps:=1000000) (disch:=omega) only [↓axP,axQ,↓if_true,↓if_false,ite_true,ite_false,reduceIte,ne_eq,eq_self,Nat.reduceAdd,Nat.reduceSub,Nat.reduceMul,Nat.reduceLeDiff,Nat.reduceEqDiff,Nat.reduceBEq,reduceCtorEq,Int.reduceToNat,Int.reduceLT,Int.reduceLE,Int.reduceEq,Int.reduceAdd,Int.reduceSub,Int.reduceNeg,capnY,appzY] at k1
   simp (maxSteps:=1000000) (disch:=omega) only [yViewa_r,yViewa_,↓axP,axQ,↓if_true,↓if_false,ite_true,ite_false,reduceIte,ne_eq,eq_self,Nat.reduceAdd,Nat.reduceSub,Nat.reduceMul,Nat.reduceLeDiff,Nat.reduceEqDiff,Nat.reduceBEq,reduceCtorEq,Int.reduceToNat,Int.reduceLT,Int.reduceLE,Int.reduceEq,Int.reduceAdd,Int.reduceSub,Int.reduceNeg,capnY,appzY,tmC_len,tmC_0,tmC_1,tmC_2,tmC_3,tmC_take,tmC_drop,tmC_one,tmC_ne,hlt,hi,hget,hw,Int.toNat_natCast,e0,leqS_eq,hq,k1]
  | true=>
   have hf : ((l1 ++ [c]).filter fun c=>leqB c.lab cl) = (l1.filter fun c=>leqB c.lab cl) ++ [c]:=by simp [List.filter_append,hq]
   have hfl : (l1.filter fun c=>leqB c.lab cl).length ≤ l1.length:=List.length_filter_le _ _
   have e1 : gs.get (nx + 1) = none:=w1 (nx + 1) (Nat.le_succ nx)
   have q1 : (nx + 1 = nx) = False:=by simp
   have wfA : AH.wf ⟨nx + 2,(gs.set nx ⟨0,0,clC c⟩).set (nx + 1) ⟨0,0,clC c⟩,ms⟩:=fun g hg=>by
    have : nx + 2 ≤ g:=hg
    show ((gs.set nx _).set (nx + 1) _).get g = none
    rw [Tr.get_set_ne _ _ (by omega),Tr.get_set_ne _ _ (by omega)]; exact w1 g (by show nx ≤ g; omega)
   have owA : Ows ⟨nx + 2,(gs.set nx ⟨0,0,clC c⟩).set (nx + 1) ⟨0,0,clC c⟩,ms⟩ o 10 ((l1.filter fun c=>leqB c.lab cl).map clC).flatten (l1.filter fun c=>leqB c.lab cl).length:=w3.keep (by simp) fun g hg=>by
    have : g < nx:=hg
    show ((gs.set nx _).set (nx + 1) _).get g = _
    rw [Tr.get_set_ne _ _ (by omega),Tr.get_set_ne _ _ (by omega)]
   obtain ⟨v',H',p1,p2,p3,p4,p5,p6⟩:=own_app (x:=.slc (nx + 1) 0 0 1 10) (z:=10) (b:=128) (m:=1) (xs:=clC c) owA wfA (by simp only [clC,↓axP,axQ,↓if_true,↓if_false,ite_true,ite_false,reduceIte,ne_eq,eq_self,Nat.reduceAdd,Nat.reduceSub,Nat.reduceMul,Nat.reduceLeDiff,Nat.reduceEqDiff,Nat.reduceBEq,reduceCtorEq,Int.reduceToNat,Int.reduceLT,Int.reduceLE,Int.reduceEq,Int.reduceAdd,Int.reduceSub,Int.reduceNeg,capnY,appzY,tmC_len,tmC_0,tmC_1,tmC_2,tmC_3,tmC_take,tmC_drop,tmC_one,tmC_ne]) (clC_len c) (by omega) (by omega) (by omega)
   have pp : iapp 10 128 o (.slc (nx + 1) 0 0 1 10) ⟨nx + 2,(gs.set nx ⟨0,0,.int .i64 c.id :: .int .u64 c.lab :: (tmC c.hd ++ tmC c.bd)⟩).set (nx + 1) ⟨0,0,.int .i64 c.id :: .int .u64 c.lab :: (tmC c.hd ++ tmC c.bd)⟩,ms⟩ = some (v',H'):=p1
   have hcat : ((l1.filter fun c=>leqB c.lab cl).map clC).flatten ++ clC c = (((l1 ++ [c]).filter fun c=>leqB c.lab cl).map clC).flatten:=by rw [hf]; simp
   have hln : (l1.filter fun c=>leqB c.lab cl).length + 1 = ((l1 ++ [c]).filter fun c=>leqB c.lab cl).length:=by rw [hf]; simp
   rw [hcat,hln] at p2
   obtain ⟨o',H2,k1,k2⟩:=ih (l1 ++ [c]) v' H' k (by simp [h1])
    ⟨p3,Nat.le_trans (by show B ≤ nx + 2; omega) p4.1,p2,p6 B (by show B ≤ nx + 2; omega) w4,fun g hg=>by
     rw [p4.get w4 hg (by show g < nx + 2; omega)]
     show ((gs.set nx _).set (nx + 1) _).get g = _
     rw [Tr.get_set_ne _ _ (by omega),Tr.get_set_ne _ _ (by omega)]; exact w5 g hg,p5⟩ (by simp at h4; omega)
   refine ⟨o',H2,?_,k2⟩
   rw [hs] at k1
   rw [iter_one]
   simp (maxSteps:=1000000) (disch:=omega) only [↓axP,axQ,↓if_true,↓if_false,ite_true,ite_false,reduceIte,ne_eq,eq_self,Nat.reduceAdd,Nat.reduceSub,Nat.reduceMul,Nat.reduceLeDiff,Nat.reduceEqDiff,Nat.reduceBEq,reduceCtorEq,Int.reduceToNat,Int.reduceLT,Int.reduceLE,Int.reduceEq,Int.reduceAdd,Int.reduceSub,Int.reduceNeg,capnY,appzY] at k1
   simp (maxSteps:=1000000) (disch:=omega) only [yViewa_r,yViewa_,↓axP,axQ,↓if_true,↓if_false,ite_true,ite_false,reduceIte,ne_eq,eq_self,Nat.reduceAdd,Nat.reduceSub,Nat.reduceMul,Nat.reduceLeDiff,Nat.reduceEqDiff,Nat.reduceBEq,reduceCtorEq,Int.reduceToNat,Int.reduceLT,Int.reduceLE,Int.reduceEq,Int.reduceAdd,Int.reduceSub,Int.reduceNeg,capnY,appzY,tmC_len,tmC_0,tmC_1,tmC_2,tmC_3,tmC_take,tmC_drop,tmC_one,tmC_ne,hlt,hi,hget,hw,Int.toNat_natCast,e0,e1,q1,leqS_eq,hq,hown,pp,p2.fit,p2.cell,k1,Nat.add_assoc]
theorem VwJ.fzr {B : Nat} {H H' : AH} {o : AV} {l : List Cl} (hN : ∀ g,B ≤ g → H.gs.get g = none) (h : VwJ B H.gs H.ms H' o l) : FzR H' (kpR H H' H id) (kmR H id) (deadR H id) o (clsA l):=by
 obtain ⟨w1,w2,w3,w4,w5,w6⟩:=h
 exact Ows.fzr w3 w4 hN (by simp) (fun row hr=>by simp only [List.mem_map] at hr; obtain ⟨c,-,rfl⟩:=hr; exact clC_len c) rfl (pure_flat (pure_cls l))
theorem VwJ.canon {B : Nat} {H H' : AH} {o : AV} {l : List Cl} (hN : ∀ n,B ≤ n → H.gs.get n = none ∧ H.ms.get n = none) (hc : ClosedH H) (h : VwJ B H.gs H.ms H' o l) : Canon H H' o H (clsA l) id id:=by
 refine Canon.same hc (fun g r hg=>?_) (fun g r hg=>?_) (h.fzr fun g hg=>(hN g hg).1)
 ·obtain ⟨w1,w2,w3,w4,w5,w6⟩:=h
  rcases Nat.lt_or_ge g B with q | q
  ·rw [w5 g q]; exact hg
  ·rw [(hN g q).1] at hg; cases hg
 ·rw [h.2.2.2.2.2]; exact hg
set_option maxHeartbeats 1000000 in
theorem view_one : HookOne Tryz.prog 26 (relH (readR viewQ)):=by
 refine HookOne.ofReadR (by decide +kernel) viewQ_one (fun args H y h=>?_) fun args H y X H2 h he ha=>?_
 ·obtain ⟨g,s,nm,ar,cl,rfl,h1,hok,rfl⟩:=h
  have hcls:=hok.cls nm ar
  refine ACalls.onRun lsVw_ok mixed (draws _ rfl) yView_ok rfl ((clsOf s nm ar).length + 1) fun N hN hcl=>?_
  obtain ⟨nx0,gs,ms⟩:=H
  obtain ⟨-,h2,h3,-⟩:=h1
  simp only at h2 h3 hN
  unfold stoC at h2
  have hg:=fun nx gs=>get_M (s:=s) (nx:=nx) (gs:=gs) h3 nm ar
  have hJ0 : VwJ N gs ms ⟨N,gs,ms⟩ .nils []:=⟨fun g hg=>(hN g hg).1,Nat.le_refl _,own_nil _ _,ob_nil _,fun _ _=>rfl,rfl⟩
  cases hlk : lookG (nm,ar) s.m with
  | none=>
   have hv : viewF s nm ar cl = []:=by simp [viewF,clsOf,hlk]
   rw [hv]
   simp only [hlk] at hg
   have hl0 : (clsOf s nm ar).length = 0:=by simp [clsOf,hlk]
   rw [hl0]
   simp (maxSteps:=1000000) (disch:=omega) only [yView,xinit_4,↓axP,axQ,↓if_true,↓if_false,ite_true,ite_false,reduceIte,ne_eq,eq_self,Nat.reduceAdd,Nat.reduceSub,Nat.reduceMul,Nat.reduceLeDiff,Nat.reduceEqDiff,Nat.reduceBEq,reduceCtorEq,Int.reduceToNat,Int.reduceLT,Int.reduceLE,Int.reduceEq,Int.reduceAdd,Int.reduceSub,Int.reduceNeg,capnY,appzY,tmC_len,tmC_0,tmC_1,tmC_2,tmC_3,tmC_take,tmC_drop,tmC_one,tmC_ne,h2,hg,iter_one,yViewa_r,yViewa_]
   exact Comes.some (VwJ.canon (H:=⟨nx0,gs,ms⟩) hN hcl hJ0)
  | some v=>
   have hv : clsOf s nm ar = v:=by simp [clsOf,hlk]
   unfold viewF
   rw [hv] at hcls ⊢
   simp only [hlk] at hg
   unfold clsA at hg
   have hla:=hok.la
   obtain ⟨o',H',k1,k2⟩:=vw_loop (v.length + 1) N cl gs ms v (by omega) hcls.2 v [] .nils ⟨N,gs,ms⟩ (v.length + 1) rfl hJ0 (by omega)
   have hml : ((v.map clC).length) = v.length:=by simp
   simp (maxSteps:=1000000) (disch:=omega) only [↓axP,axQ,↓if_true,↓if_false,ite_true,ite_false,reduceIte,ne_eq,eq_self,Nat.reduceAdd,Nat.reduceSub,Nat.reduceMul,Nat.reduceLeDiff,Nat.reduceEqDiff,Nat.reduceBEq,reduceCtorEq,Int.reduceToNat,Int.reduceLT,Int.reduceLE,Int.reduceEq,Int.reduceAdd,Int.reduceSub,Int.reduceNeg,capnY,appzY] at k1
   simp (maxSteps:=1000000) (disch:=omega) only [yView,xinit_4,↓axP,axQ,↓if_true,↓if_false,ite_true,ite_false,reduceIte,ne_eq,eq_self,Nat.reduceAdd,Nat.reduceSub,Nat.reduceMul,Nat.reduceLeDiff,Nat.reduceEqDiff,Nat.reduceBEq,reduceCtorEq,Int.reduceToNat,Int.reduceLT,Int.reduceLE,Int.reduceEq,Int.reduceAdd,Int.reduceSub,Int.reduceNeg,capnY,appzY,tmC_len,tmC_0,tmC_1,tmC_2,tmC_3,tmC_take,tmC_drop,tmC_one,tmC_ne,h2,hg,hml,k1]
   exact Comes.some (VwJ.canon (H:=⟨nx0,gs,ms⟩) hN hcl k2)
 ·obtain ⟨g,s,nm,ar,cl,rfl,h1,hok,rfl⟩:=h
  exact ⟨g,s,nm,ar,cl,rfl,h1.ext he ha,hok,rfl⟩
end Go.Proofs.YtdekdghldblfaaaGreatDoor
namespace Go.Proofs.YtdekdghldblfaaaGreatDoor
open Go Go.Abs Go.RowKit
set_option linter.unusedVariables false
set_option linter.unusedSimpArgs false
attribute [local congr] on_congr br_congr onf_congr
attribute [local congr] Comes_congr
def listF (s : St) (cl : Int) (ps : List Pr) : List Cl:=ps.flatMap fun p=>viewF s p.nm p.ar cl
def listQ (args : List AV) (H : AH) (y : AV) : Prop:=∃ g s cl,args = [.ptr g 0 0,.int .u64 cl] ∧ StAt H g s ∧ OkSt s ∧ y = clsA (listF s cl s.ps)
theorem listQ_one (a : List AV) (H : AH) (y y2 : AV) (h : listQ a H y) (k : listQ a H y2) : y = y2:=by
 obtain ⟨g,s,l,rfl,h1,h2,rfl⟩:=h
 obtain ⟨g',s',l',e,k1,k2,rfl⟩:=k
 simp only [List.cons.injEq,AV.ptr.injEq,AV.int.injEq,AV.str.injEq,true_and,and_true] at e
 obtain ⟨rfl,rfl⟩:=e
 cases h1.inj k1
 rfl
theorem view_len {s : St} (h : OkSt s) (nm : List UInt8) (ar cl : Int) : (viewF s nm ar cl).length ≤ 1000000:=by
 have h1:=(h.cls nm ar).1
 have h2:=h.la
 have : (viewF s nm ar cl).length ≤ (clsOf s nm ar).length:=List.length_filter_le _ _
 omega
end Go.Proofs.YtdekdghldblfaaaGreatDoor
