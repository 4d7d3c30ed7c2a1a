
import Derived.Test.YtdekdghldblfaaaGreatDoorSymS
import Derived.Test.YtdekdghldblfaaaGreatDoorYFi
import Derived.Test.YtdekdghldblfaaaGreatDoorSymB
namespace Go.Proofs.YtdekdghldblfaaaGreatDoor
open Go Go.Abs Go.RowKit
set_option linter.unusedVariables false
set_option linter.unusedSimpArgs false
attribute [local congr] on_congr br_congr onf_congr
attribute [local congr] Comes_congr
theorem Canon.row {N ga ea len z : Nat} {H H1 : AH} {cs : List AV} (hf : H.gs.get H.next = none) (hN : ∀ n,N ≤ n → H.gs.get n = none ∧ H.ms.get n = none) (hc : ClosedH H) (hga : N ≤ ga) (hg1 : H1.gs.get ga = some ⟨ea,0,cs⟩) (hp : pureL cs = true)
  (hgo : ∀ g,g < N → H1.gs.get g = H.gs.get g) (hmo : ∀ g,g < N → H1.ms.get g = H.ms.get g) :
  ∃ p,Canon H H1 (.slc ga ea 0 len z) ⟨H.next + 1,H.gs.set H.next ⟨0,0,cs⟩,H.ms⟩ (.slc H.next 0 0 len z) p id:=by
 have lt : ∀ g,H.gs.get g ≠ none → g < N:=fun g h=>by
  rcases Nat.lt_or_ge g N with q | q
  ·exact q
  ·exact absurd (hN g q).1 h
 have ltm : ∀ g,H.ms.get g ≠ none → g < N:=fun g h=>by
  rcases Nat.lt_or_ge g N with q | q
  ·exact q
  ·exact absurd (hN g q).2 h
 let p : Nat → Nat:=fun x=>if x = H.next then ga else x
 have p0 : p H.next = ga:=if_pos rfl
 have pn : ∀ g,g ≠ H.next → p g = g:=fun g h=>if_neg h
 have hgs : ∀ g,(H.gs.set H.next ⟨0,0,cs⟩).get g = if g = H.next then some ⟨0,0,cs⟩ else H.gs.get g:=fun g=>by
  by_cases e : g = H.next
  ·rw [e,Tr.get_set_same,if_pos rfl]
  ·rw [Tr.get_set_ne _ _ e,if_neg e]
 have hrefl : ∀ x,refA (fun g=>H.gs.get g ≠ none) (fun g=>H.ms.get g ≠ none) x → FzR H1 (kpR H H1 ⟨H.next + 1,H.gs.set H.next ⟨0,0,cs⟩,H.ms⟩ p) (kmR ⟨H.next + 1,H.gs.set H.next ⟨0,0,cs⟩,H.ms⟩ id) (deadR ⟨H.next + 1,H.gs.set H.next ⟨0,0,cs⟩,H.ms⟩ p) x x:=fun x hx=>
  FzR.refl (S:=fun g=>H.gs.get g ≠ none) (M:=fun g=>H.ms.get g ≠ none) (fun g e h=>.inl ⟨h,rfl,rfl⟩) (fun g h=>⟨rfl,h⟩) x hx
 have ig : ∀ g,(H.gs.set H.next ⟨0,0,cs⟩).get g ≠ none → (g = H.next ∧ p g = ga) ∨ (g < N ∧ p g = g):=fun g h=>by
  rw [hgs] at h
  by_cases e2 : g = H.next
  ·exact .inl ⟨e2,by rw [e2]; exact p0⟩
  ·rw [if_neg e2] at h
   exact .inr ⟨lt g h,pn g e2⟩
 refine ⟨p,fun g h=>?_,fun g s2 h=>?_,fun g g' h h' e=>?_,fun g h=>⟨rfl,h⟩,fun g es2 h=>?_,fun g g' _ _ e=>e,?_⟩
 ·have e1 : g ≠ H.next:=fun e=>h (by rw [e]; exact hf)
  exact ⟨pn g e1,by show (H.gs.set H.next _).get g ≠ none; rw [hgs,if_neg e1]; exact h⟩
 ·have h : (H.gs.set H.next ⟨0,0,cs⟩).get g = some s2:=h
  rw [hgs] at h
  by_cases e : g = H.next
  ·rw [if_pos e] at h
   cases h
   refine ⟨⟨ea,0,cs⟩,by rw [e,p0]; exact hg1,Nat.le_refl _,fun hh=>absurd hf (by rw [← e]; exact hh),fun i y hy=>⟨y,hy,.pure ((pureL_all _).1 hp y (List.mem_of_getElem? hy))⟩⟩
  ·rw [if_neg e] at h
   refine ⟨s2,by rw [pn g e,hgo g (lt g (by rw [h]; simp))]; exact h,Nat.le_refl _,fun _=>rfl,fun i y hy=>⟨y,hy,hrefl y (hc.cell g s2 i y h hy)⟩⟩
 ·rcases ig g h with ⟨a,b⟩ | ⟨a,b⟩ <;> rcases ig g' h' with ⟨c,d⟩ | ⟨c,d⟩ <;> omega
 ·refine ⟨es2,by show H1.ms.get g = _; rw [hmo g (ltm g (by intro h0; have h1 : H.ms.get g = some es2:=h; rw [h0] at h1; cases h1))]; exact h,rfl,FzE.refl fun e he=>?_⟩
  have:=hc.ent g es2 h e he
  exact ⟨hrefl _ this.1,hrefl _ this.2⟩
 ·exact .keepS (.inr ⟨hf,p0.symm,_,_,hg1,rfl,by show (H.gs.set H.next _).get H.next = _; rw [hgs,if_pos rfl],rfl⟩)
def viewO (args : List AV) (H : AH) (y : AV) (H' : AH) : Prop:=∃ g s nm ar cl,args = [.ptr g 0 0,.str nm,.int .i64 ar,.int .u64 cl] ∧ StAt H g s ∧ OkSt s ∧ (viewF s nm ar cl ≠ [] → H.gs.get H.next = none) ∧
 y = (if viewF s nm ar cl = [] then .vals 10 [] else .slc H.next 0 0 (viewF s nm ar cl).length 10) ∧ H' = (if viewF s nm ar cl = [] then H else ⟨H.next + 1,H.gs.set H.next ⟨0,0,((viewF s nm ar cl).map clC).flatten⟩,H.ms⟩)
theorem viewO_one : OneR viewO:=by
 intro a H y H' y2 H2 h k
 obtain ⟨g,s,nm,ar,l,rfl,h1,h2,h3,rfl,rfl⟩:=h
 obtain ⟨g',s',nm',ar',l',e,k1,k2,k3,rfl,rfl⟩:=k
 simp only [List.cons.injEq,AV.ptr.injEq,AV.int.injEq,AV.str.injEq,true_and,and_true] at e
 obtain ⟨rfl,rfl,rfl,rfl⟩:=e
 cases h1.inj k1
 exact ⟨rfl,rfl⟩
theorem vw_end {B : Nat} {H H' : AH} {o : AV} {l : List Cl} (hf : l ≠ [] → H.gs.get H.next = none) (hN : ∀ n,B ≤ n → H.gs.get n = none ∧ H.ms.get n = none) (hc : ClosedH H) (h : VwJ B H.gs H.ms H' o l) :
  Go.Abs.Comes (some (o,H')) H (if l = [] then .vals 10 [] else .slc H.next 0 0 l.length 10) (if l = [] then H else ⟨H.next + 1,H.gs.set H.next ⟨0,0,(l.map clC).flatten⟩,H.ms⟩):=by
 by_cases hz : l = []
 ·subst hz
  rw [if_pos rfl,if_pos rfl]
  exact Comes.some (VwJ.canon hN hc h)
 ·obtain ⟨w1,w2,w3,w4,w5,w6⟩:=h
  rw [if_neg hz,if_neg hz]
  obtain ⟨hl,w3⟩:=w3
  rcases w3 with ⟨rfl,hz'⟩ | ⟨ga,ea,rfl,hg,-⟩
  ·exact absurd (List.eq_nil_of_length_eq_zero hz') hz
  ·obtain ⟨p,c⟩:=Canon.row (len:=l.length) (z:=10) (hf hz) hN hc (w4 ga ea 0 _ _ rfl) hg (pure_flat (pure_cls l)) w5 (fun g _=>by rw [w6])
   exact Comes.some c
set_option maxHeartbeats 1000000 in
theorem viewO_hook : HookOne Tryz.prog 26 (relH viewO):=by
 refine HookOne.ofRel (by decide +kernel) viewO_one (fun args H y H' h=>?_) fun args H y H' h=>?_
 ·obtain ⟨g,s,nm,ar,cl,rfl,h1,hok,hf,rfl,rfl⟩:=h
  have hcls:=hok.cls nm ar
  refine ACalls.onRun lsVw_ok mixed (draws _ rfl) yView_ok rfl ((clsOf s nm ar).length + 1) fun N hN hcl=>?_
  obtain ⟨nx0,gs,ms⟩:=H
  obtain ⟨-,h2,h3,-⟩:=h1
  simp only at h2 h3 hN hf ⊢
  unfold stoC at h2
  have hg:=fun nx gs=>get_M (s:=s) (nx:=nx) (gs:=gs) h3 nm ar
  have hJ0 : VwJ N gs ms ⟨N,gs,ms⟩ .nils []:=⟨fun g hg=>(hN g hg).1,Nat.le_refl _,own_nil _ _,ob_nil _,fun _ _=>rfl,rfl⟩
  cases hlk : lookG (nm,ar) s.m with
  | none=>
   have hv : viewF s nm ar cl = []:=by simp [viewF,clsOf,hlk]
   rw [hv]
   simp only [hlk] at hg
   have hl0 : (clsOf s nm ar).length = 0:=by simp [clsOf,hlk]
   rw [hl0]
   simp (maxSteps:=1000000) (disch:=omega) only [yView,xinit_4,↓axP,axQ,↓if_true,↓if_false,ite_true,ite_false,reduceIte,ne_eq,eq_self,Nat.reduceAdd,Nat.reduceSub,Nat.reduceMul,Nat.reduceLeDiff,Nat.reduceEqDiff,Nat.reduceBEq,reduceCtorEq,Int.reduceToNat,Int.reduceLT,Int.reduceLE,Int.reduceEq,Int.reduceAdd,Int.reduceSub,Int.reduceNeg,capnY,appzY,tmC_len,tmC_0,tmC_1,tmC_2,tmC_3,tmC_take,tmC_drop,tmC_one,tmC_ne,h2,hg,iter_one,yViewa_r,yViewa_]
   exact Comes.some (VwJ.canon (H:=⟨nx0,gs,ms⟩) hN hcl hJ0)
  | some v=>
   have hv : clsOf s nm ar = v:=by simp [clsOf,hlk]
   unfold viewF
   rw [hv] at hcls ⊢
   simp only [hlk] at hg
   unfold clsA at hg
   have hla:=hok.la
   obtain ⟨o',H',k1,k2⟩:=vw_loop (v.length + 1) N cl gs ms v (by omega) hcls.2 v [] .nils ⟨N,gs,ms⟩ (v.length + 1) rfl hJ0 (by omega)
   have hml : ((v.map clC).length) = v.length:=by simp
   simp (maxSteps:=1000000) (disch:=omega) only [↓axP,axQ,↓if_true,↓if_false,ite_true,ite_false,reduceIte,ne_eq,eq_self,Nat.reduceAdd,Nat.reduceSub,Nat.reduceMul,Nat.reduceLeDiff,Nat.reduceEqDiff,Nat.reduceBEq,reduceCtorEq,Int.reduceToNat,Int.reduceLT,Int.reduceLE,Int.reduceEq,Int.reduceAdd,Int.reduceSub,Int.reduceNeg,capnY,appzY] at k1
   have E:=vw_end (H:=⟨nx0,gs,ms⟩) (fun h=>hf (by unfold viewF; rw [hv]; exact h)) hN hcl k2
   simp only at E
   generalize (if (List.filter (fun c=>leqB c.lab cl) v) = [] then AV.vals 10 [] else .slc nx0 0 0 (List.filter (fun c=>leqB c.lab cl) v).length 10) = Y at E ⊢
   generalize (if (List.filter (fun c=>leqB c.lab cl) v) = [] then (⟨nx0,gs,ms⟩ : AH) else ⟨nx0 + 1,gs.set nx0 ⟨0,0,((List.filter (fun c=>leqB c.lab cl) v).map clC).flatten⟩,ms⟩) = Z at E ⊢
   simp (maxSteps:=1000000) (disch:=omega) only [yView,xinit_4,↓axP,axQ,↓if_true,↓if_false,ite_true,ite_false,reduceIte,ne_eq,eq_self,Nat.reduceAdd,Nat.reduceSub,Nat.reduceMul,Nat.reduceLeDiff,Nat.reduceEqDiff,Nat.reduceBEq,reduceCtorEq,Int.reduceToNat,Int.reduceLT,Int.reduceLE,Int.reduceEq,Int.reduceAdd,Int.reduceSub,Int.reduceNeg,capnY,appzY,tmC_len,tmC_0,tmC_1,tmC_2,tmC_3,tmC_take,tmC_drop,tmC_one,tmC_ne,h2,hg,hml,k1]
   exact E
 ·obtain ⟨g,s,nm,ar,cl,rfl,h1,hok,hf,rfl,rfl⟩:=h
  by_cases hz : viewF s nm ar cl = []
  ·simp only [hz,if_true]
   exact ⟨Grows.refl _,fun X H2 he ha=>⟨H2,⟨g,s,nm,ar,cl,rfl,h1.ext he ha,hok,fun hh=>absurd hz hh,by rw [if_pos hz],by rw [if_pos hz]⟩,he⟩⟩
  ·simp only [hz,if_false]
   have hf:=hf hz
   have hgr : Grows H ⟨H.next + 1,H.gs.set H.next ⟨0,0,((viewF s nm ar cl).map clC).flatten⟩,H.ms⟩:=fun g' h=>by
    have h : (H.gs.set H.next _).get g' = none:=h
    by_cases e : g' = H.next
    ·subst e; rw [Tr.get_set_same] at h; cases h
    ·rw [Tr.get_set_ne _ _ e] at h; exact h
   refine ⟨hgr,fun X H2 he ha=>⟨⟨H2.next + 1,H2.gs.set H2.next ⟨0,0,((viewF s nm ar cl).map clC).flatten⟩,H2.ms⟩,⟨g,s,nm,ar,cl,rfl,h1.ext he (ha.back hgr),hok,fun _=>?_,by rw [if_neg hz,he.next],by rw [if_neg hz]⟩,?_⟩⟩
   ·rw [he.gs,he.next]
    cases hx : X H.next with
    | none=>exact hf
    | some r=>
     have h2 : (H.gs.set H.next ⟨0,0,((viewF s nm ar cl).map clC).flatten⟩).get H.next = none:=ha _ _ hx
     rw [Tr.get_set_same] at h2; cases h2
   ·refine ⟨by show H2.next + 1 = H.next + 1; rw [he.next],fun g'=>?_,he.ms⟩
    show (H2.gs.set H2.next ⟨0,0,((viewF s nm ar cl).map clC).flatten⟩).get g' = match X g' with | some r=>some r | none=>(H.gs.set H.next ⟨0,0,((viewF s nm ar cl).map clC).flatten⟩).get g'
    rw [he.next]
    by_cases e : g' = H.next
    ·subst e
     rw [Tr.get_set_same,Tr.get_set_same]
     cases hx : X H.next with
     | none=>rfl
     | some r=>
      have h2 : (H.gs.set H.next ⟨0,0,((viewF s nm ar cl).map clC).flatten⟩).get H.next = none:=ha _ _ hx
      rw [Tr.get_set_same] at h2; cases h2
    ·rw [Tr.get_set_ne _ _ e,Tr.get_set_ne _ _ e]; exact he.gs g'
end Go.Proofs.YtdekdghldblfaaaGreatDoor
namespace Go.Proofs.YtdekdghldblfaaaGreatDoor
open Go Go.Abs Go.RowKit
set_option linter.unusedVariables false
set_option linter.unusedSimpArgs false
attribute [local congr] on_congr br_congr onf_congr
abbrev Ky:=Int × Int × List UInt8 × Int
def keyC (k : Ky) : List AV:=[.int .i64 k.1,.int .i64 k.2.1,.str k.2.2.1,.int .i64 k.2.2.2]
def keyP (t : Tm) : Ky:=if t.good = true then
  match t.args with
  | []=>(0,0,[],0)
  | x :: _=>if x.kind = 0 then (0,0,[],0) else if x.kind = 1 then (1,x.num,[],0) else (x.kind,0,x.name,x.args.length)
 else (0,0,[],0)
noncomputable def keyS : List AV → Option AV
 | [x]=>(ofT x).bind fun t=>only (Fine 1000 t) (some (.agg (keyC (keyP t))))
 | _=>none
theorem keyS_eq {t : Tm} (h : Fine 1000 t) : keyS [.agg (tmC t)] = some (.agg (keyC (keyP t))):=by
 show (ofT (tmA t)).bind _ = _
 rw [ofT_tm]; exact only_eq h _
theorem key_one : HookOne Tryz.prog 63 (pureF keyS):=by
 refine HookOne.ofPureF (by decide +kernel) fun args y h H=>?_
 have hl : ∀ e ∈ [(42,pureF goodS)],HookOne Tryz.prog e.1 e.2:=by
  intro e he; simp at he; subst he; exact goodF_one
 unfold keyS at h; split at h
 ·rename_i x
  rw [Option.bind_eq_some_iff] at h
  obtain ⟨t,h1,h2⟩:=h
  obtain ⟨hf,h3⟩:=only_ok h2
  cases h3
  obtain rfl:=ofT_ok h1
  refine ACalls.ofRun hl mixed (draws _ rfl) yKeyOf_ok rfl (by simp [pureL,pure_tmA]) 5 ?_ H
  have hgd:=goodS_eq' hf
  unfold tmA
  cases hg : t.good with
  | false=>
   rw [hg] at hgd
   have hk : keyP t = (0,0,[],0):=by simp [keyP,hg]
   rw [hk]
   simp (maxSteps:=1000000) (disch:=omega) only [yKeyOf,xinit_1,↓axP,axQ,↓if_true,↓if_false,ite_true,ite_false,reduceIte,ne_eq,eq_self,Nat.reduceAdd,Nat.reduceSub,Nat.reduceMul,Nat.reduceLeDiff,Nat.reduceEqDiff,Nat.reduceBEq,reduceCtorEq,Int.reduceToNat,Int.reduceLT,Int.reduceLE,Int.reduceEq,Int.reduceAdd,Int.reduceSub,Int.reduceNeg,capnY,appzY,tmC_len,tmC_0,tmC_1,tmC_2,tmC_3,tmC_take,tmC_drop,tmC_one,tmC_ne,hgd]
   exact Ans.some (.pure rfl)
  | true=>
   rw [hg] at hgd
   cases ha : t.args with
   | nil=>
    have hk : keyP t = (0,0,[],0):=by simp [keyP,hg,ha]
    rw [hk]
    simp (maxSteps:=1000000) (disch:=omega) only [yKeyOf,xinit_1,↓axP,axQ,↓if_true,↓if_false,ite_true,ite_false,reduceIte,ne_eq,eq_self,Nat.reduceAdd,Nat.reduceSub,Nat.reduceMul,Nat.reduceLeDiff,Nat.reduceEqDiff,Nat.reduceBEq,reduceCtorEq,Int.reduceToNat,Int.reduceLT,Int.reduceLE,Int.reduceEq,Int.reduceAdd,Int.reduceSub,Int.reduceNeg,capnY,appzY,tmC_len,tmC_0,tmC_1,tmC_2,tmC_3,tmC_take,tmC_drop,tmC_one,tmC_ne,hgd,ha,List.map_nil]
    exact Ans.some (.pure rfl)
   | cons x xs=>
    have hl0 : ((xs.length : Int) + 1 = 0) = False:=eq_false (by omega)
    have hi : ((0 : Int) < (xs.length : Int) + 1) = True:=eq_true (by omega)
    by_cases k0 : x.kind = 0
    ·have hk : keyP t = (0,0,[],0):=by simp [keyP,hg,ha,k0]
     rw [hk]
     simp (maxSteps:=1000000) (disch:=omega) only [yKeyOf,xinit_1,↓axP,axQ,↓if_true,↓if_false,ite_true,ite_false,reduceIte,ne_eq,eq_self,Nat.reduceAdd,Nat.reduceSub,Nat.reduceMul,Nat.reduceLeDiff,Nat.reduceEqDiff,Nat.reduceBEq,reduceCtorEq,Int.reduceToNat,Int.reduceLT,Int.reduceLE,Int.reduceEq,Int.reduceAdd,Int.reduceSub,Int.reduceNeg,capnY,appzY,tmC_len,tmC_0,tmC_1,tmC_2,tmC_3,tmC_take,tmC_drop,tmC_one,tmC_ne,hgd,ha,List.map_cons,List.length_map,hl0,hi,k0]
     exact Ans.some (.pure rfl)
    ·by_cases k1 : x.kind = 1
     ·have hk : keyP t = (1,x.num,[],0):=by simp [keyP,hg,ha,k0,k1]
      have k0' : ((1 : Int) = 0) = False:=by simp
      rw [hk]
      simp (maxSteps:=1000000) (disch:=omega) only [yKeyOf,xinit_1,↓axP,axQ,↓if_true,↓if_false,ite_true,ite_false,reduceIte,ne_eq,eq_self,Nat.reduceAdd,Nat.reduceSub,Nat.reduceMul,Nat.reduceLeDiff,Nat.reduceEqDiff,Nat.reduceBEq,reduceCtorEq,Int.reduceToNat,Int.reduceLT,Int.reduceLE,Int.reduceEq,Int.reduceAdd,Int.reduceSub,Int.reduceNeg,capnY,appzY,tmC_len,tmC_0,tmC_1,tmC_2,tmC_3,tmC_take,tmC_drop,tmC_one,tmC_ne,hgd,ha,List.map_cons,List.length_map,hl0,hi,k0',k1]
      exact Ans.some (.pure rfl)
     ·have hk : keyP t = ((x.kind,0,x.name,(x.args.length : Int)) : Ky):=by simp [keyP,hg,ha,k0,k1]
      rw [hk]
      simp (maxSteps:=1000000) (disch:=omega) only [yKeyOf,xinit_1,↓axP,axQ,↓if_true,↓if_false,ite_true,ite_false,reduceIte,ne_eq,eq_self,Nat.reduceAdd,Nat.reduceSub,Nat.reduceMul,Nat.reduceLeDiff,Nat.reduceEqDiff,Nat.reduceBEq,reduceCtorEq,Int.reduceToNat,Int.reduceLT,Int.reduceLE,Int.reduceEq,Int.reduceAdd,Int.reduceSub,Int.reduceNeg,capnY,appzY,tmC_len,tmC_0,tmC_1,tmC_2,tmC_3,tmC_take,tmC_drop,tmC_one,tmC_ne,hgd,ha,List.map_cons,List.length_map,hl0,hi,k0,k1]
      exact Ans.some (.pure rfl)
 ·cases h
def mayP (a b : Ky) : Bool:=decide (a.1 = 0) || decide (b.1 = 0) || decide (a = b)
theorem keyC_inj {a b : Ky} (h : keyC a = keyC b) : a = b:=by
 obtain ⟨a1,a2,a3,a4⟩:=a; obtain ⟨b1,b2,b3,b4⟩:=b
 simp [keyC] at h
 obtain ⟨rfl,rfl,rfl,rfl⟩:=h; rfl
noncomputable def ofKy : AV → Option Ky:=back fun k=>.agg (keyC k)
theorem ofKy_eq (k : Ky) : ofKy (.agg (keyC k)) = some k:=back_eq (f:=fun k=>AV.agg (keyC k)) (fun a b h=>keyC_inj (by simpa using h)) k
noncomputable def mayS : List AV → Option AV
 | [x,y]=>(ofKy x).bind fun a=>(ofKy y).bind fun b=>some (.bool (mayP a b))
 | _=>none
theorem mayS_eq (a b : Ky) : mayS [.agg (keyC a),.agg (keyC b)] = some (.bool (mayP a b)):=by
 simp [mayS,ofKy_eq]
theorem steq_key (a b : Ky) (H : AH) : mop (.steq false [.int .i64,.int .i64,.str,.int .i64]) [.agg (keyC a),.agg (keyC b)] H = some (.bool (decide (a = b)),H):=by
 obtain ⟨a1,a2,a3,a4⟩:=a; obtain ⟨b1,b2,b3,b4⟩:=b
 simp only [mop,steqY,keyC,stEq,mkey,mcmp,decide_true,if_true]
 by_cases e1 : a1 = b1
 ·by_cases e2 : a2 = b2
  ·by_cases e3 : a3 = b3
   ·by_cases e4 : a4 = b4
    ·simp [e1,e2,e3,e4]
    ·simp [e1,e2,e3,e4]
   ·simp [e1,e2,e3]
  ·simp [e1,e2]
 ·simp [e1]
theorem may_one : HookOne Tryz.prog 66 (pureF mayS):=by
 refine HookOne.ofPureF (by decide +kernel) fun args y h H=>?_
 unfold mayS at h; split at h
 ·rename_i x z
  rw [Option.bind_eq_some_iff] at h
  obtain ⟨a,h1,h2⟩:=h
  rw [Option.bind_eq_some_iff] at h2
  obtain ⟨b,h2,h3⟩:=h2
  cases h3
  obtain rfl:=back_ok h1
  obtain rfl:=back_ok h2
  refine ACalls.ofRun (l:=[]) (by simp) mixed (draws _ rfl) yMay_ok rfl (by rfl) 5 ?_ H
  have hs:=steq_key a b
  unfold keyC at hs ⊢
  unfold mayP
  by_cases k0 : a.1 = 0
  ·simp (maxSteps:=1000000) (disch:=omega) only [yMay,xinit_2,↓axP,axQ,↓if_true,↓if_false,ite_true,ite_false,reduceIte,ne_eq,eq_self,Nat.reduceAdd,Nat.reduceSub,Nat.reduceMul,Nat.reduceLeDiff,Nat.reduceEqDiff,Nat.reduceBEq,reduceCtorEq,Int.reduceToNat,Int.reduceLT,Int.reduceLE,Int.reduceEq,Int.reduceAdd,Int.reduceSub,Int.reduceNeg,capnY,appzY,tmC_len,tmC_0,tmC_1,tmC_2,tmC_3,tmC_take,tmC_drop,tmC_one,tmC_ne,k0]
   exact Ans.some (.pure rfl)
  ·by_cases k1 : b.1 = 0
   ·simp (maxSteps:=1000000) (disch:=omega) only [yMay,xinit_2,↓axP,axQ,↓if_true,↓if_false,ite_true,ite_false,reduceIte,ne_eq,eq_self,Nat.reduceAdd,Nat.reduceSub,Nat.reduceMul,Nat.reduceLeDiff,Nat.reduceEqDiff,Nat.reduceBEq,reduceCtorEq,Int.reduceToNat,Int.reduceLT,Int.reduceLE,Int.reduceEq,Int.reduceAdd,Int.reduceSub,Int.reduceNeg,capnY,appzY,tmC_len,tmC_0,tmC_1,tmC_2,tmC_3,tmC_take,tmC_drop,tmC_one,tmC_ne,k0,k1]
    exact Ans.some (.pure rfl)
   ·simp (maxSteps:=1000000) (disch:=omega) only [yMay,xinit_2,↓axP,axQ,↓if_true,↓if_false,ite_true,ite_false,reduceIte,ne_eq,eq_self,Nat.reduceAdd,Nat.reduceSub,Nat.reduceMul,Nat.reduceLeDiff,Nat.reduceEqDiff,Nat.reduceBEq,reduceCtorEq,Int.reduceToNat,Int.reduceLT,Int.reduceLE,Int.reduceEq,Int.reduceAdd,Int.reduceSub,Int.reduceNeg,capnY,appzY,tmC_len,tmC_0,tmC_1,tmC_2,tmC_3,tmC_take,tmC_drop,tmC_one,tmC_ne,k0,k1,hs]
    exact Ans.some (.pure rfl)
 ·cases h
end Go.Proofs.YtdekdghldblfaaaGreatDoor
namespace Go.Proofs.YtdekdghldblfaaaGreatDoor
open Go Go.Abs Go.RowKit
set_option linter.unusedVariables false
set_option linter.unusedSimpArgs false
attribute [local congr] on_congr br_congr onf_congr
attribute [local congr] Comes_congr
noncomputable abbrev ysFf : List (FuncId × YF):=[(64,yDelF),(55,yIdxF),(65,yFits1)]
noncomputable abbrev lsFf : List (FuncId × (List AV → AH → Option (AV × AH))):=[(63,pureF keyS),(66,pureF mayS),(26,relH viewO)]
theorem lsFf_ok : ∀ e ∈ lsFf,HookOne Tryz.prog e.1 e.2:=by
 intro e he
 simp only [lsFf,List.mem_cons,List.not_mem_nil,or_false] at he
 rcases he with rfl | rfl | rfl
 ·exact key_one
 ·exact may_one
 ·exact viewO_hook
theorem ysFf_ok : ∀ e ∈ ysFf,cFun Tryz.prog (fun _=>true) e.1 = some e.2.er:=by
 intro e he
 simp only [ysFf,List.mem_cons,List.not_mem_nil,or_false] at he
 rcases he with rfl | rfl | rfl
 ·exact yDelF_ok
 ·exact yIdxF_ok
 ·exact yFits1_ok
def keepB (K : Ky) (c : Cl) : Bool:=mayP (keyP c.hd) K
theorem del_call (F n : Nat) (K : Ky) (c : Cl) (hc : OkCl c) (nx gK : Nat) (gs : Tr Grp) (ms : Tr MapA) (hK : gs.get gK = some ⟨0,0,keyC K⟩) (hn : gs.get nx = none) :
  icall ysFf lsFf F (n + 2) 65 [.agg (clC c),.ptr gK 0 0] ⟨nx,gs,ms⟩ = some (.bool (!keepB K c),⟨nx + 8,gs.set nx ⟨0,0,clC c⟩,ms⟩):=by
 refine icall_text rfl rfl rfl ?_
 have hne : (gK = nx) = False:=eq_false (fun e=>by rw [e,hn] at hK; cases hK)
 have k1 : ∀ nx gs ms,icall ysFf lsFf F (n + 1) 63 [.agg (tmC c.hd)] ⟨nx,gs,ms⟩ = some (.agg (keyC (keyP c.hd)),⟨nx,gs,ms⟩):=fun nx gs ms=>by
  rw [icall_hook (k:=pureF keyS) rfl]
  simp (maxSteps:=1000000) (disch:=omega) only [↓axP,axQ,↓if_true,↓if_false,ite_true,ite_false,reduceIte,ne_eq,eq_self,Nat.reduceAdd,Nat.reduceSub,Nat.reduceMul,Nat.reduceLeDiff,Nat.reduceEqDiff,Nat.reduceBEq,reduceCtorEq,Int.reduceToNat,Int.reduceLT,Int.reduceLE,Int.reduceEq,Int.reduceAdd,Int.reduceSub,Int.reduceNeg,capnY,appzY,tmC_len,tmC_0,tmC_1,tmC_2,tmC_3,tmC_take,tmC_drop,tmC_one,tmC_ne,keyS_eq hc.1.2]
 have k2 : ∀ nx gs ms,icall ysFf lsFf F (n + 1) 66 [.agg (keyC (keyP c.hd)),.agg (keyC K)] ⟨nx,gs,ms⟩ = some (.bool (mayP (keyP c.hd) K),⟨nx,gs,ms⟩):=fun nx gs ms=>by
  rw [icall_hook (k:=pureF mayS) rfl]
  have hm:=mayS_eq (keyP c.hd) K
  unfold keyC at hm ⊢
  simp (maxSteps:=1000000) (disch:=omega) only [↓axP,axQ,↓if_true,↓if_false,ite_true,ite_false,reduceIte,ne_eq,eq_self,Nat.reduceAdd,Nat.reduceSub,Nat.reduceMul,Nat.reduceLeDiff,Nat.reduceEqDiff,Nat.reduceBEq,reduceCtorEq,Int.reduceToNat,Int.reduceLT,Int.reduceLE,Int.reduceEq,Int.reduceAdd,Int.reduceSub,Int.reduceNeg,capnY,appzY,tmC_len,tmC_0,tmC_1,tmC_2,tmC_3,tmC_take,tmC_drop,tmC_one,tmC_ne,hm]
 unfold keyC at hK k1 k2
 unfold clC keepB
 simp (maxSteps:=1000000) (disch:=omega) only [yFits1,xinit_2,↓axP,axQ,↓if_true,↓if_false,ite_true,ite_false,reduceIte,ne_eq,eq_self,Nat.reduceAdd,Nat.reduceSub,Nat.reduceMul,Nat.reduceLeDiff,Nat.reduceEqDiff,Nat.reduceBEq,reduceCtorEq,Int.reduceToNat,Int.reduceLT,Int.reduceLE,Int.reduceEq,Int.reduceAdd,Int.reduceSub,Int.reduceNeg,capnY,appzY,tmC_len,tmC_0,tmC_1,tmC_2,tmC_3,tmC_take,tmC_drop,tmC_one,tmC_ne,hK,hn,hne,k1,k2,Nat.add_assoc]
structure FJ (gA gK e B : Nat) (cells : List AV) (K : Ky) (gs0 : Tr Grp) (ms0 : Tr MapA) (H : AH) : Prop where
 wf : H.wf
 nx : B ≤ H.next
 row : H.gs.get gA = some ⟨e,0,cells⟩
 key : H.gs.get gK = some ⟨0,0,keyC K⟩
 old : ∀ g,g < B → g ≠ gA → H.gs.get g = gs0.get g
 ms : H.ms = ms0
 lA : gA < B
 lK : gK < B
theorem row_at {l1 l2 : List Cl} {c : Cl} : (((l1 ++ c :: l2).map clC).flatten.drop (l1.length * 10)).take 10 = clC c:=by
 have hl : (l1.map clC).flatten.length = l1.length * 10:=by rw [flatten_len' (z:=10) (fun row hr=>by simp only [List.mem_map] at hr; obtain ⟨c,-,rfl⟩:=hr; exact clC_len c),List.length_map]
 rw [List.map_append,List.flatten_append,← hl,List.drop_left,List.map_cons,List.flatten_cons,← clC_len c,List.take_left]
theorem rows_len (l : List Cl) : (l.map clC).flatten.length = l.length * 10:=by rw [flatten_len' (z:=10) (fun row hr=>by simp only [List.mem_map] at hr; obtain ⟨c,-,rfl⟩:=hr; exact clC_len c),List.length_map]
theorem FJ.box {gA gK e B : Nat} {cells : List AV} {K : Ky} {gs0 : Tr Grp} {ms0 : Tr MapA} {nx k : Nat} {gs : Tr Grp} {ms : Tr MapA} (h : FJ gA gK e B cells K gs0 ms0 ⟨nx,gs,ms⟩) (x : Grp) (hk : 1 ≤ k) : FJ gA gK e B cells K gs0 ms0 ⟨nx + k,gs.set nx x,ms⟩:=by
 obtain ⟨h1,h2,h3,h4,h5,h6,h7,h8⟩:=h
 simp only at h2 h3 h4 h5 h6
 refine ⟨fun g hg=>?_,by show B ≤ nx + k; omega,?_,?_,fun g hg hn=>?_,h6,h7,h8⟩
 ·have : nx + k ≤ g:=hg
  show (gs.set nx _).get g = none
  rw [Tr.get_set_ne _ _ (by omega)]; exact h1 g (by show nx ≤ g; omega)
 ·show (gs.set nx _).get gA = _
  rw [Tr.get_set_ne _ _ (by omega)]; exact h3
 ·show (gs.set nx _).get gK = _
  rw [Tr.get_set_ne _ _ (by omega)]; exact h4
 ·show (gs.set nx _).get g = _
  rw [Tr.get_set_ne _ _ (by omega)]; exact h5 g hg hn
set_option maxHeartbeats 1000000 in
theorem idx_loop (F n : Nat) (K : Ky) (l : List Cl) (hl : l.length ≤ 1000000) (hok : ∀ c ∈ l,OkCl c) (gA gK e B : Nat) (gs0 : Tr Grp) (ms0 : Tr MapA) : ∀ (l2 l1 : List Cl) (H : AH) (F' : Nat),l = l1 ++ l2 → FJ gA gK e B (l.map clC).flatten K gs0 ms0 H → l2.length < F' →
  ∃ H',FJ gA gK e B (l.map clC).flatten K gs0 ms0 H' ∧ iter (ycode (icall ysFf lsFf F (n + 2)) F yIdxFa) F' (mk [(0,.slc gA e 0 l.length 10),(1,.fn (.func 65) [.ptr gK 0 0]),(7,.int .i64 l.length),(8,.int .i64 l1.length)]) H =
   if l2.all (keepB K) = true then some (.exit 0,mk [],H') else some (.ret,mk [(4,.int .i64 ((l1.length + (l2.takeWhile (keepB K)).length : Nat) : Int))],H'):=by
 intro l2
 induction l2 with
 | nil=>
  intro l1 H F' h1 h2 h4
  obtain ⟨k,rfl⟩:=iter_pos (f:=fun _ _=>none) (n:=F') (by omega)
  rw [List.append_nil] at h1
  subst h1
  have hlt : ((l.length : Int) < (l.length : Int)) = False:=by simp
  refine ⟨H,h2,?_⟩
  rw [iter_one]
  simp (maxSteps:=1000000) (disch:=omega) only [yIdxFa_r,yIdxFa_,↓axP,axQ,↓if_true,↓if_false,ite_true,ite_false,reduceIte,ne_eq,eq_self,Nat.reduceAdd,Nat.reduceSub,Nat.reduceMul,Nat.reduceLeDiff,Nat.reduceEqDiff,Nat.reduceBEq,reduceCtorEq,Int.reduceToNat,Int.reduceLT,Int.reduceLE,Int.reduceEq,Int.reduceAdd,Int.reduceSub,Int.reduceNeg,capnY,appzY,tmC_len,tmC_0,tmC_1,tmC_2,tmC_3,tmC_take,tmC_drop,tmC_one,tmC_ne,hlt]
 | cons c l2 ih=>
  intro l1 H F' h1 h2 h4
  obtain ⟨k,rfl⟩:=iter_pos (f:=fun _ _=>none) (n:=F') (by omega)
  obtain ⟨nx,gs,ms⟩:=H
  have hR : l1.length + 1 ≤ l.length:=by rw [h1]; simp
  have hlt : ((l1.length : Int) < (l.length : Int)) = True:=eq_true (by omega)
  have hi : (0 : Int) ≤ (l1.length : Int):=by omega
  have hw : IntKind.i64.wrap ((l1.length : Int) + 1) = (l1.length : Int) + 1:=by rw [wrap_i64] <;> omega
  have hrow : ((l.map clC).flatten.drop (l1.length * 10)).take 10 = clC c:=by rw [h1]; exact row_at
  have hbd : l1.length * 10 + 10 ≤ (l.map clC).flatten.length:=by rw [rows_len]; omega
  have hrA:=h2.row
  have hrK:=h2.key
  simp only at hrA hrK
  have hdel:=del_call F n K c (hok c (by rw [h1]; simp)) nx gK gs ms hrK (wf_mk h2.wf)
  cases hk : keepB K c with
  | true=>
   rw [hk] at hdel
   obtain ⟨H',k1,k2⟩:=ih (l1 ++ [c]) ⟨nx + 8,gs.set nx ⟨0,0,clC c⟩,ms⟩ k (by simp [h1]) (h2.box _ (by omega)) (by simp at h4; omega)
   have hs : (l1 ++ [c]).length = l1.length + 1:=by simp
   rw [hs] at k2
   refine ⟨H',k1,?_⟩
   rw [List.all_cons,hk,List.takeWhile_cons_of_pos hk,List.length_cons,show l1.length + ((l2.takeWhile (keepB K)).length + 1) = l1.length + 1 + (l2.takeWhile (keepB K)).length by omega,Bool.true_and,← k2,iter_one]
   have hj : (0 : Int) ≤ (l1.length : Int) ∧ (l1.length : Int) < (l.length : Int):=⟨hi,by omega⟩
   simp (maxSteps:=1000000) (disch:=omega) only [yIdxFa_r,yIdxFa_,↓axP,axQ,↓if_true,↓if_false,ite_true,ite_false,reduceIte,ne_eq,eq_self,Nat.reduceAdd,Nat.reduceSub,Nat.reduceMul,Nat.reduceLeDiff,Nat.reduceEqDiff,Nat.reduceBEq,reduceCtorEq,Int.reduceToNat,Int.reduceLT,Int.reduceLE,Int.reduceEq,Int.reduceAdd,Int.reduceSub,Int.reduceNeg,capnY,appzY,tmC_len,tmC_0,tmC_1,tmC_2,tmC_3,tmC_take,tmC_drop,tmC_one,tmC_ne,hlt,hi,hw,hrA,hrow,hbd,hdel,Int.toNat_natCast]
  | false=>
   rw [hk] at hdel
   refine ⟨⟨nx + 8,gs.set nx ⟨0,0,clC c⟩,ms⟩,h2.box _ (by omega),?_⟩
   rw [List.all_cons,hk,List.takeWhile_cons_of_neg (by simp [hk]),iter_one]
   simp (maxSteps:=1000000) (disch:=omega) only [yIdxFa_r,yIdxFa_,↓axP,axQ,↓if_true,↓if_false,ite_true,ite_false,reduceIte,ne_eq,eq_self,Nat.reduceAdd,Nat.reduceSub,Nat.reduceMul,Nat.reduceLeDiff,Nat.reduceEqDiff,Nat.reduceBEq,reduceCtorEq,Int.reduceToNat,Int.reduceLT,Int.reduceLE,Int.reduceEq,Int.reduceAdd,Int.reduceSub,Int.reduceNeg,capnY,appzY,tmC_len,tmC_0,tmC_1,tmC_2,tmC_3,tmC_take,tmC_drop,tmC_one,tmC_ne,hlt,hi,hw,hrA,hrow,hbd,hdel,Int.toNat_natCast]
end Go.Proofs.YtdekdghldblfaaaGreatDoor
namespace Go.Proofs.YtdekdghldblfaaaGreatDoor
open Go Go.Abs Go.RowKit
set_option linter.unusedVariables false
set_option linter.unusedSimpArgs false
attribute [local congr] on_congr br_congr onf_congr
theorem idx_call (F n : Nat) (K : Ky) (l : List Cl) (hF : l.length < F) (hl : l.length ≤ 1000000) (hok : ∀ c ∈ l,OkCl c) (gA gK e B : Nat) (gs0 : Tr Grp) (ms0 : Tr MapA) (H : AH) (h : FJ gA gK e B (l.map clC).flatten K gs0 ms0 H) :
  ∃ H',FJ gA gK e B (l.map clC).flatten K gs0 ms0 H' ∧ icall ysFf lsFf F (n + 3) 55 [.slc gA e 0 l.length 10,.fn (.func 65) [.ptr gK 0 0]] H = some (.int .i64 (if l.all (keepB K) = true then -1 else (((l.takeWhile (keepB K)).length : Nat) : Int)),H'):=by
 obtain ⟨H',k1,k2⟩:=idx_loop F n K l hl hok gA gK e B gs0 ms0 l [] H F rfl h hF
 refine ⟨H',k1,icall_text rfl rfl rfl ?_⟩
 obtain ⟨nx,gs,ms⟩:=H
 simp (maxSteps:=1000000) (disch:=omega) only [↓axP,axQ,↓if_true,↓if_false,ite_true,ite_false,reduceIte,ne_eq,eq_self,Nat.reduceAdd,Nat.reduceSub,Nat.reduceMul,Nat.reduceLeDiff,Nat.reduceEqDiff,Nat.reduceBEq,reduceCtorEq,Int.reduceToNat,Int.reduceLT,Int.reduceLE,Int.reduceEq,Int.reduceAdd,Int.reduceSub,Int.reduceNeg,capnY,appzY] at k2
 cases ha : l.all (keepB K) with
 | true=>
  rw [ha] at k2
  simp (maxSteps:=1000000) (disch:=omega) only [↓axP,axQ,↓if_true,↓if_false,ite_true,ite_false,reduceIte,ne_eq,eq_self,Nat.reduceAdd,Nat.reduceSub,Nat.reduceMul,Nat.reduceLeDiff,Nat.reduceEqDiff,Nat.reduceBEq,reduceCtorEq,Int.reduceToNat,Int.reduceLT,Int.reduceLE,Int.reduceEq,Int.reduceAdd,Int.reduceSub,Int.reduceNeg,capnY,appzY] at k2
  simp (maxSteps:=1000000) (disch:=omega) only [yIdxF,xinit_2,↓axP,axQ,↓if_true,↓if_false,ite_true,ite_false,reduceIte,ne_eq,eq_self,Nat.reduceAdd,Nat.reduceSub,Nat.reduceMul,Nat.reduceLeDiff,Nat.reduceEqDiff,Nat.reduceBEq,reduceCtorEq,Int.reduceToNat,Int.reduceLT,Int.reduceLE,Int.reduceEq,Int.reduceAdd,Int.reduceSub,Int.reduceNeg,capnY,appzY,tmC_len,tmC_0,tmC_1,tmC_2,tmC_3,tmC_take,tmC_drop,tmC_one,tmC_ne,k2]
 | false=>
  rw [ha] at k2
  simp only [Bool.false_eq_true,if_false] at k2 ⊢
  simp (maxSteps:=1000000) (disch:=omega) only [yIdxF,xinit_2,↓axP,axQ,↓if_true,↓if_false,ite_true,ite_false,reduceIte,ne_eq,eq_self,Nat.reduceAdd,Nat.reduceSub,Nat.reduceMul,Nat.reduceLeDiff,Nat.reduceEqDiff,Nat.reduceBEq,reduceCtorEq,Int.reduceToNat,Int.reduceLT,Int.reduceLE,Int.reduceEq,Int.reduceAdd,Int.reduceSub,Int.reduceNeg,capnY,appzY,tmC_len,tmC_0,tmC_1,tmC_2,tmC_3,tmC_take,tmC_drop,tmC_one,tmC_ne,k2]
theorem clC_one (c : Cl) : (clC c).all AV.one = true:=by
 rw [List.all_eq_true]
 intro x hx
 simp only [clC,List.mem_cons,List.mem_append] at hx
 rcases hx with rfl | rfl | hx | hx
 ·rfl
 ·rfl
 ·exact List.all_eq_true.1 (tmC_one c.hd) x hx
 ·exact List.all_eq_true.1 (tmC_one c.bd) x hx
theorem clC_take (c : Cl) : (clC c).take 10 = clC c:=by rw [← clC_len c,List.take_length]
theorem clC_drop (c : Cl) : (clC c).drop 10 = []:=by rw [← clC_len c,List.drop_length]
structure DJ (K : Ky) (l : List Cl) (i j : Nat) (C : List AV) : Prop where
 len : C.length = l.length * 10
 pre : C.take (i * 10) = (((l.take j).filter (keepB K)).map clC).flatten
 num : i = ((l.take j).filter (keepB K)).length
 lt : i < j
 rest : ∀ j',j ≤ j' → ∀ c,l[j']? = some c → (C.drop (j' * 10)).take 10 = clC c
set_option maxHeartbeats 1000000 in
theorem del_loop (F n : Nat) (K : Ky) (l : List Cl) (hl : l.length ≤ 1000000) (hok : ∀ c ∈ l,OkCl c) (gA gK B : Nat) (gs0 : Tr Grp) (ms0 : Tr MapA) (hAK : gA ≠ gK) : ∀ (m i j : Nat) (C : List AV) (H : AH) (F' : Nat),j + m = l.length → DJ K l i j C → FJ gA gK 0 B C K gs0 ms0 H → m < F' →
  ∃ i' C' H',DJ K l i' l.length C' ∧ FJ gA gK 0 B C' K gs0 ms0 H' ∧ iter (ycode (icall ysFf lsFf F (n + 2)) F yDelFa) F' (mk [(0,.slc gA 0 0 l.length 10),(1,.fn (.func 65) [.ptr gK 0 0]),(5,.int .i64 i),(6,.int .i64 j)]) H = some (.exit 0,mk [(0,.slc gA 0 0 l.length 10),(5,.int .i64 i')],H'):=by
 intro m
 induction m with
 | zero=>
  intro i j C H F' h1 h2 h3 h4
  obtain ⟨k,rfl⟩:=iter_pos (f:=fun _ _=>none) (n:=F') (by omega)
  have hj : j = l.length:=by omega
  subst hj
  have hlt : ((l.length : Int) < (l.length : Int)) = False:=by simp
  refine ⟨i,C,H,h2,h3,?_⟩
  rw [iter_one]
  simp (maxSteps:=1000000) (disch:=omega) only [yDelFa_r,yDelFa_,↓axP,axQ,↓if_true,↓if_false,ite_true,ite_false,reduceIte,ne_eq,eq_self,Nat.reduceAdd,Nat.reduceSub,Nat.reduceMul,Nat.reduceLeDiff,Nat.reduceEqDiff,Nat.reduceBEq,reduceCtorEq,Int.reduceToNat,Int.reduceLT,Int.reduceLE,Int.reduceEq,Int.reduceAdd,Int.reduceSub,Int.reduceNeg,capnY,appzY,tmC_len,tmC_0,tmC_1,tmC_2,tmC_3,tmC_take,tmC_drop,tmC_one,tmC_ne,hlt]
 | succ m ih=>
  intro i j C H F' h1 h2 h3 h4
  obtain ⟨k,rfl⟩:=iter_pos (f:=fun _ _=>none) (n:=F') (by omega)
  obtain ⟨nx,gs,ms⟩:=H
  have hjl : j < l.length:=by omega
  obtain ⟨c,hc⟩ : ∃ c,l[j]? = some c:=⟨_,List.getElem?_eq_getElem hjl⟩
  have hlt : ((j : Int) < (l.length : Int)) = True:=eq_true (by omega)
  have hi0 : (0 : Int) ≤ (j : Int):=by omega
  have hi1 : (0 : Int) ≤ (i : Int):=by omega
  have hil : (i : Int) < (l.length : Int):=by have:=h2.lt; omega
  have hwj : IntKind.i64.wrap ((j : Int) + 1) = (j : Int) + 1:=by rw [wrap_i64] <;> omega
  have hwi : IntKind.i64.wrap ((i : Int) + 1) = (i : Int) + 1:=by rw [wrap_i64] <;> omega
  have hrow:=h2.rest j (Nat.le_refl _) c hc
  have hbd : j * 10 + 10 ≤ C.length:=by rw [h2.len]; omega
  have hbi : i * 10 + 10 ≤ C.length:=by have:=h2.lt; rw [h2.len]; omega
  have hrA:=h3.row
  have hrK:=h3.key
  simp only at hrA hrK
  have hA:=h3.lA
  have hnx:=h3.nx
  simp only at hnx
  have hcm : c ∈ l:=List.mem_of_getElem? hc
  have e0:=wf_mk h3.wf
  have e1 : gs.get (nx + 1) = none:=h3.wf (nx + 1) (Nat.le_succ nx)
  have hKn : (gs.set nx ⟨0,0,clC c⟩).get gK = some ⟨0,0,keyC K⟩:=by rw [Tr.get_set_ne _ _ (by have:=h3.lK; omega)]; exact hrK
  have hdel:=del_call F n K c (hok c hcm) (nx + 1) gK (gs.set nx ⟨0,0,clC c⟩) ms hKn (by rw [Tr.get_set_ne _ _ (by omega)]; exact e1)
  have q1 : (gA = nx) = False:=eq_false (by omega)
  have q2 : (gA = nx + 1) = False:=eq_false (by omega)
  have q3 : (nx = nx + 1) = False:=by simp
  have htk : l.take (j + 1) = l.take j ++ [c]:=by
   rw [List.take_succ_eq_append_getElem hjl]
   rw [List.getElem?_eq_getElem hjl] at hc
   cases hc; rfl
  have h3' : FJ gA gK 0 B C K gs0 ms0 ⟨nx + 9,(gs.set nx ⟨0,0,clC c⟩).set (nx + 1) ⟨0,0,clC c⟩,ms⟩:=by
   have a:=h3.box (k:=1) ⟨0,0,clC c⟩ (by omega)
   exact a.box (k:=8) ⟨0,0,clC c⟩ (by omega)
  cases hk : keepB K c with
  | true=>
   rw [hk] at hdel
   have hC' : (C.take (i * 10) ++ clC c ++ C.drop (i * 10 + 10)).length = l.length * 10:=by
    rw [List.length_append,List.length_append,List.length_take,List.length_drop,clC_len,h2.len]
    have:=h2.lt; omega
   have hDJ : DJ K l (i + 1) (j + 1) (C.take (i * 10) ++ clC c ++ C.drop (i * 10 + 10)):=by
    have hi10 : (C.take (i * 10)).length = i * 10:=by rw [List.length_take]; omega
    refine ⟨hC',?_,?_,by have:=h2.lt; omega,fun j' hj' d hd=>?_⟩
    ·rw [htk,List.filter_append,List.filter_cons_of_pos hk,List.filter_nil,List.map_append,List.flatten_append,← h2.pre]
     simp only [List.map_cons,List.map_nil,List.flatten_cons,List.flatten_nil,List.append_nil]
     rw [show (i + 1) * 10 = (C.take (i * 10) ++ clC c).length by rw [List.length_append,hi10,clC_len]; omega,List.take_left]
    ·rw [htk,List.filter_append,List.filter_cons_of_pos hk,List.filter_nil,List.length_append,← h2.num]; rfl
    ·rw [← h2.rest j' (by omega) d hd]
     congr 1
     have hlt2:=h2.lt
     rw [List.drop_append,List.length_append,hi10,clC_len,List.drop_drop,List.drop_eq_nil_of_le (by rw [List.length_append,hi10,clC_len]; omega),List.nil_append]
     congr 1; omega
   have hFJ : FJ gA gK 0 B (C.take (i * 10) ++ clC c ++ C.drop (i * 10 + 10)) K gs0 ms0 ⟨nx + 9,((gs.set nx ⟨0,0,clC c⟩).set (nx + 1) ⟨0,0,clC c⟩).set gA ⟨0,0,C.take (i * 10) ++ clC c ++ C.drop (i * 10 + 10)⟩,ms⟩:=by
    obtain ⟨f1,f2,f3,f4,f5,f6,f7,f8⟩:=h3'
    simp only at f1 f2 f3 f4 f5 f6
    refine ⟨wf_set' f1 (by show gA < nx + 9; omega) _,f2,Tr.get_set_same _ _ _,?_,fun g hg hn=>?_,f6,f7,f8⟩
    ·show (Tr.set _ gA _).get gK = _
     rw [Tr.get_set_ne _ _ (Ne.symm hAK)]; exact f4
    ·show (Tr.set _ gA _).get g = _
     rw [Tr.get_set_ne _ _ hn]; exact f5 g hg hn
   obtain ⟨i',C',H',k1,k2,k3⟩:=ih (i + 1) (j + 1) _ _ k (by omega) hDJ hFJ (by omega)
   refine ⟨i',C',H',k1,k2,?_⟩
   rw [iter_one]
   simp only [Int.natCast_add,Int.natCast_one] at k3
   have h10:=clC_len c
   simp (maxSteps:=1000000) (disch:=omega) only [yDelFa_r,yDelFa_,↓axP,axQ,↓if_true,↓if_false,ite_true,ite_false,reduceIte,ne_eq,eq_self,Nat.reduceAdd,Nat.reduceSub,Nat.reduceMul,Nat.reduceLeDiff,Nat.reduceEqDiff,Nat.reduceBEq,reduceCtorEq,Int.reduceToNat,Int.reduceLT,Int.reduceLE,Int.reduceEq,Int.reduceAdd,Int.reduceSub,Int.reduceNeg,capnY,appzY,tmC_len,tmC_0,tmC_1,tmC_2,tmC_3,tmC_take,tmC_drop,tmC_one,tmC_ne,hlt,hi0,hi1,hil,hwj,hwi,hrA,hrow,hbd,hbi,hdel,e0,e1,q1,q2,q3,h10,clC_one,clC_take,clC_drop,Int.toNat_natCast,k3,Nat.add_assoc]
  | false=>
   rw [hk] at hdel
   have hDJ : DJ K l i (j + 1) C:=by
    refine ⟨h2.len,?_,?_,by have:=h2.lt; omega,fun j' hj'=>h2.rest j' (by omega)⟩
    ·rw [htk,List.filter_append,List.filter_cons_of_neg (by simp [hk]),List.filter_nil,List.append_nil]; exact h2.pre
    ·rw [htk,List.filter_append,List.filter_cons_of_neg (by simp [hk]),List.filter_nil,List.append_nil]; exact h2.num
   obtain ⟨i',C',H',k1,k2,k3⟩:=ih i (j + 1) C _ k (by omega) hDJ h3' (by omega)
   refine ⟨i',C',H',k1,k2,?_⟩
   rw [iter_one]
   simp only [Int.natCast_add,Int.natCast_one] at k3
   simp (maxSteps:=1000000) (disch:=omega) only [yDelFa_r,yDelFa_,↓axP,axQ,↓if_true,↓if_false,ite_true,ite_false,reduceIte,ne_eq,eq_self,Nat.reduceAdd,Nat.reduceSub,Nat.reduceMul,Nat.reduceLeDiff,Nat.reduceEqDiff,Nat.reduceBEq,reduceCtorEq,Int.reduceToNat,Int.reduceLT,Int.reduceLE,Int.reduceEq,Int.reduceAdd,Int.reduceSub,Int.reduceNeg,capnY,appzY,tmC_len,tmC_0,tmC_1,tmC_2,tmC_3,tmC_take,tmC_drop,tmC_one,tmC_ne,hlt,hi0,hi1,hil,hwj,hwi,hrA,hrow,hbd,hbi,hdel,e0,e1,q1,q2,q3,clC_len,clC_one,clC_take,clC_drop,Int.toNat_natCast,k3,Nat.add_assoc]
end Go.Proofs.YtdekdghldblfaaaGreatDoor
namespace Go.Proofs.YtdekdghldblfaaaGreatDoor
open Go Go.Abs Go.RowKit
set_option linter.unusedVariables false
set_option linter.unusedSimpArgs false
attribute [local congr] on_congr br_congr onf_congr
attribute [local congr] Comes_congr
theorem take_first {α : Type} {p : α → Bool} : ∀ {l : List α},l.all p = false → (l.takeWhile p).length < l.length ∧ (l.take ((l.takeWhile p).length + 1)).filter p = l.takeWhile p
 | [],h=>by simp at h
 | x :: l,h=>by
  cases hp : p x with
  | true=>
   rw [List.all_cons,hp,Bool.true_and] at h
   obtain ⟨h1,h2⟩:=take_first h
   rw [List.takeWhile_cons_of_pos hp]
   refine ⟨by simp; exact h1,?_⟩
   rw [List.length_cons,List.take_succ_cons,List.filter_cons_of_pos hp,h2]
  | false=>
   rw [List.takeWhile_cons_of_neg (by simp [hp])]
   exact ⟨by simp,by simp [hp]⟩
theorem first_dj (K : Ky) (l : List Cl) (h : l.all (keepB K) = false) : DJ K l (l.takeWhile (keepB K)).length ((l.takeWhile (keepB K)).length + 1) (l.map clC).flatten:=by
 obtain ⟨h1,h2⟩:=take_first h
 refine ⟨rows_len l,?_,by rw [h2],Nat.lt_succ_self _,fun j' hj' c hc=>?_⟩
 ·rw [h2]
  have hl:=rows_len (l.takeWhile (keepB K))
  have e : l = l.takeWhile (keepB K) ++ l.dropWhile (keepB K):=(List.takeWhile_append_dropWhile ..).symm
  have e2 : (l.map clC).flatten = ((l.takeWhile (keepB K)).map clC).flatten ++ ((l.dropWhile (keepB K)).map clC).flatten:=by
   rw [← List.flatten_append,← List.map_append,← e]
  rw [e2,← hl,List.take_left]
 ·obtain ⟨hlt,he⟩:=List.getElem?_eq_some_iff.1 hc
  have : l = l.take j' ++ c :: l.drop (j' + 1):=by
   rw [← he,List.getElem_cons_drop,List.take_append_drop]
  have hr:=row_at (l1:=l.take j') (l2:=l.drop (j' + 1)) (c:=c)
  rw [← this,List.length_take,Nat.min_eq_left (by omega)] at hr
  exact hr
set_option maxHeartbeats 1000000 in
theorem delf_call (F n : Nat) (K : Ky) (l : List Cl) (hF : l.length < F) (hl : l.length ≤ 1000000) (hok : ∀ c ∈ l,OkCl c) (gA gK B : Nat) (gs0 : Tr Grp) (ms0 : Tr MapA) (hAK : gA ≠ gK) (H : AH) (h : FJ gA gK 0 B (l.map clC).flatten K gs0 ms0 H) :
  ∃ C H',FJ gA gK 0 B C K gs0 ms0 H' ∧ C.length = l.length * 10 ∧ C.take ((l.filter (keepB K)).length * 10) = ((l.filter (keepB K)).map clC).flatten ∧ icall ysFf lsFf F (n + 4) 64 [.slc gA 0 0 l.length 10,.fn (.func 65) [.ptr gK 0 0]] H = some (.slc gA 0 0 (l.filter (keepB K)).length 10,H'):=by
 obtain ⟨H1,k1,k2⟩:=idx_call F n K l hF hl hok gA gK 0 B gs0 ms0 H h
 cases ha : l.all (keepB K) with
 | true=>
  have hf : l.filter (keepB K) = l:=List.filter_eq_self.2 (fun x hx=>List.all_eq_true.1 ha x hx)
  rw [hf]
  refine ⟨_,H1,k1,rows_len l,by rw [← rows_len l,List.take_length],icall_text rfl rfl rfl ?_⟩
  rw [ha] at k2
  simp only [if_true] at k2
  obtain ⟨nx,gs,ms⟩:=H
  obtain ⟨nx1,gs1,ms1⟩:=H1
  simp (maxSteps:=1000000) (disch:=omega) only [yDelF,xinit_2,↓axP,axQ,↓if_true,↓if_false,ite_true,ite_false,reduceIte,ne_eq,eq_self,Nat.reduceAdd,Nat.reduceSub,Nat.reduceMul,Nat.reduceLeDiff,Nat.reduceEqDiff,Nat.reduceBEq,reduceCtorEq,Int.reduceToNat,Int.reduceLT,Int.reduceLE,Int.reduceEq,Int.reduceAdd,Int.reduceSub,Int.reduceNeg,capnY,appzY,tmC_len,tmC_0,tmC_1,tmC_2,tmC_3,tmC_take,tmC_drop,tmC_one,tmC_ne,k2]
 | false=>
  rw [ha] at k2
  simp only [Bool.false_eq_true,if_false] at k2
  obtain ⟨i',C',H2,d1,d2,d3⟩:=del_loop F (n + 1) K l hl hok gA gK B gs0 ms0 hAK (l.length - ((l.takeWhile (keepB K)).length + 1)) _ _ _ H1 F (by have:=(take_first ha).1; omega) (first_dj K l ha) k1 (by omega)
  have hnum:=d1.num
  rw [List.take_length] at hnum
  have hpre:=d1.pre
  rw [List.take_length] at hpre
  have hlt:=d1.lt
  obtain ⟨nx,gs,ms⟩:=H
  obtain ⟨nx1,gs1,ms1⟩:=H1
  obtain ⟨nx2,gs2,ms2⟩:=H2
  let Z : List AV:=(List.replicate (l.length - i') [AV.int .i64 0,.int .u64 0,.int .i64 0,.int .i64 0,.str [],.nils,.int .i64 0,.int .i64 0,.str [],.nils]).flatten
  have hZ : Z.length = (l.length - i') * 10:=by
   show (List.replicate _ _).flatten.length = _
   rw [flat_rep_len]; rfl
  have hC10 : (C'.take (i' * 10)).length = i' * 10:=by rw [List.length_take,d1.len]; omega
  have hrA:=d2.row
  simp only at hrA
  have hclr : mop (.clr 10 [AV.int .i64 0,.int .u64 0,.int .i64 0,.int .i64 0,.str [],.nils,.int .i64 0,.int .i64 0,.str [],.nils]) [.slc gA 0 (i' * 10) (l.length - i') 10] ⟨nx2,gs2,ms2⟩ = some (.tup [],⟨nx2,gs2.set gA ⟨0,0,C'.take (i' * 10) ++ Z ++ C'.drop (i' * 10 + Z.length)⟩,ms2⟩):=by
   show clrY 10 _ ⟨nx2,gs2,ms2⟩ (.slc gA 0 (i' * 10) (l.length - i') 10) = _
   unfold clrY
   simp only
   rw [if_neg (by omega),hrA]
   simp only
   rw [if_pos ⟨trivial,trivial,Nat.zero_le _,by rw [d1.len]; omega⟩]
  have hFJ : FJ gA gK 0 B (C'.take (i' * 10) ++ Z ++ C'.drop (i' * 10 + Z.length)) K gs0 ms0 ⟨nx2,gs2.set gA ⟨0,0,C'.take (i' * 10) ++ Z ++ C'.drop (i' * 10 + Z.length)⟩,ms2⟩:=by
   obtain ⟨f1,f2,f3,f4,f5,f6,f7,f8⟩:=d2
   simp only at f1 f2 f3 f4 f5 f6
   refine ⟨wf_set' f1 (by show gA < nx2; omega) _,f2,Tr.get_set_same _ _ _,?_,fun g hg hn=>?_,f6,f7,f8⟩
   ·show (Tr.set _ gA _).get gK = _
    rw [Tr.get_set_ne _ _ (Ne.symm hAK)]; exact f4
   ·show (Tr.set _ gA _).get g = _
    rw [Tr.get_set_ne _ _ hn]; exact f5 g hg hn
  refine ⟨_,_,hFJ,?_,?_,icall_text rfl rfl rfl ?_⟩
  ·rw [List.length_append,List.length_append,hC10,hZ,List.length_drop,d1.len]; omega
  ·rw [← hnum,List.append_assoc,List.take_append_of_le_length (by rw [hC10]; exact Nat.le_refl _),List.take_take,Nat.min_self]; exact hpre
  ·have hne : ((((l.takeWhile (keepB K)).length : Nat) : Int) = -1) = False:=eq_false (by omega)
   have hw : IntKind.i64.wrap ((((l.takeWhile (keepB K)).length : Nat) : Int) + 1) = (((l.takeWhile (keepB K)).length : Nat) : Int) + 1:=by have:=(take_first ha).1; rw [wrap_i64] <;> omega
   have hi0 : (0 : Int) ≤ (i' : Int):=by omega
   have hle : i' ≤ l.length:=by omega
   have hltn : i' < l.length:=hlt
   have hor : (i' = 0 ∨ i' < l.length) = True:=eq_true (.inr hlt)
   rw [← hnum]
   simp only [Int.natCast_add,Int.natCast_one] at d3
   simp (maxSteps:=1000000) (disch:=omega) only [yDelF,xinit_2,↓axP,axQ,↓if_true,↓if_false,ite_true,ite_false,reduceIte,ne_eq,eq_self,Nat.reduceAdd,Nat.reduceSub,Nat.reduceMul,Nat.reduceLeDiff,Nat.reduceEqDiff,Nat.reduceBEq,reduceCtorEq,Int.reduceToNat,Int.reduceLT,Int.reduceLE,Int.reduceEq,Int.reduceAdd,Int.reduceSub,Int.reduceNeg,capnY,appzY,tmC_len,tmC_0,tmC_1,tmC_2,tmC_3,tmC_take,tmC_drop,tmC_one,tmC_ne,k2,hne,hw,d3,hi0,hle,hor,Int.toNat_natCast,hclr,true_or,Nat.sub_zero]
end Go.Proofs.YtdekdghldblfaaaGreatDoor
namespace Go.Proofs.YtdekdghldblfaaaGreatDoor
open Go Go.Abs Go.RowKit
set_option linter.unusedVariables false
set_option linter.unusedSimpArgs false
attribute [local congr] on_congr br_congr onf_congr
attribute [local congr] Comes_congr
theorem delf_nil (F n gK : Nat) (hF : 0 < F) (H : AH) : icall ysFf lsFf F (n + 4) 64 [.vals 10 [],.fn (.func 65) [.ptr gK 0 0]] H = some (.vals 10 [],H):=by
 refine icall_text rfl rfl rfl ?_
 have hi : ∀ nx gs ms,icall ysFf lsFf F (n + 3) 55 [.vals 10 [],.fn (.func 65) [.ptr gK 0 0]] ⟨nx,gs,ms⟩ = some (.int .i64 (-1),⟨nx,gs,ms⟩):=fun nx gs ms=>by
  refine icall_text rfl rfl rfl ?_
  obtain ⟨k,rfl⟩:=iter_pos (f:=fun _ _=>none) (n:=F) (by omega)
  simp (maxSteps:=1000000) (disch:=omega) only [yIdxF,xinit_2,↓axP,axQ,↓if_true,↓if_false,ite_true,ite_false,reduceIte,ne_eq,eq_self,Nat.reduceAdd,Nat.reduceSub,Nat.reduceMul,Nat.reduceLeDiff,Nat.reduceEqDiff,Nat.reduceBEq,reduceCtorEq,Int.reduceToNat,Int.reduceLT,Int.reduceLE,Int.reduceEq,Int.reduceAdd,Int.reduceSub,Int.reduceNeg,capnY,appzY,tmC_len,tmC_0,tmC_1,tmC_2,tmC_3,tmC_take,tmC_drop,tmC_one,tmC_ne,iter_one,yIdxFa_r,yIdxFa_,List.length_nil]
 obtain ⟨nx,gs,ms⟩:=H
 simp (maxSteps:=1000000) (disch:=omega) only [yDelF,xinit_2,↓axP,axQ,↓if_true,↓if_false,ite_true,ite_false,reduceIte,ne_eq,eq_self,Nat.reduceAdd,Nat.reduceSub,Nat.reduceMul,Nat.reduceLeDiff,Nat.reduceEqDiff,Nat.reduceBEq,reduceCtorEq,Int.reduceToNat,Int.reduceLT,Int.reduceLE,Int.reduceEq,Int.reduceAdd,Int.reduceSub,Int.reduceNeg,capnY,appzY,tmC_len,tmC_0,tmC_1,tmC_2,tmC_3,tmC_take,tmC_drop,tmC_one,tmC_ne,hi]
def fitF (s : St) (goal : Tm) (cl : Int) : List Cl:=(viewF s goal.name goal.args.length cl).filter (keepB (keyP goal))
def fitsQ (args : List AV) (H : AH) (y : AV) : Prop:=∃ g s goal cl,args = [.ptr g 0 0,.agg (tmC goal),.int .u64 cl] ∧ StAt H g s ∧ OkSt s ∧ Fine 1000 goal ∧ goal.kind = 2 ∧ y = clsA (fitF s goal cl)
theorem fitsQ_one (a : List AV) (H : AH) (y y2 : AV) (h : fitsQ a H y) (k : fitsQ a H y2) : y = y2:=by
 obtain ⟨g,s,t,l,rfl,h1,h2,-,-,rfl⟩:=h
 obtain ⟨g',s',t',l',e,k1,k2,-,-,rfl⟩:=k
 simp only [List.cons.injEq,AV.ptr.injEq,AV.int.injEq,true_and,and_true] at e
 obtain ⟨rfl,e2,rfl⟩:=e
 have e2 : tmA t = tmA t':=e2
 cases tmA_inj e2
 cases h1.inj k1
 rfl
theorem take_get {α : Type} {l m : List α} {n j : Nat} {x y : α} (h : l.take n = m) (hx : l[j]? = some x) (hy : m[j]? = some y) : x = y:=by
 subst h
 rw [List.getElem?_take] at hy
 split at hy
 ·rw [hx] at hy; cases hy; rfl
 ·cases hy
set_option maxHeartbeats 1000000 in
theorem fits_one : HookOne Tryz.prog 27 (relH (readR fitsQ)):=by
 refine HookOne.ofReadR (by decide +kernel) fitsQ_one (fun args H y h=>?_) fun args H y X H2 h he ha=>?_
 ·obtain ⟨g,s,t,cl,rfl,h1,hok,hf,hk2,rfl⟩:=h
  have hvl:=view_len hok t.name t.args.length cl
  have hvo : ∀ c ∈ viewF s t.name t.args.length cl,OkCl c:=fun c hc=>(hok.cls t.name t.args.length).2 c (List.mem_filter.1 hc).1
  have hic:=icall_ok (P:=Tryz.prog) mixed (fun f=>draws f rfl) ysFf_ok lsFf_ok ((viewF s t.name t.args.length cl).length + 1) 5
  refine ACalls.onCall hic.1 hic.2 mixed (draws _ rfl) yFits_ok rfl ((viewF s t.name t.args.length cl).length + 1) fun N hN hcl=>?_
  obtain ⟨nx0,gs,ms⟩:=H
  simp only at hN
  have e0:=(hN N (Nat.le_refl _)).1
  have e1:=(hN (N + 1) (by omega)).1
  have e2:=(hN (N + 2) (by omega)).1
  have q1 : (N + 1 = N) = False:=by simp
  have lt : ∀ g r,gs.get g = some r → g < N:=fun g r h=>by
   rcases Nat.lt_or_ge g N with q | q
   ·exact q
   ·rw [(hN g q).1] at h; cases h
  have hgN:=lt g _ h1.cell
  have kk : ∀ nx gs ms,icall ysFf lsFf ((viewF s t.name t.args.length cl).length + 1) 5 63 [.agg (tmC t)] ⟨nx,gs,ms⟩ = some (.agg (keyC (keyP t)),⟨nx,gs,ms⟩):=fun nx gs ms=>by
   rw [icall_hook (k:=pureF keyS) rfl]
   simp (maxSteps:=1000000) (disch:=omega) only [↓axP,axQ,↓if_true,↓if_false,ite_true,ite_false,reduceIte,ne_eq,eq_self,Nat.reduceAdd,Nat.reduceSub,Nat.reduceMul,Nat.reduceLeDiff,Nat.reduceEqDiff,Nat.reduceBEq,reduceCtorEq,Int.reduceToNat,Int.reduceLT,Int.reduceLE,Int.reduceEq,Int.reduceAdd,Int.reduceSub,Int.reduceNeg,capnY,appzY,tmC_len,tmC_0,tmC_1,tmC_2,tmC_3,tmC_take,tmC_drop,tmC_one,tmC_ne,keyS_eq hf]
  let gs2:=(gs.set N ⟨0,0,tmC t⟩).set (N + 1) ⟨0,0,keyC (keyP t)⟩
  have g2o : ∀ g,g < N → gs2.get g = gs.get g:=fun g h=>by
   show ((gs.set N _).set (N + 1) _).get g = _
   rw [Tr.get_set_ne _ _ (by omega),Tr.get_set_ne _ _ (by omega)]
  have g2n : ∀ g,N + 2 ≤ g → gs2.get g = none:=fun g h=>by
   show ((gs.set N _).set (N + 1) _).get g = none
   rw [Tr.get_set_ne _ _ (by omega),Tr.get_set_ne _ _ (by omega)]; exact (hN g (by omega)).1
  have g2k : gs2.get (N + 1) = some ⟨0,0,keyC (keyP t)⟩:=Tr.get_set_same _ _ _
  have g2N : gs2.get N = some ⟨0,0,tmC t⟩:=by
   show ((gs.set N _).set (N + 1) _).get N = _
   rw [Tr.get_set_ne _ _ (by omega),Tr.get_set_same]
  have hv : icall ysFf lsFf ((viewF s t.name t.args.length cl).length + 1) 5 26 [.ptr g 0 0,.str t.name,.int .i64 t.args.length,.int .u64 cl] ⟨N + 2,gs2,ms⟩ = some (if viewF s t.name t.args.length cl = [] then .vals 10 [] else .slc (N + 2) 0 0 (viewF s t.name t.args.length cl).length 10,if viewF s t.name t.args.length cl = [] then ⟨N + 2,gs2,ms⟩ else ⟨N + 3,gs2.set (N + 2) ⟨0,0,((viewF s t.name t.args.length cl).map clC).flatten⟩,ms⟩):=by
   rw [icall_hook (k:=relH viewO) rfl]
   exact relH_eq viewO_one ⟨g,s,t.name,t.args.length,cl,rfl,h1.move (g2o g hgN) rfl,hok,fun _=>g2n _ (Nat.le_refl _),rfl,rfl⟩
  have hset : ∀ x,((gs.set N ⟨0,0,tmC t⟩).set (N + 1) x).set (N + 1) ⟨0,0,keyC (keyP t)⟩ = gs2:=fun x=>Tr.set_set _ _ _ _
  have hkc : (keyC (keyP t)).length = 4:=rfl
  by_cases hz : viewF s t.name t.args.length cl = []
  ·simp only [hz,if_true,List.length_nil] at hv kk ⊢
   have hd:=delf_nil 1 1 (N + 1) (by omega) ⟨N + 2,gs2,ms⟩
   have hff : fitF s t cl = []:=by simp [fitF,hz]
   rw [hff]
   unfold keyC at kk hset
   simp (maxSteps:=1000000) (disch:=omega) only [yFits,xinit_3,↓axP,axQ,↓if_true,↓if_false,ite_true,ite_false,reduceIte,ne_eq,eq_self,Nat.reduceAdd,Nat.reduceSub,Nat.reduceMul,Nat.reduceLeDiff,Nat.reduceEqDiff,Nat.reduceBEq,reduceCtorEq,Int.reduceToNat,Int.reduceLT,Int.reduceLE,Int.reduceEq,Int.reduceAdd,Int.reduceSub,Int.reduceNeg,capnY,appzY,tmC_len,tmC_0,tmC_1,tmC_2,tmC_3,tmC_take,tmC_drop,tmC_one,tmC_ne,e0,e1,q1,hk2,kk,hset,g2N,List.length_map,hv,hd,Nat.add_assoc]
   refine Comes.some (Canon.same hcl (fun g r h=>?_) (fun g r h=>h) (.pure (x:=.vals 10 []) rfl))
   rw [g2o g (lt g r h)]; exact h
  ·simp only [hz,if_false] at hv
   have hFJ : FJ (N + 2) (N + 1) 0 (N + 3) ((viewF s t.name t.args.length cl).map clC).flatten (keyP t) gs2 ms ⟨N + 3,gs2.set (N + 2) ⟨0,0,((viewF s t.name t.args.length cl).map clC).flatten⟩,ms⟩:=by
    refine ⟨fun g hg=>?_,Nat.le_refl _,Tr.get_set_same _ _ _,?_,fun g hg hn=>?_,rfl,by omega,by omega⟩
    ·have : N + 3 ≤ g:=hg
     show (Tr.set _ _ _).get g = none
     rw [Tr.get_set_ne _ _ (by omega)]; exact g2n g (by omega)
    ·show (Tr.set _ _ _).get (N + 1) = _
     rw [Tr.get_set_ne _ _ (by omega)]; exact g2k
    ·show (Tr.set _ _ _).get g = _
     rw [Tr.get_set_ne _ _ hn]
   obtain ⟨C,H',f1,c1,c2,hd⟩:=delf_call ((viewF s t.name t.args.length cl).length + 1) 1 (keyP t) (viewF s t.name t.args.length cl) (by omega) hvl hvo (N + 2) (N + 1) (N + 3) gs2 ms (by omega) _ hFJ
   obtain ⟨nx',gs',ms'⟩:=H'
   unfold keyC at kk hset
   simp (maxSteps:=1000000) (disch:=omega) only [yFits,xinit_3,↓axP,axQ,↓if_true,↓if_false,ite_true,ite_false,reduceIte,ne_eq,eq_self,Nat.reduceAdd,Nat.reduceSub,Nat.reduceMul,Nat.reduceLeDiff,Nat.reduceEqDiff,Nat.reduceBEq,reduceCtorEq,Int.reduceToNat,Int.reduceLT,Int.reduceLE,Int.reduceEq,Int.reduceAdd,Int.reduceSub,Int.reduceNeg,capnY,appzY,tmC_len,tmC_0,tmC_1,tmC_2,tmC_3,tmC_take,tmC_drop,tmC_one,tmC_ne,e0,e1,q1,hk2,kk,hset,g2N,List.length_map,hv,hd,Nat.add_assoc]
   obtain ⟨w1,w2,w3,w4,w5,w6,w7,w8⟩:=f1
   simp only at w1 w2 w3 w4 w5 w6
   refine Comes.some (Canon.same hcl (fun g r h=>?_) (fun g r h=>by rw [w6]; exact h) ?_)
   ·have:=lt g r h
    rw [w5 g (by omega) (by omega),g2o g this]; exact h
   ·refine .slc (fun g' hg'=>?_) w3 rfl (by rw [List.length_map]; rfl) (fun row hr=>?_) ?_ fun j x y hx hy=>?_
    ·intro e
     have e : g' = N + 2:=e
     rw [e] at hg'; exact hg' e2
    ·simp only [List.mem_map] at hr
     obtain ⟨c,-,rfl⟩:=hr
     exact clC_len c
    ·show 0 + _ ≤ C.length
     rw [c1]
     have:=List.length_filter_le (keepB (keyP t)) (viewF s t.name t.args.length cl)
     omega
    ·have hx : C[0 + j]? = some x:=hx
     rw [Nat.zero_add] at hx
     have e:=take_get c2 hx hy
     subst e
     exact .pure ((pureL_all _).1 (pure_flat (pure_cls _)) x (List.mem_of_getElem? hy))
 ·obtain ⟨g,s,t,cl,rfl,h1,hok,hf,hk2,rfl⟩:=h
  exact ⟨g,s,t,cl,rfl,h1.ext he ha,hok,hf,hk2,rfl⟩
end Go.Proofs.YtdekdghldblfaaaGreatDoor
