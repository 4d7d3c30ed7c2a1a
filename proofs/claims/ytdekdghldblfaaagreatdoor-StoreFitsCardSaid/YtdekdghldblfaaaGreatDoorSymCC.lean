
import Derived.Test.YtdekdghldblfaaaGreatDoorSymUU
import Derived.Test.YtdekdghldblfaaaGreatDoorSymFF
import Derived.Test.YtdekdghldblfaaaGreatDoorAbsV
import Derived.Test.YtdekdghldblfaaaGreatDoorSymAA
import Derived.Test.YtdekdghldblfaaaGreatDoorSymQQ
namespace Go.Proofs.YtdekdghldblfaaaGreatDoor
open Go Go.Abs Go.RowKit
set_option linter.unusedVariables false
set_option linter.unusedSimpArgs false
attribute [local congr] on_congr br_congr onf_congr
attribute [local congr] Comes_congr
noncomputable abbrev ysCo : List (FuncId × YF):=[(68,yBNew),(108,ySNew),(70,yRenm),(114,yFresh)]
noncomputable abbrev lsCo : List (FuncId × (List AV → AH → Option (AV × AH))):=[(42,pureF goodS),(113,pureF varsS),(29,pureF tvarS),(115,readH (repuS 64)),(69,relH (readR bothQ))]
theorem lsCo_ok : ∀ e ∈ lsCo,HookOne Tryz.prog e.1 e.2:=by
 intro e he
 simp only [lsCo,List.mem_cons,List.not_mem_nil,or_false] at he
 rcases he with rfl | rfl | rfl | rfl | rfl
 ·exact goodF_one
 ·exact vars_one
 ·exact tvar_one
 ·exact ru_any 64
 ·exact both_one
theorem ysCo_ok : ∀ e ∈ ysCo,cFun Tryz.prog (fun _=>true) e.1 = some e.2.er:=by
 intro e he
 simp only [ysCo,List.mem_cons,List.not_mem_nil,or_false] at he
 rcases he with rfl | rfl | rfl | rfl
 ·exact yBNew_ok
 ·exact ySNew_ok
 ·exact yRenm_ok
 ·exact yFresh_ok
structure BG (H : AH) (B gB gS : Nat) (o : AV) (n : Nat) : Prop where
 wf : H.wf
 cb : H.gs.get gB = some ⟨0,0,[o,.ptr gS 0 0]⟩
 cs : H.gs.get gS = some ⟨0,0,[.int .i64 65536,.nils]⟩
 ow : Ows H o 1 (List.replicate n .nilp) n
 ob : OB B o
 b1 : gB < B
 b2 : gS < B
 b3 : B ≤ H.next
 ne : gB ≠ gS
theorem BG.at {H : AH} {B gB gS : Nat} {o : AV} {n : Nat} (h : BG H B gB gS o n) : BAt H gB n:=by
 refine ⟨o,gS,h.cb,h.cs,?_⟩
 rcases h.ow.2 with ⟨rfl,rfl⟩ | ⟨g,e,rfl,-⟩
 ·exact .inl ⟨rfl,rfl⟩
 ·exact .inr ⟨g,e,1,rfl⟩
def Off (v : AV) (g : Nat) : Prop:=∀ e i m z,v ≠ .slc g e i m z
theorem off_app {H H' : AH} {v v' x : AV} {z b n m : Nat} {cs xs : List AV} (h : Ows H v z cs n) (hx : listCells H z x = some (m,xs)) (hm : m ≠ 0) (hp : iapp z b v x H = some (v',H')) {g : Nat} (hg : g < H.next) (ho : Off v g) : Off v' g:=by
 rcases h.2 with ⟨rfl,-⟩ | ⟨g1,e1,rfl,h2,h3⟩
 ·rw [app_nils,hx,on_some] at hp
  simp only [if_neg hm] at hp
  split at hp
  ·cases hp
   intro e i m z he
   cases he
   exact Nat.lt_irrefl _ hg
  ·cases hp
 ·rw [app_slc,hx,on_some] at hp
  simp only [if_neg hm,h2,on_some] at hp
  split at hp
  ·cases hp
   intro e i m z he
   cases he
   exact ho _ _ _ _ rfl
  ·cases hp
set_option maxHeartbeats 1000000 in
theorem fresh_call (F d B gB gS : Nat) (o : AV) (n : Nat) (hn : n ≤ 60000) (nx : Nat) (gs : Tr Grp) (ms : Tr MapA) (h : BG ⟨nx,gs,ms⟩ B gB gS o n) :
  ∃ o' nx' gs',icall ysCo lsCo F (d + 2) 114 [.ptr gB 0 0] ⟨nx,gs,ms⟩ = some (.tup [.agg (tmC (varT n)),.bool true],⟨nx',gs',ms⟩) ∧ BG ⟨nx',gs',ms⟩ B gB gS o' (n + 1) ∧ nx ≤ nx' ∧ ∀ g,g < nx → g ≠ gB → Off o g → gs'.get g = gs.get g ∧ Off o' g:=by
 obtain ⟨wf,cb,cs,ow,ob,b1,b2,b3,ne⟩:=h
 simp only at cb cs b3
 have e0:=wf_mk wf
 have e1 : gs.get (nx + 1) = none:=wf (nx + 1) (Nat.le_succ nx)
 have q1 : (nx + 1 = nx) = False:=by simp
 have q2 : (gB = nx) = False:=eq_false (by omega)
 have q3 : (gB = nx + 1) = False:=eq_false (by omega)
 have q4 : (nx = gB) = False:=eq_false (by omega)
 have q5 : (nx = nx + 1) = False:=by simp
 let gsA:=(gs.set nx ⟨0,0,[.int .i64 0,.int .i64 0,.str [],.nils]⟩).set (nx + 1) ⟨0,0,[.nilp]⟩
 have oA : ∀ g,g < nx → gsA.get g = gs.get g:=fun g hg=>by
  show (Tr.set _ _ _).get g = _
  rw [Tr.get_set_ne _ _ (by omega),Tr.get_set_ne _ _ (by omega)]
 have wfA : AH.wf ⟨nx + 2,gsA,ms⟩:=fun g hg=>by
  have : nx + 2 ≤ g:=hg
  show (Tr.set _ _ _).get g = none
  rw [Tr.get_set_ne _ _ (by omega),Tr.get_set_ne _ _ (by omega)]; exact wf g (by show nx ≤ g; omega)
 have owA : Ows ⟨nx + 2,gsA,ms⟩ o 1 (List.replicate n .nilp) n:=ow.keep (by show nx ≤ nx + 2; omega) fun g hg=>oA g hg
 have h1 : gsA.get (nx + 1) = some ⟨0,0,[.nilp]⟩:=Tr.get_set_same _ _ _
 have h0 : gsA.get nx = some ⟨0,0,[.int .i64 0,.int .i64 0,.str [],.nils]⟩:=by
  show (Tr.set _ _ _).get nx = _
  rw [Tr.get_set_ne _ _ (by omega),Tr.get_set_same]
 obtain ⟨v',⟨nx',gs',ms'⟩,p1,p2,p3,p4,p5,p6⟩:=own_app (x:=.slc (nx + 1) 0 0 1 1) (z:=1) (b:=8) (m:=1) (xs:=[AV.nilp]) owA wfA (by simp only [lc_slc,on_some,h1]; rfl) rfl (by omega) (by omega) (by omega)
 simp only at p5
 subst p5
 have p1' : iapp 1 8 o (.slc (nx + 1) 0 0 1 1) ⟨nx + 2,(gs.set nx ⟨0,0,[.int .i64 0,.int .i64 0,.str [],.nils]⟩).set (nx + 1) ⟨0,0,[.nilp]⟩,ms'⟩ = some (v',⟨nx',gs',ms'⟩):=p1
 have kg0 : ∀ g,g < nx → Off o g → gs'.get g = gs.get g:=fun g hg ho=>by
  rw [← oA g hg]
  exact p4.2 g (by show g < nx + 2; omega) ho
 have kg : ∀ g,g < B → gs'.get g = gs.get g:=fun g hg=>kg0 g (by omega) fun e i m z he=>by have:=ob g e i m z he; omega
 have lcx : listCells ⟨nx + 2,gsA,ms'⟩ 1 (.slc (nx + 1) 0 0 1 1) = some (1,[AV.nilp]):=by simp only [lc_slc,on_some,h1]; rfl
 have hnx : nx + 2 ≤ nx':=p4.1
 have g0 : gs'.get nx = some ⟨0,0,[.int .i64 0,.int .i64 0,.str [],.nils]⟩:=by
  rw [← h0]
  refine p4.2 nx (by show nx < nx + 2; omega) fun e i m z he=>?_
  rcases ow.2 with ⟨rfl,-⟩ | ⟨g,e2,rfl,-,hlt⟩
  ·cases he
  ·cases he
   exact absurd hlt (Nat.lt_irrefl _)
 have hob':=p6 B (by show B ≤ nx + 2; omega) ob
 have hrep : List.replicate n AV.nilp ++ [.nilp] = List.replicate (n + 1) .nilp:=by rw [List.replicate_succ']
 rw [hrep] at p2
 let gsZ:=(gs'.set gB ⟨0,0,[v',.ptr gS 0 0]⟩).set nx ⟨0,0,tmC (varT n)⟩
 have hBG : BG ⟨nx',gsZ,ms'⟩ B gB gS v' (n + 1):=by
  refine ⟨fun g hg=>?_,?_,?_,?_,hob',b1,b2,by show B ≤ nx'; omega,ne⟩
  ·have : nx' ≤ g:=hg
   show (Tr.set _ _ _).get g = none
   rw [Tr.get_set_ne _ _ (by omega),Tr.get_set_ne _ _ (by omega)]; exact p3 g hg
  ·show (Tr.set _ _ _).get gB = _
   rw [Tr.get_set_ne _ _ (by omega),Tr.get_set_same]
  ·show (Tr.set _ _ _).get gS = _
   rw [Tr.get_set_ne _ _ (by omega),Tr.get_set_ne _ _ (Ne.symm ne),kg gS b2]; exact cs
  ·have w1:=p2.set hob' (g:=gB) b1 ⟨0,0,[v',.ptr gS 0 0]⟩
   obtain ⟨wl,w2⟩:=w1
   refine ⟨wl,?_⟩
   rcases w2 with ⟨h1,h2⟩ | ⟨g,e,h1,h2,h3⟩
   ·exact .inl ⟨h1,h2⟩
   ·refine .inr ⟨g,e,h1,?_,h3⟩
    show (Tr.set _ _ _).get g = _
    by_cases hgn : g = nx
    ·exfalso
     subst hgn
     have hh : (gs'.set gB ⟨0,0,[v',.ptr gS 0 0]⟩).get g = some ⟨e,0,List.replicate (n + 1) .nilp⟩:=h2
     rw [Tr.get_set_ne _ _ (by omega),g0] at hh
     have:=congrArg (fun x=>x.map (·.cells)) hh
     simp [List.replicate_succ] at this
    ·rw [Tr.get_set_ne _ _ hgn]; exact h2
 have hk : (n : Int) < 65536:=by omega
 have hw : IntKind.i64.wrap ((n : Int) + 1 - 1) = (n : Int):=by rw [wrap_i64] <;> omega
 have hv : ∀ nx gs ms,icall ysCo lsCo F (d + 1) 29 [.int .i64 n] ⟨nx,gs,ms⟩ = some (.agg (tmC (varT n)),⟨nx,gs,ms⟩):=fun nx gs ms=>by
  rw [icall_hook (k:=pureF tvarS) rfl]
  have : tvarS [.int .i64 (n : Int)] = some (.agg (tmC (varT n))):=rfl
  simp (maxSteps:=1000000) (disch:=omega) only [↓axP,axQ,↓if_true,↓if_false,ite_true,ite_false,reduceIte,ne_eq,eq_self,Nat.reduceAdd,Nat.reduceSub,Nat.reduceMul,Nat.reduceLeDiff,Nat.reduceEqDiff,Nat.reduceBEq,reduceCtorEq,Int.reduceToNat,Int.reduceLT,Int.reduceLE,Int.reduceEq,Int.reduceAdd,Int.reduceSub,Int.reduceNeg,capnY,appzY,this]
 refine ⟨v',nx',gsZ,icall_text rfl rfl rfl ?_,hBG,by omega,fun g hg hne hoff=>⟨?_,off_app owA lcx (by omega) p1 (by show g < nx + 2; omega) hoff⟩⟩
 ·have hge : ((65536 : Int) ≤ (n : Int)) = False:=eq_false (by omega)
  have hcb' : gs'.get gB = some ⟨0,0,[o,.ptr gS 0 0]⟩:=(kg gB b1).trans cb
  have ho : ∀ H,lenY false H o = some (.int .i64 (n : Nat),H):=fun H=>by
   rcases ow.2 with ⟨rfl,rfl⟩ | ⟨g,e,rfl,-⟩ <;> rfl
  have hv' : ∀ H,lenY false H v' = some (.int .i64 ((n : Int) + 1),H):=fun H=>by
   rcases p2.2 with ⟨rfl,h⟩ | ⟨g,e,rfl,-⟩
   ·cases h
   ·rfl
  have vo : v'.one = true ∧ v'.cells = [v'] ∧ v'.fit = true:=by
   rcases p2.2 with ⟨rfl,h⟩ | ⟨g,e,rfl,-⟩ <;> exact ⟨rfl,rfl,rfl⟩
  simp (maxSteps:=1000000) (disch:=omega) only [yFresh,xinit_1,↓axP,axQ,↓if_true,↓if_false,ite_true,ite_false,reduceIte,ne_eq,eq_self,Nat.reduceAdd,Nat.reduceSub,Nat.reduceMul,Nat.reduceLeDiff,Nat.reduceEqDiff,Nat.reduceBEq,reduceCtorEq,Int.reduceToNat,Int.reduceLT,Int.reduceLE,Int.reduceEq,Int.reduceAdd,Int.reduceSub,Int.reduceNeg,capnY,appzY,tmC_len,tmC_0,tmC_1,tmC_2,tmC_3,tmC_take,tmC_drop,tmC_one,tmC_ne,e0,e1,q1,q2,q3,q4,q5,cb,ho,hge,p1',hcb',vo.1,vo.2.1,vo.2.2,hv',hw,hv,g0,Nat.add_assoc]
  rfl
 ·show (Tr.set _ _ _).get g = _
  rw [Tr.get_set_ne _ _ (by omega),Tr.get_set_ne _ _ hne]; exact kg0 g hg hoff
end Go.Proofs.YtdekdghldblfaaaGreatDoor
namespace Go.Proofs.YtdekdghldblfaaaGreatDoor
open Go Go.Abs Go.RowKit
set_option linter.unusedVariables false
set_option linter.unusedSimpArgs false
attribute [local congr] on_congr br_congr onf_congr
attribute [local congr] Comes_congr
def VarE (m : List (Nat × Int × Tm)) : Prop:=∀ e ∈ m,∃ k : Nat,k ≤ 60000 ∧ e.2.2 = varT k
theorem put_var {m : List (Nat × Int × Tm)} (h : VarE m) (x : Int) (k c : Nat) (hk : k ≤ 60000) : ∃ c' m',mset (.int .i64 x) (.agg (tmC (varT k))) c (entA m) = some (c',entA m') ∧ VarE m':=by
 refine ⟨(putG x (varT k) c m).1,(putG x (varT k) c m).2,set_E (kE:=fun n=>AV.int .i64 n) (vE:=tmA) (fun a b=>mcmp_i _ _ _) x (varT k) c m,fun e he=>?_⟩
 rcases set_mem he with h1 | ⟨-,h2⟩
 ·exact h e h1
 ·exact ⟨k,hk,h2⟩
set_option maxHeartbeats 1000000 in
theorem renm_loop (F d B gB gS gm : Nat) (p3 p4 : AV) (vs : List Int) (n0 : Nat) (hn0 : n0 + vs.length ≤ 60000) : ∀ (l2 l1 : List Int) (o : AV) (m : List (Nat × Int × Tm)) (c : Nat) (nx : Nat) (gs : Tr Grp) (ms : Tr MapA) (F' : Nat),vs = l1 ++ l2 → BG ⟨nx,gs,ms⟩ B gB gS o (n0 + l1.length) → ms.get gm = some (c,entA m) → VarE m → l2.length < F' →
  ∃ o' m' c' nx' gs' ms',iter (ycode (icall ysCo lsCo F (d + 2)) F yRenma) F' (mk [(0,.ptr gB 0 0),(3,p3),(4,p4),(5,.mapp gm),(10,.vals 1 (intR vs)),(11,.int .i64 vs.length),(12,.int .i64 l1.length)]) ⟨nx,gs,ms⟩ = some (.exit 0,mk [(3,p3),(4,p4),(5,.mapp gm)],⟨nx',gs',ms'⟩) ∧ BG ⟨nx',gs',ms'⟩ B gB gS o' (n0 + vs.length) ∧ ms'.get gm = some (c',entA m') ∧ VarE m' ∧ nx ≤ nx' ∧ (∀ g,g < nx → g ≠ gB → Off o g → gs'.get g = gs.get g ∧ Off o' g) ∧ ∀ g,g ≠ gm → ms'.get g = ms.get g:=by
 intro l2
 induction l2 with
 | nil=>
  intro l1 o m c nx gs ms F' h1 h2 h3 hE h4
  obtain ⟨k,rfl⟩:=iter_pos (f:=fun _ _=>none) (n:=F') (by omega)
  rw [List.append_nil] at h1
  subst h1
  have hlt : ((vs.length : Int) < (vs.length : Int)) = False:=by simp
  refine ⟨o,m,c,nx,gs,ms,?_,h2,h3,hE,Nat.le_refl _,fun _ _ _ h=>⟨rfl,h⟩,fun _ _=>rfl⟩
  rw [iter_one]
  simp (maxSteps:=1000000) (disch:=omega) only [yRenma_r,yRenma_,↓axP,axQ,↓if_true,↓if_false,ite_true,ite_false,reduceIte,ne_eq,eq_self,Nat.reduceAdd,Nat.reduceSub,Nat.reduceMul,Nat.reduceLeDiff,Nat.reduceEqDiff,Nat.reduceBEq,reduceCtorEq,Int.reduceToNat,Int.reduceLT,Int.reduceLE,Int.reduceEq,Int.reduceAdd,Int.reduceSub,Int.reduceNeg,capnY,appzY,tmC_len,tmC_0,tmC_1,tmC_2,tmC_3,tmC_take,tmC_drop,tmC_one,tmC_ne,hlt]
 | cons x l2 ih=>
  intro l1 o m c nx gs ms F' h1 h2 h3 hE h4
  obtain ⟨k,rfl⟩:=iter_pos (f:=fun _ _=>none) (n:=F') (by omega)
  have hR : l1.length + 1 ≤ vs.length:=by rw [h1]; simp
  have hlt : ((l1.length : Int) < (vs.length : Int)) = True:=eq_true (by omega)
  have hget : (intR vs)[l1.length]? = some [.int .i64 x]:=by rw [h1]; simp [intR]
  have hi : (0 : Int) ≤ (l1.length : Int):=by omega
  have hw : IntKind.i64.wrap ((l1.length : Int) + 1) = (l1.length : Int) + 1:=by rw [wrap_i64] <;> omega
  obtain ⟨o1,nx1,gs1,f1,f2,f3,f4⟩:=fresh_call F d B gB gS o (n0 + l1.length) (by omega) nx gs ms h2
  obtain ⟨c1,m1,s1,s2⟩:=put_var hE x (n0 + l1.length) c (by omega)
  have hs : (l1 ++ [x]).length = l1.length + 1:=by simp
  have f2' : BG ⟨nx1,gs1,ms.set gm (c1,entA m1)⟩ B gB gS o1 (n0 + (l1 ++ [x]).length):=by
   obtain ⟨a1,a2,a3,a4,a5,a6,a7,a8,a9⟩:=f2
   rw [hs]
   exact ⟨a1,a2,a3,a4,a5,a6,a7,a8,a9⟩
  obtain ⟨o',m',c',nx',gs',ms',k1,k2,k3,k4,k5,k6,k7⟩:=ih (l1 ++ [x]) o1 m1 c1 nx1 gs1 (ms.set gm (c1,entA m1)) k (by simp [h1]) f2' (Tr.get_set_same _ _ _) s2 (by simp at h4; omega)
  refine ⟨o',m',c',nx',gs',ms',?_,k2,k3,k4,by omega,fun g h hn ho=>?_,fun g h=>by rw [k7 g h,Tr.get_set_ne _ _ h]⟩
  case refine_2=>
   obtain ⟨a1,a2⟩:=f4 g h hn ho
   obtain ⟨b1,b2⟩:=k6 g (by omega) hn a2
   exact ⟨b1.trans a1,b2⟩
  rw [hs] at k1
  rw [iter_one]
  generalize hkv : ((n0 + l1.length : Nat) : Int) = kv at f1 s1
  simp (maxSteps:=1000000) (disch:=omega) only [↓axP,axQ,↓if_true,↓if_false,ite_true,ite_false,reduceIte,ne_eq,eq_self,Nat.reduceAdd,Nat.reduceSub,Nat.reduceMul,Nat.reduceLeDiff,Nat.reduceEqDiff,Nat.reduceBEq,reduceCtorEq,Int.reduceToNat,Int.reduceLT,Int.reduceLE,Int.reduceEq,Int.reduceAdd,Int.reduceSub,Int.reduceNeg,capnY,appzY] at k1
  simp (maxSteps:=1000000) (disch:=omega) only [yRenma_r,yRenma_,↓axP,axQ,↓if_true,↓if_false,ite_true,ite_false,reduceIte,ne_eq,eq_self,Nat.reduceAdd,Nat.reduceSub,Nat.reduceMul,Nat.reduceLeDiff,Nat.reduceEqDiff,Nat.reduceBEq,reduceCtorEq,Int.reduceToNat,Int.reduceLT,Int.reduceLE,Int.reduceEq,Int.reduceAdd,Int.reduceSub,Int.reduceNeg,capnY,appzY,tmC_len,tmC_0,tmC_1,tmC_2,tmC_3,tmC_take,tmC_drop,tmC_one,tmC_ne,hlt,hi,hw,hget,f1,h3,s1,k1,Int.toNat_natCast]
theorem rho_var {m : List (Nat × Int × Tm)} (h : VarE m) : ∀ n u,rho m n = some u → u.height ≤ 1 ∧ Fine 1000 u:=by
 intro n u hu
 unfold rho at hu
 rw [Option.map_eq_some_iff] at hu
 obtain ⟨e,h1,rfl⟩:=hu
 obtain ⟨k,hk,e2⟩:=h e (List.mem_of_find?_eq_some h1)
 rw [e2]
 exact ⟨by simp [varT,Tm.height,Tm.heights],.mk _ _ _ _ (by omega) (by omega) (by simp) (by simp) (fun x hx=>by cases hx)⟩
theorem repu_fine {r : Int → Option Tm} (h : ∀ n u,r n = some u → u.height ≤ 1 ∧ Fine 1000 u) {t : Tm} (hf : Fine 1000 t) : Fine 1000 (replU r t):=by
 induction hf with
 | mk k n s l hk hn hs hl hx ih=>
  unfold replU
  by_cases h0 : k = 0
  ·rw [if_pos h0]
   cases hr : r n with
   | none=>exact fine_z0
   | some u=>exact (h n u hr).2
  ·rw [if_neg h0,repuL_map]
   refine .mk k n s _ hk hn hs (by rw [List.length_map]; exact hl) fun x hx'=>?_
   rw [List.mem_map] at hx'
   obtain ⟨y,hy,rfl⟩:=hx'
   exact ih y hy
set_option maxHeartbeats 1000000 in
theorem renm_call (F d B gB gS : Nat) (o : AV) (n : Nat) (t : Tm) (hf : Fine 1000 t) (hg : t.good = true) (hh : t.height ≤ 64) (hF : 2000 < F) (hn : n ≤ 4000) (nx : Nat) (gs : Tr Grp) (ms : Tr MapA) (h : BG ⟨nx,gs,ms⟩ B gB gS o n) (hms : ∀ g,nx ≤ g → ms.get g = none) (hoo : ∀ g,nx ≤ g → Off o g) :
  ∃ o' n' r nx' gs' ms',icall ysCo lsCo F (d + 3) 70 [.ptr gB 0 0,.agg (tmC t)] ⟨nx,gs,ms⟩ = some (.agg (tmC (replU r t)),⟨nx',gs',ms'⟩) ∧ BG ⟨nx',gs',ms'⟩ B gB gS o' n' ∧ n' ≤ n + 2000 ∧ (∀ n u,r n = some u → u.height ≤ 1 ∧ Fine 1000 u) ∧ nx ≤ nx' ∧ (∀ g,g < nx → g ≠ gB → Off o g → gs'.get g = gs.get g) ∧ (∀ g,g < nx → ms'.get g = ms.get g) ∧ ∀ g,nx' ≤ g → ms'.get g = none:=by
 have hvars : ∀ nx gs ms,icall ysCo lsCo F (d + 2) 113 [.agg (tmC t)] ⟨nx,gs,ms⟩ = some (.vals 1 (intR (varsP t)),⟨nx,gs,ms⟩):=fun nx gs ms=>by
  rw [icall_hook (k:=pureF varsS) rfl]
  simp (maxSteps:=1000000) (disch:=omega) only [↓axP,axQ,↓if_true,↓if_false,ite_true,ite_false,reduceIte,ne_eq,eq_self,Nat.reduceAdd,Nat.reduceSub,Nat.reduceMul,Nat.reduceLeDiff,Nat.reduceEqDiff,Nat.reduceBEq,reduceCtorEq,Int.reduceToNat,Int.reduceLT,Int.reduceLE,Int.reduceEq,Int.reduceAdd,Int.reduceSub,Int.reduceNeg,capnY,appzY,tmC_len,tmC_0,tmC_1,tmC_2,tmC_3,tmC_take,tmC_drop,tmC_one,tmC_ne,varsS_eq hf]
 have hvl : (varsP t).length ≤ 2000:=by
  have h1 : varsP t = varsF (preF t):=by simp [varsP,hg]
  rw [h1]; exact vars_len hg
 obtain ⟨wf,cb,cs,ow,ob,b1,b2,b3,ne⟩:=h
 simp only at cb cs b3
 have e0:=wf_mk wf
 have e1 : gs.get (nx + 1) = none:=wf (nx + 1) (Nat.le_succ nx)
 have e2 : ms.get (nx + 2) = none:=hms (nx + 2) (by omega)
 have q1 : (nx + 1 = nx) = False:=by simp
 have q2 : (nx = nx + 1) = False:=by simp
 let gsA:=(gs.set nx ⟨0,0,tmC t⟩).set (nx + 1) ⟨0,0,[.int .i64 0,.int .i64 0,.str [],.nils]⟩
 have oA : ∀ g,g < nx → gsA.get g = gs.get g:=fun g hg=>by
  show (Tr.set _ _ _).get g = _
  rw [Tr.get_set_ne _ _ (by omega),Tr.get_set_ne _ _ (by omega)]
 have hBA : BG ⟨nx + 3,gsA,ms.set (nx + 2) (0,entA [])⟩ B gB gS o (n + ([] : List Int).length):=by
  refine ⟨fun g hg=>?_,(oA gB (by omega)).trans cb,(oA gS (by omega)).trans cs,ow.keep (by show nx ≤ nx + 3; omega) (fun g hg=>oA g hg),ob,b1,b2,by show B ≤ nx + 3; omega,ne⟩
  have : nx + 3 ≤ g:=hg
  show (Tr.set _ _ _).get g = none
  rw [Tr.get_set_ne _ _ (by omega),Tr.get_set_ne _ _ (by omega)]; exact wf g (by show nx ≤ g; omega)
 obtain ⟨o',m',c',nx',gs',ms',k1,k2,k3,k4,k5,k6,k7⟩:=renm_loop F d B gB gS (nx + 2) (.ptr nx 0 0) (.ptr (nx + 1) 0 0) (varsP t) n (by omega) (varsP t) [] o [] 0 (nx + 3) gsA (ms.set (nx + 2) (0,entA [])) F rfl hBA (Tr.get_set_same _ _ _) (fun e he=>by cases he) (by omega)
 have k1' : iter (ycode (icall ysCo lsCo F (d + 2)) F yRenma) F (mk [(0,.ptr gB 0 0),(3,.ptr nx 0 0),(4,.ptr (nx + 1) 0 0),(5,.mapp (nx + 2)),(10,.vals 1 (intR (varsP t))),(11,.int .i64 (varsP t).length),(12,.int .i64 0)]) ⟨nx + 3,(gs.set nx ⟨0,0,tmC t⟩).set (nx + 1) ⟨0,0,[.int .i64 0,.int .i64 0,.str [],.nils]⟩,ms.set (nx + 2) (0,[])⟩ = some (.exit 0,mk [(3,.ptr nx 0 0),(4,.ptr (nx + 1) 0 0),(5,.mapp (nx + 2))],⟨nx',gs',ms'⟩):=k1
 have b0 : gs'.get nx = some ⟨0,0,tmC t⟩:=by
  rw [(k6 nx (by omega) (by omega) (hoo nx (Nat.le_refl _))).1]
  show (Tr.set _ _ _).get nx = _
  rw [Tr.get_set_ne _ _ (by omega),Tr.get_set_same]
 have b1' : gs'.get (nx + 1) = some ⟨0,0,[.int .i64 0,.int .i64 0,.str [],.nils]⟩:=by
  rw [(k6 (nx + 1) (by omega) (by omega) (hoo (nx + 1) (by omega))).1]
  exact Tr.get_set_same _ _ _
 have hmm : mapM (.mapp (nx + 2)) ms' = some m':=by
  show (ms'.get (nx + 2)).bind _ = _
  rw [k3,Option.bind_some]; exact ofE_eq m'
 have hr : icall ysCo lsCo F (d + 2) 115 [.agg (tmC t),.mapp (nx + 2)] ⟨nx',gs',ms'⟩ = some (.agg (tmC (replU (rho m') t)),⟨nx',gs',ms'⟩):=by
  rw [icall_hook (k:=readH (repuS 64)) rfl]
  exact repuS_eq hmm ⟨hh,hf⟩
 have hoff:=(k6 (nx + 1) (by omega) (by omega) (hoo (nx + 1) (by omega))).2
 refine ⟨o',_,rho m',nx',gs'.set (nx + 1) ⟨0,0,tmC (replU (rho m') t)⟩,ms',icall_text rfl rfl rfl ?_,?_,Nat.add_le_add_left hvl n,rho_var k4,by omega,fun g hg hn ho=>?_,fun g hg=>?_,fun g hg=>?_⟩
 ·have hrl : (intR (varsP t)).length = (varsP t).length:=by simp [intR]
  simp (maxSteps:=1000000) (disch:=omega) only [yRenm,xinit_2,↓axP,axQ,↓if_true,↓if_false,ite_true,ite_false,reduceIte,ne_eq,eq_self,Nat.reduceAdd,Nat.reduceSub,Nat.reduceMul,Nat.reduceLeDiff,Nat.reduceEqDiff,Nat.reduceBEq,reduceCtorEq,Int.reduceToNat,Int.reduceLT,Int.reduceLE,Int.reduceEq,Int.reduceAdd,Int.reduceSub,Int.reduceNeg,capnY,appzY,tmC_len,tmC_0,tmC_1,tmC_2,tmC_3,tmC_take,tmC_drop,tmC_one,tmC_ne,e0,e1,e2,q1,q2,hvars,hrl,k1',b0,b1',hr,Nat.add_assoc]
 ·obtain ⟨a1,a2,a3,a4,a5,a6,a7,a8,a9⟩:=k2
  simp only at a2 a3 a8
  refine ⟨wf_set a1 (by omega) _,?_,?_,⟨a4.1,?_⟩,a5,a6,a7,a8,a9⟩
  ·show (Tr.set _ _ _).get gB = _
   rw [Tr.get_set_ne _ _ (by omega)]; exact a2
  ·show (Tr.set _ _ _).get gS = _
   rw [Tr.get_set_ne _ _ (by omega)]; exact a3
  ·rcases a4.2 with h | ⟨g,e,h1,h2,h3⟩
   ·exact .inl h
   ·refine .inr ⟨g,e,h1,?_,h3⟩
    show (Tr.set _ _ _).get g = _
    rw [Tr.get_set_ne _ _ (fun hh=>hoff e 0 _ 1 (by rw [h1,hh]))]; exact h2
 ·rw [Tr.get_set_ne _ _ (by omega),(k6 g (by omega) hn ho).1]; exact oA g hg
 ·rw [k7 g (by omega),Tr.get_set_ne _ _ (by omega)]
 ·rw [k7 g (by omega),Tr.get_set_ne _ _ (by omega)]; exact hms g (by omega)
end Go.Proofs.YtdekdghldblfaaaGreatDoor
namespace Go.Proofs.YtdekdghldblfaaaGreatDoor
open Go Go.Abs Go.RowKit
set_option linter.unusedVariables false
set_option linter.unusedSimpArgs false
attribute [local congr] on_congr br_congr onf_congr
attribute [local congr] Comes_congr
structure NoC (x y : Tm) : Prop where
 fx : Fine 1000 x
 fy : Fine 1000 y
 k : x.kind ≠ 0
 hk : x.kind = y.kind
 nm : x.name = y.name
 len : x.args.length = y.args.length
 no : mayP (keyP x) (keyP y) = false
theorem key_some {t : Tm} (h : (keyP t).1 ≠ 0) : t.good = true ∧ ∃ a tl,t.args = a :: tl ∧ a.kind ≠ 0 ∧ keyP t = (if a.kind = 1 then ((1 : Int),a.num,([] : List UInt8),(0 : Int)) else (a.kind,0,a.name,(a.args.length : Int))):=by
 unfold keyP at h ⊢
 cases hg : t.good with
 | false=>rw [hg] at h; simp at h
 | true=>
  rw [hg] at h
  simp only [if_true] at h ⊢
  cases ha : t.args with
  | nil=>rw [ha] at h; simp at h
  | cons a tl=>
   rw [ha] at h
   by_cases h0 : a.kind = 0
   ·simp [h0] at h
   ·exact ⟨trivial,a,tl,rfl,h0,by simp [h0]⟩
theorem NoC.apt {x y : Tm} (h : NoC x y) : x.good = true ∧ y.good = true ∧ ∃ a b,x.args[0]? = some a ∧ y.args[0]? = some b ∧ a.kind ≠ 0 ∧ b.kind ≠ 0 ∧ diffT a b:=by
 obtain ⟨-,-,-,-,-,-,hno⟩:=h
 unfold mayP at hno
 simp only [Bool.or_eq_false_iff,decide_eq_false_iff_not] at hno
 obtain ⟨⟨h1,h2⟩,h3⟩:=hno
 obtain ⟨gx,a,tl,ha,ka,ea⟩:=key_some h1
 obtain ⟨gy,b,bs,hb,kb,eb⟩:=key_some h2
 refine ⟨gx,gy,a,b,by rw [ha]; rfl,by rw [hb]; rfl,ka,kb,?_⟩
 unfold diffT
 by_cases e1 : a.kind = b.kind
 ·by_cases e2 : a.num = b.num
  ·by_cases e3 : a.name = b.name
   ·by_cases e4 : a.args.length = b.args.length
    ·exfalso; apply h3; rw [ea,eb,e1,e2,e3,e4]
    ·exact .inr (.inr (.inr e4))
   ·exact .inr (.inr (.inl e3))
  ·exact .inr (.inl e2)
 ·exact .inl e1
theorem repu_kind {r : Int → Option Tm} {t : Tm} (h : t.kind ≠ 0) : (replU r t).kind = t.kind ∧ (replU r t).num = t.num ∧ (replU r t).name = t.name ∧ (replU r t).args = t.args.map (replU r):=by
 rw [replU_mk h]; exact ⟨rfl,rfl,rfl,rfl⟩
theorem NoC.both {x y : Tm} (h : NoC x y) (r q : Int → Option Tm) : ∃ a b,Apt (replU r x) (replU q y) a b:=by
 obtain ⟨-,-,a,b,ha,hb,ka,kb,hd⟩:=h.apt
 have hy : y.kind ≠ 0:=h.hk ▸ h.k
 obtain ⟨x1,x2,x3,x4⟩:=repu_kind (r:=r) h.k
 obtain ⟨y1,y2,y3,y4⟩:=repu_kind (r:=q) hy
 obtain ⟨a1,a2,a3,a4⟩:=repu_kind (r:=r) ka
 obtain ⟨b1,b2,b3,b4⟩:=repu_kind (r:=q) kb
 refine ⟨replU r a,replU q b,⟨by rw [x1]; exact h.k,by rw [x1,y1]; exact h.hk,by rw [x3,y3]; exact h.nm,by rw [x4,y4,List.length_map,List.length_map]; exact h.len,by rw [x4,List.length_map]; exact h.fx.args.1,by rw [x4,List.getElem?_map,ha]; rfl,by rw [y4,List.getElem?_map,hb]; rfl,by rw [a1]; exact ka,by rw [b1]; exact kb,?_⟩⟩
 unfold diffT at hd ⊢
 rw [a1,a2,a3,a4,b1,b2,b3,b4,List.length_map,List.length_map]; exact hd
noncomputable def couldS : List AV → Option AV
 | [x,y]=>(ofT x).bind fun t=>(ofT y).bind fun u=>only (NoC t u) (some (.bool false))
 | _=>none
theorem couldS_eq {x y : Tm} (h : NoC x y) : couldS [.agg (tmC x),.agg (tmC y)] = some (.bool false):=by
 show (ofT (tmA x)).bind _ = _
 rw [ofT_tm,Option.bind_some]
 show (ofT (tmA y)).bind _ = _
 rw [ofT_tm]; exact only_eq h _
theorem good_h {t : Tm} (h : t.good = true) : t.height ≤ 64:=by
 unfold Tm.good at h
 simp only [Bool.and_eq_true,decide_eq_true_eq] at h
 exact h.1.2
theorem bnew_call (F d nx : Nat) (gs : Tr Grp) (ms : Tr MapA) (e0 : gs.get nx = none) (e1 : gs.get (nx + 1) = none) : icall ysCo lsCo F (d + 3) 68 [] ⟨nx,gs,ms⟩ = some (.ptr (nx + 1) 0 0,⟨nx + 2,(gs.set nx ⟨0,0,[.int .i64 65536,.nils]⟩).set (nx + 1) ⟨0,0,[.nils,.ptr nx 0 0]⟩,ms⟩):=by
 refine icall_text rfl rfl rfl ?_
 have q1 : (nx + 1 = nx) = False:=by simp
 have k1 : icall ysCo lsCo F (d + 2) 108 [.int .i64 65536] ⟨nx,gs,ms⟩ = some (.ptr nx 0 0,⟨nx + 1,gs.set nx ⟨0,0,[.int .i64 65536,.nils]⟩,ms⟩):=by
  refine icall_text rfl rfl rfl ?_
  have m1 : amm true [.int .i64 65536,.int .i64 1] = some (.int .i64 65536):=rfl
  have m2 : amm false [.int .i64 65536,.int .i64 65536] = some (.int .i64 65536):=rfl
  simp (maxSteps:=1000000) (disch:=omega) only [ySNew,xinit_1,↓axP,axQ,↓if_true,↓if_false,ite_true,ite_false,reduceIte,ne_eq,eq_self,Nat.reduceAdd,Nat.reduceSub,Nat.reduceMul,Nat.reduceLeDiff,Nat.reduceEqDiff,Nat.reduceBEq,reduceCtorEq,Int.reduceToNat,Int.reduceLT,Int.reduceLE,Int.reduceEq,Int.reduceAdd,Int.reduceSub,Int.reduceNeg,capnY,appzY,tmC_len,tmC_0,tmC_1,tmC_2,tmC_3,tmC_take,tmC_drop,tmC_one,tmC_ne,e0,m1,m2]
 simp (maxSteps:=1000000) (disch:=omega) only [yBNew,xinit_0,↓axP,axQ,↓if_true,↓if_false,ite_true,ite_false,reduceIte,ne_eq,eq_self,Nat.reduceAdd,Nat.reduceSub,Nat.reduceMul,Nat.reduceLeDiff,Nat.reduceEqDiff,Nat.reduceBEq,reduceCtorEq,Int.reduceToNat,Int.reduceLT,Int.reduceLE,Int.reduceEq,Int.reduceAdd,Int.reduceSub,Int.reduceNeg,capnY,appzY,tmC_len,tmC_0,tmC_1,tmC_2,tmC_3,tmC_take,tmC_drop,tmC_one,tmC_ne,k1,e1,q1,Nat.add_assoc]
set_option maxHeartbeats 2000000 in
theorem could_one : HookOne Tryz.prog 30 (pureF couldS):=by
 refine HookOne.ofPureF (by decide +kernel) fun args z h H=>?_
 unfold couldS at h; split at h
 ·rename_i x y
  rw [Option.bind_eq_some_iff] at h
  obtain ⟨t,h1,h⟩:=h
  rw [Option.bind_eq_some_iff] at h
  obtain ⟨u,h2,h⟩:=h
  obtain ⟨hc,h3⟩:=only_ok h
  cases h3
  obtain rfl:=ofT_ok h1
  obtain rfl:=ofT_ok h2
  obtain ⟨gt,gu,-⟩:=hc.apt
  have hic:=icall_ok (P:=Tryz.prog) mixed (fun f=>draws f rfl) ysCo_ok lsCo_ok 2001 3
  refine ACalls.onCall hic.1 hic.2 mixed (draws _ rfl) yCould_ok rfl 2001 fun N hN hcl=>?_
  obtain ⟨nx0,gs,ms⟩:=H
  simp only at hN
  have e0:=(hN N (Nat.le_refl _)).1
  have e1:=(hN (N + 1) (by omega)).1
  have q1 : (N + 1 = N) = False:=by simp
  have q2 : (N = N + 1) = False:=by simp
  have lt : ∀ g r,gs.get g = some r → g < N:=fun g r h=>by
   rcases Nat.lt_or_ge g N with q | q
   ·exact q
   ·rw [(hN g q).1] at h; cases h
  have ltm : ∀ g r,ms.get g = some r → g < N:=fun g r h=>by
   rcases Nat.lt_or_ge g N with q | q
   ·exact q
   ·rw [(hN g q).2] at h; cases h
  have hgood : ∀ nx gs ms t,Fine 1000 t → t.good = true → icall ysCo lsCo 2001 3 42 [.agg (tmC t)] ⟨nx,gs,ms⟩ = some (.bool true,⟨nx,gs,ms⟩):=fun nx gs ms t hf hg=>by
   rw [icall_hook (k:=pureF goodS) rfl]
   simp (maxSteps:=1000000) (disch:=omega) only [↓axP,axQ,↓if_true,↓if_false,ite_true,ite_false,reduceIte,ne_eq,eq_self,Nat.reduceAdd,Nat.reduceSub,Nat.reduceMul,Nat.reduceLeDiff,Nat.reduceEqDiff,Nat.reduceBEq,reduceCtorEq,Int.reduceToNat,Int.reduceLT,Int.reduceLE,Int.reduceEq,Int.reduceAdd,Int.reduceSub,Int.reduceNeg,capnY,appzY,tmC_len,tmC_0,tmC_1,tmC_2,tmC_3,tmC_take,tmC_drop,tmC_one,tmC_ne,goodS_eq' hf,hg]
  have hgt:=fun nx gs ms=>hgood nx gs ms t hc.fx gt
  have hgu:=fun nx gs ms=>hgood nx gs ms u hc.fy gu
  let gs2:=(gs.set N ⟨0,0,tmC t⟩).set (N + 1) ⟨0,0,tmC u⟩
  have g2o : ∀ g',g' ≠ N → g' ≠ N + 1 → gs2.get g' = gs.get g':=fun g' h1 h2=>by
   show (Tr.set _ _ _).get g' = _
   rw [Tr.get_set_ne _ _ h2,Tr.get_set_ne _ _ h1]
  have hs2 : (gs.set N ⟨0,0,tmC t⟩).set (N + 1) ⟨0,0,tmC u⟩ = gs2:=rfl
  have l0 : gs2.get N = some ⟨0,0,tmC t⟩:=by
   show (Tr.set _ _ _).get N = _
   rw [Tr.get_set_ne _ _ (by omega),Tr.get_set_same]
  have l1 : gs2.get (N + 1) = some ⟨0,0,tmC u⟩:=Tr.get_set_same _ _ _
  have f2 : gs2.get (N + 2) = none:=(g2o _ (by omega) (by omega)).trans (hN (N + 2) (by omega)).1
  have f3 : gs2.get (N + 3) = none:=(g2o _ (by omega) (by omega)).trans (hN (N + 3) (by omega)).1
  have hbn:=bnew_call 2001 0 (N + 2) gs2 ms f2 f3
  have f4 : ∀ g,N + 2 ≤ g → gs2.get g = none:=fun g h=>(g2o _ (by omega) (by omega)).trans (hN g (by omega)).1
  clear_value gs2
  let gs4:=(gs2.set (N + 2) ⟨0,0,[.int .i64 65536,.nils]⟩).set (N + 3) ⟨0,0,[.nils,.ptr (N + 2) 0 0]⟩
  have hs4 : (gs2.set (N + 2) ⟨0,0,[.int .i64 65536,.nils]⟩).set (N + 2 + 1) ⟨0,0,[.nils,.ptr (N + 2) 0 0]⟩ = gs4:=rfl
  have g4o : ∀ g',g' < N + 2 → gs4.get g' = gs2.get g':=fun g' h=>by
   show (Tr.set _ _ _).get g' = _
   rw [Tr.get_set_ne _ _ (by omega),Tr.get_set_ne _ _ (by omega)]
  have hBG : BG ⟨N + 19,gs4,ms⟩ (N + 4) (N + 3) (N + 2) .nils 0:=by
   refine ⟨fun g hg=>?_,Tr.get_set_same _ _ _,?_,own_nil _ _,ob_nil _,by omega,by omega,by show N + 4 ≤ N + 19; omega,by omega⟩
   ·have : N + 19 ≤ g:=hg
    show (Tr.set _ _ _).get g = none
    rw [Tr.get_set_ne _ _ (by omega),Tr.get_set_ne _ _ (by omega)]; exact f4 g (by omega)
   ·show (Tr.set _ _ _).get (N + 2) = _
    rw [Tr.get_set_ne _ _ (by omega),Tr.get_set_same]
  have k0 : gs4.get N = some ⟨0,0,tmC t⟩:=(g4o N (by omega)).trans l0
  have k1 : gs4.get (N + 1) = some ⟨0,0,tmC u⟩:=(g4o (N + 1) (by omega)).trans l1
  rw [hs4] at hbn
  clear_value gs4
  obtain ⟨o1,n1,r1,nx1,gs5,ms5,a1,a2,a3,a4,a5,a6,a7,a8⟩:=renm_call 2001 0 (N + 4) (N + 3) (N + 2) .nils 0 t hc.fx gt (good_h gt) (by omega) (by omega) (N + 19) gs4 ms hBG (fun g h=>(hN g (by omega)).2) (fun g h e i m z he=>by cases he)
  have offn : ∀ g,Off .nils g:=fun g e i m z he=>by cases he
  have b1 : gs5.get (N + 1) = some ⟨0,0,tmC u⟩:=(a6 (N + 1) (by omega) (by omega) (offn _)).trans k1
  have hoff : ∀ g,nx1 ≤ g → Off o1 g:=fun g hg e i m z he=>by
   rcases a2.ow.2 with ⟨h,-⟩ | ⟨g1,e1,h,-,h3⟩
   ·rw [h] at he; cases he
   ·rw [h] at he; cases he
    have : g < nx1:=h3
    omega
  obtain ⟨o2,n2,r2,nx2,gs6,ms6,c1,c2,c3,c4,c5,c6,c7,c8⟩:=renm_call 2001 0 (N + 4) (N + 3) (N + 2) o1 n1 u hc.fy gu (good_h gu) (by omega) (by omega) nx1 gs5 ms5 a2 a8 hoff
  obtain ⟨a,b,hap⟩:=hc.both r1 r2
  have hboth : icall ysCo lsCo 2001 3 69 [.ptr (N + 3) 0 0,.agg (tmC (replU r1 t)),.agg (tmC (replU r2 u))] ⟨nx2,gs6,ms6⟩ = some (bothY n2 (replU r1 t) (replU r2 u),⟨nx2,gs6,ms6⟩):=by
   rw [icall_hook (k:=relH (readR bothQ)) rfl]
   exact readR_eq bothQ_one ⟨N + 3,n2,replU r1 t,replU r2 u,a,b,rfl,c2.at,repu_fine a4 hc.fx,repu_fine c4 hc.fy,hap,rfl⟩
  obtain ⟨y1,y2,hy⟩ : ∃ y1 y2,bothY n2 (replU r1 t) (replU r2 u) = .tup [.bool false,.int .i64 y1,.int .i64 y2]:=by
   unfold bothY
   split
   ·exact ⟨_,_,rfl⟩
   ·exact ⟨_,_,rfl⟩
  rw [hy] at hboth
  unfold tmA
  simp (maxSteps:=1000000) (disch:=omega) only [yCould,xinit_2,↓axP,axQ,↓if_true,↓if_false,ite_true,ite_false,reduceIte,ne_eq,eq_self,Nat.reduceAdd,Nat.reduceSub,Nat.reduceMul,Nat.reduceLeDiff,Nat.reduceEqDiff,Nat.reduceBEq,reduceCtorEq,Int.reduceToNat,Int.reduceLT,Int.reduceLE,Int.reduceEq,Int.reduceAdd,Int.reduceSub,Int.reduceNeg,capnY,appzY,tmC_len,tmC_0,tmC_1,tmC_2,tmC_3,tmC_take,tmC_drop,tmC_one,tmC_ne,e0,e1,q1,q2,hs2,l0,l1,hgt,hgu,hbn,k0,k1,a1,b1,c1,hboth,Nat.add_assoc]
  have offo : ∀ g,g < N → Off o1 g:=fun g hg e i m z he=>by have:=a2.ob g e i m z he; omega
  refine Comes.some (Canon.same hcl (fun g r h=>?_) (fun g r h=>?_) (.pure (x:=.bool false) rfl))
  ·have hlt:=lt g r h
   rw [show gs6.get g = gs5.get g from c6 g (by omega) (by omega) (offo g hlt),a6 g (by omega) (by omega) (offn g),g4o g (by omega),g2o g (by omega) (by omega)]; exact h
  ·have hlt:=ltm g r h
   rw [show ms6.get g = ms5.get g from c7 g (by omega),a7 g (by omega)]; exact h
 ·cases h
end Go.Proofs.YtdekdghldblfaaaGreatDoor
namespace Go.Proofs.YtdekdghldblfaaaGreatDoor
open Go Go.Abs Go.RowKit
set_option linter.unusedVariables false
set_option linter.unusedSimpArgs false
def OwnK (la : Int) (k : List UInt8 × Int) (c : Cl) : Prop:=c.hd.kind ≠ 0 ∧ c.hd.kind ≠ 1 ∧ c.hd.name = k.1 ∧ (c.hd.args.length : Int) = k.2 ∧ c.id ≤ la
def FInv (s : St) : Prop:=∀ e ∈ s.m,(∀ c ∈ e.2.2,OwnK s.la e.2.1 c) ∧ (e.2.2.map (·.id)).Nodup
theorem finv0 (q : Int) (n : Nat) : FInv (st0 q n):=fun e he=>(by cases he)
theorem sof_head {ps : List Pr} {t : Tm} (h : (sofP ps t).2 = 0) : t.kind ≠ 0 ∧ t.kind ≠ 1 ∧ t.name = (sofP ps t).1.nm ∧ (t.args.length : Int) = (sofP ps t).1.ar:=by
 revert h
 unfold sofP
 cases hg : t.good with
 | false=>simp
 | true=>
  simp only [if_true]
  by_cases k0 : t.kind = 0
  ·rw [if_pos k0]; simp
  ·rw [if_neg k0]
   by_cases k1 : t.kind = 1
   ·rw [if_pos k1]; simp
   ·rw [if_neg k1]
    by_cases k2 : plainB t.name t.args.length = true
    ·rw [if_pos k2]; simp
    ·rw [if_neg k2]
     cases hf : findF ps t.name t.args.length with
     | none=>simp
     | some p=>
      intro _
      unfold findF at hf
      have:=List.find?_some hf
      simp only [Bool.and_eq_true,beq_iff_eq,decide_eq_true_eq] at this
      exact ⟨k0,k1,this.1.symm,this.2.symm⟩
theorem FInv.cls {s : St} (h : FInv s) (nm : List UInt8) (ar : Int) : (∀ c ∈ clsOf s nm ar,OwnK s.la (nm,ar) c) ∧ ((clsOf s nm ar).map (·.id)).Nodup:=by
 unfold clsOf
 cases hl : lookG (nm,ar) s.m with
 | none=>exact ⟨by simp,by simp⟩
 | some v=>
  obtain ⟨e,h1,h2,h3⟩:=look_mem hl
  subst h3
  have:=h e h1
  rw [h2] at this
  exact this
theorem FInv.view {s : St} (h : FInv s) (nm : List UInt8) (ar cl : Int) : (∀ c ∈ viewF s nm ar cl,OwnK s.la (nm,ar) c) ∧ ((viewF s nm ar cl).map (·.id)).Nodup:=by
 obtain ⟨h1,h2⟩:=h.cls nm ar
 refine ⟨fun c hc=>h1 c (List.mem_filter.1 hc).1,?_⟩
 exact h2.sublist ((List.filter_sublist).map _)
theorem FInv.add {s : St} (h : FInv s) {t : Tm} {l : Int} (first : Bool) : FInv (addP s t l first).2.2:=by
 rcases addP_cases s t l first with ⟨h1,h2,-⟩ | ⟨h1,h2,h3,h4,h5⟩
 ·rw [h2]; exact h
 ·rw [h5]
  simp only
  obtain ⟨a1,a2,a3,a4⟩:=sof_head h2
  generalize hp : (sofP s.ps (clauseP (plainT t)).1).1 = p at a3 a4 ⊢
  generalize hhd : (clauseP (plainT t)).1 = hd at a1 a2 a3 a4 ⊢
  generalize (clauseP (plainT t)).2.1 = bd
  have up : ∀ k c,OwnK s.la k c → OwnK (s.la + 1) k c:=fun k c ⟨q1,q2,q3,q4,q5⟩=>⟨q1,q2,q3,q4,by omega⟩
  intro e he
  rcases set_mem he with he | ⟨hk,he⟩
  ·obtain ⟨b1,b2⟩:=h e he
   exact ⟨fun c hc=>up _ c (b1 c hc),b2⟩
  ·obtain ⟨b1,b2⟩:=h.cls p.nm p.ar
   rw [he,hk]
   refine ⟨fun c hc=>?_,?_⟩
   ·rcases new_mem hc with rfl | hc
    ·exact ⟨a1,a2,a3,a4,Int.le_refl _⟩
    ·exact up _ c (b1 c hc)
   ·have hn : s.la + 1 ∉ (clsOf s p.nm p.ar).map (·.id):=by
     intro hm
     rw [List.mem_map] at hm
     obtain ⟨c,hc,e⟩:=hm
     have:=(b1 c hc).2.2.2.2
     omega
    unfold newL
    cases first with
    | true=>simpa using ⟨by simpa using hn,b2⟩
    | false=>
     simp only [Bool.false_eq_true,if_false,List.map_append,List.map_cons,List.map_nil]
     rw [List.nodup_append]
     refine ⟨b2,by simp,fun x hx y hy=>?_⟩
     simp at hy
     subst hy
     exact fun e=>hn (e ▸ hx)
theorem noC_of {s : St} (h : FInv s) (hok : OkSt s) {goal : Tm} (hf : Fine 1000 goal) (hk : goal.kind = 2) {c : Cl} {cl : Int} (hc : c ∈ viewF s goal.name goal.args.length cl) (hn : keepB (keyP goal) c = false) : NoC c.hd goal:=by
 obtain ⟨k0,k1,nm,len,-⟩:=(h.view goal.name goal.args.length cl).1 c hc
 have ho:=(hok.cls goal.name goal.args.length).2 c (List.mem_filter.1 hc).1
 have hkey : (keyP c.hd).1 ≠ 0:=by
  intro e
  unfold keepB mayP at hn
  rw [e] at hn
  simp at hn
 obtain ⟨hg,-⟩:=key_some hkey
 have hgo:=good_gone hg
 have k2 : c.hd.kind = 2:=by
  unfold goneP at hgo
  rw [if_neg k0,if_neg k1] at hgo
  by_cases h2 : c.hd.kind = 2
  ·exact h2
  ·rw [if_neg h2] at hgo; cases hgo
 exact ⟨ho.1.2,hf,k0,by rw [k2,hk],nm,by omega,hn⟩
end Go.Proofs.YtdekdghldblfaaaGreatDoor
namespace Go.Proofs.YtdekdghldblfaaaGreatDoor
open Go Go.Abs Go.RowKit
set_option linter.unusedVariables false
set_option linter.unusedSimpArgs false
attribute [local congr] on_congr br_congr onf_congr
def FtEnd (g : Tm) (n : Nat) (r : XR) : Prop:=(∃ H',r = some (.ret,mk [(4,.bool true)],H')) ∨ (∃ s' nx gs ms,r = some (.exit 0,mk [(3,.ptr 0 0 0),(5,.ptr 1 0 0)],⟨nx,gs,ms⟩) ∧ Good ⟨nx,gs,ms⟩ 1 s' n ∧ FInv s' ∧ gs.get 0 = some ⟨0,0,tmC g⟩)
theorem FtEnd_congr {g : Tm} {n : Nat} {r r' : XR} (h : r = r') : FtEnd g n r = FtEnd g n r':=by rw [h]
attribute [local congr] FtEnd_congr
noncomputable abbrev lsFt : List (FuncId × (List AV → AH → Option (AV × AH))):=[(9,pureF awakeS18),(10,relH madeR),(11,pureF (deepS 30)),(12,relH addR),(26,relH (readR viewQ)),(27,relH (readR fitsQ)),(30,pureF couldS)]
theorem lsFt_ok : ∀ e ∈ lsFt,HookOne Tryz.prog e.1 e.2:=by
 intro e he
 simp only [lsFt,List.mem_cons,List.not_mem_nil,or_false] at he
 rcases he with rfl | rfl | rfl | rfl | rfl | rfl | rfl
 ·exact awake18_one
 ·exact made_one
 ·exact deep_any18 30
 ·exact add_one
 ·exact view_one
 ·exact fits_one
 ·exact could_one
set_option maxHeartbeats 4000000 in
theorem ft_loop (F0 : Nat) (goal : Tm) (acs : List Ac) (hlen : acs.length ≤ 25) (hfi : ∀ a ∈ acs,Fine maxLen a.t) : ∀ (l2 l1 : List Ac) (s : St) (nx : Nat) (gs : Tr Grp) (ms : Tr MapA) (F : Nat),acs = l1 ++ l2 → Good ⟨nx,gs,ms⟩ 1 s l1.length → FInv s → gs.get 0 = some ⟨0,0,tmC goal⟩ → l2.length < F →
  FtEnd goal acs.length (iter (ycode (tcall lsFt) F0 yStoreFitsa) F (mk [(0,.vals 8 (acs.map acC)),(3,.ptr 0 0 0),(5,.ptr 1 0 0),(7,.int .i64 l1.length)]) ⟨nx,gs,ms⟩):=by
 intro l2
 induction l2 with
 | nil=>
  intro l1 s nx gs ms F h1 hg hv h0 h4
  obtain ⟨k,rfl⟩:=iter_pos (f:=fun _ _=>none) (n:=F) (by omega)
  rw [List.append_nil] at h1
  subst h1
  have hlt : ((acs.length : Int) < (acs.length : Int)) = False:=by simp
  rw [iter_one]
  simp (maxSteps:=1000000) (disch:=omega) only [yStoreFitsa_r,yStoreFitsa_,↓axP,axQ,↓if_true,↓if_false,ite_true,ite_false,reduceIte,ne_eq,eq_self,Nat.reduceAdd,Nat.reduceSub,Nat.reduceMul,Nat.reduceLeDiff,Nat.reduceEqDiff,Nat.reduceBEq,reduceCtorEq,Int.reduceToNat,Int.reduceLT,Int.reduceLE,Int.reduceEq,Int.reduceAdd,Int.reduceSub,Int.reduceNeg,capnY,appzY,tmC_len,tmC_0,tmC_1,tmC_2,tmC_3,tmC_take,tmC_drop,tmC_one,tmC_ne,hlt,List.length_map]
  exact .inr ⟨s,nx,gs,ms,rfl,hg,hv,h0⟩
 | cons a l2 ih=>
  intro l1 s nx gs ms F h1 hg hv h0 h4
  obtain ⟨k,rfl⟩:=iter_pos (f:=fun _ _=>none) (n:=F) (by omega)
  have hR : l1.length + 1 ≤ 25:=by rw [h1] at hlen; simp at hlen; omega
  have hlt : ((l1.length : Int) < (acs.length : Int)) = True:=eq_true (by rw [h1]; simp; omega)
  have hget : (acs.map acC)[l1.length]? = some (.int .i64 a.op :: .int .i64 a.id :: (tmC a.t ++ [.int .u64 a.l,.bool a.first])):=by rw [h1]; simp [acC]
  have hi : (0 : Int) ≤ (l1.length : Int):=by omega
  have hw : IntKind.i64.wrap ((l1.length : Int) + 1) = (l1.length : Int) + 1:=by rw [wrap_i64] <;> omega
  have hdp:=deepS_eq (m:=30) (n:=30) (t:=a.t) ⟨rfl,by omega⟩
  rw [iter_one]
  cases hd : deepP 30 a.t with
  | true=>
   rw [hd] at hdp
   simp (maxSteps:=1000000) (disch:=omega) only [yStoreFitsa_r,yStoreFitsa_,↓axP,axQ,↓if_true,↓if_false,ite_true,ite_false,reduceIte,ne_eq,eq_self,Nat.reduceAdd,Nat.reduceSub,Nat.reduceMul,Nat.reduceLeDiff,Nat.reduceEqDiff,Nat.reduceBEq,reduceCtorEq,Int.reduceToNat,Int.reduceLT,Int.reduceLE,Int.reduceEq,Int.reduceAdd,Int.reduceSub,Int.reduceNeg,capnY,appzY,tmC_len,tmC_0,tmC_1,tmC_2,tmC_3,tmC_take,tmC_drop,tmC_one,tmC_ne,hlt,hi,hget,hdp,Int.toNat_natCast,List.length_map]
   exact .inl ⟨_,rfl⟩
  | false=>
   rw [hd] at hdp
   have hft : Fine 1000 a.t:=fine_le (by omega) _ (deep_fine 30 a.t hd (hfi a (by rw [h1]; simp)))
   have hl3:=and3 a.l
   generalize hle : andI a.l 3 = l at hl3
   obtain ⟨gs',ms',a1,g1,o1,-⟩:=(hg.next (nx:=nx + 18)).eq' (by omega) hft hl3 a.first
   have hv':=hv.add (t:=a.t) (l:=l) a.first
   generalize addP s a.t l a.first = r at a1 g1 hv'
   obtain ⟨id,e,s'⟩:=r
   simp only at a1 g1 hv'
   have hs : (l1 ++ [a]).length = l1.length + 1:=by simp
   have IH:=fun nx=>ih (l1 ++ [a]) s' nx gs' ms' k (by simp [h1]) (by rw [hs]; exact g1.next) hv' ((o1 0 (by omega)).trans h0) (by simp at h4; omega)
   rw [hs] at IH
   simp (maxSteps:=1000000) (disch:=omega) only [↓axP,axQ,↓if_true,↓if_false,ite_true,ite_false,reduceIte,ne_eq,eq_self,Nat.reduceAdd,Nat.reduceSub,Nat.reduceMul,Nat.reduceLeDiff,Nat.reduceEqDiff,Nat.reduceBEq,reduceCtorEq,Int.reduceToNat,Int.reduceLT,Int.reduceLE,Int.reduceEq,Int.reduceAdd,Int.reduceSub,Int.reduceNeg,capnY,appzY] at IH
   simp (maxSteps:=1000000) (disch:=omega) only [yStoreFitsa_r,yStoreFitsa_,↓axP,axQ,↓if_true,↓if_false,ite_true,ite_false,reduceIte,ne_eq,eq_self,Nat.reduceAdd,Nat.reduceSub,Nat.reduceMul,Nat.reduceLeDiff,Nat.reduceEqDiff,Nat.reduceBEq,reduceCtorEq,Int.reduceToNat,Int.reduceLT,Int.reduceLE,Int.reduceEq,Int.reduceAdd,Int.reduceSub,Int.reduceNeg,capnY,appzY,tmC_len,tmC_0,tmC_1,tmC_2,tmC_3,tmC_take,tmC_drop,tmC_one,tmC_ne,hlt,hi,hget,hdp,hw,tmC_4,tmC_5,b_and,hle,a1,Int.toNat_natCast,List.length_map]
   exact IH _
set_option maxHeartbeats 4000000 in
theorem ftb_loop (F0 : Nat) (goal : Tm) (xs : List Cl) (hx : xs.length ≤ 1000000) (hid : (xs.map (·.id)).Nodup) (hno : ∀ c ∈ xs,keepB (keyP goal) c = false → NoC c.hd goal) (gs : Tr Grp) (ms : Tr MapA) (h0 : gs.get 0 = some ⟨0,0,tmC goal⟩) : ∀ (x2 x1 : List Cl) (nx F : Nat),xs = x1 ++ x2 → x2.length < F →
  ∃ nx',iter (ycode (tcall lsFt) F0 yStoreFitsb) F (mk [(3,.ptr 0 0 0),(8,.vals 10 (xs.map clC)),(9,.vals 10 ((xs.filter (keepB (keyP goal))).map clC)),(10,.int .i64 (x1.filter (keepB (keyP goal))).length),(11,.int .i64 x1.length)]) ⟨nx,gs,ms⟩ = some (.exit 2,mk [(9,.vals 10 ((xs.filter (keepB (keyP goal))).map clC)),(10,.int .i64 (xs.filter (keepB (keyP goal))).length)],⟨nx',gs,ms⟩):=by
 intro x2
 induction x2 with
 | nil=>
  intro x1 nx F h1 h4
  obtain ⟨k,rfl⟩:=iter_pos (f:=fun _ _=>none) (n:=F) (by omega)
  rw [List.append_nil] at h1
  subst h1
  have hlt : ((xs.length : Int) < (xs.length : Int)) = False:=by simp
  refine ⟨nx,?_⟩
  rw [iter_one]
  simp (maxSteps:=1000000) (disch:=omega) only [yStoreFitsb_r,yStoreFitsb_,↓axP,axQ,↓if_true,↓if_false,ite_true,ite_false,reduceIte,ne_eq,eq_self,Nat.reduceAdd,Nat.reduceSub,Nat.reduceMul,Nat.reduceLeDiff,Nat.reduceEqDiff,Nat.reduceBEq,reduceCtorEq,Int.reduceToNat,Int.reduceLT,Int.reduceLE,Int.reduceEq,Int.reduceAdd,Int.reduceSub,Int.reduceNeg,capnY,appzY,tmC_len,tmC_0,tmC_1,tmC_2,tmC_3,tmC_take,tmC_drop,tmC_one,tmC_ne,hlt,List.length_map]
 | cons c x2 ih=>
  intro x1 nx F h1 h4
  obtain ⟨k,rfl⟩:=iter_pos (f:=fun _ _=>none) (n:=F) (by omega)
  have hR : x1.length + 1 ≤ 1000000:=by rw [h1] at hx; simp at hx; omega
  have hlt : ((x1.length : Int) < (xs.length : Int)) = True:=eq_true (by rw [h1]; simp; omega)
  have hgx : (xs.map clC)[x1.length]? = some (.int .i64 c.id :: .int .u64 c.lab :: (tmC c.hd ++ tmC c.bd)):=by rw [h1]; simp [clC]
  have hi : (0 : Int) ≤ (x1.length : Int):=by omega
  have hw : IntKind.i64.wrap ((x1.length : Int) + 1) = (x1.length : Int) + 1:=by rw [wrap_i64] <;> omega
  have hfl : (x1.filter (keepB (keyP goal))).length ≤ x1.length:=List.length_filter_le _ _
  have hik : (0 : Int) ≤ ((x1.filter (keepB (keyP goal))).length : Int):=by omega
  have hwk : IntKind.i64.wrap (((x1.filter (keepB (keyP goal))).length : Int) + 1) = ((x1.filter (keepB (keyP goal))).length : Int) + 1:=by rw [wrap_i64] <;> omega
  have hs : (x1 ++ [c]).length = x1.length + 1:=by simp
  have hys : xs.filter (keepB (keyP goal)) = x1.filter (keepB (keyP goal)) ++ (c :: x2).filter (keepB (keyP goal)):=by rw [h1,List.filter_append]
  cases hk : keepB (keyP goal) c with
  | true=>
   have hn : ((x1 ++ [c]).filter (keepB (keyP goal))).length = (x1.filter (keepB (keyP goal))).length + 1:=by simp [List.filter_append,hk]
   have hgy : ((xs.filter (keepB (keyP goal))).map clC)[(x1.filter (keepB (keyP goal))).length]? = some (.int .i64 c.id :: .int .u64 c.lab :: (tmC c.hd ++ tmC c.bd)):=by
    rw [hys,List.filter_cons_of_pos hk]; simp [clC]
   have hlk : (((x1.filter (keepB (keyP goal))).length : Int) < ((xs.filter (keepB (keyP goal))).length : Int)) = True:=eq_true (by rw [hys,List.filter_cons_of_pos hk]; simp; omega)
   obtain ⟨nx2,k3⟩:=ih (x1 ++ [c]) (nx + 17) k (by simp [h1]) (by simp at h4; omega)
   rw [hs,hn] at k3
   refine ⟨nx2,?_⟩
   rw [iter_one]
   generalize xs.filter (keepB (keyP goal)) = ys at *
   generalize (x1.filter (keepB (keyP goal))).length = m at *
   simp (maxSteps:=1000000) (disch:=omega) only [↓axP,axQ,↓if_true,↓if_false,ite_true,ite_false,reduceIte,ne_eq,eq_self,Nat.reduceAdd,Nat.reduceSub,Nat.reduceMul,Nat.reduceLeDiff,Nat.reduceEqDiff,Nat.reduceBEq,reduceCtorEq,Int.reduceToNat,Int.reduceLT,Int.reduceLE,Int.reduceEq,Int.reduceAdd,Int.reduceSub,Int.reduceNeg,capnY,appzY] at k3
   simp (maxSteps:=1000000) (disch:=omega) only [yStoreFitsb_r,yStoreFitsb_,↓axP,axQ,↓if_true,↓if_false,ite_true,ite_false,reduceIte,ne_eq,eq_self,Nat.reduceAdd,Nat.reduceSub,Nat.reduceMul,Nat.reduceLeDiff,Nat.reduceEqDiff,Nat.reduceBEq,reduceCtorEq,Int.reduceToNat,Int.reduceLT,Int.reduceLE,Int.reduceEq,Int.reduceAdd,Int.reduceSub,Int.reduceNeg,capnY,appzY,tmC_len,tmC_0,tmC_1,tmC_2,tmC_3,tmC_take,tmC_drop,tmC_one,tmC_ne,hlt,hi,hik,hwk,hlk,hgx,hgy,hw,Int.toNat_natCast,List.length_map,k3]
  | false=>
   have hn : ((x1 ++ [c]).filter (keepB (keyP goal))).length = (x1.filter (keepB (keyP goal))).length:=by simp [List.filter_append,hk]
   rw [List.filter_cons_of_neg (by simp [hk])] at hys
   have hco:=couldS_eq (hno c (by rw [h1]; simp) hk)
   obtain ⟨nx2,k3⟩:=ih (x1 ++ [c]) (nx + 24) k (by simp [h1]) (by simp at h4; omega)
   rw [hs,hn] at k3
   refine ⟨nx2,?_⟩
   rw [iter_one]
   cases hr : x2.filter (keepB (keyP goal)) with
   | nil=>
    have hlk : (((x1.filter (keepB (keyP goal))).length : Int) < ((xs.filter (keepB (keyP goal))).length : Int)) = False:=eq_false (by rw [hys,hr]; simp)
    generalize xs.filter (keepB (keyP goal)) = ys at *
    generalize (x1.filter (keepB (keyP goal))).length = m at *
    simp (maxSteps:=1000000) (disch:=omega) only [↓axP,axQ,↓if_true,↓if_false,ite_true,ite_false,reduceIte,ne_eq,eq_self,Nat.reduceAdd,Nat.reduceSub,Nat.reduceMul,Nat.reduceLeDiff,Nat.reduceEqDiff,Nat.reduceBEq,reduceCtorEq,Int.reduceToNat,Int.reduceLT,Int.reduceLE,Int.reduceEq,Int.reduceAdd,Int.reduceSub,Int.reduceNeg,capnY,appzY] at k3
    simp (maxSteps:=1000000) (disch:=omega) only [yStoreFitsb_r,yStoreFitsb_,↓axP,axQ,↓if_true,↓if_false,ite_true,ite_false,reduceIte,ne_eq,eq_self,Nat.reduceAdd,Nat.reduceSub,Nat.reduceMul,Nat.reduceLeDiff,Nat.reduceEqDiff,Nat.reduceBEq,reduceCtorEq,Int.reduceToNat,Int.reduceLT,Int.reduceLE,Int.reduceEq,Int.reduceAdd,Int.reduceSub,Int.reduceNeg,capnY,appzY,tmC_len,tmC_0,tmC_1,tmC_2,tmC_3,tmC_take,tmC_drop,tmC_one,tmC_ne,hlt,hi,hik,hlk,hgx,hw,h0,hco,Int.toNat_natCast,List.length_map,k3,Nat.add_assoc]
   | cons d x3=>
    have hlk : (((x1.filter (keepB (keyP goal))).length : Int) < ((xs.filter (keepB (keyP goal))).length : Int)) = True:=eq_true (by rw [hys,hr]; simp; omega)
    have hgy : ((xs.filter (keepB (keyP goal))).map clC)[(x1.filter (keepB (keyP goal))).length]? = some (.int .i64 d.id :: .int .u64 d.lab :: (tmC d.hd ++ tmC d.bd)):=by
     rw [hys,hr]; simp [clC]
    have hne : (d.id = c.id) = False:=eq_false fun e=>by
     have hd : d ∈ x2:=by
      have : d ∈ x2.filter (keepB (keyP goal)):=by rw [hr]; simp
      exact (List.mem_filter.1 this).1
     rw [h1,List.map_append,List.map_cons,List.nodup_append] at hid
     have h2:=hid.2.1
     rw [List.nodup_cons] at h2
     exact h2.1 (List.mem_map.2 ⟨d,hd,e⟩)
    generalize xs.filter (keepB (keyP goal)) = ys at *
    generalize (x1.filter (keepB (keyP goal))).length = m at *
    simp (maxSteps:=1000000) (disch:=omega) only [↓axP,axQ,↓if_true,↓if_false,ite_true,ite_false,reduceIte,ne_eq,eq_self,Nat.reduceAdd,Nat.reduceSub,Nat.reduceMul,Nat.reduceLeDiff,Nat.reduceEqDiff,Nat.reduceBEq,reduceCtorEq,Int.reduceToNat,Int.reduceLT,Int.reduceLE,Int.reduceEq,Int.reduceAdd,Int.reduceSub,Int.reduceNeg,capnY,appzY] at k3
    simp (maxSteps:=1000000) (disch:=omega) only [yStoreFitsb_r,yStoreFitsb_,↓axP,axQ,↓if_true,↓if_false,ite_true,ite_false,reduceIte,ne_eq,eq_self,Nat.reduceAdd,Nat.reduceSub,Nat.reduceMul,Nat.reduceLeDiff,Nat.reduceEqDiff,Nat.reduceBEq,reduceCtorEq,Int.reduceToNat,Int.reduceLT,Int.reduceLE,Int.reduceEq,Int.reduceAdd,Int.reduceSub,Int.reduceNeg,capnY,appzY,tmC_len,tmC_0,tmC_1,tmC_2,tmC_3,tmC_take,tmC_drop,tmC_one,tmC_ne,hlt,hi,hik,hlk,hgx,hgy,hne,hw,h0,hco,Int.toNat_natCast,List.length_map,k3,Nat.add_assoc]
set_option maxHeartbeats 4000000 in
theorem fits_run (acs : List Ac) (goal : Tm) (hlen : acs.length ≤ 9223372036854775807) (hfi : ∀ a ∈ acs,Fine maxLen a.t) (hfg : Fine maxLen goal) (H : AH) : ACalls Tryz.prog 8 [.vals 8 (acs.map acC),tmA goal] H fun y H'=>y = .bool true ∧ H' = H:=by
 refine ACalls.ofRun lsFt_ok mixed (draws _ rfl) yStoreFits_ok rfl (by simp [pureL,pureA,pure_acs,acC_len,pure_tmA]) 100 ?_ H
 have hml : (acs.map acC).length = acs.length:=by simp
 unfold tmA
 by_cases q3 : 25 < (acs.length : Int)
 ·have q3' : (25 < (acs.length : Int)) = True:=eq_true q3
  simp (maxSteps:=1000000) (disch:=omega) only [yStoreFits,xinit_2,↓axP,axQ,↓if_true,↓if_false,ite_true,ite_false,reduceIte,ne_eq,eq_self,Nat.reduceAdd,Nat.reduceSub,Nat.reduceMul,Nat.reduceLeDiff,Nat.reduceEqDiff,Nat.reduceBEq,reduceCtorEq,Int.reduceToNat,Int.reduceLT,Int.reduceLE,Int.reduceEq,Int.reduceAdd,Int.reduceSub,Int.reduceNeg,capnY,appzY,tmC_len,tmC_0,tmC_1,tmC_2,tmC_3,tmC_take,tmC_drop,tmC_one,tmC_ne,awake18_eq,hml,q3']
  exact Ans.some (.pure rfl)
 ·have q3' : (25 < (acs.length : Int)) = False:=eq_false q3
  have hdp:=deepS_eq (m:=30) (n:=30) (t:=goal) ⟨rfl,by omega⟩
  cases hd : deepP 30 goal with
  | true=>
   rw [hd] at hdp
   simp (maxSteps:=1000000) (disch:=omega) only [yStoreFits,xinit_2,↓axP,axQ,↓if_true,↓if_false,ite_true,ite_false,reduceIte,ne_eq,eq_self,Nat.reduceAdd,Nat.reduceSub,Nat.reduceMul,Nat.reduceLeDiff,Nat.reduceEqDiff,Nat.reduceBEq,reduceCtorEq,Int.reduceToNat,Int.reduceLT,Int.reduceLE,Int.reduceEq,Int.reduceAdd,Int.reduceSub,Int.reduceNeg,capnY,appzY,tmC_len,tmC_0,tmC_1,tmC_2,tmC_3,tmC_take,tmC_drop,tmC_one,tmC_ne,awake18_eq,hml,q3',hdp]
   exact Ans.some (.pure rfl)
  | false=>
   rw [hd] at hdp
   have hft : Fine 1000 goal:=fine_le (by omega) _ (deep_fine 30 goal hd hfg)
   by_cases k2 : goal.kind = 2
   ·have k2' : (goal.kind = 2) = True:=eq_true k2
    have e1 : (Tr.nil.set 0 (⟨0,0,tmC goal⟩ : Grp)).get 1 = none:=by rw [Tr.get_set_ne _ _ (by omega)]; exact Tr.get_nil _
    have hm : relH madeR [.int .i64 30] ⟨1,Tr.nil.set 0 ⟨0,0,tmC goal⟩,.nil⟩ = some (.tup [.ptr 1 0 0,.vptr [] 0],⟨4,(madeH ⟨1,Tr.nil.set 0 ⟨0,0,tmC goal⟩,.nil⟩ 30).gs,(madeH ⟨1,Tr.nil.set 0 ⟨0,0,tmC goal⟩,.nil⟩ 30).ms⟩):=made_eq 30 (by omega) e1 (Tr.get_nil _) (Tr.get_nil _)
    have g0 : Good ⟨4,(madeH ⟨1,Tr.nil.set 0 ⟨0,0,tmC goal⟩,.nil⟩ 30).gs,(madeH ⟨1,Tr.nil.set 0 ⟨0,0,tmC goal⟩,.nil⟩ 30).ms⟩ 1 (st0 30 1) 0:=good0 ⟨1,Tr.nil.set 0 ⟨0,0,tmC goal⟩,.nil⟩ 30
    have b0 : (madeH ⟨1,Tr.nil.set 0 ⟨0,0,tmC goal⟩,.nil⟩ 30).gs.get 0 = some ⟨0,0,tmC goal⟩:=by
     show ((Tr.nil.set 0 _).set 1 _).get 0 = _
     rw [Tr.get_set_ne _ _ (by omega),Tr.get_set_same]
    generalize (madeH ⟨1,Tr.nil.set 0 ⟨0,0,tmC goal⟩,.nil⟩ 30).gs = gs0 at hm g0 b0
    generalize (madeH ⟨1,Tr.nil.set 0 ⟨0,0,tmC goal⟩,.nil⟩ 30).ms = ms0 at hm g0
    have hE:=ft_loop 100 goal acs (by omega) hfi acs [] (st0 30 1) 4 gs0 ms0 100 rfl g0 (finv0 30 1) b0 (by omega)
    simp (maxSteps:=1000000) (disch:=omega) only [↓axP,axQ,↓if_true,↓if_false,ite_true,ite_false,reduceIte,ne_eq,eq_self,Nat.reduceAdd,Nat.reduceSub,Nat.reduceMul,Nat.reduceLeDiff,Nat.reduceEqDiff,Nat.reduceBEq,reduceCtorEq,Int.reduceToNat,Int.reduceLT,Int.reduceLE,Int.reduceEq,Int.reduceAdd,Int.reduceSub,Int.reduceNeg,capnY,appzY] at hE
    rcases hE with ⟨H',k1⟩ | ⟨s',nx,gs,ms,k1,hg,hv,hb⟩
    ·simp (maxSteps:=1000000) (disch:=omega) only [yStoreFits,xinit_2,↓axP,axQ,↓if_true,↓if_false,ite_true,ite_false,reduceIte,ne_eq,eq_self,Nat.reduceAdd,Nat.reduceSub,Nat.reduceMul,Nat.reduceLeDiff,Nat.reduceEqDiff,Nat.reduceBEq,reduceCtorEq,Int.reduceToNat,Int.reduceLT,Int.reduceLE,Int.reduceEq,Int.reduceAdd,Int.reduceSub,Int.reduceNeg,capnY,appzY,tmC_len,tmC_0,tmC_1,tmC_2,tmC_3,tmC_take,tmC_drop,tmC_one,tmC_ne,awake18_eq,hml,q3',hdp,k2',hm,k1]
     exact Ans.some (.pure rfl)
    ·have hVw : ∀ nx,relH (readR viewQ) [.ptr 1 0 0,.str goal.name,.int .i64 goal.args.length,.int .u64 3] ⟨nx,gs,ms⟩ = some (.vals 10 ((viewF s' goal.name goal.args.length 3).map clC),⟨nx,gs,ms⟩):=fun nx=>readR_eq viewQ_one ⟨1,s',goal.name,goal.args.length,3,rfl,hg.at'.move rfl rfl,hg.ok,rfl⟩
     have hFt : ∀ nx,relH (readR fitsQ) [.ptr 1 0 0,.agg (tmC goal),.int .u64 3] ⟨nx,gs,ms⟩ = some (.vals 10 ((fitF s' goal 3).map clC),⟨nx,gs,ms⟩):=fun nx=>readR_eq fitsQ_one ⟨1,s',goal,3,rfl,hg.at'.move rfl rfl,hg.ok,hft,k2,rfl⟩
     have hlv : (viewF s' goal.name goal.args.length 3).length ≤ 25:=by
      have h1:=(hg.ok.cls goal.name goal.args.length).1
      have h2:=hg.la
      have h3 : (viewF s' goal.name goal.args.length 3).length ≤ (clsOf s' goal.name goal.args.length).length:=List.length_filter_le _ _
      omega
     obtain ⟨nx',kb⟩:=ftb_loop 100 goal (viewF s' goal.name goal.args.length 3) (by omega) (hv.view _ _ _).2 (fun c hc hn=>noC_of hv hg.ok hft k2 hc hn) gs ms hb (viewF s' goal.name goal.args.length 3) [] (nx + 12) 100 rfl (by omega)
     unfold fitF at hFt
     have hfl : (((viewF s' goal.name goal.args.length 3).filter (keepB (keyP goal))).map clC).length = ((viewF s' goal.name goal.args.length 3).filter (keepB (keyP goal))).length:=by simp
     generalize (viewF s' goal.name goal.args.length 3).filter (keepB (keyP goal)) = ys at *
     have hkb : ((ys.length : Int) = (ys.length : Int)) = True:=by simp
     simp (maxSteps:=1000000) (disch:=omega) only [↓axP,axQ,↓if_true,↓if_false,ite_true,ite_false,reduceIte,ne_eq,eq_self,Nat.reduceAdd,Nat.reduceSub,Nat.reduceMul,Nat.reduceLeDiff,Nat.reduceEqDiff,Nat.reduceBEq,reduceCtorEq,Int.reduceToNat,Int.reduceLT,Int.reduceLE,Int.reduceEq,Int.reduceAdd,Int.reduceSub,Int.reduceNeg,capnY,appzY,List.filter_nil] at kb
     simp (maxSteps:=1000000) (disch:=omega) only [yStoreFits,xinit_2,↓axP,axQ,↓if_true,↓if_false,ite_true,ite_false,reduceIte,ne_eq,eq_self,Nat.reduceAdd,Nat.reduceSub,Nat.reduceMul,Nat.reduceLeDiff,Nat.reduceEqDiff,Nat.reduceBEq,reduceCtorEq,Int.reduceToNat,Int.reduceLT,Int.reduceLE,Int.reduceEq,Int.reduceAdd,Int.reduceSub,Int.reduceNeg,capnY,appzY,tmC_len,tmC_0,tmC_1,tmC_2,tmC_3,tmC_take,tmC_drop,tmC_one,tmC_ne,awake18_eq,hml,q3',hdp,k2',hm,k1,hb,hVw,hFt,kb,hfl,hkb,List.length_map]
     exact Ans.some (.pure rfl)
   ·have k2' : (goal.kind = 2) = False:=eq_false k2
    simp (maxSteps:=1000000) (disch:=omega) only [yStoreFits,xinit_2,↓axP,axQ,↓if_true,↓if_false,ite_true,ite_false,reduceIte,ne_eq,eq_self,Nat.reduceAdd,Nat.reduceSub,Nat.reduceMul,Nat.reduceLeDiff,Nat.reduceEqDiff,Nat.reduceBEq,reduceCtorEq,Int.reduceToNat,Int.reduceLT,Int.reduceLE,Int.reduceEq,Int.reduceAdd,Int.reduceSub,Int.reduceNeg,capnY,appzY,tmC_len,tmC_0,tmC_1,tmC_2,tmC_3,tmC_take,tmC_drop,tmC_one,tmC_ne,awake18_eq,hml,q3',hdp,k2']
    exact Ans.some (.pure rfl)
end Go.Proofs.YtdekdghldblfaaaGreatDoor
