
import Derived.Test.YtdekdghldblfaaaGreatDoorYUn
import Derived.Test.YtdekdghldblfaaaGreatDoorSymVV
import Derived.Test.YtdekdghldblfaaaGreatDoorAbsV
namespace Go.Proofs.YtdekdghldblfaaaGreatDoor
open Go Go.Abs Go.RowKit
set_option linter.unusedVariables false
set_option linter.unusedSimpArgs false
attribute [local congr] on_congr br_congr onf_congr
attribute [local congr] Comes_congr
def z0T : Tm:=.mk 0 0 [] []
mutual
def replU (r : Int → Option Tm) : Tm → Tm
 | .mk k n s l=>if k = 0 then (r n).getD z0T else .mk k n s (repuL r l)
def repuL (r : Int → Option Tm) : List Tm → List Tm
 | []=>[]
 | t :: ts=>replU r t :: repuL r ts
end
theorem repuL_map (r : Int → Option Tm) : ∀ l : List Tm,repuL r l = l.map (replU r)
 | []=>by simp [repuL]
 | t :: ts=>by simp [repuL,repuL_map r ts]
theorem replU_var {r : Int → Option Tm} {t : Tm} (h : t.kind = 0) : replU r t = (r t.num).getD z0T:=by
 cases t; simp only [Tm.kind] at h; simp [replU,h,Tm.num]
theorem replU_mk {r : Int → Option Tm} {t : Tm} (h : t.kind ≠ 0) : replU r t = .mk t.kind t.num t.name (t.args.map (replU r)):=by
 cases t; simp only [Tm.kind] at h; simp [replU,h,Tm.num,Tm.kind,Tm.name,Tm.args,repuL_map]
theorem mapM_get1 {v : AV} {nx : Nat} {gs : Tr Grp} {ms : Tr MapA} {m : List (Nat × Int × Tm)} (h : mapM v ms = some m) (z : AV) (n : Int) :
  mop (.get (.int .i64) z false) [v,.int .i64 n] ⟨nx,gs,ms⟩ = some (((rho m n).map tmA).getD z,⟨nx,gs,ms⟩):=by
 unfold mapM at h
 split at h
 ·cases h
  rw [mop_getn,mkey_i]
  simp [rho,mres]
 ·rename_i g
  rw [Option.bind_eq_some_iff] at h
  obtain ⟨es,h1,h2⟩:=h
  have:=ofE_ok h2
  rw [mop_get,mkey_i]
  simp only [decide_true,if_true,h1,on_some,this,find_ent]
  unfold rho
  cases m.find? fun e=>decide (n = e.2.1) with
  | none=>simp [mgres,mres]
  | some e=>simp [mgres,mres]
 ·cases h
noncomputable def repuS (n : Nat) : List AV → AH → Option AV
 | [x,v],H=>(ofT x).bind fun t=>(mapM v H.ms).bind fun m=>only (t.height ≤ n ∧ Fine 1000 t) (some (tmA (replU (rho m) t)))
 | _,_=>none
theorem repuS_eq {n : Nat} {t : Tm} {v : AV} {m : List (Nat × Int × Tm)} {H : AH} (hm : mapM v H.ms = some m) (h : t.height ≤ n ∧ Fine 1000 t) : readH (repuS n) [.agg (tmC t),v] H = some (.agg (tmC (replU (rho m) t)),H):=by
 refine readH_eq ?_
 show (ofT (tmA t)).bind _ = _
 rw [ofT_tm,Option.bind_some,hm,Option.bind_some]; exact only_eq h _
theorem repuS_ext {n : Nat} {args : List AV} {H H2 : AH} {y : AV} {R : Nat → Option Grp} (h : repuS n args H = some y) (he : Ext R H H2) : repuS n args H2 = some y:=by
 unfold repuS at h ⊢
 split at h
 ·rw [mapM_congr he.ms]; exact h
 ·cases h
set_option maxHeartbeats 1000000 in
theorem ru_loop {n : Nat} (F0 : Nat) (t : Tm) (B : Nat) (v : AV) (m : List (Nat × Int × Tm)) (gs0 : Tr Grp) (ms0 : Tr MapA) (hv : mapM v ms0 = some m) (hl : t.args.length ≤ 1000) : ∀ (l2 l1 : List Tm) (o : AV) (H : AH) (F : Nat),t.args = l1 ++ l2 → (∀ x ∈ l2,x.height ≤ n ∧ Fine 1000 x) → RpJ t B gs0 ms0 H o (l1.map (replU (rho m))) → l2.length < F →
  ∃ o' H',iter (ycode (tcall [(115,readH (repuS n))]) F0 yRplca) F (mk [(1,v),(4,.ptr (B + 1) 0 0),(5,.ptr (B + 2) 0 0),(18,.vals 4 (t.args.map tmC)),(19,.int .i64 t.args.length),(20,.int .i64 l1.length)]) H = some (.exit 0,mk [(4,.ptr (B + 1) 0 0),(5,.ptr (B + 2) 0 0)],H') ∧ RpJ t B gs0 ms0 H' o' (t.args.map (replU (rho m))):=by
 intro l2
 induction l2 with
 | nil=>
  intro l1 o H F h1 h2 h3 h4
  obtain ⟨k,rfl⟩:=iter_pos (f:=fun _ _=>none) (n:=F) (by omega)
  rw [List.append_nil] at h1
  have hlt : ((l1.length : Int) < (t.args.length : Int)) = False:=by rw [h1]; simp
  refine ⟨o,H,?_,by rw [h1]; exact h3⟩
  rw [iter_one]
  simp (maxSteps:=1000000) (disch:=omega) only [yRplca_r,yRplca_,↓axP,axQ,↓if_true,↓if_false,ite_true,ite_false,reduceIte,ne_eq,eq_self,Nat.reduceAdd,Nat.reduceSub,Nat.reduceMul,Nat.reduceLeDiff,Nat.reduceEqDiff,Nat.reduceBEq,reduceCtorEq,Int.reduceToNat,Int.reduceLT,Int.reduceLE,Int.reduceEq,Int.reduceAdd,Int.reduceSub,Int.reduceNeg,capnY,appzY,tmC_len,tmC_0,tmC_1,tmC_2,tmC_3,tmC_take,tmC_drop,tmC_one,tmC_ne,hlt,List.length_map]
 | cons x l2 ih=>
  intro l1 o H F h1 h2 h3 h4
  obtain ⟨k,rfl⟩:=iter_pos (f:=fun _ _=>none) (n:=F) (by omega)
  have hR : l1.length + 1 ≤ 1000:=by rw [h1] at hl; simp at hl; omega
  have hlt : ((l1.length : Int) < (t.args.length : Int)) = True:=eq_true (by rw [h1]; simp; omega)
  have hget : (t.args.map tmC)[l1.length]? = some (tmC x):=by rw [h1]; simp
  have hi : (0 : Int) ≤ (l1.length : Int):=by omega
  obtain ⟨w1,w2,g0,g1,g2,w3,w4,w5,w6⟩:=h3
  obtain ⟨nx,gs,ms⟩:=H
  simp only at g0 g1 g2 w2 w5 w6
  subst w6
  have hx:=h2 x (List.mem_cons_self ..)
  let y:=replU (rho m) x
  have g9:=wf_mk w1
  have e6 : gs.get (nx + 6) = none:=w1 (nx + 6) (by simp)
  have hr : ∀ (nx' : Nat) (gs' : Tr Grp),readH (repuS n) [.agg (tmC x),v] ⟨nx',gs',ms⟩ = some (.agg (tmC y),⟨nx',gs',ms⟩):=fun nx' gs'=>repuS_eq (H:=⟨nx',gs',ms⟩) hv hx
  have q1 : (B + 2 = nx) = False:=eq_false (by omega)
  have q2 : (B + 2 = nx + 6) = False:=eq_false (by omega)
  have q3 : (nx = nx + 6) = False:=eq_false (by omega)
  have q4 : (nx + 6 = nx) = False:=eq_false (by omega)
  have wfA : AH.wf ⟨nx + 10,(gs.set nx ⟨0,0,tmC x⟩).set (nx + 6) ⟨0,0,tmC y⟩,ms⟩:=fun g hg=>by
   show ((gs.set nx _).set (nx + 6) _).get g = none
   have : nx + 10 ≤ g:=hg
   rw [Tr.get_set_ne _ _ (by omega),Tr.get_set_ne _ _ (by omega)]; exact w1 g (by show nx ≤ g; omega)
  have owA : Ows ⟨nx + 10,(gs.set nx ⟨0,0,tmC x⟩).set (nx + 6) ⟨0,0,tmC y⟩,ms⟩ o 4 ((l1.map (replU (rho m))).map tmC).flatten (l1.map (replU (rho m))).length:=w3.keep (by simp) fun g hg=>by
   have : g < nx:=hg
   show ((gs.set nx _).set (nx + 6) _).get g = _
   rw [Tr.get_set_ne _ _ (by omega),Tr.get_set_ne _ _ (by omega)]
  rw [List.length_map] at owA
  obtain ⟨v',H',e1,e2,e3,e4,e5,e7⟩:=own_app (x:=.slc (nx + 6) 0 0 1 4) (z:=4) (b:=56) (m:=1) (xs:=tmC y) owA wfA (by simp only [↓axP,axQ,↓if_true,↓if_false,ite_true,ite_false,reduceIte,ne_eq,eq_self,Nat.reduceAdd,Nat.reduceSub,Nat.reduceMul,Nat.reduceLeDiff,Nat.reduceEqDiff,Nat.reduceBEq,reduceCtorEq,Int.reduceToNat,Int.reduceLT,Int.reduceLE,Int.reduceEq,Int.reduceAdd,Int.reduceSub,Int.reduceNeg,capnY,appzY,tmC_len,tmC_0,tmC_1,tmC_2,tmC_3,tmC_take,tmC_drop,tmC_one,tmC_ne]) (tmC_len y) (by omega) (by omega) (by omega)
  have kg : ∀ g,g < B + 3 → H'.gs.get g = gs.get g:=fun g hg=>by
   rw [e4.get w4 hg (by show g < nx + 10; omega)]
   show ((gs.set nx _).set (nx + 6) _).get g = _
   rw [Tr.get_set_ne _ _ (by omega),Tr.get_set_ne _ _ (by omega)]
  have f0 : H'.gs.get B = some ⟨0,0,tmC t⟩:=(kg _ (by omega)).trans g0
  have f1 : H'.gs.get (B + 1) = some ⟨0,0,[.int .i64 0,.int .i64 0,.str [],.nils]⟩:=(kg _ (by omega)).trans g1
  have f2 : H'.gs.get (B + 2) = some ⟨0,0,[.int .i64 t.kind,.int .i64 t.num,.str t.name,o]⟩:=(kg _ (by omega)).trans g2
  have o':=e7 (B + 3) (by show B + 3 ≤ nx + 10; omega) w4
  have hn3 : B + 3 ≤ H'.next:=Nat.le_trans (by show B + 3 ≤ nx + 10; omega) e4.1
  have hfl : ((l1.map (replU (rho m))).map tmC).flatten ++ tmC y = (((l1 ++ [x]).map (replU (rho m))).map tmC).flatten:=by simp [y]
  rw [hfl] at e2
  obtain ⟨o2,H2,k1,k2⟩:=ih (l1 ++ [x]) v' ⟨H'.next,H'.gs.set (B + 2) ⟨0,0,[.int .i64 t.kind,.int .i64 t.num,.str t.name,v']⟩,H'.ms⟩ k (by simp [h1]) (fun y hy=>h2 y (List.mem_cons_of_mem _ hy))
   ⟨wf_set' e3 (by omega) _,hn3,by show (H'.gs.set (B + 2) _).get B = _; rw [Tr.get_set_ne _ _ (by omega)]; exact f0,by show (H'.gs.set (B + 2) _).get (B + 1) = _; rw [Tr.get_set_ne _ _ (by omega)]; exact f1,Tr.get_set_same _ _ _,by simpa using e2.set o' (by omega) _,o',
    fun g hg=>by show (H'.gs.set (B + 2) _).get g = _; rw [Tr.get_set_ne _ _ (by omega),kg g (by omega)]; exact w5 g hg,e5⟩ (by simp at h4; omega)
  refine ⟨o2,H2,?_,k2⟩
  rw [iter_one]
  have hs : (l1 ++ [x]).length = l1.length + 1:=by simp
  rw [hs] at k1
  simp (maxSteps:=1000000) (disch:=omega) only [↓axP,axQ,↓if_true,↓if_false,ite_true,ite_false,reduceIte,ne_eq,eq_self,Nat.reduceAdd,Nat.reduceSub,Nat.reduceMul,Nat.reduceLeDiff,Nat.reduceEqDiff,Nat.reduceBEq,reduceCtorEq,Int.reduceToNat,Int.reduceLT,Int.reduceLE,Int.reduceEq,Int.reduceAdd,Int.reduceSub,Int.reduceNeg,capnY,appzY] at k1
  simp (maxSteps:=1000000) (disch:=omega) only [yRplca_r,yRplca_,↓axP,axQ,↓if_true,↓if_false,ite_true,ite_false,reduceIte,ne_eq,eq_self,Nat.reduceAdd,Nat.reduceSub,Nat.reduceMul,Nat.reduceLeDiff,Nat.reduceEqDiff,Nat.reduceBEq,reduceCtorEq,Int.reduceToNat,Int.reduceLT,Int.reduceLE,Int.reduceEq,Int.reduceAdd,Int.reduceSub,Int.reduceNeg,capnY,appzY,tmC_len,tmC_0,tmC_1,tmC_2,tmC_3,tmC_take,tmC_drop,tmC_one,tmC_ne,hlt,hi,hget,Int.toNat_natCast,List.length_map,g0,g2,g9,q1,q2,q3,q4,e6,hr,e1,f2,e2.fit,e2.cell,k1,Nat.add_assoc]
theorem ru_step {n : Nat} (hru : HookOne Tryz.prog 115 (readH (repuS n))) : HookOne Tryz.prog 115 (readH (repuS (n + 1))):=by
 refine HookOne.ofRead (by decide +kernel) (fun args H y h=>?_) (fun args H y R H2 h he ha=>?_)
 ·have hl : ∀ e ∈ [(115,readH (repuS n))],HookOne Tryz.prog e.1 e.2:=by
   intro e he; simp at he; subst he; exact hru
  unfold repuS at h; split at h
  ·rename_i x v
   rw [Option.bind_eq_some_iff] at h
   obtain ⟨t,h1,h2⟩:=h
   rw [Option.bind_eq_some_iff] at h2
   obtain ⟨m,hm,h2⟩:=h2
   obtain ⟨hc,h3⟩:=only_ok h2
   cases h3
   obtain rfl:=ofT_ok h1
   refine ACalls.onRun hl mixed (draws _ rfl) yRplc_ok rfl (t.args.length + 1) fun N hN hcl=>?_
   obtain ⟨nx0,gs,ms⟩:=H
   simp only at hN hm
   have lt : ∀ g r,gs.get g = some r → g < N:=fun g r h=>by
    rcases Nat.lt_or_ge g N with q | q
    ·exact q
    ·rw [(hN g q).1] at h; cases h
   have e0:=(hN N (Nat.le_refl _)).1
   have e1:=(hN (N + 1) (by omega)).1
   have e2:=(hN (N + 2) (by omega)).1
   have q1 : (N + 1 = N) = False:=eq_false (by omega)
   have q2 : (N = N + 1) = False:=eq_false (by omega)
   have q3 : (N + 2 = N) = False:=eq_false (by omega)
   have q4 : (N = N + 2) = False:=eq_false (by omega)
   have q5 : (N + 2 = N + 1) = False:=eq_false (by omega)
   have q6 : (N + 1 = N + 2) = False:=eq_false (by omega)
   unfold tmA
   by_cases hk : t.kind = 0
   ·have hg:=fun (nx : Nat) (gs' : Tr Grp) (z : AV) (k : Int)=>mapM_get1 (nx:=nx) (gs:=gs') hm z k
    rw [replU_var hk]
    cases hr : rho m t.num with
    | none=>
     simp (maxSteps:=1000000) (disch:=omega) only [yRplc,xinit_2,↓axP,axQ,↓if_true,↓if_false,ite_true,ite_false,reduceIte,ne_eq,eq_self,Nat.reduceAdd,Nat.reduceSub,Nat.reduceMul,Nat.reduceLeDiff,Nat.reduceEqDiff,Nat.reduceBEq,reduceCtorEq,Int.reduceToNat,Int.reduceLT,Int.reduceLE,Int.reduceEq,Int.reduceAdd,Int.reduceSub,Int.reduceNeg,capnY,appzY,tmC_len,tmC_0,tmC_1,tmC_2,tmC_3,tmC_take,tmC_drop,tmC_one,tmC_ne,hk,e0,e1,e2,q1,q2,q3,q4,q5,q6,hg,hr,Option.map_none,Option.getD_none,Option.isSome_none,Nat.add_assoc]
     refine Comes.some (Canon.same hcl (fun g r h=>?_) (fun g r h=>h) (.ofAgg (.cons (.pure rfl) (.cons (.pure rfl) (.cons (.pure rfl) (.cons (.nils 4) .nil))))))
     have:=lt g r h
     simpa [Tr.get_set,show g ≠ N by omega,show g ≠ N + 1 by omega,show g ≠ N + 2 by omega] using h
    | some u=>
     simp (maxSteps:=1000000) (disch:=omega) only [yRplc,xinit_2,↓axP,axQ,↓if_true,↓if_false,ite_true,ite_false,reduceIte,ne_eq,eq_self,Nat.reduceAdd,Nat.reduceSub,Nat.reduceMul,Nat.reduceLeDiff,Nat.reduceEqDiff,Nat.reduceBEq,reduceCtorEq,Int.reduceToNat,Int.reduceLT,Int.reduceLE,Int.reduceEq,Int.reduceAdd,Int.reduceSub,Int.reduceNeg,capnY,appzY,tmC_len,tmC_0,tmC_1,tmC_2,tmC_3,tmC_take,tmC_drop,tmC_one,tmC_ne,tmA,hk,e0,e1,e2,q1,q2,q3,q4,q5,q6,hg,hr,Option.map_some,Option.getD_some,Option.isSome_some,Nat.add_assoc]
     refine Comes.some (Canon.pure hcl (fun g r h=>?_) (fun g r h=>h) (pure_tmA u))
     have:=lt g r h
     simpa [Tr.get_set,show g ≠ N by omega,show g ≠ N + 1 by omega,show g ≠ N + 2 by omega] using h
   ·rw [replU_mk hk]
    have hA : ∀ x ∈ t.args,x.height ≤ n ∧ Fine 1000 x:=fun x hx=>by
     obtain ⟨i,hi,rfl⟩:=List.getElem_of_mem hx
     have:=heights_mem hi
     have h0:=hc.1
     rw [height_eq] at h0
     exact ⟨by omega,hc.2.args.2.1 _ hx⟩
    have wf0 : AH.wf ⟨N + 3,((gs.set N ⟨0,0,tmC t⟩).set (N + 1) ⟨0,0,[.int .i64 0,.int .i64 0,.str [],.nils]⟩).set (N + 2) ⟨0,0,[.int .i64 t.kind,.int .i64 t.num,.str t.name,.nils]⟩,ms⟩:=fun g hg=>by
     have : N + 3 ≤ g:=hg
     show (((gs.set N _).set (N + 1) _).set (N + 2) _).get g = none
     rw [Tr.get_set_ne _ _ (by omega),Tr.get_set_ne _ _ (by omega),Tr.get_set_ne _ _ (by omega)]
     exact (hN g (by omega)).1
    obtain ⟨o',H',k1,w1,w2,g0,g1,g2,w3,w4,w5,w6⟩:=ru_loop (n:=n) (t.args.length + 1) t N v m gs ms hm hc.2.args.1 t.args [] .nils _ (t.args.length + 1) rfl hA ⟨wf0,Nat.le_refl _,by simp only [Tr.get_set]; simp,by simp only [Tr.get_set]; simp,by simp only [Tr.get_set]; simp,own_nil _ _,ob_nil _,fun g hg=>by
     show (((gs.set N _).set (N + 1) _).set (N + 2) _).get g = _
     rw [Tr.get_set_ne _ _ (by omega),Tr.get_set_ne _ _ (by omega),Tr.get_set_ne _ _ (by omega)],rfl⟩ (Nat.lt_succ_self _)
    simp (maxSteps:=1000000) (disch:=omega) only [↓axP,axQ,↓if_true,↓if_false,ite_true,ite_false,reduceIte,ne_eq,eq_self,Nat.reduceAdd,Nat.reduceSub,Nat.reduceMul,Nat.reduceLeDiff,Nat.reduceEqDiff,Nat.reduceBEq,reduceCtorEq,Int.reduceToNat,Int.reduceLT,Int.reduceLE,Int.reduceEq,Int.reduceAdd,Int.reduceSub,Int.reduceNeg,capnY,appzY] at k1
    have ho : o'.one = true:=by
     obtain ⟨-,q⟩:=w3
     rcases q with ⟨rfl,-⟩ | ⟨g,e,rfl,-⟩ <;> rfl
    have ht3 : List.take 3 (tmC t) = [.int .i64 t.kind,.int .i64 t.num,.str t.name]:=by rw [tmC_eq]; rfl
    simp (maxSteps:=1000000) (disch:=omega) only [yRplc,xinit_2,↓axP,axQ,↓if_true,↓if_false,ite_true,ite_false,reduceIte,ne_eq,eq_self,Nat.reduceAdd,Nat.reduceSub,Nat.reduceMul,Nat.reduceLeDiff,Nat.reduceEqDiff,Nat.reduceBEq,reduceCtorEq,Int.reduceToNat,Int.reduceLT,Int.reduceLE,Int.reduceEq,Int.reduceAdd,Int.reduceSub,Int.reduceNeg,capnY,appzY,tmC_len,tmC_0,tmC_1,tmC_2,tmC_3,tmC_take,tmC_drop,tmC_one,tmC_ne,hk,ht3,e0,e1,e2,q1,q2,q3,q4,q5,q6,k1,g2,g1,ho,Nat.add_assoc,List.length_map]
    refine Comes.some (Canon.same hcl (fun g r h=>?_) (fun g r h=>?_) ?_)
    ·have:=lt g r h
     show (H'.gs.set (N + 1) _).get g = _
     rw [Tr.get_set_ne _ _ (by omega),w5 g this]; exact h
    ·show H'.ms.get g = _
     rw [w6]; exact h
    ·have hT : tmC (.mk t.kind t.num t.name (t.args.map (replU (rho m)))) = [.int .i64 t.kind,.int .i64 t.num,.str t.name,.vals 4 ((t.args.map (replU (rho m))).map tmC)]:=by rw [tmC_eq]; rfl
     rw [hT]
     have hO : OB N o':=fun g e i n z h=>by have:=w4 g e i n z h; omega
     have w3':=w3.set (B:=N + 3) w4 (g:=N + 1) (by omega) ⟨0,0,[.int .i64 t.kind,.int .i64 t.num,.str t.name,o']⟩
     have hF:=Ows.fzr (H0:=⟨nx0,gs,ms⟩) (rows:=(t.args.map (replU (rho m))).map tmC) w3' hO (fun g hg=>(hN g hg).1) (by rw [List.length_map]) (rows4 _) rfl (pure_flat (pure_rows _))
     refine .agg rfl fun i x y hx hy=>?_
     rcases i with _ | _ | _ | _ | i
     ·cases hx; cases hy; exact .pure rfl
     ·cases hx; cases hy; exact .pure rfl
     ·cases hx; cases hy; exact .pure rfl
     ·cases hx; cases hy; exact hF
     ·cases hx
  ·cases h
 ·exact repuS_ext h he
theorem ru_any : ∀ n : Nat,HookOne Tryz.prog 115 (readH (repuS n))
 | 0=>by
  refine HookOne.ofRead (by decide +kernel) (fun args H y h=>?_) (fun args H y R H2 h he ha=>?_)
  ·unfold repuS at h; split at h
   ·rename_i x v
    rw [Option.bind_eq_some_iff] at h
    obtain ⟨t,h1,h2⟩:=h
    rw [Option.bind_eq_some_iff] at h2
    obtain ⟨m,hm,h2⟩:=h2
    obtain ⟨hc,h3⟩:=only_ok h2
    have:=hc.1
    rw [height_eq] at this
    omega
   ·cases h
  ·exact repuS_ext h he
 | n + 1=>ru_step (ru_any n)
end Go.Proofs.YtdekdghldblfaaaGreatDoor
namespace Go.Proofs.YtdekdghldblfaaaGreatDoor
open Go Go.Abs Go.RowKit
set_option linter.unusedVariables false
set_option linter.unusedSimpArgs false
attribute [local congr] on_congr br_congr onf_congr
attribute [local congr] Comes_congr
def Len (l : AV) (n : Nat) : Prop:=(l = .nils ∧ n = 0) ∨ ∃ g e z,l = .slc g e 0 n z
def BAt (H : AH) (g n : Nat) : Prop:=∃ l gS,H.gs.get g = some ⟨0,0,[l,.ptr gS 0 0]⟩ ∧ H.gs.get gS = some ⟨0,0,[.int .i64 65536,.nils]⟩ ∧ Len l n
theorem BAt.inj {H : AH} {g n m : Nat} (a : BAt H g n) (b : BAt H g m) : n = m:=by
 obtain ⟨l,gS,h1,h2,h3⟩:=a
 obtain ⟨l',gS',k1,k2,k3⟩:=b
 rw [h1] at k1
 simp only [Option.some.injEq,Grp.mk.injEq,true_and,List.cons.injEq,AV.ptr.injEq,and_true] at k1
 obtain ⟨rfl,rfl⟩:=k1
 rcases h3 with ⟨rfl,rfl⟩ | ⟨g1,e1,z1,rfl⟩ <;> rcases k3 with ⟨e,rfl⟩ | ⟨g2,e2,z2,e⟩
 ·rfl
 ·cases e
 ·cases e
 ·cases e; rfl
theorem BAt.ext {X : Nat → Option Grp} {H H2 : AH} {g n : Nat} (a : BAt H g n) (he : Ext X H H2) (ha : Apart X H) : BAt H2 g n:=by
 obtain ⟨l,gS,h1,h2,h3⟩:=a
 exact ⟨l,gS,he.get ha h1,he.get ha h2,h3⟩
theorem BAt.keep {H H2 : AH} {g n B : Nat} (a : BAt H g n) (hB : ∀ g r,H.gs.get g = some r → g < B) (h : ∀ g,g < B → H2.gs.get g = H.gs.get g) : BAt H2 g n:=by
 obtain ⟨l,gS,h1,h2,h3⟩:=a
 exact ⟨l,gS,by rw [h g (hB _ _ h1)]; exact h1,by rw [h gS (hB _ _ h2)]; exact h2,h3⟩
noncomputable abbrev ysOb : List (FuncId × YF):=[(138,yGiven),(139,yMarkS),(141,yUndoS),(163,yCl64),(164,yRv64)]
noncomputable abbrev lsOb : List (FuncId × (List AV → AH → Option (AV × AH))):=[(42,pureF goodS),(113,pureF varsS)]
theorem lsOb_ok : ∀ e ∈ lsOb,HookOne Tryz.prog e.1 e.2:=by
 intro e he
 simp only [lsOb,List.mem_cons,List.not_mem_nil,or_false] at he
 rcases he with rfl | rfl
 ·exact goodF_one
 ·exact vars_one
theorem ysOb_ok : ∀ e ∈ ysOb,cFun Tryz.prog (fun _=>true) e.1 = some e.2.er:=by
 intro e he
 simp only [ysOb,List.mem_cons,List.not_mem_nil,or_false] at he
 rcases he with rfl | rfl | rfl | rfl | rfl
 ·exact yGiven_ok
 ·exact yMarkS_ok
 ·exact yUndoS_ok
 ·exact yCl64_ok
 ·exact yRv64_ok
theorem varsP_len {t : Tm} (hg : t.good = true) : (varsP t).length ≤ 1000000000:=by
 have h:=good_sizes hg
 have h1 : varsP t = varsF (preF t):=by simp [varsP,hg]
 have h2:=varsF_len (preF t)
 have h3 : (preF t).length = Tm.sizes [t]:=pre_len t
 rw [h1]; omega
def givB (n : Nat) (k : Int) : Bool:=decide (0 ≤ k) && decide (k < n)
theorem given_call (F d : Nat) (g n : Nat) (k : Int) (H : AH) (h : BAt H g n) : icall ysOb lsOb F (d + 1) 138 [.ptr g 0 0,.int .i64 k] H = some (.bool (givB n k),H):=by
 refine icall_text rfl rfl rfl ?_
 obtain ⟨l,gS,h1,h2,h3⟩:=h
 obtain ⟨nx,gs,ms⟩:=H
 simp only at h1
 unfold givB
 by_cases k0 : 0 ≤ k
 ·rcases h3 with ⟨rfl,rfl⟩ | ⟨g1,e1,z1,rfl⟩
  ·simp (maxSteps:=1000000) (disch:=omega) only [yGiven,xinit_2,↓axP,axQ,↓if_true,↓if_false,ite_true,ite_false,reduceIte,ne_eq,eq_self,Nat.reduceAdd,Nat.reduceSub,Nat.reduceMul,Nat.reduceLeDiff,Nat.reduceEqDiff,Nat.reduceBEq,reduceCtorEq,Int.reduceToNat,Int.reduceLT,Int.reduceLE,Int.reduceEq,Int.reduceAdd,Int.reduceSub,Int.reduceNeg,capnY,appzY,tmC_len,tmC_0,tmC_1,tmC_2,tmC_3,tmC_take,tmC_drop,tmC_one,tmC_ne,k0,h1,decide_true,Bool.true_and]
  ·simp (maxSteps:=1000000) (disch:=omega) only [yGiven,xinit_2,↓axP,axQ,↓if_true,↓if_false,ite_true,ite_false,reduceIte,ne_eq,eq_self,Nat.reduceAdd,Nat.reduceSub,Nat.reduceMul,Nat.reduceLeDiff,Nat.reduceEqDiff,Nat.reduceBEq,reduceCtorEq,Int.reduceToNat,Int.reduceLT,Int.reduceLE,Int.reduceEq,Int.reduceAdd,Int.reduceSub,Int.reduceNeg,capnY,appzY,tmC_len,tmC_0,tmC_1,tmC_2,tmC_3,tmC_take,tmC_drop,tmC_one,tmC_ne,k0,h1,decide_true,Bool.true_and]
 ·simp (maxSteps:=1000000) (disch:=omega) only [yGiven,xinit_2,↓axP,axQ,↓if_true,↓if_false,ite_true,ite_false,reduceIte,ne_eq,eq_self,Nat.reduceAdd,Nat.reduceSub,Nat.reduceMul,Nat.reduceLeDiff,Nat.reduceEqDiff,Nat.reduceBEq,reduceCtorEq,Int.reduceToNat,Int.reduceLT,Int.reduceLE,Int.reduceEq,Int.reduceAdd,Int.reduceSub,Int.reduceNeg,capnY,appzY,tmC_len,tmC_0,tmC_1,tmC_2,tmC_3,tmC_take,tmC_drop,tmC_one,tmC_ne,k0,h1,decide_false,Bool.false_and]
def ownB (n : Nat) (t : Tm) : Bool:=t.good && (varsP t).all (givB n)
def ownbQ (args : List AV) (H : AH) (y : AV) : Prop:=∃ g n t,args = [.ptr g 0 0,.agg (tmC t)] ∧ BAt H g n ∧ Fine 1000 t ∧ y = .bool (ownB n t)
theorem ownbQ_one (a : List AV) (H : AH) (y y2 : AV) (h : ownbQ a H y) (k : ownbQ a H y2) : y = y2:=by
 obtain ⟨g,n,t,rfl,h1,h2,rfl⟩:=h
 obtain ⟨g',n',t',e,k1,k2,rfl⟩:=k
 simp only [List.cons.injEq,AV.ptr.injEq,true_and,and_true] at e
 obtain ⟨rfl,e2⟩:=e
 have e2 : tmA t = tmA t':=e2
 cases tmA_inj e2
 cases h1.inj k1
 rfl
theorem ownb_loop (F d g n : Nat) (l : List Int) (hl : l.length ≤ 1000000000) (H : AH) (h : BAt H g n) : ∀ (l2 l1 : List Int) (F' : Nat),l = l1 ++ l2 → l2.length < F' →
  iter (ycode (icall ysOb lsOb F (d + 1)) F yOwnBa) F' (mk [(0,.ptr g 0 0),(11,.vals 1 (intR l)),(12,.int .i64 l.length),(13,.int .i64 l1.length)]) H = if l2.all (givB n) = true then some (.exit 0,mk [],H) else some (.ret,mk [(4,.bool false)],H):=by
 intro l2
 induction l2 with
 | nil=>
  intro l1 F' h1 h4
  obtain ⟨k,rfl⟩:=iter_pos (f:=fun _ _=>none) (n:=F') (by omega)
  rw [List.append_nil] at h1
  subst h1
  have hlt : ((l.length : Int) < (l.length : Int)) = False:=by simp
  rw [iter_one]
  simp (maxSteps:=1000000) (disch:=omega) only [yOwnBa_r,yOwnBa_,↓axP,axQ,↓if_true,↓if_false,ite_true,ite_false,reduceIte,ne_eq,eq_self,Nat.reduceAdd,Nat.reduceSub,Nat.reduceMul,Nat.reduceLeDiff,Nat.reduceEqDiff,Nat.reduceBEq,reduceCtorEq,Int.reduceToNat,Int.reduceLT,Int.reduceLE,Int.reduceEq,Int.reduceAdd,Int.reduceSub,Int.reduceNeg,capnY,appzY,tmC_len,tmC_0,tmC_1,tmC_2,tmC_3,tmC_take,tmC_drop,tmC_one,tmC_ne,hlt,List.all_nil]
 | cons x l2 ih=>
  intro l1 F' h1 h4
  obtain ⟨k,rfl⟩:=iter_pos (f:=fun _ _=>none) (n:=F') (by omega)
  have hR : l1.length + 1 ≤ l.length:=by rw [h1]; simp
  have hlt : ((l1.length : Int) < (l.length : Int)) = True:=eq_true (by omega)
  have hi : (0 : Int) ≤ (l1.length : Int):=by omega
  have hw : IntKind.i64.wrap ((l1.length : Int) + 1) = (l1.length : Int) + 1:=by rw [wrap_i64] <;> omega
  have hget : (intR l)[l1.length]? = some [.int .i64 x]:=by rw [h1]; simp [intR]
  have hrl : (intR l).length = l.length:=by simp [intR]
  have hgv:=given_call F d g n x H h
  obtain ⟨nx,gs,ms⟩:=H
  rw [List.all_cons,iter_one]
  cases hk : givB n x with
  | true=>
   rw [hk] at hgv
   have k1:=ih (l1 ++ [x]) k (by simp [h1]) (by simp at h4; omega)
   have hs : (l1 ++ [x]).length = l1.length + 1:=by simp
   rw [hs] at k1
   rw [Bool.true_and,← k1]
   simp (maxSteps:=1000000) (disch:=omega) only [yOwnBa_r,yOwnBa_,↓axP,axQ,↓if_true,↓if_false,ite_true,ite_false,reduceIte,ne_eq,eq_self,Nat.reduceAdd,Nat.reduceSub,Nat.reduceMul,Nat.reduceLeDiff,Nat.reduceEqDiff,Nat.reduceBEq,reduceCtorEq,Int.reduceToNat,Int.reduceLT,Int.reduceLE,Int.reduceEq,Int.reduceAdd,Int.reduceSub,Int.reduceNeg,capnY,appzY,tmC_len,tmC_0,tmC_1,tmC_2,tmC_3,tmC_take,tmC_drop,tmC_one,tmC_ne,hlt,hi,hw,hget,hrl,hgv,Int.toNat_natCast]
  | false=>
   rw [hk] at hgv
   simp (maxSteps:=1000000) (disch:=omega) only [yOwnBa_r,yOwnBa_,↓axP,axQ,↓if_true,↓if_false,ite_true,ite_false,reduceIte,ne_eq,eq_self,Nat.reduceAdd,Nat.reduceSub,Nat.reduceMul,Nat.reduceLeDiff,Nat.reduceEqDiff,Nat.reduceBEq,reduceCtorEq,Int.reduceToNat,Int.reduceLT,Int.reduceLE,Int.reduceEq,Int.reduceAdd,Int.reduceSub,Int.reduceNeg,capnY,appzY,tmC_len,tmC_0,tmC_1,tmC_2,tmC_3,tmC_take,tmC_drop,tmC_one,tmC_ne,hlt,hi,hw,hget,hrl,hgv,Int.toNat_natCast,Bool.false_and,Bool.false_eq_true]
set_option maxHeartbeats 1000000 in
theorem ownb_one : HookOne Tryz.prog 109 (relH (readR ownbQ)):=by
 refine HookOne.ofReadR (by decide +kernel) ownbQ_one (fun args H y h=>?_) fun args H y X H2 h he ha=>?_
 ·obtain ⟨g,n,t,rfl,h1,hf,rfl⟩:=h
  have hic:=icall_ok (P:=Tryz.prog) mixed (fun f=>draws f rfl) ysOb_ok lsOb_ok ((varsP t).length + 1) 3
  refine ACalls.onCall hic.1 hic.2 mixed (draws _ rfl) yOwnB_ok rfl ((varsP t).length + 1) fun N hN hcl=>?_
  obtain ⟨nx0,gs,ms⟩:=H
  simp only at hN
  have e0:=(hN N (Nat.le_refl _)).1
  have lt : ∀ g r,gs.get g = some r → g < N:=fun g r h=>by
   rcases Nat.lt_or_ge g N with q | q
   ·exact q
   ·rw [(hN g q).1] at h; cases h
  have h1' : BAt ⟨N + 1,gs.set N ⟨0,0,tmC t⟩,ms⟩ g n:=h1.keep lt fun g hg=>by
   show (gs.set N _).get g = _
   rw [Tr.get_set_ne _ _ (by omega)]
  have hgood : ∀ (nx : Nat) (gs : Tr Grp) (ms : Tr MapA),icall ysOb lsOb ((varsP t).length + 1) 3 42 [.agg (tmC t)] ⟨nx,gs,ms⟩ = some (.bool t.good,⟨nx,gs,ms⟩):=fun nx gs ms=>by
   rw [icall_hook (k:=pureF goodS) rfl]
   simp (maxSteps:=1000000) (disch:=omega) only [↓axP,axQ,↓if_true,↓if_false,ite_true,ite_false,reduceIte,ne_eq,eq_self,Nat.reduceAdd,Nat.reduceSub,Nat.reduceMul,Nat.reduceLeDiff,Nat.reduceEqDiff,Nat.reduceBEq,reduceCtorEq,Int.reduceToNat,Int.reduceLT,Int.reduceLE,Int.reduceEq,Int.reduceAdd,Int.reduceSub,Int.reduceNeg,capnY,appzY,tmC_len,tmC_0,tmC_1,tmC_2,tmC_3,tmC_take,tmC_drop,tmC_one,tmC_ne,goodS_eq' hf]
  have hvars : ∀ (nx : Nat) (gs : Tr Grp) (ms : Tr MapA),icall ysOb lsOb ((varsP t).length + 1) 3 113 [.agg (tmC t)] ⟨nx,gs,ms⟩ = some (.vals 1 (intR (varsP t)),⟨nx,gs,ms⟩):=fun nx gs ms=>by
   rw [icall_hook (k:=pureF varsS) rfl]
   simp (maxSteps:=1000000) (disch:=omega) only [↓axP,axQ,↓if_true,↓if_false,ite_true,ite_false,reduceIte,ne_eq,eq_self,Nat.reduceAdd,Nat.reduceSub,Nat.reduceMul,Nat.reduceLeDiff,Nat.reduceEqDiff,Nat.reduceBEq,reduceCtorEq,Int.reduceToNat,Int.reduceLT,Int.reduceLE,Int.reduceEq,Int.reduceAdd,Int.reduceSub,Int.reduceNeg,capnY,appzY,tmC_len,tmC_0,tmC_1,tmC_2,tmC_3,tmC_take,tmC_drop,tmC_one,tmC_ne,varsS_eq hf]
  have hend : ∀ b,Go.Abs.Comes (some (.bool b,⟨N + 1,gs.set N ⟨0,0,tmC t⟩,ms⟩)) ⟨nx0,gs,ms⟩ (.bool b) ⟨nx0,gs,ms⟩:=fun b=>by
   refine Comes.some (Canon.same hcl (fun g r h=>?_) (fun g r h=>h) (.pure (x:=.bool b) rfl))
   show (gs.set N _).get g = _
   rw [Tr.get_set_ne _ _ (by have:=lt g r h; omega)]; exact h
  unfold ownB
  cases hg : t.good with
  | false=>
   rw [hg] at hgood
   simp (maxSteps:=1000000) (disch:=omega) only [yOwnB,xinit_2,↓axP,axQ,↓if_true,↓if_false,ite_true,ite_false,reduceIte,ne_eq,eq_self,Nat.reduceAdd,Nat.reduceSub,Nat.reduceMul,Nat.reduceLeDiff,Nat.reduceEqDiff,Nat.reduceBEq,reduceCtorEq,Int.reduceToNat,Int.reduceLT,Int.reduceLE,Int.reduceEq,Int.reduceAdd,Int.reduceSub,Int.reduceNeg,capnY,appzY,tmC_len,tmC_0,tmC_1,tmC_2,tmC_3,tmC_take,tmC_drop,tmC_one,tmC_ne,e0,hgood,Bool.false_and]
   exact hend false
  | true=>
   rw [hg] at hgood
   have hvl : (varsP t).length ≤ 1000000000:=varsP_len hg
   have k1:=ownb_loop ((varsP t).length + 1) 2 g n (varsP t) hvl ⟨N + 1,gs.set N ⟨0,0,tmC t⟩,ms⟩ h1' (varsP t) [] ((varsP t).length + 1) rfl (by omega)
   have hrl : (intR (varsP t)).length = (varsP t).length:=by simp [intR]
   simp (maxSteps:=1000000) (disch:=omega) only [↓axP,axQ,↓if_true,↓if_false,ite_true,ite_false,reduceIte,ne_eq,eq_self,Nat.reduceAdd,Nat.reduceSub,Nat.reduceMul,Nat.reduceLeDiff,Nat.reduceEqDiff,Nat.reduceBEq,reduceCtorEq,Int.reduceToNat,Int.reduceLT,Int.reduceLE,Int.reduceEq,Int.reduceAdd,Int.reduceSub,Int.reduceNeg,capnY,appzY] at k1
   rw [Bool.true_and]
   cases ha : (varsP t).all (givB n) with
   | true=>
    rw [ha] at k1
    simp (maxSteps:=1000000) (disch:=omega) only [↓axP,axQ,↓if_true,↓if_false,ite_true,ite_false,reduceIte,ne_eq,eq_self,Nat.reduceAdd,Nat.reduceSub,Nat.reduceMul,Nat.reduceLeDiff,Nat.reduceEqDiff,Nat.reduceBEq,reduceCtorEq,Int.reduceToNat,Int.reduceLT,Int.reduceLE,Int.reduceEq,Int.reduceAdd,Int.reduceSub,Int.reduceNeg,capnY,appzY] at k1
    simp (maxSteps:=1000000) (disch:=omega) only [yOwnB,xinit_2,↓axP,axQ,↓if_true,↓if_false,ite_true,ite_false,reduceIte,ne_eq,eq_self,Nat.reduceAdd,Nat.reduceSub,Nat.reduceMul,Nat.reduceLeDiff,Nat.reduceEqDiff,Nat.reduceBEq,reduceCtorEq,Int.reduceToNat,Int.reduceLT,Int.reduceLE,Int.reduceEq,Int.reduceAdd,Int.reduceSub,Int.reduceNeg,capnY,appzY,tmC_len,tmC_0,tmC_1,tmC_2,tmC_3,tmC_take,tmC_drop,tmC_one,tmC_ne,e0,hgood,hvars,hrl,k1]
    exact hend true
   | false=>
    rw [ha] at k1
    simp only [Bool.false_eq_true,if_false] at k1
    simp (maxSteps:=1000000) (disch:=omega) only [yOwnB,xinit_2,↓axP,axQ,↓if_true,↓if_false,ite_true,ite_false,reduceIte,ne_eq,eq_self,Nat.reduceAdd,Nat.reduceSub,Nat.reduceMul,Nat.reduceLeDiff,Nat.reduceEqDiff,Nat.reduceBEq,reduceCtorEq,Int.reduceToNat,Int.reduceLT,Int.reduceLE,Int.reduceEq,Int.reduceAdd,Int.reduceSub,Int.reduceNeg,capnY,appzY,tmC_len,tmC_0,tmC_1,tmC_2,tmC_3,tmC_take,tmC_drop,tmC_one,tmC_ne,e0,hgood,hvars,hrl,k1]
    exact hend false
 ·obtain ⟨g,n,t,rfl,h1,hf,rfl⟩:=h
  exact ⟨g,n,t,rfl,h1.ext he ha,hf,rfl⟩
def markQ (args : List AV) (H : AH) (y : AV) : Prop:=∃ g n,args = [.ptr g 0 0] ∧ BAt H g n ∧ y = .int .i64 0
theorem mark_one : HookOne Tryz.prog 110 (relH (readR markQ)):=by
 refine HookOne.ofReadR (by decide +kernel) (fun a H y y2 h k=>?_) (fun args H y h=>?_) fun args H y X H2 h he ha=>?_
 ·obtain ⟨g,n,rfl,h1,rfl⟩:=h
  obtain ⟨g',n',e,k1,rfl⟩:=k
  rfl
 ·obtain ⟨g,n,rfl,⟨l,gS,h1,h2,h3⟩,rfl⟩:=h
  have hic:=icall_ok (P:=Tryz.prog) mixed (fun f=>draws f rfl) ysOb_ok lsOb_ok 1 3
  refine ACalls.onCall hic.1 hic.2 mixed (draws _ rfl) yMarkB_ok rfl 1 fun N hN hcl=>?_
  obtain ⟨nx0,gs,ms⟩:=H
  simp only at hN h1 h2
  have k1 : ∀ nx,icall ysOb lsOb 1 3 139 [.ptr gS 0 0] ⟨nx,gs,ms⟩ = some (.int .i64 0,⟨nx,gs,ms⟩):=fun nx=>by
   refine icall_text rfl rfl rfl ?_
   simp (maxSteps:=1000000) (disch:=omega) only [yMarkS,xinit_1,↓axP,axQ,↓if_true,↓if_false,ite_true,ite_false,reduceIte,ne_eq,eq_self,Nat.reduceAdd,Nat.reduceSub,Nat.reduceMul,Nat.reduceLeDiff,Nat.reduceEqDiff,Nat.reduceBEq,reduceCtorEq,Int.reduceToNat,Int.reduceLT,Int.reduceLE,Int.reduceEq,Int.reduceAdd,Int.reduceSub,Int.reduceNeg,capnY,appzY,tmC_len,tmC_0,tmC_1,tmC_2,tmC_3,tmC_take,tmC_drop,tmC_one,tmC_ne,h2]
  simp (maxSteps:=1000000) (disch:=omega) only [yMarkB,xinit_1,↓axP,axQ,↓if_true,↓if_false,ite_true,ite_false,reduceIte,ne_eq,eq_self,Nat.reduceAdd,Nat.reduceSub,Nat.reduceMul,Nat.reduceLeDiff,Nat.reduceEqDiff,Nat.reduceBEq,reduceCtorEq,Int.reduceToNat,Int.reduceLT,Int.reduceLE,Int.reduceEq,Int.reduceAdd,Int.reduceSub,Int.reduceNeg,capnY,appzY,tmC_len,tmC_0,tmC_1,tmC_2,tmC_3,tmC_take,tmC_drop,tmC_one,tmC_ne,h1,k1]
  exact Comes.some (Canon.same hcl (fun g r h=>h) (fun g r h=>h) (.pure rfl))
 ·obtain ⟨g,n,rfl,h1,rfl⟩:=h
  exact ⟨g,n,rfl,h1.ext he ha,rfl⟩
def undoQ (args : List AV) (H : AH) (y : AV) : Prop:=∃ g n,args = [.ptr g 0 0,.int .i64 0] ∧ BAt H g n ∧ y = .bool true
set_option maxHeartbeats 1000000 in
theorem undo_one : HookOne Tryz.prog 112 (relH (readR undoQ)):=by
 refine HookOne.ofReadR (by decide +kernel) (fun a H y y2 h k=>?_) (fun args H y h=>?_) fun args H y X H2 h he ha=>?_
 ·obtain ⟨g,n,rfl,h1,rfl⟩:=h
  obtain ⟨g',n',e,k1,rfl⟩:=k
  rfl
 ·obtain ⟨g,n,rfl,⟨l,gS,h1,h2,h3⟩,rfl⟩:=h
  have hic:=icall_ok (P:=Tryz.prog) mixed (fun f=>draws f rfl) ysOb_ok lsOb_ok 1 4
  refine ACalls.onCall hic.1 hic.2 mixed (draws _ rfl) yUndoB_ok rfl 1 fun N hN hcl=>?_
  obtain ⟨nx0,gs,ms⟩:=H
  simp only at hN h1 h2
  have c1 : ∀ nx gs,icall ysOb lsOb 1 3 163 [.nils] ⟨nx,gs,ms⟩ = some (.nils,⟨nx,gs,ms⟩):=fun nx gs=>by
   refine icall_text rfl rfl rfl ?_
   have e : ibin .eql 179 (some (.slice 2)) true .nils .nils = some (.bool true):=rfl
   simp (maxSteps:=1000000) (disch:=omega) only [yCl64,xinit_1,↓axP,axQ,↓if_true,↓if_false,ite_true,ite_false,reduceIte,ne_eq,eq_self,Nat.reduceAdd,Nat.reduceSub,Nat.reduceMul,Nat.reduceLeDiff,Nat.reduceEqDiff,Nat.reduceBEq,reduceCtorEq,Int.reduceToNat,Int.reduceLT,Int.reduceLE,Int.reduceEq,Int.reduceAdd,Int.reduceSub,Int.reduceNeg,capnY,appzY,tmC_len,tmC_0,tmC_1,tmC_2,tmC_3,tmC_take,tmC_drop,tmC_one,tmC_ne,e]
  have c2 : ∀ nx gs,icall ysOb lsOb 1 3 164 [.nils] ⟨nx,gs,ms⟩ = some (.tup [],⟨nx,gs,ms⟩):=fun nx gs=>by
   refine icall_text rfl rfl rfl ?_
   have hw : IntKind.i64.wrap (-1) = -1:=by decide
   simp (maxSteps:=1000000) (disch:=omega) only [yRv64,xinit_1,↓axP,axQ,↓if_true,↓if_false,ite_true,ite_false,reduceIte,ne_eq,eq_self,Nat.reduceAdd,Nat.reduceSub,Nat.reduceMul,Nat.reduceLeDiff,Nat.reduceEqDiff,Nat.reduceBEq,reduceCtorEq,Int.reduceToNat,Int.reduceLT,Int.reduceLE,Int.reduceEq,Int.reduceAdd,Int.reduceSub,Int.reduceNeg,capnY,appzY,tmC_len,tmC_0,tmC_1,tmC_2,tmC_3,tmC_take,tmC_drop,tmC_one,tmC_ne,iter_one,yRv64a_r,yRv64a_,hw]
   rfl
  have k1 : ∀ nx,icall ysOb lsOb 1 4 141 [.ptr gS 0 0,.int .i64 0] ⟨nx,gs,ms⟩ = some (.tup [.nils,.bool true],⟨nx,gs.set gS ⟨0,0,[.int .i64 65536,.nils]⟩,ms⟩):=fun nx=>by
   refine icall_text rfl rfl rfl ?_
   have hcr : ∀ nx gs,mop (.clr 1 [.int .i64 0]) [.nils] ⟨nx,gs,ms⟩ = some (.tup [],⟨nx,gs,ms⟩):=fun _ _=>(rfl)
   have sl1 : islice (some 1) .nils (some (.int .i64 0)) none none = some .nils:=rfl
   have sl2 : islice (some 1) .nils none (some (.int .i64 0)) none = some .nils:=rfl
   simp (maxSteps:=1000000) (disch:=omega) only [yUndoS,xinit_2,↓axP,axQ,↓if_true,↓if_false,ite_true,ite_false,reduceIte,ne_eq,eq_self,Nat.reduceAdd,Nat.reduceSub,Nat.reduceMul,Nat.reduceLeDiff,Nat.reduceEqDiff,Nat.reduceBEq,reduceCtorEq,Int.reduceToNat,Int.reduceLT,Int.reduceLE,Int.reduceEq,Int.reduceAdd,Int.reduceSub,Int.reduceNeg,capnY,appzY,tmC_len,tmC_0,tmC_1,tmC_2,tmC_3,tmC_take,tmC_drop,tmC_one,tmC_ne,h2,c1,c2,hcr,sl1,sl2]
  simp (maxSteps:=1000000) (disch:=omega) only [yUndoB,xinit_2,↓axP,axQ,↓if_true,↓if_false,ite_true,ite_false,reduceIte,ne_eq,eq_self,Nat.reduceAdd,Nat.reduceSub,Nat.reduceMul,Nat.reduceLeDiff,Nat.reduceEqDiff,Nat.reduceBEq,reduceCtorEq,Int.reduceToNat,Int.reduceLT,Int.reduceLE,Int.reduceEq,Int.reduceAdd,Int.reduceSub,Int.reduceNeg,capnY,appzY,tmC_len,tmC_0,tmC_1,tmC_2,tmC_3,tmC_take,tmC_drop,tmC_one,tmC_ne,h1,k1,iter_one,yUndoBa_r,yUndoBa_]
  refine Comes.some (Canon.same hcl (fun g r h=>?_) (fun g r h=>h) (.pure rfl))
  show (gs.set gS _).get g = _
  rw [Tr.get_set]
  split
  ·rename_i e
   have h : gs.get g = some r:=h
   rw [e,h2] at h; exact h
  ·exact h
 ·obtain ⟨g,n,rfl,h1,rfl⟩:=h
  exact ⟨g,n,rfl,h1.ext he ha,rfl⟩
noncomputable def walkS : List AV → Option AV
 | [.ptr g 0 0,x]=>(ofT x).bind fun t=>only (t.kind ≠ 0) (some (tmA t))
 | _=>none
theorem walkS_eq {t : Tm} {g : Nat} (h : t.kind ≠ 0) : walkS [.ptr g 0 0,.agg (tmC t)] = some (.agg (tmC t)):=by
 show (ofT (tmA t)).bind _ = _
 rw [ofT_tm]; exact only_eq h _
theorem walk_one : HookOne Tryz.prog 160 (pureF walkS):=by
 refine HookOne.ofPureF (by decide +kernel) fun args y h H=>?_
 unfold walkS at h; split at h
 ·rename_i g x
  rw [Option.bind_eq_some_iff] at h
  obtain ⟨t,h1,h2⟩:=h
  obtain ⟨hk,h3⟩:=only_ok h2
  cases h3
  obtain rfl:=ofT_ok h1
  refine ACalls.onRun (l:=[]) (by simp) mixed (draws _ rfl) yWalk_ok rfl 1 fun N hN hcl=>?_
  obtain ⟨nx0,gs,ms⟩:=H
  simp only at hN
  have e0:=(hN N (Nat.le_refl _)).1
  have e1:=(hN (N + 1) (by omega)).1
  have q1 : (N + 1 = N) = False:=by simp
  have lt : ∀ g r,gs.get g = some r → g < N:=fun g r h=>by
   rcases Nat.lt_or_ge g N with q | q
   ·exact q
   ·rw [(hN g q).1] at h; cases h
  have q2 : (N = N + 1) = False:=by simp
  unfold tmA
  simp (maxSteps:=1000000) (disch:=omega) only [yWalk,xinit_2,↓axP,axQ,↓if_true,↓if_false,ite_true,ite_false,reduceIte,ne_eq,eq_self,Nat.reduceAdd,Nat.reduceSub,Nat.reduceMul,Nat.reduceLeDiff,Nat.reduceEqDiff,Nat.reduceBEq,reduceCtorEq,Int.reduceToNat,Int.reduceLT,Int.reduceLE,Int.reduceEq,Int.reduceAdd,Int.reduceSub,Int.reduceNeg,capnY,appzY,tmC_len,tmC_0,tmC_1,tmC_2,tmC_3,tmC_take,tmC_drop,tmC_one,tmC_ne,e0,e1,q1,q2,hk,iter_one,yWalka_r,yWalka_,Nat.add_assoc]
  refine Comes.some (Canon.same hcl (fun g r h=>?_) (fun g r h=>h) (.pure (pure_tmA t)))
  have:=lt g r h
  simp only [Tr.get_set]
  rw [if_neg (by omega),if_neg (by omega)]
  try rw [if_neg (by omega)]
  exact h
 ·cases h
end Go.Proofs.YtdekdghldblfaaaGreatDoor
namespace Go.Proofs.YtdekdghldblfaaaGreatDoor
open Go Go.Abs Go.RowKit
set_option linter.unusedVariables false
set_option linter.unusedSimpArgs false
attribute [local congr] on_congr br_congr onf_congr
attribute [local congr] Comes_congr
noncomputable abbrev ysBp : List (FuncId × YF):=[(111,yAllU),(140,yOneU)]
noncomputable abbrev lsBp : List (FuncId × (List AV → AH → Option (AV × AH))):=[(109,relH (readR ownbQ)),(110,relH (readR markQ)),(112,relH (readR undoQ)),(160,pureF walkS)]
theorem lsBp_ok : ∀ e ∈ lsBp,HookOne Tryz.prog e.1 e.2:=by
 intro e he
 simp only [lsBp,List.mem_cons,List.not_mem_nil,or_false] at he
 rcases he with rfl | rfl | rfl | rfl
 ·exact ownb_one
 ·exact mark_one
 ·exact undo_one
 ·exact walk_one
theorem ysBp_ok : ∀ e ∈ ysBp,cFun Tryz.prog (fun _=>true) e.1 = some e.2.er:=by
 intro e he
 simp only [ysBp,List.mem_cons,List.not_mem_nil,or_false] at he
 rcases he with rfl | rfl
 ·exact yAllU_ok
 ·exact yOneU_ok
def diffT (a b : Tm) : Prop:=a.kind ≠ b.kind ∨ a.num ≠ b.num ∨ a.name ≠ b.name ∨ a.args.length ≠ b.args.length
theorem walk_hook (F d : Nat) {t : Tm} (g : Nat) (h : t.kind ≠ 0) (H : AH) : icall ysBp lsBp F (d + 1) 160 [.ptr g 0 0,.agg (tmC t)] H = some (.agg (tmC t),H):=by
 rw [icall_hook (k:=pureF walkS) rfl]
 obtain ⟨nx,gs,ms⟩:=H
 simp (maxSteps:=1000000) (disch:=omega) only [↓axP,axQ,↓if_true,↓if_false,ite_true,ite_false,reduceIte,ne_eq,eq_self,Nat.reduceAdd,Nat.reduceSub,Nat.reduceMul,Nat.reduceLeDiff,Nat.reduceEqDiff,Nat.reduceBEq,reduceCtorEq,Int.reduceToNat,Int.reduceLT,Int.reduceLE,Int.reduceEq,Int.reduceAdd,Int.reduceSub,Int.reduceNeg,capnY,appzY,tmC_len,tmC_0,tmC_1,tmC_2,tmC_3,tmC_take,tmC_drop,tmC_one,tmC_ne,walkS_eq h]
set_option maxHeartbeats 1000000 in
theorem one_diff (F d : Nat) (gM g : Nat) (td : AV) (c : Int) (a b : Tm) (ha : a.kind ≠ 0) (hb : b.kind ≠ 0) (hd : diffT a b) (nx : Nat) (gs : Tr Grp) (ms : Tr MapA) (hw : AH.wf ⟨nx,gs,ms⟩) (hM : gs.get gM = some ⟨0,0,[.ptr g 0 0,td,.int .i64 c]⟩) (hgM : gM < nx) :
  ∃ gs',(∀ g',g' < nx → gs'.get g' = gs.get g') ∧ AH.wf ⟨nx + 16,gs',ms⟩ ∧ icall ysBp lsBp F (d + 2) 140 [.ptr gM 0 0,.agg (tmC a),.agg (tmC b)] ⟨nx,gs,ms⟩ = some (.tup [.bool false,.int .i64 0],⟨nx + 16,gs',ms⟩):=by
 refine ⟨(((gs.set nx ⟨0,0,tmC a⟩).set (nx + 1) ⟨0,0,tmC b⟩).set nx ⟨0,0,tmC a⟩).set (nx + 1) ⟨0,0,tmC b⟩,fun g' h=>?_,fun g' h=>?_,icall_text rfl rfl rfl ?_⟩
 ·rw [Tr.get_set_ne _ _ (by omega),Tr.get_set_ne _ _ (by omega),Tr.get_set_ne _ _ (by omega),Tr.get_set_ne _ _ (by omega)]
 ·have : nx + 16 ≤ g':=h
  show (Tr.set _ _ _).get g' = none
  rw [Tr.get_set_ne _ _ (by omega),Tr.get_set_ne _ _ (by omega),Tr.get_set_ne _ _ (by omega),Tr.get_set_ne _ _ (by omega)]; exact hw g' (by show nx ≤ g'; omega)
 have e0:=wf_mk hw
 have e1 : gs.get (nx + 1) = none:=hw (nx + 1) (Nat.le_succ nx)
 have q1 : (nx + 1 = nx) = False:=by simp
 have q2 : (nx = nx + 1) = False:=by simp
 have q3 : (gM = nx) = False:=eq_false (by omega)
 have q4 : (gM = nx + 1) = False:=eq_false (by omega)
 have w1:=fun H=>walk_hook F d g ha H
 have w2:=fun H=>walk_hook F d g hb H
 have ha' : (a.kind = 0) = False:=eq_false ha
 have hb' : (b.kind = 0) = False:=eq_false hb
 unfold diffT at hd
 by_cases k1 : a.kind = b.kind
 ·have ha'' : (b.kind = 0) = False:=eq_false hb
  by_cases k2 : a.num = b.num
  ·by_cases k3 : a.name = b.name
   ·have k4 : (a.args.length : Int) ≠ (b.args.length : Int):=by
     rcases hd with h | h | h | h
     ·exact absurd k1 h
     ·exact absurd k2 h
     ·exact absurd k3 h
     ·omega
    simp (maxSteps:=1000000) (disch:=omega) only [yOneU,xinit_3,↓axP,axQ,↓if_true,↓if_false,ite_true,ite_false,reduceIte,ne_eq,eq_self,Nat.reduceAdd,Nat.reduceSub,Nat.reduceMul,Nat.reduceLeDiff,Nat.reduceEqDiff,Nat.reduceBEq,reduceCtorEq,Int.reduceToNat,Int.reduceLT,Int.reduceLE,Int.reduceEq,Int.reduceAdd,Int.reduceSub,Int.reduceNeg,capnY,appzY,tmC_len,tmC_0,tmC_1,tmC_2,tmC_3,tmC_take,tmC_drop,tmC_one,tmC_ne,e0,e1,q1,q2,q3,q4,hM,w1,w2,ha',hb',k1,k2,k3,k4,beq_self_eq_true,List.length_map,Nat.add_assoc]
   ·have k3' : (a.name == b.name) = false:=beq_false_of_ne k3
    simp (maxSteps:=1000000) (disch:=omega) only [yOneU,xinit_3,↓axP,axQ,↓if_true,↓if_false,ite_true,ite_false,reduceIte,ne_eq,eq_self,Nat.reduceAdd,Nat.reduceSub,Nat.reduceMul,Nat.reduceLeDiff,Nat.reduceEqDiff,Nat.reduceBEq,reduceCtorEq,Int.reduceToNat,Int.reduceLT,Int.reduceLE,Int.reduceEq,Int.reduceAdd,Int.reduceSub,Int.reduceNeg,capnY,appzY,tmC_len,tmC_0,tmC_1,tmC_2,tmC_3,tmC_take,tmC_drop,tmC_one,tmC_ne,e0,e1,q1,q2,q3,q4,hM,w1,w2,ha',hb',k1,k2,k3,k3',List.length_map,Nat.add_assoc]
  ·simp (maxSteps:=1000000) (disch:=omega) only [yOneU,xinit_3,↓axP,axQ,↓if_true,↓if_false,ite_true,ite_false,reduceIte,ne_eq,eq_self,Nat.reduceAdd,Nat.reduceSub,Nat.reduceMul,Nat.reduceLeDiff,Nat.reduceEqDiff,Nat.reduceBEq,reduceCtorEq,Int.reduceToNat,Int.reduceLT,Int.reduceLE,Int.reduceEq,Int.reduceAdd,Int.reduceSub,Int.reduceNeg,capnY,appzY,tmC_len,tmC_0,tmC_1,tmC_2,tmC_3,tmC_take,tmC_drop,tmC_one,tmC_ne,e0,e1,q1,q2,q3,q4,hM,w1,w2,ha',hb',k1,k2,List.length_map,Nat.add_assoc]
 ·simp (maxSteps:=1000000) (disch:=omega) only [yOneU,xinit_3,↓axP,axQ,↓if_true,↓if_false,ite_true,ite_false,reduceIte,ne_eq,eq_self,Nat.reduceAdd,Nat.reduceSub,Nat.reduceMul,Nat.reduceLeDiff,Nat.reduceEqDiff,Nat.reduceBEq,reduceCtorEq,Int.reduceToNat,Int.reduceLT,Int.reduceLE,Int.reduceEq,Int.reduceAdd,Int.reduceSub,Int.reduceNeg,capnY,appzY,tmC_len,tmC_0,tmC_1,tmC_2,tmC_3,tmC_take,tmC_drop,tmC_one,tmC_ne,e0,e1,q1,q2,q3,q4,hM,w1,w2,ha',hb',k1,List.length_map,Nat.add_assoc]
end Go.Proofs.YtdekdghldblfaaaGreatDoor
namespace Go.Proofs.YtdekdghldblfaaaGreatDoor
open Go Go.Abs Go.RowKit
set_option linter.unusedVariables false
set_option linter.unusedSimpArgs false
attribute [local congr] on_congr br_congr onf_congr
attribute [local congr] Comes_congr
def prT (p : Tm × Tm) : List AV:=tmC p.1 ++ tmC p.2
theorem prT_len (p : Tm × Tm) : (prT p).length = 8:=by simp [prT,tmC_len]
theorem flat8 (S : List (Tm × Tm)) : (S.map prT).flatten.length = S.length * 8:=by
 rw [flatten_len' (z:=8) (fun row hr=>by simp only [List.mem_map] at hr; obtain ⟨c,-,rfl⟩:=hr; exact prT_len c),List.length_map]
def Stk8 (H : AH) (g : Nat) (v : AV) (S : List (Tm × Tm)) : Prop:=∃ e cs,v = .slc g e 0 S.length 8 ∧ H.gs.get g = some ⟨e,0,cs⟩ ∧ cs.take (S.length * 8) = (S.map prT).flatten ∧ S.length * 8 ≤ cs.length
theorem stk8_push {H : AH} {g : Nat} {v x : AV} {S : List (Tm × Tm)} {t : Tm × Tm} (h : Stk8 H g v S) (hx : listCells H 8 x = some (1,prT t)) (hl : S.length + 1 ≤ 100000000) :
  ∃ v' H',iapp 8 112 v x H = some (v',H') ∧ Stk8 H' g v' (S ++ [t]) ∧ H'.next = H.next ∧ H'.ms = H.ms ∧ (∀ g',g' ≠ g → H'.gs.get g' = H.gs.get g'):=by
 obtain ⟨e,cs,rfl,hg,ht,hb⟩:=h
 have hL : ((S.map prT).flatten ++ prT t).length = (S ++ [t]).length * 8:=by rw [List.length_append,flat8,prT_len,List.length_append,List.length_singleton]; omega
 refine ⟨.slc g (e + 1) 0 (S.length + 1) 8,⟨H.next,H.gs.set g ⟨e + 1,0,(S.map prT).flatten ++ prT t⟩,H.ms⟩,?_,⟨e + 1,(S.map prT).flatten ++ prT t,by simp,Tr.get_set_same _ _ _,?_,?_⟩,rfl,rfl,fun g' hg'=>Tr.get_set_ne _ _ hg'⟩
 ·rw [app_slc,hx,on_some]
  simp only [hg,on_some]
  rw [if_neg (by omega),if_pos ⟨trivial,trivial,Nat.zero_le _,by omega,by omega,by omega⟩]
  simp only [List.drop_zero,ht]
 ·rw [← hL,List.take_length]; simp
 ·rw [hL]; exact Nat.le_refl _
theorem stk8_pop {H : AH} {g : Nat} {v : AV} {S : List (Tm × Tm)} {t : Tm × Tm} (h : Stk8 H g v (S ++ [t])) : ∃ e cs,v = .slc g e 0 (S.length + 1) 8 ∧ Stk8 H g (.slc g e 0 S.length 8) S ∧ H.gs.get g = some ⟨e,0,cs⟩ ∧ S.length * 8 + 8 ≤ cs.length ∧ (cs.drop (S.length * 8)).take 8 = prT t:=by
 obtain ⟨e,cs,hv,hg,ht,hb⟩:=h
 rw [List.length_append,List.length_singleton] at hv ht hb
 refine ⟨e,cs,hv,⟨e,cs,rfl,hg,?_,by omega⟩,hg,by omega,?_⟩
 ·have:=congrArg (List.take (S.length * 8)) ht
  rw [List.take_take,Nat.min_eq_left (by omega),List.map_append,List.flatten_append,List.take_left' (flat8 S)] at this
  exact this
 ·have:=congrArg (List.drop (S.length * 8)) ht
  rw [List.drop_take,List.map_append,List.flatten_append,List.drop_left' (flat8 S)] at this
  rw [show (S.length + 1) * 8 - S.length * 8 = 8 by omega] at this
  simp only [this,List.map_cons,List.map_nil,List.flatten_cons,List.flatten_nil,List.append_nil]
theorem Stk8.keep {H H' : AH} {g : Nat} {v : AV} {S : List (Tm × Tm)} (h : Stk8 H g v S) (hg : H'.gs.get g = H.gs.get g) : Stk8 H' g v S:=by
 obtain ⟨e,cs,h1,h2,h3⟩:=h
 exact ⟨e,cs,h1,by rw [hg]; exact h2,h3⟩
def prs (x y : Tm) : Nat → List (Tm × Tm)
 | 0=>[]
 | k + 1=>match x.args[k]?,y.args[k]? with
  | some a,some b=>(a,b) :: prs x y k
  | _,_=>[]
structure OJ (x y : Tm) (gM gT g N : Nat) (c : Int) (gs0 : Tr Grp) (ms0 : Tr MapA) (H : AH) (td : AV) (S : List (Tm × Tm)) : Prop where
 wf : H.wf
 nx : N + 2 ≤ H.next
 m : H.gs.get gM = some ⟨0,0,[.ptr g 0 0,td,.int .i64 c]⟩
 bx : H.gs.get N = some ⟨0,0,tmC x⟩
 by_ : H.gs.get (N + 1) = some ⟨0,0,tmC y⟩
 st : Stk8 H gT td S
 old : ∀ g',g' < N → g' ≠ gM → g' ≠ gT → H.gs.get g' = gs0.get g'
 ms : H.ms = ms0
set_option maxHeartbeats 2000000 in
theorem one_loop (F0 d : Nat) (x y : Tm) (gM gT g N : Nat) (c : Int) (gs0 : Tr Grp) (ms0 : Tr MapA) (hx : x.args.length ≤ 1000) (hlen : x.args.length = y.args.length) (hMT : gM ≠ gT) (hM : gM < N) (hT : gT < N) : ∀ (k : Nat) (S : List (Tm × Tm)) (td : AV) (H : AH) (F : Nat),k ≤ x.args.length → S.length + k ≤ 10000000 → OJ x y gM gT g N c gs0 ms0 H td S → k < F →
  ∃ td' H',iter (ycode (icall ysBp lsBp F0 d) F0 yOneUa) F (mk [(0,.ptr gM 0 0),(4,.ptr N 0 0),(5,.ptr (N + 1) 0 0),(8,.int .i64 ((k : Int) - 1))]) H = some (.exit 1,mk [],H') ∧ OJ x y gM gT g N c gs0 ms0 H' td' (S ++ prs x y k):=by
 intro k
 induction k with
 | zero=>
  intro S td H F h1 h2 h3 h8
  obtain ⟨m,rfl⟩:=iter_pos (f:=fun _ _=>none) (n:=F) (by omega)
  refine ⟨td,H,?_,by simpa [prs] using h3⟩
  have hlt : ((0 : Int) ≤ ((0 : Nat) : Int) - 1) = False:=by simp
  rw [iter_one]
  simp (maxSteps:=1000000) (disch:=omega) only [yOneUa_r,yOneUa_,↓axP,axQ,↓if_true,↓if_false,ite_true,ite_false,reduceIte,ne_eq,eq_self,Nat.reduceAdd,Nat.reduceSub,Nat.reduceMul,Nat.reduceLeDiff,Nat.reduceEqDiff,Nat.reduceBEq,reduceCtorEq,Int.reduceToNat,Int.reduceLT,Int.reduceLE,Int.reduceEq,Int.reduceAdd,Int.reduceSub,Int.reduceNeg,capnY,appzY,tmC_len,tmC_0,tmC_1,tmC_2,tmC_3,tmC_take,tmC_drop,tmC_one,tmC_ne,hlt]
 | succ k ih=>
  intro S td H F h1 h2 h3 h8
  obtain ⟨m,rfl⟩:=iter_pos (f:=fun _ _=>none) (n:=F) (by omega)
  obtain ⟨w1,w2,w3,w4,w5,w6,w7,w8⟩:=h3
  obtain ⟨nx,gs,ms⟩:=H
  simp only at w2 w3 w4 w5 w7 w8
  subst w8
  have hk : ((k + 1 : Nat) : Int) - 1 = (k : Int):=by omega
  obtain ⟨a,ha⟩ : ∃ a,x.args[k]? = some a:=⟨_,List.getElem?_eq_getElem (by omega)⟩
  obtain ⟨b,hb⟩ : ∃ b,y.args[k]? = some b:=⟨_,List.getElem?_eq_getElem (by omega)⟩
  have hgx : (x.args.map tmC)[k]? = some (tmC a):=by rw [List.getElem?_map,ha]; rfl
  have hgy : (y.args.map tmC)[k]? = some (tmC b):=by rw [List.getElem?_map,hb]; rfl
  have hpr : prs x y (k + 1) = (a,b) :: prs x y k:=by simp only [prs,ha,hb]
  have e16 : gs.get (nx + 16) = none:=w1 (nx + 16) (by show nx ≤ nx + 16; omega)
  have q1 : (gM = nx + 16) = False:=eq_false (by omega)
  have q2 : (N = nx + 16) = False:=eq_false (by omega)
  have q3 : (N + 1 = nx + 16) = False:=eq_false (by omega)
  have hS : Stk8 ⟨nx + 21,gs.set (nx + 16) ⟨0,0,tmC a ++ tmC b⟩,ms⟩ gT td S:=w6.keep (Tr.get_set_ne _ _ (by omega))
  obtain ⟨v',H',p1,p2,p3,p4,p5⟩:=stk8_push (x:=.slc (nx + 16) 0 0 1 8) (t:=(a,b)) hS (by simp only [prT,↓axP,axQ,↓if_true,↓if_false,ite_true,ite_false,reduceIte,ne_eq,eq_self,Nat.reduceAdd,Nat.reduceSub,Nat.reduceMul,Nat.reduceLeDiff,Nat.reduceEqDiff,Nat.reduceBEq,reduceCtorEq,Int.reduceToNat,Int.reduceLT,Int.reduceLE,Int.reduceEq,Int.reduceAdd,Int.reduceSub,Int.reduceNeg,capnY,appzY,tmC_len,tmC_0,tmC_1,tmC_2,tmC_3,tmC_take,tmC_drop,tmC_one,tmC_ne,List.length_append]) (by omega)
  obtain ⟨nx',gs',ms'⟩:=H'
  simp only at p3 p4 p5
  subst p3
  have p4:=p4.symm
  subst p4
  have hM' : gs'.get gM = some ⟨0,0,[.ptr g 0 0,td,.int .i64 c]⟩:=by
   rw [p5 gM hMT]
   show (gs.set (nx + 16) _).get gM = _
   rw [Tr.get_set_ne _ _ (by omega)]; exact w3
  have hB : ∀ g',g' < nx → g' ≠ gT → gs'.get g' = gs.get g':=fun g' h hn=>by
   rw [p5 g' hn]
   show (gs.set (nx + 16) _).get g' = _
   rw [Tr.get_set_ne _ _ (by omega)]
  have vo : v'.one = true ∧ v'.cells = [v'] ∧ v'.fit = true:=by
   obtain ⟨e,cs,rfl,-⟩:=p2
   exact ⟨rfl,rfl,rfl⟩
  obtain ⟨td',H',k1,k2⟩:=ih (S ++ [(a,b)]) v' ⟨nx + 21,gs'.set gM ⟨0,0,[.ptr g 0 0,v',.int .i64 c]⟩,ms⟩ m (by omega) (by simp; omega)
   ⟨fun g' h=>by
     have : nx + 21 ≤ g':=h
     show (Tr.set _ _ _).get g' = none
     rw [Tr.get_set_ne _ _ (by omega),p5 g' (by omega)]
     show (gs.set (nx + 16) _).get g' = none
     rw [Tr.get_set_ne _ _ (by omega)]; exact w1 g' (by show nx ≤ g'; omega),
    by show N + 2 ≤ nx + 21; omega,Tr.get_set_same _ _ _,
    by show (Tr.set _ _ _).get N = _; rw [Tr.get_set_ne _ _ (by omega),hB N (by omega) (by omega)]; exact w4,
    by show (Tr.set _ _ _).get (N + 1) = _; rw [Tr.get_set_ne _ _ (by omega),hB (N + 1) (by omega) (by omega)]; exact w5,
    p2.keep (Tr.get_set_ne _ _ (Ne.symm hMT)),
    fun g' h h2 h3=>by show (Tr.set _ _ _).get g' = _; rw [Tr.get_set_ne _ _ h2,hB g' (by omega) h3]; exact w7 g' h h2 h3,rfl⟩ (by omega)
  rw [List.append_assoc,List.singleton_append,← hpr] at k2
  refine ⟨td',H',?_,k2⟩
  have hi : (0 : Int) ≤ (k : Int):=by omega
  have hw : IntKind.i64.wrap ((k : Int) - 1) = (k : Int) - 1:=by rw [wrap_i64] <;> omega
  rw [iter_one,hk]
  simp (maxSteps:=1000000) (disch:=omega) only [yOneUa_r,yOneUa_,↓axP,axQ,↓if_true,↓if_false,ite_true,ite_false,reduceIte,ne_eq,eq_self,Nat.reduceAdd,Nat.reduceSub,Nat.reduceMul,Nat.reduceLeDiff,Nat.reduceEqDiff,Nat.reduceBEq,reduceCtorEq,Int.reduceToNat,Int.reduceLT,Int.reduceLE,Int.reduceEq,Int.reduceAdd,Int.reduceSub,Int.reduceNeg,capnY,appzY,tmC_len,tmC_0,tmC_1,tmC_2,tmC_3,tmC_take,tmC_drop,tmC_one,tmC_ne,hi,hw,w3,w4,w5,hgx,hgy,e16,q1,q2,q3,p1,hM',vo.1,vo.2.1,vo.2.2,Int.toNat_natCast,List.length_append,Nat.add_assoc]
  exact k1
end Go.Proofs.YtdekdghldblfaaaGreatDoor
namespace Go.Proofs.YtdekdghldblfaaaGreatDoor
open Go Go.Abs Go.RowKit
set_option linter.unusedVariables false
set_option linter.unusedSimpArgs false
attribute [local congr] on_congr br_congr onf_congr
attribute [local congr] Comes_congr
theorem prs_all (x y : Tm) (hl : x.args.length = y.args.length) : ∀ k,k ≤ x.args.length → (prs x y k).length = k
 | 0,_=>rfl
 | k + 1,h=>by
  obtain ⟨a,ha⟩ : ∃ a,x.args[k]? = some a:=⟨_,List.getElem?_eq_getElem (by omega)⟩
  obtain ⟨b,hb⟩ : ∃ b,y.args[k]? = some b:=⟨_,List.getElem?_eq_getElem (by omega)⟩
  simp only [prs,ha,hb,List.length_cons,prs_all x y hl k (by omega)]
theorem prs_last (x y : Tm) (a b : Tm) (ha : x.args[0]? = some a) (hb : y.args[0]? = some b) (hl : x.args.length = y.args.length) : ∀ k,k + 1 ≤ x.args.length → ∃ S,prs x y (k + 1) = S ++ [(a,b)]
 | 0,_=>⟨[],by simp only [prs,ha,hb]; rfl⟩
 | k + 1,h=>by
  obtain ⟨S,ih⟩:=prs_last x y a b ha hb hl k (by omega)
  obtain ⟨a',ha'⟩ : ∃ a,x.args[k + 1]? = some a:=⟨_,List.getElem?_eq_getElem (by omega)⟩
  obtain ⟨b',hb'⟩ : ∃ b,y.args[k + 1]? = some b:=⟨_,List.getElem?_eq_getElem (by omega)⟩
  refine ⟨(a',b') :: S,?_⟩
  rw [prs.eq_2]
  simp only [ha',hb',ih,List.cons_append]
set_option maxHeartbeats 2000000 in
theorem one_same (F d : Nat) (hF : 1001 < F) (gM gT g : Nat) (td : AV) (c : Int) (x y : Tm) (S : List (Tm × Tm)) (hx : x.kind ≠ 0) (hk : x.kind = y.kind) (hnm : x.name = y.name) (hnu : x.num = y.num) (hl : x.args.length = y.args.length) (hx1 : x.args.length ≤ 1000) (hS : S.length ≤ 1000)
  (nx : Nat) (gs : Tr Grp) (ms : Tr MapA) (hw : AH.wf ⟨nx,gs,ms⟩) (hM : gs.get gM = some ⟨0,0,[.ptr g 0 0,td,.int .i64 c]⟩) (hgM : gM < nx) (hgT : gT < nx) (hMT : gM ≠ gT) (hst : Stk8 ⟨nx,gs,ms⟩ gT td S) :
  ∃ td' H',icall ysBp lsBp F (d + 2) 140 [.ptr gM 0 0,.agg (tmC x),.agg (tmC y)] ⟨nx,gs,ms⟩ = some (.tup [.bool true,.int .i64 0],H') ∧ OJ x y gM gT g nx c gs ms H' td' (S ++ prs x y x.args.length):=by
 have e0:=wf_mk hw
 have e1 : gs.get (nx + 1) = none:=hw (nx + 1) (Nat.le_succ nx)
 have q1 : (nx + 1 = nx) = False:=by simp
 have q2 : (nx = nx + 1) = False:=by simp
 have q3 : (gM = nx) = False:=eq_false (by omega)
 have q4 : (gM = nx + 1) = False:=eq_false (by omega)
 have hy : y.kind ≠ 0:=hk ▸ hx
 have w1:=fun H=>walk_hook F d g hx H
 have w2:=fun H=>walk_hook F d g hy H
 have hy' : (y.kind = 0) = False:=eq_false hy
 let gs':=(((gs.set nx ⟨0,0,tmC x⟩).set (nx + 1) ⟨0,0,tmC y⟩).set nx ⟨0,0,tmC x⟩).set (nx + 1) ⟨0,0,tmC y⟩
 have go : ∀ g',g' ≠ nx → g' ≠ nx + 1 → gs'.get g' = gs.get g':=fun g' h1 h2=>by
  show (Tr.set _ _ _).get g' = _
  rw [Tr.get_set_ne _ _ h2,Tr.get_set_ne _ _ h1,Tr.get_set_ne _ _ h2,Tr.get_set_ne _ _ h1]
 have hOJ : OJ x y gM gT g nx c gs ms ⟨nx + 16,gs',ms⟩ td S:=by
  refine ⟨fun g' h=>?_,by show nx + 2 ≤ nx + 16; omega,?_,?_,Tr.get_set_same _ _ _,hst.keep (go gT (by omega) (by omega)),fun g' h _ _=>go g' (by omega) (by omega),rfl⟩
  ·have : nx + 16 ≤ g':=h
   show gs'.get g' = none
   rw [go g' (by omega) (by omega)]; exact hw g' (by show nx ≤ g'; omega)
  ·show gs'.get gM = _
   rw [go gM (by omega) (by omega)]; exact hM
  ·show (Tr.set _ _ _).get nx = _
   rw [Tr.get_set_ne _ _ (by omega),Tr.get_set_same]
 obtain ⟨td',H',k1,k2⟩:=one_loop F (d + 1) x y gM gT g nx c gs ms hx1 hl hMT hgM hgT x.args.length S td ⟨nx + 16,gs',ms⟩ F (Nat.le_refl _) (by omega) hOJ (by omega)
 refine ⟨td',H',icall_text rfl rfl rfl ?_,k2⟩
 have hlen : ((x.args.length : Int) = (y.args.length : Int)) = True:=eq_true (by omega)
 have hwx : IntKind.i64.wrap ((x.args.length : Int) - 1) = (x.args.length : Int) - 1:=by rw [wrap_i64] <;> omega
 have k1' : iter (ycode (icall ysBp lsBp F (d + 1)) F yOneUa) F (mk [(0,.ptr gM 0 0),(4,.ptr nx 0 0),(5,.ptr (nx + 1) 0 0),(8,.int .i64 ((x.args.length : Int) - 1))]) ⟨nx + 16,(((gs.set nx ⟨0,0,tmC x⟩).set (nx + 1) ⟨0,0,tmC y⟩).set nx ⟨0,0,tmC x⟩).set (nx + 1) ⟨0,0,tmC y⟩,ms⟩ = some (.exit 1,mk [],H'):=k1
 obtain ⟨nx',gs'',ms'⟩:=H'
 rw [hl] at hwx k1'
 simp (maxSteps:=1000000) (disch:=omega) only [yOneU,xinit_3,↓axP,axQ,↓if_true,↓if_false,ite_true,ite_false,reduceIte,ne_eq,eq_self,Nat.reduceAdd,Nat.reduceSub,Nat.reduceMul,Nat.reduceLeDiff,Nat.reduceEqDiff,Nat.reduceBEq,reduceCtorEq,Int.reduceToNat,Int.reduceLT,Int.reduceLE,Int.reduceEq,Int.reduceAdd,Int.reduceSub,Int.reduceNeg,capnY,appzY,tmC_len,tmC_0,tmC_1,tmC_2,tmC_3,tmC_take,tmC_drop,tmC_one,tmC_ne,e0,e1,q1,q2,q3,q4,hM,w1,w2,hy',hk,hnu,hnm,hl,beq_self_eq_true,hwx,k1',List.length_map,Nat.add_assoc]
end Go.Proofs.YtdekdghldblfaaaGreatDoor
namespace Go.Proofs.YtdekdghldblfaaaGreatDoor
open Go Go.Abs Go.RowKit
set_option linter.unusedVariables false
set_option linter.unusedSimpArgs false
attribute [local congr] on_congr br_congr onf_congr
attribute [local congr] Comes_congr
structure Apt (x y a b : Tm) : Prop where
 k : x.kind ≠ 0
 hk : x.kind = y.kind
 nm : x.name = y.name
 len : x.args.length = y.args.length
 l1 : x.args.length ≤ 1000
 a0 : x.args[0]? = some a
 b0 : y.args[0]? = some b
 ka : a.kind ≠ 0
 kb : b.kind ≠ 0
 df : diffT a b
def costP (x y : Tm) : Int:=if x.num = y.num then 2 else 1
set_option maxHeartbeats 4000000 in
theorem all_call (F d : Nat) (hF : 1001 < F) (gM gT g : Nat) (x y a b : Tm) (hp : Apt x y a b)
  (nx : Nat) (gs : Tr Grp) (ms : Tr MapA) (hw : AH.wf ⟨nx,gs,ms⟩) (hM : gs.get gM = some ⟨0,0,[.ptr g 0 0,.slc gT 0 0 1 8,.int .i64 0]⟩) (hT : gs.get gT = some ⟨0,0,tmC x ++ tmC y⟩) (hgM : gM < nx) (hgT : gT < nx) (hMT : gM ≠ gT) :
  ∃ td H',icall ysBp lsBp F (d + 3) 111 [.ptr gM 0 0] ⟨nx,gs,ms⟩ = some (.tup [.bool false,.int .i64 0],H') ∧ H'.gs.get gM = some ⟨0,0,[.ptr g 0 0,td,.int .i64 (costP x y)]⟩ ∧ (∀ g',g' < nx → g' ≠ gM → g' ≠ gT → H'.gs.get g' = gs.get g') ∧ H'.ms = ms:=by
 obtain ⟨p1,p2,p3,p4,p5,p6,p7,p8,p9,p10⟩:=hp
 have hT8 : (tmC x ++ tmC y).length = 8:=by simp [tmC_len]
 have tk4 : (tmC x ++ tmC y).take 4 = tmC x:=by rw [← tmC_len x,List.take_left]
 have e12 : gs.get (nx + 12) = none:=hw (nx + 12) (by show nx ≤ nx + 12; omega)
 have q1 : (gM = nx + 12) = False:=eq_false (by omega)
 have q2 : (gT = nx + 12) = False:=eq_false (by omega)
 have q3 : (nx + 12 = gM) = False:=eq_false (by omega)
 have q4 : (gT = gM) = False:=eq_false (Ne.symm hMT)
 let gs1:=(gs.set (nx + 12) ⟨0,0,tmC x ++ tmC y⟩).set gM ⟨0,0,[.ptr g 0 0,.slc gT 0 0 0 8,.int .i64 1]⟩
 have o1 : ∀ g',g' ≠ nx + 12 → g' ≠ gM → gs1.get g' = gs.get g':=fun g' h1 h2=>by
  show (Tr.set _ _ _).get g' = _
  rw [Tr.get_set_ne _ _ h2,Tr.get_set_ne _ _ h1]
 have wf1 : AH.wf ⟨nx + 29,gs1,ms⟩:=fun g' h=>by
  have : nx + 29 ≤ g':=h
  show gs1.get g' = none
  rw [o1 g' (by omega) (by omega)]; exact hw g' (by show nx ≤ g'; omega)
 have m1 : gs1.get gM = some ⟨0,0,[.ptr g 0 0,.slc gT 0 0 0 8,.int .i64 1]⟩:=Tr.get_set_same _ _ _
 obtain ⟨k,rfl⟩:=iter_pos (f:=fun _ _=>none) (n:=F) (by omega)
 obtain ⟨k,rfl⟩:=iter_pos (f:=fun _ _=>none) (n:=k) (by omega)
 by_cases hn : x.num = y.num
 ·have hS : Stk8 ⟨nx + 29,gs1,ms⟩ gT (.slc gT 0 0 0 8) []:=⟨0,tmC x ++ tmC y,rfl,(o1 gT (by omega) (Ne.symm hMT)).trans hT,by simp,by simp⟩
  obtain ⟨td',⟨nx2,gs2,ms2⟩,k1,c1,c2,c3,c4,c5,c6,c7,c8⟩:=one_same (k + 1 + 1) d hF gM gT g (.slc gT 0 0 0 8) 1 x y [] p1 p2 p3 hn p4 p5 (by simp) (nx + 29) gs1 ms wf1 m1 (by omega) (by omega) hMT hS
  simp only at c2 c3 c7 c8
  obtain ⟨j,hj⟩ : ∃ j,x.args.length = j + 1:=by
   cases h : x.args with
   | nil=>rw [h] at p6; simp at p6
   | cons t ts=>exact ⟨ts.length,rfl⟩
  obtain ⟨S,hS'⟩:=prs_last x y a b p6 p7 p4 j (by omega)
  rw [hj,hS',List.nil_append] at c6
  have hSl : S.length + 1 ≤ 1000:=by
   have h1:=prs_all x y p4 (j + 1) (by omega)
   rw [hS',List.length_append,List.length_singleton] at h1
   omega
  obtain ⟨e,cs,rfl,s1,s2,s3,s4⟩:=stk8_pop c6
  simp only at s2
  have e12' : gs2.get (nx2 + 12) = none:=c1 (nx2 + 12) (by show nx2 ≤ nx2 + 12; omega)
  have r1 : (gM = nx2 + 12) = False:=eq_false (by omega)
  have r2 : (gT = nx2 + 12) = False:=eq_false (by omega)
  have r3 : (nx2 + 12 = gM) = False:=eq_false (by omega)
  let gs3:=(gs2.set (nx2 + 12) ⟨0,0,tmC a ++ tmC b⟩).set gM ⟨0,0,[.ptr g 0 0,.slc gT e 0 S.length 8,.int .i64 2]⟩
  have o3 : ∀ g',g' ≠ nx2 + 12 → g' ≠ gM → gs3.get g' = gs2.get g':=fun g' h1 h2=>by
   show (Tr.set _ _ _).get g' = _
   rw [Tr.get_set_ne _ _ h2,Tr.get_set_ne _ _ h1]
  have wf3 : AH.wf ⟨nx2 + 29,gs3,ms2⟩:=fun g' h=>by
   have : nx2 + 29 ≤ g':=h
   show gs3.get g' = none
   rw [o3 g' (by omega) (by omega)]; exact c1 g' (by show nx2 ≤ g'; omega)
  obtain ⟨gs4,d1,d2,d3⟩:=one_diff (k + 1 + 1) d gM g (.slc gT e 0 S.length 8) 2 a b p8 p9 p10 (nx2 + 29) gs3 ms2 wf3 (Tr.get_set_same _ _ _) (by omega)
  have d3' : icall ysBp lsBp (k + 1 + 1) (d + 2) 140 [.ptr gM 0 0,.agg (tmC a),.agg (tmC b)] ⟨nx2 + 29,(gs2.set (nx2 + 12) ⟨0,0,tmC a ++ tmC b⟩).set gM ⟨0,0,[.ptr g 0 0,.slc gT e 0 S.length 8,.int .i64 2]⟩,ms2⟩ = some (.tup [.bool false,.int .i64 0],⟨nx2 + 29 + 16,gs4,ms2⟩):=d3
  have k1' : icall ysBp lsBp (k + 1 + 1) (d + 2) 140 [.ptr gM 0 0,.agg (tmC x),.agg (tmC y)] ⟨nx + 29,(gs.set (nx + 12) ⟨0,0,tmC x ++ tmC y⟩).set gM ⟨0,0,[.ptr g 0 0,.slc gT 0 0 0 8,.int .i64 1]⟩,ms⟩ = _:=k1
  refine ⟨.slc gT e 0 S.length 8,⟨nx2 + 29 + 16,gs4,ms2⟩,icall_text rfl rfl rfl ?_,?_,fun g' h h2 h3=>?_,c8⟩
  ·have tk4' : (tmC a ++ tmC b).take 4 = tmC a:=by rw [← tmC_len a,List.take_left]
   have hT8' : (tmC a ++ tmC b).length = 8:=by simp [tmC_len]
   have hpos : (0 : Int) < (S.length : Int) + 1:=by omega
   have hw1 : IntKind.i64.wrap ((S.length : Int) + 1 - 1) = (S.length : Int):=by rw [wrap_i64] <;> omega
   have hi : (0 : Int) ≤ (S.length : Int):=by omega
   have hi2 : (S.length : Int) < (S.length : Int) + 1:=by omega
   have hle : S.length ≤ S.length + 1:=by omega
   unfold prT at s4
   simp (maxSteps:=1000000) (disch:=omega) only [yAllU,xinit_1,↓axP,axQ,↓if_true,↓if_false,ite_true,ite_false,reduceIte,ne_eq,eq_self,Nat.reduceAdd,Nat.reduceSub,Nat.reduceMul,Nat.reduceLeDiff,Nat.reduceEqDiff,Nat.reduceBEq,reduceCtorEq,Int.reduceToNat,Int.reduceLT,Int.reduceLE,Int.reduceEq,Int.reduceAdd,Int.reduceSub,Int.reduceNeg,capnY,appzY,tmC_len,tmC_0,tmC_1,tmC_2,tmC_3,tmC_take,tmC_drop,tmC_one,tmC_ne,iter_one,yAllUa_r,yAllUa_,e12,q1,q2,q3,q4,hM,hT,hT8,tk4,k1',c3,s2,s3,s4,r1,r2,r3,e12',hpos,hw1,hi,hi2,hle,Int.toNat_natCast,d3',true_or,Nat.sub_zero,Nat.add_assoc]
   done
  ·show gs4.get gM = _
   rw [d1 gM (by omega)]
   show (Tr.set _ _ _).get gM = _
   rw [Tr.get_set_same,costP,if_pos hn]
  ·show gs4.get g' = _
   rw [d1 g' (by omega),o3 g' (by omega) h2,c7 g' (by omega) h2 h3,o1 g' (by omega) h2]
 ·obtain ⟨gs4,d1,d2,d3⟩:=one_diff (k + 1 + 1) d gM g (.slc gT 0 0 0 8) 1 x y p1 (p2 ▸ p1) (.inr (.inl hn)) (nx + 29) gs1 ms wf1 m1 (by omega)
  have d3' : icall ysBp lsBp (k + 1 + 1) (d + 2) 140 [.ptr gM 0 0,.agg (tmC x),.agg (tmC y)] ⟨nx + 29,(gs.set (nx + 12) ⟨0,0,tmC x ++ tmC y⟩).set gM ⟨0,0,[.ptr g 0 0,.slc gT 0 0 0 8,.int .i64 1]⟩,ms⟩ = some (.tup [.bool false,.int .i64 0],⟨nx + 29 + 16,gs4,ms⟩):=d3
  refine ⟨.slc gT 0 0 0 8,⟨nx + 29 + 16,gs4,ms⟩,icall_text rfl rfl rfl ?_,?_,fun g' h h2 h3=>?_,rfl⟩
  ·simp (maxSteps:=1000000) (disch:=omega) only [yAllU,xinit_1,↓axP,axQ,↓if_true,↓if_false,ite_true,ite_false,reduceIte,ne_eq,eq_self,Nat.reduceAdd,Nat.reduceSub,Nat.reduceMul,Nat.reduceLeDiff,Nat.reduceEqDiff,Nat.reduceBEq,reduceCtorEq,Int.reduceToNat,Int.reduceLT,Int.reduceLE,Int.reduceEq,Int.reduceAdd,Int.reduceSub,Int.reduceNeg,capnY,appzY,tmC_len,tmC_0,tmC_1,tmC_2,tmC_3,tmC_take,tmC_drop,tmC_one,tmC_ne,iter_one,yAllUa_r,yAllUa_,e12,q1,q2,q3,q4,hM,hT,hT8,tk4,d3',true_or,Nat.sub_zero,Nat.add_assoc]
  ·show gs4.get gM = _
   rw [d1 gM (by omega)]
   show (Tr.set _ _ _).get gM = _
   rw [Tr.get_set_same,costP,if_neg hn]
  ·show gs4.get g' = _
   rw [d1 g' (by omega),o1 g' (by omega) h2]
end Go.Proofs.YtdekdghldblfaaaGreatDoor
namespace Go.Proofs.YtdekdghldblfaaaGreatDoor
open Go Go.Abs Go.RowKit
set_option linter.unusedVariables false
set_option linter.unusedSimpArgs false
attribute [local congr] on_congr br_congr onf_congr
attribute [local congr] Comes_congr
noncomputable def bothY (n : Nat) (x y : Tm) : AV:=if (ownB n x && ownB n y) = true then .tup [.bool false,.int .i64 (costP x y),.int .i64 0] else .tup [.bool false,.int .i64 0,.int .i64 1]
def bothQ (args : List AV) (H : AH) (z : AV) : Prop:=∃ g n x y a b,args = [.ptr g 0 0,.agg (tmC x),.agg (tmC y)] ∧ BAt H g n ∧ Fine 1000 x ∧ Fine 1000 y ∧ Apt x y a b ∧ z = bothY n x y
theorem bothQ_one (a : List AV) (H : AH) (y y2 : AV) (h : bothQ a H y) (k : bothQ a H y2) : y = y2:=by
 obtain ⟨g,n,x,y,a,b,rfl,h1,-,-,-,rfl⟩:=h
 obtain ⟨g',n',x',y',a',b',e,k1,-,-,-,rfl⟩:=k
 simp only [List.cons.injEq,AV.ptr.injEq,true_and,and_true] at e
 obtain ⟨rfl,e1,e2⟩:=e
 have e1 : tmA x = tmA x':=e1
 have e2 : tmA y = tmA y':=e2
 cases tmA_inj e1
 cases tmA_inj e2
 cases h1.inj k1
 rfl
set_option maxHeartbeats 2000000 in
theorem both_one : HookOne Tryz.prog 69 (relH (readR bothQ)):=by
 refine HookOne.ofReadR (by decide +kernel) bothQ_one (fun args H z h=>?_) fun args H z X H2 h he ha=>?_
 ·obtain ⟨g,n,x,y,a,b,rfl,h1,hfx,hfy,hp,rfl⟩:=h
  have hic:=icall_ok (P:=Tryz.prog) mixed (fun f=>draws f rfl) ysBp_ok lsBp_ok 1002 3
  refine ACalls.onCall hic.1 hic.2 mixed (draws _ rfl) yBoth_ok rfl 1002 fun N hN hcl=>?_
  obtain ⟨nx0,gs,ms⟩:=H
  simp only at hN
  have e0:=(hN N (Nat.le_refl _)).1
  have e1:=(hN (N + 1) (by omega)).1
  have e2:=(hN (N + 2) (by omega)).1
  have e3:=(hN (N + 3) (by omega)).1
  have q1 : (N + 1 = N) = False:=by simp
  have q2 : (N = N + 1) = False:=by simp
  have q3 : (N + 2 = N) = False:=eq_false (by omega)
  have q4 : (N + 2 = N + 1) = False:=eq_false (by omega)
  have q5 : (N + 3 = N) = False:=eq_false (by omega)
  have q6 : (N + 3 = N + 1) = False:=eq_false (by omega)
  have q7 : (N + 3 = N + 2) = False:=eq_false (by omega)
  have q8 : (N = N + 2) = False:=eq_false (by omega)
  have q9 : (N + 1 = N + 2) = False:=eq_false (by omega)
  have lt : ∀ g r,gs.get g = some r → g < N:=fun g r h=>by
   rcases Nat.lt_or_ge g N with q | q
   ·exact q
   ·rw [(hN g q).1] at h; cases h
  let gs2:=(gs.set N ⟨0,0,tmC x⟩).set (N + 1) ⟨0,0,tmC y⟩
  have g2o : ∀ g',g' ≠ N → g' ≠ N + 1 → gs2.get g' = gs.get g':=fun g' h1 h2=>by
   show (Tr.set _ _ _).get g' = _
   rw [Tr.get_set_ne _ _ h2,Tr.get_set_ne _ _ h1]
  let gs4:=(gs2.set (N + 2) ⟨0,0,tmC x ++ tmC y⟩).set (N + 3) ⟨0,0,[.ptr g 0 0,.slc (N + 2) 0 0 1 8,.int .i64 0]⟩
  have g4o : ∀ g',g' < N → gs4.get g' = gs.get g':=fun g' h=>by
   show (Tr.set _ _ _).get g' = _
   rw [Tr.get_set_ne _ _ (by omega),Tr.get_set_ne _ _ (by omega)]; exact g2o g' (by omega) (by omega)
  have hb2 : ∀ nx,BAt ⟨nx,gs2,ms⟩ g n:=fun nx=>h1.keep lt fun g' h=>g2o g' (by omega) (by omega)
  have ho : ∀ nx t,Fine 1000 t → icall ysBp lsBp 1002 3 109 [.ptr g 0 0,.agg (tmC t)] ⟨nx,gs2,ms⟩ = some (.bool (ownB n t),⟨nx,gs2,ms⟩):=fun nx t hf=>by
   rw [icall_hook (k:=relH (readR ownbQ)) rfl]
   exact readR_eq ownbQ_one ⟨g,n,t,rfl,hb2 nx,hf,rfl⟩
  have hox:=fun nx=>ho nx x hfx
  have hoy:=fun nx=>ho nx y hfy
  have hmk : ∀ nx,icall ysBp lsBp 1002 3 110 [.ptr g 0 0] ⟨nx,gs2,ms⟩ = some (.int .i64 0,⟨nx,gs2,ms⟩):=fun nx=>by
   rw [icall_hook (k:=relH (readR markQ)) rfl]
   exact readR_eq (fun a H y y2 h k=>by obtain ⟨g,n,rfl,h1,rfl⟩:=h; obtain ⟨g',n',e,k1,rfl⟩:=k; rfl) ⟨g,n,rfl,hb2 nx,rfl⟩
  have hend : ∀ nx z,pureA z = true → Go.Abs.Comes (some (z,⟨nx,gs2,ms⟩)) ⟨nx0,gs,ms⟩ z ⟨nx0,gs,ms⟩:=fun nx z hz=>by
   refine Comes.some (Canon.same hcl (fun g' r h=>?_) (fun g r h=>h) (.pure hz))
   have:=lt g' r h
   rw [show gs2.get g' = gs.get g' from g2o g' (by omega) (by omega)]; exact h
  have hs2 : (gs.set N ⟨0,0,tmC x⟩).set (N + 1) ⟨0,0,tmC y⟩ = gs2:=rfl
  have l0 : gs2.get N = some ⟨0,0,tmC x⟩:=by
   show (Tr.set _ _ _).get N = _
   rw [Tr.get_set_ne _ _ (by omega),Tr.get_set_same]
  have l1 : gs2.get (N + 1) = some ⟨0,0,tmC y⟩:=Tr.get_set_same _ _ _
  have f2 : gs2.get (N + 2) = none:=(g2o _ (by omega) (by omega)).trans e2
  have f3 : gs2.get (N + 3) = none:=(g2o _ (by omega) (by omega)).trans e3
  unfold bothY
  clear_value gs2
  cases hx : ownB n x with
  | false=>
   rw [hx] at hox
   simp (maxSteps:=1000000) (disch:=omega) only [yBoth,xinit_3,↓axP,axQ,↓if_true,↓if_false,ite_true,ite_false,reduceIte,ne_eq,eq_self,Nat.reduceAdd,Nat.reduceSub,Nat.reduceMul,Nat.reduceLeDiff,Nat.reduceEqDiff,Nat.reduceBEq,reduceCtorEq,Int.reduceToNat,Int.reduceLT,Int.reduceLE,Int.reduceEq,Int.reduceAdd,Int.reduceSub,Int.reduceNeg,capnY,appzY,tmC_len,tmC_0,tmC_1,tmC_2,tmC_3,tmC_take,tmC_drop,tmC_one,tmC_ne,e0,e1,q1,q2,hs2,l0,l1,hox,Bool.false_and,Bool.false_eq_true]
   exact hend _ _ rfl
  | true=>
   rw [hx] at hox
   cases hy : ownB n y with
   | false=>
    rw [hy] at hoy
    simp (maxSteps:=1000000) (disch:=omega) only [yBoth,xinit_3,↓axP,axQ,↓if_true,↓if_false,ite_true,ite_false,reduceIte,ne_eq,eq_self,Nat.reduceAdd,Nat.reduceSub,Nat.reduceMul,Nat.reduceLeDiff,Nat.reduceEqDiff,Nat.reduceBEq,reduceCtorEq,Int.reduceToNat,Int.reduceLT,Int.reduceLE,Int.reduceEq,Int.reduceAdd,Int.reduceSub,Int.reduceNeg,capnY,appzY,tmC_len,tmC_0,tmC_1,tmC_2,tmC_3,tmC_take,tmC_drop,tmC_one,tmC_ne,e0,e1,q1,q2,hs2,l0,l1,hox,hoy,Bool.true_and,Bool.false_eq_true]
    exact hend _ _ rfl
   | true=>
    rw [hy] at hoy
    obtain ⟨td,⟨nx',gs',ms'⟩,k1,k2,k3,k4⟩:=all_call 1002 0 (by omega) (N + 3) (N + 2) g x y a b hp (N + 4) gs4 ms (fun g' h=>by
      have : N + 4 ≤ g':=h
      show (Tr.set _ _ _).get g' = none
      rw [Tr.get_set_ne _ _ (by omega),Tr.get_set_ne _ _ (by omega),g2o g' (by omega) (by omega)]; exact (hN g' (by omega)).1)
     (Tr.get_set_same _ _ _) (by show (Tr.set _ _ _).get (N + 2) = _; rw [Tr.get_set_ne _ _ (by omega),Tr.get_set_same]) (by omega) (by omega) (by omega)
    simp only at k2 k3 k4
    subst k4
    have k1' : icall ysBp lsBp 1002 3 111 [.ptr (N + 3) 0 0] ⟨N + 4,(gs2.set (N + 2) ⟨0,0,tmC x ++ tmC y⟩).set (N + 3) ⟨0,0,[.ptr g 0 0,.slc (N + 2) 0 0 1 8,.int .i64 0]⟩,ms'⟩ = some (.tup [.bool false,.int .i64 0],⟨nx',gs',ms'⟩):=k1
    have o' : ∀ g',g' < N → gs'.get g' = gs.get g':=fun g' h=>by rw [k3 g' (by omega) (by omega) (by omega)]; exact g4o g' h
    have hun : icall ysBp lsBp 1002 3 112 [.ptr g 0 0,.int .i64 0] ⟨nx',gs',ms'⟩ = some (.bool true,⟨nx',gs',ms'⟩):=by
     rw [icall_hook (k:=relH (readR undoQ)) rfl]
     exact readR_eq (fun a H y y2 h k=>by obtain ⟨g,n,rfl,h1,rfl⟩:=h; obtain ⟨g',n',e,k1,rfl⟩:=k; rfl) ⟨g,n,rfl,h1.keep lt o',rfl⟩
    have hT8 : (tmC x ++ tmC y).length = 8:=by simp [tmC_len]
    simp (maxSteps:=1000000) (disch:=omega) only [yBoth,xinit_3,↓axP,axQ,↓if_true,↓if_false,ite_true,ite_false,reduceIte,ne_eq,eq_self,Nat.reduceAdd,Nat.reduceSub,Nat.reduceMul,Nat.reduceLeDiff,Nat.reduceEqDiff,Nat.reduceBEq,reduceCtorEq,Int.reduceToNat,Int.reduceLT,Int.reduceLE,Int.reduceEq,Int.reduceAdd,Int.reduceSub,Int.reduceNeg,capnY,appzY,tmC_len,tmC_0,tmC_1,tmC_2,tmC_3,tmC_take,tmC_drop,tmC_one,tmC_ne,e0,e1,q1,q2,hs2,l0,l1,hox,hoy,hmk,f2,f3,q7,hT8,k1',hun,k2,Bool.true_and,Nat.add_assoc]
    refine Comes.some (Canon.same hcl (fun g' r h=>?_) (fun g r h=>h) (.pure (x:=.tup [.bool false,.int .i64 (costP x y),.int .i64 0]) rfl))
    rw [show gs'.get g' = gs.get g' from o' g' (lt g' r h)]; exact h
 ·obtain ⟨g,n,x,y,a,b,rfl,h1,hfx,hfy,hp,rfl⟩:=h
  exact ⟨g,n,x,y,a,b,rfl,h1.ext he ha,hfx,hfy,hp,rfl⟩
end Go.Proofs.YtdekdghldblfaaaGreatDoor
