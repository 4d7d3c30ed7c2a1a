
import Derived.Test.YtdekdghldblfaaaGreatDoorAbsS
import Derived.Test.YtdekdghldblfaaaGreatDoorGoodA
import Derived.Test.YtdekdghldblfaaaGreatDoorDrawsA
import Derived.Test.YtdekdghldblfaaaGreatDoorYBody
import Derived.Test.YtdekdghldblfaaaGreatDoorAbsSB
namespace Go.Proofs.YtdekdghldblfaaaGreatDoor
open Go Go.Abs Go.ChangeShapes Go.WideShapes Go.ChangeAt Go.RowKit
set_option linter.unusedVariables false
mutual
def tmC : Tm → List AV
 | .mk k n s l=>[.int .i64 k,.int .i64 n,.str s,.vals 4 (tmRs l)]
def tmRs : List Tm → List (List AV)
 | []=>[]
 | t :: ts=>tmC t :: tmRs ts
end
def tmA (t : Tm) : AV:=.agg (tmC t)
theorem tmRs_map : ∀ l : List Tm,tmRs l = l.map tmC
 | []=>by simp [tmRs]
 | t :: ts=>by simp [tmRs,tmRs_map ts]
theorem tmC_eq (t : Tm) : tmC t = [.int .i64 t.kind,.int .i64 t.num,.str t.name,.vals 4 (t.args.map tmC)]:=by
 cases t; simp [tmC,tmRs_map,Tm.kind,Tm.num,Tm.name,Tm.args]
theorem tmC_len (t : Tm) : (tmC t).length = 4:=by rw [tmC_eq]; rfl
theorem tmC_0 (t : Tm) : (tmC t)[0]? = some (.int .i64 t.kind):=by rw [tmC_eq]; exact (rfl)
theorem tmC_1 (t : Tm) : (tmC t)[1]? = some (.int .i64 t.num):=by rw [tmC_eq]; exact (rfl)
theorem tmC_2 (t : Tm) : (tmC t)[2]? = some (.str t.name):=by rw [tmC_eq]; exact (rfl)
theorem tmC_3 (t : Tm) : (tmC t)[3]? = some (.vals 4 (t.args.map tmC)):=by rw [tmC_eq]; exact (rfl)
theorem tmC_take (t : Tm) {n : Nat} (h : 4 ≤ n) : (tmC t).take n = tmC t:=List.take_of_length_le (by rw [tmC_len]; omega)
theorem tmC_drop (t : Tm) {n : Nat} (h : 4 ≤ n) : (tmC t).drop n = []:=List.drop_eq_nil_of_le (by rw [tmC_len]; omega)
theorem tmC_one (t : Tm) : (tmC t).all AV.one = true:=by rw [tmC_eq]; exact (rfl)
theorem tmC_ne (t : Tm) : (tmC t = []) = False:=by rw [tmC_eq]; simp
mutual
def ofA : AV → Option (List Tm)
 | .vals z rows=>if z = 4 then ofRs rows else none
 | _=>none
def ofL : List AV → Option Tm
 | []=>none
 | .int .i64 k :: xs=>ofL1 k xs
 | _ :: _=>none
def ofL1 (k : Int) : List AV → Option Tm
 | .int .i64 n :: xs=>ofL2 k n xs
 | _=>none
def ofL2 (k n : Int) : List AV → Option Tm
 | .str s :: xs=>ofL3 k n s xs
 | _=>none
def ofL3 (k n : Int) (s : List UInt8) : List AV → Option Tm
 | a :: []=>match ofA a with | some l=>some (.mk k n s l) | none=>none
 | _=>none
def ofRs : List (List AV) → Option (List Tm)
 | []=>some []
 | r :: rs=>match ofL r,ofRs rs with
  | some t,some ts=>some (t :: ts)
  | _,_=>none
end
mutual
theorem ofL_tm : ∀ t : Tm,ofL (tmC t) = some t
 | .mk k n s l=>by simp [tmC,ofL,ofL1,ofL2,ofL3,ofA,ofRs_tm l]
theorem ofRs_tm : ∀ l : List Tm,ofRs (tmRs l) = some l
 | []=>by simp [tmRs,ofRs]
 | t :: ts=>by simp [tmRs,ofRs,ofL_tm t,ofRs_tm ts]
end
theorem tmC_inj {t t' : Tm} (h : tmC t = tmC t') : t = t':=by
 have:=ofL_tm t
 rw [h,ofL_tm] at this
 exact (Option.some.inj this).symm
theorem tmA_inj {t t' : Tm} (h : tmA t = tmA t') : t = t':=tmC_inj (by unfold tmA at h; exact AV.agg.inj h)
theorem rows_inj {l l' : List Tm} (h : l.map tmC = l'.map tmC) : l = l':=by
 have:=ofRs_tm l
 rw [tmRs_map,h,← tmRs_map,ofRs_tm] at this
 exact (Option.some.inj this).symm
noncomputable def back {α : Type} (f : α → AV) (x : AV) : Option α:=@dite _ (∃ t,x = f t) (Classical.propDecidable _) (fun h=>some h.choose) fun _=>none
theorem back_eq {α : Type} {f : α → AV} (hf : ∀ a b,f a = f b → a = b) (t : α) : back f (f t) = some t:=by
 have h : ∃ t',f t = f t':=⟨t,rfl⟩
 unfold back
 rw [dif_pos h]
 exact congrArg some (hf _ _ h.choose_spec).symm
theorem back_ok {α : Type} {f : α → AV} {x : AV} {t : α} (h : back f x = some t) : x = f t:=by
 unfold back at h
 split at h
 ·rename_i hx; cases h; exact hx.choose_spec
 ·cases h
noncomputable abbrev ofT : AV → Option Tm:=back tmA
theorem ofT_tm (t : Tm) : ofT (tmA t) = some t:=back_eq (fun _ _=>tmA_inj) t
theorem ofT_ok {x : AV} {t : Tm} (h : ofT x = some t) : x = tmA t:=back_ok h
mutual
theorem pure_tmC : ∀ t : Tm,pureL (tmC t) = true
 | .mk k n s l=>by simp [tmC,pureL,pureA,pure_tmRs l]
theorem pure_tmRs : ∀ l : List Tm,pureR (tmRs l) = true
 | []=>by simp [tmRs,pureR]
 | t :: ts=>by simp [tmRs,pureR,pure_tmC t,pure_tmRs ts]
end
theorem pure_tmA (t : Tm) : pureA (tmA t) = true:=by simp [tmA,pureA,pure_tmC]
theorem pure_rows (l : List Tm) : pureR (l.map tmC) = true:=by rw [← tmRs_map]; exact pure_tmRs l
theorem addr_add (b o n : Nat) : (⟨b,o,none⟩ : Addr).add n = ⟨b,o + n,none⟩:=by
 unfold Addr.add
 split
 ·rename_i h; subst h; rfl
 ·rfl
mutual
theorem tm_holds {N : Nat} {G : Gh} {w : World} (hN : N ≤ maxLen) (hM : ∀ b o v,G.M b o = some v → w.cell? ⟨b,o,none⟩ = some v) : ∀ (t : Tm) (us : List Value),Fine N t → VRs G (tmC t) us → ∃ sl,us = [.int .i64 t.kind,.int .i64 t.num,.string ⟨t.name.toArray⟩,sl] ∧ Holds w (fun _=>True) t (tmV t.kind t.num t.name sl)
 | .mk k n s l,us,hf,hv=>by
  simp only [tmC,VRs,VR] at hv
  obtain ⟨_,_,rfl,rfl,_,_,rfl,rfl,_,_,rfl,rfl,sl,_,rfl,⟨a,cap,rfl,hc,hin⟩,rfl⟩:=hv
  refine ⟨_,rfl,?_⟩
  have hlen : (tmRs l).length = l.length:=by rw [tmRs_map]; simp
  rw [hlen]
  rcases hin with h0 | ⟨b,o,rfl,hin⟩
  ·have : l = []:=List.eq_nil_of_length_eq_zero (by rw [← hlen,h0]; rfl)
   subst this
   exact .leaf _ _ _ _ _
  ·cases hf with
   | mk _ _ _ _ hk hn hs hl hx=>
    have key:=tms_holds hN hM l b o hx hin
    have kk : ∀ i : Nat,∃ L : Value,∀ hi : i < l.length,Holds w (fun _=>True) l[i] (tmV l[i].kind l[i].num l[i].name L) ∧ w.cell? ⟨b,o + (i * 4 + 0),none⟩ = some (.int .i64 l[i].kind) ∧ w.cell? ⟨b,o + (i * 4 + 1),none⟩ = some (.int .i64 l[i].num) ∧
      w.cell? ⟨b,o + (i * 4 + 2),none⟩ = some (.string ⟨l[i].name.toArray⟩) ∧ w.cell? ⟨b,o + (i * 4 + 3),none⟩ = some L:=by
     intro i
     by_cases hi : i < l.length
     ·obtain ⟨L,q⟩:=key i hi
      exact ⟨L,fun _=>q⟩
     ·exact ⟨undef,fun h=>absurd h hi⟩
    refine .node k n s l ⟨b,o,none⟩ cap (fun i=>(kk i).choose) trivial (by omega) (fun i hi=>((kk i).choose_spec hi).1) (fun i hi=>?_) (fun i hi=>?_) (fun i hi=>?_) (fun i hi=>?_)
    all_goals rw [addr_add]
    ·exact ((kk i).choose_spec hi).2.1
    ·exact ((kk i).choose_spec hi).2.2.1
    ·exact ((kk i).choose_spec hi).2.2.2.1
    ·exact ((kk i).choose_spec hi).2.2.2.2
theorem tms_holds {N : Nat} {G : Gh} {w : World} (hN : N ≤ maxLen) (hM : ∀ b o v,G.M b o = some v → w.cell? ⟨b,o,none⟩ = some v) : ∀ (l : List Tm) (b o : Nat),(∀ x ∈ l,Fine N x) → VRows G 4 (tmRs l) b o → ∀ (i : Nat) (hi : i < l.length),∃ L,Holds w (fun _=>True) l[i] (tmV l[i].kind l[i].num l[i].name L) ∧
  w.cell? ⟨b,o + (i * 4 + 0),none⟩ = some (.int .i64 l[i].kind) ∧ w.cell? ⟨b,o + (i * 4 + 1),none⟩ = some (.int .i64 l[i].num) ∧ w.cell? ⟨b,o + (i * 4 + 2),none⟩ = some (.string ⟨l[i].name.toArray⟩) ∧ w.cell? ⟨b,o + (i * 4 + 3),none⟩ = some L
 | [],b,o,hf,hv,i,hi=>by simp at hi
 | t :: ts,b,o,hf,hv,i,hi=>by
  simp only [tmRs,VRows] at hv
  obtain ⟨hz,hr,hrs⟩:=hv
  cases i with
  | zero=>
   have hcells : ∀ (j : Nat) x,(tmC t)[j]? = some x → ∃ u,G.M b (o + j) = some u ∧ VR G x u:=fun j x hj=>hr.get j x hj
   have hex : ∃ us : List Value,VRs G (tmC t) us ∧ ∀ (j : Nat) u,us[j]? = some u → w.cell? ⟨b,o + j,none⟩ = some u:=by
    have : ∀ j : Nat,∃ u : Value,j < 4 → ∃ x,(tmC t)[j]? = some x ∧ G.M b (o + j) = some u ∧ VR G x u:=by
     intro j
     by_cases hj : j < 4
     ·obtain ⟨u,q⟩:=hcells j _ (List.getElem?_eq_getElem (by rw [tmC_len]; exact hj))
      exact ⟨u,fun _=>⟨_,List.getElem?_eq_getElem (by rw [tmC_len]; exact hj),q⟩⟩
     ·exact ⟨undef,fun h=>absurd h hj⟩
    refine ⟨(List.range 4).map fun j=>(this j).choose,VRs.of_get (by rw [tmC_len]; rfl) fun j x hj=>?_,fun j u hj=>?_⟩
    ·have hj4 : j < 4:=by rw [← tmC_len t]; exact (List.getElem?_eq_some_iff.1 hj).1
     obtain ⟨x',h1,h2,h3⟩:=(this j).choose_spec hj4
     rw [hj] at h1; cases h1
     exact ⟨_,by rw [List.getElem?_map,List.getElem?_range hj4]; rfl,h3⟩
    ·rw [List.getElem?_map] at hj
     have hj4 : j < 4:=by
      by_cases h : j < 4
      ·exact h
      ·rw [List.getElem?_eq_none (by simp; omega)] at hj; cases hj
     rw [List.getElem?_range hj4] at hj
     cases hj
     obtain ⟨x',h1,h2,h3⟩:=(this j).choose_spec hj4
     exact hM _ _ _ h2
   obtain ⟨us,hus,hc⟩:=hex
   obtain ⟨sl,rfl,hh⟩:=tm_holds hN hM t us (hf t (List.mem_cons_self ..)) hus
   refine ⟨sl,hh,?_,?_,?_,?_⟩
   ·have:=hc 0 _ rfl; simpa using this
   ·have:=hc 1 _ rfl; simpa using this
   ·have:=hc 2 _ rfl; simpa using this
   ·have:=hc 3 _ rfl; simpa using this
  | succ i=>
   obtain ⟨L,q0,q1,q2,q3,q4⟩:=tms_holds hN hM ts b (o + 4) (fun x hx=>hf x (List.mem_cons_of_mem _ hx)) hrs i (by simpa using hi)
   refine ⟨L,q0,?_,?_,?_,?_⟩
   ·rw [show o + ((i + 1) * 4 + 0) = o + 4 + (i * 4 + 0) by omega]; exact q1
   ·rw [show o + ((i + 1) * 4 + 1) = o + 4 + (i * 4 + 1) by omega]; exact q2
   ·rw [show o + ((i + 1) * 4 + 2) = o + 4 + (i * 4 + 2) by omega]; exact q3
   ·rw [show o + ((i + 1) * 4 + 3) = o + 4 + (i * 4 + 3) by omega]; exact q4
end
end Go.Proofs.YtdekdghldblfaaaGreatDoor
namespace Go.Proofs.YtdekdghldblfaaaGreatDoor
open Go Go.Abs Go.ChangeShapes Go.WideShapes Go.ChangeAt Go.RowKit
set_option linter.unusedVariables false
theorem flat_calls {P : Program} {f : FuncId} {args : List AV} {y : AV} (hy : flatC y = true) (h : ∀ (G : Gh) (vs : Array Value) (w : World),(∀ b o v,G.M b o = some v → w.cell? ⟨b,o,none⟩ = some v) → VRs G args vs.toList → Calls P f vs w fun e w'=>∃ u,e = .returned u ∧ VR G y u ∧ Below w.heap.size w w') (H : AH) :
  ACalls P f args H fun y' H'=>y' = y ∧ H' = H:=fun K G vs w hr hv=>
 (h G vs w hr.mem hv).mono fun e w' ⟨u,h1,h2,h3⟩=>⟨u,y,G,H,h1,Gh.le.refl _,hr.stay h3,h2,rfl,rfl⟩
noncomputable def only {α : Type} (p : Prop) (x : Option α) : Option α:=@ite _ p (Classical.propDecidable _) x none
theorem only_eq {α : Type} {p : Prop} (h : p) (x : Option α) : only p x = x:=if_pos h
theorem only_ok {α : Type} {p : Prop} {x : Option α} {y : α} (h : only p x = some y) : p ∧ x = some y:=by
 unfold only at h
 split at h
 ·rename_i hp; exact ⟨hp,h⟩
 ·cases h
theorem tm_one {G : Gh} {t : Tm} {u : Value} {w : World} {N : Nat} (hN : N ≤ maxLen) (hf : Fine N t) (hM : ∀ b o v,G.M b o = some v → w.cell? ⟨b,o,none⟩ = some v) (hv : VR G (tmA t) u) : Holds w (fun _=>True) t u:=by
 unfold tmA at hv
 simp only [VR] at hv
 obtain ⟨us,rfl,h2⟩:=hv
 obtain ⟨sl,he,hh⟩:=tm_holds hN hM t us.toList hf h2
 obtain rfl : us = #[.int .i64 t.kind,.int .i64 t.num,.string ⟨t.name.toArray⟩,sl]:=by cases us; simpa using he
 exact hh
noncomputable def goodS : List AV → Option AV
 | [x]=>(ofT x).bind fun t=>only (Fine 1000 t) (some (.bool t.good))
 | _=>none
theorem goodS_eq {t : Tm} (h : Fine 1000 t) : goodS [tmA t] = some (.bool t.good):=by simp [goodS,ofT_tm,only_eq h]
theorem goodS_one : HookOne Tryz.prog 42 (pureH goodS):=by
 refine HookOne.ofPure (by decide +kernel) fun args y h H=>?_
 unfold goodS at h
 split at h
 ·rename_i x
  rw [Option.bind_eq_some_iff] at h
  obtain ⟨t,h1,h2⟩:=h
  obtain ⟨hf,h3⟩:=only_ok h2
  cases h3
  have:=ofT_ok h1
  subst this
  refine flat_calls rfl (fun G vs w hM hv=>?_) H
  obtain ⟨u,hu,hv1⟩:=hv.one
  obtain rfl : vs = #[u]:=by cases vs; simpa using hu
  refine (good_any 1000 (by omega) t hf w u (tm_one (by unfold maxLen; omega) hf hM hv1)).mono fun e w' ⟨he,hb⟩=>⟨_,he,by simp [VR],hb⟩
 ·cases h
end Go.Proofs.YtdekdghldblfaaaGreatDoor
namespace Go.Proofs.YtdekdghldblfaaaGreatDoor
open Go Go.Abs Go.RowKit
set_option linter.unusedVariables false
set_option linter.unusedSimpArgs false
attribute [local congr] on_congr br_congr onf_congr
def lsA (l : List Tm) : AV:=.vals 4 (l.map tmC)
theorem lsA_inj (l l' : List Tm) (h : lsA l = lsA l') : l = l':=rows_inj (by unfold lsA at h; injection h)
noncomputable def ofLs : AV → Option (List Tm):=back lsA
theorem ofLs_eq (l : List Tm) : ofLs (.vals 4 (l.map tmC)) = some l:=back_eq lsA_inj l
theorem rows4 (l : List Tm) : ∀ r ∈ l.map tmC,r.length = 4:=by
 intro r hr
 rw [List.mem_map] at hr
 obtain ⟨t,_,rfl⟩:=hr
 exact tmC_len t
theorem pure_flat {rs : List (List AV)} (h : pureR rs = true) : pureL rs.flatten = true:=by
 rw [pureL_all]
 intro x hx
 obtain ⟨r,hr,hxr⟩:=List.mem_flatten.1 hx
 exact (pureL_all r).1 ((pureR_all rs).1 h r hr) x hxr
noncomputable def cloneS : List AV → Option AV
 | [.nils]=>some (.vals 4 [])
 | [x]=>(ofLs x).bind fun l=>only (l ≠ [] ∧ l.length ≤ 1000000000) (some (.vals 4 (l.map tmC)))
 | _=>none
theorem cloneS_eq (l : List Tm) (h : l ≠ [] ∧ l.length ≤ 1000000000) : cloneS [.vals 4 (l.map tmC)] = some (.vals 4 (l.map tmC)):=by
 simp [cloneS,ofLs_eq,only_eq h]
theorem clone_nil : cloneS [.nils] = some (.vals 4 []):=(rfl)
theorem clone_one : HookOne Tryz.prog 67 (pureF cloneS):=by
 refine HookOne.ofPureF (by decide +kernel) fun args y h H=>?_
 unfold cloneS at h; split at h
 ·cases h
  refine ACalls.ofRun (l:=[]) (by simp) mixed (draws _ rfl) yClone_ok rfl (by rfl) 0 ?_ H
  have e : ibin .eql 30 (some (.slice 32)) true .nils .nils = some (.bool true):=rfl
  simp only [yClone,xinit_1,↓axP,axQ,↓if_true,↓if_false,ite_true,ite_false,reduceIte,ne_eq,eq_self,Nat.reduceAdd,Nat.reduceSub,Nat.reduceMul,Nat.reduceLeDiff,Nat.reduceEqDiff,Nat.reduceBEq,reduceCtorEq,Int.reduceToNat,Int.reduceLT,Int.reduceLE,Int.reduceEq,Int.reduceAdd,Int.reduceSub,Int.reduceNeg,capnY,appzY,e]
  exact Ans.some (.nils 4)
 ·rename_i x _
  rw [Option.bind_eq_some_iff] at h
  obtain ⟨l,h1,h2⟩:=h
  obtain ⟨⟨hl,hn⟩,h3⟩:=only_ok h2
  cases h3
  obtain rfl:=back_ok h1
  unfold lsA
  refine ACalls.ofRun (l:=[]) (by simp) mixed (draws _ rfl) yClone_ok rfl (by simp [pureL,pureA,pure_rows]) 0 ?_ H
  obtain ⟨t,l',rfl⟩:=List.exists_cons_of_ne_nil hl
  have e : ∀ ts,ibin .eql 30 (some (.slice 32)) true (.vals 4 (tmC t :: ts)) .nils = some (.bool false):=fun ts=>(rfl)
  have h0 : ((l'.map tmC).length + 1 = 0) = False:=by simp
  have h1 : ((l'.map tmC).length + 1) * 56 ≤ 140737488355328 ∧ (l'.map tmC).length + 1 ≤ 9223372036854775807:=by simp at hn ⊢; omega
  simp only [yClone,xinit_1,↓axP,axQ,↓if_true,↓if_false,ite_true,ite_false,reduceIte,ne_eq,eq_self,Nat.reduceAdd,Nat.reduceSub,Nat.reduceMul,Nat.reduceLeDiff,Nat.reduceEqDiff,Nat.reduceBEq,reduceCtorEq,Int.reduceToNat,Int.reduceLT,Int.reduceLE,Int.reduceEq,Int.reduceAdd,Int.reduceSub,Int.reduceNeg,capnY,appzY,e,List.map_cons,h0,h1]
  refine Ans.some (Fz.ofSlc (by simp only [↓axP,axQ,↓if_true,↓if_false,ite_true,ite_false,reduceIte,ne_eq,eq_self,Nat.reduceAdd,Nat.reduceSub,Nat.reduceMul,Nat.reduceLeDiff,Nat.reduceEqDiff,Nat.reduceBEq,reduceCtorEq,Int.reduceToNat,Int.reduceLT,Int.reduceLE,Int.reduceEq,Int.reduceAdd,Int.reduceSub,Int.reduceNeg,capnY,appzY]; rfl) (by simp) (rows4 (t :: l')) ?_)
  exact FzL.pure (pure_flat (pure_rows (t :: l')))
 ·cases h
noncomputable def compS : List AV → Option AV
 | [.str nm,.nils]=>some (tmA (.mk 2 0 nm []))
 | [.str nm,x]=>(ofLs x).bind fun l=>only (l ≠ [] ∧ l.length ≤ 1000000000) (some (tmA (.mk 2 0 nm l)))
 | _=>none
theorem compS_eq (nm : List UInt8) (l : List Tm) (h : l ≠ [] ∧ l.length ≤ 1000000000) : compS [.str nm,.vals 4 (l.map tmC)] = some (.agg (tmC (.mk 2 0 nm l))):=by
 simp [compS,ofLs_eq,only_eq h,tmA]
theorem comp_one : HookOne Tryz.prog 28 (pureF compS):=by
 refine HookOne.ofPureF (by decide +kernel) fun args y h H=>?_
 have hl : ∀ e ∈ [(67,pureF cloneS)],HookOne Tryz.prog e.1 e.2:=by
  intro e he; simp at he; subst he; exact clone_one
 unfold compS at h; split at h
 ·rename_i nm
  cases h
  refine ACalls.ofRun hl mixed (draws _ rfl) yComp_ok rfl (by rfl) 0 ?_ H
  simp only [yComp,xinit_2,↓axP,axQ,↓if_true,↓if_false,ite_true,ite_false,reduceIte,ne_eq,eq_self,Nat.reduceAdd,Nat.reduceSub,Nat.reduceMul,Nat.reduceLeDiff,Nat.reduceEqDiff,Nat.reduceBEq,reduceCtorEq,Int.reduceToNat,Int.reduceLT,Int.reduceLE,Int.reduceEq,Int.reduceAdd,Int.reduceSub,Int.reduceNeg,capnY,appzY,clone_nil,tmA,tmC_eq,Tm.kind,Tm.num,Tm.name,Tm.args,List.map_nil]
  exact Ans.some (.pure rfl)
 ·rename_i nm x _
  rw [Option.bind_eq_some_iff] at h
  obtain ⟨l,h1,h2⟩:=h
  obtain ⟨hh,h3⟩:=only_ok h2
  cases h3
  obtain rfl:=back_ok h1
  unfold lsA
  refine ACalls.ofRun hl mixed (draws _ rfl) yComp_ok rfl (by simp [pureL,pureA,pure_rows]) 0 ?_ H
  simp only [yComp,xinit_2,↓axP,axQ,↓if_true,↓if_false,ite_true,ite_false,reduceIte,ne_eq,eq_self,Nat.reduceAdd,Nat.reduceSub,Nat.reduceMul,Nat.reduceLeDiff,Nat.reduceEqDiff,Nat.reduceBEq,reduceCtorEq,Int.reduceToNat,Int.reduceLT,Int.reduceLE,Int.reduceEq,Int.reduceAdd,Int.reduceSub,Int.reduceNeg,capnY,appzY,cloneS_eq _ hh,tmA,tmC_eq,Tm.kind,Tm.num,Tm.name,Tm.args]
  exact Ans.some (.pure (by simp [pureA,pureL,pure_rows]))
 ·cases h
def atomS : List AV → Option AV
 | [.str nm]=>some (tmA (.mk 2 0 nm []))
 | _=>none
theorem atomS_eq (nm : List UInt8) : atomS [.str nm] = some (.agg (tmC (.mk 2 0 nm []))):=(rfl)
theorem atom_one : HookOne Tryz.prog 83 (pureF atomS):=by
 refine HookOne.ofPureF (by decide +kernel) fun args y h H=>?_
 unfold atomS at h; split at h
 ·rename_i nm
  cases h
  refine ACalls.ofRun (l:=[]) (by simp) mixed (draws _ rfl) yAtom_ok rfl (by rfl) 0 ?_ H
  simp only [yAtom,xinit_1,↓axP,axQ,↓if_true,↓if_false,ite_true,ite_false,reduceIte,ne_eq,eq_self,Nat.reduceAdd,Nat.reduceSub,Nat.reduceMul,Nat.reduceLeDiff,Nat.reduceEqDiff,Nat.reduceBEq,reduceCtorEq,Int.reduceToNat,Int.reduceLT,Int.reduceLE,Int.reduceEq,Int.reduceAdd,Int.reduceSub,Int.reduceNeg,capnY,appzY,tmA,tmC_eq,Tm.kind,Tm.num,Tm.name,Tm.args,List.map_nil]
  refine Ans.some (.ofAgg (.cons (.pure rfl) (.cons (.pure rfl) (.cons (.pure rfl) (.cons (.nils 4) (.nil _))))))
 ·cases h
end Go.Proofs.YtdekdghldblfaaaGreatDoor
namespace Go.Proofs.YtdekdghldblfaaaGreatDoor
open Go Go.Abs Go.RowKit
set_option linter.unusedVariables false
set_option linter.unusedSimpArgs false
attribute [local congr] on_congr br_congr onf_congr
def isP (t : Tm) (nm : List UInt8) (m : Int) : Bool:=decide (1 < t.kind) && (t.name == nm) && decide ((t.args.length : Int) = m)
noncomputable def isS : List AV → Option AV
 | [x,.str nm,.int .i64 m]=>(ofT x).map fun t=>.bool (isP t nm m)
 | _=>none
theorem isS_eq (t : Tm) (nm : List UInt8) (m : Int) : isS [.agg (tmC t),.str nm,.int .i64 m] = some (.bool (isP t nm m)):=by
 show (ofT (tmA t)).map _ = _
 rw [ofT_tm]; rfl
theorem is_one : HookOne Tryz.prog 84 (pureF isS):=by
 refine HookOne.ofPureF (by decide +kernel) fun args y h H=>?_
 unfold isS at h; split at h
 ·rename_i x nm m
  rw [Option.map_eq_some_iff] at h
  obtain ⟨t,h1,rfl⟩:=h
  obtain rfl:=ofT_ok h1
  refine ACalls.ofRun (l:=[]) (by simp) mixed (draws _ rfl) yIs_ok rfl (by simp [pureL,pure_tmA,pureA]) 0 ?_ H
  unfold isP
  by_cases c1 : 1 < t.kind <;> cases c2 : t.name == nm
  all_goals
   simp only [yIs,xinit_3,tmA,↓axP,axQ,↓if_true,↓if_false,ite_true,ite_false,reduceIte,ne_eq,eq_self,Nat.reduceAdd,Nat.reduceSub,Nat.reduceMul,Nat.reduceLeDiff,Nat.reduceEqDiff,Nat.reduceBEq,reduceCtorEq,Int.reduceToNat,Int.reduceLT,Int.reduceLE,Int.reduceEq,Int.reduceAdd,Int.reduceSub,Int.reduceNeg,capnY,appzY,tmC_len,tmC_0,tmC_1,tmC_2,tmC_3,tmC_take,tmC_drop,tmC_one,tmC_ne,c1,c2,List.length_map]
   exact Ans.some (.pure rfl)
 ·cases h
end Go.Proofs.YtdekdghldblfaaaGreatDoor
namespace Go.Proofs.YtdekdghldblfaaaGreatDoor
open Go Go.Abs Go.RowKit
set_option linter.unusedVariables false
set_option linter.unusedSimpArgs false
inductive Gl where
 | mk (kind : Int) (t : Tm) (l : List (List Gl))
mutual
def glC : Gl → List AV
 | .mk k t l=>.int .i64 k :: (tmC t ++ [.vals 1 (glRs l)])
def glRw : List Gl → List (List AV)
 | []=>[]
 | g :: gs=>glC g :: glRw gs
def glRs : List (List Gl) → List (List AV)
 | []=>[]
 | r :: rs=>[.vals 6 (glRw r)] :: glRs rs
end
theorem glRw_map : ∀ l : List Gl,glRw l = l.map glC
 | []=>by simp [glRw]
 | g :: gs=>by simp [glRw,glRw_map gs]
def glV (r : List Gl) : AV:=.vals 6 (r.map glC)
theorem glV_cells (r : List Gl) : (glV r).cells = [glV r]:=(rfl)
theorem glV_fit (r : List Gl) : (glV r).fit = true:=(rfl)
theorem glRs_map : ∀ l : List (List Gl),glRs l = l.map fun r=>[glV r]
 | []=>by simp [glRs]
 | r :: rs=>by simp [glRs,glRs_map rs,glV,glRw_map]
mutual
theorem glC_inj : ∀ (a b : Gl),glC a = glC b → a = b
 | .mk k t l,.mk k' t' l',h=>by
  simp only [glC,List.cons.injEq,AV.int.injEq,true_and] at h
  obtain ⟨rfl,h⟩:=h
  obtain ⟨h1,h2⟩:=List.append_inj h (by rw [tmC_len,tmC_len])
  have ht:=tmC_inj h1
  simp only [List.cons.injEq,AV.vals.injEq,true_and,and_true] at h2
  have hl:=glRs_inj l l' h2
  subst ht; subst hl; rfl
theorem glRw_inj : ∀ (a b : List Gl),glRw a = glRw b → a = b
 | [],[],h=>rfl
 | [],_ :: _,h=>by simp [glRw] at h
 | _ :: _,[],h=>by simp [glRw] at h
 | a :: xs,b :: ys,h=>by
  simp only [glRw,List.cons.injEq] at h
  rw [glC_inj a b h.1,glRw_inj xs ys h.2]
theorem glRs_inj : ∀ (a b : List (List Gl)),glRs a = glRs b → a = b
 | [],[],h=>rfl
 | [],_ :: _,h=>by simp [glRs] at h
 | _ :: _,[],h=>by simp [glRs] at h
 | a :: xs,b :: ys,h=>by
  simp only [glRs,List.cons.injEq,AV.vals.injEq,true_and,and_true] at h
  rw [glRw_inj a b h.1,glRs_inj xs ys h.2]
end
mutual
theorem pure_glC : ∀ g : Gl,pureL (glC g) = true
 | .mk k t l=>by
  rw [pureL_all]
  intro x hx
  simp only [glC,List.mem_cons,List.mem_append,List.not_mem_nil,or_false] at hx
  rcases hx with rfl | hx | rfl
  ·rfl
  ·exact (pureL_all _).1 (pure_tmC t) x hx
  ·simp [pureA,pure_glRs l]
theorem pure_glRw : ∀ l : List Gl,pureR (glRw l) = true
 | []=>by simp [glRw,pureR]
 | g :: gs=>by simp [glRw,pureR,pure_glC g,pure_glRw gs]
theorem pure_glRs : ∀ l : List (List Gl),pureR (glRs l) = true
 | []=>by simp [glRs,pureR]
 | r :: rs=>by simp [glRs,pureR,pureL,pureA,pure_glRw r,pure_glRs rs]
end
theorem glC_len (g : Gl) : (glC g).length = 6:=by cases g; simp [glC,tmC_len]
theorem pure_glV (r : List Gl) : pureA (glV r) = true:=by simp [glV,pureA,← glRw_map,pure_glRw]
def glsV (l : List (List Gl)) : AV:=.vals 1 (l.map fun r=>[glV r])
theorem glsV_inj (a b : List (List Gl)) (h : glsV a = glsV b) : a = b:=by
 unfold glsV at h
 injection h with _ h
 exact glRs_inj a b (by rw [glRs_map,glRs_map]; exact h)
theorem pure_glsV (l : List (List Gl)) : pureA (glsV l) = true:=by simp only [glsV,pureA]; rw [← glRs_map]; exact pure_glRs l
noncomputable def ofRws : AV → Option (List (List Gl)):=back glsV
theorem ofRws_eq (r : List (List Gl)) : ofRws (glsV r) = some r:=back_eq glsV_inj r
def rowsW (f : Tm → List Gl × Int) : List Tm → List (List Gl) × Int
 | []=>([],0)
 | t :: ts=>if (f t).2 = 0 then (if (rowsW f ts).2 = 0 then ((f t).1 :: (rowsW f ts).1,0) else ([],(rowsW f ts).2)) else ([],(f t).2)
def zT : Tm:=.mk 0 0 [] []
def nestW (f : Tm → List Gl × Int) (k : Int) (l : List Tm) : List Gl × Int:=if (rowsW f l).2 = 0 then ([.mk k zT (rowsW f l).1],0) else ([],(rowsW f l).2)
def failT : Tm:=.mk 2 0 [102,97,105,108] []
def rowF : Nat → Tm → List Gl × Int
 | 0,_=>([],0)
 | n + 1,t=>
  if t.kind = 0 then ([.mk 1 (.mk 2 0 [99,97,108,108] [t]) []],0)
  else if t.kind = 1 then ([],5)
  else if isP t [116,114,117,101] 0 then ([],0)
  else if isP t [33] 0 then ([.mk 2 zT []],0)
  else if isP t [44] 2 then ((rowsW (rowF n) t.args).1.flatten,(rowsW (rowF n) t.args).2)
  else if isP t [59] 2 && isP (t.args.getD 0 zT) [45,62] 2 then nestW (rowF n) 4 [(t.args.getD 0 zT).args.getD 0 zT,(t.args.getD 0 zT).args.getD 1 zT,t.args.getD 1 zT]
  else if isP t [59] 2 then nestW (rowF n) 3 t.args
  else if isP t [45,62] 2 then nestW (rowF n) 4 [t.args.getD 0 zT,t.args.getD 1 zT,failT]
  else if isP t [92,43] 1 then nestW (rowF n) 5 t.args
  else ([.mk 1 t []],0)
def RC (n : Nat) (t : Tm) : Prop:=t.height ≤ n ∧ Fine 1000 t ∧ t.size ≤ 2000
noncomputable def rowS (n : Nat) : List AV → Option AV
 | [x]=>(ofT x).bind fun t=>only (RC n t) (some (.tup [glV (rowF n t).1,.int .i64 (rowF n t).2]))
 | _=>none
theorem rowS_eq {n : Nat} {t : Tm} (h : RC n t) : rowS n [.agg (tmC t)] = some (.tup [glV (rowF n t).1,.int .i64 (rowF n t).2]):=by
 show (ofT (tmA t)).bind _ = _
 rw [ofT_tm]; exact only_eq h _
noncomputable def rowsS (n : Nat) : List AV → Option AV
 | [x]=>(ofLs x).bind fun l=>only (l.length ≤ 1000 ∧ ∀ t ∈ l,RC n t) (some (.tup [glsV (rowsW (rowF n) l).1,.int .i64 (rowsW (rowF n) l).2]))
 | _=>none
theorem rowsS_eq {n : Nat} {l : List Tm} (h : l.length ≤ 1000 ∧ ∀ t ∈ l,RC n t) : rowsS n [.vals 4 (l.map tmC)] = some (.tup [glsV (rowsW (rowF n) l).1,.int .i64 (rowsW (rowF n) l).2]):=by
 simp only [rowsS,ofLs_eq,Option.bind_some]; exact only_eq h _
attribute [local congr] on_congr br_congr onf_congr
set_option maxHeartbeats 1000000 in
theorem rows_loop {n : Nat} (F0 : Nat) (l : List Tm) (hl : l.length ≤ 1000) : ∀ (l2 l1 : List Tm) (R : List (List Gl)) (o : AV) (H : AH) (F : Nat),l1.length = R.length → l = l1 ++ l2 → (∀ t ∈ l2,RC n t) → Ows H o 1 (R.map glV) R.length → H.wf → l2.length < F →
  ((rowsW (rowF n) l2).2 = 0 → ∃ o' H',iter (ycode (tcall [(126,pureF (rowS n))]) F0 yRowsa) F (mk [(4,o),(9,.vals 4 (l.map tmC)),(10,.int .i64 l.length),(11,.int .i64 R.length)]) H = some (.exit 0,mk [(4,o')],H') ∧ Ows H' o' 1 ((R ++ (rowsW (rowF n) l2).1).map glV) (R ++ (rowsW (rowF n) l2).1).length ∧ H'.wf) ∧
  ((rowsW (rowF n) l2).2 ≠ 0 → ∃ H',iter (ycode (tcall [(126,pureF (rowS n))]) F0 yRowsa) F (mk [(4,o),(9,.vals 4 (l.map tmC)),(10,.int .i64 l.length),(11,.int .i64 R.length)]) H = some (.ret,mk [(2,.nils),(3,.int .i64 (rowsW (rowF n) l2).2)],H')):=by
 intro l2
 induction l2 with
 | nil=>
  intro l1 R o H F h1 h2 h3 h4 h5 h6
  obtain ⟨m,rfl⟩:=iter_pos (f:=fun _ _=>none) (n:=F) (by omega)
  have hlt : ((R.length : Int) < (l.length : Int)) = False:=by subst h2; simp; omega
  refine ⟨fun _=>⟨o,H,?_,by simpa [rowsW] using h4,h5⟩,fun h=>absurd rfl h⟩
  rw [iter_one]
  simp only [yRowsa_r,yRowsa_,↓axP,axQ,↓if_true,↓if_false,ite_true,ite_false,reduceIte,ne_eq,eq_self,Nat.reduceAdd,Nat.reduceSub,Nat.reduceMul,Nat.reduceLeDiff,Nat.reduceEqDiff,Nat.reduceBEq,reduceCtorEq,Int.reduceToNat,Int.reduceLT,Int.reduceLE,Int.reduceEq,Int.reduceAdd,Int.reduceSub,Int.reduceNeg,capnY,appzY,hlt]
 | cons t l2 ih=>
  intro l1 R o H F h1 h2 h3 h4 h5 h6
  obtain ⟨m,rfl⟩:=iter_pos (f:=fun _ _=>none) (n:=F) (by omega)
  have hlt : ((R.length : Int) < (l.length : Int)) = True:=by subst h2; simp; omega
  have hget : (l.map tmC)[R.length]? = some (tmC t):=by subst h2; rw [← h1]; simp
  have h0 : (0 : Int) ≤ (R.length : Int):=by omega
  have hR : R.length + 1 ≤ 1000:=by subst h2; simp at hl; omega
  have hw : IntKind.i64.wrap ((R.length : Int) + 1) = ((R.length + 1 : Nat) : Int):=by rw [wrap_i64] <;> omega
  obtain ⟨nx,gs,ms⟩:=H
  have g0:=wf_mk h5
  have g1 : gs.get (nx + 1) = none:=h5 (nx + 1) (Nat.le_succ nx)
  have n1 : (nx = nx + 1) = False:=by simp
  have n2 : (nx + 1 = nx) = False:=by simp
  have hr:=rowS_eq (h3 t (List.mem_cons_self ..))
  obtain ⟨v',H',e1,e2,e3,e4,e5⟩:=own_app (x:=.slc (nx + 1) 0 0 1 1) (z:=1) (b:=24) (m:=1) (xs:=[glV (rowF n t).1]) ((h4.add ⟨0,0,tmC t⟩).add ⟨0,0,[glV (rowF n t).1]⟩) (wf_add (wf_add h5 _) _) (by simp only [↓axP,axQ,↓if_true,↓if_false,ite_true,ite_false,reduceIte,ne_eq,eq_self,Nat.reduceAdd,Nat.reduceSub,Nat.reduceMul,Nat.reduceLeDiff,Nat.reduceEqDiff,Nat.reduceBEq,reduceCtorEq,Int.reduceToNat,Int.reduceLT,Int.reduceLE,Int.reduceEq,Int.reduceAdd,Int.reduceSub,Int.reduceNeg,capnY,appzY]) rfl (by omega) (by omega) (by omega)
  have hL : R.length + 1 = (R ++ [(rowF n t).1]).length:=by simp
  have hC : R.map glV ++ [glV (rowF n t).1] = (R ++ [(rowF n t).1]).map glV:=by simp
  rw [hL,hC] at e2
  have IH:=ih (l1 ++ [t]) (R ++ [(rowF n t).1]) v' H' m (by simp [h1]) (by simp [h2]) (fun x hx=>h3 x (List.mem_cons_of_mem _ hx)) e2 e3 (by simp at h6; omega)
  rw [← hL] at IH
  rw [iter_one]
  by_cases hz : (rowF n t).2 = 0
  ·simp only [yRowsa_r,yRowsa_,↓axP,axQ,↓if_true,↓if_false,ite_true,ite_false,reduceIte,ne_eq,eq_self,Nat.reduceAdd,Nat.reduceSub,Nat.reduceMul,Nat.reduceLeDiff,Nat.reduceEqDiff,Nat.reduceBEq,reduceCtorEq,Int.reduceToNat,Int.reduceLT,Int.reduceLE,Int.reduceEq,Int.reduceAdd,Int.reduceSub,Int.reduceNeg,capnY,appzY,tmC_len,tmC_0,tmC_1,tmC_2,tmC_3,tmC_take,tmC_drop,tmC_one,tmC_ne,glV_cells,glV_fit,hlt,h0,hget,Int.toNat_natCast,g0,g1,n1,n2,hr,hz,e1,hw]
   have hW1 : (rowsW (rowF n) (t :: l2)).2 = (rowsW (rowF n) l2).2:=by
    simp only [rowsW,hz,if_true]
    split
    ·rename_i h; exact h.symm
    ·rfl
   refine ⟨fun h=>?_,fun h=>?_⟩
   ·rw [hW1] at h
    obtain ⟨o',H2,k1,k2,k3⟩:=IH.1 h
    have : (rowsW (rowF n) (t :: l2)).1 = (rowF n t).1 :: (rowsW (rowF n) l2).1:=by simp [rowsW,hz,h]
    exact ⟨o',H2,k1,by rw [this]; simpa [Nat.add_assoc,Nat.add_comm] using k2,k3⟩
   ·obtain ⟨H2,k1⟩:=IH.2 (by rw [← hW1]; exact h)
    exact ⟨H2,by rw [hW1]; exact k1⟩
  ·have hW : rowsW (rowF n) (t :: l2) = ([],(rowF n t).2):=by simp [rowsW,hz]
   rw [hW]
   refine ⟨fun h=>absurd h hz,fun _=>?_⟩
   simp only [yRowsa_r,yRowsa_,↓axP,axQ,↓if_true,↓if_false,ite_true,ite_false,reduceIte,ne_eq,eq_self,Nat.reduceAdd,Nat.reduceSub,Nat.reduceMul,Nat.reduceLeDiff,Nat.reduceEqDiff,Nat.reduceBEq,reduceCtorEq,Int.reduceToNat,Int.reduceLT,Int.reduceLE,Int.reduceEq,Int.reduceAdd,Int.reduceSub,Int.reduceNeg,capnY,appzY,tmC_len,tmC_0,tmC_1,tmC_2,tmC_3,tmC_take,tmC_drop,tmC_one,tmC_ne,glV_cells,glV_fit,hlt,h0,hget,Int.toNat_natCast,g0,g1,n1,n2,hr,hz,hw]
   exact ⟨_,rfl⟩
theorem rows_one {n : Nat} (hrow : HookOne Tryz.prog 126 (pureF (rowS n))) : HookOne Tryz.prog 147 (pureF (rowsS n)):=by
 refine HookOne.ofPureF (by decide +kernel) fun args y h H=>?_
 have hl : ∀ e ∈ [(126,pureF (rowS n))],HookOne Tryz.prog e.1 e.2:=by
  intro e he; simp at he; subst he; exact hrow
 unfold rowsS at h; split at h
 ·rename_i x
  rw [Option.bind_eq_some_iff] at h
  obtain ⟨l,h1,h2⟩:=h
  obtain ⟨⟨hn,hR⟩,h3⟩:=only_ok h2
  cases h3
  obtain rfl:=back_ok h1
  unfold lsA
  refine ACalls.ofRun hl mixed (draws _ rfl) yRows_ok rfl (by simp [pureL,pureA,pure_rows]) (l.length + 1) ?_ H
  obtain ⟨q1,q2⟩:=rows_loop (n:=n) (l.length + 1) l hn l [] [] .nils AH.empty (l.length + 1) rfl rfl hR (own_nil _ _) wf_empty (Nat.lt_succ_self _)
  simp only [List.length_nil,Int.natCast_zero,Int.ofNat_zero,empty_mk,Int.cast_ofNat_Int] at q1 q2
  by_cases hz : (rowsW (rowF n) l).2 = 0
  ·obtain ⟨o',H',k1,k2,k3⟩:=q1 hz
   simp only [yRows,xinit_1,↓axP,axQ,↓if_true,↓if_false,ite_true,ite_false,reduceIte,ne_eq,eq_self,Nat.reduceAdd,Nat.reduceSub,Nat.reduceMul,Nat.reduceLeDiff,Nat.reduceEqDiff,Nat.reduceBEq,reduceCtorEq,Int.reduceToNat,Int.reduceLT,Int.reduceLE,Int.reduceEq,Int.reduceAdd,Int.reduceSub,Int.reduceNeg,capnY,appzY,List.length_map,k1,hz]
   refine Ans.some (.ofTup (.cons ?_ (.cons (.pure rfl) (.nil _))))
   refine k2.fz (by simp) (by simp) ?_
   have : (List.map (fun r=>[glV r]) (rowsW (rowF n) l).1).flatten = ([] ++ (rowsW (rowF n) l).1).map glV:=by
    rw [List.nil_append]
    induction (rowsW (rowF n) l).1 with
    | nil=>rfl
    | cons a b ih=>simp [ih]
   rw [this]
   refine FzL.pure ?_
   rw [pureL_all]
   intro x hx
   obtain ⟨r,_,rfl⟩:=List.mem_map.1 hx
   exact pure_glV r
  ·obtain ⟨H',k1⟩:=q2 hz
   have hW : ∀ l : List Tm,(rowsW (rowF n) l).2 ≠ 0 → (rowsW (rowF n) l).1 = []:=by
    intro l
    induction l with
    | nil=>intro h; exact absurd rfl h
    | cons t l ih=>
     intro h
     simp only [rowsW] at h ⊢
     split
     ·rename_i h1; simp only [h1,if_true] at h
      split
      ·rename_i h2; simp [h2] at h
      ·rfl
     ·rfl
   simp only [yRows,xinit_1,↓axP,axQ,↓if_true,↓if_false,ite_true,ite_false,reduceIte,ne_eq,eq_self,Nat.reduceAdd,Nat.reduceSub,Nat.reduceMul,Nat.reduceLeDiff,Nat.reduceEqDiff,Nat.reduceBEq,reduceCtorEq,Int.reduceToNat,Int.reduceLT,Int.reduceLE,Int.reduceEq,Int.reduceAdd,Int.reduceSub,Int.reduceNeg,capnY,appzY,List.length_map,k1,hz,hW l hz]
   exact Ans.some (.ofTup (.cons (.nils 1) (.cons (.pure rfl) (.nil _))))
 ·cases h
end Go.Proofs.YtdekdghldblfaaaGreatDoor
namespace Go.Proofs.YtdekdghldblfaaaGreatDoor
open Go Go.Abs Go.RowKit
set_option linter.unusedVariables false
set_option linter.unusedSimpArgs false
attribute [local congr] on_congr br_congr onf_congr
noncomputable def nestS (n : Nat) : List AV → Option AV
 | [.int .i64 k,x]=>(ofLs x).bind fun l=>only (l.length ≤ 1000 ∧ ∀ t ∈ l,RC n t) (some (.tup [glV (nestW (rowF n) k l).1,.int .i64 (nestW (rowF n) k l).2]))
 | _=>none
theorem nestS_eq {n : Nat} {k : Int} {l : List Tm} (h : l.length ≤ 1000 ∧ ∀ t ∈ l,RC n t) : nestS n [.int .i64 k,.vals 4 (l.map tmC)] = some (.tup [glV (nestW (rowF n) k l).1,.int .i64 (nestW (rowF n) k l).2]):=by
 simp only [nestS,ofLs_eq,Option.bind_some]; exact only_eq h _
theorem glsV_cells (r : List (List Gl)) : (glsV r).cells = [glsV r]:=(rfl)
theorem glsV_fit (r : List (List Gl)) : (glsV r).fit = true:=(rfl)
theorem glsV_one (r : List (List Gl)) : (glsV r).one = true:=(rfl)
theorem frA_glsV (r : List (List Gl)) (H : AH) : frA (glsV r) H = some (glsV r,H):=(rfl)
theorem nested_one {n : Nat} (hrows : HookOne Tryz.prog 147 (pureF (rowsS n))) : HookOne Tryz.prog 149 (pureF (nestS n)):=by
 refine HookOne.ofPureF (by decide +kernel) fun args y h H=>?_
 have hl : ∀ e ∈ [(147,pureF (rowsS n))],HookOne Tryz.prog e.1 e.2:=by
  intro e he; simp at he; subst he; exact hrows
 unfold nestS at h; split at h
 ·rename_i k x
  rw [Option.bind_eq_some_iff] at h
  obtain ⟨l,h1,h2⟩:=h
  obtain ⟨hh,h3⟩:=only_ok h2
  cases h3
  obtain rfl:=back_ok h1
  unfold lsA
  refine ACalls.ofRun hl mixed (draws _ rfl) yNested_ok rfl (by simp [pureL,pureA,pure_rows]) 0 ?_ H
  have e:=rowsS_eq hh
  by_cases hz : (rowsW (rowF n) l).2 = 0
  ·simp only [yNested,xinit_2,↓axP,axQ,↓if_true,↓if_false,ite_true,ite_false,reduceIte,ne_eq,eq_self,Nat.reduceAdd,Nat.reduceSub,Nat.reduceMul,Nat.reduceLeDiff,Nat.reduceEqDiff,Nat.reduceBEq,reduceCtorEq,Int.reduceToNat,Int.reduceLT,Int.reduceLE,Int.reduceEq,Int.reduceAdd,Int.reduceSub,Int.reduceNeg,capnY,appzY,e,hz,glsV_cells,glsV_fit,glsV_one,nestW]
   refine Ans.some (.ofTup (.cons (Fz.ofSlc (by simp only [↓axP,axQ,↓if_true,↓if_false,ite_true,ite_false,reduceIte,ne_eq,eq_self,Nat.reduceAdd,Nat.reduceSub,Nat.reduceMul,Nat.reduceLeDiff,Nat.reduceEqDiff,Nat.reduceBEq,reduceCtorEq,Int.reduceToNat,Int.reduceLT,Int.reduceLE,Int.reduceEq,Int.reduceAdd,Int.reduceSub,Int.reduceNeg,capnY,appzY]; rfl) rfl (by simp [glC_len]) ?_) (.cons (.pure rfl) (.nil _))))
   simp only [List.map_cons,List.map_nil,List.flatten_cons,List.flatten_nil,List.append_nil,glC,tmC_eq,zT,Tm.kind,Tm.num,Tm.name,Tm.args,List.cons_append,List.nil_append]
   refine .cons (.pure rfl) (.cons (.pure rfl) (.cons (.pure rfl) (.cons (.pure rfl) (.cons (.nils 4) (.cons ?_ (.nil _))))))
   rw [glRs_map]
   exact .pure (pure_glsV _)
  ·simp only [yNested,xinit_2,↓axP,axQ,↓if_true,↓if_false,ite_true,ite_false,reduceIte,ne_eq,eq_self,Nat.reduceAdd,Nat.reduceSub,Nat.reduceMul,Nat.reduceLeDiff,Nat.reduceEqDiff,Nat.reduceBEq,reduceCtorEq,Int.reduceToNat,Int.reduceLT,Int.reduceLE,Int.reduceEq,Int.reduceAdd,Int.reduceSub,Int.reduceNeg,capnY,appzY,e,hz,nestW]
   exact Ans.some (.ofTup (.cons (.nils 6) (.cons (.pure rfl) (.nil _))))
 ·cases h
def zeros (n : Nat) : List AV:=(List.replicate n [.int .i64 0,.int .i64 0,.int .i64 0,.str [],.nils,.nils]).flatten
def growH (args : List AV) (H : AH) : Option (AV × AH):=
 match args with
 | [.nils,.int .i64 n]=>if n = 0 then some (.nils,H) else if 0 < n ∧ n ≤ 10000000 ∧ H.gs.get H.next = none then some (.slc H.next 0 0 0 6,H.add (zeros n.toNat)) else none
 | _=>none
theorem grow_one : HookOne Tryz.prog 174 growH:=by
 have hl : ∀ e ∈ ([] : List (FuncId × (List AV → AH → Option (AV × AH)))),HookOne Tryz.prog e.1 e.2:=by intro e he; cases he
 obtain ⟨c1,c2⟩:=tcall_ok hl
 have main : ∀ args H x H',growH args H = some (x,H') → callableB Tryz.prog 174 = true ∧ ACalls Tryz.prog 174 args H fun y H1=>y = x ∧ H1 = H':=by
  intro args H x H' h
  unfold growH at h
  split at h
  ·rename_i n
   split at h
   ·rename_i h0
    cases h
    subst h0
    refine yfun_ok c1 c2 mixed (draws _ rfl) yGrow_ok (F:=0) rfl ?_
    simp only [yGrow,xinit_2,↓axP,axQ,↓if_true,↓if_false,ite_true,ite_false,reduceIte,ne_eq,eq_self,Nat.reduceAdd,Nat.reduceSub,Nat.reduceMul,Nat.reduceLeDiff,Nat.reduceEqDiff,Nat.reduceBEq,reduceCtorEq,Int.reduceToNat,Int.reduceLT,Int.reduceLE,Int.reduceEq,Int.reduceAdd,Int.reduceSub,Int.reduceNeg,capnY,appzY]
    all_goals rfl
   ·rename_i h0
    split at h
    ·rename_i hc
     cases h
     refine yfun_ok c1 c2 mixed (draws _ rfl) yGrow_ok (F:=0) rfl ?_
     have w1 : IntKind.i64.wrap (0 - 0) = 0:=by decide
     have w2 : IntKind.i64.wrap (n - 0) = n:=by rw [wrap_i64] <;> omega
     have n0 : (n < 0) = False:=by simp; omega
     have n1 : (0 < n) = True:=by simp; omega
     have n2 : n ≤ 9223372036854775807:=by omega
     have n3 : n.toNat * 88 ≤ 281474976710656:=by omega
     have n4:=hc.2.2
     obtain ⟨nx,gs,ms⟩:=H
     simp only at n4
     simp only [yGrow,xinit_2,↓axP,axQ,↓if_true,↓if_false,ite_true,ite_false,reduceIte,ne_eq,eq_self,Nat.reduceAdd,Nat.reduceSub,Nat.reduceMul,Nat.reduceLeDiff,Nat.reduceEqDiff,Nat.reduceBEq,reduceCtorEq,Int.reduceToNat,Int.reduceLT,Int.reduceLE,Int.reduceEq,Int.reduceAdd,Int.reduceSub,Int.reduceNeg,capnY,appzY,w1,w2,n0,n1,natOf,islice,free_iff,n2,n3,n4,Int.toNat_zero,Nat.sub_self,or_false,true_or,Int.le_refl]
     all_goals rfl
    ·cases h
  ·cases h
 refine ⟨(by decide +kernel),fun args H x H' h=>(main args H x H' h).2,fun args H x H' h=>?_⟩
 unfold growH at h
 split at h
 ·rename_i n
  split at h
  ·rename_i h0
   cases h
   exact FrameR.same fun R H2 _ _=>by simp only [growH,if_pos h0]
  ·rename_i h0
   split at h
   ·rename_i hc
    cases h
    refine FrameR.add fun R H2 he ha hR=>?_
    have:=(free_iff H2).1 (Ext.free he hR ((free_iff H).2 hc.2.2))
    simp only [growH,if_neg h0]
    rw [if_pos ⟨hc.1,hc.2.1,this⟩,he.next]
   ·cases h
 ·cases h
end Go.Proofs.YtdekdghldblfaaaGreatDoor
namespace Go.Proofs.YtdekdghldblfaaaGreatDoor
open Go Go.Abs Go.RowKit
set_option linter.unusedVariables false
set_option linter.unusedSimpArgs false
attribute [local congr] on_congr br_congr onf_congr
theorem len_glV (r : List Gl) (H : AH) : lenY false H (glV r) = some (.int .i64 r.length,H):=by unfold glV; rw [len_v]; simp
theorem lc_glV (r : List Gl) (H : AH) : listCells H 6 (glV r) = some (r.length,(r.map glC).flatten):=by unfold glV; rw [lc_vals,if_pos rfl]; simp
noncomputable def concatS : List AV → Option AV
 | [x]=>(ofRws x).bind fun rs=>only (rs.length ≤ 2 ∧ ∀ r ∈ rs,r.length ≤ 100000) (some (glV rs.flatten))
 | _=>none
theorem concatS_eq {rs : List (List Gl)} (h : rs.length ≤ 2 ∧ ∀ r ∈ rs,r.length ≤ 100000) : concatS [glsV rs] = some (glV rs.flatten):=by
 simp only [concatS,ofRws_eq,Option.bind_some]; exact only_eq h _
theorem flat6 (a : List Gl) : (a.map glC).flatten.length = a.length * 6:=by
 rw [flatten_len' (z:=6)]
 ·simp
 ·intro r hr; obtain ⟨g,_,rfl⟩:=List.mem_map.1 hr; exact glC_len g
theorem pure6 (a : List Gl) : pureL (a.map glC).flatten = true:=pure_flat (by rw [← glRw_map]; exact pure_glRw a)
theorem rows6 (a : List Gl) : ∀ r ∈ a.map glC,r.length = 6:=by intro r hr; obtain ⟨g,_,rfl⟩:=List.mem_map.1 hr; exact glC_len g
set_option maxHeartbeats 1000000 in
theorem concat_one : HookOne Tryz.prog 148 (pureF concatS):=by
 refine HookOne.ofPureF (by decide +kernel) fun args y h H=>?_
 have hl : ∀ e ∈ [(174,growH)],HookOne Tryz.prog e.1 e.2:=by
  intro e he; simp at he; subst he; exact grow_one
 unfold concatS at h; split at h
 ·rename_i x
  rw [Option.bind_eq_some_iff] at h
  obtain ⟨rs,h1,h2⟩:=h
  obtain ⟨⟨hn,hr⟩,h3⟩:=only_ok h2
  cases h3
  obtain rfl:=back_ok h1
  refine ACalls.ofRun hl mixed (draws _ rfl) yConcat_ok rfl (by simp [pureL,pure_glsV]) 3 ?_ H
  match rs,hn with
  | [],_=>
   simp (maxSteps:=1000000) (disch:=omega) only [yConcat,xinit_1,↓axP,axQ,↓if_true,↓if_false,ite_true,ite_false,reduceIte,ne_eq,eq_self,Nat.reduceAdd,Nat.reduceSub,Nat.reduceMul,Nat.reduceLeDiff,Nat.reduceEqDiff,Nat.reduceBEq,reduceCtorEq,Int.reduceToNat,Int.reduceLT,Int.reduceLE,Int.reduceEq,Int.reduceAdd,Int.reduceSub,Int.reduceNeg,capnY,appzY,iter_one,yConcata_r,yConcata_,yConcatb_r,yConcatb_,growH,glsV,List.map_nil]
   exact Ans.some (.nils 6)
  | [a],_=>
   have ha:=hr a (by simp)
   by_cases h0 : a = []
   ·subst h0
    simp (maxSteps:=1000000) (disch:=omega) only [yConcat,xinit_1,↓axP,axQ,↓if_true,↓if_false,ite_true,ite_false,reduceIte,ne_eq,eq_self,Nat.reduceAdd,Nat.reduceSub,Nat.reduceMul,Nat.reduceLeDiff,Nat.reduceEqDiff,Nat.reduceBEq,reduceCtorEq,Int.reduceToNat,Int.reduceLT,Int.reduceLE,Int.reduceEq,Int.reduceAdd,Int.reduceSub,Int.reduceNeg,capnY,appzY,iter_one,yConcata_r,yConcata_,yConcatb_r,yConcatb_,growH,glsV,List.map_cons,List.map_nil,len_glV,lc_glV]
    exact Ans.some (.nils 6)
   ·have h1 : 0 < a.length:=List.length_pos_iff.2 h0
    have h2 : ((a.length : Int) = 0) = False:=by simp; omega
    have h3 : (0 < (a.length : Int)) = True:=by simp; omega
    have h4 : ((a.length : Int) ≤ 10000000) = True:=by simp; omega
    have h5 : ((a.length : Int) < 0) = False:=by simp
    have h6 : (a.length = 0) = False:=by simp; omega
    have h7 : (a.length * 88 ≤ 140737488355328) = True:=by simp; omega
    have h8 : (a.length ≤ 9223372036854775807) = True:=by simp; omega
    simp (maxSteps:=1000000) (disch:=omega) only [yConcat,xinit_1,↓axP,axQ,↓if_true,↓if_false,ite_true,ite_false,reduceIte,ne_eq,eq_self,Nat.reduceAdd,Nat.reduceSub,Nat.reduceMul,Nat.reduceLeDiff,Nat.reduceEqDiff,Nat.reduceBEq,reduceCtorEq,Int.reduceToNat,Int.reduceLT,Int.reduceLE,Int.reduceEq,Int.reduceAdd,Int.reduceSub,Int.reduceNeg,capnY,appzY,iter_one,yConcata_r,yConcata_,yConcatb_r,yConcatb_,growH,glsV,List.map_cons,List.map_nil,len_glV,lc_glV,Int.zero_add,h2,h3,h4,h5,h6,h7,h8]
    exact Ans.some (Fz.ofSlc (by simp only [↓axP,axQ,↓if_true,↓if_false,ite_true,ite_false,reduceIte,ne_eq,eq_self,Nat.reduceAdd,Nat.reduceSub,Nat.reduceMul,Nat.reduceLeDiff,Nat.reduceEqDiff,Nat.reduceBEq,reduceCtorEq,Int.reduceToNat,Int.reduceLT,Int.reduceLE,Int.reduceEq,Int.reduceAdd,Int.reduceSub,Int.reduceNeg,capnY,appzY]; rfl) (by simp) (by simpa using rows6 a) (by simpa using FzL.pure (pure6 a)))
  | [a,b],_=>
   have ha:=hr a (by simp)
   have hb:=hr b (by simp)
   have s0 : ((a.length : Int) + (b.length : Int) ≤ 10000000) = True:=by simp; omega
   have s1 : ((a.length : Int) < 0) = False:=by simp
   have s2 : ((a.length : Int) + (b.length : Int) < 0) = False:=by simp; omega
   have s3 : (a.length * 88 ≤ 140737488355328) = True:=by simp; omega
   have s4 : (a.length ≤ 9223372036854775807) = True:=by simp; omega
   have s5 : (b.length * 88 ≤ 140737488355328) = True:=by simp; omega
   have s6 : (b.length ≤ 9223372036854775807) = True:=by simp; omega
   have s7 : ((a.length + b.length) * 88 ≤ 140737488355328) = True:=by simp; omega
   have s8 : (a.length + b.length ≤ 9223372036854775807) = True:=by simp; omega
   have t1 : (1 : Int) + 1 = 2:=rfl
   have l6 : ((a.map glC).flatten).take (a.length * 6) = (a.map glC).flatten:=List.take_of_length_le (by rw [flat6]; omega)
   by_cases ha0 : a = []
   ·subst ha0
    by_cases hb0 : b = []
    ·subst hb0
     simp (maxSteps:=1000000) (disch:=omega) only [yConcat,xinit_1,↓axP,axQ,↓if_true,↓if_false,ite_true,ite_false,reduceIte,ne_eq,eq_self,Nat.reduceAdd,Nat.reduceSub,Nat.reduceMul,Nat.reduceLeDiff,Nat.reduceEqDiff,Nat.reduceBEq,reduceCtorEq,Int.reduceToNat,Int.reduceLT,Int.reduceLE,Int.reduceEq,Int.reduceAdd,Int.reduceSub,Int.reduceNeg,capnY,appzY,iter_one,yConcata_r,yConcata_,yConcatb_r,yConcatb_,growH,glsV,List.map_cons,List.map_nil,len_glV,lc_glV,Int.zero_add]
     exact Ans.some (.nils 6)
    ·have b1:=List.length_pos_iff.2 hb0
     have u1 : ((b.length : Int) = 0) = False:=by simp; omega
     have u2 : (0 < (b.length : Int)) = True:=by simp; omega
     have u3 : ((b.length : Int) ≤ 10000000) = True:=by simp; omega
     have u4 : (b.length = 0) = False:=by simp; omega
     have u5 : ((b.length : Int) < 0) = False:=by simp
     simp (maxSteps:=1000000) (disch:=omega) only [yConcat,xinit_1,↓axP,axQ,↓if_true,↓if_false,ite_true,ite_false,reduceIte,ne_eq,eq_self,Nat.reduceAdd,Nat.reduceSub,Nat.reduceMul,Nat.reduceLeDiff,Nat.reduceEqDiff,Nat.reduceBEq,reduceCtorEq,Int.reduceToNat,Int.reduceLT,Int.reduceLE,Int.reduceEq,Int.reduceAdd,Int.reduceSub,Int.reduceNeg,capnY,appzY,iter_one,yConcata_r,yConcata_,yConcatb_r,yConcatb_,growH,glsV,List.map_cons,List.map_nil,len_glV,lc_glV,Int.zero_add,s5,s6,u1,u2,u3,u4,u5]
     exact Ans.some (Fz.ofSlc (by simp only [↓axP,axQ,↓if_true,↓if_false,ite_true,ite_false,reduceIte,ne_eq,eq_self,Nat.reduceAdd,Nat.reduceSub,Nat.reduceMul,Nat.reduceLeDiff,Nat.reduceEqDiff,Nat.reduceBEq,reduceCtorEq,Int.reduceToNat,Int.reduceLT,Int.reduceLE,Int.reduceEq,Int.reduceAdd,Int.reduceSub,Int.reduceNeg,capnY,appzY]; rfl) (by simp) (by simpa using rows6 b) (by simpa using FzL.pure (pure6 b)))
   ·have a1:=List.length_pos_iff.2 ha0
    have v0 : ((a.length : Int) = 0) = False:=by simp; omega
    have v1 : ((a.length : Int) + (b.length : Int) = 0) = False:=by simp; omega
    have v2 : (0 < (a.length : Int) + (b.length : Int)) = True:=by simp; omega
    have v3 : (a.length = 0) = False:=by simp; omega
    by_cases hb0 : b = []
    ·subst hb0
     have v4 : (0 < (a.length : Int)) = True:=by simp; omega
     have v5 : ((a.length : Int) ≤ 10000000) = True:=by simp; omega
     simp (maxSteps:=1000000) (disch:=omega) only [yConcat,xinit_1,↓axP,axQ,↓if_true,↓if_false,ite_true,ite_false,reduceIte,ne_eq,eq_self,Nat.reduceAdd,Nat.reduceSub,Nat.reduceMul,Nat.reduceLeDiff,Nat.reduceEqDiff,Nat.reduceBEq,reduceCtorEq,Int.reduceToNat,Int.reduceLT,Int.reduceLE,Int.reduceEq,Int.reduceAdd,Int.reduceSub,Int.reduceNeg,capnY,appzY,iter_one,yConcata_r,yConcata_,yConcatb_r,yConcatb_,growH,glsV,List.map_cons,List.map_nil,len_glV,lc_glV,Int.zero_add,Int.add_zero,s1,s3,s4,v0,v3,v4,v5]
     exact Ans.some (Fz.ofSlc (by simp only [↓axP,axQ,↓if_true,↓if_false,ite_true,ite_false,reduceIte,ne_eq,eq_self,Nat.reduceAdd,Nat.reduceSub,Nat.reduceMul,Nat.reduceLeDiff,Nat.reduceEqDiff,Nat.reduceBEq,reduceCtorEq,Int.reduceToNat,Int.reduceLT,Int.reduceLE,Int.reduceEq,Int.reduceAdd,Int.reduceSub,Int.reduceNeg,capnY,appzY]; rfl) (by simp) (by simpa using rows6 a) (by simpa using FzL.pure (pure6 a)))
    ·have b1:=List.length_pos_iff.2 hb0
     have u4 : (b.length = 0) = False:=by simp; omega
     have u6 : (a.length * 6 ≤ ((a.map glC).flatten).length) = True:=by rw [flat6]; simp
     simp (maxSteps:=1000000) (disch:=omega) only [yConcat,xinit_1,↓axP,axQ,↓if_true,↓if_false,ite_true,ite_false,reduceIte,ne_eq,eq_self,Nat.reduceAdd,Nat.reduceSub,Nat.reduceMul,Nat.reduceLeDiff,Nat.reduceEqDiff,Nat.reduceBEq,reduceCtorEq,Int.reduceToNat,Int.reduceLT,Int.reduceLE,Int.reduceEq,Int.reduceAdd,Int.reduceSub,Int.reduceNeg,capnY,appzY,iter_one,yConcata_r,yConcata_,yConcatb_r,yConcatb_,growH,glsV,List.map_cons,List.map_nil,len_glV,lc_glV,Int.zero_add,s0,s1,s2,s3,s4,s7,s8,v0,v1,v2,v3,u4,u6,l6]
     exact Ans.some (Fz.ofSlc (by simp only [↓axP,axQ,↓if_true,↓if_false,ite_true,ite_false,reduceIte,ne_eq,eq_self,Nat.reduceAdd,Nat.reduceSub,Nat.reduceMul,Nat.reduceLeDiff,Nat.reduceEqDiff,Nat.reduceBEq,reduceCtorEq,Int.reduceToNat,Int.reduceLT,Int.reduceLE,Int.reduceEq,Int.reduceAdd,Int.reduceSub,Int.reduceNeg,capnY,appzY]; rfl) (by simp) (by simpa using rows6 (a ++ b)) (by simpa using FzL.pure (pure6 (a ++ b))))
 ·cases h
end Go.Proofs.YtdekdghldblfaaaGreatDoor
namespace Go.Proofs.YtdekdghldblfaaaGreatDoor
open Go Go.Abs Go.RowKit
set_option linter.unusedVariables false
set_option linter.unusedSimpArgs false
attribute [local congr] on_congr br_congr onf_congr
theorem height_mem {l : List Tm} {x : Tm} (h : x ∈ l) : x.height ≤ Tm.heights l:=by
 obtain ⟨i,hi,rfl⟩:=List.getElem_of_mem h
 exact heights_mem hi
theorem size_mem {l : List Tm} {x : Tm} (h : x ∈ l) : x.size ≤ Tm.sizes l:=by
 induction l with
 | nil=>cases h
 | cons y l ih=>
  simp only [Tm.sizes]
  rcases List.mem_cons.1 h with rfl | h
  ·omega
  ·have:=ih h; omega
theorem RC.arg {n : Nat} {t x : Tm} (h : RC (n + 1) t) (hx : x ∈ t.args) : RC n x:=by
 obtain ⟨h1,h2,h3⟩:=h
 have a1:=height_mem hx
 have a2:=size_mem hx
 rw [height_eq] at h1
 rw [size_eq] at h3
 exact ⟨by omega,h2.args.2.1 x hx,by omega⟩
theorem RC.up {n : Nat} {t : Tm} (h : RC n t) : RC (n + 1) t:=⟨by have:=h.1; omega,h.2⟩
theorem height_pos (t : Tm) : 0 < t.height:=by rw [height_eq]; omega
theorem rowsW_len {f : Tm → List Gl × Int} (hf : ∀ t,(f t).1.length ≤ t.size) : ∀ l : List Tm,(rowsW f l).1.length ≤ l.length ∧ (rowsW f l).1.flatten.length ≤ Tm.sizes l ∧ ∀ r ∈ (rowsW f l).1,r.length ≤ Tm.sizes l
 | []=>by simp [rowsW,Tm.sizes]
 | t :: ts=>by
  obtain ⟨h1,h2,h3⟩:=rowsW_len hf ts
  have h0:=hf t
  simp only [rowsW,Tm.sizes]
  split
  ·split
   ·refine ⟨by simp; exact h1,by simp only [List.flatten_cons,List.length_append]; omega,fun r hr=>?_⟩
    rcases List.mem_cons.1 hr with rfl | hr
    ·omega
    ·have:=h3 r hr; omega
   ·simp
  ·simp
theorem isP_len {t : Tm} {s : List UInt8} {m : Nat} (h : isP t s m = true) : t.args.length = m:=by
 unfold isP at h
 simp only [Bool.and_eq_true,decide_eq_true_eq] at h
 omega
theorem size_pos (t : Tm) : 0 < t.size:=by rw [size_eq]; omega
theorem rowF_len : ∀ (n : Nat) (t : Tm),(rowF n t).1.length ≤ t.size
 | 0,t=>by simp [rowF]
 | n + 1,t=>by
  have hp:=size_pos t
  have hn : ∀ k l,(nestW (rowF n) k l).1.length ≤ 1:=fun k l=>by unfold nestW; split <;> simp
  simp only [rowF]
  split
  ·simp; omega
  ·split
   ·simp
   ·split
    ·simp
    ·split
     ·simp; omega
     ·split
      ·have:=(rowsW_len (rowF_len n) t.args).2.1
       rw [size_eq]; simp only; omega
      ·split
       ·exact Nat.le_trans (hn _ _) hp
       ·split
        ·exact Nat.le_trans (hn _ _) hp
        ·split
         ·exact Nat.le_trans (hn _ _) hp
         ·split
          ·exact Nat.le_trans (hn _ _) hp
          ·simp; omega
theorem args_two {t : Tm} (h : t.args.length = 2) : ∃ a b,t.args = [a,b]:=by
 match hl : t.args,h with
 | [a,b],_=>exact ⟨a,b,rfl⟩
theorem fine_fail : Fine 1000 failT:=.mk _ _ _ _ (by omega) (by omega) (by unfold maxLen; simp) (by simp) (fun x hx=>by cases hx)
set_option maxHeartbeats 4000000 in
theorem row_step {n : Nat} (hrow : HookOne Tryz.prog 126 (pureF (rowS n))) : HookOne Tryz.prog 126 (pureF (rowS (n + 1))):=by
 refine HookOne.ofPureF (by decide +kernel) fun args y h H=>?_
 have hrows:=rows_one hrow
 have hl : ∀ e ∈ [(84,pureF isS),(28,pureF compS),(83,pureF atomS),(147,pureF (rowsS n)),(149,pureF (nestS n)),(148,pureF concatS)],HookOne Tryz.prog e.1 e.2:=by
  intro e he
  simp only [List.mem_cons,List.not_mem_nil,or_false] at he
  rcases he with rfl | rfl | rfl | rfl | rfl | rfl
  ·exact is_one
  ·exact comp_one
  ·exact atom_one
  ·exact hrows
  ·exact nested_one hrows
  ·exact concat_one
 unfold rowS at h; split at h
 ·rename_i x
  rw [Option.bind_eq_some_iff] at h
  obtain ⟨t,h1,h2⟩:=h
  obtain ⟨hc,h3⟩:=only_ok h2
  cases h3
  obtain rfl:=ofT_ok h1
  refine ACalls.ofRun hl mixed (draws _ rfl) yRow_ok rfl (by simp [pureL,pure_tmA]) 0 ?_ H
  have hRC : ∀ x ∈ t.args,RC n x:=fun x hx=>hc.arg hx
  have hlen : t.args.length ≤ 1000:=hc.2.1.args.1
  have oneG : ∀ g : Gl,glV [g] = .vals 6 [glC g]:=fun g=>rfl
  unfold tmA
  by_cases k0 : t.kind = 0
  ·simp only [rowF,if_pos k0]
   have e:=compS_eq [99,97,108,108] [t] (by simp)
   simp only [List.map_cons,List.map_nil] at e
   simp (maxSteps:=1000000) (disch:=omega) only [yRow,xinit_1,↓axP,axQ,↓if_true,↓if_false,ite_true,ite_false,reduceIte,ne_eq,eq_self,Nat.reduceAdd,Nat.reduceSub,Nat.reduceMul,Nat.reduceLeDiff,Nat.reduceEqDiff,Nat.reduceBEq,reduceCtorEq,Int.reduceToNat,Int.reduceLT,Int.reduceLE,Int.reduceEq,Int.reduceAdd,Int.reduceSub,Int.reduceNeg,capnY,appzY,tmC_len,tmC_0,tmC_1,tmC_2,tmC_3,tmC_take,tmC_drop,tmC_one,tmC_ne,k0,e]
   refine Ans.some (.ofTup (.cons (Fz.ofSlc (by simp only [↓axP,axQ,↓if_true,↓if_false,ite_true,ite_false,reduceIte,ne_eq,eq_self,Nat.reduceAdd,Nat.reduceSub,Nat.reduceMul,Nat.reduceLeDiff,Nat.reduceEqDiff,Nat.reduceBEq,reduceCtorEq,Int.reduceToNat,Int.reduceLT,Int.reduceLE,Int.reduceEq,Int.reduceAdd,Int.reduceSub,Int.reduceNeg,capnY,appzY]; rfl) rfl (by simp [glC_len]) ?_) (.cons (.pure rfl) (.nil _))))
   simp only [List.map_cons,List.map_nil,List.flatten_cons,List.flatten_nil,List.append_nil,glC]
   exact .cons (.pure rfl) (.append (.pure (pure_tmC _)) (.cons (.nils 1) (.nil _)))
  ·simp only [rowF,if_neg k0]
   by_cases k1 : t.kind = 1
   ·simp only [if_pos k1]
    have k0' : ((1 : Int) = 0) = False:=by simp
    simp (maxSteps:=1000000) (disch:=omega) only [yRow,xinit_1,↓axP,axQ,↓if_true,↓if_false,ite_true,ite_false,reduceIte,ne_eq,eq_self,Nat.reduceAdd,Nat.reduceSub,Nat.reduceMul,Nat.reduceLeDiff,Nat.reduceEqDiff,Nat.reduceBEq,reduceCtorEq,Int.reduceToNat,Int.reduceLT,Int.reduceLE,Int.reduceEq,Int.reduceAdd,Int.reduceSub,Int.reduceNeg,capnY,appzY,tmC_len,tmC_0,tmC_1,tmC_2,tmC_3,tmC_take,tmC_drop,tmC_one,tmC_ne,k1,k0']
    exact Ans.some (.ofTup (.cons (.nils 6) (.cons (.pure rfl) (.nil _))))
   ·simp only [if_neg k1]
    cases c1 : isP t [116,114,117,101] 0 with
    | true=>
     simp (maxSteps:=1000000) (disch:=omega) only [yRow,xinit_1,↓axP,axQ,↓if_true,↓if_false,ite_true,ite_false,reduceIte,ne_eq,eq_self,Nat.reduceAdd,Nat.reduceSub,Nat.reduceMul,Nat.reduceLeDiff,Nat.reduceEqDiff,Nat.reduceBEq,reduceCtorEq,Int.reduceToNat,Int.reduceLT,Int.reduceLE,Int.reduceEq,Int.reduceAdd,Int.reduceSub,Int.reduceNeg,capnY,appzY,tmC_len,tmC_0,tmC_1,tmC_2,tmC_3,tmC_take,tmC_drop,tmC_one,tmC_ne,k0,k1,isS_eq,c1]
     exact Ans.some (.ofTup (.cons (.nils 6) (.cons (.pure rfl) (.nil _))))
    | false=>
     cases c2 : isP t [33] 0 with
     | true=>
      simp (maxSteps:=1000000) (disch:=omega) only [yRow,xinit_1,↓axP,axQ,↓if_true,↓if_false,ite_true,ite_false,reduceIte,ne_eq,eq_self,Nat.reduceAdd,Nat.reduceSub,Nat.reduceMul,Nat.reduceLeDiff,Nat.reduceEqDiff,Nat.reduceBEq,reduceCtorEq,Int.reduceToNat,Int.reduceLT,Int.reduceLE,Int.reduceEq,Int.reduceAdd,Int.reduceSub,Int.reduceNeg,capnY,appzY,tmC_len,tmC_0,tmC_1,tmC_2,tmC_3,tmC_take,tmC_drop,tmC_one,tmC_ne,k0,k1,isS_eq,c1,c2]
      refine Ans.some (.ofTup (.cons (Fz.ofSlc (by simp only [↓axP,axQ,↓if_true,↓if_false,ite_true,ite_false,reduceIte,ne_eq,eq_self,Nat.reduceAdd,Nat.reduceSub,Nat.reduceMul,Nat.reduceLeDiff,Nat.reduceEqDiff,Nat.reduceBEq,reduceCtorEq,Int.reduceToNat,Int.reduceLT,Int.reduceLE,Int.reduceEq,Int.reduceAdd,Int.reduceSub,Int.reduceNeg,capnY,appzY]; rfl) rfl (by simp [glC_len]) ?_) (.cons (.pure rfl) (.nil _))))
      simp only [List.map_cons,List.map_nil,List.flatten_cons,List.flatten_nil,List.append_nil,glC,tmC_eq,zT,Tm.kind,Tm.num,Tm.name,Tm.args,List.cons_append,List.nil_append,glRs]
      exact .cons (.pure rfl) (.cons (.pure rfl) (.cons (.pure rfl) (.cons (.pure rfl) (.cons (.nils 4) (.cons (.nils 1) (.nil _))))))
     | false=>
      cases c3 : isP t [44] 2 with
      | true=>
       have e1:=rowsS_eq ⟨hlen,hRC⟩
       have hL:=isP_len (m:=2) c3
       obtain ⟨q1,q2,q3⟩:=rowsW_len (rowF_len n) t.args
       have e2:=concatS_eq (rs:=(rowsW (rowF n) t.args).1) ⟨by omega,fun r hr=>by have:=q3 r hr; have:=size_eq t; have:=hc.2.2; omega⟩
       simp (maxSteps:=1000000) (disch:=omega) only [yRow,xinit_1,↓axP,axQ,↓if_true,↓if_false,ite_true,ite_false,reduceIte,ne_eq,eq_self,Nat.reduceAdd,Nat.reduceSub,Nat.reduceMul,Nat.reduceLeDiff,Nat.reduceEqDiff,Nat.reduceBEq,reduceCtorEq,Int.reduceToNat,Int.reduceLT,Int.reduceLE,Int.reduceEq,Int.reduceAdd,Int.reduceSub,Int.reduceNeg,capnY,appzY,tmC_len,tmC_0,tmC_1,tmC_2,tmC_3,tmC_take,tmC_drop,tmC_one,tmC_ne,k0,k1,isS_eq,c1,c2,c3,e1,frA_glsV,e2]
       exact Ans.some (.ofTup (.cons (.pure (pure_glV _)) (.cons (.pure rfl) (.nil _))))
      | false=>
       cases c4 : isP t [59] 2 with
       | true=>
        obtain ⟨a,b,hab⟩:=args_two (isP_len (m:=2) c4)
        have hRa:=hRC a (by rw [hab]; simp)
        have hRb:=hRC b (by rw [hab]; simp)
        simp only [hab,List.getD_cons_zero,List.getD_cons_succ,Bool.true_and]
        cases c5 : isP a [45,62] 2 with
        | true=>
         obtain ⟨c,d,hcd⟩:=args_two (isP_len (m:=2) c5)
         obtain ⟨m,rfl⟩ : ∃ m,n = m + 1:=⟨n - 1,by have:=hRa.1; have:=height_pos a; omega⟩
         have hRc : RC (m + 1) c:=(hRa.arg (by rw [hcd]; simp)).up
         have hRd : RC (m + 1) d:=(hRa.arg (by rw [hcd]; simp)).up
         have e:=nestS_eq (n:=m + 1) (k:=4) (l:=[c,d,b]) ⟨by simp,by simp [hRc,hRd,hRb]⟩
         simp only [List.map_cons,List.map_nil] at e
         simp only [hcd,List.getD_cons_zero,List.getD_cons_succ]
         simp (maxSteps:=1000000) (disch:=omega) only [yRow,xinit_1,↓axP,axQ,↓if_true,↓if_false,ite_true,ite_false,reduceIte,ne_eq,eq_self,Nat.reduceAdd,Nat.reduceSub,Nat.reduceMul,Nat.reduceLeDiff,Nat.reduceEqDiff,Nat.reduceBEq,reduceCtorEq,Int.reduceToNat,Int.reduceLT,Int.reduceLE,Int.reduceEq,Int.reduceAdd,Int.reduceSub,Int.reduceNeg,capnY,appzY,tmC_len,tmC_0,tmC_1,tmC_2,tmC_3,tmC_take,tmC_drop,tmC_one,tmC_ne,k0,k1,isS_eq,c1,c2,c3,c4,c5,hab,hcd,List.map_cons,List.map_nil,e]
         exact Ans.some (.ofTup (.cons (.pure (pure_glV _)) (.cons (.pure rfl) (.nil _))))
        | false=>
         have e:=nestS_eq (n:=n) (k:=3) (l:=[a,b]) ⟨by simp,by simp [hRa,hRb]⟩
         simp only [List.map_cons,List.map_nil] at e
         simp (maxSteps:=1000000) (disch:=omega) only [yRow,xinit_1,↓axP,axQ,↓if_true,↓if_false,ite_true,ite_false,reduceIte,ne_eq,eq_self,Nat.reduceAdd,Nat.reduceSub,Nat.reduceMul,Nat.reduceLeDiff,Nat.reduceEqDiff,Nat.reduceBEq,reduceCtorEq,Int.reduceToNat,Int.reduceLT,Int.reduceLE,Int.reduceEq,Int.reduceAdd,Int.reduceSub,Int.reduceNeg,capnY,appzY,tmC_len,tmC_0,tmC_1,tmC_2,tmC_3,tmC_take,tmC_drop,tmC_one,tmC_ne,k0,k1,isS_eq,c1,c2,c3,c4,c5,hab,List.map_cons,List.map_nil,e]
         exact Ans.some (.ofTup (.cons (.pure (pure_glV _)) (.cons (.pure rfl) (.nil _))))
       | false=>
        cases c6 : isP t [45,62] 2 with
        | true=>
         obtain ⟨a,b,hab⟩:=args_two (isP_len (m:=2) c6)
         have hRa:=hRC a (by rw [hab]; simp)
         have hRb:=hRC b (by rw [hab]; simp)
         have hRf : RC n failT:=⟨by have:=hRa.1; have:=height_pos a; simp [failT,Tm.height,Tm.heights]; omega,fine_fail,by simp [failT,Tm.size,Tm.sizes]⟩
         have e:=nestS_eq (n:=n) (k:=4) (l:=[a,b,failT]) ⟨by simp,by simp [hRa,hRb,hRf]⟩
         simp only [List.map_cons,List.map_nil,failT] at e
         simp only [hab,List.getD_cons_zero,List.getD_cons_succ,failT]
         simp (maxSteps:=1000000) (disch:=omega) only [yRow,xinit_1,↓axP,axQ,↓if_true,↓if_false,ite_true,ite_false,reduceIte,ne_eq,eq_self,Nat.reduceAdd,Nat.reduceSub,Nat.reduceMul,Nat.reduceLeDiff,Nat.reduceEqDiff,Nat.reduceBEq,reduceCtorEq,Int.reduceToNat,Int.reduceLT,Int.reduceLE,Int.reduceEq,Int.reduceAdd,Int.reduceSub,Int.reduceNeg,capnY,appzY,tmC_len,tmC_0,tmC_1,tmC_2,tmC_3,tmC_take,tmC_drop,tmC_one,tmC_ne,k0,k1,isS_eq,c1,c2,c3,c4,c6,hab,List.map_cons,List.map_nil,atomS_eq,e]
         exact Ans.some (.ofTup (.cons (.pure (pure_glV _)) (.cons (.pure rfl) (.nil _))))
        | false=>
         cases c7 : isP t [92,43] 1 with
         | true=>
          have e:=nestS_eq (n:=n) (k:=5) ⟨hlen,hRC⟩
          simp (maxSteps:=1000000) (disch:=omega) only [yRow,xinit_1,↓axP,axQ,↓if_true,↓if_false,ite_true,ite_false,reduceIte,ne_eq,eq_self,Nat.reduceAdd,Nat.reduceSub,Nat.reduceMul,Nat.reduceLeDiff,Nat.reduceEqDiff,Nat.reduceBEq,reduceCtorEq,Int.reduceToNat,Int.reduceLT,Int.reduceLE,Int.reduceEq,Int.reduceAdd,Int.reduceSub,Int.reduceNeg,capnY,appzY,tmC_len,tmC_0,tmC_1,tmC_2,tmC_3,tmC_take,tmC_drop,tmC_one,tmC_ne,k0,k1,isS_eq,c1,c2,c3,c4,c6,c7,e]
          exact Ans.some (.ofTup (.cons (.pure (pure_glV _)) (.cons (.pure rfl) (.nil _))))
         | false=>
          simp (maxSteps:=1000000) (disch:=omega) only [yRow,xinit_1,↓axP,axQ,↓if_true,↓if_false,ite_true,ite_false,reduceIte,ne_eq,eq_self,Nat.reduceAdd,Nat.reduceSub,Nat.reduceMul,Nat.reduceLeDiff,Nat.reduceEqDiff,Nat.reduceBEq,reduceCtorEq,Int.reduceToNat,Int.reduceLT,Int.reduceLE,Int.reduceEq,Int.reduceAdd,Int.reduceSub,Int.reduceNeg,capnY,appzY,tmC_len,tmC_0,tmC_1,tmC_2,tmC_3,tmC_take,tmC_drop,tmC_one,tmC_ne,k0,k1,isS_eq,c1,c2,c3,c4,c6,c7]
          refine Ans.some (.ofTup (.cons (Fz.ofSlc (by simp only [↓axP,axQ,↓if_true,↓if_false,ite_true,ite_false,reduceIte,ne_eq,eq_self,Nat.reduceAdd,Nat.reduceSub,Nat.reduceMul,Nat.reduceLeDiff,Nat.reduceEqDiff,Nat.reduceBEq,reduceCtorEq,Int.reduceToNat,Int.reduceLT,Int.reduceLE,Int.reduceEq,Int.reduceAdd,Int.reduceSub,Int.reduceNeg,capnY,appzY]; rfl) rfl (by simp [glC_len]) ?_) (.cons (.pure rfl) (.nil _))))
          simp only [List.map_cons,List.map_nil,List.flatten_cons,List.flatten_nil,List.append_nil,glC]
          exact .cons (.pure rfl) (.append (.pure (pure_tmC _)) (.cons (.nils 1) (.nil _)))
 ·cases h
theorem row_any : ∀ n : Nat,HookOne Tryz.prog 126 (pureF (rowS n))
 | 0=>by
  refine HookOne.ofPureF (by decide +kernel) fun args y h H=>?_
  unfold rowS at h; split at h
  ·rename_i x
   rw [Option.bind_eq_some_iff] at h
   obtain ⟨t,h1,h2⟩:=h
   obtain ⟨hc,h3⟩:=only_ok h2
   have:=hc.1
   have:=height_pos t
   omega
  ·cases h
 | n + 1=>row_step (row_any n)
end Go.Proofs.YtdekdghldblfaaaGreatDoor
