
import Derived.Test.YtdekdghldblfaaaGreatDoorAbsL
import Derived.Test.YtdekdghldblfaaaGreatDoorAbsSB
namespace Go.Abs
open Go Go.RowKit
set_option linter.unusedVariables false
theorem frzs_mono {f g : AV → Option AV} (h : ∀ x y,f x = some y → g x = some y) : ∀ {xs ys : List AV},frzs f xs = some ys → frzs g xs = some ys
 | [],ys,e=>e
 | x :: xs,ys,e=>by
  simp only [frzs] at e ⊢
  split at e
  ·rename_i y hy
   rw [h _ _ hy]
   split at e
   ·rename_i ys' hys
    cases e
    simp only [frzs_mono h hys]
   ·cases e
  ·cases e
theorem frzV_ext {R : Nat → Option Grp} {H H2 : AH} (he : Ext R H H2) (ha : Apart R H) : ∀ (n : Nat) (x y : AV),frzV n H x = some y → frzV n H2 x = some y:=by
 intro n
 induction n with
 | zero=>intro x y h; cases h
 | succ n ih=>
  intro x y h
  simp only [frzV] at h ⊢
  split at h
  ·split at h
   ·rename_i ys hys
    simp only [frzs_mono ih hys]; exact h
   ·cases h
  ·split at h
   ·rename_i ys hys
    simp only [frzs_mono ih hys]; exact h
   ·cases h
  ·split at h
   ·rename_i r hr
    simp only [he.get ha hr]
    split at h
    ·rename_i hc
     rw [if_pos hc]
     split at h
     ·rename_i ys hys
      simp only [frzs_mono ih hys]; exact h
     ·cases h
    ·cases h
   ·cases h
  ·split at h
   ·rename_i hz
    rw [if_pos hz]
    split at h
    ·rename_i ys hys
     simp only [frzs_mono ih hys]; exact h
    ·cases h
   ·cases h
  ·split at h
   ·rename_i z hz
    simp only [ih _ _ hz]; exact h
   ·cases h
  ·exact h
theorem frzs_VRs {K : Kx} {G Gf : Gh} {H : AH} {w : World} (h : HRel K G H w) (hM : ∀ b o v,K.B ≤ b → w.cell? ⟨b,o,none⟩ = some v → v.oneCell' = true → Gf.M b o = some v) (hG : ∀ b o v,G.M b o = some v → Gf.M b o = some v) (n : Nat) {xs ys : List AV} {us : List Value} (hf : frzs (frzV n H) xs = some ys) (hv : VRs G xs us) : VRs Gf ys us:=by
 obtain ⟨q1,q2⟩:=frzs_get hf
 refine VRs.of_get (by rw [hv.len,q1]) fun j y hj=>?_
 obtain ⟨x,h3,h4⟩:=q2 j y hj
 obtain ⟨v,h5,h6⟩:=hv.get j x h3
 exact ⟨v,h5,frzV_ok h hM hG n x y v h4 h6⟩
theorem ACalls.memoF {P : Program} {f : FuncId} {ks : List AV} {x y : AV} {H1 : AH} (n : Nat) (h : ACalls P f ks AH.empty fun x' H'=>x' = x ∧ H' = H1) (hf : frz n H1 x = some y) {m : Nat} {args : List AV} {H : AH} (hk : frzs (frzV m H) args = some ks) :
  ACalls P f args H fun y' H'=>y' = y ∧ H' = H:=by
 intro K G vs w hr hv
 have hv' : VRs (allG w) ks vs.toList:=frzs_VRs hr (fun b o v _ hc ho=>allG_cell hc ho) (fun b o v hM=>allG_cell (hr.mem b o v hM) (hr.ones b o v hM)) m hk hv
 refine (h _ _ vs w (allG_rel w hr.glob) hv').mono fun e w' ⟨u,x',G',H',h1,h2,h3,h4,h5,h6⟩=>?_
 subst h5; subst h6
 refine ⟨u,y,newG G w.heap.size w',H,h1,newG_le hr,newG_rel hr h3.below,?_,rfl,rfl⟩
 refine frz_ok h3 (fun b o v hB hc ho=>?_) n x' y u hf h4
 simp only [newG]
 rw [if_neg (by show ¬ b < w.heap.size; have : w.heap.size ≤ b:=hB; omega)]
 exact allG_cell hc ho
abbrev AllE (P : Program) (f : FuncId) (L : List (List AV × AV)) : Prop:=∀ e ∈ L,∀ m args H,frzs (frzV m H) args = some e.1 → ACalls P f args H fun y H'=>y = e.2 ∧ H' = H
theorem AllE.app {P : Program} {f : FuncId} {a b : List (List AV × AV)} (h : AllE P f a) (k : AllE P f b) : AllE P f (a ++ b):=fun e he=>(List.mem_append.1 he).elim (h e) (k e)
theorem AllE.of {P : Program} {f : FuncId} {a b : List (List AV × AV)} (h : AllE P f a) (k : b = a) : AllE P f b:=k ▸ h
end Go.Abs
namespace Go.Abs
open Go Go.RowKit
set_option linter.unusedVariables false
structure FnOK (P : Program) (f : FuncId) (fn : IFun) : Prop where
 okc : okC fn.body
 ok : ∀ call F,CallOK P call → CallFrame call → ∀ args H x H',Nat.ble args.length fn.nt = true → xend fn (xcode call F fn.body (xinit args 0 .nil) H) = some (x,H') → callableB P f = true ∧ ACalls P f args H fun y H1=>y = x ∧ H1 = H'
theorem FnOK.plain {P : Program} {f : FuncId} {fn : IFun} (hm : P.follows .mixedOrders = true) (hD : funD P f = true) (hfn : cFun P (fun _=>true) f = some fn) : FnOK P f fn:=by
 unfold cFun at hfn
 simp only [cond_true] at hfn
 split at hfn
 ·rename_i fn' hf'
  cases hnm : (fn'.name == "runtime.NumGoroutine") with
  | true=>rw [hnm] at hfn; cases hfn
  | false=>
   rw [hnm] at hfn
   simp only [cond_false] at hfn
   split at hfn
   ·rename_i c hbody
    split at hfn
    ·rename_i rs hrs
     cases hfn
     have hcd : codeD P fn'.ntmps c = true:=by
      have:=hD
      unfold funD at this
      rw [hf'] at this
      simpa [hbody] using this
     refine ⟨cCode_okC _ _ _,fun call F ih ihf args H x H' hb h=>?_⟩
     refine ⟨by unfold callableB; rw [hf']; simp [hnm,hbody],?_⟩
     refine ACalls.of_body hf' hbody (Nat.le_of_ble_eq_true hb) ?_
     have hxi : ∀ k,(xinit args 0 .nil).get k = (tinit args 0).get k:=by
      intro k
      rw [xinit_get,tinit_get]
      simp only [Nat.zero_le,true_and,Nat.zero_add,Nat.sub_zero,if_true,Tr.get_nil]
      by_cases hk : k < args.length
      ·rw [if_pos hk]
      ·rw [if_neg hk,List.getElem?_eq_none (by omega)]
     have main : ∀ e T1 H1,xcode call F (cCode P fn'.ntmps c) (xinit args 0 .nil) H = some (e,T1,H1) → (e = .normal ∨ e = .ret) → ires T1 H1 rs = some x → H1 = H' → AT P fn'.ntmps c (tinit args 0) H (bodyQ P fn' fun y H1=>y = x ∧ H1 = H'):=by
      rintro e T1 H1 k1 k2 k3 rfl
      have hAT:=xcode_ok (nt:=fn'.ntmps) ih ihf hm c _ _ _ _ _ hcd k1
      intro K G a w hr ht
      refine wp_mono (hAT K G a w hr (ht.congr hxi)) fun e1 a1 w1 ⟨G',T2,H2,r1,r2,r3,r4,r5,r6⟩=>?_
      subst r4; subst r5; subst r6
      refine ⟨G',T2,H2,r1,r2,r3,?_⟩
      rcases k2 with rfl | rfl <;> exact ⟨x,ires_ok hrs k3,rfl,rfl⟩
     cases hx : xcode call F (cCode P fn'.ntmps c) (xinit args 0 .nil) H with
     | none=>rw [hx] at h; simp [xend] at h
     | some r=>
      obtain ⟨e,T1,H1⟩:=r
      rw [hx] at h
      cases e with
      | normal=>
       simp only [xend] at h
       split at h
       ·rename_i y hy; cases h; exact main _ _ _ hx (.inl rfl) hy rfl
       ·cases h
      | ret=>
       simp only [xend] at h
       split at h
       ·rename_i y hy; cases h; exact main _ _ _ hx (.inr rfl) hy rfl
       ·cases h
      | exit id=>simp [xend] at h
    ·cases hfn
   ·cases hfn
 ·cases hfn
end Go.Abs
namespace Go.Abs
open Go Go.RowKit
set_option linter.unusedVariables false
abbrev Sps:=FuncId → Option MZ
noncomputable def arunS (sp : Sps) (hook : Hooks) (F : Nat) : Nat → ICall
 | 0=>fun _ _ _=>none
 | n + 1=>fun f args H=>match hook f with
  | some h=>h args H
  | none=>match sp f with
   | some m=>m (arunS sp hook F n) F args H
   | none=>none
structure SpOK (P : Program) (f : FuncId) (m : MZ) : Prop where
 frame : ∀ call F,CallFrame call → ∀ args H x H',m call F args H = some (x,H') → FrameR x H H' (m call F args)
 ok : ∀ call F,CallOK P call → CallFrame call → ∀ args H x H',m call F args H = some (x,H') → callableB P f = true ∧ ACalls P f args H fun y H1=>y = x ∧ H1 = H'
theorem arunS_frame {P : Program} {sp : Sps} {hook : Hooks} {F : Nat} (hf : ∀ f m,sp f = some m → SpOK P f m) (hh : HookFrame hook) : ∀ n,CallFrame (arunS sp hook F n)
 | 0=>fun f args H x H' h=>by simp only [arunS] at h; cases h
 | n + 1=>fun f args H x H' h=>by
  have ih:=arunS_frame (F:=F) hf hh n
  simp only [arunS] at h
  split at h
  ·rename_i hk hr
   obtain ⟨q1,q2⟩:=hh _ _ hr _ _ _ _ h
   refine ⟨q1,fun R H2 he ha=>?_⟩
   obtain ⟨H2',k1,k2⟩:=q2 R H2 he ha
   exact ⟨H2',by simp only [arunS,hr]; exact k1,k2⟩
  ·rename_i hr
   split at h
   ·rename_i m hm
    obtain ⟨q1,q2⟩:=(hf f m hm).frame _ F ih args H x H' h
    refine ⟨q1,fun R H2 he ha=>?_⟩
    obtain ⟨H2',k1,k2⟩:=q2 R H2 he ha
    exact ⟨H2',by simp only [arunS,hr,hm]; exact k1,k2⟩
   ·cases h
theorem arunS_ok {P : Program} {sp : Sps} {hook : Hooks} {F : Nat} (hf : ∀ f m,sp f = some m → SpOK P f m) (hh : HookOK P hook) (hfr : HookFrame hook) : ∀ n,CallOK P (arunS sp hook F n)
 | 0=>fun f args H x H' h=>by simp only [arunS] at h; cases h
 | n + 1=>fun f args H x H' h=>by
  have ih:=arunS_ok (F:=F) hf hh hfr n
  have ihf:=arunS_frame (F:=F) hf hfr n
  simp only [arunS] at h
  split at h
  ·rename_i hk hr
   exact hh _ _ hr _ _ _ _ h
  ·split at h
   ·rename_i m hm
    exact (hf f m hm).ok _ F ih ihf args H x H' h
   ·cases h
noncomputable def textM (fn : IFun) : MZ:=fun c F args H=>bif Nat.ble args.length fn.nt then xend fn (xcode c F fn.body (xinit args 0 .nil) H) else none
theorem SpOK.text {P : Program} {f : FuncId} {fn : IFun} (h : FnOK P f fn) : SpOK P f (textM fn):=by
 refine ⟨fun call F ih args H x H' hx=>?_,fun call F ih ihf args H x H' hx=>?_⟩
 ·unfold textM at hx
  cases hb : Nat.ble args.length fn.nt with
  | false=>rw [hb] at hx; cases hx
  | true=>
   rw [hb] at hx
   simp only [cond_true] at hx
   obtain ⟨q1,q2⟩:=xend_frame (f:=fun H=>xcode call F fn.body (xinit args 0 .nil) H) (fun e T1 H1 h1=>xcode_frame ih h.okc h1) hx
   refine ⟨q1,fun R H2 he ha=>?_⟩
   obtain ⟨H2',k1,k2⟩:=q2 R H2 he ha
   exact ⟨H2',by simp only [textM,hb,cond_true]; exact k1,k2⟩
 ·unfold textM at hx
  cases hb : Nat.ble args.length fn.nt with
  | false=>rw [hb] at hx; cases hx
  | true=>
   rw [hb] at hx
   simp only [cond_true] at hx
   exact h.ok call F ih ihf args H x H' hb hx
end Go.Abs
namespace Go.Abs
open Go Go.RowKit
set_option linter.unusedVariables false
def frzP : Nat → AH → AV → Option AV
 | 0,_,_=>none
 | n + 1,H,x=>match x with
  | .agg cs=>match frzs (frzP n H) cs with
   | some ys=>some (.agg ys)
   | none=>none
  | .tup cs=>match frzs (frzP n H) cs with
   | some ys=>some (.tup ys)
   | none=>none
  | .slc g e i len z=>match H.gs.get g with
   | some r=>if r.e = e ∧ i + len * z ≤ r.cells.length then (match frzs (frzP n H) ((r.cells.drop i).take (len * z)) with
    | some ys=>some (.vals z (chunk z len ys))
    | none=>none) else none
   | none=>none
  | .ptr g e i=>match H.gs.get g with
   | some r=>if r.e = e then (match frzs (frzP n H) r.cells with
    | some ys=>some (.vptr ys i)
    | none=>none) else none
   | none=>none
  | x=>if flatC x = true then some x else none
theorem frzP_ok {K : Kx} {G Gf : Gh} {H : AH} {w : World} (h : HRel K G H w) (hM : ∀ b o v,K.B ≤ b → w.cell? ⟨b,o,none⟩ = some v → v.oneCell' = true → Gf.M b o = some v) : ∀ (n : Nat) (x y : AV) (u : Value),frzP n H x = some y → VR G x u → VR Gf y u:=by
 intro n
 induction n with
 | zero=>intro x y u hf hv; cases hf
 | succ n ih=>
  intro x y u hf hv
  have list : ∀ {cs ys : List AV} {us : List Value},frzs (frzP n H) cs = some ys → VRs G cs us → VRs Gf ys us:=by
   intro cs ys us h1 h2
   obtain ⟨q1,q2⟩:=frzs_get h1
   refine VRs.of_get (by rw [h2.len,q1]) fun j y hj=>?_
   obtain ⟨x,h3,h4⟩:=q2 j y hj
   obtain ⟨v,h5,h6⟩:=h2.get j x h3
   exact ⟨v,h5,ih x y v h4 h6⟩
  simp only [frzP] at hf
  split at hf
  ·rename_i cs
   split at hf
   ·rename_i ys hys
    cases hf
    simp only [VR] at hv ⊢
    obtain ⟨us,rfl,h2⟩:=hv
    exact ⟨us,rfl,list hys h2⟩
   ·cases hf
  ·rename_i cs
   split at hf
   ·rename_i ys hys
    cases hf
    simp only [VR] at hv ⊢
    obtain ⟨us,rfl,h2⟩:=hv
    exact ⟨us,rfl,list hys h2⟩
   ·cases hf
  ·rename_i g e i len z
   split at hf
   ·rename_i r hr
    split at hf
    ·rename_i hc
     obtain ⟨rfl,hfit⟩:=hc
     split at hf
     ·rename_i ys hys
      cases hf
      simp only [VR] at hv ⊢
      obtain ⟨b,o,m,cap,hmu,rfl,hcap,_⟩:=hv
      obtain ⟨b',o',m',cs,t,q⟩:=h.grp g r hr
      rw [q.mu] at hmu
      cases hmu
      obtain ⟨q1,q2⟩:=frzs_get hys
      have hlen : ys.length = len * z:=by rw [q1,List.length_take,List.length_drop]; omega
      refine ⟨_,cap,by rw [chunk_len],by rw [chunk_len]; exact hcap,.inr ⟨b,o + i,rfl,chunk_rows len ys (o + i) hlen fun j y hj=>?_⟩⟩
      obtain ⟨x,h3,h4⟩:=q2 j y hj
      obtain ⟨v,h5,h6,h7⟩:=q.cellsIn i (len * z) j x h3
      exact ⟨v,hM _ _ _ q.low h5 h7,ih x y v h4 h6⟩
     ·cases hf
    ·cases hf
   ·cases hf
  ·rename_i g e i
   split at hf
   ·rename_i r hr
    split at hf
    ·rename_i hc
     subst hc
     split at hf
     ·rename_i ys hys
      cases hf
      simp only [VR] at hv ⊢
      obtain ⟨b,o,m,hmu,rfl⟩:=hv
      obtain ⟨b',o',m',cs,t,q⟩:=h.grp g r hr
      rw [q.mu] at hmu
      cases hmu
      obtain ⟨q1,q2⟩:=frzs_get hys
      refine ⟨b,o,rfl,VRow.of_get fun j y hj=>?_⟩
      obtain ⟨x,h3,h4⟩:=q2 j y hj
      obtain ⟨v,h5,h6,h7⟩:=q.cell j x h3
      exact ⟨v,hM _ _ _ q.low (by rw [cell_of q.heap]; exact h5) h7,ih x y v h4 h6⟩
     ·cases hf
    ·cases hf
   ·cases hf
  ·split at hf
   ·rename_i hfl
    cases hf
    exact flatC_ok hfl hv
   ·cases hf
theorem ACalls.memoP {P : Program} {f : FuncId} {ks : List AV} {x y : AV} {H1 : AH} (n : Nat) (h : ACalls P f ks AH.empty fun x' H'=>x' = x ∧ H' = H1) (hf : frzP n H1 x = some y) {m : Nat} {args : List AV} {H : AH} (hk : frzs (frzV m H) args = some ks) :
  ACalls P f args H fun y' H'=>y' = y ∧ H' = H:=by
 intro K G vs w hr hv
 have hv' : VRs (allG w) ks vs.toList:=frzs_VRs hr (fun b o v _ hc ho=>allG_cell hc ho) (fun b o v hM=>allG_cell (hr.mem b o v hM) (hr.ones b o v hM)) m hk hv
 refine (h _ _ vs w (allG_rel w hr.glob) hv').mono fun e w' ⟨u,x',G',H',h1,h2,h3,h4,h5,h6⟩=>?_
 subst h5; subst h6
 refine ⟨u,y,newG G w.heap.size w',H,h1,newG_le hr,newG_rel hr h3.below,?_,rfl,rfl⟩
 refine frzP_ok h3 (fun b o v hB hc ho=>?_) n x' y u hf h4
 simp only [newG]
 rw [if_neg (by show ¬ b < w.heap.size; have : w.heap.size ≤ b:=hB; omega)]
 exact allG_cell hc ho
def dsameP (n : Nat) (x y : AV) : Bool:=match x,y with
 | .tup (.vptr r i :: xs),.tup (.vptr r' i' :: ys)=>Nat.beq i i' && dsame n (.agg r) (.agg r') && dsame n (.tup xs) (.tup ys)
 | x,y=>dsame n x y
theorem dsameP_ok {n : Nat} {x y : AV} (h : dsameP n x y = true) : x = y:=by
 unfold dsameP at h
 split at h
 ·simp only [Bool.and_eq_true] at h
  obtain ⟨⟨h1,h2⟩,h3⟩:=h
  have e1:=Nat.eq_of_beq_eq_true h1
  have e2:=dsame_ok _ _ _ h2
  have e3:=dsame_ok _ _ _ h3
  cases e2; cases e3; subst e1; rfl
 ·exact dsame_ok _ _ _ h
def answersP (r : Option (AV × AH)) (y : AV) : Bool:=
 match r with
 | some (x,H)=>match frzP 100 H x with
  | some x'=>dsameP 100 x' y
  | none=>false
 | none=>false
theorem answersP_ok {r : Option (AV × AH)} {y : AV} (h : answersP r y = true) : ∃ x H,r = some (x,H) ∧ frzP 100 H x = some y:=by
 unfold answersP at h
 split at h
 ·rename_i x H
  split at h
  ·rename_i x' hx
   rw [← dsameP_ok h]
   exact ⟨x,H,rfl,hx⟩
  ·cases h
 ·cases h
noncomputable def keptL : List (List AV × AV) → List AV → Option AV
 | [],_=>none
 | e :: L,ks=>@ite _ (ks = e.1) (Classical.propDecidable _) (some e.2) (keptL L ks)
theorem keptL_ok : ∀ {L : List (List AV × AV)} {ks : List AV} {y : AV},keptL L ks = some y → (ks,y) ∈ L
 | [],ks,y,h=>by cases h
 | e :: L,ks,y,h=>by
  unfold keptL at h
  split at h
  ·rename_i he
   cases h; subst he; exact List.mem_cons_self ..
  ·exact List.mem_cons_of_mem _ (keptL_ok h)
theorem keptL_c (ks : List AV) (k : List AV) (y : AV) (L : List (List AV × AV)) : keptL ((k,y) :: L) ks = @ite _ (ks = k) (Classical.propDecidable _) (some y) (keptL L ks):=rfl
noncomputable def keptF (L : List (List AV × AV)) (args : List AV) (H : AH) : Option (AV × AH):=on (frzs (frzV 3 H) args) fun ks=>on (keptL L ks) fun y=>some (y,H)
theorem on_someE {α β : Type} {x : Option α} {f : α → Option β} {y : β} (h : on x f = some y) : ∃ a,x = some a ∧ f a = some y:=by
 cases x with
 | none=>cases h
 | some a=>exact ⟨a,rfl,h⟩
theorem keptF_eq {L : List (List AV × AV)} {args ks : List AV} {H : AH} {y : AV} (h1 : frzs (frzV 3 H) args = some ks) (h2 : keptL L ks = some y) : keptF L args H = some (y,H):=by
 unfold keptF
 rw [h1,on_some,h2,on_some]
theorem keptF_one {P : Program} {f : FuncId} {L : List (List AV × AV)} (hb : callableB P f = true) (h : AllE P f L) : HookOne P f (keptF L):=by
 have key : ∀ {args H x H'},keptF L args H = some (x,H') → H' = H ∧ ∃ ks,frzs (frzV 3 H) args = some ks ∧ keptL L ks = some x:=by
  intro args H x H' hx
  obtain ⟨ks,h1,h2⟩:=on_someE hx
  obtain ⟨y,h3,h4⟩:=on_someE h2
  cases h4
  exact ⟨rfl,ks,h1,h3⟩
 refine ⟨hb,fun args H x H' hx=>?_,fun args H x H' hx=>?_⟩
 ·obtain ⟨rfl,ks,h1,h2⟩:=key hx
  exact h (ks,x) (keptL_ok h2) 3 args _ h1
 ·obtain ⟨rfl,ks,h1,h2⟩:=key hx
  refine FrameR.same fun R H2 he ha=>?_
  exact keptF_eq (frzs_mono (frzV_ext he ha 3) h1) h2
theorem frzs_n (f : AV → Option AV) : frzs f [] = some []:=rfl
theorem frzs_c (f : AV → Option AV) (x : AV) (xs : List AV) : frzs f (x :: xs) = on (f x) fun y=>on (frzs f xs) fun ys=>some (y :: ys):=by
 simp only [frzs,on]
 cases f x with
 | none=>rfl
 | some y=>cases frzs f xs <;> rfl
theorem frzV_str (n : Nat) (H : AH) (s : List UInt8) : frzV (n + 1) H (.str s) = some (.str s):=rfl
theorem frzV_int (n : Nat) (H : AH) (k : IntKind) (a : Int) : frzV (n + 1) H (.int k a) = some (.int k a):=rfl
theorem frzV_bool (n : Nat) (H : AH) (b : Bool) : frzV (n + 1) H (.bool b) = some (.bool b):=rfl
theorem frzV_nils (n : Nat) (H : AH) : frzV (n + 1) H .nils = some .nils:=rfl
theorem frzV_agg (n : Nat) (H : AH) (cs : List AV) : frzV (n + 1) H (.agg cs) = on (frzs (frzV n H) cs) fun ys=>some (.agg ys):=by
 simp only [frzV,on]
 cases frzs (frzV n H) cs <;> rfl
theorem frzV_slc (n : Nat) (H : AH) (g e i len z : Nat) : frzV (n + 1) H (.slc g e i len z) = on (H.gs.get g) fun r=>if r.e = e ∧ i + len * z ≤ r.cells.length then on (frzs (frzV n H) ((r.cells.drop i).take (len * z))) fun ys=>some (.vals z (chunk z len ys)) else none:=by
 simp only [frzV,on]
 cases H.gs.get g with
 | none=>rfl
 | some r=>
  dsimp only
  split
  ·cases frzs (frzV n H) ((r.cells.drop i).take (len * z)) <;> rfl
  ·rfl
theorem keptE {P : Program} {good : FuncId → Bool} {hook : Hooks} {F n : Nat} (hok : CallOK P (arun P good hook F n)) {f : FuncId} {L : List (List AV × AV)} (h : (L.all fun e=>answersP (arunK P good hook F n f e.1 AH.empty) e.2) = true) : AllE P f L:=by
 intro e he m args H hk
 have h1:=List.all_eq_true.1 h e he
 obtain ⟨x,H1,h2,h3⟩:=answersP_ok h1
 rw [arunK_eq] at h2
 exact ACalls.memoP 100 (hok _ _ _ _ _ h2).2 h3 hk
end Go.Abs
namespace Go.Abs
open Go Go.RowKit
set_option linter.unusedVariables false
inductive FzR (H : AH) (kp : Nat → Nat → Nat → Nat → Prop) (km : Nat → Nat → Prop) (dead : Nat → Prop) : AV → AV → Prop
 | pure {x : AV} (h : pureA x = true) : FzR H kp km dead x x
 | und : FzR H kp km dead .und .und
 | nils (z : Nat) : FzR H kp km dead .nils (.vals z [])
 | zslc (z : Nat) : FzR H kp km dead .zslc (.vals z [])
 | agg {xs ys : List AV} (hl : xs.length = ys.length) (h : ∀ (i : Nat) x y,xs[i]? = some x → ys[i]? = some y → FzR H kp km dead x y) : FzR H kp km dead (.agg xs) (.agg ys)
 | tup {xs ys : List AV} (hl : xs.length = ys.length) (h : ∀ (i : Nat) x y,xs[i]? = some x → ys[i]? = some y → FzR H kp km dead x y) : FzR H kp km dead (.tup xs) (.tup ys)
 | fn {f : Fn} {xs ys : List AV} (hl : xs.length = ys.length) (h : ∀ (i : Nat) x y,xs[i]? = some x → ys[i]? = some y → FzR H kp km dead x y) : FzR H kp km dead (.fn f xs) (.fn f ys)
 | iface {t : TypeId} {x y : AV} (h : FzR H kp km dead x y) : FzR H kp km dead (.iface t x) (.iface t y)
 | slc {g e i len z : Nat} {r : Grp} {rows : List (List AV)} (hd : dead g) (hg : H.gs.get g = some r) (he : r.e = e) (hn : rows.length = len) (hz : ∀ row ∈ rows,row.length = z) (hb : i + len * z ≤ r.cells.length)
   (h : ∀ (j : Nat) x y,r.cells[i + j]? = some x → rows.flatten[j]? = some y → FzR H kp km dead x y) : FzR H kp km dead (.slc g e i len z) (.vals z rows)
 | vals {z : Nat} {rows rows' : List (List AV)} (hn : rows.length = rows'.length) (hz : ∀ row ∈ rows,row.length = z) (hz' : ∀ row ∈ rows',row.length = z)
   (h : ∀ (j : Nat) x y,rows.flatten[j]? = some x → rows'.flatten[j]? = some y → FzR H kp km dead x y) : FzR H kp km dead (.vals z rows) (.vals z rows')
 | ptr {g e i : Nat} {r : Grp} {row : List AV} (hd : dead g) (hg : H.gs.get g = some r) (he : r.e = e) (hb : row.length ≤ r.cells.length)
   (h : ∀ (j : Nat) x y,r.cells[j]? = some x → row[j]? = some y → FzR H kp km dead x y) : FzR H kp km dead (.ptr g e i) (.vptr row i)
 | vptr {i : Nat} {row row' : List AV} (hl : row.length = row'.length) (h : ∀ (j : Nat) x y,row[j]? = some x → row'[j]? = some y → FzR H kp km dead x y) : FzR H kp km dead (.vptr row i) (.vptr row' i)
 | keepP {g e g' e' i : Nat} (h : kp g e g' e') : FzR H kp km dead (.ptr g e i) (.ptr g' e' i)
 | keepS {g e g' e' i len z : Nat} (h : kp g e g' e') : FzR H kp km dead (.slc g e i len z) (.slc g' e' i len z)
 | keepM {g g' : Nat} (h : km g g') : FzR H kp km dead (.mapp g) (.mapp g')
theorem FzR_ok {K : Kx} {G Gf : Gh} {H : AH} {w : World} {kp : Nat → Nat → Nat → Nat → Prop} {km : Nat → Nat → Prop} {dead : Nat → Prop} (h : HRel K G H w)
  (hM : ∀ g r b o n,dead g → H.gs.get g = some r → G.mu g r.e = some (b,o,n) → ∀ j x v,r.cells[j]? = some x → w.cell? ⟨b,o + j,none⟩ = some v → v.oneCell' = true → Gf.M b (o + j) = some v)
  (hG : ∀ b o v,G.M b o = some v → Gf.M b o = some v) (hkp : ∀ g e g' e',kp g e g' e' → ∀ x,G.mu g e = some x → Gf.mu g' e' = some x) (hkm : ∀ g g',km g g' → ∀ x,G.mm g = some x → Gf.mm g' = some x)
  {x y : AV} (hf : FzR H kp km dead x y) : ∀ u,VR G x u → VR Gf y u:=by
 induction hf with
 | pure hp=>exact fun u hv=>pureA_ok hG _ _ hp hv
 | und=>exact fun u hv=>hv
 | nils z=>intro u hv; simp only [VR] at hv ⊢; subst hv; exact ⟨none,0,rfl,Nat.le_refl _,.inl trivial⟩
 | zslc z=>intro u hv; simp only [VR] at hv ⊢; obtain ⟨a,rfl⟩:=hv; exact ⟨a,0,rfl,Nat.le_refl _,.inl trivial⟩
 | agg hl hx ih=>
  intro u hv
  simp only [VR] at hv ⊢
  obtain ⟨us,rfl,h2⟩:=hv
  refine ⟨us,rfl,VRs.of_get (by rw [h2.len,hl]) fun j y hj=>?_⟩
  obtain ⟨hlt,-⟩:=List.getElem?_eq_some_iff.1 hj
  obtain ⟨v,h3,h4⟩:=h2.get j _ (List.getElem?_eq_getElem (by omega))
  exact ⟨v,h3,ih j _ y (List.getElem?_eq_getElem (by omega)) hj v h4⟩
 | tup hl hx ih=>
  intro u hv
  simp only [VR] at hv ⊢
  obtain ⟨us,rfl,h2⟩:=hv
  refine ⟨us,rfl,VRs.of_get (by rw [h2.len,hl]) fun j y hj=>?_⟩
  obtain ⟨hlt,-⟩:=List.getElem?_eq_some_iff.1 hj
  obtain ⟨v,h3,h4⟩:=h2.get j _ (List.getElem?_eq_getElem (by omega))
  exact ⟨v,h3,ih j _ y (List.getElem?_eq_getElem (by omega)) hj v h4⟩
 | fn hl hx ih=>
  intro u hv
  simp only [VR] at hv ⊢
  obtain ⟨us,rfl,h2⟩:=hv
  refine ⟨us,rfl,VRs.of_get (by rw [h2.len,hl]) fun j y hj=>?_⟩
  obtain ⟨hlt,-⟩:=List.getElem?_eq_some_iff.1 hj
  obtain ⟨v,h3,h4⟩:=h2.get j _ (List.getElem?_eq_getElem (by omega))
  exact ⟨v,h3,ih j _ y (List.getElem?_eq_getElem (by omega)) hj v h4⟩
 | iface hx ih=>
  intro u hv
  simp only [VR] at hv ⊢
  obtain ⟨v,rfl,h2⟩:=hv
  exact ⟨v,rfl,ih v h2⟩
 | @slc g e i len z r rows hd hg he hn hz hb hx ih=>
  intro u hv
  simp only [VR] at hv ⊢
  obtain ⟨b,o,n,cap,hmu,rfl,hcap,hfit⟩:=hv
  obtain ⟨b',o',n',cs,t,q⟩:=h.grp g r hg
  rw [← he,q.mu] at hmu
  cases hmu
  refine ⟨_,cap,by rw [hn],by rw [hn]; exact hcap,.inr ⟨b,o + i,rfl,rows_of_flat hz fun j y hj=>?_⟩⟩
  have hlt : j < len * z:=by
   have:=(List.getElem?_eq_some_iff.1 hj).1
   rwa [flatten_len' hz,hn] at this
  have hc : r.cells[i + j]? = some (r.cells[i + j]'(by omega)):=List.getElem?_eq_getElem (by omega)
  obtain ⟨v,h1,h2,h3⟩:=q.cell _ _ hc
  refine ⟨v,?_,ih j _ y hc hj v h2⟩
  rw [Nat.add_assoc]
  exact hM g r b o n hd hg q.mu _ _ v hc (by rw [cell_of q.heap]; exact h1) h3
 | @vals z rows rows' hn hz hz' hx ih=>
  intro u hv
  simp only [VR] at hv ⊢
  obtain ⟨a,cap,rfl,hcap,hin⟩:=hv
  refine ⟨a,cap,by rw [hn],by rw [← hn]; exact hcap,?_⟩
  rcases hin with h0 | ⟨b,o,rfl,hin⟩
  ·left; subst h0; exact List.eq_nil_of_length_eq_zero hn.symm
  ·right
   refine ⟨b,o,rfl,rows_of_flat hz' fun j y hj=>?_⟩
   have hlt : j < rows.flatten.length:=by
    have:=(List.getElem?_eq_some_iff.1 hj).1
    rw [flatten_len' hz'] at this
    rw [flatten_len' hz,hn]; exact this
   obtain ⟨v,h1,h2⟩:=VRows.flat hin j _ (List.getElem?_eq_getElem hlt)
   exact ⟨v,hG _ _ _ h1,ih j _ y (List.getElem?_eq_getElem hlt) hj v h2⟩
 | @ptr g e i r row hd hg he hb hx ih=>
  intro u hv
  simp only [VR] at hv ⊢
  obtain ⟨b,o,n,hmu,rfl⟩:=hv
  obtain ⟨b',o',n',cs,t,q⟩:=h.grp g r hg
  rw [← he,q.mu] at hmu
  cases hmu
  refine ⟨b,o,rfl,VRow.of_get fun j y hj=>?_⟩
  have hlt:=(List.getElem?_eq_some_iff.1 hj).1
  have hc : r.cells[j]? = some (r.cells[j]'(by omega)):=List.getElem?_eq_getElem (by omega)
  obtain ⟨v,h1,h2,h3⟩:=q.cell _ _ hc
  exact ⟨v,hM g r b o n hd hg q.mu _ _ v hc (by rw [cell_of q.heap]; exact h1) h3,ih j _ y hc hj v h2⟩
 | @vptr i row row' hl hx ih=>
  intro u hv
  simp only [VR] at hv ⊢
  obtain ⟨b,o,rfl,h2⟩:=hv
  refine ⟨b,o,rfl,VRow.of_get fun j y hj=>?_⟩
  obtain ⟨hlt,-⟩:=List.getElem?_eq_some_iff.1 hj
  obtain ⟨v,h3,h4⟩:=h2.get j _ (List.getElem?_eq_getElem (by omega))
  exact ⟨v,hG _ _ _ h3,ih j _ y (List.getElem?_eq_getElem (by omega)) hj v h4⟩
 | keepP hk=>
  intro u hv
  simp only [VR] at hv ⊢
  obtain ⟨b,o,n,hmu,rfl⟩:=hv
  exact ⟨b,o,n,hkp _ _ _ _ hk _ hmu,rfl⟩
 | keepS hk=>
  intro u hv
  simp only [VR] at hv ⊢
  obtain ⟨b,o,n,cap,hmu,rfl,h1,h2⟩:=hv
  exact ⟨b,o,n,cap,hkp _ _ _ _ hk _ hmu,rfl,h1,h2⟩
 | keepM hk=>
  intro u hv
  simp only [VR] at hv ⊢
  obtain ⟨b,hmm,rfl⟩:=hv
  exact ⟨b,hkm _ _ hk _ hmm,rfl⟩
def FzE (R : AV → AV → Prop) : List (Nat × AV × AV) → List (Nat × AV × AV) → Prop
 | [],l=>l = []
 | (n,k,x) :: es,l=>∃ k' x' l',l = (n,k',x') :: l' ∧ R k k' ∧ R x x' ∧ FzE R es l'
theorem FzE_ok {R : AV → AV → Prop} {G Gf : Gh} (hR : ∀ x y,R x y → ∀ u,VR G x u → VR Gf y u) : ∀ {es es' : List (Nat × AV × AV)} {l : List MapEntry},FzE R es es' → ERel G es l → ERel Gf es' l
 | [],es',l,h,he=>by simp only [FzE] at h; subst h; exact he
 | (n,k,x) :: es,es',l,h,he=>by
  simp only [FzE] at h
  obtain ⟨k',x',l',rfl,h1,h2,h3⟩:=h
  simp only [ERel] at he ⊢
  obtain ⟨e,m,rfl,e0,e1,e2,e3⟩:=he
  exact ⟨e,m,rfl,e0,hR _ _ h1 _ e1,hR _ _ h2 _ e2,FzE_ok hR h3 e3⟩
theorem FzE.refl {R : AV → AV → Prop} : ∀ {es : List (Nat × AV × AV)},(∀ e ∈ es,R e.2.1 e.2.1 ∧ R e.2.2 e.2.2) → FzE R es es
 | [],_=>rfl
 | (n,k,x) :: es,h=>⟨k,x,es,rfl,(h _ (List.mem_cons_self ..)).1,(h _ (List.mem_cons_self ..)).2,FzE.refl fun e he=>h e (List.mem_cons_of_mem _ he)⟩
def kpR (H H1 H2 : AH) (p : Nat → Nat) (g e g' e' : Nat) : Prop:=(H.gs.get g' ≠ none ∧ g = g' ∧ e = e') ∨ (H.gs.get g' = none ∧ g = p g' ∧ ∃ r1 r2,H1.gs.get g = some r1 ∧ r1.e = e ∧ H2.gs.get g' = some r2 ∧ r2.e = e')
def kmR (H2 : AH) (q : Nat → Nat) (g g' : Nat) : Prop:=g = q g' ∧ H2.ms.get g' ≠ none
def deadR (H2 : AH) (p : Nat → Nat) (g : Nat) : Prop:=∀ g',H2.gs.get g' ≠ none → p g' ≠ g
structure Canon (H H1 : AH) (x1 : AV) (H2 : AH) (x2 : AV) (p q : Nat → Nat) : Prop where
 oldg : ∀ g,H.gs.get g ≠ none → p g = g ∧ H2.gs.get g ≠ none
 grp : ∀ g r2,H2.gs.get g = some r2 → ∃ r1,H1.gs.get (p g) = some r1 ∧ r1.fz ≤ r2.fz ∧ (H.gs.get g ≠ none → r2.e = r1.e) ∧ ∀ (i : Nat) y,r2.cells[i]? = some y → ∃ x,r1.cells[i]? = some x ∧ FzR H1 (kpR H H1 H2 p) (kmR H2 q) (deadR H2 p) x y
 inj : ∀ g g',H2.gs.get g ≠ none → H2.gs.get g' ≠ none → p g = p g' → g = g'
 oldm : ∀ g,H.ms.get g ≠ none → q g = g ∧ H2.ms.get g ≠ none
 map : ∀ g es2,H2.ms.get g = some es2 → ∃ es1,H1.ms.get (q g) = some es1 ∧ es2.1 = es1.1 ∧ FzE (FzR H1 (kpR H H1 H2 p) (kmR H2 q) (deadR H2 p)) es1.2 es2.2
 injm : ∀ g g',H2.ms.get g ≠ none → H2.ms.get g' ≠ none → q g = q g' → g = g'
 res : FzR H1 (kpR H H1 H2 p) (kmR H2 q) (deadR H2 p) x1 x2
open Classical in
theorem Canon.rel {K : Kx} {G G1 : Gh} {H H1 H2 : AH} {w w' : World} {x1 x2 : AV} {u : Value} {p q : Nat → Nat} (c : Canon H H1 x1 H2 x2 p q) (hr : HRel K G H w) (hle : G.le G1) (h1 : HRel K G1 H1 w') (hv : VR G1 x1 u) :
  ∃ G2,G.le G2 ∧ HRel K G2 H2 w' ∧ VR G2 x2 u:=by
 have hall:=allG_rel w' h1.glob
 let kept : Nat → Prop:=fun b=>∃ g r1 o n,H2.gs.get g ≠ none ∧ H1.gs.get (p g) = some r1 ∧ G1.mu (p g) r1.e = some (b,o,n)
 let G2 : Gh:=⟨fun b o=>if K.B ≤ b ∧ ¬kept b then (allG w').M b o else G1.M b o,
  fun g e=>if H.gs.get g ≠ none then G1.mu g e else match H2.gs.get g with
   | some r2=>if e = r2.e then (match H1.gs.get (p g) with | some r1=>G1.mu (p g) r1.e | none=>none) else none
   | none=>none,
  fun g=>if H2.ms.get g ≠ none then G1.mm (q g) else none⟩
 have hM : ∀ b o v,G1.M b o = some v → G2.M b o = some v:=by
  intro b o v hv
  show (if _ then _ else _) = _
  split
  ·exact allG_cell (h1.mem b o v hv) (h1.ones b o v hv)
  ·exact hv
 have mu_old : ∀ g e,H.gs.get g ≠ none → G2.mu g e = G1.mu g e:=fun g e hg=>by
  show (if _ then _ else _) = _
  rw [if_pos hg]
 have mu_new : ∀ g r2 r1,H.gs.get g = none → H2.gs.get g = some r2 → H1.gs.get (p g) = some r1 → G2.mu g r2.e = G1.mu (p g) r1.e:=fun g r2 r1 hg k2 k1=>by
  show (if _ then _ else _) = _
  rw [if_neg (by simp [hg]),k2]
  simp only [k1,if_true]
 have hmm : ∀ g,H2.ms.get g ≠ none → G2.mm g = G1.mm (q g):=fun g hg=>by
  show (if _ then _ else _) = _
  rw [if_pos hg]
 have hok : ∀ x y,FzR H1 (kpR H H1 H2 p) (kmR H2 q) (deadR H2 p) x y → ∀ u,VR G1 x u → VR G2 y u:=fun x y hf=>by
  refine FzR_ok h1 ?_ hM ?_ ?_ hf
  ·intro g r b o n hd hg hmu j x v hj hc ho
   obtain ⟨b',o',n',cs,t,a⟩:=h1.grp g r hg
   rw [a.mu] at hmu
   cases hmu
   have hk : ¬kept b:=by
    rintro ⟨g',r1,o2,n2,k1,k2,k3⟩
    exact h1.apart (p g') g r1 r _ _ _ _ _ _ k2 hg (hd g' k1) k3 a.mu rfl
   show (if _ then _ else _) = _
   rw [if_pos ⟨a.low,hk⟩]
   exact allG_cell hc ho
  ·intro g e g' e' hk x hx
   rcases hk with ⟨k1,rfl,rfl⟩ | ⟨k1,rfl,r1,r2,k2,rfl,k3,rfl⟩
   ·rw [mu_old _ _ k1]; exact hx
   ·rw [mu_new g' r2 r1 k1 k3 k2]; exact hx
  ·rintro g g' ⟨rfl,k⟩ x hx
   rw [hmm g' k]; exact hx
 have hle2 : G.le G2:=by
  refine ⟨fun b o v hv=>hM b o v (hle.M b o v hv),fun g e x hx=>?_,fun g x hx=>?_⟩
  ·have : H.gs.get g ≠ none:=fun hn=>by rw [hr.fresh g hn] at hx; cases hx
   rw [mu_old g e this]; exact hle.mu g e x hx
  ·have : H.ms.get g ≠ none:=fun hn=>by rw [hr.mfresh g hn] at hx; cases hx
   rw [hmm g (c.oldm g this).2,(c.oldm g this).1]; exact hle.mm g x hx
 have hgrp : ∀ g r2,H2.gs.get g = some r2 → ∃ r1 b o n cs t,H1.gs.get (p g) = some r1 ∧ GrpAt K G1 w' (p g) r1 b o n cs t ∧ G2.mu g r2.e = some (b,o,n) ∧ GrpAt K G2 w' g r2 b o n cs t:=by
  intro g r2 hg
  obtain ⟨r1,k1,k2,k3,k4⟩:=c.grp g r2 hg
  obtain ⟨b,o,n,cs,t,a⟩:=h1.grp _ r1 k1
  have hmu : G2.mu g r2.e = some (b,o,n):=by
   by_cases ho : H.gs.get g = none
   ·rw [mu_new g r2 r1 ho hg k1]; exact a.mu
   ·have:=(c.oldg g ho).1
    rw [mu_old g _ ho,k3 ho]
    rw [this] at a; exact a.mu
  refine ⟨r1,b,o,n,cs,t,k1,a,hmu,hmu,a.low,a.heap,a.size,fun i y hi=>?_,fun j hj=>?_⟩
  ·obtain ⟨x,m1,m2⟩:=k4 i y hi
   obtain ⟨v,n1,n2,n3⟩:=a.cell i x m1
   exact ⟨v,n1,hok _ _ m2 _ n2,n3⟩
  ·show (if _ then _ else _) = _
   rw [if_neg (fun hc=>hc.2 ⟨g,r1,o,n,by rw [hg]; simp,k1,a.mu⟩)]
   exact a.free j (by omega)
 refine ⟨G2,hle2,⟨h1.below,h1.hB,?_,?_,?_,?_,?_,?_,?_,?_,?_,?_⟩,hok _ _ c.res _ hv⟩
 ·intro b o v hv
  have hv : (if K.B ≤ b ∧ ¬kept b then (allG w').M b o else G1.M b o) = some v:=hv
  split at hv
  ·exact hall.mem b o v hv
  ·exact h1.mem b o v hv
 ·intro b o v hv
  have hv : (if K.B ≤ b ∧ ¬kept b then (allG w').M b o else G1.M b o) = some v:=hv
  split at hv
  ·exact hall.ones b o v hv
  ·exact h1.ones b o v hv
 ·intro b o hb
  show (if _ then _ else _) = _
  rw [if_neg (by omega)]
  exact h1.old b o hb
 ·intro g r2 hg
  obtain ⟨r1,b,o,n,cs,t,-,-,-,a⟩:=hgrp g r2 hg
  exact ⟨b,o,n,cs,t,a⟩
 ·intro g g' r r' b o n b' o' n' e1 e2 hne m1 m2
  obtain ⟨s1,b1,o1,n1,c1,t1,k1,a1,j1,-⟩:=hgrp g r e1
  obtain ⟨s2,b2,o2,n2,c2,t2,k2,a2,j2,-⟩:=hgrp g' r' e2
  rw [j1] at m1
  rw [j2] at m2
  cases m1; cases m2
  exact h1.apart (p g) (p g') s1 s2 _ _ _ _ _ _ k1 k2 (fun hp=>hne (c.inj g g' (by rw [e1]; simp) (by rw [e2]; simp) hp)) a1.mu a2.mu
 ·intro g hg e
  have ho : H.gs.get g = none:=by
   cases hh : H.gs.get g with
   | none=>rfl
   | some r=>exact absurd hg (c.oldg g (by rw [hh]; simp)).2
  show (if _ then _ else _) = _
  rw [if_neg (by simp [ho]),hg]
 ·intro g es2 hg
  obtain ⟨es1,k1,k2,k3⟩:=c.map g es2 hg
  obtain ⟨b,l,cl,a⟩:=h1.maps _ es1 k1
  exact ⟨b,l,cl,by rw [hmm g (by rw [hg]; simp)]; exact a.mm,a.low,a.heap,FzE_ok hok k3 a.ents,by rw [k2]; exact a.clock⟩
 ·intro g g' es es' b b' e1 e2 hne m1 m2
  obtain ⟨s1,k1,-,-⟩:=c.map g es e1
  obtain ⟨s2,k2,-,-⟩:=c.map g' es' e2
  rw [hmm g (by rw [e1]; simp)] at m1
  rw [hmm g' (by rw [e2]; simp)] at m2
  exact h1.mapart (q g) (q g') s1 s2 b b' k1 k2 (fun hp=>hne (c.injm g g' (by rw [e1]; simp) (by rw [e2]; simp) hp)) m1 m2
 ·intro g hg
  show (if _ then _ else _) = _
  rw [if_neg (by simp [hg])]
 ·intro g r2 e hg hlt
  obtain ⟨r1,k1,k2,k3,-⟩:=c.grp g r2 hg
  by_cases ho : H.gs.get g = none
  ·show (if _ then _ else _) = _
   rw [if_neg (by simp [ho]),hg]
   simp only
   rw [if_neg (by omega)]
  ·rw [mu_old g e ho]
   refine h1.ages g r1 e (by rw [← (c.oldg g ho).1]; rw [(c.oldg g ho).1] at k1 ⊢; exact k1) (by rw [← k3 ho]; exact hlt)
theorem ACalls.canon {P : Program} {f : FuncId} {args : List AV} {H H1 H2 : AH} {x1 x2 : AV} {p q : Nat → Nat} (h : ACalls P f args H fun y H'=>y = x1 ∧ H' = H1) (c : Canon H H1 x1 H2 x2 p q) : ACalls P f args H fun y H'=>y = x2 ∧ H' = H2:=by
 intro K G vs w hr hv
 refine (h K G vs w hr hv).mono fun e w' ⟨u,x,G1,H',k1,k2,k3,k4,k5,k6⟩=>?_
 subst k5; subst k6
 obtain ⟨G2,m1,m2,m3⟩:=c.rel hr k2 k3 k4
 exact ⟨u,x2,G2,H2,k1,m1,m2,m3,rfl,rfl⟩
end Go.Abs
namespace Go.Abs
open Go Go.RowKit
set_option linter.unusedVariables false
section
variable (S M : Nat → Prop)
mutual
def refA : AV → Prop
 | .ptr g _ _=>S g
 | .slc g _ _ _ _=>S g
 | .mapp g=>M g
 | .vptr row _=>refL row
 | .vals z rows=>(∀ r ∈ rows,r.length = z) ∧ refR rows
 | .fn _ cap=>refL cap
 | .iface _ v=>refA v
 | .agg cs=>refL cs
 | .tup cs=>refL cs
 | _=>True
def refL : List AV → Prop
 | []=>True
 | x :: xs=>refA x ∧ refL xs
def refR : List (List AV) → Prop
 | []=>True
 | r :: rs=>refL r ∧ refR rs
end
end
section
variable {S M : Nat → Prop} {G : Gh} (hmu : ∀ g e y,G.mu g e = some y → S g) (hmm : ∀ g y,G.mm g = some y → M g)
include hmu hmm
set_option linter.unusedSectionVars false
mutual
theorem refA_of : ∀ (x : AV) (u : Value),VR G x u → refA S M x
 | .bool b,u,hv=>by simp only [refA]
 | .int k n,u,hv=>by simp only [refA]
 | .str s,u,hv=>by simp only [refA]
 | .nilp,u,hv=>by simp only [refA]
 | .nils,u,hv=>by simp only [refA]
 | .zslc,u,hv=>by simp only [refA]
 | .nilf,u,hv=>by simp only [refA]
 | .nili,u,hv=>by simp only [refA]
 | .nilm,u,hv=>by simp only [refA]
 | .und,u,hv=>by simp only [refA]
 | .ptr ..,u,hv=>by simp only [VR,refA] at hv ⊢; obtain ⟨b,o,n,h1,_⟩:=hv; exact hmu _ _ _ h1
 | .slc ..,u,hv=>by simp only [VR,refA] at hv ⊢; obtain ⟨b,o,n,c,h1,_⟩:=hv; exact hmu _ _ _ h1
 | .mapp _,u,hv=>by simp only [VR,refA] at hv ⊢; obtain ⟨b,h1,_⟩:=hv; exact hmm _ _ h1
 | .vptr row i,u,hv=>by
  simp only [VR,refA] at hv ⊢
  obtain ⟨b,o,h1,h2⟩:=hv
  exact refW_of row b o h2
 | .vals z rows,u,hv=>by
  simp only [VR,refA] at hv ⊢
  obtain ⟨a,cap,h1,h0,h2⟩:=hv
  rcases h2 with rfl | ⟨b,o,h2,h3⟩
  ·exact ⟨by simp,by simp only [refR]⟩
  ·exact refWs_of z rows b o h3
 | .fn f cap,u,hv=>by
  simp only [VR,refA] at hv ⊢
  obtain ⟨cs,h1,h2⟩:=hv
  exact refL_of cap _ h2
 | .iface t x,u,hv=>by
  simp only [VR,refA] at hv ⊢
  obtain ⟨v,h1,h2⟩:=hv
  exact refA_of x v h2
 | .agg cs,u,hv=>by
  simp only [VR,refA] at hv ⊢
  obtain ⟨us,h1,h2⟩:=hv
  exact refL_of cs _ h2
 | .tup cs,u,hv=>by
  simp only [VR,refA] at hv ⊢
  obtain ⟨us,h1,h2⟩:=hv
  exact refL_of cs _ h2
theorem refL_of : ∀ (xs : List AV) (us : List Value),VRs G xs us → refL S M xs
 | [],us,hv=>by simp only [refL]
 | x :: xs,us,hv=>by
  simp only [VRs,refL] at hv ⊢
  obtain ⟨u,us',h1,h2,h3⟩:=hv
  exact ⟨refA_of x u h2,refL_of xs us' h3⟩
theorem refW_of : ∀ (xs : List AV) (b o : Nat),VRow G xs b o → refL S M xs
 | [],b,o,hv=>by simp only [refL]
 | x :: xs,b,o,hv=>by
  simp only [VRow,refL] at hv ⊢
  obtain ⟨⟨u,h1,h2⟩,h3⟩:=hv
  exact ⟨refA_of x u h2,refW_of xs b (o + 1) h3⟩
theorem refWs_of (z : Nat) : ∀ (rs : List (List AV)) (b o : Nat),VRows G z rs b o → (∀ r ∈ rs,r.length = z) ∧ refR S M rs
 | [],b,o,hv=>by simp only [refR]; simp
 | r :: rs,b,o,hv=>by
  simp only [VRows,refR] at hv ⊢
  obtain ⟨h1,h2,h3⟩:=hv
  obtain ⟨k1,k2⟩:=refWs_of z rs b (o + z) h3
  exact ⟨by simp [h1]; exact fun a ha=>k1 a ha,refW_of r b o h2,k2⟩
end
end
section
variable {S M : Nat → Prop} {H : AH} {kp : Nat → Nat → Nat → Nat → Prop} {km : Nat → Nat → Prop} {dead : Nat → Prop} (hk : ∀ g e,S g → kp g e g e) (hm : ∀ g,M g → km g g)
include hk hm
set_option linter.unusedSectionVars false
mutual
theorem FzR.refl : ∀ (x : AV),refA S M x → FzR H kp km dead x x
 | .bool b,h=>.pure rfl
 | .int k n,h=>.pure rfl
 | .str s,h=>.pure rfl
 | .nilp,h=>.pure rfl
 | .nils,h=>.pure rfl
 | .zslc,h=>.pure rfl
 | .nilf,h=>.pure rfl
 | .nili,h=>.pure rfl
 | .nilm,h=>.pure rfl
 | .und,h=>.und
 | .ptr g e i,h=>.keepP (hk _ _ (by simpa only [refA] using h))
 | .slc g e i len z,h=>.keepS (hk _ _ (by simpa only [refA] using h))
 | .mapp g,h=>.keepM (hm _ (by simpa only [refA] using h))
 | .vptr row i,h=>.vptr rfl fun j x y h1 h2=>by
  rw [h1] at h2; cases h2
  exact FzR.reflL row (by simpa only [refA] using h) x (List.mem_of_getElem? h1)
 | .vals z rows,h=>by
  simp only [refA] at h
  refine .vals rfl h.1 h.1 fun j x y h1 h2=>?_
  rw [h1] at h2; cases h2
  exact FzR.reflR rows h.2 x (List.mem_of_getElem? h1)
 | .fn f cap,h=>.fn rfl fun j x y h1 h2=>by
  rw [h1] at h2; cases h2
  exact FzR.reflL cap (by simpa only [refA] using h) x (List.mem_of_getElem? h1)
 | .iface t v,h=>.iface (FzR.refl v (by simpa only [refA] using h))
 | .agg cs,h=>.agg rfl fun j x y h1 h2=>by
  rw [h1] at h2; cases h2
  exact FzR.reflL cs (by simpa only [refA] using h) x (List.mem_of_getElem? h1)
 | .tup cs,h=>.tup rfl fun j x y h1 h2=>by
  rw [h1] at h2; cases h2
  exact FzR.reflL cs (by simpa only [refA] using h) x (List.mem_of_getElem? h1)
theorem FzR.reflL : ∀ (xs : List AV),refL S M xs → ∀ x ∈ xs,FzR H kp km dead x x
 | [],h=>by simp
 | x :: xs,h=>by
  simp only [refL] at h
  have h1:=FzR.refl x h.1
  have h2:=FzR.reflL xs h.2
  intro y hy
  rcases List.mem_cons.1 hy with rfl | hy
  ·exact h1
  ·exact h2 y hy
theorem FzR.reflR : ∀ (rs : List (List AV)),refR S M rs → ∀ x ∈ rs.flatten,FzR H kp km dead x x
 | [],h=>by simp
 | r :: rs,h=>by
  simp only [refR] at h
  have h1:=FzR.reflL r h.1
  have h2:=FzR.reflR rs h.2
  intro y hy
  rw [List.flatten_cons,List.mem_append] at hy
  rcases hy with hy | hy
  ·exact h1 y hy
  ·exact h2 y hy
end
end
structure ClosedH (H : AH) : Prop where
 cell : ∀ g r (i : Nat) x,H.gs.get g = some r → r.cells[i]? = some x → refA (fun g=>H.gs.get g ≠ none) (fun g=>H.ms.get g ≠ none) x
 ent : ∀ g es,H.ms.get g = some es → ∀ e ∈ es.2,refA (fun g=>H.gs.get g ≠ none) (fun g=>H.ms.get g ≠ none) e.2.1 ∧ refA (fun g=>H.gs.get g ≠ none) (fun g=>H.ms.get g ≠ none) e.2.2
theorem ERel.refs {G : Gh} {S M : Nat → Prop} (hmu : ∀ g e y,G.mu g e = some y → S g) (hmm : ∀ g y,G.mm g = some y → M g) : ∀ {es : List (Nat × AV × AV)} {l : List MapEntry},ERel G es l → ∀ e ∈ es,refA S M e.2.1 ∧ refA S M e.2.2
 | [],l,h,e,he=>by cases he
 | (n,k,x) :: es,l,h,e,he=>by
  simp only [ERel] at h
  obtain ⟨m,ms,rfl,h0,h1,h2,h3⟩:=h
  rcases List.mem_cons.1 he with rfl | he
  ·exact ⟨refA_of hmu hmm _ _ h1,refA_of hmu hmm _ _ h2⟩
  ·exact ERel.refs hmu hmm h3 e he
theorem HRel.closed {K : Kx} {G : Gh} {H : AH} {w : World} (h : HRel K G H w) : ClosedH H:=by
 have hmu : ∀ g e y,G.mu g e = some y → H.gs.get g ≠ none:=fun g e y hy hn=>by rw [h.fresh g hn e] at hy; cases hy
 have hmm : ∀ g y,G.mm g = some y → H.ms.get g ≠ none:=fun g y hy hn=>by rw [h.mfresh g hn] at hy; cases hy
 refine ⟨fun g r i x hg hx=>?_,fun g es hg e he=>?_⟩
 ·obtain ⟨b,o,n,cs,t,q⟩:=h.grp g r hg
  obtain ⟨u,_,h2,_⟩:=q.cell i x hx
  exact refA_of hmu hmm x u h2
 ·obtain ⟨b,l,c,q⟩:=h.maps g es hg
  exact ERel.refs hmu hmm q.ents e he
end Go.Abs
namespace Go.Abs
open Go Go.RowKit
set_option linter.unusedVariables false
namespace Tr
def dep {α : Type} : Tr α → Nat
 | .nil=>0
 | .node a b c d _=>1 + (dep a + dep b + dep c + dep d)
theorem getP_deep {α : Type} : ∀ (t : Tr α) (p : Pth),dep t ≤ p.length → t.getP p = none
 | .nil,p,h=>by simp [getP]
 | .node a b c d v,[],h=>by simp [dep] at h
 | .node a b c d v,q :: p,h=>by
  simp only [dep,List.length_cons] at h
  cases q
  ·exact getP_deep a p (by omega)
  ·exact getP_deep b p (by omega)
  ·exact getP_deep c p (by omega)
  ·exact getP_deep d p (by omega)
def bnd : Nat → Nat
 | 0=>0
 | d + 1=>4 * bnd d + 1
theorem path_long : ∀ (d k n : Nat),bnd d ≤ n → n < k → d ≤ (pathF k n).length
 | 0,k,n,h,hk=>by omega
 | d + 1,0,n,h,hk=>by omega
 | d + 1,k + 1,n,h,hk=>by
  simp only [bnd] at h
  have hn : Nat.beq n 0 = false:=by
   cases hb : Nat.beq n 0 with
   | false=>rfl
   | true=>have:=Nat.eq_of_beq_eq_true hb; omega
  have:=path_long d k ((n - 1) / 4) (by omega) (by omega)
  simp only [pathF,hn,cond_false,List.length_cons]
  omega
theorem far {α : Type} (t : Tr α) : ∃ N,∀ n,N ≤ n → t.get n = none:=
 ⟨bnd (dep t),fun n hn=>getP_deep t _ (path_long _ _ n hn (Nat.lt_succ_self n))⟩
end Tr
def Comes (r : Option (AV × AH)) (H : AH) (x2 : AV) (H2 : AH) : Prop:=∃ x1 H1 p q,r = some (x1,H1) ∧ Canon H H1 x1 H2 x2 p q
theorem Comes_congr {r r' : Option (AV × AH)} {H : AH} {x2 : AV} {H2 : AH} (h : r = r') : Comes r H x2 H2 = Comes r' H x2 H2:=by rw [h]
theorem Comes.some {x1 x2 : AV} {H H1 H2 : AH} {p q : Nat → Nat} (c : Canon H H1 x1 H2 x2 p q) : Comes (some (x1,H1)) H x2 H2:=⟨x1,H1,p,q,rfl,c⟩
theorem ACalls.onCall {P : Program} {call : ICall} (c1 : CallOK P call) (c2 : CallFrame call) (hm : P.follows .mixedOrders = true) {f : FuncId} (hD : funD P f = true) {y : YF} (hy : cFun P (fun _=>true) f = some y.er)
  {args : List AV} (hb : Nat.ble args.length y.nt = true) (F : Nat) {H H2 : AH} {x2 : AV}
  (h : ∀ N,(∀ n,N ≤ n → H.gs.get n = none ∧ H.ms.get n = none) → ClosedH H → Comes (yend y.res (ycode call F y.body (xinit args 0 .nil) ⟨N,H.gs,H.ms⟩)) H x2 H2) : ACalls P f args H fun y' H'=>y' = x2 ∧ H' = H2:=by
 intro K G vs w hr hv
 obtain ⟨N1,h1⟩:=H.gs.far
 obtain ⟨N2,h2⟩:=H.ms.far
 obtain ⟨x1,H1,p,q,k1,k2⟩:=h (N1 + N2) (fun n hn=>⟨h1 n (by omega),h2 n (by omega)⟩) hr.closed
 have A:=(yfun_ok c1 c2 hm hD hy hb k1).2
 have k2' : Canon ⟨N1 + N2,H.gs,H.ms⟩ H1 x1 H2 x2 p q:=⟨k2.oldg,k2.grp,k2.inj,k2.oldm,k2.map,k2.injm,k2.res⟩
 exact (A.canon k2') K G vs w (hr.next _) hv
theorem ACalls.onRun {P : Program} {l : List (FuncId × (List AV → AH → Option (AV × AH)))} (hl : ∀ e ∈ l,HookOne P e.1 e.2) (hm : P.follows .mixedOrders = true) {f : FuncId} (hD : funD P f = true) {y : YF} (hy : cFun P (fun _=>true) f = some y.er)
  {args : List AV} (hb : Nat.ble args.length y.nt = true) (F : Nat) {H H2 : AH} {x2 : AV}
  (h : ∀ N,(∀ n,N ≤ n → H.gs.get n = none ∧ H.ms.get n = none) → ClosedH H → Comes (yend y.res (ycode (tcall l) F y.body (xinit args 0 .nil) ⟨N,H.gs,H.ms⟩)) H x2 H2) : ACalls P f args H fun y' H'=>y' = x2 ∧ H' = H2:=
 ACalls.onCall (tcall_ok hl).1 (tcall_ok hl).2 hm hD hy hb F h
theorem Canon.same {H H1 : AH} {x1 x2 : AV} (hc : ClosedH H) (hg : ∀ g r,H.gs.get g = some r → H1.gs.get g = some r) (hm : ∀ g r,H.ms.get g = some r → H1.ms.get g = some r) (hx : FzR H1 (kpR H H1 H id) (kmR H id) (deadR H id) x1 x2) : Canon H H1 x1 H x2 id id:=by
 have hS : ∀ g e,H.gs.get g ≠ none → kpR H H1 H id g e g e:=fun g e h=>.inl ⟨h,rfl,rfl⟩
 have hM : ∀ g,H.ms.get g ≠ none → kmR H id g g:=fun g h=>⟨rfl,h⟩
 refine ⟨fun g h=>⟨rfl,h⟩,fun g r2 h=>⟨r2,hg g r2 h,Nat.le_refl _,fun _=>rfl,fun i y hy=>⟨y,hy,FzR.refl hS hM y (hc.cell g r2 i y h hy)⟩⟩,fun g g' _ _ h=>h,fun g h=>⟨rfl,h⟩,fun g es2 h=>⟨es2,hm g es2 h,rfl,?_⟩,fun g g' _ _ h=>h,hx⟩
 exact FzE.refl fun e he=>⟨FzR.refl hS hM _ (hc.ent g es2 h e he).1,FzR.refl hS hM _ (hc.ent g es2 h e he).2⟩
theorem Canon.pure {H H1 : AH} {x : AV} (hc : ClosedH H) (hg : ∀ g r,H.gs.get g = some r → H1.gs.get g = some r) (hm : ∀ g r,H.ms.get g = some r → H1.ms.get g = some r) (hx : pureA x = true) : Canon H H1 x H x id id:=Canon.same hc hg hm (.pure hx)
end Go.Abs
namespace Go.Abs
open Go Go.RowKit
set_option linter.unusedVariables false
noncomputable def icall (ys : List (FuncId × YF)) (l : List (FuncId × (List AV → AH → Option (AV × AH)))) (F n : Nat) : ICall:=
 arunS (fun f=>(ys.find? fun e=>Nat.beq f e.1).map fun e=>textM e.2.er) (hooksOf l) F n
theorem icall_ok {P : Program} {ys : List (FuncId × YF)} {l : List (FuncId × (List AV → AH → Option (AV × AH)))} (hm : P.follows .mixedOrders = true) (hD : ∀ f,funD P f = true) (hy : ∀ e ∈ ys,cFun P (fun _=>true) e.1 = some e.2.er) (hl : ∀ e ∈ l,HookOne P e.1 e.2) (F n : Nat) :
  CallOK P (icall ys l F n) ∧ CallFrame (icall ys l F n):=by
 obtain ⟨h1,h2⟩:=hooksOf_ok hl
 have hs : ∀ f m,((ys.find? fun e=>Nat.beq f e.1).map fun e=>textM e.2.er) = some m → SpOK P f m:=by
  intro f m h
  rw [Option.map_eq_some_iff] at h
  obtain ⟨e,he,rfl⟩:=h
  have h3:=List.mem_of_find?_eq_some he
  have h4:=List.find?_some he
  have h5 : f = e.1:=Nat.eq_of_beq_eq_true h4
  subst h5
  exact SpOK.text (FnOK.plain hm (hD e.1) (hy e h3))
 exact ⟨arunS_ok hs h1 h2 n,arunS_frame hs h2 n⟩
theorem icall_text {ys : List (FuncId × YF)} {l : List (FuncId × (List AV → AH → Option (AV × AH)))} {F n : Nat} {f : FuncId} {y : YF} (hh : hooksOf l f = none) (hf : (ys.find? fun e=>Nat.beq f e.1) = some (f,y)) {args : List AV} (hb : Nat.ble args.length y.nt = true) {H : AH} {r : AV × AH}
  (h : yend y.res (ycode (icall ys l F n) F y.body (xinit args 0 .nil) H) = some r) : icall ys l F (n + 1) f args H = some r:=by
 unfold icall
 simp only [arunS,hh,hf,Option.map_some]
 unfold textM
 have : y.er.nt = y.nt:=rfl
 rw [this,hb]
 exact yend_mono h
theorem icall_hook {ys : List (FuncId × YF)} {l : List (FuncId × (List AV → AH → Option (AV × AH)))} {F n : Nat} {f : FuncId} {k : List AV → AH → Option (AV × AH)} (hh : hooksOf l f = some k) (args : List AV) (H : AH) : icall ys l F (n + 1) f args H = k args H:=by
 unfold icall
 simp only [arunS,hh]
end Go.Abs
namespace Go.Abs
open Go Go.RowKit
set_option linter.unusedVariables false
noncomputable def relH (R : List AV → AH → AV → AH → Prop) (args : List AV) (H : AH) : Option (AV × AH):=@dite _ (∃ p : AV × AH,R args H p.1 p.2) (Classical.propDecidable _) (fun h=>some h.choose) fun _=>none
def OneR (R : List AV → AH → AV → AH → Prop) : Prop:=∀ a H y H' y2 H2,R a H y H' → R a H y2 H2 → y = y2 ∧ H' = H2
theorem relH_ok {R : List AV → AH → AV → AH → Prop} {args : List AV} {H H' : AH} {y : AV} (h : relH R args H = some (y,H')) : R args H y H':=by
 unfold relH at h
 split at h
 ·rename_i hx
  have hs:=hx.choose_spec
  injection h with h
  rw [h] at hs
  exact hs
 ·cases h
theorem relH_eq {R : List AV → AH → AV → AH → Prop} (hu : OneR R) {args : List AV} {H H' : AH} {y : AV} (h : R args H y H') : relH R args H = some (y,H'):=by
 have hx : ∃ p : AV × AH,R args H p.1 p.2:=⟨(y,H'),h⟩
 unfold relH
 rw [dif_pos hx]
 obtain ⟨e1,e2⟩:=hu _ _ _ _ _ _ hx.choose_spec h
 exact congrArg some (Prod.ext e1 e2)
theorem HookOne.ofRel {P : Program} {f : FuncId} {R : List AV → AH → AV → AH → Prop} (hb : callableB P f = true) (hu : OneR R) (h : ∀ args H y H',R args H y H' → ACalls P f args H fun y1 H1=>y1 = y ∧ H1 = H')
  (hf : ∀ args H y H',R args H y H' → Grows H H' ∧ ∀ X H2,Ext X H H2 → Apart X H' → ∃ H2',R args H2 y H2' ∧ Ext X H' H2') : HookOne P f (relH R):=by
 refine ⟨hb,fun args H x H' hx=>h _ _ _ _ (relH_ok hx),fun args H x H' hx=>?_⟩
 obtain ⟨h1,h2⟩:=hf _ _ _ _ (relH_ok hx)
 refine ⟨h1,fun X H2 he ha=>?_⟩
 obtain ⟨H2',h3,h4⟩:=h2 X H2 he ha
 exact ⟨H2',relH_eq hu h3,h4⟩
def readR (Q : List AV → AH → AV → Prop) (args : List AV) (H : AH) (y : AV) (H' : AH) : Prop:=Q args H y ∧ H' = H
theorem readR_one {Q : List AV → AH → AV → Prop} (hu : ∀ a H y y2,Q a H y → Q a H y2 → y = y2) : OneR (readR Q):=fun a H y H' y2 H2 h k=>⟨hu _ _ _ _ h.1 k.1,h.2.trans k.2.symm⟩
theorem HookOne.ofReadR {P : Program} {f : FuncId} {Q : List AV → AH → AV → Prop} (hb : callableB P f = true) (hu : ∀ a H y y2,Q a H y → Q a H y2 → y = y2) (h : ∀ args H y,Q args H y → ACalls P f args H fun y1 H1=>y1 = y ∧ H1 = H)
  (hx : ∀ args H y X H2,Q args H y → Ext X H H2 → Apart X H → Q args H2 y) : HookOne P f (relH (readR Q)):=by
 refine HookOne.ofRel hb (readR_one hu) (fun args H y H' hq=>?_) fun args H y H' hq=>?_
 ·obtain ⟨h1,rfl⟩:=hq
  exact h _ _ _ h1
 ·obtain ⟨h1,rfl⟩:=hq
  exact ⟨Grows.refl _,fun X H2 he ha=>⟨H2,⟨hx _ _ _ _ _ h1 he ha,rfl⟩,he⟩⟩
theorem readR_eq {Q : List AV → AH → AV → Prop} (hu : ∀ a H y y2,Q a H y → Q a H y2 → y = y2) {args : List AV} {H : AH} {y : AV} (h : Q args H y) : relH (readR Q) args H = some (y,H):=relH_eq (readR_one hu) ⟨h,rfl⟩
theorem Canon.upd {H H1 H2 : AH} {x1 x2 : AV} (hc : ClosedH H) (hd : ∀ g,H2.gs.get g ≠ none ↔ H.gs.get g ≠ none) (hdm : ∀ g,H2.ms.get g ≠ none ↔ H.ms.get g ≠ none)
  (hg : ∀ g r2,H2.gs.get g = some r2 → H1.gs.get g = some r2 ∧ ∀ x ∈ r2.cells,refA (fun g=>H.gs.get g ≠ none) (fun g=>H.ms.get g ≠ none) x)
  (hm : ∀ g es2,H2.ms.get g = some es2 → ∃ es1,H1.ms.get g = some es1 ∧ es2.1 = es1.1 ∧ FzE (FzR H1 (kpR H H1 H2 id) (kmR H2 id) (deadR H2 id)) es1.2 es2.2)
  (hx : FzR H1 (kpR H H1 H2 id) (kmR H2 id) (deadR H2 id) x1 x2) : Canon H H1 x1 H2 x2 id id:=by
 have hS : ∀ g e,H.gs.get g ≠ none → kpR H H1 H2 id g e g e:=fun g e h=>.inl ⟨h,rfl,rfl⟩
 have hM : ∀ g,H.ms.get g ≠ none → kmR H2 id g g:=fun g h=>⟨rfl,(hdm g).2 h⟩
 refine ⟨fun g h=>⟨rfl,(hd g).2 h⟩,fun g r2 h=>?_,fun g g' _ _ h=>h,fun g h=>⟨rfl,(hdm g).2 h⟩,hm,fun g g' _ _ h=>h,hx⟩
 obtain ⟨k1,k2⟩:=hg g r2 h
 exact ⟨r2,k1,Nat.le_refl _,fun _=>rfl,fun i y hy=>⟨y,hy,FzR.refl hS hM y (k2 y (List.mem_of_getElem? hy))⟩⟩
theorem Canon.refl {H H1 H2 : AH} (hdm : ∀ g,H2.ms.get g ≠ none ↔ H.ms.get g ≠ none) {x : AV} (hx : refA (fun g=>H.gs.get g ≠ none) (fun g=>H.ms.get g ≠ none) x) : FzR H1 (kpR H H1 H2 id) (kmR H2 id) (deadR H2 id) x x:=
 FzR.refl (S:=fun g=>H.gs.get g ≠ none) (M:=fun g=>H.ms.get g ≠ none) (fun g e h=>.inl ⟨h,rfl,rfl⟩) (fun g h=>⟨rfl,(hdm g).2 h⟩) x hx
inductive All2 (R : AV → AV → Prop) : List AV → List AV → Prop
 | nil : All2 R [] []
 | cons {x y : AV} {xs ys : List AV} (h : R x y) (t : All2 R xs ys) : All2 R (x :: xs) (y :: ys)
theorem All2.len {R : AV → AV → Prop} {xs ys : List AV} (h : All2 R xs ys) : xs.length = ys.length:=by
 induction h with
 | nil=>rfl
 | cons _ _ ih=>simp [ih]
theorem All2.get {R : AV → AV → Prop} {xs ys : List AV} (h : All2 R xs ys) : ∀ (i : Nat) x y,xs[i]? = some x → ys[i]? = some y → R x y:=by
 induction h with
 | nil=>intro i x y h; simp at h
 | cons hr _ ih=>
  intro i x y h1 h2
  cases i with
  | zero=>simp at h1 h2; subst h1; subst h2; exact hr
  | succ i=>exact ih i x y (by simpa using h1) (by simpa using h2)
theorem FzR.ofTup {H : AH} {kp : Nat → Nat → Nat → Nat → Prop} {km : Nat → Nat → Prop} {dead : Nat → Prop} {xs ys : List AV} (h : All2 (FzR H kp km dead) xs ys) : FzR H kp km dead (.tup xs) (.tup ys):=.tup h.len h.get
theorem FzR.ofAgg {H : AH} {kp : Nat → Nat → Nat → Nat → Prop} {km : Nat → Nat → Prop} {dead : Nat → Prop} {xs ys : List AV} (h : All2 (FzR H kp km dead) xs ys) : FzR H kp km dead (.agg xs) (.agg ys):=.agg h.len h.get
end Go.Abs
namespace Go.Abs
open Go Go.RowKit
set_option linter.unusedVariables false
section
variable {K V : Type} [DecidableEq K] (kE : K → AV) (vE : V → AV)
def entG (m : List (Nat × K × V)) : List (Nat × AV × AV):=m.map fun e=>(e.1,kE e.2.1,vE e.2.2)
def lookG (k : K) (m : List (Nat × K × V)) : Option V:=(m.find? fun e=>decide (k = e.2.1)).map (·.2.2)
def putG (k : K) (v : V) (c : Nat) : List (Nat × K × V) → Nat × List (Nat × K × V)
 | []=>(c + 1,[(c,k,v)])
 | e :: m=>if k = e.2.1 then (c,(e.1,k,v) :: m) else ((putG k v c m).1,e :: (putG k v c m).2)
variable {kE vE}
variable (hc : ∀ a b,mcmp (kE a) (kE b) = some (decide (a = b)))
include hc
theorem find_G (k : K) : ∀ m : List (Nat × K × V),∃ b,mfind (kE k) (entG kE vE m) = some ((lookG k m).map fun v=>(b,vE v))
 | []=>⟨0,rfl⟩
 | e :: m=>by
  obtain ⟨n,k',v⟩:=e
  obtain ⟨b,ih⟩:=find_G k m
  show ∃ b,mfind (kE k) ((n,kE k',vE v) :: entG kE vE m) = _
  rw [mfind_c,hc,on_some,ih]
  by_cases h : k = k'
  ·exact ⟨n,by simp [h,lookG]⟩
  ·exact ⟨b,by simp [h,lookG]⟩
theorem set_G (k : K) (v : V) (x : AV) {R : AV → AV → Prop} (hx : R x (vE v)) (hk : R (kE k) (kE k)) (c : Nat) : ∀ m : List (Nat × K × V),(∀ e ∈ entG kE vE m,R e.2.1 e.2.1 ∧ R e.2.2 e.2.2) → ∃ es,mset (kE k) x c (entG kE vE m) = some ((putG k v c m).1,es) ∧ FzE R es (entG kE vE (putG k v c m).2)
 | [],_=>⟨[(c,kE k,x)],rfl,⟨kE k,vE v,[],rfl,hk,hx,rfl⟩⟩
 | e :: m,h=>by
  obtain ⟨n,k',u⟩:=e
  obtain ⟨es,h1,h2⟩:=set_G k v x hx hk c m fun e he=>h e (List.mem_cons_of_mem _ he)
  have h0:=h (n,kE k',vE u) (List.mem_cons_self ..)
  show ∃ es,mset (kE k) x c ((n,kE k',vE u) :: entG kE vE m) = _ ∧ _
  rw [mset_c,hc,on_some,h1]
  by_cases hkk : k = k'
  ·refine ⟨(n,kE k,x) :: entG kE vE m,by simp [hkk,putG],?_⟩
   rw [show (putG k v c ((n,k',u) :: m)).2 = (n,k,v) :: m by simp [putG,hkk]]
   exact ⟨kE k,vE v,_,rfl,hk,hx,FzE.refl fun e he=>h e (List.mem_cons_of_mem _ he)⟩
  ·refine ⟨(n,kE k',vE u) :: es,by simp [hkk,putG,on],?_⟩
   rw [show (putG k v c ((n,k',u) :: m)).2 = (n,k',u) :: (putG k v c m).2 by simp [putG,hkk]]
   exact ⟨kE k',vE u,_,rfl,h0.1,h0.2,h2⟩
theorem set_E (k : K) (v : V) (c : Nat) (m : List (Nat × K × V)) : mset (kE k) (vE v) c (entG kE vE m) = some ((putG k v c m).1,entG kE vE (putG k v c m).2):=by
 obtain ⟨es,h1,h2⟩:=set_G (R:=fun a b=>a = b) hc k v (vE v) rfl rfl c m fun e _=>⟨rfl,rfl⟩
 have : ∀ {a b : List (Nat × AV × AV)},FzE (fun x y=>x = y) a b → a = b:=by
  intro a
  induction a with
  | nil=>intro b h; exact h.symm
  | cons e a ih=>
   obtain ⟨n,k,x⟩:=e
   rintro b ⟨k',x',l',rfl,rfl,rfl,h⟩
   rw [ih h]
 rw [h1,this h2]
omit hc
theorem look_set (k : K) (v : V) (c : Nat) (j : K) : ∀ m : List (Nat × K × V),lookG j (putG k v c m).2 = if j = k then some v else lookG j m
 | []=>by
  by_cases h : j = k <;> simp [putG,lookG,h]
 | e :: m=>by
  obtain ⟨n,k',u⟩:=e
  have ih:=look_set k v c j m
  by_cases hk : k = k'
  ·subst hk
   by_cases h : j = k
   ·simp [putG,lookG,h]
   ·simp [putG,lookG,h]
  ·rw [show (putG k v c ((n,k',u) :: m)).2 = (n,k',u) :: (putG k v c m).2 by simp [putG,hk]]
   by_cases h : j = k'
   ·have : j ≠ k:=fun e=>hk (e.symm.trans h)
    subst h
    simp [lookG,this]
   ·have e1 : lookG j ((n,k',u) :: (putG k v c m).2) = lookG j (putG k v c m).2:=by simp [lookG,h]
    have e2 : lookG j ((n,k',u) :: m) = lookG j m:=by simp [lookG,h]
    rw [e1,e2,ih]
theorem set_mem {k : K} {v : V} {c : Nat} : ∀ {m : List (Nat × K × V)} {e : Nat × K × V},e ∈ (putG k v c m).2 → e ∈ m ∨ (e.2.1 = k ∧ e.2.2 = v)
 | [],e,h=>by
  simp only [putG,List.mem_singleton] at h
  subst h; exact .inr ⟨rfl,rfl⟩
 | d :: m,e,h=>by
  unfold putG at h
  split at h
  ·rcases List.mem_cons.1 h with rfl | h
   ·exact .inr ⟨rfl,rfl⟩
   ·exact .inl (List.mem_cons_of_mem _ h)
  ·rcases List.mem_cons.1 h with rfl | h
   ·exact .inl (List.mem_cons_self ..)
   ·rcases set_mem h with h | h
    ·exact .inl (List.mem_cons_of_mem _ h)
    ·exact .inr h
theorem look_mem {k : K} {m : List (Nat × K × V)} {v : V} (h : lookG k m = some v) : ∃ e ∈ m,e.2.1 = k ∧ e.2.2 = v:=by
 unfold lookG at h
 rw [Option.map_eq_some_iff] at h
 obtain ⟨e,h1,h2⟩:=h
 exact ⟨e,List.mem_of_find?_eq_some h1,by have:=List.find?_some h1; simpa [eq_comm] using this,h2⟩
end
theorem entG_inj {K V : Type} {kE : K → AV} {vE : V → AV} (hk : ∀ a b,kE a = kE b → a = b) (hv : ∀ a b,vE a = vE b → a = b) : ∀ {a b : List (Nat × K × V)},entG kE vE a = entG kE vE b → a = b
 | [],[],_=>rfl
 | [],_ :: _,h=>by simp [entG] at h
 | _ :: _,[],h=>by simp [entG] at h
 | x :: a,y :: b,h=>by
  obtain ⟨x1,x2,x3⟩:=x; obtain ⟨y1,y2,y3⟩:=y
  simp only [entG,List.map_cons,List.cons.injEq,Prod.mk.injEq] at h
  obtain ⟨⟨h1,h2,h3⟩,h4⟩:=h
  rw [h1,hk _ _ h2,hv _ _ h3,entG_inj hk hv h4]
end Go.Abs
namespace Go.Abs
open Go Go.RowKit
set_option linter.unusedVariables false
def insertH (z by_ : Nat) (args : List AV) (H : AH) : Option (AV × AH):=
 match args with
 | [.nils,.int .i64 0,.slc gv ev iv mv zv]=>bif Nat.beq mv 0 then none else iapp z by_ .nils (.slc gv ev iv mv zv) H
 | [.zslc,.int .i64 0,.slc gv ev iv mv zv]=>bif Nat.beq mv 0 then none else iapp z by_ .zslc (.slc gv ev iv mv zv) H
 | [.slc g e 0 len z',.int .i64 (.ofNat i),.slc gv ev iv mv zv]=>
  bif Nat.beq mv 0 || Nat.beq gv g then none else
  bif Nat.beq i len then iapp z by_ (.slc g e 0 len z') (.slc gv ev iv mv zv) H else
  match listCells H z (.slc gv ev iv mv zv) with
  | some (m,xs)=>
   match H.gs.get g with
   | some r=>
    bif Nat.beq r.e e && Nat.beq z' z && Nat.beq r.fz 0 && Nat.beq r.cells.length (len * z) && Nat.blt i len && Nat.blt 0 m && Nat.ble ((len + m) * by_) 140737488355328 && Nat.ble (len + m) 9223372036854775807 then
     some (.slc g (e + 1) 0 (len + m) z,⟨H.next,H.gs.set g ⟨e + 1,0,r.cells.take (i * z) ++ xs ++ r.cells.drop (i * z)⟩,H.ms⟩)
    else none
   | none=>none
  | none=>none
 | _=>none
theorem ERel.mem {G : Gh} : ∀ {es : List (Nat × AV × AV)} {l : List MapEntry},ERel G es l → ∀ e ∈ l,∃ t ∈ es,t.1 = e.born ∧ VR G t.2.1 e.key ∧ VR G t.2.2 e.val
 | [],l,h,e,he=>by simp only [ERel] at h; subst h; cases he
 | (n,k,x) :: es,l,h,e,he=>by
  simp only [ERel] at h
  obtain ⟨e0,l',rfl,h0,h1,h2,h3⟩:=h
  rcases List.mem_cons.1 he with rfl | he
  ·exact ⟨_,List.mem_cons_self ..,h0.symm,h1,h2⟩
  ·obtain ⟨t,ht,q⟩:=ERel.mem h3 e he
   exact ⟨t,List.mem_cons_of_mem _ ht,q⟩
theorem ERel.born {G : Gh} : ∀ {es : List (Nat × AV × AV)} {l : List MapEntry},ERel G es l → l.map (·.born) = es.map (·.1)
 | [],l,h=>by simp only [ERel] at h; subst h; rfl
 | (n,k,x) :: es,l,h=>by
  simp only [ERel] at h
  obtain ⟨e0,l',rfl,h0,h1,h2,h3⟩:=h
  simp only [List.map_cons,h0,ERel.born h3]
theorem setCells_with (b : Nat) : ∀ (vs : List Value) (o : Nat) (w : World),w.setCells b o vs = { w with heap:=(w.setCells b o vs).heap }
 | [],o,w=>rfl
 | v :: vs,o,w=>by
  rw [World.setCells]
  have:=setCells_with b vs (o + 1) (w.setCell ⟨b,o,none⟩ v)
  rw [this]
  rfl
theorem setCells_two {w : World} {b p1 p2 : Nat} {A B : List Value} {cs : Array Value} {t : TypeId} {f : Nat × Nat} (hb : w.heap[b]? = some (.cells cs t f)) (hp : p1 + B.length = p2) (hin : p2 + A.length ≤ cs.size) :
  (w.setCells b p2 A).setCells b p1 B = w.setCells b p1 (B ++ A):=by
 obtain ⟨c1,h1,s1,g1⟩:=heap_sets b t f A p2 w cs hb hin
 obtain ⟨c2,h2,s2,g2⟩:=heap_sets b t f B p1 (w.setCells b p2 A) c1 h1 (by omega)
 obtain ⟨c3,h3,s3,g3⟩:=heap_sets b t f (B ++ A) p1 w cs hb (by rw [List.length_append]; omega)
 have hc : c2 = c3:=by
  refine Array.ext_getElem? fun j=>?_
  rw [g2,g1,g3,List.length_append]
  by_cases q1 : p1 ≤ j ∧ j < p1 + B.length
  ·rw [if_pos q1,if_pos (by omega),List.getElem?_append_left (by omega)]
  ·rw [if_neg q1]
   by_cases q2 : p2 ≤ j ∧ j < p2 + A.length
   ·rw [if_pos q2,if_pos (by omega),List.getElem?_append_right (by omega)]
    congr 1; omega
   ·rw [if_neg q2,if_neg (by omega)]
 have hh : ((w.setCells b p2 A).setCells b p1 B).heap = (w.setCells b p1 (B ++ A)).heap:=by
  refine Array.ext_getElem? fun k=>?_
  by_cases hk : k = b
  ·subst hk; rw [h2,h3,hc]
  ·rw [heap_sets_ne b k hk,heap_sets_ne b k hk,heap_sets_ne b k hk]
 rw [setCells_with b B p1 (w.setCells b p2 A),hh,setCells_with b A p2 w,setCells_with b (B ++ A) p1 w]
end Go.Abs
namespace Go.Abs
open Go Go.RowKit
set_option linter.unusedVariables false
structure LessH (H H' : AH) : Prop where
 none' : ∀ g,H.gs.get g = none → H'.gs.get g = none
 some' : ∀ g r,H.gs.get g = some r → ∃ r',H'.gs.get g = some r' ∧ r'.e = r.e ∧ r'.fz = r.fz ∧ ∀ (i : Nat) x,r'.cells[i]? = some x → r.cells[i]? = some x
 ms : ∀ g,H'.ms.get g = H.ms.get g
theorem LessH.back {H H' : AH} (h : LessH H H') {g : Nat} {r' : Grp} (hg : H'.gs.get g = some r') : ∃ r,H.gs.get g = some r ∧ r'.e = r.e ∧ r'.fz = r.fz ∧ ∀ (i : Nat) x,r'.cells[i]? = some x → r.cells[i]? = some x:=by
 cases hr : H.gs.get g with
 | none=>rw [h.none' g hr] at hg; cases hg
 | some r=>
  obtain ⟨q,h1,h2⟩:=h.some' g r hr
  rw [hg] at h1
  cases h1
  exact ⟨r,rfl,h2⟩
end Go.Abs
