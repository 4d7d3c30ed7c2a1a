/- Functions carried out by plain functions of their own, that may call.   What is carried out with fewer calls is carried out with more. A function's body in pieces.   Results kept of calls with flat arguments: they may hold lists for good.   A findall's answer, kept: what both ways do.   A findall's answer, kept: as a plain function.   A findall's answer, kept: mach.collect stands for a plain function. -/
import Derived.Test.YtfbhoomfhjlbiaaGreatDoorStA
import Derived.Test.YtfbhoomfhjlbiaaGreatDoorAbsS
import Derived.Test.YtfbhoomfhjlbiaaGreatDoorRows
import Derived.ProofKit
namespace Go.Abs
open Go Go.RowKit
set_option linter.unusedVariables false
abbrev Sps := FuncId → Option MZ
noncomputable def arunS (sp : Sps) (hook : Hooks) (F : Nat) : Nat → ICall
  | 0 => fun _ _ _ => none
  | n + 1 => fun f args H => match hook f with
    | some h => h args H
    | none => match sp f with
      | some m => m (arunS sp hook F n) F args H
      | none => none
/-- What the plain function does is what a call does. -/
structure SpOK (P : Program) (f : FuncId) (m : MZ) : Prop where
  frame : ∀ call F, CallFrame call → ∀ args H x H', m call F args H = some (x, H') → FrameR x H H' (m call F args)
  ok : ∀ call F, CallOK P call → CallFrame call → ∀ args H x H', m call F args H = some (x, H') → callableB P f = true ∧ ACalls P f args H fun y H1 => y = x ∧ H1 = H'
theorem arunS_frame {P : Program} {sp : Sps} {hook : Hooks} {F : Nat} (hf : ∀ f m, sp f = some m → SpOK P f m) (hh : HookFrame hook) : ∀ n, CallFrame (arunS sp hook F n)
  | 0 => fun f args H x H' h => by simp only [arunS] at h; cases h
  | n + 1 => fun f args H x H' h => by
    have ih := arunS_frame (F := F) hf hh n
    simp only [arunS] at h
    split at h
    · rename_i hk hr
      obtain ⟨q1, q2⟩ := hh _ _ hr _ _ _ _ h
      refine ⟨q1, fun R H2 he ha => ?_⟩
      obtain ⟨H2', k1, k2⟩ := q2 R H2 he ha
      exact ⟨H2', by simp only [arunS, hr]; exact k1, k2⟩
    · rename_i hr
      split at h
      · rename_i m hm
        obtain ⟨q1, q2⟩ := (hf f m hm).frame _ F ih args H x H' h
        refine ⟨q1, fun R H2 he ha => ?_⟩
        obtain ⟨H2', k1, k2⟩ := q2 R H2 he ha
        exact ⟨H2', by simp only [arunS, hr, hm]; exact k1, k2⟩
      · cases h
theorem arunS_ok {P : Program} {sp : Sps} {hook : Hooks} {F : Nat} (hf : ∀ f m, sp f = some m → SpOK P f m) (hh : HookOK P hook) (hfr : HookFrame hook) : ∀ n, CallOK P (arunS sp hook F n)
  | 0 => fun f args H x H' h => by simp only [arunS] at h; cases h
  | n + 1 => fun f args H x H' h => by
    have ih := arunS_ok (F := F) hf hh hfr n
    have ihf := arunS_frame (F := F) hf hfr n
    simp only [arunS] at h
    split at h
    · rename_i hk hr
      exact hh _ _ hr _ _ _ _ h
    · split at h
      · rename_i m hm
        exact (hf f m hm).ok _ F ih ihf args H x H' h
      · cases h
/-- A function's own text, as a plain function. -/
noncomputable def textM (fn : IFun) : MZ := fun c F args H => bif Nat.ble args.length fn.nt then xend fn (xcode c F fn.body (xinit args 0 .nil) H) else none
theorem SpOK.text {P : Program} {f : FuncId} {fn : IFun} (h : FnOK P f fn) : SpOK P f (textM fn) := by
  refine ⟨fun call F ih args H x H' hx => ?_, fun call F ih ihf args H x H' hx => ?_⟩
  · unfold textM at hx
    cases hb : Nat.ble args.length fn.nt with
    | false => rw [hb] at hx; cases hx
    | true =>
      rw [hb] at hx
      simp only [cond_true] at hx
      obtain ⟨q1, q2⟩ := xend_frame (f := fun H => xcode call F fn.body (xinit args 0 .nil) H) (fun e T1 H1 h1 => xcode_frame ih h.okc h1) hx
      refine ⟨q1, fun R H2 he ha => ?_⟩
      obtain ⟨H2', k1, k2⟩ := q2 R H2 he ha
      exact ⟨H2', by simp only [textM, hb, cond_true]; exact k1, k2⟩
  · unfold textM at hx
    cases hb : Nat.ble args.length fn.nt with
    | false => rw [hb] at hx; cases hx
    | true =>
      rw [hb] at hx
      simp only [cond_true] at hx
      exact h.ok call F ih ihf args H x H' hb hx
/-- The program's own texts, but for one function. -/
noncomputable def spOf (P : Program) (g : FuncId) (m : MZ) (good : FuncId → Bool) : Sps := fun f => if f = g then some m else if good f = true then (cFun P (fun _ => true) f).map textM else none
theorem spOf_ok {P : Program} {g : FuncId} {m : MZ} {good : FuncId → Bool} (hm : P.follows .mixedOrders = true) (hg : SpOK P g m) (hD : ∀ f, good f = true → funD P f = true) : ∀ f m', spOf P g m good f = some m' → SpOK P f m' := by
  intro f m' h
  unfold spOf at h
  split at h
  · rename_i e; cases h; rw [e]; exact hg
  · split at h
    · rename_i hgf
      rw [Option.map_eq_some_iff] at h
      obtain ⟨fn, h1, rfl⟩ := h
      exact SpOK.text (FnOK.plain hm (hD f hgf) h1)
    · cases h
/-- A table's entry is what the texts do. -/
def EZS (sp : Sps) (f : FuncId) (m : MZ) : Prop := ∀ c c2, CLe c c2 → ∀ F args H r, m c F args H = some r → ∃ m', sp f = some m' ∧ m' c2 F args H = some r
theorem EZS.of {P : Program} {g : FuncId} {mg : MZ} {good : FuncId → Bool} {f : FuncId} {m : MZ} (h : ZOK P f m) (hne : f ≠ g) (hf : good f = true) : EZS (spOf P g mg good) f m := fun c c2 hc F args H r hr => by
  obtain ⟨fn, h1, h2, h3⟩ := zrun_ok hc (h c F args H r hr)
  refine ⟨textM fn, ?_, ?_⟩
  · unfold spOf
    rw [if_neg hne, if_pos hf, h1]; rfl
  · unfold textM
    rw [h2]; exact h3
theorem tabS_le {sp : Sps} {hs : HL} {l : List (Nat × MZ)} {F : Nat} (hl : ∀ e ∈ l, EZS sp e.1 e.2) : ∀ n, CLe (tabH hs (mkT l) F n) (arunS sp (hooksOf hs) F n)
  | 0 => fun f xs H r h => by cases h
  | n + 1 => fun f xs H r h => by
    have ih := tabS_le (F := F) (hs := hs) hl n
    replace h : Option.rec (motive := fun _ => RA) (Option.rec (motive := fun _ => RA) none (fun m => m (tabH hs (mkT l) F n) F xs H) (getZ (mkT l) f)) (fun h => h xs H) (hoZ hs f) = some r := h
    rw [hoZ_eq] at h
    cases hk : hooksOf hs f with
    | some k =>
      rw [hk] at h
      simp only [arunS, hk]; exact h
    | none =>
      rw [hk] at h
      replace h : Option.rec (motive := fun _ => RA) none (fun m => m (tabH hs (mkT l) F n) F xs H) (getZ (mkT l) f) = some r := h
      rw [getZ_eq] at h
      cases hm : (mkT l).get f with
      | none => rw [hm] at h; cases h
      | some m =>
        rw [hm] at h
        obtain ⟨fn, q1, q2⟩ := hl _ (mkT_get hm) _ _ ih _ _ _ _ h
        simp only [arunS, hk, q1]
        exact q2
theorem memoS_of {P : Program} {sp : Sps} {hs : HL} {l : List (Nat × MZ)} {F n : Nat} (hl : ∀ e ∈ l, EZS sp e.1 e.2) (hok : CallOK P (arunS sp (hooksOf hs) F n)) {f : FuncId} {L : List (List AV × AV)} (h : allA (tabU (hkT hs) (mkT l) F n) f L = true) : AllE P f L := by
  intro e he m args H hk
  rw [tabU_eq] at h
  obtain ⟨x, H1, h2, h3⟩ := answers_ok (allA_ok h e he)
  exact ACalls.memoF 100 (hok _ _ _ _ _ (tabS_le hl n _ _ _ _ h2)).2 h3 hk
theorem callsS_closed {P : Program} {sp : Sps} {hs : HL} {l : List (Nat × MZ)} {F n : Nat} (hl : ∀ e ∈ l, EZS sp e.1 e.2) (hok : CallOK P (arunS sp (hooksOf hs) F n)) {f : FuncId} (h : answers (tabU (hkT hs) (mkT l) F n f [] AH.empty) (.bool true) = true) (w : World) (gl : Glob w w.heap.size) :
    Calls P f #[] w fun e w' => e = .returned (.bool true) ∧ Below w.heap.size w w' := by
  rw [tabU_eq] at h
  obtain ⟨x, H1, h2, h3⟩ := answers_ok h
  have hA := (hok _ _ _ _ _ (tabS_le hl n _ _ _ _ h2)).2
  refine (ACalls.memo 100 (by rfl) hA h3 AH.empty _ _ #[] w (allG_rel w gl) (by simp [VRs])).mono fun e w' ⟨u, x', G', H', k1, k2, k3, k4, k5, k6⟩ => ?_
  subst k5
  simp only [VR] at k4
  subst k4
  exact ⟨k1, k3.below⟩
end Go.Abs
namespace Go.Abs
open Go Go.RowKit
set_option linter.unusedVariables false
section
variable {c1 c2 : ICall}
theorem xop_le (hc : CLe c1 c2) {T : Tr AV} {H : AH} {k : IK} {r : AV × AH} (h : xop c1 T H k = some r) : xop c2 T H k = some r := by
  cases k with
  | op o => exact h
  | call f args =>
    simp only [xop] at h ⊢
    split at h
    · split at h
      · exact hc _ _ _ _ h
      · cases h
    · cases h
theorem xops_le (hc : CLe c1 c2) : ∀ {l : List IOper} {T : Tr AV} {H : AH} {r : Tr AV × AH}, xops c1 l T H = some r → xops c2 l T H = some r
  | [], T, H, r, h => h
  | o :: os, T, H, r, h => by
    simp only [xops] at h ⊢
    cases hg : o.guard with
    | none =>
      rw [hg] at h
      simp only at h ⊢
      cases hx : xop c1 T H o.op with
      | none => rw [hx] at h; cases h
      | some p =>
        obtain ⟨x, H1⟩ := p
        rw [hx] at h
        rw [xop_le hc hx]
        exact xops_le hc h
    | some g =>
      obtain ⟨p, want⟩ := g
      rw [hg] at h
      simp only at h ⊢
      cases hT : T.getP p with
      | none => rw [hT] at h; cases h
      | some v =>
        rw [hT] at h
        cases v <;> simp only at h ⊢ <;> try (cases h; done)
        · rename_i b
          cases hb : (b == want) with
          | false => rw [hb] at h; exact xops_le hc h
          | true =>
            rw [hb] at h
            simp only [cond_true] at h ⊢
            cases hx : xop c1 T H o.op with
            | none => rw [hx] at h; cases h
            | some p =>
              obtain ⟨x, H1⟩ := p
              rw [hx] at h
              rw [xop_le hc hx]
              exact xops_le hc h
        · exact xops_le hc h
theorem eff_le (hc : CLe c1 c2) {base : Nat} {T : Tr AV} {H : AH} {W : List WE} {idx : Nat} {k : DK} {r : AV × AH × List WE} (h : eff c1 base T H W idx k = some r) : eff c2 base T H W idx k = some r := by
  cases k with
  | pure i => exact h
  | load n x => exact h
  | alloc i => exact h
  | k2 k w =>
    simp only [eff] at h ⊢
    cases hx : xop c1 T H k with
    | none => rw [hx] at h; cases h
    | some p => obtain ⟨x, H1⟩ := p; rw [hx] at h; rw [xop_le hc hx]; exact h
theorem drun_le (hc : CLe c1 c2) {base : Nat} : ∀ {l : List DOp} {s r : DS}, drun c1 base l s = some r → drun c2 base l s = some r
  | [], s, r, h => h
  | d :: l, s, r, h => by
    simp only [drun] at h ⊢
    have hd : ∀ u, dstep c1 base d s = some u → dstep c2 base d s = some u := by
      intro u hu
      unfold dstep at hu ⊢
      split at hu
      · cases hu
      · exact hu
      · cases hx : eff c1 base s.T s.H s.W d.idx d.k with
        | none => rw [hx] at hu; cases hu
        | some p => rw [hx] at hu; rw [eff_le hc hx]; exact hu
    cases hx : dstep c1 base d s with
    | none => rw [hx] at h; cases h
    | some u => rw [hx] at h; rw [hd u hx]; exact drun_le hc h
theorem iter_le {f g : Tr AV → AH → XR} (hfg : ∀ T H r, f T H = some r → g T H = some r) : ∀ (n : Nat) (T : Tr AV) (H : AH) (r : IEx × Tr AV × AH), iter f n T H = some r → iter g n T H = some r
  | 0, T, H, r, h => h
  | n + 1, T, H, r, h => by
    simp only [iter] at h ⊢
    cases hx : f T H with
    | none => rw [hx] at h; cases h
    | some p =>
      rw [hx] at h
      rw [hfg _ _ _ hx]
      obtain ⟨e, T1, H1⟩ := p
      cases e <;> first | exact iter_le hfg n _ _ _ h | exact h
theorem xcode_le (hc : CLe c1 c2) {F : Nat} : ∀ (c : ICode) (T : Tr AV) (H : AH) (r : IEx × Tr AV × AH), xcode c1 F c T H = some r → xcode c2 F c T H = some r := by
  intro c
  induction c with
  | skip => intro T H r h; exact h
  | exit id => intro T H r h; exact h
  | ret => intro T H r h; exact h
  | bad => intro T H r h; exact h
  | ops l =>
    intro T H r h
    simp only [xcode] at h ⊢
    cases hx : xops c1 l T H with
    | none => rw [hx] at h; cases h
    | some p => rw [hx] at h; rw [xops_le hc hx]; exact h
  | dops n l =>
    intro T H r h
    simp only [xcode] at h ⊢
    cases hx : drun c1 H.next l ⟨T, ⟨H.next + n, H.gs, H.ms⟩, []⟩ with
    | none => rw [hx] at h; cases h
    | some p => rw [hx] at h; rw [drun_le hc hx]; exact h
  | seq a b ha hb =>
    intro T H r h
    simp only [xcode] at h ⊢
    cases hx : xcode c1 F a T H with
    | none => rw [hx] at h; cases h
    | some p =>
      rw [hx] at h
      rw [ha _ _ _ hx]
      obtain ⟨e, T1, H1⟩ := p
      cases e <;> first | exact hb _ _ _ h | exact h
  | cond x a b ha hb =>
    intro T H r h
    simp only [xcode] at h ⊢
    split at h
    · exact ha _ _ _ h
    · exact hb _ _ _ h
    · cases h
  | block id c hc' =>
    intro T H r h
    simp only [xcode] at h ⊢
    cases hx : xcode c1 F c T H with
    | none => rw [hx] at h; cases h
    | some p => rw [hx] at h; rw [hc' _ _ _ hx]; exact h
  | loop c hc' =>
    intro T H r h
    exact iter_le (fun T H r => hc' T H r) F T H r h
end
/-- One piece, and what follows if it ends as usual. -/
def sqx (r : XR) (k : Tr AV → AH → XR) : XR := match r with
  | some (.normal, T, H) => k T H
  | r => r
theorem sqx_le {r r' : XR} {k k' : Tr AV → AH → XR} {x : IEx × Tr AV × AH} (h : sqx r k = some x) (hr : ∀ x, r = some x → r' = some x) (hk : ∀ T H x, k T H = some x → k' T H = some x) : sqx r' k' = some x := by
  cases r with
  | none => cases h
  | some p =>
    rw [hr _ rfl]
    obtain ⟨e, T, H⟩ := p
    cases e <;> first | exact hk _ _ _ h | exact h
def FrX (f : AH → XR) : Prop := ∀ H e T' H', f H = some (e, T', H') → Grows H H' ∧ ∀ R H2, Ext R H H2 → Apart R H' → ∃ H2', f H2 = some (e, T', H2') ∧ Ext R H' H2'
theorem FrX.sqx {f : AH → XR} {k : Tr AV → AH → XR} (hf : FrX f) (hk : ∀ T, FrX (k T)) : FrX fun H => sqx (f H) k := by
  intro H e T' H' h
  cases hx : f H with
  | none => simp only [hx] at h; cases h
  | some p =>
    obtain ⟨e1, T1, H1⟩ := p
    obtain ⟨q1, q2⟩ := hf H e1 T1 H1 hx
    simp only [hx] at h
    have other : (e1, T1, H1) = (e, T', H') → (∀ T H, Go.Abs.sqx (some (e1, T, H)) k = some (e1, T, H)) → Grows H H' ∧ ∀ R H2, Ext R H H2 → Apart R H' → ∃ H2', Go.Abs.sqx (f H2) k = some (e, T', H2') ∧ Ext R H' H2' := by
      intro h hs
      cases h
      refine ⟨q1, fun R H2 he ha => ?_⟩
      obtain ⟨H2', k1, k2⟩ := q2 R H2 he ha
      exact ⟨H2', by rw [k1]; exact hs _ _, k2⟩
    cases e1 with
    | normal =>
      replace h : k T1 H1 = some (e, T', H') := h
      obtain ⟨q3, q4⟩ := hk T1 H1 e T' H' h
      refine ⟨q1.trans q3, fun R H2 he ha => ?_⟩
      obtain ⟨H2', k1, k2⟩ := q2 R H2 he (ha.back q3)
      obtain ⟨H3', k3, k4⟩ := q4 R H2' k2 ha
      exact ⟨H3', by simp only [k1]; exact k3, k4⟩
    | ret => exact other (by cases h; rfl) (fun _ _ => rfl)
    | exit id => exact other (by cases h; rfl) (fun _ _ => rfl)
theorem FrX.code {call : ICall} (hf : CallFrame call) {F : Nat} {c : ICode} (ho : okC c) (T : Tr AV) : FrX fun H => xcode call F c T H := fun H e T' H' h => xcode_frame hf ho h
theorem AT.sqx {P : Program} {nt : Nat} {x y : Code} {T : Tr AV} {H : AH} {r : XR} {k : Tr AV → AH → XR} (h1 : ∀ e T' H', r = some (e, T', H') → AT P nt x T H (Is e T' H')) (h2 : ∀ T' H' e T2 H2, k T' H' = some (e, T2, H2) → AT P nt y T' H' (Is e T2 H2)) {e : IEx} {T2 : Tr AV} {H2 : AH} (h : sqx r k = some (e, T2, H2)) : AT P nt (.seq x y) T H (Is e T2 H2) := by
  cases r with
  | none => cases h
  | some p =>
    obtain ⟨e1, T1, H1⟩ := p
    have a := h1 _ _ _ rfl
    cases e1 with
    | normal =>
      refine AT.seq (R := fun a b => a = T1 ∧ b = H1) (a.mono fun e T H ⟨q1, q2, q3⟩ => by subst q1; exact ⟨q2, q3⟩) ?_
      rintro T' H' ⟨rfl, rfl⟩
      exact h2 _ _ _ _ _ h
    | ret =>
      cases h
      exact AT.seq (R := fun a b => False) (a.mono fun e T H ⟨q1, q2, q3⟩ => by subst q1; exact ⟨rfl, q2, q3⟩) (fun _ _ h => h.elim)
    | exit id =>
      cases h
      exact AT.seq (R := fun a b => False) (a.mono fun e T H ⟨q1, q2, q3⟩ => by subst q1; exact ⟨rfl, q2, q3⟩) (fun _ _ h => h.elim)
/-- A body in pieces stands for the function. -/
noncomputable def codeM (fn : IFun) (run : ICall → Nat → Tr AV → AH → XR) : MZ := fun c F args H => bif Nat.ble args.length fn.nt then xend fn (run c F (xinit args 0 .nil) H) else none
theorem SpOK.code {P : Program} {f : FuncId} {fn : IFun} {fd : Func} {c : Code} {run : ICall → Nat → Tr AV → AH → XR} (hfd : P.funcs[f]? = some fd) (hbody : fd.body = some c) (hnm : (fd.name == "runtime.NumGoroutine") = false) (hnt : fn.nt = fd.ntmps) (hrs : cRes P fd.results.toList = some fn.res)
    (hfr : ∀ call F, CallFrame call → ∀ T, FrX (run call F T)) (hok : ∀ call F, CallOK P call → CallFrame call → ∀ T H e T' H', run call F T H = some (e, T', H') → AT P fd.ntmps c T H (Is e T' H')) : SpOK P f (codeM fn run) := by
  refine ⟨fun call F ih args H x H' hx => ?_, fun call F ih ihf args H x H' hx => ?_⟩
  · unfold codeM at hx
    cases hb : Nat.ble args.length fn.nt with
    | false => rw [hb] at hx; cases hx
    | true =>
      rw [hb] at hx
      simp only [cond_true] at hx
      obtain ⟨q1, q2⟩ := xend_frame (f := fun H => run call F (xinit args 0 .nil) H) (fun e T1 H1 h1 => hfr call F ih _ H e T1 H1 h1) hx
      refine ⟨q1, fun R H2 he ha => ?_⟩
      obtain ⟨H2', k1, k2⟩ := q2 R H2 he ha
      exact ⟨H2', by simp only [codeM, hb, cond_true]; exact k1, k2⟩
  · unfold codeM at hx
    cases hb : Nat.ble args.length fn.nt with
    | false => rw [hb] at hx; cases hx
    | true =>
      rw [hb] at hx
      simp only [cond_true] at hx
      refine ⟨by unfold callableB; rw [hfd]; simp [hnm, hbody], ?_⟩
      refine ACalls.of_body hfd hbody (by rw [← hnt]; exact Nat.le_of_ble_eq_true hb) ?_
      have hxi : ∀ k, (xinit args 0 .nil).get k = (tinit args 0).get k := by
        intro k
        rw [xinit_get, tinit_get]
        simp only [Nat.zero_le, true_and, Nat.zero_add, Nat.sub_zero, if_true, Tr.get_nil]
        by_cases hk : k < args.length
        · rw [if_pos hk]
        · rw [if_neg hk, List.getElem?_eq_none (by omega)]
      have main : ∀ e T1 H1, run call F (xinit args 0 .nil) H = some (e, T1, H1) → (e = .normal ∨ e = .ret) → ires T1 H1 fn.res = some x → H1 = H' → AT P fd.ntmps c (tinit args 0) H (bodyQ P fd fun y H1 => y = x ∧ H1 = H') := by
        rintro e T1 H1 k1 k2 k3 rfl
        have hAT := hok call F ih ihf _ _ _ _ _ k1
        intro K G a w hr ht
        refine wp_mono (hAT K G a w hr (ht.congr hxi)) fun e1 a1 w1 ⟨G', T2, H2, r1, r2, r3, r4, r5, r6⟩ => ?_
        subst r4; subst r5; subst r6
        refine ⟨G', T2, H2, r1, r2, r3, ?_⟩
        rcases k2 with rfl | rfl <;> exact ⟨x, ires_ok hrs k3, rfl, rfl⟩
      cases hx2 : run call F (xinit args 0 .nil) H with
      | none => rw [hx2] at hx; simp [xend] at hx
      | some r =>
        obtain ⟨e, T1, H1⟩ := r
        rw [hx2] at hx
        cases e with
        | normal =>
          simp only [xend] at hx
          split at hx
          · rename_i y hy; cases hx; exact main _ _ _ hx2 (.inl rfl) hy rfl
          · cases hx
        | ret =>
          simp only [xend] at hx
          split at hx
          · rename_i y hy; cases hx; exact main _ _ _ hx2 (.inr rfl) hy rfl
          · cases hx
        | exit id => simp [xend] at hx
end Go.Abs
namespace Go.Abs
open Go Go.RowKit
set_option linter.unusedVariables false
theorem ACalls.memoFV {P : Program} {f : FuncId} {ks : List AV} {x y : AV} {H1 : AH} (n : Nat) (hks : ks.all flatC = true) (h : ACalls P f ks AH.empty fun x' H' => x' = x ∧ H' = H1) (hf : frzV n H1 x = some y) {m : Nat} {args : List AV} {H : AH} (hk : frzs (frzV m H) args = some ks) :
    ACalls P f args H fun y' H' => y' = y ∧ H' = H := by
  intro K G vs w hr hv
  have hv' : VRs (allG w) ks vs.toList := frzs_VRs hr (fun b o v _ hc ho => allG_cell hc ho) (fun b o v hM => allG_cell (hr.mem b o v hM) (hr.ones b o v hM)) m hk hv
  exact ACalls.memoV n hks h hf H K G vs w hr (flats_ok hks hv')
noncomputable def allAV (c : ICall) (f : FuncId) (L : List (List AV × AV)) : Bool := List.rec (motive := fun _ => Bool) true (fun e _ ih => Bool.rec (motive := fun _ => Bool) false (Bool.rec (motive := fun _ => Bool) false ih (e.1.all flatC)) (answersV (c f e.1 AH.empty) e.2)) L
theorem allAV_ok {c : ICall} {f : FuncId} : ∀ {L : List (List AV × AV)}, allAV c f L = true → ∀ e ∈ L, answersV (c f e.1 AH.empty) e.2 = true ∧ e.1.all flatC = true
  | [], _, e, he => by cases he
  | a :: L, h, e, he => by
    replace h : Bool.rec (motive := fun _ => Bool) false (Bool.rec (motive := fun _ => Bool) false (allAV c f L) (a.1.all flatC)) (answersV (c f a.1 AH.empty) a.2) = true := h
    cases ha : answersV (c f a.1 AH.empty) a.2 with
    | false => rw [ha] at h; cases h
    | true =>
      rw [ha] at h
      replace h : Bool.rec (motive := fun _ => Bool) false (allAV c f L) (a.1.all flatC) = true := h
      cases hb : a.1.all flatC with
      | false => rw [hb] at h; cases h
      | true =>
        rw [hb] at h
        rcases List.mem_cons.1 he with rfl | he
        · exact ⟨ha, hb⟩
        · exact allAV_ok h e he
theorem memoSV_of {P : Program} {sp : Sps} {hs : HL} {l : List (Nat × MZ)} {F n : Nat} (hl : ∀ e ∈ l, EZS sp e.1 e.2) (hok : CallOK P (arunS sp (hooksOf hs) F n)) {f : FuncId} {L : List (List AV × AV)} (h : allAV (tabU (hkT hs) (mkT l) F n) f L = true) : AllE P f L := by
  intro e he m args H hk
  rw [tabU_eq] at h
  obtain ⟨h1, h2⟩ := allAV_ok h e he
  obtain ⟨x, H1, h3, h4⟩ := answersV_ok h1
  exact ACalls.memoFV 100 h2 (hok _ _ _ _ _ (tabS_le hl n _ _ _ _ h3)).2 h4 hk
theorem ezs_all {P : Program} {g : FuncId} {mg mk : MZ} {good : FuncId → Bool} {l : List (Nat × MZ)} (h : AllZ P l) (hg : ∀ e ∈ l, (good e.1 && !(Nat.beq e.1 g)) = true) (hk : EZS (spOf P g mg good) g mk) : ∀ e ∈ (g, mk) :: l, EZS (spOf P g mg good) e.1 e.2 := by
  intro e he
  rcases List.mem_cons.1 he with rfl | he
  · exact hk
  · have h1 := hg e he
    simp only [Bool.and_eq_true, Bool.not_eq_true'] at h1
    exact EZS.of (h.mem he) (fun q => by rw [q, Nat.beq_refl] at h1; exact absurd h1.2 (by simp)) h1.1
end Go.Abs
namespace Go.Abs
open Go Go.RowKit
set_option linter.unusedVariables false
set_option linter.unusedSimpArgs false
attribute [local congr] on_congr br_congr onf_congr
def yA : YC := .ta (.seq (.dops 14 [⟨0, (sd 38), s0, .pure (.ev (sv 1))⟩, ⟨1, (sd 39), s0, .pure (.nilck (sv 38))⟩, ⟨2, (sd 40), s0, .pure (.faddr 10 (sv 39))⟩, ⟨3, (sd 41), s0, .load none (sv 40)⟩, ⟨4, (sd 42), s0, .pure (.nilck (sv 41))⟩, ⟨5, (sd 43), s0, .pure (.faddr 8 (sv 42))⟩, ⟨6, (sd 44), s0, .load none (sv 43)⟩, ⟨7, (sd 45), s0, .load (some 4) (sv 4)⟩, ⟨8, (sd 46), s0, .pure (.len false (sv 44))⟩, ⟨9, (sd 47), s0, .alloc (.bslice 4 1 [(.int .i64 0), (.int .i64 0), (.str []), .nils] [(0, 4, (sc (.agg [(.int .i64 0), (.int .i64 0), (.str []), .nils])))])⟩, ⟨10, (sd 48), s0, .k2 (.op (.app 4 56 (sv 44) (sv 47))) []⟩, ⟨11, (sd 49), s0, .pure (.nilck (sv 41))⟩, ⟨12, (sd 50), s0, .pure (.faddr 8 (sv 49))⟩, ⟨13, sn, s0, .k2 (.op (.store 1 (sv 50) (sv 48))) []⟩])
  (.ops [⟨(sd 51), s0, .op (.iaddr 4 (sv 48) (sv 46))⟩, ⟨sn, s0, .op (.store 4 (sv 51) (sv 45))⟩])) [0]
def yB : YC := .ta (.dops 17 [⟨0, (sd 52), s0, .pure (.ev (sv 1))⟩, ⟨1, (sd 53), s0, .pure (.nilck (sv 52))⟩, ⟨2, (sd 54), s0, .pure (.faddr 10 (sv 53))⟩, ⟨3, (sd 55), s0, .load none (sv 54)⟩, ⟨4, (sd 56), s0, .pure (.ev (sv 1))⟩, ⟨5, (sd 57), s0, .pure (.nilck (sv 56))⟩, ⟨6, (sd 58), s0, .pure (.faddr 10 (sv 57))⟩, ⟨7, (sd 59), s0, .load none (sv 58)⟩, ⟨8, (sd 60), s0, .pure (.nilck (sv 59))⟩, ⟨9, (sd 61), s0, .pure (.faddr 8 (sv 60))⟩, ⟨10, (sd 62), s0, .load none (sv 61)⟩, ⟨11, (sd 63), s0, .load (some 4) (sv 4)⟩, ⟨12, (sd 64), s0, .alloc (.bslice 4 1 [(.int .i64 0), (.int .i64 0), (.str []), .nils] [(0, 4, (sv 63))])⟩, ⟨13, (sd 65), s0, .k2 (.op (.app 4 56 (sv 62) (sv 64))) [3]⟩, ⟨14, (sd 66), s0, .pure (.nilck (sv 55))⟩, ⟨15, (sd 67), s0, .pure (.faddr 8 (sv 66))⟩, ⟨16, sn, s0, .k2 (.op (.store 1 (sv 67) (sv 65))) []⟩]) [0]
/-- What is known where the answer is put to the others. -/
structure ColF (H : AH) (gx ex ix gt et it gf ef jf : Nat) (cx ct cf : List AV) (L c0 c1 c2 c3 : AV) : Prop where
  hx : ∃ z, H.gs.get gx = some ⟨ex, z, cx⟩
  fx : cx[ix + 10]? = some (.ptr gf ef jf)
  ht : ∃ z, H.gs.get gt = some ⟨et, z, ct⟩
  lt : it + 4 ≤ ct.length
  tt : (ct.drop it).take 4 = [c0, c1, c2, c3]
  t1 : [c0, c1, c2, c3].all AV.one = true
  hf : H.gs.get gf = some ⟨ef, 0, cf⟩
  fl : cf[jf + 8]? = some L
  n0 : H.gs.get H.next = none
  n1 : H.gs.get (H.next + 16) = none
/-- The end: the groups that are made, and the two that are changed. -/
def colW (H : AH) (gl : Nat) (rl : Grp) (gf : Nat) (rf : Grp) (nx : Nat) : AH := (((H.put H.next ⟨0, 0, []⟩ 0).put (H.next + 16) ⟨0, 0, []⟩ 0).put gl rl 0).put gf rf nx
/-- What both have at their start. -/
def colH (H : AH) (n : Nat) : AH := ⟨H.next + n, H.gs.set H.next ⟨0, 0, []⟩, H.ms⟩
theorem less_of {H H' : AH} (hm : H'.ms = H.ms) (hg : ∀ g, H'.gs.get g = H.gs.get g ∨ ∃ r, H.gs.get g = some r ∧ H'.gs.get g = some ⟨r.e, r.fz, []⟩) : LessH H H' := by
  refine ⟨fun g h => ?_, fun g r h => ?_, fun g => by rw [hm]⟩
  · rcases hg g with q | ⟨r, q, _⟩
    · rw [q]; exact h
    · rw [h] at q; cases q
  · rcases hg g with q | ⟨r', q, k⟩
    · exact ⟨r, by rw [q]; exact h, rfl, rfl, fun i x hi => hi⟩
    · rw [h] at q; cases q; exact ⟨_, k, rfl, rfl, fun i x hi => by simp at hi⟩
def Ends (r : XR) (T : Tr AV) (R : AH) : Prop := ∃ H', r = some (.normal, T, H') ∧ LessH H' R
theorem Ends.congr' {r r' : XR} {T : Tr AV} {R : AH} (h : r = r') : Ends r T R = Ends r' T R := by rw [h]
attribute [local congr] Ends.congr'
section
variable {call : ICall} {F : Nat} {H : AH} {gx ex ix gt et it gf ef jf : Nat} {cx ct cf : List AV} {L c0 c1 c2 c3 y0 : AV}
theorem ColF.ne (h : ColF H gx ex ix gt et it gf ef jf cx ct cf L c0 c1 c2 c3) : gx ≠ H.next ∧ gx ≠ H.next + 16 ∧ gt ≠ H.next ∧ gt ≠ H.next + 16 ∧ gf ≠ H.next ∧ gf ≠ H.next + 16 := by
  obtain ⟨z, hx⟩ := h.hx; obtain ⟨z', ht⟩ := h.ht
  have h0 := h.n0; have h1 := h.n1; have hf := h.hf
  refine ⟨?_, ?_, ?_, ?_, ?_, ?_⟩ <;> (intro e; subst_vars; simp_all)
theorem colA_nil (h : ColF H gx ex ix gt et it gf ef jf cx ct cf .nils c0 c1 c2 c3) (hn : H.gs.get (H.next + 21) = none) :
    Ends (ycode call F yA (mk [(0, y0), (1, .ptr gx ex ix), (4, .ptr gt et it)]) (colH H 7)) (mk [(0, y0)]) (colW H (H.next + 21) ⟨0, 0, [c0, c1, c2, c3]⟩ gf ⟨ef, 0, cf.take (jf + 8) ++ [.slc (H.next + 21) 0 0 1 4] ++ cf.drop (jf + 9)⟩ (H.next + 22)) := by
  obtain ⟨e1, e2, e3, e4, e5, e6⟩ := h.ne
  obtain ⟨⟨z, hx⟩, fx, ⟨z', ht⟩, lt, tt, t1, hf, fl, n0, n1⟩ := h
  have e7 : gx ≠ H.next + 21 := by rintro rfl; rw [hn] at hx; cases hx
  have e8 : gf ≠ H.next + 21 := by rintro rfl; rw [hn] at hf; cases hf
  have l1 : jf + 9 ≤ cf.length := by rcases Nat.lt_or_ge (jf + 8) cf.length with q | q; exact q; rw [List.getElem?_eq_none q] at fl; cases fl
  obtain ⟨nx, gs, ms⟩ := H
  simp only at *
  unfold colH
  simp (maxSteps := 1000000) (disch := omega) only [yA, y_ta, y_seq, y_dops, Nat.add_assoc, Nat.reduceAdd, d_cons, e_pure, i_ev, iev_sv, fget_cons, reduceCtorEq, Nat.reduceEqDiff, ite_false, ite_true, on_some, dok_some, xput_sd, i_nilck, nilck_p, i_faddr, faddr_p, e_load, iload_p, Tr.get_set, e1, hx, fx, e5, hf, fl, iload_ps, e3, ht, lt, and_self, tt, i_len, len_n, e_alloc, i_bslice, iparts_cons, iev_sc, iparts_nil, ifill_cons, ce_agg, List.length_cons, List.length_nil, Nat.zero_add, Nat.le_refl, fi_agg, List.all_cons, on_int, on_str, on_nils, List.all_nil, Bool.and_true, List.take_zero, List.nil_append, List.drop_succ_cons, List.drop_nil, List.append_nil, ifill_nil, newsl_eq, Nat.add_eq_left, Nat.succ_ne_zero, n1, add_mk, e_k2, x_op, i_app, app_nils, lc_slc, Nat.one_mul, List.drop_zero, List.take_succ_cons, List.take_nil, Nat.reduceLeDiff, Nat.add_left_cancel_iff, hn, w_cons, List.elem_nil, Bool.not_false, e4, Bool.true_or, e8, e6, avSame_refl, Bool.or_true, e7, e2, w_nil, chk_t, i_store, istore_p, Nat.zero_le, ce_slc, l1, fi_slc, xput_sn, d_nil, dq_some, sqk_n, y_ops1, i_iaddr, iaddr_s, Int.reduceLE, Int.cast_ofNat_Int, Int.reduceLT, Int.reduceToNat, Nat.zero_mul, Nat.add_zero, opk_some, e8.symm, t1, y_ops0, tak_n, tgets_cons, tgets_nil]
  refine ⟨_, rfl, less_of rfl fun g => ?_⟩
  simp only [colW, AH.put, Tr.get_set]
  by_cases q1 : g = gf
  · subst q1; simp [*]
  · by_cases q2 : g = nx + 21
    · subst q2; simp [*]
    · by_cases q3 : g = nx + 16
      · subst q3; simp [*]
      · simp [*]
theorem colB_nil (h : ColF H gx ex ix gt et it gf ef jf cx ct cf .nils c0 c1 c2 c3) (hn : H.gs.get (H.next + 21) = none) :
    Ends (ycode call F yB (mk [(0, y0), (1, .ptr gx ex ix), (4, .ptr gt et it)]) (colH H 4)) (mk [(0, y0)]) (colW H (H.next + 21) ⟨0, 0, [c0, c1, c2, c3]⟩ gf ⟨ef, 0, cf.take (jf + 8) ++ [.slc (H.next + 21) 0 0 1 4] ++ cf.drop (jf + 9)⟩ (H.next + 22)) := by
  obtain ⟨e1, e2, e3, e4, e5, e6⟩ := h.ne
  obtain ⟨⟨z, hx⟩, fx, ⟨z', ht⟩, lt, tt, t1, hf, fl, n0, n1⟩ := h
  have e7 : gx ≠ H.next + 21 := by rintro rfl; rw [hn] at hx; cases hx
  have e8 : gf ≠ H.next + 21 := by rintro rfl; rw [hn] at hf; cases hf
  have l1 : jf + 9 ≤ cf.length := by rcases Nat.lt_or_ge (jf + 8) cf.length with q | q; exact q; rw [List.getElem?_eq_none q] at fl; cases fl
  obtain ⟨nx, gs, ms⟩ := H
  simp only at *
  unfold colH
  simp (maxSteps := 1000000) (disch := omega) only [yB, y_ta, y_dops, Nat.add_assoc, Nat.reduceAdd, d_cons, e_pure, i_ev, iev_sv, fget_cons, reduceCtorEq, Nat.reduceEqDiff, ite_false, ite_true, on_some, dok_some, xput_sd, i_nilck, nilck_p, i_faddr, faddr_p, e_load, iload_p, Tr.get_set, e1, hx, fx, e5, hf, fl, iload_ps, e3, ht, lt, and_self, tt, e_alloc, i_bslice, iparts_cons, iparts_nil, ifill_cons, ce_agg, List.length_cons, List.length_nil, Nat.zero_add, Nat.le_refl, fi_agg, t1, List.take_zero, List.nil_append, List.drop_succ_cons, List.drop_nil, List.append_nil, ifill_nil, newsl_eq, Nat.add_eq_left, Nat.succ_ne_zero, n1, add_mk, e_k2, x_op, i_app, app_nils, lc_slc, Nat.one_mul, List.drop_zero, List.take_succ_cons, List.take_nil, Nat.reduceLeDiff, Nat.add_left_cancel_iff, hn, w_cons, List.elem_cons, Nat.reduceBEq, List.elem_nil, Bool.not_false, e4, Bool.true_or, e8, e6, avSame_refl, Bool.or_true, e7, e2, Bool.not_true, w_nil, Bool.and_true, chk_t, i_store, istore_p, Nat.zero_le, ce_slc, l1, fi_slc, xput_sn, d_nil, dq_some, tak_n, tgets_cons, tgets_nil]
  refine ⟨_, rfl, less_of rfl fun g => ?_⟩
  simp only [colW, AH.put, Tr.get_set]
  by_cases q1 : g = gf
  · subst q1; simp [*]
  · by_cases q2 : g = nx + 21
    · subst q2; simp [*]
    · by_cases q3 : g = nx + 16
      · subst q3; simp [*]
      · simp [*]
theorem colA_slc {gl el len : Nat} {cl : List AV} (h : ColF H gx ex ix gt et it gf ef jf cx ct cf (.slc gl el 0 len 4) c0 c1 c2 c3) (hn : H.gs.get gl = some ⟨el, 0, cl⟩ ∧ cl.length = len * 4 ∧ len ≤ 1000000 ∧ gl ≠ gx ∧ gl ≠ gf) :
    Ends (ycode call F yA (mk [(0, y0), (1, .ptr gx ex ix), (4, .ptr gt et it)]) (colH H 7)) (mk [(0, y0)]) (colW H gl ⟨el + 1, 0, cl ++ [c0, c1, c2, c3]⟩ gf ⟨ef, 0, cf.take (jf + 8) ++ [.slc gl (el + 1) 0 (len + 1) 4] ++ cf.drop (jf + 9)⟩ (H.next + 21)) := by
  obtain ⟨e1, e2, e3, e4, e5, e6⟩ := h.ne
  obtain ⟨⟨z, hx⟩, fx, ⟨z', ht⟩, lt, tt, t1, hf, fl, n0, n1⟩ := h
  obtain ⟨hl, len4, lle, e7, e8⟩ := hn
  have e9 : gl ≠ H.next := by rintro rfl; rw [hl] at n0; cases n0
  have e10 : gl ≠ H.next + 16 := by rintro rfl; rw [hl] at n1; cases n1
  have e8s := e8.symm
  have b1 : (len + 1) * 56 ≤ 140737488355328 := by omega
  have b2 : len ≤ 9223372036854775806 := by omega
  have b3 : List.take (len * 4) cl = cl := List.take_of_length_le (by omega)
  have b4 : ∀ x : List AV, List.take (len * 4) (cl ++ x) = cl := fun x => by rw [← len4, List.take_left]
  have b5 : ∀ a b c d : AV, List.drop (len * 4 + 4) (cl ++ [a, b, c, d]) = [] := fun a b c d => List.drop_of_length_le (by simp; omega)
  have b6 : (0 : Int) ≤ (len : Int) := by omega
  have b7 : (len : Int) < (len : Int) + 1 := by omega
  have b8 : ∀ a b c d : AV, len * 4 + 4 ≤ (cl ++ [a, b, c, d]).length := fun a b c d => by simp; omega
  have l1 : jf + 9 ≤ cf.length := by rcases Nat.lt_or_ge (jf + 8) cf.length with q | q; exact q; rw [List.getElem?_eq_none q] at fl; cases fl
  obtain ⟨nx, gs, ms⟩ := H
  simp only at *
  unfold colH
  simp (maxSteps := 1000000) (disch := omega) only [yA, y_ta, y_seq, y_dops, Nat.add_assoc, Nat.reduceAdd, d_cons, e_pure, i_ev, iev_sv, fget_cons, reduceCtorEq, Nat.reduceEqDiff, ite_false, ite_true, on_some, dok_some, xput_sd, i_nilck, nilck_p, i_faddr, faddr_p, e_load, iload_p, Tr.get_set, e1, hx, fx, e5, hf, fl, iload_ps, e3, ht, lt, and_self, tt, i_len, len_l, e_alloc, i_bslice, iparts_cons, iev_sc, iparts_nil, ifill_cons, ce_agg, List.length_cons, List.length_nil, Nat.zero_add, Nat.le_refl, fi_agg, List.all_cons, on_int, on_str, on_nils, List.all_nil, Bool.and_true, List.take_zero, List.nil_append, List.drop_succ_cons, List.drop_nil, List.append_nil, ifill_nil, newsl_eq, Nat.add_eq_left, Nat.succ_ne_zero, n1, add_mk, e_k2, x_op, i_app, app_slc, lc_slc, Nat.one_mul, List.drop_zero, List.take_succ_cons, List.take_nil, e10, e9, hl, Nat.zero_le, len4, b1, Nat.reduceLeDiff, b2, Nat.reduceSub, b3, w_cons, List.elem_nil, Bool.not_false, e4, Bool.true_or, e8.symm, e6, avSame_refl, Bool.or_true, e7.symm, e2, w_nil, chk_t, i_store, istore_p, ce_slc, l1, fi_slc, xput_sn, d_nil, dq_some, sqk_n, y_ops1, i_iaddr, iaddr_s, b6, Int.natCast_add, Int.cast_ofNat_Int, b7, Int.toNat_natCast, opk_some, e8, List.length_append, t1, b4, b5, y_ops0, tak_n, tgets_cons, tgets_nil]
  refine ⟨_, rfl, less_of rfl fun g => ?_⟩
  simp only [colW, AH.put, Tr.get_set]
  by_cases q1 : g = gf
  · subst q1; simp [*]
  · by_cases q2 : g = gl
    · subst q2; simp [*]
    · by_cases q3 : g = nx + 16
      · subst q3; simp [*]
      · simp [*]
theorem colB_slc {gl el len : Nat} {cl : List AV} (h : ColF H gx ex ix gt et it gf ef jf cx ct cf (.slc gl el 0 len 4) c0 c1 c2 c3) (hn : H.gs.get gl = some ⟨el, 0, cl⟩ ∧ cl.length = len * 4 ∧ len ≤ 1000000 ∧ gl ≠ gx ∧ gl ≠ gf) :
    Ends (ycode call F yB (mk [(0, y0), (1, .ptr gx ex ix), (4, .ptr gt et it)]) (colH H 4)) (mk [(0, y0)]) (colW H gl ⟨el + 1, 0, cl ++ [c0, c1, c2, c3]⟩ gf ⟨ef, 0, cf.take (jf + 8) ++ [.slc gl (el + 1) 0 (len + 1) 4] ++ cf.drop (jf + 9)⟩ (H.next + 21)) := by
  obtain ⟨e1, e2, e3, e4, e5, e6⟩ := h.ne
  obtain ⟨⟨z, hx⟩, fx, ⟨z', ht⟩, lt, tt, t1, hf, fl, n0, n1⟩ := h
  obtain ⟨hl, len4, lle, e7, e8⟩ := hn
  have e9 : gl ≠ H.next := by rintro rfl; rw [hl] at n0; cases n0
  have e10 : gl ≠ H.next + 16 := by rintro rfl; rw [hl] at n1; cases n1
  have e8s := e8.symm
  have b1 : (len + 1) * 56 ≤ 140737488355328 := by omega
  have b2 : len ≤ 9223372036854775806 := by omega
  have b3 : List.take (len * 4) cl = cl := List.take_of_length_le (by omega)
  have b4 : ∀ x : List AV, List.take (len * 4) (cl ++ x) = cl := fun x => by rw [← len4, List.take_left]
  have b5 : ∀ a b c d : AV, List.drop (len * 4 + 4) (cl ++ [a, b, c, d]) = [] := fun a b c d => List.drop_of_length_le (by simp; omega)
  have b6 : (0 : Int) ≤ (len : Int) := by omega
  have b7 : (len : Int) < (len : Int) + 1 := by omega
  have b8 : ∀ a b c d : AV, len * 4 + 4 ≤ (cl ++ [a, b, c, d]).length := fun a b c d => by simp; omega
  have l1 : jf + 9 ≤ cf.length := by rcases Nat.lt_or_ge (jf + 8) cf.length with q | q; exact q; rw [List.getElem?_eq_none q] at fl; cases fl
  obtain ⟨nx, gs, ms⟩ := H
  simp only at *
  unfold colH
  simp (maxSteps := 1000000) (disch := omega) only [yB, y_ta, y_dops, Nat.add_assoc, Nat.reduceAdd, d_cons, e_pure, i_ev, iev_sv, fget_cons, reduceCtorEq, Nat.reduceEqDiff, ite_false, ite_true, on_some, dok_some, xput_sd, i_nilck, nilck_p, i_faddr, faddr_p, e_load, iload_p, Tr.get_set, e1, hx, fx, e5, hf, fl, iload_ps, e3, ht, lt, and_self, tt, e_alloc, i_bslice, iparts_cons, iparts_nil, ifill_cons, ce_agg, List.length_cons, List.length_nil, Nat.zero_add, Nat.le_refl, fi_agg, t1, List.take_zero, List.nil_append, List.drop_succ_cons, List.drop_nil, List.append_nil, ifill_nil, newsl_eq, Nat.add_eq_left, Nat.succ_ne_zero, n1, add_mk, e_k2, x_op, i_app, app_slc, lc_slc, Nat.one_mul, List.drop_zero, List.take_succ_cons, List.take_nil, e10, e9, hl, Nat.zero_le, len4, b1, Nat.reduceLeDiff, b2, Nat.reduceSub, b3, w_cons, List.elem_cons, Nat.reduceBEq, List.elem_nil, Bool.not_false, e4, Bool.true_or, e8.symm, e6, avSame_refl, Bool.or_true, e7.symm, e2, Bool.not_true, w_nil, Bool.and_true, chk_t, i_store, istore_p, ce_slc, l1, fi_slc, xput_sn, d_nil, dq_some, tak_n, tgets_cons, tgets_nil]
  refine ⟨_, rfl, less_of rfl fun g => ?_⟩
  simp only [colW, AH.put, Tr.get_set]
  by_cases q1 : g = gf
  · subst q1; simp [*]
  · by_cases q2 : g = gl
    · subst q2; simp [*]
    · by_cases q3 : g = nx + 16
      · subst q3; simp [*]
      · simp [*]
end
end Go.Abs
namespace Go.Abs
open Go Go.RowKit
set_option linter.unusedVariables false
set_option linter.unusedSimpArgs false
def fr (H : AH) (n : Nat) : Bool := match H.gs.get n with | none => true | some _ => false
theorem fr_iff {H : AH} {n : Nat} : fr H n = true ↔ H.gs.get n = none := by
  unfold fr; cases H.gs.get n <;> simp
def collL (gx gt gf ef jf : Nat) (cf : List AV) (c0 c1 c2 c3 : AV) (H : AH) : Option AH :=
  match cf[jf + 8]? with
  | some .nils => bif fr H (H.next + 21) then some (colW H (H.next + 21) ⟨0, 0, [c0, c1, c2, c3]⟩ gf ⟨ef, 0, cf.take (jf + 8) ++ [.slc (H.next + 21) 0 0 1 4] ++ cf.drop (jf + 9)⟩ (H.next + 22)) else none
  | some (.slc gl el il len z) => match H.gs.get gl with
    | some rl => bif Nat.beq rl.e el && Nat.beq rl.fz 0 && Nat.beq il 0 && Nat.beq z 4 && Nat.beq rl.cells.length (len * 4) && Nat.ble len 1000000 && !Nat.beq gl gx && !Nat.beq gl gf then
        some (colW H gl ⟨el + 1, 0, rl.cells ++ [c0, c1, c2, c3]⟩ gf ⟨ef, 0, cf.take (jf + 8) ++ [.slc gl (el + 1) 0 (len + 1) 4] ++ cf.drop (jf + 9)⟩ (H.next + 21)) else none
    | none => none
  | _ => none
def collF (gx gt it ef ef' jf gf : Nat) (rt : Grp) (rf : Grp) (et : Nat) (H : AH) : Option AH :=
  match (rt.cells.drop it).take 4 with
  | [c0, c1, c2, c3] =>
    bif Nat.beq rt.e et && Nat.beq rf.e ef && Nat.beq rf.fz 0 && Nat.ble (it + 4) rt.cells.length && [c0, c1, c2, c3].all AV.one && fr H H.next && fr H (H.next + 16) then
      collL gx gt gf ef jf rf.cells c0 c1 c2 c3 H else none
  | _ => none
def collD (x t : AV) (H : AH) : Option AH :=
  match x with
  | .ptr gx ex ix => match t with
    | .ptr gt et it => match H.gs.get gx with
      | some rx => match H.gs.get gt with
        | some rt => match rx.cells[ix + 10]? with
          | some (.ptr gf ef jf) => match H.gs.get gf with
            | some rf => bif Nat.beq rx.e ex then collF gx gt it ef ef jf gf rt rf et H else none
            | none => none
          | _ => none
        | none => none
      | none => none
    | _ => none
  | _ => none
theorem nbeq {a b : Nat} (h : Nat.beq a b = true) : a = b := Nat.eq_of_beq_eq_true h
theorem nbne {a b : Nat} (h : (!Nat.beq a b) = true) : a ≠ b := by rintro rfl; rw [Nat.beq_refl] at h; cases h
theorem bif_some {α : Type} {b : Bool} {x : Option α} {y : α} (h : (bif b then x else none) = some y) : b = true ∧ x = some y := by
  cases b
  · cases h
  · exact ⟨rfl, h⟩
/-- What both ways come to. -/
structure ColB (x t : AV) (H R : AH) : Prop where
  way : ∀ call F y0, Ends (ycode call F yA (mk [(0, y0), (1, x), (4, t)]) (colH H 7)) (mk [(0, y0)]) R ∧ Ends (ycode call F yB (mk [(0, y0), (1, x), (4, t)]) (colH H 4)) (mk [(0, y0)]) R
  n0 : H.gs.get H.next = none
  grow : Grows H R
  ext : ∀ Q H2, Ext Q H H2 → Apart Q R → ∃ R2, collD x t H2 = some R2 ∧ Ext Q R R2
theorem colW_grows (H : AH) (gl : Nat) (rl : Grp) (gf : Nat) (rf : Grp) (nx : Nat) : Grows H (colW H gl rl gf rf nx) :=
  (((Grows.put H _ _ 0).trans (Grows.put _ _ _ 0)).trans (Grows.put _ _ _ 0)).trans (Grows.put _ _ _ nx)
theorem colW_not {Q : Nat → Option Grp} {H : AH} {gl : Nat} {rl : Grp} {gf : Nat} {rf : Grp} {nx : Nat} (ha : Apart Q (colW H gl rl gf rf nx)) : Q H.next = none ∧ Q (H.next + 16) = none ∧ Q gl = none ∧ Q gf = none := by
  have a4 : Q gf = none := ha.not
  have b3 := ha.back (Grows.put _ gf rf nx)
  have a3 : Q gl = none := b3.not
  have b2 := b3.back (Grows.put _ gl rl 0)
  have a2 : Q (H.next + 16) = none := b2.not
  have b1 := b2.back (Grows.put _ (H.next + 16) ⟨0, 0, []⟩ 0)
  exact ⟨b1.not, a2, a3, a4⟩
theorem colW_ext {Q : Nat → Option Grp} {H H2 : AH} {gl : Nat} {rl : Grp} {gf : Nat} {rf : Grp} {nx : Nat} (he : Ext Q H H2) (ha : Apart Q (colW H gl rl gf rf nx)) : Ext Q (colW H gl rl gf rf nx) (colW H2 gl rl gf rf nx) := by
  obtain ⟨a1, a2, a3, a4⟩ := colW_not ha
  unfold colW
  rw [he.next]
  exact (((he.put a1).put a2).put a3).put a4
theorem Ext.frN {Q : Nat → Option Grp} {H H2 : AH} (he : Ext Q H H2) {n : Nat} (hQ : Q n = none) (h : fr H n = true) : fr H2 n = true := by
  rw [fr_iff] at h ⊢
  rw [he.gs, hQ]; exact h
theorem collL_ok {H R : AH} {gx ex ix gt et it gf ef jf : Nat} {cx ct cf : List AV} {c0 c1 c2 c3 : AV} {L : AV} (hF : ColF H gx ex ix gt et it gf ef jf cx ct cf L c0 c1 c2 c3) (h : collL gx gt gf ef jf cf c0 c1 c2 c3 H = some R) :
    (∀ call F y0, Ends (ycode call F yA (mk [(0, y0), (1, .ptr gx ex ix), (4, .ptr gt et it)]) (colH H 7)) (mk [(0, y0)]) R ∧ Ends (ycode call F yB (mk [(0, y0), (1, .ptr gx ex ix), (4, .ptr gt et it)]) (colH H 4)) (mk [(0, y0)]) R) ∧
    Grows H R ∧ (∀ Q, Apart Q R → Q H.next = none ∧ Q (H.next + 16) = none) ∧ ∀ Q H2, Ext Q H H2 → Apart Q R → ∃ R2, collL gx gt gf ef jf cf c0 c1 c2 c3 H2 = some R2 ∧ Ext Q R R2 := by
  have hfl := hF.fl
  unfold collL at h ⊢
  rw [hfl] at h ⊢
  split at h
  · rename_i e
    cases e
    obtain ⟨h1, h2⟩ := bif_some h
    cases h2
    have hn := fr_iff.1 h1
    refine ⟨fun call F y0 => ⟨colA_nil hF hn, colB_nil hF hn⟩, colW_grows _ _ _ _ _ _, fun Q ha => ⟨(colW_not ha).1, (colW_not ha).2.1⟩, fun Q H2 he ha => ⟨_, ?_, colW_ext he ha⟩⟩
    have := he.frN (colW_not ha).2.2.1 h1
    show (bif fr H2 (H2.next + 21) then _ else none) = _
    rw [he.next, this]
    rfl
  · rename_i gl el il len z e
    cases e
    split at h
    · rename_i rl hl
      obtain ⟨h1, h2⟩ := bif_some h
      cases h2
      have h1' := h1
      simp only [Bool.and_eq_true] at h1'
      obtain ⟨⟨⟨⟨⟨⟨⟨k1, k2⟩, k3⟩, k4⟩, k5⟩, k6⟩, k7⟩, k8⟩ := h1'
      obtain ⟨re, rz, rc⟩ := rl
      simp only at k1 k2 k5
      obtain rfl := nbeq k1; obtain rfl := nbeq k2; obtain rfl := nbeq k3; obtain rfl := nbeq k4
      have hn : H.gs.get gl = some ⟨re, 0, rc⟩ ∧ rc.length = len * 4 ∧ len ≤ 1000000 ∧ gl ≠ gx ∧ gl ≠ gf := ⟨hl, nbeq k5, Nat.le_of_ble_eq_true k6, nbne k7, nbne k8⟩
      refine ⟨fun call F y0 => ⟨colA_slc hF hn, colB_slc hF hn⟩, colW_grows _ _ _ _ _ _, fun Q ha => ⟨(colW_not ha).1, (colW_not ha).2.1⟩, fun Q H2 he ha => ⟨_, ?_, colW_ext he ha⟩⟩
      have := he.get (ha.back (colW_grows _ _ _ _ _ _)) hl
      simp only [this, h1, he.next]
      rfl
    · cases h
  · cases h
theorem collD_ok {x t : AV} {H R : AH} (h : collD x t H = some R) : ColB x t H R := by
  have h0 := h
  unfold collD at h
  split at h
  · rename_i gx ex ix
    split at h
    · rename_i gt et it
      split at h
      · rename_i rx hx
        split at h
        · rename_i rt ht
          split at h
          · rename_i gf ef jf hfx
            split at h
            · rename_i rf hf
              obtain ⟨h1, h2⟩ := bif_some h
              unfold collF at h2
              split at h2
              · rename_i c0 c1 c2 c3 htt
                obtain ⟨h3, h4⟩ := bif_some h2
                have h3' := h3
                simp only [Bool.and_eq_true] at h3'
                obtain ⟨⟨⟨⟨⟨⟨k1, k2⟩, k3⟩, k4⟩, k5⟩, k6⟩, k7⟩ := h3'
                obtain ⟨re, rz, rc⟩ := rf
                obtain ⟨xe, xz, xc⟩ := rx
                obtain ⟨te, tz, tc⟩ := rt
                simp only at h1 k1 k2 k3 k4 htt hfx h4
                obtain rfl := nbeq h1; obtain rfl := nbeq k1; obtain rfl := nbeq k2; obtain rfl := nbeq k3
                have hL : ∃ L, rc[jf + 8]? = some L := by
                  cases hL : rc[jf + 8]? with
                  | some L => exact ⟨L, rfl⟩
                  | none => unfold collL at h4; rw [hL] at h4; cases h4
                obtain ⟨L, hL⟩ := hL
                have hF : ColF H gx xe ix gt te it gf re jf xc tc rc L c0 c1 c2 c3 := ⟨⟨_, hx⟩, hfx, ⟨_, ht⟩, Nat.le_of_ble_eq_true k4, htt, k5, hf, hL, fr_iff.1 k6, fr_iff.1 k7⟩
                obtain ⟨q1, q2, q3, q4⟩ := collL_ok hF h4
                refine ⟨q1, fr_iff.1 k6, q2, fun Q H2 he ha => ?_⟩
                obtain ⟨R2, r1, r2⟩ := q4 Q H2 he ha
                refine ⟨R2, ?_, r2⟩
                have hb := ha.back q2
                have g1 := he.get hb hx; have g2 := he.get hb ht; have g3 := he.get hb hf
                have f1 := he.frN (q3 Q ha).1 k6; have f2 := he.frN (q3 Q ha).2 k7
                unfold collD collF
                simp only [g1, g2, g3, hfx, Nat.beq_refl, cond_true, htt, k4, k5, he.next, f1, f2, Bool.and_true, Bool.and_self]
                exact r1
              · cases h2
            · cases h
          · cases h
        · cases h
      · cases h
    · cases h
  · cases h
/-- The piece of the body that keeps the answer. -/
noncomputable def colM (T : Tr AV) (H : AH) : XR := match T.get 0 with
  | some y0 => match T.get 1 with
    | some x => match T.get 4 with
      | some t => match collD x t H with
        | some H' => some (.normal, mk [(0, y0)], H')
        | none => none
      | none => none
    | none => none
  | none => none
theorem colM_ok {T : Tr AV} {H : AH} {e : IEx} {T' : Tr AV} {H' : AH} (h : colM T H = some (e, T', H')) : e = .normal ∧ ∃ y0 x t, T.get 0 = some y0 ∧ T.get 1 = some x ∧ T.get 4 = some t ∧ T' = mk [(0, y0)] ∧ collD x t H = some H' := by
  unfold colM at h
  split at h
  · rename_i y0 h0
    split at h
    · rename_i x hx
      split at h
      · rename_i t ht
        split at h
        · rename_i R hR
          cases h
          exact ⟨rfl, y0, x, t, h0, hx, ht, rfl, hR⟩
        · cases h
      · cases h
    · cases h
  · cases h
theorem colM_frame {T : Tr AV} {H : AH} {e : IEx} {T' : Tr AV} {H' : AH} (h : colM T H = some (e, T', H')) : Grows H H' ∧ ∀ R H2, Ext R H H2 → Apart R H' → ∃ H2', colM T H2 = some (e, T', H2') ∧ Ext R H' H2' := by
  obtain ⟨rfl, y0, x, t, h0, hx, ht, rfl, hR⟩ := colM_ok h
  have hB := collD_ok hR
  refine ⟨hB.grow, fun R H2 he ha => ?_⟩
  obtain ⟨R2, r1, r2⟩ := hB.ext R H2 he ha
  exact ⟨R2, by unfold colM; simp only [h0, hx, ht, r1], r2⟩
end Go.Abs
namespace Go.Proofs.YtfbhoomfhjlbiaaGreatDoor
open Go Go.Abs Go.RowKit
set_option linter.unusedVariables false
set_option linter.unusedSimpArgs false
def cl1 : Code → Code
  | .seq a _ => a
  | c => c
def cl2 : Code → Code
  | .seq _ b => b
  | c => c
def clT : Code → Code
  | .cond _ a _ => a
  | c => c
def clF : Code → Code
  | .cond _ _ b => b
  | c => c
noncomputable def colB : Code := (Tryz.f97.body).getD .skip
noncomputable def colA : Code := cl1 colB
noncomputable def colE1 : Code := cl1 (cl2 colB)
noncomputable def colC : Code := cl1 (cl2 (cl2 colB))
noncomputable def colDR : Code := cl1 (cl1 (cl2 (cl2 (cl2 colB))))
noncomputable def colX : Code := clT (cl2 (cl1 (cl2 (cl2 (cl2 colB)))))
noncomputable def colY : Code := clF (cl2 (cl1 (cl2 (cl2 (cl2 colB)))))
noncomputable def colZ : Code := cl2 (cl2 (cl2 (cl2 colB)))
theorem colB_eq : colB = .seq colA (.seq colE1 (.seq colC (.seq (.seq colDR (.cond (.tmp 37) colX colY)) colZ))) := by rfl
theorem col_body : Tryz.f97.body = some colB := by rfl
noncomputable def colOps : Array Oper := match colDR with
  | .region _ ops _ => ops
  | _ => #[]
theorem colD_eq : colDR = .region 4 colOps true := by rfl
def io0 : IOper := ⟨some (Tr.path 36), none, .op (.new (.c (.bool false)))⟩
def io1 : IOper := ⟨none, none, .op (.store 1 (.t (Tr.path 36)) (.c (.bool true)))⟩
def io2 : IOper := ⟨none, none, .op (.store 1 (.t (Tr.path 36)) (.c (.bool false)))⟩
def io3 : IOper := ⟨some (Tr.path 37), none, .op (.load none (.t (Tr.path 36)))⟩
theorem io0_ok : ∃ o, colOps[0]? = some o ∧ cOper Tryz.prog 70 colOps o = some io0 ∧ o.guard = none := ⟨_, rfl, by kernel_rfl, rfl⟩
theorem io1_ok : ∃ o, colOps[1]? = some o ∧ cOper Tryz.prog 70 colOps o = some io1 ∧ o.guard = none := ⟨_, rfl, by kernel_rfl, rfl⟩
theorem io2_ok : ∃ o, colOps[2]? = some o ∧ cOper Tryz.prog 70 colOps o = some io2 ∧ o.guard = none := ⟨_, rfl, by kernel_rfl, rfl⟩
theorem io3_ok : ∃ o, colOps[3]? = some o ∧ cOper Tryz.prog 70 colOps o = some io3 ∧ o.guard = none := ⟨_, rfl, by kernel_rfl, rfl⟩
theorem wanted_none {ops : Array Oper} {T : Tr AV} {o : Oper} (h : o.guard = none) : wantedA ops T o = some true := by unfold wantedA; rw [h]
theorem rd0 : Region.ready .any colOps (Array.replicate colOps.size false) = [0] := by kernel_rfl
theorem rd1 : Region.ready .any colOps ((Array.replicate colOps.size false).setIfInBounds 0 true) = [1, 2] := by kernel_rfl
theorem rd2 : Region.ready .any colOps (((Array.replicate colOps.size false).setIfInBounds 0 true).setIfInBounds 1 true) = [2] := by kernel_rfl
theorem rd2' : Region.ready .any colOps (((Array.replicate colOps.size false).setIfInBounds 0 true).setIfInBounds 2 true) = [1] := by kernel_rfl
theorem rd3 : Region.ready .any colOps ((((Array.replicate colOps.size false).setIfInBounds 0 true).setIfInBounds 1 true).setIfInBounds 2 true) = [3] := by kernel_rfl
theorem rd3' : Region.ready .any colOps ((((Array.replicate colOps.size false).setIfInBounds 0 true).setIfInBounds 2 true).setIfInBounds 1 true) = [3] := by kernel_rfl
theorem rd4 : Region.ready .any colOps (((((Array.replicate colOps.size false).setIfInBounds 0 true).setIfInBounds 1 true).setIfInBounds 2 true).setIfInBounds 3 true) = [] := by kernel_rfl
theorem rd4' : Region.ready .any colOps (((((Array.replicate colOps.size false).setIfInBounds 0 true).setIfInBounds 2 true).setIfInBounds 1 true).setIfInBounds 3 true) = [] := by kernel_rfl
theorem colA_d : codeD Tryz.prog 70 colA = true := by kernel_rfl
theorem colE1_d : codeD Tryz.prog 70 colE1 = true := by kernel_rfl
theorem colC_d : codeD Tryz.prog 70 colC = true := by kernel_rfl
theorem colX_d : codeD Tryz.prog 70 colX = true := by kernel_rfl
theorem colY_d : codeD Tryz.prog 70 colY = true := by kernel_rfl
theorem colZ_d : codeD Tryz.prog 70 colZ = true := by kernel_rfl
theorem colX_c : cCode Tryz.prog 70 colX = erase yA := by kernel_rfl
theorem colY_c : cCode Tryz.prog 70 colY = erase yB := by kernel_rfl
theorem mixedC : Tryz.prog.follows .mixedOrders = true := by decide +kernel
def hb (H : AH) (b : Bool) : AH := ⟨H.next + 1, H.gs.set H.next ⟨0, 0, [.bool b]⟩, H.ms⟩
def t36 (T : Tr AV) (H : AH) : Tr AV := xput T (some (Tr.path 36)) (.ptr H.next 0 0)
theorem x_io0 {call : ICall} {T : Tr AV} {H : AH} (h : H.gs.get H.next = none) : xop call T H io0.op = some (.ptr H.next 0 0, hb H false) := by
  show iop T (.new (.c (.bool false))) H = _
  rw [i_new]
  show abox H (.bool false) = _
  rw [abox_eq, if_pos ⟨rfl, by simp [AV.cells], h⟩]
  rfl
theorem get36 (T : Tr AV) (H : AH) : (t36 T H).getP (Tr.path 36) = some (.ptr H.next 0 0) := by
  show (t36 T H).get 36 = _
  unfold t36 xput
  rw [Tr.get_setP, if_pos rfl]
theorem x_store {call : ICall} {T : Tr AV} {H : AH} (b c : Bool) : xop call (t36 T H) (hb H b) (.op (.store 1 (.t (Tr.path 36)) (.c (.bool c)))) = some (.und, hb H c) := by
  show iop (t36 T H) (.store 1 (.t (Tr.path 36)) (.c (.bool c))) (hb H b) = _
  simp only [iop, iev, get36, istore, hb, Tr.get_set_same, Tr.set_set]
  simp [AV.cells, AV.fit, AV.one]
theorem x_load {call : ICall} {T : Tr AV} {H : AH} (b : Bool) : xop call (t36 T H) (hb H b) io3.op = some (.bool b, hb H b) := by
  show iop (t36 T H) (.load none (.t (Tr.path 36))) (hb H b) = _
  simp only [iop, iev, get36, iload_p, hb, Tr.get_set_same]
  simp [on]
section
variable {call : ICall}
theorem colD_any (hcall : CallOK Tryz.prog call) {T : Tr AV} {H : AH} (hfree : H.gs.get H.next = none) : AT Tryz.prog 70 colDR T H fun e T1 H1 => e = .normal ∧ ∃ b, T1 = xput (t36 T H) (some (Tr.path 37)) (.bool b) ∧ H1 = hb H b := by
  intro K G a w hr ht
  rw [colD_eq]
  refine wp_region_any mixedC ?_
  obtain ⟨o0, a0, b0, c0⟩ := io0_ok
  obtain ⟨o1, a1, b1, c1⟩ := io1_ok
  obtain ⟨o2, a2, b2, c2⟩ := io2_ok
  obtain ⟨o3, a3, b3, c3⟩ := io3_ok
  show wpAny Tryz.prog .any colOps _ (0 + 1 + 1 + 1 + 1) _ _ _
  refine wpAny_all rd0 (by simp) fun i hi => ?_
  obtain rfl : i = 0 := by simpa using hi
  refine op_sem hcall a0 b0 (wanted_none c0) (x_io0 hfree) (hr.drawn _) ht fun G1 a1' w1 l1 r1 t1 => ?_
  refine wpAny_all rd1 (by simp) fun i hi => ?_
  have last : ∀ {G2 : Gh} {a2' : Act} {w2 : World} {listed : Array Bool} (b : Bool), Region.ready .any colOps listed = [3] → Region.ready .any colOps (listed.setIfInBounds 3 true) = [] → G.le G2 → HRel K G2 (hb H b) w2 → TRel G2 70 (t36 T H) a2' →
      wpAny Tryz.prog .any colOps (LQ K G 70 fun e T1 H1 => e = .normal ∧ ∃ b, T1 = xput (t36 T H) (some (Tr.path 37)) (.bool b) ∧ H1 = hb H b) (0 + 1) listed a2' w2 := by
    intro G2 a2' w2 listed b hrd hrd4 l2 r2 t2
    refine wpAny_all hrd (by simp) fun i hi => ?_
    obtain rfl : i = 3 := by simpa using hi
    refine op_sem hcall a3 b3 (wanted_none c3) (x_load b) r2 t2 fun G3 a3' w3 l3 r3 t3 => ?_
    exact ⟨hrd4, G3, _, _, l2.trans l3, r3, t3, rfl, b, rfl, rfl⟩
  rcases (by simpa using hi : i = 1 ∨ i = 2) with rfl | rfl
  · refine op_sem hcall a1 b1 (wanted_none c1) (x_store false true) r1 t1 fun G2 a2' w2 l2 r2 t2 => ?_
    refine wpAny_all rd2 (by simp) fun i hi => ?_
    obtain rfl : i = 2 := by simpa using hi
    refine op_sem hcall a2 b2 (wanted_none c2) (x_store true false) r2 t2 fun G3 a3' w3 l3 r3 t3 => ?_
    exact last false rd3 rd4 ((l1.trans l2).trans l3) r3 t3
  · refine op_sem hcall a2 b2 (wanted_none c2) (x_store false false) r1 t1 fun G2 a2' w2 l2 r2 t2 => ?_
    refine wpAny_all rd2' (by simp) fun i hi => ?_
    obtain rfl : i = 1 := by simpa using hi
    refine op_sem hcall a1 b1 (wanted_none c1) (x_store false true) r2 t2 fun G3 a3' w3 l3 r3 t3 => ?_
    exact last true rd3' rd4' ((l1.trans l2).trans l3) r3 t3
theorem TRel.sub {G : Gh} {nt : Nat} {T T' : Tr AV} {a : Act} (h : TRel G nt T a) (hs : Sub T' T) : TRel G nt T' a := ⟨h.defers, h.size, fun t x hx => h.at' t x (hs _ x hx)⟩
/-- A way's text, from what is known less of. -/
theorem way_ok {yc : YC} {c : Code} (hcall : CallOK Tryz.prog call) (hf : CallFrame call) (hc : cCode Tryz.prog 70 c = erase yc) (hd : codeD Tryz.prog 70 c = true) {F : Nat} {T2 T' : Tr AV} {l : Fr} {H0 H1 R : AH} (hs : Sub (mk l) T2) (hl : LessH H1 H0) (hE : Go.Abs.Ends (ycode call F yc (mk l) H0) T' R) : AT Tryz.prog 70 c T2 H1 (Is .normal T' R) := by
  obtain ⟨HX, h1, h2⟩ := hE
  obtain ⟨T3, k1, k2⟩ := ycode_mono yc _ _ _ _ _ _ hs h1
  rw [← hc] at k1
  have hat := xcode_ok hcall hf mixedC c _ _ _ _ _ hd k1
  intro K G a w hr ht
  refine wp_mono (hat K G a w (hr.less hl) ht) fun e a w ⟨G', T4, H4, r1, r2, r3, r4, r5, r6⟩ => ?_
  subst r4; subst r5; subst r6
  exact ⟨G', T', R, r1, r2.less h2, TRel.sub r3 k2, rfl, rfl, rfl⟩
theorem less_hb (H : AH) (b : Bool) (n : Nat) : LessH (hb H b) (colH H n) := less_of rfl fun g => by
  simp only [hb, colH, Tr.get_set]
  by_cases q : g = H.next
  · right; subst q; simp
  · left; simp [q]
theorem colDE_ok (hcall : CallOK Tryz.prog call) (hf : CallFrame call) {T : Tr AV} {H : AH} {e : IEx} {T' : Tr AV} {H' : AH} (h : colM T H = some (e, T', H')) : AT Tryz.prog 70 (.seq colDR (.cond (.tmp 37) colX colY)) T H (Is e T' H') := by
  obtain ⟨rfl, y0, x, t, h0, hx, ht, rfl, hR⟩ := colM_ok h
  have hB := collD_ok hR
  refine AT.seq (R := fun T1 H1 => ∃ b, T1 = xput (t36 T H) (some (Tr.path 37)) (.bool b) ∧ H1 = hb H b) ((colD_any hcall hB.n0).mono fun e T1 H1 ⟨q1, q2⟩ => by subst q1; exact q2) ?_
  rintro T1 H1 ⟨b, rfl, rfl⟩
  have hg : ∀ k, (xput (t36 T H) (some (Tr.path 37)) (.bool b)).get k = if k = 37 then some (.bool b) else if k = 36 then some (.ptr H.next 0 0) else T.get k := by
    intro k
    unfold xput t36 xput
    simp only [Tr.get_setP]
  have hsub : Sub (mk [(0, y0), (1, x), (4, t)]) (xput (t36 T H) (some (Tr.path 37)) (.bool b)) := by
    refine tgets_sub (ps := [0, 1, 4]) ?_
    have g0 := hg 0; have g1 := hg 1; have g4 := hg 4
    simp only [Tr.get] at g0 g1 g4 h0 hx ht
    simp [tgets, g0, g1, g4, h0, hx, ht]
  refine AT.cond_split (b := b) ?_ (fun hbt => ?_) (fun hbf => ?_)
  · have := hg 37
    rw [if_pos rfl] at this
    exact this
  · exact way_ok hcall hf colX_c colX_d hsub (less_hb H b 7) (hB.way call 0 y0).1
  · exact way_ok hcall hf colY_c colY_d hsub (less_hb H b 4) (hB.way call 0 y0).2
end
def colF : IFun := ⟨70, .skip, []⟩
/-- The body, in pieces. -/
noncomputable def colRun (call : ICall) (F : Nat) (T : Tr AV) (H : AH) : XR :=
  sqx (xcode call F (cCode Tryz.prog 70 colA) T H) fun T H => sqx (xcode call F (cCode Tryz.prog 70 colE1) T H) fun T H => sqx (xcode call F (cCode Tryz.prog 70 colC) T H) fun T H => sqx (colM T H) fun T H => xcode call F (cCode Tryz.prog 70 colZ) T H
theorem col_ok : SpOK Tryz.prog 97 (codeM colF colRun) := by
  refine SpOK.code Tryz.func97 col_body (by kernel_rfl) rfl rfl (fun call F hf T => ?_) (fun call F ih ihf T H e T' H' h => ?_)
  · exact (FrX.code hf (cCode_okC _ _ _) T).sqx fun T => (FrX.code hf (cCode_okC _ _ _) T).sqx fun T => (FrX.code hf (cCode_okC _ _ _) T).sqx fun T => FrX.sqx (fun H e T' H' h => colM_frame h) fun T => FrX.code hf (cCode_okC _ _ _) T
  · rw [colB_eq]
    exact AT.sqx (fun e T' H' h => xcode_ok ih ihf mixedC _ _ _ _ _ _ colA_d h) (fun T H e T' H' h => AT.sqx (fun e T' H' h => xcode_ok ih ihf mixedC _ _ _ _ _ _ colE1_d h) (fun T H e T' H' h => AT.sqx (fun e T' H' h => xcode_ok ih ihf mixedC _ _ _ _ _ _ colC_d h)
      (fun T H e T' H' h => AT.sqx (fun e T' H' h => colDE_ok ih ihf h) (fun T H e T' H' h => xcode_ok ih ihf mixedC _ _ _ _ _ _ colZ_d h) h) h) h) h
theorem colRun_le {c1 c2 : ICall} (hc : CLe c1 c2) {F : Nat} {T : Tr AV} {H : AH} {r : IEx × Tr AV × AH} (h : colRun c1 F T H = some r) : colRun c2 F T H = some r :=
  sqx_le h (fun x h => xcode_le hc _ _ _ _ h) fun T H x h => sqx_le h (fun x h => xcode_le hc _ _ _ _ h) fun T H x h => sqx_le h (fun x h => xcode_le hc _ _ _ _ h) fun T H x h => sqx_le h (fun x h => h) fun T H x h => xcode_le hc _ _ _ _ h
noncomputable abbrev colMZ : MZ := codeM colF colRun
theorem col_ez {good : FuncId → Bool} : EZS (spOf Tryz.prog 97 colMZ good) 97 colMZ := fun c c2 hc F args H r h => by
  refine ⟨colMZ, by unfold spOf; rw [if_pos rfl], ?_⟩
  unfold colMZ codeM at h ⊢
  cases hb : Nat.ble args.length colF.nt with
  | false => rw [hb] at h; cases h
  | true =>
    rw [hb] at h
    simp only [cond_true] at h ⊢
    cases hx : colRun c F (xinit args 0 .nil) H with
    | none => rw [hx] at h; simp [xend] at h
    | some q => rw [hx] at h; rw [colRun_le hc hx]; exact h
end Go.Proofs.YtfbhoomfhjlbiaaGreatDoor
