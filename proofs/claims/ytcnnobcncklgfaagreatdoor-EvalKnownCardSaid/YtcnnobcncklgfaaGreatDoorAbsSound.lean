/- What is carried out is what happens. -/
import Derived.Test.YtcnnobcncklgfaaGreatDoorAbsRun5
namespace Go.Abs
open Go Go.RowKit
set_option linter.unusedVariables false
/-- The same, with more groups about. -/
def FrameX {β : Type} (y : β) (H H' : AH) (f : AH → Option (β × AH)) : Prop :=
  Grows H H' ∧ ∀ R H2, Ext R H H2 → Apart R H' → ∃ H2', f H2 = some (y, H2') ∧ Ext R H' H2'
section
variable {call : ICall}
theorem xops_frame (hf : CallFrame call) : ∀ {l : List IOper} {T T' : Tr AV} {H H' : AH}, xops call l T H = some (T', H') → FrameX T' H H' (xops call l T)
  | [], T, T', H, H', h => by
    simp only [xops] at h
    cases h
    exact ⟨Grows.refl _, fun R H2 he ha => ⟨H2, rfl, he⟩⟩
  | o :: os, T, T', H, H', h => by
    have main : ∀ x H1, xop call T H o.op = some (x, H1) → xops call os (xput T o.dst x) H1 = some (T', H') → FrameX T' H H' (fun H => match xop call T H o.op with | some (x, H') => xops call os (xput T o.dst x) H' | none => none) := by
      intro x H1 h1 h2
      obtain ⟨q1, q2⟩ := xop_frame hf h1
      obtain ⟨q3, q4⟩ := xops_frame hf h2
      refine ⟨q1.trans q3, fun R H2 he ha => ?_⟩
      obtain ⟨H2', k1, k2⟩ := q2 R H2 he (ha.back q3)
      obtain ⟨H3', k3, k4⟩ := q4 R H2' k2 ha
      have k1' : xop call T H2 o.op = some (x, H2') := k1
      exact ⟨H3', by simp only [k1']; exact k3, k4⟩
    have skip : xops call os (xput T o.dst .und) H = some (T', H') → FrameX T' H H' (fun H => xops call os (xput T o.dst .und) H) := fun h2 => xops_frame hf h2
    simp only [xops] at h
    have e : xops call (o :: os) T = fun H => (match o.guard with
      | none => match xop call T H o.op with
        | some (x, H') => xops call os (xput T o.dst x) H'
        | none => none
      | some (p, want) => match T.getP p with
        | some (.bool b) => bif b == want then (match xop call T H o.op with
            | some (x, H') => xops call os (xput T o.dst x) H'
            | none => none) else xops call os (xput T o.dst .und) H
        | some .und => xops call os (xput T o.dst .und) H
        | _ => none) := by
      funext H
      simp only [xops]
      cases o.guard with
      | none => rfl
      | some g =>
        obtain ⟨p, want⟩ := g
        cases hT : T.getP p with
        | none => rfl
        | some v => cases v <;> rfl
    rw [e]
    split at h
    · rename_i eg
      simp only [eg]
      split at h
      · rename_i x H1 hx; exact main x H1 hx h
      · cases h
    · rename_i p want eg
      simp only [eg]
      split at h
      · rename_i b hb
        simp only [hb]
        cases hbw : (b == want) with
        | true =>
          rw [hbw] at h
          simp only [cond_true] at h ⊢
          split at h
          · rename_i x H1 hx; exact main x H1 hx h
          · cases h
        | false =>
          rw [hbw] at h
          simp only [cond_false] at h ⊢
          exact skip h
      · rename_i hb
        simp only [hb]
        exact skip h
      · cases h
theorem eff_frame (hf : CallFrame call) {base idx : Nat} {T : Tr AV} {H H' : AH} {W W' : List WE} {k : DK} {x : AV} (hk : k.ok = true) (h : eff call base T H W idx k = some (x, H', W')) :
    Grows H H' ∧ ∀ R H2, Ext R H H2 → Apart R H' → ∃ H2', eff call base T H2 W idx k = some (x, H2', W') ∧ Ext R H' H2' := by
  cases k with
  | pure i =>
    simp only [eff] at h
    split at h
    · rename_i x' H1 e
      cases h
      obtain ⟨_, q⟩ := iop_pure hk e
      exact ⟨Grows.refl _, fun R H2 he ha => ⟨H2, by simp only [eff, q H2], he⟩⟩
    · cases h
  | load n i =>
    simp only [eff] at h
    split at h
    · rename_i p e
      split at h
      · rename_i v e2
        cases h
        exact ⟨Grows.refl _, fun R H2 he ha => ⟨H2, by simp only [eff, e, iload_ext he ha e2], he⟩⟩
      · cases h
    · cases h
  | k2 kk watch =>
    simp only [eff] at h
    split at h
    · rename_i x' H1 e
      cases hc : wcheck H1 watch W with
      | false => rw [hc] at h; cases h
      | true =>
        rw [hc] at h
        cases h
        obtain ⟨q1, q2⟩ := xop_frame hf e
        refine ⟨q1, fun R H2 he ha => ?_⟩
        obtain ⟨H2', k1, k2⟩ := q2 R H2 he ha
        have k1' : xop call T H2 kk = some (x, H2') := k1
        exact ⟨H2', by simp only [eff, k1', wcheck_eq k2 ha (fun e he => he) hc, cond_true], k2⟩
    · cases h
  | alloc i =>
    obtain ⟨G, rfl, rfl, q1, q2⟩ := eff_alloc hk h
    refine ⟨Grows.put _ _ _ _, fun R H2 he ha => ?_⟩
    have hR := ha.not
    refine ⟨_, q2 H2 _ (by rw [he.gs, hR]; exact q1), ?_⟩
    have := he.put (r := G) (nx := H.next) hR
    rw [show H2.put (base + idx) G H2.next = H2.put (base + idx) G H.next by rw [he.next]]
    exact this
theorem dstep_frame (hf : CallFrame call) {base : Nat} {d : DOp} {s s1 : DS} (hk : d.k.ok = true) (h : dstep call base d s = some s1) :
    Grows s.H s1.H ∧ ∀ R H2, Ext R s.H H2 → Apart R s1.H → ∃ H2', dstep call base d ⟨s.T, H2, s.W⟩ = some ⟨s1.T, H2', s1.W⟩ ∧ Ext R s1.H H2' := by
  unfold dstep at h ⊢
  split at h
  · cases h
  · rename_i e
    cases h
    exact ⟨Grows.refl _, fun R H2 he ha => ⟨H2, by simp only [e], he⟩⟩
  · rename_i e
    split at h
    · rename_i x H' W' e2
      cases h
      obtain ⟨q1, q2⟩ := eff_frame hf hk e2
      refine ⟨q1, fun R H2 he ha => ?_⟩
      obtain ⟨H2', k1, k2⟩ := q2 R H2 he ha
      exact ⟨H2', by simp only [e, k1], k2⟩
    · cases h
theorem drun_frame (hf : CallFrame call) {base : Nat} : ∀ {l : List DOp} {s s1 : DS}, (∀ d ∈ l, d.k.ok = true) → drun call base l s = some s1 →
    Grows s.H s1.H ∧ ∀ R H2, Ext R s.H H2 → Apart R s1.H → ∃ H2', drun call base l ⟨s.T, H2, s.W⟩ = some ⟨s1.T, H2', s1.W⟩ ∧ Ext R s1.H H2'
  | [], s, s1, hk, h => by
    simp only [drun] at h
    cases h
    exact ⟨Grows.refl _, fun R H2 he ha => ⟨H2, rfl, he⟩⟩
  | d :: l, s, s1, hk, h => by
    simp only [drun] at h
    split at h
    · rename_i u hu
      obtain ⟨q1, q2⟩ := dstep_frame hf (hk d (List.mem_cons_self ..)) hu
      obtain ⟨q3, q4⟩ := drun_frame hf (fun y hy => hk y (List.mem_cons_of_mem _ hy)) h
      refine ⟨q1.trans q3, fun R H2 he ha => ?_⟩
      obtain ⟨H2', k1, k2⟩ := q2 R H2 he (ha.back q3)
      obtain ⟨H3', k3, k4⟩ := q4 R H2' k2 ha
      exact ⟨H3', by simp only [drun, k1]; exact k3, k4⟩
    · cases h
theorem mkK_ok (k : IK) (w : List Nat) : (mkK k w).ok = true := by
  unfold mkK
  cases k with
  | call f a => rfl
  | op o =>
    cases h1 : o.isPure with
    | true => simp [h1, DK.ok]
    | false =>
      cases h2 : o.isAlloc with
      | true => simp [h1, h2, DK.ok]
      | false =>
        simp only [h1, h2, cond_false]
        split <;> rfl
theorem buildD_mem {A : List Nat} {is : List IOper} : ∀ {l : List Nat} {bef ds : List DOp}, buildD A is l bef = some ds → ∀ d ∈ ds, ∃ io w, is[d.idx]? = some io ∧ d.dst = io.dst ∧ d.guard = io.guard ∧ d.k = mkK io.op w
  | [], bef, ds, h, d, hd => by simp only [buildD] at h; cases h; cases hd
  | i :: l, bef, ds, h, d, hd => by
    simp only [buildD] at h
    split at h
    · rename_i io hio
      split at h
      · rename_i ds' hds
        cases h
        rcases List.mem_cons.1 hd with rfl | hd
        · exact ⟨io, _, hio, rfl, rfl, rfl⟩
        · exact buildD_mem hds d hd
      · cases h
    · cases h
theorem cDraw_ok {P : Program} {nt : Nat} {ops : Array Oper} {l : List DOp} (h : cDraw P nt ops = some l) : ∀ d ∈ l, d.k.ok = true := by
  unfold cDraw at h
  split at h
  · intro d hd
    obtain ⟨io, w, _, _, _, e⟩ := buildD_mem h d hd
    rw [e]; exact mkK_ok _ _
  · cases h
/-- All rows in it are of operations that are what they say. -/
def okC : ICode → Prop
  | .dops _ l => ∀ d ∈ l, d.k.ok = true
  | .seq a b => okC a ∧ okC b
  | .cond _ a b => okC a ∧ okC b
  | .block _ c => okC c
  | .loop c => okC c
  | _ => True
theorem cCode_okC (P : Program) (nt : Nat) : ∀ c, okC (cCode P nt c)
  | .skip => trivial
  | .label _ => trivial
  | .region _ ops true => by
    simp only [cCode]
    split
    · rename_i l h; exact cDraw_ok h
    · trivial
  | .region _ ops false => by
    simp only [cCode]
    split <;> trivial
  | .seq a b => ⟨cCode_okC P nt a, cCode_okC P nt b⟩
  | .cond x a b => by
    simp only [cCode]
    split
    · exact ⟨cCode_okC P nt a, cCode_okC P nt b⟩
    · trivial
  | .block _ c => cCode_okC P nt c
  | .loop c => cCode_okC P nt c
  | .scope c => by simp only [cCode]; exact cCode_okC P nt c
  | .exit _ => trivial
  | .ret => trivial
  | .rangeFunc .. => trivial
  | .goto _ => trivial
  | .refuse _ => trivial
theorem iter_frame {body : Tr AV → AH → XR} (hb : ∀ T H e T' H', body T H = some (e, T', H') → Grows H H' ∧ ∀ R H2, Ext R H H2 → Apart R H' → ∃ H2', body T H2 = some (e, T', H2') ∧ Ext R H' H2') : ∀ {n : Nat} {T : Tr AV} {H : AH} {e : IEx} {T' : Tr AV} {H' : AH},
    iter body n T H = some (e, T', H') → Grows H H' ∧ ∀ R H2, Ext R H H2 → Apart R H' → ∃ H2', iter body n T H2 = some (e, T', H2') ∧ Ext R H' H2'
  | 0, T, H, e, T', H', h => by simp only [iter] at h; cases h
  | n + 1, T, H, e, T', H', h => by
    simp only [iter] at h
    split at h
    · rename_i T1 H1 h1
      obtain ⟨q1, q2⟩ := hb _ _ _ _ _ h1
      obtain ⟨q3, q4⟩ := iter_frame hb h
      refine ⟨q1.trans q3, fun R H2 he ha => ?_⟩
      obtain ⟨H2', k1, k2⟩ := q2 R H2 he (ha.back q3)
      obtain ⟨H3', k3, k4⟩ := q4 R H2' k2 ha
      exact ⟨H3', by simp only [iter, k1]; exact k3, k4⟩
    · rename_i r hne
      obtain ⟨q1, q2⟩ := hb _ _ _ _ _ h
      refine ⟨q1, fun R H2 he ha => ?_⟩
      obtain ⟨H2', k1, k2⟩ := q2 R H2 he ha
      refine ⟨H2', ?_, k2⟩
      simp only [iter, k1]
      cases e with
      | normal => exact absurd h (hne _ _)
      | exit id => rfl
      | ret => rfl
theorem xcode_frame (hf : CallFrame call) {F : Nat} : ∀ {c : ICode} {T : Tr AV} {H : AH} {e : IEx} {T' : Tr AV} {H' : AH}, okC c → xcode call F c T H = some (e, T', H') →
    Grows H H' ∧ ∀ R H2, Ext R H H2 → Apart R H' → ∃ H2', xcode call F c T H2 = some (e, T', H2') ∧ Ext R H' H2' := by
  intro c
  induction c with
  | skip => intro T H e T' H' hok h; simp only [xcode] at h; cases h; exact ⟨Grows.refl _, fun R H2 he ha => ⟨H2, rfl, he⟩⟩
  | exit id => intro T H e T' H' hok h; simp only [xcode] at h; cases h; exact ⟨Grows.refl _, fun R H2 he ha => ⟨H2, rfl, he⟩⟩
  | ret => intro T H e T' H' hok h; simp only [xcode] at h; cases h; exact ⟨Grows.refl _, fun R H2 he ha => ⟨H2, rfl, he⟩⟩
  | bad => intro T H e T' H' hok h; simp only [xcode] at h; cases h
  | ops l =>
    intro T H e T' H' hok h
    simp only [xcode] at h
    split at h
    · rename_i T1 H1 h1
      cases h
      obtain ⟨q1, q2⟩ := xops_frame hf h1
      refine ⟨q1, fun R H2 he ha => ?_⟩
      obtain ⟨H2', k1, k2⟩ := q2 R H2 he ha
      exact ⟨H2', by simp only [xcode, k1], k2⟩
    · cases h
  | dops n l =>
    intro T H e T' H' hok h
    simp only [xcode] at h
    split at h
    · rename_i s h1
      cases h
      obtain ⟨q1, q2⟩ := drun_frame hf hok h1
      refine ⟨q1, fun R H2 he ha => ?_⟩
      obtain ⟨H2', k1, k2⟩ := q2 R ⟨H2.next + n, H2.gs, H2.ms⟩ ⟨by show H2.next + n = H.next + n; rw [he.next], he.gs, he.ms⟩ ha
      refine ⟨H2', ?_, k2⟩
      simp only at k1
      simp only [xcode, he.next]
      rw [he.next] at k1
      rw [k1]
    · cases h
  | seq a b iha ihb =>
    intro T H e T' H' hok h
    simp only [xcode] at h
    split at h
    · rename_i T1 H1 h1
      obtain ⟨q1, q2⟩ := iha hok.1 h1
      obtain ⟨q3, q4⟩ := ihb hok.2 h
      refine ⟨q1.trans q3, fun R H2 he ha => ?_⟩
      obtain ⟨H2', k1, k2⟩ := q2 R H2 he (ha.back q3)
      obtain ⟨H3', k3, k4⟩ := q4 R H2' k2 ha
      exact ⟨H3', by simp only [xcode, k1]; exact k3, k4⟩
    · rename_i r hne
      obtain ⟨q1, q2⟩ := iha hok.1 h
      refine ⟨q1, fun R H2 he ha => ?_⟩
      obtain ⟨H2', k1, k2⟩ := q2 R H2 he ha
      refine ⟨H2', ?_, k2⟩
      simp only [xcode, k1]
      cases e with
      | normal => exact absurd h (hne _ _)
      | exit id => rfl
      | ret => rfl
  | cond x a b iha ihb =>
    intro T H e T' H' hok h
    simp only [xcode] at h
    split at h
    · rename_i hx
      obtain ⟨q1, q2⟩ := iha hok.1 h
      exact ⟨q1, fun R H2 he ha => by obtain ⟨H2', k1, k2⟩ := q2 R H2 he ha; exact ⟨H2', by simp only [xcode, hx]; exact k1, k2⟩⟩
    · rename_i hx
      obtain ⟨q1, q2⟩ := ihb hok.2 h
      exact ⟨q1, fun R H2 he ha => by obtain ⟨H2', k1, k2⟩ := q2 R H2 he ha; exact ⟨H2', by simp only [xcode, hx]; exact k1, k2⟩⟩
    · cases h
  | block id c ih =>
    intro T H e T' H' hok h
    simp only [xcode] at h
    split at h
    · rename_i id' T1 H1 h1
      obtain ⟨q1, q2⟩ := ih hok h1
      cases hb : Nat.beq id' id with
      | true =>
        rw [hb] at h
        cases h
        exact ⟨q1, fun R H2 he ha => by obtain ⟨H2', k1, k2⟩ := q2 R H2 he ha; exact ⟨H2', by simp only [xcode, k1, hb, cond_true], k2⟩⟩
      | false =>
        rw [hb] at h
        cases h
        exact ⟨q1, fun R H2 he ha => by obtain ⟨H2', k1, k2⟩ := q2 R H2 he ha; exact ⟨H2', by simp only [xcode, k1, hb, cond_false], k2⟩⟩
    · rename_i r hne
      obtain ⟨q1, q2⟩ := ih hok h
      refine ⟨q1, fun R H2 he ha => ?_⟩
      obtain ⟨H2', k1, k2⟩ := q2 R H2 he ha
      refine ⟨H2', ?_, k2⟩
      simp only [xcode, k1]
      cases e with
      | normal => rfl
      | exit id' => exact absurd h (hne _ _ _)
      | ret => rfl
  | loop c ih =>
    intro T H e T' H' hok h
    simp only [xcode] at h ⊢
    exact iter_frame (fun T H e T' H' h => ih hok h) h
theorem iress_frame {T : Tr AV} {R : Nat → Option Grp} {H H2 : AH} (he : Ext R H H2) (ha : Apart R H) : ∀ {rs : List IRes} {xs : List AV}, iress T H rs = some xs → iress T H2 rs = some xs
  | [], xs, h => h
  | .tmp p :: rs, xs, h => by
    simp only [iress] at h ⊢
    split at h
    · rename_i x e1
      split at h
      · rename_i ys e2
        simp only [iress_frame he ha e2]
        exact h
      · cases h
    · cases h
  | .cell p n :: rs, xs, h => by
    simp only [iress] at h ⊢
    split at h
    · rename_i a e1
      split at h
      · rename_i x e2
        split at h
        · rename_i ys e3
          simp only [iload_ext he ha e2, iress_frame he ha e3]
          exact h
        · cases h
      · cases h
    · cases h
theorem ires_frame {T : Tr AV} {R : Nat → Option Grp} {H H2 : AH} (he : Ext R H H2) (ha : Apart R H) {rs : List IRes} {x : AV} (h : ires T H rs = some x) : ires T H2 rs = some x := by
  unfold ires at h ⊢
  split at h
  · rename_i y e; rw [iress_frame he ha e]; exact h
  · rename_i ys hne e
    cases h
    rw [iress_frame he ha e]
    split
    · rename_i y e2; cases e2; exact absurd rfl (hne y)
    · rename_i zs _ e2; cases e2; rfl
    · rename_i e2; cases e2
  · cases h
theorem xend_frame {fn : IFun} {f : AH → XR} {H H' : AH} {x : AV} (hx : ∀ e T1 H1, f H = some (e, T1, H1) → Grows H H1 ∧ ∀ R H2, Ext R H H2 → Apart R H1 → ∃ H2', f H2 = some (e, T1, H2') ∧ Ext R H1 H2') (h : xend fn (f H) = some (x, H')) : FrameR x H H' (fun H => xend fn (f H)) := by
  have main : ∀ e T1 H1, f H = some (e, T1, H1) → (e = .normal ∨ e = .ret) → ires T1 H1 fn.res = some x → H1 = H' → FrameR x H H' (fun H => xend fn (f H)) := by
    rintro e T1 H1 h1 h2 h3 rfl
    obtain ⟨q1, q2⟩ := hx _ _ _ h1
    refine ⟨q1, fun R H2 he ha => ?_⟩
    obtain ⟨H2', k1, k2⟩ := q2 R H2 he ha
    refine ⟨H2', ?_, k2⟩
    simp only [k1]
    rcases h2 with rfl | rfl <;> simp only [xend, ires_frame k2 ha h3]
  cases hfh : f H with
  | none => rw [hfh] at h; simp [xend] at h
  | some r =>
    obtain ⟨e, T1, H1⟩ := r
    rw [hfh] at h
    cases e with
    | normal =>
      simp only [xend] at h
      split at h
      · rename_i y hy; cases h; exact main _ _ _ hfh (.inl rfl) hy rfl
      · cases h
    | ret =>
      simp only [xend] at h
      split at h
      · rename_i y hy; cases h; exact main _ _ _ hfh (.inr rfl) hy rfl
      · cases h
    | exit id => simp [xend] at h
def HookFrame (hook : Hooks) : Prop := ∀ f h, hook f = some h → ∀ args H x H', h args H = some (x, H') → FrameR x H H' (h args)
theorem arun_frame {P : Program} {good : FuncId → Bool} {hook : Hooks} {F : Nat} (hh : HookFrame hook) : ∀ n, CallFrame (arun P good hook F n)
  | 0 => fun f args H x H' h => by simp only [arun] at h; cases h
  | n + 1 => fun f args H x H' h => by
    have ih := arun_frame (P := P) (good := good) (F := F) hh n
    simp only [arun] at h
    split at h
    · rename_i hk hr
      obtain ⟨q1, q2⟩ := hh _ _ hr _ _ _ _ h
      refine ⟨q1, fun R H2 he ha => ?_⟩
      obtain ⟨H2', k1, k2⟩ := q2 R H2 he ha
      exact ⟨H2', by simp only [arun, hr]; exact k1, k2⟩
    · rename_i hr
      split at h
      · rename_i fn hfn
        cases hb : Nat.ble args.length fn.nt with
        | false => rw [hb] at h; cases h
        | true =>
          rw [hb] at h
          simp only [cond_true] at h
          have hokc : okC fn.body := by
            unfold cFun at hfn
            cases hg : good f with
            | false => rw [hg] at hfn; cases hfn
            | true =>
              rw [hg] at hfn
              simp only [cond_true] at hfn
              split at hfn
              · rename_i fn' _
                cases hnm : (fn'.name == "runtime.NumGoroutine") with
                | true => rw [hnm] at hfn; cases hfn
                | false =>
                  rw [hnm] at hfn
                  simp only [cond_false] at hfn
                  split at hfn
                  · split at hfn
                    · cases hfn; exact cCode_okC _ _ _
                    · cases hfn
                  · cases hfn
              · cases hfn
          obtain ⟨q1, q2⟩ := xend_frame (f := fun H => xcode (arun P good hook F n) F fn.body (xinit args 0 .nil) H) (fun e T1 H1 h1 => xcode_frame ih hokc h1) h
          refine ⟨q1, fun R H2 he ha => ?_⟩
          obtain ⟨H2', k1, k2⟩ := q2 R H2 he ha
          exact ⟨H2', by simp only [arun, hr, hfn, hb, cond_true]; exact k1, k2⟩
      · cases h
end
end Go.Abs
