/- What is carried out is what happens: code, calls. -/
import Derived.Test.YtcnnobcncklgfaaGreatDoorAbsSound
namespace Go.Abs
open Go Go.RowKit
set_option linter.unusedVariables false
section
variable {P : Program} {nt : Nat} {call : ICall}
theorem cOpers_get {ops : Array Oper} : ∀ {l : List Oper} {is : List IOper}, cOpers P nt ops l = some is → is.length = l.length ∧ ∀ (j : Nat) io, is[j]? = some io → ∃ o, l[j]? = some o ∧ cOper P nt ops o = some io
  | [], is, h => by simp only [cOpers] at h; cases h; exact ⟨rfl, fun j io hj => by simp at hj⟩
  | o :: os, is, h => by
    simp only [cOpers] at h
    split at h
    · rename_i i is' h1 h2
      cases h
      obtain ⟨q1, q2⟩ := cOpers_get h2
      refine ⟨by simp [q1], fun j io hj => ?_⟩
      cases j with
      | zero => simp at hj; subst hj; exact ⟨o, rfl, h1⟩
      | succ j => simpa using q2 j io (by simpa using hj)
    · cases h
theorem mkK_dk (k : IK) (w : List Nat) : dkOf (mkK k w) k := by
  unfold mkK
  cases k with
  | call f a => rfl
  | op o =>
    cases h1 : o.isPure with
    | true => simp [h1, dkOf]
    | false =>
      cases h2 : o.isAlloc with
      | true => simp [h1, h2, dkOf]
      | false =>
        simp only [h1, h2, cond_false]
        split
        · rfl
        · rfl
theorem cDraw_rel {ops : Array Oper} {l : List DOp} (h : cDraw P nt ops = some l) : ∀ d ∈ l, dRel P nt ops d := by
  unfold cDraw at h
  split at h
  · rename_i is his
    intro d hd
    obtain ⟨io, w, h1, h2, h3, h4⟩ := buildD_mem h d hd
    obtain ⟨_, q⟩ := cOpers_get his
    obtain ⟨o, h5, h6⟩ := q _ _ h1
    exact ⟨by rw [h4]; exact mkK_ok _ _, o, io, by simpa using h5, h6, h2, h3, by rw [h4]; exact mkK_dk _ _⟩
  · cases h
/-- An exit. -/
def toEx : IEx → Exit
  | .normal => .normal
  | .exit id => .exit id
  | .ret => .ret
def Is (e : IEx) (T : Tr AV) (H : AH) : Exit → Tr AV → AH → Prop := fun e1 T1 H1 => e1 = toEx e ∧ T1 = T ∧ H1 = H
theorem AT.draw (hcall : CallOK P call) (hf : CallFrame call) (hm : P.follows .mixedOrders = true) {id : Nat} {ops : Array Oper} {l : List DOp} (hl : cDraw P nt ops = some l) (hd : dOK ops l = true) {T : Tr AV} {H : AH} {s : DS}
    (h : drun call H.next l ⟨T, ⟨H.next + ops.size, H.gs, H.ms⟩, []⟩ = some s) : AT P nt (.region id ops true) T H (Is .normal s.T s.H) := by
  intro K G a w hr ht
  unfold dOK at hd
  simp only [Bool.and_eq_true] at hd
  obtain ⟨h1, h2, h3, h4⟩ := hd
  have hlen := Nat.eq_of_beq_eq_true h1
  have hrel := cDraw_rel hl
  refine wp_region_any hm ?_
  have hget : ∀ j, (Array.replicate ops.size false).getD j true = false ↔ j < ops.size := by
    intro j
    rw [Array.getD_eq_getD_getElem?, Array.getElem?_replicate]
    by_cases hj : j < ops.size
    · simp [hj]
    · simp [hj]
  refine wpAny_of_run hcall hf (base := H.next) ops.size (Array.replicate ops.size false) l ⟨T, ⟨H.next + ops.size, H.gs, H.ms⟩, []⟩ s G a _ (by simp) hlen (fun j => ?_) hrel (by simpa [List.all_eq_true] using h3) (pwOK_ok h4) ?_ h ((hr.next _).drawn _) ht ?_
  · rw [hget]
    rw [List.all_eq_true] at h2
    constructor
    · intro hj
      have := h2 j (List.mem_range.2 hj)
      rw [List.any_eq_true] at this
      obtain ⟨d, hd, he⟩ := this
      exact ⟨d, hd, Nat.eq_of_beq_eq_true he⟩
    · rintro ⟨d, hd, rfl⟩
      obtain ⟨_, o, io, ho, _⟩ := hrel d hd
      exact (Array.getElem?_eq_some_iff.1 ho).1
  · intro j hj
    rw [Array.getD_eq_getD_getElem?, Array.getElem?_replicate] at hj
    split at hj <;> simp at hj
  · intro G' a' w' s' q1 q2 q3 q4
    refine ⟨G', s.T, s.H, q1, ?_, ?_, rfl, rfl, rfl⟩
    · exact q2.he ⟨q4.H.1.symm, fun g => (q4.H.2.1 g).symm, fun g => (q4.H.2.2 g).symm⟩
    · exact q3.congr fun k => by
        have := q4.T (Tr.path k)
        rw [Tr.getP_eq, Tr.getP_eq] at this
        exact this.symm
theorem AT.scope {c : Code} {T : Tr AV} {H : AH} {Q : Exit → Tr AV → AH → Prop} (h : AT P nt c T H Q) (hq : ∀ l T H, ¬ Q (.goto l) T H) : AT P nt (.scope c) T H Q := fun K G a w hr ht =>
  wp_scope_straight (wp_mono (h K G a w hr ht) fun e a' w' hl => by
    cases e with
    | goto l => obtain ⟨_, _, _, _, _, _, h4⟩ := hl; exact (hq _ _ _ h4).elim
    | normal => exact hl
    | exit id => exact hl
    | ret => exact hl
    | panic ch => exact hl
    | outgrown => exact hl)
theorem xcode_ok (hcall : CallOK P call) (hf : CallFrame call) (hm : P.follows .mixedOrders = true) {F : Nat} : ∀ (c : Code) (T : Tr AV) (H : AH) (e : IEx) (T' : Tr AV) (H' : AH), codeD P nt c = true → xcode call F (cCode P nt c) T H = some (e, T', H') → AT P nt c T H (Is e T' H') := by
  intro c
  induction c with
  | skip => intro T H e T' H' hd h; simp only [cCode, xcode] at h; cases h; exact AT.skip ⟨rfl, rfl, rfl⟩
  | label l => intro T H e T' H' hd h; simp only [cCode, xcode] at h; cases h; exact AT.label ⟨rfl, rfl, rfl⟩
  | exit id => intro T H e T' H' hd h; simp only [cCode, xcode] at h; cases h; exact AT.exit ⟨rfl, rfl, rfl⟩
  | ret => intro T H e T' H' hd h; simp only [cCode, xcode] at h; cases h; exact AT.ret ⟨rfl, rfl, rfl⟩
  | rangeFunc f ps a b => intro T H e T' H' hd h; simp only [cCode, xcode] at h; cases h
  | goto l => intro T H e T' H' hd h; simp only [cCode, xcode] at h; cases h
  | refuse w => intro T H e T' H' hd h; simp only [cCode, xcode] at h; cases h
  | region id ops draw =>
    intro T H e T' H' hd h
    cases draw with
    | true =>
      simp only [cCode] at h
      split at h
      · rename_i l hl
        simp only [xcode] at h
        split at h
        · rename_i s hs
          cases h
          simp only [codeD, hl] at hd
          exact AT.draw hcall hf hm hl hd hs
        · cases h
      · simp only [xcode] at h; cases h
    | false =>
      simp only [cCode] at h
      split at h
      · rename_i l hl
        simp only [xcode] at h
        split at h
        · rename_i T1 H1 h1
          cases h
          obtain ⟨q1, q2⟩ := cOpers_get hl
          refine AT.region (xops_ok hcall (List.range ops.size) l T H _ _ (by simp [q1]) (fun j i io hj hio => ?_) h1)
          obtain ⟨o, h2, h3⟩ := q2 j io hio
          have hij : i = j := by
            rw [List.getElem?_range (by have := (List.getElem?_eq_some_iff.1 hj).1; simpa using this)] at hj
            exact (Option.some.inj hj).symm
          subst hij
          exact ⟨o, by simpa using h2, h3⟩
        · cases h
      · simp only [xcode] at h; cases h
  | seq a b iha ihb =>
    intro T H e T' H' hd h
    simp only [codeD, Bool.and_eq_true] at hd
    simp only [cCode, xcode] at h
    split at h
    · rename_i T1 H1 h1
      refine AT.seq' ((iha _ _ _ _ _ hd.1 h1).mono fun e1 T2 H2 hq => ?_)
      obtain ⟨rfl, rfl, rfl⟩ := hq
      exact ihb _ _ _ _ _ hd.2 h
    · rename_i r hne
      refine AT.seq' ((iha _ _ _ _ _ hd.1 h).mono fun e1 T2 H2 hq => ?_)
      obtain ⟨rfl, rfl, rfl⟩ := hq
      cases e with
      | normal => exact absurd h (hne _ _)
      | exit id => exact ⟨rfl, rfl, rfl⟩
      | ret => exact ⟨rfl, rfl, rfl⟩
  | cond x a b iha ihb =>
    intro T H e T' H' hd h
    simp only [codeD, Bool.and_eq_true] at hd
    simp only [cCode] at h
    split at h
    · rename_i y hy
      simp only [xcode, cO_ok hy T] at h
      split at h
      · rename_i hx; exact AT.cond hx (iha _ _ _ _ _ hd.1 h)
      · rename_i hx; exact AT.cond hx (ihb _ _ _ _ _ hd.2 h)
      · cases h
    · simp only [xcode] at h; cases h
  | block id c ih =>
    intro T H e T' H' hd h
    simp only [codeD] at hd
    simp only [cCode, xcode] at h
    split at h
    · rename_i id' T1 H1 h1
      refine AT.block ((ih _ _ _ _ _ hd h1).mono fun e1 T2 H2 hq => ?_)
      obtain ⟨rfl, rfl, rfl⟩ := hq
      simp only [toEx]
      cases hb : Nat.beq id' id with
      | true =>
        rw [hb] at h
        have := Nat.eq_of_beq_eq_true hb
        subst this
        rw [if_pos rfl]
        cases h
        exact ⟨rfl, rfl, rfl⟩
      | false =>
        rw [hb] at h
        rw [if_neg (fun he => by subst he; rw [Nat.beq_refl] at hb; cases hb)]
        cases h
        exact ⟨rfl, rfl, rfl⟩
    · rename_i r hne
      refine AT.block ((ih _ _ _ _ _ hd h).mono fun e1 T2 H2 hq => ?_)
      obtain ⟨rfl, rfl, rfl⟩ := hq
      cases e with
      | normal => exact ⟨rfl, rfl, rfl⟩
      | exit id' => exact absurd h (hne _ _ _)
      | ret => exact ⟨rfl, rfl, rfl⟩
  | loop c ih =>
    intro T H e T' H' hd h
    simp only [codeD] at hd
    simp only [cCode, xcode] at h
    refine AT.loop (fun n T H => iter (xcode call F (cCode P nt c)) n T H = some (e, T', H')) h fun n T1 H1 hI => ?_
    cases n with
    | zero => simp only [iter] at hI; cases hI
    | succ n =>
      simp only [iter] at hI
      split at hI
      · rename_i T2 H2 h2
        refine (ih _ _ _ _ _ hd h2).mono fun e1 T3 H3 hq => ?_
        obtain ⟨rfl, rfl, rfl⟩ := hq
        exact ⟨n, Nat.lt_succ_self _, hI⟩
      · rename_i r hne
        refine (ih _ _ _ _ _ hd hI).mono fun e1 T3 H3 hq => ?_
        obtain ⟨rfl, rfl, rfl⟩ := hq
        cases e with
        | normal => exact absurd hI (hne _ _)
        | exit id' => exact ⟨rfl, rfl, rfl⟩
        | ret => exact ⟨rfl, rfl, rfl⟩
  | scope c ih =>
    intro T H e T' H' hd h
    simp only [codeD] at hd
    simp only [cCode] at h
    refine AT.scope (ih _ _ _ _ _ hd h) fun l T1 H1 hq => ?_
    obtain ⟨h1, _⟩ := hq
    cases e <;> cases h1
theorem iload_aload {H : AH} {t : TypeId} {d : TypeDesc} {x y : AV} (hd : P.underlying t = some d) (h : iload (if isAggD d then some (P.cellsOf t) else none) H x = some y) : aload P H t x = some y := by
  unfold aload
  rw [hd]
  simp only
  unfold iload at h
  cases ha : isAggD d with
  | true =>
    rw [ha] at h
    simp only [if_true] at h ⊢
    split at h
    · rename_i cs e; cases h; rw [e]; rfl
    · cases h
  | false =>
    rw [ha] at h
    simp only [Bool.false_eq_true, if_false] at h ⊢
    split at h
    · rename_i c rest e; cases h; rw [e]; rfl
    · cases h
theorem cRes_ok {T : Tr AV} {H : AH} : ∀ {rs : List ResultVar} {is : List IRes} {xs : List AV}, cRes P rs = some is → iress T H is = some xs → ares P T H rs = some xs
  | [], is, xs, h1, h2 => by simp only [cRes] at h1; cases h1; simpa [iress, ares] using h2
  | .tmp t :: rs, is, xs, h1, h2 => by
    simp only [cRes] at h1
    split at h1
    · rename_i is' h3
      cases h1
      simp only [iress, Tr.getP_eq] at h2
      split at h2
      · rename_i x e1
        split at h2
        · rename_i ys e2
          cases h2
          simp only [ares, e1, cRes_ok h3 e2]
        · cases h2
      · cases h2
    · cases h1
  | .cell p t :: rs, is, xs, h1, h2 => by
    simp only [cRes] at h1
    split at h1
    · rename_i d is' hd h3
      cases h1
      simp only [iress, Tr.getP_eq] at h2
      split at h2
      · rename_i a e1
        split at h2
        · rename_i x e2
          split at h2
          · rename_i ys e3
            cases h2
            simp only [ares, e1, Option.bind_some, iload_aload hd e2, cRes_ok h3 e3]
          · cases h2
        · cases h2
      · cases h2
    · cases h1
theorem ires_ok {T : Tr AV} {H : AH} {rs : List ResultVar} {is : List IRes} {x : AV} (h1 : cRes P rs = some is) (h2 : ires T H is = some x) : aresult P T H rs = some x := by
  unfold ires at h2
  unfold aresult
  split at h2
  · rename_i y e; cases h2; rw [cRes_ok h1 e]
  · rename_i ys hne e
    cases h2
    rw [cRes_ok h1 e]
    split
    · rename_i y e2; cases e2; exact absurd rfl (hne y)
    · rename_i zs _ e2; cases e2; rfl
    · rename_i e2; cases e2
  · cases h2
theorem xinit_get : ∀ (xs : List AV) (i : Nat) (T : Tr AV) (k : Nat), (xinit xs i T).get k = if i ≤ k ∧ k < i + xs.length then xs[k - i]? else T.get k
  | [], i, T, k => by rw [if_neg (by simp)]; rfl
  | x :: xs, i, T, k => by
    rw [xinit, xinit_get xs (i + 1), Tr.get_setP]
    by_cases h : i + 1 ≤ k ∧ k < i + 1 + xs.length
    · rw [if_pos h, if_pos (by simp; omega), show k - i = (k - (i + 1)) + 1 by omega]; simp
    · rw [if_neg h]
      by_cases hk : k = i
      · subst hk; simp
      · rw [if_neg hk, if_neg (by simp; omega)]
/-- What is carried out is what happens. -/
def HookOK (P : Program) (hook : Hooks) : Prop := ∀ f h, hook f = some h → ∀ args H x H', h args H = some (x, H') → callableB P f = true ∧ ACalls P f args H fun y H1 => y = x ∧ H1 = H'
theorem arun_ok {good : FuncId → Bool} {hook : Hooks} {F : Nat} (hm : P.follows .mixedOrders = true) (hD : ∀ f, good f = true → funD P f = true) (hh : HookOK P hook) (hfr : HookFrame hook) : ∀ n, CallOK P (arun P good hook F n)
  | 0 => fun f args H x H' h => by simp only [arun] at h; cases h
  | n + 1 => fun f args H x H' h => by
    have ih := arun_ok (F := F) hm hD hh hfr n
    have ihf := arun_frame (P := P) (good := good) (F := F) hfr n
    simp only [arun] at h
    split at h
    · rename_i hk hr
      exact hh _ _ hr _ _ _ _ h
    · split at h
      · rename_i fn hfn
        cases hb : Nat.ble args.length fn.nt with
        | false => rw [hb] at h; cases h
        | true =>
          rw [hb] at h
          simp only [cond_true] at h
          unfold cFun at hfn
          cases hg : good f with
          | false => rw [hg] at hfn; cases hfn
          | true =>
            rw [hg] at hfn
            simp only [cond_true] at hfn
            split at hfn
            · rename_i fn' hf'
              cases hnm : (fn'.name == "runtime.NumGoroutine") with
              | true => rw [hnm] at hfn; cases hfn
              | false =>
                rw [hnm] at hfn
                simp only [cond_false] at hfn
                split at hfn
                · rename_i c hbody
                  split at hfn
                  · rename_i rs hrs
                    cases hfn
                    have hcd : codeD P fn'.ntmps c = true := by
                      have := hD f hg
                      unfold funD at this
                      rw [hf'] at this
                      simpa [hbody] using this
                    refine ⟨by unfold callableB; rw [hf']; simp [hnm, hbody], ?_⟩
                    refine ACalls.of_body hf' hbody (Nat.le_of_ble_eq_true hb) ?_
                    have hxi : ∀ k, (xinit args 0 .nil).get k = (tinit args 0).get k := by
                      intro k
                      rw [xinit_get, tinit_get]
                      simp only [Nat.zero_le, true_and, Nat.zero_add, Nat.sub_zero, if_true, Tr.get_nil]
                      by_cases hk : k < args.length
                      · rw [if_pos hk]
                      · rw [if_neg hk, List.getElem?_eq_none (by omega)]
                    have main : ∀ e T1 H1, xcode (arun P good hook F n) F (cCode P fn'.ntmps c) (xinit args 0 .nil) H = some (e, T1, H1) → (e = .normal ∨ e = .ret) → ires T1 H1 rs = some x → H1 = H' → AT P fn'.ntmps c (tinit args 0) H (bodyQ P fn' fun y H1 => y = x ∧ H1 = H') := by
                      rintro e T1 H1 k1 k2 k3 rfl
                      have hAT := xcode_ok (nt := fn'.ntmps) ih ihf hm c _ _ _ _ _ hcd k1
                      intro K G a w hr ht
                      refine wp_mono (hAT K G a w hr (ht.congr hxi)) fun e1 a1 w1 ⟨G', T2, H2, r1, r2, r3, r4, r5, r6⟩ => ?_
                      subst r4; subst r5; subst r6
                      refine ⟨G', T2, H2, r1, r2, r3, ?_⟩
                      rcases k2 with rfl | rfl <;> exact ⟨x, ires_ok hrs k3, rfl, rfl⟩
                    cases hx : xcode (arun P good hook F n) F (cCode P fn'.ntmps c) (xinit args 0 .nil) H with
                    | none => rw [hx] at h; simp [xend] at h
                    | some r =>
                      obtain ⟨e, T1, H1⟩ := r
                      rw [hx] at h
                      cases e with
                      | normal =>
                        simp only [xend] at h
                        split at h
                        · rename_i y hy; cases h; exact main _ _ _ hx (.inl rfl) hy rfl
                        · cases h
                      | ret =>
                        simp only [xend] at h
                        split at h
                        · rename_i y hy; cases h; exact main _ _ _ hx (.inr rfl) hy rfl
                        · cases h
                      | exit id => simp [xend] at h
                  · cases hfn
                · cases hfn
            · cases hfn
      · cases h
end
end Go.Abs
