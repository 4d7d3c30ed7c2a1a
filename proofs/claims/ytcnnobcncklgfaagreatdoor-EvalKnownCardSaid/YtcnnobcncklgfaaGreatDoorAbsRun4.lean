/- Code that is looked up, carried out. -/
import Derived.Test.YtcnnobcncklgfaaGreatDoorAbsRun3
import Derived.Scope
namespace Go.Abs
open Go Go.RowKit
set_option linter.unusedVariables false
inductive IK where
  | op (o : IOp)
  | call (f : Opd) (args : List Opd)
structure IOper where
  dst : Option Pth
  guard : Option (Pth × Bool)
  op : IK
abbrev ICall := FuncId → List AV → AH → Option (AV × AH)
def xput (T : Tr AV) : Option Pth → AV → Tr AV
  | none, _ => T
  | some p, x => Tr.setP p T x
def xop (call : ICall) (T : Tr AV) (H : AH) : IK → Option (AV × AH)
  | .op o => iop T o H
  | .call f args => match iev T f with
    | some (.fn (.func g) cap) => match ievs T args with
      | some xs => call g (xs ++ cap) H
      | none => none
    | _ => none
def xops (call : ICall) : List IOper → Tr AV → AH → Option (Tr AV × AH)
  | [], T, H => some (T, H)
  | o :: os, T, H => match o.guard with
    | none => match xop call T H o.op with
      | some (x, H') => xops call os (xput T o.dst x) H'
      | none => none
    | some (p, want) => match T.getP p with
      | some (.bool b) => bif b == want then (match xop call T H o.op with
          | some (x, H') => xops call os (xput T o.dst x) H'
          | none => none) else xops call os (xput T o.dst .und) H
      | some .und => xops call os (xput T o.dst .und) H
      | _ => none
def cDst (nt : Nat) : Option Tmp → Option (Option Pth)
  | none => some none
  | some d => if d < nt then some (some (Tr.path d)) else none
def cGuard (nt : Nat) (ops : Array Oper) (o : Oper) : Option (Option (Pth × Bool)) :=
  match o.guard with
  | none => some none
  | some (j, want) => match (ops[j]?).bind (·.dst) with
    | some d => if d < nt then some (some (Tr.path d, want)) else none
    | none => none
def cK (P : Program) : Op → Option IK
  | .call c => match c.callee with
    | .value f => match cO f, cOs c.args.toList with
      | some f, some xs => some (.call f xs)
      | _, _ => none
    | _ => match cOp P (.call c) with | some i => some (.op i) | none => none
  | op => match cOp P op with | some i => some (.op i) | none => none
def cOper (P : Program) (nt : Nat) (ops : Array Oper) (o : Oper) : Option IOper :=
  match cDst nt o.dst, cGuard nt ops o, cK P o.op with
  | some d, some g, some k => some ⟨d, g, k⟩
  | _, _, _ => none
/-- Where a call's answer is right. -/
def CallOK (P : Program) (call : ICall) : Prop := ∀ g xs H x H', call g xs H = some (x, H') → callableB P g = true ∧ ACalls P g xs H fun y H1 => y = x ∧ H1 = H'
theorem TRel.congr {G : Gh} {nt : Nat} {T T' : Tr AV} {a : Act} (h : TRel G nt T a) (he : ∀ k, T'.get k = T.get k) : TRel G nt T' a := ⟨h.defers, h.size, fun t x hx => h.at' t x (by rw [← he]; exact hx)⟩
theorem AOps.congr {P : Program} {nt : Nat} {ops : Array Oper} {l : List Nat} {T T' : Tr AV} {H : AH} {Q : Exit → Tr AV → AH → Prop} (he : ∀ k, T'.get k = T.get k) (h : AOps P nt ops l T' H Q) : AOps P nt ops l T H Q := fun K G a w hr ht =>
  h K G a w hr (ht.congr he)
theorem cDst_ok {nt : Nat} {d : Option Tmp} {p : Option Pth} (h : cDst nt d = some p) (T : Tr AV) (x : AV) : ∃ T', tput nt T d x = some T' ∧ ∀ k, (xput T p x).get k = T'.get k := by
  cases d with
  | none => simp only [cDst] at h; cases h; exact ⟨T, rfl, fun k => rfl⟩
  | some d =>
    simp only [cDst] at h
    split at h
    · rename_i hd
      cases h
      refine ⟨T.set d x, by simp [tput, hd], fun k => ?_⟩
      rw [xput, Tr.get_setP, Tr.get_set]
    · cases h
def bval : Option AV → Bool → Option Bool
  | some (.bool b), want => some (b == want)
  | some .und, _ => some false
  | _, _ => none
def gval (T : Tr AV) : Option (Pth × Bool) → Option Bool
  | none => some true
  | some (p, want) => bval (T.getP p) want
theorem cGuard_ok {nt : Nat} {ops : Array Oper} {o : Oper} {g : Option (Pth × Bool)} (h : cGuard nt ops o = some g) :
    guardIn ops nt o = true ∧ ∀ T, wantedA ops T o = gval T g := by
  unfold cGuard at h
  split at h
  · rename_i hg
    cases h
    exact ⟨by simp [guardIn, hg], fun T => by simp [wantedA, hg, gval]⟩
  · rename_i j want hg
    split at h
    · rename_i d hd
      split at h
      · rename_i hlt
        cases h
        refine ⟨by simp [guardIn, hg, hd, hlt], fun T => ?_⟩
        simp only [wantedA, hg, hd, gval, Tr.getP_eq]
        cases T.get d with
        | none => rfl
        | some v => cases v <;> rfl
      · cases h
    · cases h
section
variable {P : Program} {nt : Nat} {ops : Array Oper} {call : ICall}
/-- One that is carried out. -/
theorem AOps.run {i : Nat} {l : List Nat} {o : Oper} {io : IOper} {T : Tr AV} {H H' : AH} {x : AV} {Q : Exit → Tr AV → AH → Prop} (hcall : CallOK P call) (ho : ops[i]? = some o) (hc : cOper P nt ops o = some io)
    (hw : wantedA ops T o = some true) (hx : xop call T H io.op = some (x, H')) (h : AOps P nt ops l (xput T io.dst x) H' Q) : AOps P nt ops (i :: l) T H Q := by
  unfold cOper at hc
  split at hc
  · rename_i d g k e1 e2 e3
    cases hc
    obtain ⟨hg, _⟩ := cGuard_ok e2
    obtain ⟨T', ht, he⟩ := cDst_ok e1 T x
    have hop : ∀ i' : IOp, cOp P o.op = some i' → k = .op i' → AOps P nt ops (i :: l) T H Q := by
      intro i' h1 h2
      subst h2
      exact AOps.op ho hg hw (cOp_ok h1 hx) ht (AOps.congr he h)
    cases hk : o.op with
    | call c =>
      rw [hk] at e3
      simp only [cK] at e3
      split at e3
      · rename_i f hf
        split at e3
        · rename_i f' xs' h1 h2
          cases e3
          simp only [xop, cO_ok h1 T, cOs_ok h2 T] at hx
          split at hx
          · rename_i gg cap h3
            split at hx
            · rename_i ys h4
              obtain ⟨q1, q2⟩ := hcall _ _ _ _ _ hx
              refine AOps.call (R := fun y H1 => y = x ∧ H1 = H') ho hg hw hk ?_ q1 q2 ?_
              · unfold acallee; rw [hf]; simp only [h3, h4]
              · rintro y H1 ⟨rfl, rfl⟩
                exact ⟨T', ht, AOps.congr he h⟩
            · cases hx
          · cases hx
        · cases e3
      · split at e3
        · rename_i i' h1; cases e3; exact hop i' (by rw [hk]; exact h1) rfl
        · cases e3
    | _ =>
      rw [hk] at e3
      simp only [cK] at e3
      split at e3
      · rename_i i' h1; cases e3; exact hop i' (by rw [hk]; exact h1) rfl
      · cases e3
  · cases hc
theorem AOps.skip {i : Nat} {l : List Nat} {o : Oper} {io : IOper} {T : Tr AV} {H : AH} {Q : Exit → Tr AV → AH → Prop} (ho : ops[i]? = some o) (hc : cOper P nt ops o = some io)
    (hw : wantedA ops T o = some false) (h : AOps P nt ops l (xput T io.dst .und) H Q) : AOps P nt ops (i :: l) T H Q := by
  unfold cOper at hc
  split at hc
  · rename_i d g k e1 e2 e3
    cases hc
    obtain ⟨hg, _⟩ := cGuard_ok e2
    obtain ⟨T', ht, he⟩ := cDst_ok e1 T .und
    exact AOps.no ho hg hw ht (AOps.congr he h)
  · cases hc
theorem cOper_guard {o : Oper} {io : IOper} (hc : cOper P nt ops o = some io) (T : Tr AV) : wantedA ops T o = gval T io.guard := by
  unfold cOper at hc
  split at hc
  · rename_i d g k e1 e2 e3
    cases hc
    exact (cGuard_ok e2).2 T
  · cases hc
theorem xops_ok (hcall : CallOK P call) : ∀ (l : List Nat) (is : List IOper) (T : Tr AV) (H : AH) (T' : Tr AV) (H' : AH), l.length = is.length → (∀ (j : Nat) i io, l[j]? = some i → is[j]? = some io → ∃ o, ops[i]? = some o ∧ cOper P nt ops o = some io) →
    xops call is T H = some (T', H') → AOps P nt ops l T H fun e T1 H1 => e = .normal ∧ T1 = T' ∧ H1 = H'
  | [], [], T, H, T', H', hl, hc, h => by
    simp only [xops] at h; cases h
    exact AOps.nil ⟨rfl, rfl, rfl⟩
  | [], _ :: _, T, H, T', H', hl, hc, h => by simp at hl
  | _ :: _, [], T, H, T', H', hl, hc, h => by simp at hl
  | i :: l, io :: is, T, H, T', H', hl, hc, h => by
    obtain ⟨o, ho, hco⟩ := hc 0 i io rfl rfl
    have hg := cOper_guard hco T
    have hl' : l.length = is.length := by simpa using hl
    have hc' : ∀ (j : Nat) i io, l[j]? = some i → is[j]? = some io → ∃ o, ops[i]? = some o ∧ cOper P nt ops o = some io := fun j i io h1 h2 => hc (j + 1) i io (by simpa using h1) (by simpa using h2)
    simp only [xops] at h
    split at h
    · rename_i e
      rw [e] at hg
      simp only [gval] at hg
      split at h
      · rename_i x H1 hx
        exact AOps.run hcall ho hco hg hx (xops_ok hcall l is _ _ _ _ hl' hc' h)
      · cases h
    · rename_i p want e
      rw [e] at hg
      simp only [gval] at hg
      split at h
      · rename_i b hb
        rw [hb] at hg
        simp only [bval] at hg
        cases hbw : b == want with
        | true =>
          rw [hbw] at h hg
          simp only [cond_true] at h
          split at h
          · rename_i x H1 hx
            exact AOps.run hcall ho hco hg hx (xops_ok hcall l is _ _ _ _ hl' hc' h)
          · cases h
        | false =>
          rw [hbw] at h hg
          simp only [cond_false] at h
          exact AOps.skip ho hco hg (xops_ok hcall l is _ _ _ _ hl' hc' h)
      · rename_i hb
        rw [hb] at hg
        simp only [bval] at hg
        exact AOps.skip ho hco hg (xops_ok hcall l is _ _ _ _ hl' hc' h)
      · cases h
end
end Go.Abs
