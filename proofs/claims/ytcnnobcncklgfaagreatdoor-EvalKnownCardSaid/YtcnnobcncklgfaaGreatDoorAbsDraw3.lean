/- A row of operations in any order that its edges leave. -/
import Derived.Test.YtcnnobcncklgfaaGreatDoorAbsDraw2
namespace Go.Abs
open Go Go.RowKit
set_option linter.unusedVariables false
structure DEq (s s' : DS) : Prop where
  T : ∀ p, s'.T.getP p = s.T.getP p
  H : HE s.H s'.H
  W : WEq s.W s'.W
theorem DEq.refl (s : DS) : DEq s s := ⟨fun _ => rfl, HE.refl _, WEq.refl _⟩
theorem DEq.trans {a b c : DS} (h : DEq a b) (k : DEq b c) : DEq a c := ⟨fun p => (k.T p).trans (h.T p), h.H.trans k.H, fun e => (k.W e).trans (h.W e)⟩
theorem getP_xput (T : Tr AV) (d : Option Pth) (x : AV) (q : Pth) : (xput T d x).getP q = if d = some q then some x else T.getP q := by
  cases d with
  | none => simp [xput]
  | some p =>
    simp only [xput, Tr.getP_setP, Option.some.injEq]
    by_cases h : q = p
    · rw [if_pos h, if_pos h.symm]
    · rw [if_neg h, if_neg (Ne.symm h)]
theorem gval_agree {T T' : Tr AV} {g : Option (Pth × Bool)} (h : Agree (gL g) T T') : gval T g = gval T' g := by
  cases g with
  | none => rfl
  | some x => obtain ⟨p, b⟩ := x; simp only [gval, h p (by simp [gL])]
section
variable {call : ICall} {base : Nat}
theorem eff_agree {T T' : Tr AV} {k : DK} (h : Agree (dkL k) T T') (H : AH) (W : List WE) (idx : Nat) : eff call base T H W idx k = eff call base T' H W idx k := by
  cases k with
  | pure i => simp only [eff, iop_agree (show Agree (opL i) T T' from h)]
  | load n x => simp only [eff, iev_agree (show Agree (ioL x) T T' from h)]
  | k2 k w => simp only [eff, xop_agree (show Agree (kL k) T T' from h)]
  | alloc i => simp only [eff, iop_agree (show Agree (opL i) T T' from h)]
theorem dstep_congr (hf : CallFrame call) {d : DOp} {s s' s1 : DS} (hk : d.k.ok = true) (he : DEq s s') (h : dstep call base d s = some s1) : ∃ s1', dstep call base d s' = some s1' ∧ DEq s1 s1' := by
  have hg : gval s'.T d.guard = gval s.T d.guard := gval_agree fun p _ => he.T p
  have hput : ∀ x, ∀ p, (xput s'.T d.dst x).getP p = (xput s.T d.dst x).getP p := fun x p => by rw [getP_xput, getP_xput, he.T]
  unfold dstep at h ⊢
  rw [hg]
  split at h
  · cases h
  · cases h
    exact ⟨_, rfl, hput _, he.H, he.W⟩
  · split at h
    · rename_i x H' W' e
      cases h
      obtain ⟨H1', W1', k1, k2, k3⟩ := eff_congr hf hk he.H he.W e
      rw [eff_agree (T' := s'.T) (fun p _ => (he.T p).symm)] at k1
      simp only [k1]
      exact ⟨_, rfl, hput _, k2, k3⟩
    · cases h
/-- The slots of two are apart. -/
def sApart (d1 d2 : DOp) : Bool :=
  (match d1.dst with | some p => !(d2.looks.elem p) && !(decide (d2.dst = some p)) | none => true) && (match d2.dst with | some p => !(d1.looks.elem p) | none => true)
theorem sApart_ok {d1 d2 : DOp} (h : sApart d1 d2 = true) : (∀ p, d1.dst = some p → p ∉ d2.looks ∧ d2.dst ≠ some p) ∧ ∀ p, d2.dst = some p → p ∉ d1.looks := by
  unfold sApart at h
  simp only [Bool.and_eq_true] at h
  refine ⟨fun p hp => ?_, fun p hp => ?_⟩
  · have := h.1
    rw [hp] at this
    simpa using this
  · have := h.2
    rw [hp] at this
    simpa using this
theorem agree_put {l : List Pth} {T : Tr AV} {d : Option Pth} {x : AV} (h : ∀ p, d = some p → p ∉ l) : Agree l (xput T d x) T := fun q hq => by
  rw [getP_xput, if_neg]
  intro e
  exact h q e hq
def swapOK (d1 d2 : DOp) : Bool := sApart d1 d2 && pairOK d1.idx d1.k d2.idx d2.k
theorem dstep_swap (hf : CallFrame call) {d1 d2 : DOp} {s s1 s2 : DS} (hk1 : d1.k.ok = true) (hk2 : d2.k.ok = true) (hs : swapOK d1 d2 = true) (h1 : dstep call base d1 s = some s1) (h2 : dstep call base d2 s1 = some s2) :
    ∃ t1 t2, dstep call base d2 s = some t1 ∧ dstep call base d1 t1 = some t2 ∧ DEq s2 t2 := by
  unfold swapOK at hs
  simp only [Bool.and_eq_true] at hs
  obtain ⟨ha, hp⟩ := hs
  obtain ⟨a1, a2⟩ := sApart_ok ha
  have ag2 : ∀ x, Agree d2.looks (xput s.T d1.dst x) s.T := fun x => agree_put fun p hp => (a1 p hp).1
  have ag1 : ∀ x, Agree d1.looks (xput s.T d2.dst x) s.T := fun x => agree_put fun p hp => a2 p hp
  have putT : ∀ x y p, (xput (xput s.T d2.dst y) d1.dst x).getP p = (xput (xput s.T d1.dst x) d2.dst y).getP p := by
    intro x y p
    simp only [getP_xput]
    by_cases e1 : d1.dst = some p
    · rw [if_pos e1, if_neg (a1 p e1).2, if_pos e1]
    · rw [if_neg e1]
      by_cases e2 : d2.dst = some p
      · rw [if_pos e2, if_pos e2]
      · rw [if_neg e2, if_neg e2, if_neg e1]
  have g2 : ∀ x, gval (xput s.T d1.dst x) d2.guard = gval s.T d2.guard := fun x => gval_agree (fun p hp => ag2 x p (List.mem_append_left _ hp))
  have g1 : ∀ x, gval (xput s.T d2.dst x) d1.guard = gval s.T d1.guard := fun x => gval_agree (fun p hp => ag1 x p (List.mem_append_left _ hp))
  have e2 : ∀ x H W, eff call base (xput s.T d1.dst x) H W d2.idx d2.k = eff call base s.T H W d2.idx d2.k := fun x H W => eff_agree (fun p hp => ag2 x p (List.mem_append_right _ hp)) H W _
  have e1 : ∀ x H W, eff call base (xput s.T d2.dst x) H W d1.idx d1.k = eff call base s.T H W d1.idx d1.k := fun x H W => eff_agree (fun p hp => ag1 x p (List.mem_append_right _ hp)) H W _
  unfold dstep at h1
  split at h1
  · cases h1
  · rename_i hg1
    cases h1
    unfold dstep at h2
    simp only [g2] at h2
    split at h2
    · cases h2
    · rename_i hg2
      cases h2
      refine ⟨⟨xput s.T d2.dst .und, s.H, s.W⟩, ⟨xput (xput s.T d2.dst .und) d1.dst .und, s.H, s.W⟩, by simp only [dstep, hg2], by simp only [dstep, g1, hg1], putT _ _, HE.refl _, WEq.refl _⟩
    · rename_i hg2
      split at h2
      · rename_i x H' W' e
        cases h2
        rw [e2] at e
        refine ⟨⟨xput s.T d2.dst x, H', W'⟩, ⟨xput (xput s.T d2.dst x) d1.dst .und, H', W'⟩, by simp only [dstep, hg2, e], by simp only [dstep, g1, hg1], putT _ _, HE.refl _, WEq.refl _⟩
      · cases h2
  · rename_i hg1
    split at h1
    · rename_i x1 H1 W1 hx1
      cases h1
      unfold dstep at h2
      simp only [g2] at h2
      split at h2
      · cases h2
      · rename_i hg2
        cases h2
        refine ⟨⟨xput s.T d2.dst .und, s.H, s.W⟩, ⟨xput (xput s.T d2.dst .und) d1.dst x1, H1, W1⟩, by simp only [dstep, hg2], by simp only [dstep, g1, hg1, e1, hx1], putT _ _, HE.refl _, WEq.refl _⟩
      · rename_i hg2
        split at h2
        · rename_i x2 H2 W2 hx2
          cases h2
          rw [e2] at hx2
          obtain ⟨H1', W1', k1, H2', W2', k2, k3, k4⟩ := eff_comm hf hk1 hk2 hp hx1 hx2
          refine ⟨⟨xput s.T d2.dst x2, H1', W1'⟩, ⟨xput (xput s.T d2.dst x2) d1.dst x1, H2', W2'⟩, by simp only [dstep, hg2, k1], by simp only [dstep, g1, hg1, e1, k2], putT _ _, k3, k4⟩
        · cases h2
    · cases h1
def drun (call : ICall) (base : Nat) : List DOp → DS → Option DS
  | [], s => some s
  | d :: ds, s => match dstep call base d s with
    | some s' => drun call base ds s'
    | none => none
theorem drun_congr (hf : CallFrame call) : ∀ {ds : List DOp} {s s' s1 : DS}, (∀ d ∈ ds, d.k.ok = true) → DEq s s' → drun call base ds s = some s1 → ∃ s1', drun call base ds s' = some s1' ∧ DEq s1 s1'
  | [], s, s', s1, hk, he, h => by
    simp only [drun] at h
    cases h
    exact ⟨s', rfl, he⟩
  | d :: ds, s, s', s1, hk, he, h => by
    simp only [drun] at h
    split at h
    · rename_i u hu
      obtain ⟨u', k1, k2⟩ := dstep_congr hf (hk d (List.mem_cons_self ..)) he hu
      obtain ⟨s1', k3, k4⟩ := drun_congr hf (fun d hd => hk d (List.mem_cons_of_mem _ hd)) k2 h
      exact ⟨s1', by simp only [drun, k1, k3], k4⟩
    · cases h
theorem drun_front (hf : CallFrame call) {i : DOp} {β : List DOp} : ∀ {α : List DOp} {s s1 : DS}, (∀ d ∈ α ++ i :: β, d.k.ok = true) → (∀ x ∈ α, swapOK x i = true) → drun call base (α ++ i :: β) s = some s1 →
    ∃ u v, dstep call base i s = some u ∧ drun call base (α ++ β) u = some v ∧ DEq s1 v
  | [], s, s1, hk, hs, h => by
    simp only [List.nil_append, drun] at h
    split at h
    · rename_i u hu; exact ⟨u, s1, hu, h, DEq.refl _⟩
    · cases h
  | x :: α, s, s1, hk, hs, h => by
    simp only [List.cons_append, drun] at h
    split at h
    · rename_i u hu
      obtain ⟨v, w, k1, k2, k3⟩ := drun_front hf (fun d hd => hk d (List.mem_cons_of_mem _ hd)) (fun y hy => hs y (List.mem_cons_of_mem _ hy)) h
      obtain ⟨t1, t2, q1, q2, q3⟩ := dstep_swap hf (hk x (List.mem_cons_self ..)) (hk i (by simp)) (hs x (List.mem_cons_self ..)) hu k1
      obtain ⟨w', r1, r2⟩ := drun_congr hf (fun d hd => hk d (by simp only [List.cons_append, List.mem_cons, List.mem_append] at hd ⊢; rcases hd with h | h <;> simp [h])) q3 k2
      exact ⟨t1, w', q1, by simp only [List.cons_append, drun, q2]; exact r1, k3.trans r2⟩
    · cases h
end
end Go.Abs
