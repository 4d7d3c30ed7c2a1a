/- Two that may come in either order. -/
import Derived.Test.YtcnnobcncklgfaaGreatDoorAbsDraw
namespace Go.Abs
open Go Go.RowKit
set_option linter.unusedVariables false
def R0 : Nat → Option Grp := fun _ => none
def Rone (r : Nat) (G : Grp) : Nat → Option Grp := fun g => if g = r then some G else none
/-- The same memory. -/
def HE (A B : AH) : Prop := B.next = A.next ∧ (∀ g, B.gs.get g = A.gs.get g) ∧ ∀ g, B.ms.get g = A.ms.get g
theorem HE.refl (A : AH) : HE A A := ⟨rfl, fun _ => rfl, fun _ => rfl⟩
theorem HE.trans {A B C : AH} (h : HE A B) (k : HE B C) : HE A C := ⟨k.1.trans h.1, fun g => (k.2.1 g).trans (h.2.1 g), fun g => (k.2.2 g).trans (h.2.2 g)⟩
theorem HE.ext {A B : AH} (h : HE A B) : Ext R0 A B := ⟨h.1, fun g => h.2.1 g, h.2.2⟩
theorem HE.of {A B : AH} (h : Ext R0 A B) : HE A B := ⟨h.next, fun g => h.gs g, h.ms⟩
theorem apart0 (H : AH) : Apart R0 H := fun g r h => by cases h
theorem ext_one {H : AH} {r : Nat} {G : Grp} : Ext (Rone r G) H (H.put r G H.next) := by
  refine ⟨rfl, fun g => ?_, fun g => rfl⟩
  simp only [AH.put, Tr.get_set, Rone]
  by_cases h : g = r
  · simp [h]
  · simp [h]
theorem apart_one {H : AH} {r : Nat} {G : Grp} (h : H.gs.get r = none) : Apart (Rone r G) H := fun g q hq => by
  unfold Rone at hq
  split at hq
  · rename_i e; rw [e]; exact h
  · cases hq
def CallFrame (call : ICall) : Prop := ∀ f args H x H', call f args H = some (x, H') → FrameR x H H' (call f args)
section
variable {call : ICall} {base : Nat}
theorem xop_frame (hf : CallFrame call) {T : Tr AV} {k : IK} {H H' : AH} {x : AV} (h : xop call T H k = some (x, H')) : FrameR x H H' (fun H => xop call T H k) := by
  cases k with
  | op o => exact iop_frame h
  | call f args =>
    simp only [xop] at h
    split at h
    · rename_i g cap e1
      split at h
      · rename_i xs e2
        obtain ⟨q1, q2⟩ := hf _ _ _ _ _ h
        refine ⟨q1, fun R H2 he ha => ?_⟩
        obtain ⟨H2', k1, k2⟩ := q2 R H2 he ha
        exact ⟨H2', by simp only [xop, e1, e2]; exact k1, k2⟩
      · cases h
    · cases h
def WEq (W W' : List WE) : Prop := ∀ e, e ∈ W' ↔ e ∈ W
theorem WEq.refl (W : List WE) : WEq W W := fun _ => Iff.rfl
theorem wcheck_eq {H H' : AH} {R : Nat → Option Grp} {watch : List Nat} {W W' : List WE} (he : Ext R H H') (ha : Apart R H) (hW : ∀ e, e ∈ W' → e ∈ W) (h : wcheck H watch W = true) : wcheck H' watch W' = true := by
  rw [wcheck_iff] at h ⊢
  intro e h1 h2
  obtain ⟨v, h3, h4⟩ := h e (hW e h1) h2
  exact ⟨v, iload_ext he ha h3, h4⟩
theorem eff_alloc {T : Tr AV} {H H2 : AH} {W W2 : List WE} {idx : Nat} {i : IOp} {x : AV} (hi : i.isAlloc = true) (h : eff call base T H W idx (.alloc i) = some (x, H2, W2)) :
    ∃ G, H2 = H.put (base + idx) G H.next ∧ W2 = W ∧ H.gs.get (base + idx) = none ∧ ∀ (K : AH) V, K.gs.get (base + idx) = none → eff call base T K V idx (.alloc i) = some (x, K.put (base + idx) G K.next, V) := by
  simp only [eff] at h
  split at h
  · rename_i x' H' e
    cases h
    obtain ⟨xs, rfl, q2, q3⟩ := iop_alloc hi e
    have hno : H.gs.get (base + idx) = none := AH.free_ok q2
    refine ⟨⟨0, 0, xs⟩, rfl, rfl, hno, fun K V hK => ?_⟩
    have hfree : (⟨base + idx, K.gs, K.ms⟩ : AH).free = true := by unfold AH.free; simp only [hK]
    simp only [eff, q3 ⟨base + idx, K.gs, K.ms⟩ rfl hfree]
    rfl
  · cases h
theorem eff_congr (hf : CallFrame call) {T : Tr AV} {H H' H1 : AH} {W W' W1 : List WE} {idx : Nat} {k : DK} {x : AV} (hk : k.ok = true) (hH : HE H H') (hW : WEq W W') (h : eff call base T H W idx k = some (x, H1, W1)) :
    ∃ H1' W1', eff call base T H' W' idx k = some (x, H1', W1') ∧ HE H1 H1' ∧ WEq W1 W1' := by
  cases k with
  | pure i =>
    simp only [eff] at h
    split at h
    · rename_i x' H2 e
      cases h
      obtain ⟨_, q⟩ := iop_pure hk e
      exact ⟨H', W', by simp only [eff, q H'], hH, hW⟩
    · cases h
  | load n i =>
    simp only [eff] at h
    split at h
    · rename_i p e
      split at h
      · rename_i v e2
        cases h
        refine ⟨H', _, by simp only [eff, e, iload_ext hH.ext (apart0 _) e2]; rfl, hH, fun e => ?_⟩
        simp only [List.mem_cons, hW e]
      · cases h
    · cases h
  | k2 kk watch =>
    simp only [eff] at h
    split at h
    · rename_i x' H2 e
      cases hc : wcheck H2 watch W with
      | false => rw [hc] at h; cases h
      | true =>
        rw [hc] at h
        cases h
        obtain ⟨_, q⟩ := xop_frame hf e
        obtain ⟨H2', k1, k2⟩ := q R0 H' hH.ext (apart0 _)
        have k1' : xop call T H' kk = some (x, H2') := k1
        refine ⟨H2', W', ?_, HE.of k2, hW⟩
        simp only [eff, k1', wcheck_eq k2 (apart0 _) (fun e he => (hW e).1 he) hc, cond_true]
    · cases h
  | alloc i =>
    obtain ⟨G, rfl, rfl, q1, q2⟩ := eff_alloc hk h
    refine ⟨_, _, q2 H' W' (by rw [hH.2.1]; exact q1), ⟨hH.1, fun g => ?_, hH.2.2⟩, hW⟩
    simp only [AH.put, Tr.get_set, hH.2.1]
def pairOK (i1 : Nat) (k1 : DK) (i2 : Nat) (k2 : DK) : Bool :=
  match k1, k2 with
  | .pure _, _ => true
  | _, .pure _ => true
  | .load .., .load .. => true
  | .load .., .alloc _ => true
  | .load .., .k2 _ watch => watch.elem i1
  | .k2 .., .alloc _ => true
  | .alloc _, .alloc _ => !(Nat.beq i1 i2)
  | _, _ => false
theorem eff_comm (hf : CallFrame call) {T : Tr AV} {H H1 H2 : AH} {W W1 W2 : List WE} {i1 i2 : Nat} {k1 k2 : DK} {x1 x2 : AV} (hk1 : k1.ok = true) (hk2 : k2.ok = true) (hp : pairOK i1 k1 i2 k2 = true)
    (h1 : eff call base T H W i1 k1 = some (x1, H1, W1)) (h2 : eff call base T H1 W1 i2 k2 = some (x2, H2, W2)) :
    ∃ H1' W1', eff call base T H W i2 k2 = some (x2, H1', W1') ∧ ∃ H2' W2', eff call base T H1' W1' i1 k1 = some (x1, H2', W2') ∧ HE H2 H2' ∧ WEq W2 W2' := by
  have hpure1 : ∀ i, k1 = .pure i → ∃ H1' W1', eff call base T H W i2 k2 = some (x2, H1', W1') ∧ ∃ H2' W2', eff call base T H1' W1' i1 k1 = some (x1, H2', W2') ∧ HE H2 H2' ∧ WEq W2 W2' := by
    intro i hi
    subst hi
    simp only [eff] at h1
    split at h1
    · rename_i x' H' e
      cases h1
      obtain ⟨_, q⟩ := iop_pure hk1 e
      exact ⟨H2, W2, h2, H2, W2, by simp only [eff, q H2], HE.refl _, WEq.refl _⟩
    · cases h1
  have hpure2 : ∀ i, k2 = .pure i → ∃ H1' W1', eff call base T H W i2 k2 = some (x2, H1', W1') ∧ ∃ H2' W2', eff call base T H1' W1' i1 k1 = some (x1, H2', W2') ∧ HE H2 H2' ∧ WEq W2 W2' := by
    intro i hi
    subst hi
    simp only [eff] at h2
    split at h2
    · rename_i x' H' e
      cases h2
      obtain ⟨_, q⟩ := iop_pure hk2 e
      exact ⟨H, W, by simp only [eff, q H], _, _, h1, HE.refl _, WEq.refl _⟩
    · cases h2
  have hload : ∀ n i, k1 = .load n i → ∃ p v, iev T i = some p ∧ iload n H p = some v ∧ x1 = v ∧ H1 = H ∧ W1 = ⟨i1, n, p, v⟩ :: W := by
    intro n i hi
    subst hi
    simp only [eff] at h1
    split at h1
    · rename_i p e
      split at h1
      · rename_i v e2
        cases h1
        exact ⟨p, _, e, e2, rfl, rfl, rfl⟩
      · cases h1
    · cases h1
  cases k1 with
  | pure i => exact hpure1 i rfl
  | load n1 a1 =>
    cases k2 with
    | pure i => exact hpure2 i rfl
    | load n2 a2 =>
      obtain ⟨p, v, e1, e2, rfl, rfl, rfl⟩ := hload _ _ rfl
      simp only [eff] at h2
      split at h2
      · rename_i p' e3
        split at h2
        · rename_i v' e4
          cases h2
          refine ⟨_, _, by simp only [eff, e3, e4]; rfl, _, _, by simp only [eff, e1, e2]; rfl, HE.refl _, fun e => ?_⟩
          simp only [List.mem_cons]
          exact ⟨fun h => by rcases h with h | h | h <;> simp [h], fun h => by rcases h with h | h | h <;> simp [h]⟩
        · cases h2
      · cases h2
    | k2 kk watch =>
      obtain ⟨p, v, e1, e2, rfl, rfl, rfl⟩ := hload _ _ rfl
      simp only [pairOK] at hp
      simp only [eff] at h2
      split at h2
      · rename_i x' H' e3
        cases hc : wcheck H' watch (⟨i1, n1, p, x1⟩ :: W) with
        | false => rw [hc] at h2; cases h2
        | true =>
          rw [hc] at h2
          cases h2
          have hc' := wcheck_iff.1 hc
          obtain ⟨v', q1, q2⟩ := hc' ⟨i1, n1, p, x1⟩ (List.mem_cons_self ..) (by simpa using hp)
          have q3 := avSame_ok q2
          simp only at q3
          subst q3
          have hcW : wcheck H2 watch W = true := wcheck_iff.2 fun e he hw => hc' e (List.mem_cons_of_mem _ he) hw
          refine ⟨H2, W, by simp only [eff, e3, hcW, cond_true], H2, _, by simp only [eff, e1, q1], HE.refl _, WEq.refl _⟩
      · cases h2
    | alloc i =>
      obtain ⟨p, v, e1, e2, rfl, rfl, rfl⟩ := hload _ _ rfl
      obtain ⟨G, rfl, rfl, q1, q2⟩ := eff_alloc hk2 h2
      exact ⟨_, W, q2 _ W q1, _, _, by simp only [eff, e1, iload_ext ext_one (apart_one q1) e2], HE.refl _, WEq.refl _⟩
  | k2 kk watch =>
    cases k2 with
    | pure i => exact hpure2 i rfl
    | load n2 a2 => simp [pairOK] at hp
    | k2 kk2 watch2 => simp [pairOK] at hp
    | alloc i =>
      simp only [eff] at h1
      split at h1
      · rename_i x' H' e3
        cases hc : wcheck H' watch W with
        | false => rw [hc] at h1; cases h1
        | true =>
          rw [hc] at h1
          cases h1
          obtain ⟨G, rfl, rfl, q1, q2⟩ := eff_alloc hk2 h2
          obtain ⟨hgr, q⟩ := xop_frame hf e3
          have hno : H.gs.get (base + i2) = none := hgr _ q1
          obtain ⟨H2', r1, r2⟩ := q (Rone (base + i2) G) (H.put (base + i2) G H.next) ext_one (apart_one q1)
          have r1' : xop call T (H.put (base + i2) G H.next) kk = some (x1, H2') := r1
          refine ⟨_, W2, q2 H W2 hno, H2', W2, ?_, ⟨r2.next, fun g => ?_, fun g => r2.ms g⟩, WEq.refl _⟩
          · simp only [eff, r1', wcheck_eq r2 (apart_one q1) (fun e he => he) hc, cond_true]
          · rw [r2.gs]
            simp only [AH.put, Tr.get_set, Rone]
            by_cases hg : g = base + i2
            · simp [hg]
            · simp [hg]
      · cases h1
  | alloc i =>
    cases k2 with
    | pure i => exact hpure2 i rfl
    | load n2 a2 => simp [pairOK] at hp
    | k2 kk2 watch2 => simp [pairOK] at hp
    | alloc j =>
      obtain ⟨G, rfl, rfl, q1, q2⟩ := eff_alloc hk1 h1
      obtain ⟨G', rfl, rfl, q3, q4⟩ := eff_alloc hk2 h2
      have hne : base + i1 ≠ base + i2 := by
        simp only [pairOK, Bool.not_eq_true'] at hp
        intro e
        have : i1 = i2 := by omega
        subst this
        rw [Nat.beq_refl] at hp
        cases hp
      have hno2 : H.gs.get (base + i2) = none := by
        simp only [AH.put, Tr.get_set] at q3
        rw [if_neg (Ne.symm hne)] at q3
        exact q3
      refine ⟨_, _, q4 H _ hno2, _, _, q2 _ _ (by simp only [AH.put, Tr.get_set]; rw [if_neg hne]; exact q1), ⟨rfl, fun g => ?_, fun g => rfl⟩, WEq.refl _⟩
      simp only [AH.put, Tr.get_set]
      by_cases h1 : g = base + i1
      · subst h1; rw [if_pos rfl, if_neg hne, if_pos rfl]
      · rw [if_neg h1, if_neg h1]
end
end Go.Abs
