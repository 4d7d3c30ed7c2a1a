/- What is not used may be there. -/
import Derived.Test.YtcnnobcncklgfaaGreatDoorAbsRun4
namespace Go.Abs
open Go Go.RowKit
set_option linter.unusedVariables false
/-- The same, and more groups. -/
structure Ext (R : Nat → Option Grp) (H H2 : AH) : Prop where
  next : H2.next = H.next
  gs : ∀ g, H2.gs.get g = match R g with | some r => some r | none => H.gs.get g
  ms : ∀ g, H2.ms.get g = H.ms.get g
def Apart (R : Nat → Option Grp) (H : AH) : Prop := ∀ g r, R g = some r → H.gs.get g = none
def Grows (H H' : AH) : Prop := ∀ g, H'.gs.get g = none → H.gs.get g = none
theorem Grows.refl (H : AH) : Grows H H := fun _ h => h
theorem Grows.trans {A B C : AH} (h : Grows A B) (k : Grows B C) : Grows A C := fun g hg => h g (k g hg)
theorem Apart.back {R : Nat → Option Grp} {H H' : AH} (h : Apart R H') (hg : Grows H H') : Apart R H := fun g r hr => hg g (h g r hr)
theorem Ext.get {R : Nat → Option Grp} {H H2 : AH} (h : Ext R H H2) (ha : Apart R H) {g : Nat} {r : Grp} (hg : H.gs.get g = some r) : H2.gs.get g = some r := by
  rw [h.gs]
  cases hR : R g with
  | none => exact hg
  | some r' => rw [ha g r' hR] at hg; cases hg
/-- What an operation, a call, does with what is there. -/
def FrameR (x : AV) (H H' : AH) (f : AH → Option (AV × AH)) : Prop :=
  Grows H H' ∧ ∀ R H2, Ext R H H2 → Apart R H' → ∃ H2', f H2 = some (x, H2') ∧ Ext R H' H2'
theorem FrameR.same {x : AV} {H : AH} {f : AH → Option (AV × AH)} (h : ∀ R H2, Ext R H H2 → Apart R H → f H2 = some (x, H2)) : FrameR x H H f :=
  ⟨Grows.refl H, fun R H2 he ha => ⟨H2, h R H2 he ha, he⟩⟩
theorem cellsAt_ext {R : Nat → Option Grp} {H H2 : AH} (he : Ext R H H2) (ha : Apart R H) {x : AV} {n : Nat} {cs : List AV} (h : cellsAt H x n = some cs) : cellsAt H2 x n = some cs := by
  unfold cellsAt at h ⊢
  cases x <;> simp only at h ⊢ <;> try (exact h)
  rename_i g e i
  split at h
  · rename_i r hr
    rw [he.get ha hr]
    exact h
  · cases h
theorem iload_ext {R : Nat → Option Grp} {H H2 : AH} (he : Ext R H H2) (ha : Apart R H) {x : AV} {n : Option Nat} {y : AV} (h : iload n H x = some y) : iload n H2 x = some y := by
  unfold iload at h ⊢
  cases n with
  | some n =>
    simp only at h ⊢
    split at h
    · rename_i cs e; rw [cellsAt_ext he ha e]; exact h
    · cases h
  | none =>
    simp only at h ⊢
    split at h
    · rename_i c rest e; rw [cellsAt_ext he ha e]; exact h
    · cases h
theorem listCells_ext {R : Nat → Option Grp} {H H2 : AH} (he : Ext R H H2) (ha : Apart R H) {x : AV} {z : Nat} {y : Nat × List AV} (h : listCells H z x = some y) : listCells H2 z x = some y := by
  unfold listCells at h ⊢
  cases x <;> simp only at h ⊢ <;> try (exact h)
  rename_i g e i len z'
  split at h
  · rename_i r hr
    rw [he.get ha hr]
    exact h
  · cases h
/-- A group is put in. -/
def AH.put (H : AH) (g : Nat) (r : Grp) (nx : Nat) : AH := ⟨nx, H.gs.set g r, H.ms⟩
theorem Grows.put (H : AH) (g : Nat) (r : Grp) (nx : Nat) : Grows H (H.put g r nx) := fun g' h => by
  simp only [AH.put, Tr.get_set] at h
  split at h
  · cases h
  · exact h
theorem Ext.put {R : Nat → Option Grp} {H H2 : AH} (he : Ext R H H2) {g : Nat} {r : Grp} {nx : Nat} (hR : R g = none) : Ext R (H.put g r nx) (H2.put g r nx) := by
  refine ⟨rfl, fun g' => ?_, he.ms⟩
  simp only [AH.put, Tr.get_set]
  by_cases hg : g' = g
  · subst hg; simp [hR]
  · simp only [if_neg hg]; exact he.gs g'
theorem Apart.not {R : Nat → Option Grp} {H : AH} {g : Nat} {r : Grp} {nx : Nat} (ha : Apart R (H.put g r nx)) : R g = none := by
  cases hR : R g with
  | none => rfl
  | some r' => have := ha g r' hR; simp [AH.put, Tr.get_set] at this
theorem Ext.free {R : Nat → Option Grp} {H H2 : AH} (he : Ext R H H2) (hR : R H.next = none) (h : H.free = true) : H2.free = true := by
  unfold AH.free
  rw [he.next, he.gs, hR]
  simp only
  rw [AH.free_ok h]
theorem FrameR.add {x : AV} {H : AH} {xs : List AV} {f : AH → Option (AV × AH)} (h : ∀ R H2, Ext R H H2 → Apart R H → R H.next = none → f H2 = some (x, H2.add xs)) : FrameR x H (H.add xs) f := by
  have hp : H.add xs = H.put H.next ⟨0, 0, xs⟩ (H.next + 1) := rfl
  refine ⟨by rw [hp]; exact Grows.put _ _ _ _, fun R H2 he ha => ?_⟩
  rw [hp] at ha ⊢
  have hR := ha.not
  refine ⟨H2.add xs, h R H2 he (ha.back (Grows.put _ _ _ _)) hR, ?_⟩
  have : H2.add xs = H2.put H.next ⟨0, 0, xs⟩ (H.next + 1) := by unfold AH.add AH.put; rw [he.next]
  rw [this]
  exact he.put hR
theorem FrameR.set {x : AV} {H : AH} {g : Nat} {r r' : Grp} {f : AH → Option (AV × AH)} (hg : H.gs.get g = some r) (h : ∀ R H2, Ext R H H2 → Apart R H → f H2 = some (x, ⟨H2.next, H2.gs.set g r', H2.ms⟩)) : FrameR x H ⟨H.next, H.gs.set g r', H.ms⟩ f := by
  refine ⟨Grows.put H g r' H.next, fun R H2 he ha => ?_⟩
  have ha' : Apart R H := ha.back (Grows.put H g r' H.next)
  have hR : R g = none := by
    cases hR : R g with
    | none => rfl
    | some q => rw [ha' g q hR] at hg; cases hg
  refine ⟨_, h R H2 he ha', ?_⟩
  have := he.put (r := r') (nx := H.next) hR
  rw [show (⟨H2.next, H2.gs.set g r', H2.ms⟩ : AH) = H2.put g r' H.next by unfold AH.put; rw [he.next]]
  exact this
set_option maxHeartbeats 2000000 in
theorem iop_frame {T : Tr AV} {op : IOp} {H H' : AH} {x : AV} (h : iop T op H = some (x, H')) : FrameR x H H' (iop T op) := by
  cases op <;> simp only [iop] at h
  case load n a =>
    split at h
    · rename_i p e1
      split at h
      · rename_i y e2
        cases h
        exact FrameR.same fun R H2 he ha => by simp only [iop, e1, iload_ext he ha e2]
      · cases h
    · cases h
  case b2s a =>
    split at h
    · rename_i p e1
      split at h
      · rename_i m xs e2
        split at h
        · rename_i l e3
          cases h
          exact FrameR.same fun R H2 he ha => by simp only [iop, e1, listCells_ext he ha e2, e3]
        · cases h
      · cases h
    · cases h
  case new a =>
    split at h
    · rename_i p e1
      unfold abox at h
      split at h
      · rename_i hc
        cases h
        refine FrameR.add fun R H2 he ha hR => ?_
        simp only [iop, e1, abox]
        rw [if_pos ⟨hc.1, hc.2.1, he.free hR hc.2.2⟩, he.next]
      · cases h
    · cases h
  case bslice z n zs parts =>
    split at h
    · rename_i ps e1
      split at h
      · rename_i cs e2
        cases hf : H.free with
        | false => rw [hf] at h; cases h
        | true =>
          rw [hf] at h
          cases h
          refine FrameR.add fun R H2 he ha hR => ?_
          simp only [iop, e1, e2, he.free hR hf, cond_true, he.next]
      · cases h
    · cases h
  case mksl z b zs l c =>
    split at h
    · rename_i k n e1
      split at h
      · rename_i k' m e2
        split at h
        · rename_i hc
          cases h
          refine FrameR.add fun R H2 he ha hR => ?_
          simp only [iop, e1, e2]
          rw [if_pos ⟨hc.1, hc.2.1, hc.2.2.1, hc.2.2.2.1, hc.2.2.2.2.1, he.free hR hc.2.2.2.2.2⟩, he.next]
        · cases h
      · cases h
    · cases h
  case store n a b =>
    split at h
    · rename_i p e1
      split at h
      · rename_i v e2
        split at h
        · rename_i H1 e3
          cases h
          unfold istore at e3
          split at e3
          · rename_i g e i
            split at e3
            · rename_i r hr
              split at e3
              · rename_i hc
                cases e3
                refine FrameR.set hr fun R H2 he ha => ?_
                simp only [iop, e1, e2, istore, he.get ha hr]
                rw [if_pos hc]
              · cases e3
            · cases e3
          · cases e3
        · cases h
      · cases h
    · cases h
  case app z b s a =>
    split at h
    · rename_i s' e1
      split at h
      · rename_i x' e2
        unfold iapp at h
        split at h
        · rename_i m xs e3
          by_cases hm : m = 0
          · rw [if_pos hm] at h
            split at h
            · rename_i hs
              cases h
              refine FrameR.same fun R H2 he ha => ?_
              simp only [iop, e1, e2, iapp, listCells_ext he ha e3]
              rw [if_pos hm, if_pos hs]
            · cases h
          · rw [if_neg hm] at h
            split at h
            · rename_i g a' i len z'
              split at h
              · rename_i r hr
                split at h
                · rename_i hc
                  cases h
                  refine FrameR.set hr fun R H2 he ha => ?_
                  simp only [iop, e1, e2, iapp, listCells_ext he ha e3]
                  rw [if_neg hm]
                  simp only [he.get ha hr]
                  rw [if_pos hc]
                · cases h
              · cases h
            · split at h
              · rename_i hc
                cases h
                refine FrameR.add fun R H2 he ha hR => ?_
                simp only [iop, e1, e2, iapp, listCells_ext he ha e3]
                rw [if_neg hm, if_pos ⟨hc.1, hc.2.1, he.free hR hc.2.2⟩, he.next]
              · cases h
            · split at h
              · rename_i hc
                cases h
                refine FrameR.add fun R H2 he ha hR => ?_
                simp only [iop, e1, e2, iapp, listCells_ext he ha e3]
                rw [if_neg hm, if_pos ⟨hc.1, hc.2.1, he.free hR hc.2.2⟩, he.next]
              · cases h
            · cases h
        · cases h
      · cases h
    · cases h
  case appz z b zs s a =>
    split at h
    · rename_i e1
      split at h
      · rename_i k n e2
        split at h
        · rename_i hc
          cases h
          refine FrameR.add fun R H2 he ha hR => ?_
          simp only [iop, e1, e2]
          rw [if_pos ⟨hc.1, hc.2.1, hc.2.2.1, he.free hR hc.2.2.2⟩, he.next]
        · cases h
      · cases h
    · cases h
  case len isS a =>
    cases isS
    all_goals
      (simp only [cond_true, cond_false] at h
       repeat' (split at h <;> try (cases h; done)))
      all_goals (cases h; exact FrameR.same fun R H2 _ _ => by simp only [iop, cond_true, cond_false, *])
  all_goals
    (repeat' (split at h <;> try (cases h; done)))
    all_goals (cases h; exact FrameR.same fun R H2 _ _ => by first | (simp only [iop, *]; done) | (simp [iop, *]; done))
end Go.Abs
