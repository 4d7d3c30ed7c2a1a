/- What is not used may be there.   Operations whose order is open: whichever comes up, what is left is the same.   Two that may come in either order.   A row of operations in any order that its edges leave.   A region whose order is open.   Code, functions that are looked up.   What is carried out is what happens.   What is carried out is what happens: code, calls. -/
import Derived.Test.YtjnagmdbkkccpaaGreatDoorAbsII
import Derived.Orders
namespace Go.Abs
open Go Go.RowKit
set_option linter.unusedVariables false
/-- The same, and more groups. -/
structure Ext (R : Nat → Option Grp) (H H2 : AH) : Prop where
  next : H2.next = H.next
  gs : ∀ g, H2.gs.get g = match R g with | some r => some r | none => H.gs.get g
  ms : ∀ g, H2.ms.get g = H.ms.get g
def Apart (R : Nat → Option Grp) (H : AH) : Prop := ∀ g r, R g = some r → H.gs.get g = none
def Grows (H H' : AH) : Prop := ∀ g, H'.gs.get g = none → H.gs.get g = none
theorem Grows.refl (H : AH) : Grows H H := fun _ h => h
theorem Grows.trans {A B C : AH} (h : Grows A B) (k : Grows B C) : Grows A C := fun g hg => h g (k g hg)
theorem Apart.back {R : Nat → Option Grp} {H H' : AH} (h : Apart R H') (hg : Grows H H') : Apart R H := fun g r hr => hg g (h g r hr)
theorem Ext.get {R : Nat → Option Grp} {H H2 : AH} (h : Ext R H H2) (ha : Apart R H) {g : Nat} {r : Grp} (hg : H.gs.get g = some r) : H2.gs.get g = some r := by
  rw [h.gs]
  cases hR : R g with
  | none => exact hg
  | some r' => rw [ha g r' hR] at hg; cases hg
/-- What an operation, a call, does with what is there. -/
def FrameR (x : AV) (H H' : AH) (f : AH → Option (AV × AH)) : Prop :=
  Grows H H' ∧ ∀ R H2, Ext R H H2 → Apart R H' → ∃ H2', f H2 = some (x, H2') ∧ Ext R H' H2'
theorem FrameR.same {x : AV} {H : AH} {f : AH → Option (AV × AH)} (h : ∀ R H2, Ext R H H2 → Apart R H → f H2 = some (x, H2)) : FrameR x H H f :=
  ⟨Grows.refl H, fun R H2 he ha => ⟨H2, h R H2 he ha, he⟩⟩
theorem cellsAt_ext {R : Nat → Option Grp} {H H2 : AH} (he : Ext R H H2) (ha : Apart R H) {x : AV} {n : Nat} {cs : List AV} (h : cellsAt H x n = some cs) : cellsAt H2 x n = some cs := by
  unfold cellsAt at h ⊢
  cases x <;> simp only at h ⊢ <;> try (exact h)
  rename_i g e i
  split at h
  · rename_i r hr
    rw [he.get ha hr]
    exact h
  · cases h
theorem iload_ext {R : Nat → Option Grp} {H H2 : AH} (he : Ext R H H2) (ha : Apart R H) {x : AV} {n : Option Nat} {y : AV} (h : iload n H x = some y) : iload n H2 x = some y := by
  unfold iload at h ⊢
  cases n with
  | some n =>
    simp only at h ⊢
    split at h
    · rename_i cs e; rw [cellsAt_ext he ha e]; exact h
    · cases h
  | none =>
    simp only at h ⊢
    split at h
    · rename_i c rest e; rw [cellsAt_ext he ha e]; exact h
    · cases h
theorem listCells_ext {R : Nat → Option Grp} {H H2 : AH} (he : Ext R H H2) (ha : Apart R H) {x : AV} {z : Nat} {y : Nat × List AV} (h : listCells H z x = some y) : listCells H2 z x = some y := by
  unfold listCells at h ⊢
  cases x <;> simp only at h ⊢ <;> try (exact h)
  rename_i g e i len z'
  split at h
  · rename_i r hr
    rw [he.get ha hr]
    exact h
  · cases h
/-- A group is put in. -/
def AH.put (H : AH) (g : Nat) (r : Grp) (nx : Nat) : AH := ⟨nx, H.gs.set g r, H.ms⟩
theorem Grows.put (H : AH) (g : Nat) (r : Grp) (nx : Nat) : Grows H (H.put g r nx) := fun g' h => by
  simp only [AH.put, Tr.get_set] at h
  split at h
  · cases h
  · exact h
theorem Ext.put {R : Nat → Option Grp} {H H2 : AH} (he : Ext R H H2) {g : Nat} {r : Grp} {nx : Nat} (hR : R g = none) : Ext R (H.put g r nx) (H2.put g r nx) := by
  refine ⟨rfl, fun g' => ?_, he.ms⟩
  simp only [AH.put, Tr.get_set]
  by_cases hg : g' = g
  · subst hg; simp [hR]
  · simp only [if_neg hg]; exact he.gs g'
theorem Apart.not {R : Nat → Option Grp} {H : AH} {g : Nat} {r : Grp} {nx : Nat} (ha : Apart R (H.put g r nx)) : R g = none := by
  cases hR : R g with
  | none => rfl
  | some r' => have := ha g r' hR; simp [AH.put, Tr.get_set] at this
theorem Ext.free {R : Nat → Option Grp} {H H2 : AH} (he : Ext R H H2) (hR : R H.next = none) (h : H.free = true) : H2.free = true := by
  unfold AH.free
  rw [he.next, he.gs, hR]
  simp only
  rw [AH.free_ok h]
theorem FrameR.add {x : AV} {H : AH} {xs : List AV} {f : AH → Option (AV × AH)} (h : ∀ R H2, Ext R H H2 → Apart R H → R H.next = none → f H2 = some (x, H2.add xs)) : FrameR x H (H.add xs) f := by
  have hp : H.add xs = H.put H.next ⟨0, 0, xs⟩ (H.next + 1) := rfl
  refine ⟨by rw [hp]; exact Grows.put _ _ _ _, fun R H2 he ha => ?_⟩
  rw [hp] at ha ⊢
  have hR := ha.not
  refine ⟨H2.add xs, h R H2 he (ha.back (Grows.put _ _ _ _)) hR, ?_⟩
  have : H2.add xs = H2.put H.next ⟨0, 0, xs⟩ (H.next + 1) := by unfold AH.add AH.put; rw [he.next]
  rw [this]
  exact he.put hR
theorem FrameR.set {x : AV} {H : AH} {g : Nat} {r r' : Grp} {f : AH → Option (AV × AH)} (hg : H.gs.get g = some r) (h : ∀ R H2, Ext R H H2 → Apart R H → f H2 = some (x, ⟨H2.next, H2.gs.set g r', H2.ms⟩)) : FrameR x H ⟨H.next, H.gs.set g r', H.ms⟩ f := by
  refine ⟨Grows.put H g r' H.next, fun R H2 he ha => ?_⟩
  have ha' : Apart R H := ha.back (Grows.put H g r' H.next)
  have hR : R g = none := by
    cases hR : R g with
    | none => rfl
    | some q => rw [ha' g q hR] at hg; cases hg
  refine ⟨_, h R H2 he ha', ?_⟩
  have := he.put (r := r') (nx := H.next) hR
  rw [show (⟨H2.next, H2.gs.set g r', H2.ms⟩ : AH) = H2.put g r' H.next by unfold AH.put; rw [he.next]]
  exact this
theorem FrameR.ms {x : AV} {H : AH} {g nx : Nat} {es : MapA} {f : AH → Option (AV × AH)} (h : ∀ R H2, Ext R H H2 → Apart R H → f H2 = some (x, ⟨nx, H2.gs, H2.ms.set g es⟩)) : FrameR x H ⟨nx, H.gs, H.ms.set g es⟩ f := by
  refine ⟨fun _ h => h, fun R H2 he ha => ⟨_, h R H2 he ha, ⟨rfl, he.gs, fun g' => ?_⟩⟩⟩
  show (H2.ms.set g es).get g' = (H.ms.set g es).get g'
  rw [Tr.get_set, Tr.get_set, he.ms]
theorem mop_frame {m : MOp} {xs : List AV} {H H' : AH} {x : AV} (h : mop m xs H = some (x, H')) : FrameR x H H' (mop m xs) := by
  unfold mop at h
  split at h
  · split at h
    · unfold mmakeY at h
      split at h
      · rename_i hn
        cases h
        refine FrameR.ms fun R H2 he ha => ?_
        simp only [mop, mmakeY, he.next, he.ms, hn]
      · cases h
    · cases h
  · rename_i kk z ok
    split at h
    · rename_i m k
      unfold mgetY at h
      split at h
      · cases hk : mkey kk k with
        | false => rw [hk] at h; cases h
        | true =>
          rw [hk] at h
          cases h
          exact FrameR.same fun R H2 he ha => by simp only [mop, mgetY, hk, cond_true]
      · cases hk : mkey kk k with
        | false => rw [hk] at h; cases h
        | true =>
          rw [hk] at h
          simp only [cond_true] at h
          split at h
          · rename_i es hes
            split at h
            · rename_i y hf
              cases h
              exact FrameR.same fun R H2 he ha => by simp only [mop, mgetY, hk, cond_true, he.ms, hes, hf]
            · rename_i hf
              cases h
              exact FrameR.same fun R H2 he ha => by simp only [mop, mgetY, hk, cond_true, he.ms, hes, hf]
            · cases h
          · cases h
      · cases h
    · cases h
  · rename_i kk
    split at h
    · rename_i m k y
      unfold mputY at h
      split at h
      · cases hk : mkey kk k with
        | false => rw [hk] at h; cases h
        | true =>
          rw [hk] at h
          simp only [cond_true] at h
          split at h
          · rename_i es hes
            split at h
            · rename_i es' hf
              cases h
              exact FrameR.ms fun R H2 he ha => by simp only [mop, mputY, hk, cond_true, he.ms, hes, hf, he.next]
            · cases h
          · cases h
      · cases h
    · cases h
  · split at h
    · rename_i m
      unfold mlenY at h
      split at h
      · cases h
        exact FrameR.same fun R H2 he ha => by simp only [mop, mlenY]
      · split at h
        · rename_i es hes
          cases h
          exact FrameR.same fun R H2 he ha => by simp only [mop, mlenY, he.ms, hes]
        · cases h
      · cases h
    · cases h
  · rename_i kk
    split at h
    · rename_i m k
      unfold mdelY at h
      split at h
      · cases hk : mkey kk k with
        | false => rw [hk] at h; cases h
        | true =>
          rw [hk] at h
          cases h
          exact FrameR.same fun R H2 he ha => by simp only [mop, mdelY, hk, cond_true]
      · cases hk : mkey kk k with
        | false => rw [hk] at h; cases h
        | true =>
          rw [hk] at h
          simp only [cond_true] at h
          split at h
          · rename_i es hes
            split at h
            · rename_i es' hf
              cases h
              exact FrameR.ms fun R H2 he ha => by simp only [mop, mdelY, hk, cond_true, he.ms, hes, hf, he.next]
            · cases h
          · cases h
      · cases h
    · cases h
  · rename_i kk z
    split at h
    · rename_i m k
      unfold mentryY at h
      split at h
      · cases hk : mkey kk k with
        | false => rw [hk] at h; cases h
        | true =>
          rw [hk] at h
          simp only [cond_true] at h
          split at h
          · rename_i es hes
            split at h
            · rename_i y hf
              cases h
              exact FrameR.same fun R H2 he ha => by simp only [mop, mentryY, hk, cond_true, he.ms, hes, hf]
            · rename_i hf
              split at h
              · rename_i es' hs
                cases h
                exact FrameR.ms fun R H2 he ha => by simp only [mop, mentryY, hk, cond_true, he.ms, hes, hf, hs, he.next]
              · cases h
            · cases h
          · cases h
      · cases h
    · cases h
  · split at h
    · rename_i m kd b x'
      unfold mseteY at h
      split at h
      · split at h
        · rename_i es hes
          split at h
          · rename_i es' hs
            cases h
            exact FrameR.ms fun R H2 he ha => by simp only [mop, mseteY, he.ms, hes, hs, he.next]
          · cases h
        · cases h
      · cases h
    · cases h
  · rename_i z zs
    split at h
    · rename_i x'
      unfold clrY at h
      split at h
      · cases h; exact FrameR.same fun R H2 he ha => by simp only [mop, clrY]
      · cases h; exact FrameR.same fun R H2 he ha => by simp only [mop, clrY]
      · cases h; exact FrameR.same fun R H2 he ha => by simp only [mop, clrY]
      · rename_i g e i len z'
        by_cases h0 : len = 0
        · rw [if_pos h0] at h; cases h; exact FrameR.same fun R H2 he ha => by simp only [mop, clrY, if_pos h0]
        · rw [if_neg h0] at h
          split at h
          · rename_i r hr
            split at h
            · rename_i hc
              cases h
              refine FrameR.set hr fun R H2 he ha => ?_
              simp only [mop, clrY, if_neg h0, he.get ha hr]
              rw [if_pos hc]
            · cases h
          · cases h
      · cases h
    · cases h
  · rename_i neg ks
    split at h
    · rename_i x' y'
      unfold steqY at h
      split at h
      · split at h
        · rename_i b hb
          cases h; exact FrameR.same fun R H2 he ha => by simp only [mop, steqY, hb]
        · cases h
      · cases h
    · cases h
set_option maxHeartbeats 2000000 in
theorem iop_frame {T : Tr AV} {op : IOp} {H H' : AH} {x : AV} (h : iop T op H = some (x, H')) : FrameR x H H' (iop T op) := by
  cases op <;> simp only [iop] at h
  case mop m l =>
    split at h
    · rename_i xs e1
      obtain ⟨q1, q2⟩ := mop_frame h
      refine ⟨q1, fun R H2 he ha => ?_⟩
      obtain ⟨H2', k1, k2⟩ := q2 R H2 he ha
      exact ⟨H2', by simp only [iop, e1, k1], k2⟩
    · cases h
  case load n a =>
    split at h
    · rename_i p e1
      split at h
      · rename_i y e2
        cases h
        exact FrameR.same fun R H2 he ha => by simp only [iop, e1, iload_ext he ha e2]
      · cases h
    · cases h
  case b2s a =>
    split at h
    · rename_i p e1
      split at h
      · rename_i m xs e2
        split at h
        · rename_i l e3
          cases h
          exact FrameR.same fun R H2 he ha => by simp only [iop, e1, listCells_ext he ha e2, e3]
        · cases h
      · cases h
    · cases h
  case new a =>
    split at h
    · rename_i p e1
      unfold abox at h
      split at h
      · rename_i hc
        cases h
        refine FrameR.add fun R H2 he ha hR => ?_
        simp only [iop, e1, abox]
        rw [if_pos ⟨hc.1, hc.2.1, he.free hR hc.2.2⟩, he.next]
      · cases h
    · cases h
  case bslice z n zs parts =>
    split at h
    · rename_i ps e1
      split at h
      · rename_i cs e2
        cases hf : H.free with
        | false => rw [hf] at h; cases h
        | true =>
          rw [hf] at h
          cases h
          refine FrameR.add fun R H2 he ha hR => ?_
          simp only [iop, e1, e2, he.free hR hf, cond_true, he.next]
      · cases h
    · cases h
  case mksl z b zs l c =>
    split at h
    · rename_i k n e1
      split at h
      · rename_i k' m e2
        split at h
        · rename_i hc
          cases h
          refine FrameR.add fun R H2 he ha hR => ?_
          simp only [iop, e1, e2]
          rw [if_pos ⟨hc.1, hc.2.1, hc.2.2.1, hc.2.2.2.1, hc.2.2.2.2.1, he.free hR hc.2.2.2.2.2⟩, he.next]
        · cases h
      · cases h
    · cases h
  case store n a b =>
    split at h
    · rename_i p e1
      split at h
      · rename_i v e2
        split at h
        · rename_i H1 e3
          cases h
          unfold istore at e3
          split at e3
          · rename_i g e i
            split at e3
            · rename_i r hr
              split at e3
              · rename_i hc
                cases e3
                refine FrameR.set hr fun R H2 he ha => ?_
                simp only [iop, e1, e2, istore, he.get ha hr]
                rw [if_pos hc]
              · cases e3
            · cases e3
          · cases e3
        · cases h
      · cases h
    · cases h
  case app z b s a =>
    split at h
    · rename_i s' e1
      split at h
      · rename_i x' e2
        unfold iapp at h
        split at h
        · rename_i m xs e3
          by_cases hm : m = 0
          · rw [if_pos hm] at h
            split at h
            · rename_i hs
              cases h
              refine FrameR.same fun R H2 he ha => ?_
              simp only [iop, e1, e2, iapp, listCells_ext he ha e3]
              rw [if_pos hm, if_pos hs]
            · cases h
          · rw [if_neg hm] at h
            split at h
            · rename_i g a' i len z'
              split at h
              · rename_i r hr
                split at h
                · rename_i hc
                  cases h
                  refine FrameR.set hr fun R H2 he ha => ?_
                  simp only [iop, e1, e2, iapp, listCells_ext he ha e3]
                  rw [if_neg hm]
                  simp only [he.get ha hr]
                  rw [if_pos hc]
                · cases h
              · cases h
            · split at h
              · rename_i hc
                cases h
                refine FrameR.add fun R H2 he ha hR => ?_
                simp only [iop, e1, e2, iapp, listCells_ext he ha e3]
                rw [if_neg hm, if_pos ⟨hc.1, hc.2.1, he.free hR hc.2.2⟩, he.next]
              · cases h
            · split at h
              · rename_i hc
                cases h
                refine FrameR.add fun R H2 he ha hR => ?_
                simp only [iop, e1, e2, iapp, listCells_ext he ha e3]
                rw [if_neg hm, if_pos ⟨hc.1, hc.2.1, he.free hR hc.2.2⟩, he.next]
              · cases h
            · cases h
        · cases h
      · cases h
    · cases h
  case appz z b zs s a =>
    split at h
    · rename_i e1
      split at h
      · rename_i k n e2
        split at h
        · rename_i hc
          cases h
          refine FrameR.add fun R H2 he ha hR => ?_
          simp only [iop, e1, e2]
          rw [if_pos ⟨hc.1, hc.2.1, hc.2.2.1, he.free hR hc.2.2.2⟩, he.next]
        · cases h
      · cases h
    · cases h
  case len isS a =>
    cases isS
    all_goals
      (simp only [cond_true, cond_false] at h
       repeat' (split at h <;> try (cases h; done)))
      all_goals (cases h; exact FrameR.same fun R H2 _ _ => by simp only [iop, cond_true, cond_false, *])
  all_goals
    (repeat' (split at h <;> try (cases h; done)))
    all_goals (cases h; exact FrameR.same fun R H2 _ _ => by first | (simp only [iop, *]; done) | (simp [iop, *]; done))
end Go.Abs
namespace Go.Abs
open Go Go.RowKit
set_option linter.unusedVariables false
/-- The slots that are looked at. -/
def ioL : Opd → List Pth
  | .t p => [p]
  | .c _ => []
def iosL : List Opd → List Pth
  | [] => []
  | i :: is => ioL i ++ iosL is
def partsL : List (Nat × Nat × Opd) → List Pth
  | [] => []
  | (_, _, i) :: is => ioL i ++ partsL is
def iooL : Option Opd → List Pth
  | none => []
  | some i => ioL i
def opL : IOp → List Pth
  | .ev x => ioL x | .pick a b c => ioL a ++ ioL b ++ ioL c | .new x => ioL x | .mkif _ x => ioL x | .empty => [] | .mksl _ _ _ a b => ioL a ++ ioL b
  | .build _ ps => partsL ps | .bslice _ _ _ ps => partsL ps | .load _ x => ioL x | .store _ x y => ioL x ++ ioL y | .nilck x => ioL x | .bin _ _ _ _ x y => ioL x ++ ioL y
  | .un _ x => ioL x | .conv _ x => ioL x | .convs x => ioL x | .s2b x => ioL x | .b2s x => ioL x | .i2s x => ioL x | .fn _ l => iosL l
  | .slice _ x a b c => ioL x ++ iooL a ++ iooL b ++ iooL c | .faddr _ x => ioL x | .field _ _ x => ioL x | .iaddr _ x i => ioL x ++ ioL i | .iaddrA _ _ x i => ioL x ++ ioL i
  | .index x i => ioL x ++ ioL i | .ext x _ => ioL x | .len _ x => ioL x | .app _ _ s x => ioL s ++ ioL x | .mm _ l => iosL l | .capn x => ioL x | .appz _ _ _ s x => ioL s ++ ioL x | .mop _ l => iosL l
def kL : IK → List Pth
  | .op o => opL o
  | .call f args => ioL f ++ iosL args
/-- Two that agree where one looks. -/
def Agree (l : List Pth) (T T' : Tr AV) : Prop := ∀ p ∈ l, T.getP p = T'.getP p
theorem Agree.l {a b : List Pth} {T T' : Tr AV} (h : Agree (a ++ b) T T') : Agree a T T' := fun p hp => h p (List.mem_append_left _ hp)
theorem Agree.r {a b : List Pth} {T T' : Tr AV} (h : Agree (a ++ b) T T') : Agree b T T' := fun p hp => h p (List.mem_append_right _ hp)
theorem iev_agree {T T' : Tr AV} {i : Opd} (h : Agree (ioL i) T T') : iev T i = iev T' i := by
  cases i with
  | t p => exact h p (by simp [ioL])
  | c x => rfl
theorem ievs_agree {T T' : Tr AV} : ∀ {is : List Opd}, Agree (iosL is) T T' → ievs T is = ievs T' is
  | [], h => rfl
  | i :: is, h => by
    simp only [iosL] at h
    simp only [ievs, iev_agree h.l, ievs_agree h.r]
theorem iparts_agree {T T' : Tr AV} : ∀ {is : List (Nat × Nat × Opd)}, Agree (partsL is) T T' → iparts T is = iparts T' is
  | [], h => rfl
  | (a, b, i) :: is, h => by
    simp only [partsL] at h
    simp only [iparts, iev_agree h.l, iparts_agree h.r]
theorem ievo_agree {T T' : Tr AV} {i : Option Opd} (h : Agree (iooL i) T T') : ievo T i = ievo T' i := by
  cases i with
  | none => rfl
  | some i => simp only [ievo, iev_agree (show Agree (ioL i) T T' from h)]
theorem iop_agree {T T' : Tr AV} {op : IOp} (h : Agree (opL op) T T') (H : AH) : iop T op H = iop T' op H := by
  cases op <;> simp only [opL] at h <;> simp only [iop] <;> first
    | rfl
    | rw [iev_agree h]
    | rw [ievs_agree h]
    | rw [iparts_agree h]
    | rw [iev_agree h.l, iev_agree h.r]
    | rw [iev_agree h.l.l, iev_agree h.l.r, iev_agree h.r]
    | rw [iev_agree h.l.l.l, ievo_agree h.l.l.r, ievo_agree h.l.r, ievo_agree h.r]
theorem xop_agree {T T' : Tr AV} {call : ICall} {k : IK} (h : Agree (kL k) T T') (H : AH) : xop call T H k = xop call T' H k := by
  cases k with
  | op o => exact iop_agree h H
  | call f args =>
    simp only [kL] at h
    simp only [xop, iev_agree h.l, ievs_agree h.r]
/-- Does not touch memory. -/
def IOp.isPure : IOp → Bool
  | .new _ | .mksl .. | .bslice .. | .load .. | .store .. | .b2s _ | .app .. | .appz .. | .mop .. => false
  | _ => true
def IOp.isAlloc : IOp → Bool
  | .new _ | .mksl .. | .bslice .. => true
  | _ => false
set_option maxHeartbeats 2000000 in
theorem iop_pure {T : Tr AV} {op : IOp} {H H' : AH} {x : AV} (hp : op.isPure = true) (h : iop T op H = some (x, H')) : H' = H ∧ ∀ H2, iop T op H2 = some (x, H2) := by
  cases op <;> simp only [IOp.isPure] at hp <;> try (cases hp; done)
  all_goals simp only [iop] at h
  case len isS a =>
    cases isS
    all_goals
      (simp only [cond_true, cond_false] at h
       repeat' (split at h <;> try (cases h; done)))
      all_goals (cases h; exact ⟨rfl, fun H2 => by simp only [iop, cond_true, cond_false, *]⟩)
  all_goals
    (repeat' (split at h <;> try (cases h; done)))
    all_goals (cases h; exact ⟨rfl, fun H2 => by first | (simp only [iop, *]; done) | (simp [iop, *]; done)⟩)
theorem iop_alloc {T : Tr AV} {op : IOp} {H H' : AH} {x : AV} (hp : op.isAlloc = true) (h : iop T op H = some (x, H')) :
    ∃ xs, H' = H.add xs ∧ H.free = true ∧ ∀ H2, H2.next = H.next → H2.free = true → iop T op H2 = some (x, H2.add xs) := by
  cases op <;> simp only [IOp.isAlloc] at hp <;> try (cases hp; done)
  case new a =>
    simp only [iop] at h
    split at h
    · rename_i p e1
      unfold abox at h
      split at h
      · rename_i hc
        cases h
        exact ⟨_, rfl, hc.2.2, fun H2 hn hf => by simp only [iop, e1, abox]; rw [if_pos ⟨hc.1, hc.2.1, hf⟩, hn]⟩
      · cases h
    · cases h
  case bslice z n zs parts =>
    simp only [iop] at h
    split at h
    · rename_i ps e1
      split at h
      · rename_i cs e2
        cases hf : H.free with
        | false => rw [hf] at h; cases h
        | true =>
          rw [hf] at h
          cases h
          exact ⟨_, rfl, rfl, fun H2 hn hf2 => by simp only [iop, e1, e2, hf2, cond_true, hn]⟩
      · cases h
    · cases h
  case mksl z b zs l c =>
    simp only [iop] at h
    split at h
    · rename_i k n e1
      split at h
      · rename_i k' m e2
        split at h
        · rename_i hc
          cases h
          exact ⟨_, rfl, hc.2.2.2.2.2, fun H2 hn hf2 => by
            simp only [iop, e1, e2]
            rw [if_pos ⟨hc.1, hc.2.1, hc.2.2.1, hc.2.2.2.1, hc.2.2.2.2.1, hf2⟩, hn]⟩
        · cases h
      · cases h
    · cases h
/-- The same value, surely. -/
def fSame : AV → AV → Bool
  | .bool a, .bool b => a == b
  | .int k a, .int k' b => decide (k = k') && decide (a = b)
  | .str a, .str b => decide (a = b)
  | .nilp, .nilp => true
  | .ptr a b c, .ptr a' b' c' => Nat.beq a a' && (Nat.beq b b' && Nat.beq c c')
  | .nils, .nils => true
  | .zslc, .zslc => true
  | .slc a b c d e, .slc a' b' c' d' e' => Nat.beq a a' && (Nat.beq b b' && (Nat.beq c c' && (Nat.beq d d' && Nat.beq e e')))
  | .nilf, .nilf => true
  | .nili, .nili => true
  | .nilm, .nilm => true
  | .mapp a, .mapp b => Nat.beq a b
  | _, _ => false
theorem fSame_ok {x y : AV} (h : fSame x y = true) : x = y := by
  unfold fSame at h
  split at h <;> first
    | rfl
    | (cases h; done)
    | ((try simp only [Bool.and_eq_true, decide_eq_true_eq, beq_iff_eq] at h)
       first
         | (subst h; rfl)
         | (obtain ⟨rfl, rfl⟩ := h; rfl)
         | (have h' := Nat.eq_of_beq_eq_true h; subst h'; rfl)
         | (obtain ⟨h1, h2, h3⟩ := h; have e1 := Nat.eq_of_beq_eq_true h1; have e2 := Nat.eq_of_beq_eq_true h2; have e3 := Nat.eq_of_beq_eq_true h3; subst e1; subst e2; subst e3; rfl)
         | (obtain ⟨h1, h2, h3, h4, h5⟩ := h; have e1 := Nat.eq_of_beq_eq_true h1; have e2 := Nat.eq_of_beq_eq_true h2; have e3 := Nat.eq_of_beq_eq_true h3; have e4 := Nat.eq_of_beq_eq_true h4; have e5 := Nat.eq_of_beq_eq_true h5; subst e1; subst e2; subst e3; subst e4; subst e5; rfl))
def fSames : List AV → List AV → Bool
  | [], [] => true
  | x :: xs, y :: ys => fSame x y && fSames xs ys
  | _, _ => false
theorem fSames_ok : ∀ {xs ys : List AV}, fSames xs ys = true → xs = ys
  | [], [], h => rfl
  | [], _ :: _, h => by cases h
  | _ :: _, [], h => by cases h
  | x :: xs, y :: ys, h => by
    simp only [fSames, Bool.and_eq_true] at h
    rw [fSame_ok h.1, fSames_ok h.2]
/-- The same, all the way in. -/
def dsames (f : AV → AV → Bool) : List AV → List AV → Bool
  | [], [] => true
  | x :: xs, y :: ys => f x y && dsames f xs ys
  | _, _ => false
def dsamess (f : AV → AV → Bool) : List (List AV) → List (List AV) → Bool
  | [], [] => true
  | x :: xs, y :: ys => dsames f x y && dsamess f xs ys
  | _, _ => false
def dsame : Nat → AV → AV → Bool
  | 0, _, _ => false
  | n + 1, x, y => match x, y with
    | .agg xs, .agg ys => dsames (dsame n) xs ys
    | .tup xs, .tup ys => dsames (dsame n) xs ys
    | .vals z xs, .vals z' ys => Nat.beq z z' && dsamess (dsame n) xs ys
    | x, y => fSame x y
theorem dsames_ok {f : AV → AV → Bool} (hf : ∀ x y, f x y = true → x = y) : ∀ {xs ys : List AV}, dsames f xs ys = true → xs = ys
  | [], [], h => rfl
  | [], _ :: _, h => by cases h
  | _ :: _, [], h => by cases h
  | x :: xs, y :: ys, h => by
    simp only [dsames, Bool.and_eq_true] at h
    rw [hf _ _ h.1, dsames_ok hf h.2]
theorem dsamess_ok {f : AV → AV → Bool} (hf : ∀ x y, f x y = true → x = y) : ∀ {xs ys : List (List AV)}, dsamess f xs ys = true → xs = ys
  | [], [], h => rfl
  | [], _ :: _, h => by cases h
  | _ :: _, [], h => by cases h
  | x :: xs, y :: ys, h => by
    simp only [dsamess, Bool.and_eq_true] at h
    rw [dsames_ok hf h.1, dsamess_ok hf h.2]
theorem dsame_ok : ∀ (n : Nat) (x y : AV), dsame n x y = true → x = y := by
  intro n
  induction n with
  | zero => intro x y h; cases h
  | succ n ih =>
    intro x y h
    simp only [dsame] at h
    split at h
    · rw [dsames_ok ih h]
    · rw [dsames_ok ih h]
    · simp only [Bool.and_eq_true] at h
      rw [Nat.eq_of_beq_eq_true h.1, dsamess_ok ih h.2]
    · exact fSame_ok h
noncomputable def avSame (x y : AV) : Bool := dsame 60 x y || @decide (x = y) (Classical.propDecidable _)
theorem avSame_ok {x y : AV} (h : avSame x y = true) : x = y := by
  unfold avSame at h
  rw [Bool.or_eq_true] at h
  rcases h with h | h
  · exact dsame_ok _ _ _ h
  · exact @of_decide_eq_true _ (Classical.propDecidable _) h
/-- What was loaded. -/
structure WE where
  idx : Nat
  n : Option Nat
  p : AV
  v : AV
noncomputable def wcheck (H : AH) (watch : List Nat) : List WE → Bool
  | [] => true
  | e :: es => (bif watch.elem e.idx then (match iload e.n H e.p with | some v => avSame v e.v | none => false) else true) && wcheck H watch es
theorem wcheck_iff {H : AH} {watch : List Nat} : ∀ {W : List WE}, wcheck H watch W = true ↔ ∀ e ∈ W, e.idx ∈ watch → ∃ v, iload e.n H e.p = some v ∧ avSame v e.v = true
  | [] => by simp [wcheck]
  | e :: es => by
    simp only [wcheck, Bool.and_eq_true, wcheck_iff (W := es), List.mem_cons, forall_eq_or_imp]
    refine and_congr_left fun _ => ?_
    cases hw : watch.elem e.idx with
    | true =>
      have : e.idx ∈ watch := by simpa using hw
      simp only [cond_true, this, true_implies]
      cases iload e.n H e.p <;> simp
    | false =>
      have : e.idx ∉ watch := by simpa using hw
      simp [this]
inductive DK where
  | pure (i : IOp)
  | load (n : Option Nat) (x : Opd)
  | k2 (k : IK) (watch : List Nat)
  | alloc (i : IOp)
structure DOp where
  idx : Nat
  dst : Option Pth
  guard : Option (Pth × Bool)
  k : DK
structure DS where
  T : Tr AV
  H : AH
  W : List WE
noncomputable def eff (call : ICall) (base : Nat) (T : Tr AV) (H : AH) (W : List WE) (idx : Nat) : DK → Option (AV × AH × List WE)
  | .pure i => match iop T i H with
    | some (x, _) => some (x, H, W)
    | none => none
  | .load n x => match iev T x with
    | some p => match iload n H p with
      | some v => some (v, H, ⟨idx, n, p, v⟩ :: W)
      | none => none
    | none => none
  | .k2 k watch => match xop call T H k with
    | some (x, H') => bif wcheck H' watch W then some (x, H', W) else none
    | none => none
  | .alloc i => match iop T i ⟨base + idx, H.gs, H.ms⟩ with
    | some (x, H') => some (x, ⟨H.next, H'.gs, H'.ms⟩, W)
    | none => none
noncomputable def dstep (call : ICall) (base : Nat) (d : DOp) (s : DS) : Option DS :=
  match gval s.T d.guard with
  | none => none
  | some false => some ⟨xput s.T d.dst .und, s.H, s.W⟩
  | some true => match eff call base s.T s.H s.W d.idx d.k with
    | some (x, H', W') => some ⟨xput s.T d.dst x, H', W'⟩
    | none => none
def dkL : DK → List Pth
  | .pure i => opL i
  | .load _ x => ioL x
  | .k2 k _ => kL k
  | .alloc i => opL i
def gL : Option (Pth × Bool) → List Pth
  | none => []
  | some (p, _) => [p]
def DOp.looks (d : DOp) : List Pth := gL d.guard ++ dkL d.k
def DK.ok : DK → Bool
  | .pure i => i.isPure
  | .alloc i => i.isAlloc
  | _ => true
end Go.Abs
namespace Go.Abs
open Go Go.RowKit
set_option linter.unusedVariables false
def R0 : Nat → Option Grp := fun _ => none
def Rone (r : Nat) (G : Grp) : Nat → Option Grp := fun g => if g = r then some G else none
/-- The same memory. -/
def HE (A B : AH) : Prop := B.next = A.next ∧ (∀ g, B.gs.get g = A.gs.get g) ∧ ∀ g, B.ms.get g = A.ms.get g
theorem HE.refl (A : AH) : HE A A := ⟨rfl, fun _ => rfl, fun _ => rfl⟩
theorem HE.trans {A B C : AH} (h : HE A B) (k : HE B C) : HE A C := ⟨k.1.trans h.1, fun g => (k.2.1 g).trans (h.2.1 g), fun g => (k.2.2 g).trans (h.2.2 g)⟩
theorem HE.ext {A B : AH} (h : HE A B) : Ext R0 A B := ⟨h.1, fun g => h.2.1 g, h.2.2⟩
theorem HE.of {A B : AH} (h : Ext R0 A B) : HE A B := ⟨h.next, fun g => h.gs g, h.ms⟩
theorem apart0 (H : AH) : Apart R0 H := fun g r h => by cases h
theorem ext_one {H : AH} {r : Nat} {G : Grp} : Ext (Rone r G) H (H.put r G H.next) := by
  refine ⟨rfl, fun g => ?_, fun g => rfl⟩
  simp only [AH.put, Tr.get_set, Rone]
  by_cases h : g = r
  · simp [h]
  · simp [h]
theorem apart_one {H : AH} {r : Nat} {G : Grp} (h : H.gs.get r = none) : Apart (Rone r G) H := fun g q hq => by
  unfold Rone at hq
  split at hq
  · rename_i e; rw [e]; exact h
  · cases hq
def CallFrame (call : ICall) : Prop := ∀ f args H x H', call f args H = some (x, H') → FrameR x H H' (call f args)
section
variable {call : ICall} {base : Nat}
theorem xop_frame (hf : CallFrame call) {T : Tr AV} {k : IK} {H H' : AH} {x : AV} (h : xop call T H k = some (x, H')) : FrameR x H H' (fun H => xop call T H k) := by
  cases k with
  | op o => exact iop_frame h
  | call f args =>
    simp only [xop] at h
    split at h
    · rename_i g cap e1
      split at h
      · rename_i xs e2
        obtain ⟨q1, q2⟩ := hf _ _ _ _ _ h
        refine ⟨q1, fun R H2 he ha => ?_⟩
        obtain ⟨H2', k1, k2⟩ := q2 R H2 he ha
        exact ⟨H2', by simp only [xop, e1, e2]; exact k1, k2⟩
      · cases h
    · cases h
def WEq (W W' : List WE) : Prop := ∀ e, e ∈ W' ↔ e ∈ W
theorem WEq.refl (W : List WE) : WEq W W := fun _ => Iff.rfl
theorem wcheck_eq {H H' : AH} {R : Nat → Option Grp} {watch : List Nat} {W W' : List WE} (he : Ext R H H') (ha : Apart R H) (hW : ∀ e, e ∈ W' → e ∈ W) (h : wcheck H watch W = true) : wcheck H' watch W' = true := by
  rw [wcheck_iff] at h ⊢
  intro e h1 h2
  obtain ⟨v, h3, h4⟩ := h e (hW e h1) h2
  exact ⟨v, iload_ext he ha h3, h4⟩
theorem eff_alloc {T : Tr AV} {H H2 : AH} {W W2 : List WE} {idx : Nat} {i : IOp} {x : AV} (hi : i.isAlloc = true) (h : eff call base T H W idx (.alloc i) = some (x, H2, W2)) :
    ∃ G, H2 = H.put (base + idx) G H.next ∧ W2 = W ∧ H.gs.get (base + idx) = none ∧ ∀ (K : AH) V, K.gs.get (base + idx) = none → eff call base T K V idx (.alloc i) = some (x, K.put (base + idx) G K.next, V) := by
  simp only [eff] at h
  split at h
  · rename_i x' H' e
    cases h
    obtain ⟨xs, rfl, q2, q3⟩ := iop_alloc hi e
    have hno : H.gs.get (base + idx) = none := AH.free_ok q2
    refine ⟨⟨0, 0, xs⟩, rfl, rfl, hno, fun K V hK => ?_⟩
    have hfree : (⟨base + idx, K.gs, K.ms⟩ : AH).free = true := by unfold AH.free; simp only [hK]
    simp only [eff, q3 ⟨base + idx, K.gs, K.ms⟩ rfl hfree]
    rfl
  · cases h
theorem eff_congr (hf : CallFrame call) {T : Tr AV} {H H' H1 : AH} {W W' W1 : List WE} {idx : Nat} {k : DK} {x : AV} (hk : k.ok = true) (hH : HE H H') (hW : WEq W W') (h : eff call base T H W idx k = some (x, H1, W1)) :
    ∃ H1' W1', eff call base T H' W' idx k = some (x, H1', W1') ∧ HE H1 H1' ∧ WEq W1 W1' := by
  cases k with
  | pure i =>
    simp only [eff] at h
    split at h
    · rename_i x' H2 e
      cases h
      obtain ⟨_, q⟩ := iop_pure hk e
      exact ⟨H', W', by simp only [eff, q H'], hH, hW⟩
    · cases h
  | load n i =>
    simp only [eff] at h
    split at h
    · rename_i p e
      split at h
      · rename_i v e2
        cases h
        refine ⟨H', _, by simp only [eff, e, iload_ext hH.ext (apart0 _) e2]; rfl, hH, fun e => ?_⟩
        simp only [List.mem_cons, hW e]
      · cases h
    · cases h
  | k2 kk watch =>
    simp only [eff] at h
    split at h
    · rename_i x' H2 e
      cases hc : wcheck H2 watch W with
      | false => rw [hc] at h; cases h
      | true =>
        rw [hc] at h
        cases h
        obtain ⟨_, q⟩ := xop_frame hf e
        obtain ⟨H2', k1, k2⟩ := q R0 H' hH.ext (apart0 _)
        have k1' : xop call T H' kk = some (x, H2') := k1
        refine ⟨H2', W', ?_, HE.of k2, hW⟩
        simp only [eff, k1', wcheck_eq k2 (apart0 _) (fun e he => (hW e).1 he) hc, cond_true]
    · cases h
  | alloc i =>
    obtain ⟨G, rfl, rfl, q1, q2⟩ := eff_alloc hk h
    refine ⟨_, _, q2 H' W' (by rw [hH.2.1]; exact q1), ⟨hH.1, fun g => ?_, hH.2.2⟩, hW⟩
    simp only [AH.put, Tr.get_set, hH.2.1]
def pairOK (i1 : Nat) (k1 : DK) (i2 : Nat) (k2 : DK) : Bool :=
  match k1, k2 with
  | .pure _, _ => true
  | _, .pure _ => true
  | .load .., .load .. => true
  | .load .., .alloc _ => true
  | .load .., .k2 _ watch => watch.elem i1
  | .k2 .., .alloc _ => true
  | .alloc _, .alloc _ => !(Nat.beq i1 i2)
  | _, _ => false
theorem eff_comm (hf : CallFrame call) {T : Tr AV} {H H1 H2 : AH} {W W1 W2 : List WE} {i1 i2 : Nat} {k1 k2 : DK} {x1 x2 : AV} (hk1 : k1.ok = true) (hk2 : k2.ok = true) (hp : pairOK i1 k1 i2 k2 = true)
    (h1 : eff call base T H W i1 k1 = some (x1, H1, W1)) (h2 : eff call base T H1 W1 i2 k2 = some (x2, H2, W2)) :
    ∃ H1' W1', eff call base T H W i2 k2 = some (x2, H1', W1') ∧ ∃ H2' W2', eff call base T H1' W1' i1 k1 = some (x1, H2', W2') ∧ HE H2 H2' ∧ WEq W2 W2' := by
  have hpure1 : ∀ i, k1 = .pure i → ∃ H1' W1', eff call base T H W i2 k2 = some (x2, H1', W1') ∧ ∃ H2' W2', eff call base T H1' W1' i1 k1 = some (x1, H2', W2') ∧ HE H2 H2' ∧ WEq W2 W2' := by
    intro i hi
    subst hi
    simp only [eff] at h1
    split at h1
    · rename_i x' H' e
      cases h1
      obtain ⟨_, q⟩ := iop_pure hk1 e
      exact ⟨H2, W2, h2, H2, W2, by simp only [eff, q H2], HE.refl _, WEq.refl _⟩
    · cases h1
  have hpure2 : ∀ i, k2 = .pure i → ∃ H1' W1', eff call base T H W i2 k2 = some (x2, H1', W1') ∧ ∃ H2' W2', eff call base T H1' W1' i1 k1 = some (x1, H2', W2') ∧ HE H2 H2' ∧ WEq W2 W2' := by
    intro i hi
    subst hi
    simp only [eff] at h2
    split at h2
    · rename_i x' H' e
      cases h2
      obtain ⟨_, q⟩ := iop_pure hk2 e
      exact ⟨H, W, by simp only [eff, q H], _, _, h1, HE.refl _, WEq.refl _⟩
    · cases h2
  have hload : ∀ n i, k1 = .load n i → ∃ p v, iev T i = some p ∧ iload n H p = some v ∧ x1 = v ∧ H1 = H ∧ W1 = ⟨i1, n, p, v⟩ :: W := by
    intro n i hi
    subst hi
    simp only [eff] at h1
    split at h1
    · rename_i p e
      split at h1
      · rename_i v e2
        cases h1
        exact ⟨p, _, e, e2, rfl, rfl, rfl⟩
      · cases h1
    · cases h1
  cases k1 with
  | pure i => exact hpure1 i rfl
  | load n1 a1 =>
    cases k2 with
    | pure i => exact hpure2 i rfl
    | load n2 a2 =>
      obtain ⟨p, v, e1, e2, rfl, rfl, rfl⟩ := hload _ _ rfl
      simp only [eff] at h2
      split at h2
      · rename_i p' e3
        split at h2
        · rename_i v' e4
          cases h2
          refine ⟨_, _, by simp only [eff, e3, e4]; rfl, _, _, by simp only [eff, e1, e2]; rfl, HE.refl _, fun e => ?_⟩
          simp only [List.mem_cons]
          exact ⟨fun h => by rcases h with h | h | h <;> simp [h], fun h => by rcases h with h | h | h <;> simp [h]⟩
        · cases h2
      · cases h2
    | k2 kk watch =>
      obtain ⟨p, v, e1, e2, rfl, rfl, rfl⟩ := hload _ _ rfl
      simp only [pairOK] at hp
      simp only [eff] at h2
      split at h2
      · rename_i x' H' e3
        cases hc : wcheck H' watch (⟨i1, n1, p, x1⟩ :: W) with
        | false => rw [hc] at h2; cases h2
        | true =>
          rw [hc] at h2
          cases h2
          have hc' := wcheck_iff.1 hc
          obtain ⟨v', q1, q2⟩ := hc' ⟨i1, n1, p, x1⟩ (List.mem_cons_self ..) (by simpa using hp)
          have q3 := avSame_ok q2
          simp only at q3
          subst q3
          have hcW : wcheck H2 watch W = true := wcheck_iff.2 fun e he hw => hc' e (List.mem_cons_of_mem _ he) hw
          refine ⟨H2, W, by simp only [eff, e3, hcW, cond_true], H2, _, by simp only [eff, e1, q1], HE.refl _, WEq.refl _⟩
      · cases h2
    | alloc i =>
      obtain ⟨p, v, e1, e2, rfl, rfl, rfl⟩ := hload _ _ rfl
      obtain ⟨G, rfl, rfl, q1, q2⟩ := eff_alloc hk2 h2
      exact ⟨_, W, q2 _ W q1, _, _, by simp only [eff, e1, iload_ext ext_one (apart_one q1) e2], HE.refl _, WEq.refl _⟩
  | k2 kk watch =>
    cases k2 with
    | pure i => exact hpure2 i rfl
    | load n2 a2 => simp [pairOK] at hp
    | k2 kk2 watch2 => simp [pairOK] at hp
    | alloc i =>
      simp only [eff] at h1
      split at h1
      · rename_i x' H' e3
        cases hc : wcheck H' watch W with
        | false => rw [hc] at h1; cases h1
        | true =>
          rw [hc] at h1
          cases h1
          obtain ⟨G, rfl, rfl, q1, q2⟩ := eff_alloc hk2 h2
          obtain ⟨hgr, q⟩ := xop_frame hf e3
          have hno : H.gs.get (base + i2) = none := hgr _ q1
          obtain ⟨H2', r1, r2⟩ := q (Rone (base + i2) G) (H.put (base + i2) G H.next) ext_one (apart_one q1)
          have r1' : xop call T (H.put (base + i2) G H.next) kk = some (x1, H2') := r1
          refine ⟨_, W2, q2 H W2 hno, H2', W2, ?_, ⟨r2.next, fun g => ?_, fun g => r2.ms g⟩, WEq.refl _⟩
          · simp only [eff, r1', wcheck_eq r2 (apart_one q1) (fun e he => he) hc, cond_true]
          · rw [r2.gs]
            simp only [AH.put, Tr.get_set, Rone]
            by_cases hg : g = base + i2
            · simp [hg]
            · simp [hg]
      · cases h1
  | alloc i =>
    cases k2 with
    | pure i => exact hpure2 i rfl
    | load n2 a2 => simp [pairOK] at hp
    | k2 kk2 watch2 => simp [pairOK] at hp
    | alloc j =>
      obtain ⟨G, rfl, rfl, q1, q2⟩ := eff_alloc hk1 h1
      obtain ⟨G', rfl, rfl, q3, q4⟩ := eff_alloc hk2 h2
      have hne : base + i1 ≠ base + i2 := by
        simp only [pairOK, Bool.not_eq_true'] at hp
        intro e
        have : i1 = i2 := by omega
        subst this
        rw [Nat.beq_refl] at hp
        cases hp
      have hno2 : H.gs.get (base + i2) = none := by
        simp only [AH.put, Tr.get_set] at q3
        rw [if_neg (Ne.symm hne)] at q3
        exact q3
      refine ⟨_, _, q4 H _ hno2, _, _, q2 _ _ (by simp only [AH.put, Tr.get_set]; rw [if_neg hne]; exact q1), ⟨rfl, fun g => ?_, fun g => rfl⟩, WEq.refl _⟩
      simp only [AH.put, Tr.get_set]
      by_cases h1 : g = base + i1
      · subst h1; rw [if_pos rfl, if_neg hne, if_pos rfl]
      · rw [if_neg h1, if_neg h1]
end
end Go.Abs
namespace Go.Abs
open Go Go.RowKit
set_option linter.unusedVariables false
structure DEq (s s' : DS) : Prop where
  T : ∀ p, s'.T.getP p = s.T.getP p
  H : HE s.H s'.H
  W : WEq s.W s'.W
theorem DEq.refl (s : DS) : DEq s s := ⟨fun _ => rfl, HE.refl _, WEq.refl _⟩
theorem DEq.trans {a b c : DS} (h : DEq a b) (k : DEq b c) : DEq a c := ⟨fun p => (k.T p).trans (h.T p), h.H.trans k.H, fun e => (k.W e).trans (h.W e)⟩
theorem getP_xput (T : Tr AV) (d : Option Pth) (x : AV) (q : Pth) : (xput T d x).getP q = if d = some q then some x else T.getP q := by
  cases d with
  | none => simp [xput]
  | some p =>
    simp only [xput, Tr.getP_setP, Option.some.injEq]
    by_cases h : q = p
    · rw [if_pos h, if_pos h.symm]
    · rw [if_neg h, if_neg (Ne.symm h)]
theorem gval_agree {T T' : Tr AV} {g : Option (Pth × Bool)} (h : Agree (gL g) T T') : gval T g = gval T' g := by
  cases g with
  | none => rfl
  | some x => obtain ⟨p, b⟩ := x; simp only [gval, h p (by simp [gL])]
section
variable {call : ICall} {base : Nat}
theorem eff_agree {T T' : Tr AV} {k : DK} (h : Agree (dkL k) T T') (H : AH) (W : List WE) (idx : Nat) : eff call base T H W idx k = eff call base T' H W idx k := by
  cases k with
  | pure i => simp only [eff, iop_agree (show Agree (opL i) T T' from h)]
  | load n x => simp only [eff, iev_agree (show Agree (ioL x) T T' from h)]
  | k2 k w => simp only [eff, xop_agree (show Agree (kL k) T T' from h)]
  | alloc i => simp only [eff, iop_agree (show Agree (opL i) T T' from h)]
theorem dstep_congr (hf : CallFrame call) {d : DOp} {s s' s1 : DS} (hk : d.k.ok = true) (he : DEq s s') (h : dstep call base d s = some s1) : ∃ s1', dstep call base d s' = some s1' ∧ DEq s1 s1' := by
  have hg : gval s'.T d.guard = gval s.T d.guard := gval_agree fun p _ => he.T p
  have hput : ∀ x, ∀ p, (xput s'.T d.dst x).getP p = (xput s.T d.dst x).getP p := fun x p => by rw [getP_xput, getP_xput, he.T]
  unfold dstep at h ⊢
  rw [hg]
  split at h
  · cases h
  · cases h
    exact ⟨_, rfl, hput _, he.H, he.W⟩
  · split at h
    · rename_i x H' W' e
      cases h
      obtain ⟨H1', W1', k1, k2, k3⟩ := eff_congr hf hk he.H he.W e
      rw [eff_agree (T' := s'.T) (fun p _ => (he.T p).symm)] at k1
      simp only [k1]
      exact ⟨_, rfl, hput _, k2, k3⟩
    · cases h
/-- The slots of two are apart. -/
def sApart (d1 d2 : DOp) : Bool :=
  (match d1.dst with | some p => !(d2.looks.elem p) && !(decide (d2.dst = some p)) | none => true) && (match d2.dst with | some p => !(d1.looks.elem p) | none => true)
theorem sApart_ok {d1 d2 : DOp} (h : sApart d1 d2 = true) : (∀ p, d1.dst = some p → p ∉ d2.looks ∧ d2.dst ≠ some p) ∧ ∀ p, d2.dst = some p → p ∉ d1.looks := by
  unfold sApart at h
  simp only [Bool.and_eq_true] at h
  refine ⟨fun p hp => ?_, fun p hp => ?_⟩
  · have := h.1
    rw [hp] at this
    simpa using this
  · have := h.2
    rw [hp] at this
    simpa using this
theorem agree_put {l : List Pth} {T : Tr AV} {d : Option Pth} {x : AV} (h : ∀ p, d = some p → p ∉ l) : Agree l (xput T d x) T := fun q hq => by
  rw [getP_xput, if_neg]
  intro e
  exact h q e hq
def swapOK (d1 d2 : DOp) : Bool := sApart d1 d2 && pairOK d1.idx d1.k d2.idx d2.k
theorem dstep_swap (hf : CallFrame call) {d1 d2 : DOp} {s s1 s2 : DS} (hk1 : d1.k.ok = true) (hk2 : d2.k.ok = true) (hs : swapOK d1 d2 = true) (h1 : dstep call base d1 s = some s1) (h2 : dstep call base d2 s1 = some s2) :
    ∃ t1 t2, dstep call base d2 s = some t1 ∧ dstep call base d1 t1 = some t2 ∧ DEq s2 t2 := by
  unfold swapOK at hs
  simp only [Bool.and_eq_true] at hs
  obtain ⟨ha, hp⟩ := hs
  obtain ⟨a1, a2⟩ := sApart_ok ha
  have ag2 : ∀ x, Agree d2.looks (xput s.T d1.dst x) s.T := fun x => agree_put fun p hp => (a1 p hp).1
  have ag1 : ∀ x, Agree d1.looks (xput s.T d2.dst x) s.T := fun x => agree_put fun p hp => a2 p hp
  have putT : ∀ x y p, (xput (xput s.T d2.dst y) d1.dst x).getP p = (xput (xput s.T d1.dst x) d2.dst y).getP p := by
    intro x y p
    simp only [getP_xput]
    by_cases e1 : d1.dst = some p
    · rw [if_pos e1, if_neg (a1 p e1).2, if_pos e1]
    · rw [if_neg e1]
      by_cases e2 : d2.dst = some p
      · rw [if_pos e2, if_pos e2]
      · rw [if_neg e2, if_neg e2, if_neg e1]
  have g2 : ∀ x, gval (xput s.T d1.dst x) d2.guard = gval s.T d2.guard := fun x => gval_agree (fun p hp => ag2 x p (List.mem_append_left _ hp))
  have g1 : ∀ x, gval (xput s.T d2.dst x) d1.guard = gval s.T d1.guard := fun x => gval_agree (fun p hp => ag1 x p (List.mem_append_left _ hp))
  have e2 : ∀ x H W, eff call base (xput s.T d1.dst x) H W d2.idx d2.k = eff call base s.T H W d2.idx d2.k := fun x H W => eff_agree (fun p hp => ag2 x p (List.mem_append_right _ hp)) H W _
  have e1 : ∀ x H W, eff call base (xput s.T d2.dst x) H W d1.idx d1.k = eff call base s.T H W d1.idx d1.k := fun x H W => eff_agree (fun p hp => ag1 x p (List.mem_append_right _ hp)) H W _
  unfold dstep at h1
  split at h1
  · cases h1
  · rename_i hg1
    cases h1
    unfold dstep at h2
    simp only [g2] at h2
    split at h2
    · cases h2
    · rename_i hg2
      cases h2
      refine ⟨⟨xput s.T d2.dst .und, s.H, s.W⟩, ⟨xput (xput s.T d2.dst .und) d1.dst .und, s.H, s.W⟩, by simp only [dstep, hg2], by simp only [dstep, g1, hg1], putT _ _, HE.refl _, WEq.refl _⟩
    · rename_i hg2
      split at h2
      · rename_i x H' W' e
        cases h2
        rw [e2] at e
        refine ⟨⟨xput s.T d2.dst x, H', W'⟩, ⟨xput (xput s.T d2.dst x) d1.dst .und, H', W'⟩, by simp only [dstep, hg2, e], by simp only [dstep, g1, hg1], putT _ _, HE.refl _, WEq.refl _⟩
      · cases h2
  · rename_i hg1
    split at h1
    · rename_i x1 H1 W1 hx1
      cases h1
      unfold dstep at h2
      simp only [g2] at h2
      split at h2
      · cases h2
      · rename_i hg2
        cases h2
        refine ⟨⟨xput s.T d2.dst .und, s.H, s.W⟩, ⟨xput (xput s.T d2.dst .und) d1.dst x1, H1, W1⟩, by simp only [dstep, hg2], by simp only [dstep, g1, hg1, e1, hx1], putT _ _, HE.refl _, WEq.refl _⟩
      · rename_i hg2
        split at h2
        · rename_i x2 H2 W2 hx2
          cases h2
          rw [e2] at hx2
          obtain ⟨H1', W1', k1, H2', W2', k2, k3, k4⟩ := eff_comm hf hk1 hk2 hp hx1 hx2
          refine ⟨⟨xput s.T d2.dst x2, H1', W1'⟩, ⟨xput (xput s.T d2.dst x2) d1.dst x1, H2', W2'⟩, by simp only [dstep, hg2, k1], by simp only [dstep, g1, hg1, e1, k2], putT _ _, k3, k4⟩
        · cases h2
    · cases h1
noncomputable def drun (call : ICall) (base : Nat) : List DOp → DS → Option DS
  | [], s => some s
  | d :: ds, s => match dstep call base d s with
    | some s' => drun call base ds s'
    | none => none
theorem drun_congr (hf : CallFrame call) : ∀ {ds : List DOp} {s s' s1 : DS}, (∀ d ∈ ds, d.k.ok = true) → DEq s s' → drun call base ds s = some s1 → ∃ s1', drun call base ds s' = some s1' ∧ DEq s1 s1'
  | [], s, s', s1, hk, he, h => by
    simp only [drun] at h
    cases h
    exact ⟨s', rfl, he⟩
  | d :: ds, s, s', s1, hk, he, h => by
    simp only [drun] at h
    split at h
    · rename_i u hu
      obtain ⟨u', k1, k2⟩ := dstep_congr hf (hk d (List.mem_cons_self ..)) he hu
      obtain ⟨s1', k3, k4⟩ := drun_congr hf (fun d hd => hk d (List.mem_cons_of_mem _ hd)) k2 h
      exact ⟨s1', by simp only [drun, k1, k3], k4⟩
    · cases h
theorem drun_front (hf : CallFrame call) {i : DOp} {β : List DOp} : ∀ {α : List DOp} {s s1 : DS}, (∀ d ∈ α ++ i :: β, d.k.ok = true) → (∀ x ∈ α, swapOK x i = true) → drun call base (α ++ i :: β) s = some s1 →
    ∃ u v, dstep call base i s = some u ∧ drun call base (α ++ β) u = some v ∧ DEq s1 v
  | [], s, s1, hk, hs, h => by
    simp only [List.nil_append, drun] at h
    split at h
    · rename_i u hu; exact ⟨u, s1, hu, h, DEq.refl _⟩
    · cases h
  | x :: α, s, s1, hk, hs, h => by
    simp only [List.cons_append, drun] at h
    split at h
    · rename_i u hu
      obtain ⟨v, w, k1, k2, k3⟩ := drun_front hf (fun d hd => hk d (List.mem_cons_of_mem _ hd)) (fun y hy => hs y (List.mem_cons_of_mem _ hy)) h
      obtain ⟨t1, t2, q1, q2, q3⟩ := dstep_swap hf (hk x (List.mem_cons_self ..)) (hk i (by simp)) (hs x (List.mem_cons_self ..)) hu k1
      obtain ⟨w', r1, r2⟩ := drun_congr hf (fun d hd => hk d (by simp only [List.cons_append, List.mem_cons, List.mem_append] at hd ⊢; rcases hd with h | h <;> simp [h])) q3 k2
      exact ⟨t1, w', q1, by simp only [List.cons_append, drun, q2]; exact r1, k3.trans r2⟩
    · cases h
end
end Go.Abs
namespace Go.Abs
open Go Go.RowKit
set_option linter.unusedVariables false
section
variable {P : Program} {nt : Nat} {ops : Array Oper} {call : ICall} {base : Nat}
/-- One that is carried out, whatever follows. -/
theorem op_sem {i : Nat} {o : Oper} {io : IOper} {T : Tr AV} {H H1 : AH} {x : AV} (hcall : CallOK P call) (ho : ops[i]? = some o) (hc : cOper P nt ops o = some io) (hw : wantedA ops T o = some true) (hx : xop call T H io.op = some (x, H1))
    {K : Kx} {G : Gh} {a : Act} {w : World} (hr : HRel K G H w) (ht : TRel G nt T a) {Kt : Act → World → Prop} {Q : Exit → Act → World → Prop} (h : ∀ G' a' w', G.le G' → HRel K G' H1 w' → TRel G' nt (xput T io.dst x) a' → Kt a' w') :
    wpOp P ops Q i Kt a w := by
  unfold cOper at hc
  split at hc
  · rename_i d g k e1 e2 e3
    cases hc
    obtain ⟨hg, _⟩ := cGuard_ok e2
    obtain ⟨T', hp, he⟩ := cDst_ok e1 T x
    unfold wpOp
    simp only [ho]
    rw [if_pos (wantedA_ok ht (guardIn_ok hg) hw)]
    refine .inl ?_
    have hop : ∀ i' : IOp, cOp P o.op = some i' → k = .op i' → o.wp P a w Kt Q := by
      intro i' h1 h2
      subst h2
      obtain ⟨nx, w', G', q1, q2, q3, q4⟩ := aop_ok hr ht (o := o) (cOp_ok h1 hx)
      unfold Oper.wp
      rw [q1]
      rcases q4 with ⟨u, rfl, hv⟩ | ⟨rfl, rfl⟩
      · rw [Oper.upon_value]
        exact h G' _ w' q2 q3 (((ht.mono q2).put hp hv).congr he)
      · rw [Oper.upon_skip]
        exact h G' _ w' q2 q3 (((ht.mono q2).put hp (by simp [VR])).congr he)
    cases hk : o.op with
    | call c =>
      rw [hk] at e3
      simp only [cK] at e3
      split at e3
      · rename_i f hf
        split at e3
        · rename_i f' xs' h1 h2
          cases e3
          simp only [xop, cO_ok h1 T, cOs_ok h2 T] at hx
          split at hx
          · rename_i gg cap h3
            split at hx
            · rename_i ys h4
              obtain ⟨q1, q2⟩ := hcall _ _ _ _ _ hx
              have hac : acallee T c = some (gg, ys ++ cap) := by unfold acallee; rw [hf]; simp only [h3, h4]
              obtain ⟨dst, op, type, pos, after, guard⟩ := o
              simp only at hk
              subst hk
              obtain ⟨vs, r1, r2⟩ := run_callee ht hac q1 dst type pos after guard w
              unfold Oper.wp
              rw [r1, Oper.upon_enter]
              refine (q2 K G vs w hr r2).mono fun e w' ⟨u, y, G', H', s1, s2, s3, s4, s5, s6⟩ => ?_
              subst s1; subst s5; subst s6
              exact h G' _ w' s2 s3 (((ht.mono s2).put hp s4).congr he)
            · cases hx
          · cases hx
        · cases e3
      · split at e3
        · rename_i i' h1; cases e3; exact hop i' (by rw [hk]; exact h1) rfl
        · cases e3
    | _ =>
      rw [hk] at e3
      simp only [cK] at e3
      split at e3
      · rename_i i' h1; cases e3; exact hop i' (by rw [hk]; exact h1) rfl
      · cases e3
  · cases hc
theorem op_skip {i : Nat} {o : Oper} {io : IOper} {T : Tr AV} {H : AH} (ho : ops[i]? = some o) (hc : cOper P nt ops o = some io) (hw : wantedA ops T o = some false)
    {K : Kx} {G : Gh} {a : Act} {w : World} (hr : HRel K G H w) (ht : TRel G nt T a) {Kt : Act → World → Prop} {Q : Exit → Act → World → Prop} (h : ∀ a', TRel G nt (xput T io.dst .und) a' → Kt a' w) :
    wpOp P ops Q i Kt a w := by
  unfold cOper at hc
  split at hc
  · rename_i d g k e1 e2 e3
    cases hc
    obtain ⟨hg, _⟩ := cGuard_ok e2
    obtain ⟨T', hp, he⟩ := cDst_ok e1 T .und
    unfold wpOp
    simp only [ho]
    rw [if_neg (by rw [wantedA_ok ht (guardIn_ok hg) hw]; simp)]
    exact h _ ((ht.put hp (by simp [VR])).congr he)
  · cases hc
/-- What an operation of a row is. -/
def dkOf : DK → IK → Prop
  | .pure i, k => k = .op i
  | .load n x, k => k = .op (.load n x)
  | .k2 k _, k' => k' = k
  | .alloc i, k => k = .op i
def dRel (P : Program) (nt : Nat) (ops : Array Oper) (d : DOp) : Prop := d.k.ok = true ∧ ∃ o io, ops[d.idx]? = some o ∧ cOper P nt ops o = some io ∧ d.dst = io.dst ∧ d.guard = io.guard ∧ dkOf d.k io.op
theorem HRel.next {K : Kx} {G : Gh} {H : AH} {w : World} (h : HRel K G H w) (n : Nat) : HRel K G ⟨n, H.gs, H.ms⟩ w :=
  ⟨h.below, h.hB, h.mem, h.ones, h.old, h.grp, h.apart, h.fresh, h.maps, h.mapart, h.mfresh, h.ages⟩
theorem HRel.he {K : Kx} {G : Gh} {H H' : AH} {w : World} (h : HRel K G H w) (he : HE H H') : HRel K G H' w :=
  ⟨h.below, h.hB, h.mem, h.ones, h.old, fun g r hg => h.grp g r (by rw [← he.2.1]; exact hg), fun g g' r r' b o n b' o' n' h1 h2 => h.apart g g' r r' b o n b' o' n' (by rw [← he.2.1]; exact h1) (by rw [← he.2.1]; exact h2),
    fun g hg => h.fresh g (by rw [← he.2.1]; exact hg), fun g es hg => h.maps g es (by rw [← he.2.2]; exact hg), fun g g' es es' b b' h1 h2 => h.mapart g g' es es' b b' (by rw [← he.2.2]; exact h1) (by rw [← he.2.2]; exact h2),
    fun g hg => h.mfresh g (by rw [← he.2.2]; exact hg), fun g r e hg => h.ages g r e (by rw [← he.2.1]; exact hg)⟩
theorem dstep_sem (hcall : CallOK P call) {d : DOp} (hd : dRel P nt ops d) {s s1 : DS} (hs : dstep call base d s = some s1) {K : Kx} {G : Gh} {a : Act} {w : World} (hr : HRel K G s.H w) (ht : TRel G nt s.T a)
    {Kt : Act → World → Prop} {Q : Exit → Act → World → Prop} (h : ∀ G' a' w', G.le G' → HRel K G' s1.H w' → TRel G' nt s1.T a' → Kt a' w') : wpOp P ops Q d.idx Kt a w := by
  obtain ⟨hok, o, io, ho, hc, e1, e2, e3⟩ := hd
  have hg := cOper_guard hc s.T
  rw [← e2] at hg
  unfold dstep at hs
  split at hs
  · cases hs
  · rename_i e4
    cases hs
    rw [e4] at hg
    exact op_skip ho hc hg hr ht fun a' ht' => h G a' w (Gh.le.refl _) hr (by rw [e1]; exact ht')
  · rename_i e4
    rw [e4] at hg
    split at hs
    · rename_i x H' W' e
      cases hs
      cases hk : d.k with
      | pure i =>
        rw [hk] at e e3 hok
        simp only [eff] at e
        split at e
        · rename_i x' H2 e5
          cases e
          obtain ⟨rfl, _⟩ := iop_pure hok e5
          exact op_sem hcall ho hc hg (by rw [e3]; exact e5) hr ht fun G' a' w' q1 q2 q3 => h G' a' w' q1 q2 (by rw [e1]; exact q3)
        · cases e
      | load n y =>
        rw [hk] at e e3
        simp only [eff] at e
        split at e
        · rename_i p e5
          split at e
          · rename_i v e6
            cases e
            have hx : xop call s.T s.H io.op = some (x, s.H) := by rw [e3]; show iop s.T (.load n y) s.H = _; simp only [iop, e5, e6]
            exact op_sem hcall ho hc hg hx hr ht fun G' a' w' q1 q2 q3 => h G' a' w' q1 q2 (by rw [e1]; exact q3)
          · cases e
        · cases e
      | k2 k watch =>
        rw [hk] at e e3
        simp only [eff] at e
        split at e
        · rename_i x' H2 e5
          cases hc2 : wcheck H2 watch s.W with
          | false => rw [hc2] at e; cases e
          | true =>
            rw [hc2] at e
            cases e
            exact op_sem hcall ho hc hg (by rw [e3]; exact e5) hr ht fun G' a' w' q1 q2 q3 => h G' a' w' q1 q2 (by rw [e1]; exact q3)
        · cases e
      | alloc i =>
        rw [hk] at e e3
        simp only [eff] at e
        split at e
        · rename_i x' H2 e5
          cases e
          exact op_sem hcall ho hc hg (by rw [e3]; exact e5) (hr.next (base + d.idx)) ht fun G' a' w' q1 q2 q3 => h G' a' w' q1 (q2.next _) (by rw [e1]; exact q3)
        · cases e
    · cases hs
/-- Those that must come before. -/
def preds (ops : Array Oper) (i : Nat) : List Nat :=
  match ops[i]? with
  | some o => (o.after.toList.filter fun e => Region.binds .any e).map (·.on)
  | none => []
/-- Those that must come before, all the way, as bits. -/
def ancs (ops : Array Oper) : Nat → List Nat
  | 0 => []
  | n + 1 => ancs ops n ++ [(preds ops n).foldl (fun m p => Nat.lor (Nat.lor m (1 <<< p)) ((ancs ops n).getD p 0)) 0]
theorem ancs_len (ops : Array Oper) : ∀ n, (ancs ops n).length = n
  | 0 => rfl
  | n + 1 => by simp [ancs, ancs_len ops n]
theorem foldl_bits (t : List Nat) (x : Nat) : ∀ (l : List Nat) (m : Nat), Nat.testBit (l.foldl (fun m p => Nat.lor (Nat.lor m (1 <<< p)) (t.getD p 0)) m) x = true → Nat.testBit m x = true ∨ ∃ p ∈ l, x = p ∨ Nat.testBit (t.getD p 0) x = true
  | [], m, h => .inl h
  | p :: l, m, h => by
    rw [List.foldl_cons] at h
    rcases foldl_bits t x l _ h with h | ⟨q, hq, h⟩
    · have h' : ((m ||| (1 <<< p)) ||| t.getD p 0).testBit x = true := h
      rw [Nat.testBit_or, Nat.testBit_or, Bool.or_eq_true, Bool.or_eq_true] at h'
      rcases h' with (h' | h') | h'
      · exact .inl h'
      · refine .inr ⟨p, List.mem_cons_self .., .inl ?_⟩
        rw [Nat.one_shiftLeft, Nat.testBit_two_pow] at h'
        exact (of_decide_eq_true h').symm
      · exact .inr ⟨p, List.mem_cons_self .., .inr h'⟩
    · exact .inr ⟨q, List.mem_cons_of_mem _ hq, h⟩
theorem ancs_step (ops : Array Oper) (x : Nat) : ∀ (n i : Nat), i < n → Nat.testBit ((ancs ops n).getD i 0) x = true → ∃ p ∈ preds ops i, x = p ∨ (p < i ∧ Nat.testBit ((ancs ops n).getD p 0) x = true)
  | 0, i, h, hb => by omega
  | n + 1, i, h, hb => by
    have hget : ∀ p, p < n → (ancs ops (n + 1)).getD p 0 = (ancs ops n).getD p 0 := fun p hp => by
      rw [ancs, List.getD_eq_getElem?_getD, List.getElem?_append_left (by rw [ancs_len]; exact hp), ← List.getD_eq_getElem?_getD]
    by_cases hi : i < n
    · rw [hget i hi] at hb
      obtain ⟨p, h1, h2⟩ := ancs_step ops x n i hi hb
      refine ⟨p, h1, ?_⟩
      rcases h2 with h2 | ⟨h2, h3⟩
      · exact .inl h2
      · exact .inr ⟨h2, by rw [hget p (by omega)]; exact h3⟩
    · have : i = n := by omega
      subst this
      rw [ancs, List.getD_eq_getElem?_getD, List.getElem?_append_right (by rw [ancs_len]; exact Nat.le_refl _), ancs_len, Nat.sub_self] at hb
      simp only [List.getElem?_cons_zero, Option.getD_some] at hb
      rcases foldl_bits _ x _ 0 hb with h0 | ⟨p, h1, h2⟩
      · simp at h0
      · refine ⟨p, h1, ?_⟩
        rcases h2 with h2 | h2
        · exact .inl h2
        · by_cases hp : p < i
          · exact .inr ⟨hp, by rw [hget p hp]; exact h2⟩
          · rw [List.getD_eq_getElem?_getD, List.getElem?_eq_none (by rw [ancs_len]; omega)] at h2
            simp at h2
def beforeOK (ops : Array Oper) (A : List Nat) (x y : DOp) : Bool :=
  !(Nat.beq x.idx y.idx) && (!((preds ops x.idx).elem y.idx) && (Nat.testBit (A.getD y.idx 0) x.idx || swapOK x y))
def pwOK (ops : Array Oper) (A : List Nat) : List DOp → Bool
  | [] => true
  | d :: ds => ds.all (beforeOK ops A d) && pwOK ops A ds
def selfOK (ops : Array Oper) (d : DOp) : Bool := (preds ops d.idx).all fun p => Nat.blt p ops.size && !(Nat.beq p d.idx)
/-- All is well with a row whose order is open. -/
def dOK (ops : Array Oper) (l : List DOp) : Bool :=
  Nat.beq l.length ops.size && ((List.range ops.size).all (fun j => l.any fun d => Nat.beq d.idx j) && (l.all (selfOK ops) && pwOK ops (ancs ops ops.size) l))
theorem pwOK_ok {A : List Nat} : ∀ {l : List DOp}, pwOK ops A l = true → l.Pairwise fun x y => beforeOK ops A x y = true
  | [], h => List.Pairwise.nil
  | d :: ds, h => by
    simp only [pwOK, Bool.and_eq_true, List.all_eq_true] at h
    exact List.Pairwise.cons h.1 (pwOK_ok h.2)
theorem preds_mem {i p : Nat} : p ∈ preds ops i ↔ ∃ o, ops[i]? = some o ∧ ∃ e ∈ o.after, Region.binds .any e = true ∧ e.on = p := by
  unfold preds
  cases ho : ops[i]? with
  | none => simp
  | some o =>
    simp only [List.mem_map, List.mem_filter, Option.some.injEq, exists_eq_left']
    constructor
    · rintro ⟨e, ⟨h1, h2⟩, h3⟩; exact ⟨e, by simpa using h1, h2, h3⟩
    · rintro ⟨e, h1, h2, h3⟩; exact ⟨e, ⟨by simpa using h1, h2⟩, h3⟩
/-- What is listed holds all that must come before it. -/
def Closed (ops : Array Oper) (listed : Array Bool) : Prop := ∀ j, listed.getD j false = true → ∀ p ∈ preds ops j, listed.getD p false = true
theorem anc_listed {listed : Array Bool} (hc : Closed ops listed) (n x : Nat) : ∀ (i : Nat), i < n → (∀ p ∈ preds ops i, listed.getD p false = true) → Nat.testBit ((ancs ops n).getD i 0) x = true → listed.getD x false = true := by
  intro i
  induction i using Nat.strongRecOn with
  | _ i ih =>
    intro hi hp h
    obtain ⟨p, h1, h2⟩ := ancs_step ops x n i hi h
    rcases h2 with rfl | ⟨h2, h3⟩
    · exact hp _ h1
    · exact ih p h2 (by omega) (fun q hq => hc p (hp p h1) q hq) h3
theorem ready_preds {listed : Array Bool} {i : Nat} (h : i ∈ Region.ready .any ops listed) : ∀ p ∈ preds ops i, listed.getD p false = true := by
  rw [mem_ready] at h
  obtain ⟨_, o, ho, hall⟩ := h
  intro p hp
  rw [preds_mem] at hp
  obtain ⟨o', ho', e, he, hb, rfl⟩ := hp
  rw [ho] at ho'
  cases ho'
  exact hall e he hb
theorem getD_set_self {listed : Array Bool} {i : Nat} (h : i < listed.size) (d : Bool) : (listed.setIfInBounds i true).getD i d = true := by
  simp [h]
theorem getD_lt {listed : Array Bool} {i : Nat} (h : listed.getD i true = false) : i < listed.size := by
  rcases Nat.lt_or_ge i listed.size with h' | h'
  · exact h'
  · rw [Array.getD_eq_getD_getElem?, Array.getElem?_eq_none h'] at h; cases h
theorem getD_flip {listed : Array Bool} {i : Nat} (h : i < listed.size) : listed.getD i true = listed.getD i false := by
  rw [Array.getD_eq_getD_getElem?, Array.getD_eq_getD_getElem?, Array.getElem?_eq_getElem h]
  rfl
theorem wpAny_of_run (hcall : CallOK P call) (hf : CallFrame call) {K : Kx} {Q : Exit → Act → World → Prop} : ∀ (fuel : Nat) (listed : Array Bool) (rem : List DOp) (s s1 : DS) (G : Gh) (a : Act) (w : World),
    listed.size = ops.size → rem.length = fuel → (∀ j, listed.getD j true = false ↔ ∃ d ∈ rem, d.idx = j) → (∀ d ∈ rem, dRel P nt ops d) → (∀ d ∈ rem, selfOK ops d = true) → (rem.Pairwise fun x y => beforeOK ops (ancs ops ops.size) x y = true) → Closed ops listed →
    drun call base rem s = some s1 → HRel K G s.H w → TRel G nt s.T a → (∀ G' a' w' s', G.le G' → HRel K G' s'.H w' → TRel G' nt s'.T a' → DEq s1 s' → Q .normal a' w') → wpAny P .any ops Q fuel listed a w := by
  intro fuel
  induction fuel with
  | zero =>
    intro listed rem s s1 G a w hsz hlen hun hrel hself hpw hcl hrun hr ht hQ
    have : rem = [] := List.eq_nil_of_length_eq_zero hlen
    subst this
    simp only [drun] at hrun
    cases hrun
    refine ⟨?_, hQ G a w s (Gh.le.refl _) hr ht (DEq.refl _)⟩
    cases hrd : Region.ready .any ops listed with
    | nil => rfl
    | cons i l =>
      have hi : i ∈ Region.ready .any ops listed := by rw [hrd]; exact List.mem_cons_self ..
      obtain ⟨d, hd, _⟩ := (hun i).1 (mem_ready.1 hi).1
      cases hd
  | succ fuel ih =>
    intro listed rem s s1 G a w hsz hlen hun hrel hself hpw hcl hrun hr ht hQ
    have hready : ∀ i ∈ Region.ready .any ops listed, wpOp P ops Q i (wpAny P .any ops Q fuel (listed.setIfInBounds i true)) a w := by
      intro i hi
      have hi0 := (mem_ready.1 hi).1
      obtain ⟨d, hd, rfl⟩ := (hun i).1 hi0
      obtain ⟨α, β, rfl⟩ := List.append_of_mem hd
      have hlt := getD_lt hi0
      have hpw' := List.pairwise_append.1 hpw
      have hsw : ∀ x ∈ α, swapOK x d = true := by
        intro x hx
        have hb := hpw'.2.2 x hx d (List.mem_cons_self ..)
        unfold beforeOK at hb
        simp only [Bool.and_eq_true, Bool.or_eq_true] at hb
        rcases hb.2.2 with h | h
        · have h1 := anc_listed hcl _ _ _ (by rw [← hsz]; exact hlt) (ready_preds hi) h
          have h2 := (hun x.idx).2 ⟨x, List.mem_append_left _ hx, rfl⟩
          rw [getD_flip (getD_lt h2), h1] at h2
          cases h2
        · exact h
      obtain ⟨u, v, k1, k2, k3⟩ := drun_front hf (fun y hy => (hrel y hy).1) hsw hrun
      refine dstep_sem hcall (hrel d hd) k1 hr ht fun G' a' w' q1 q2 q3 => ?_
      refine ih (listed.setIfInBounds d.idx true) (α ++ β) u v G' a' w' (by simpa using hsz) (by simp only [List.length_append, List.length_cons] at hlen ⊢; omega) ?_ (fun y hy => hrel y (by simp only [List.mem_append, List.mem_cons] at hy ⊢; rcases hy with h | h <;> simp [h]))
        (fun y hy => hself y (by simp only [List.mem_append, List.mem_cons] at hy ⊢; rcases hy with h | h <;> simp [h])) (hpw.sublist (by simp)) ?_ k2 q2 q3 (fun G2 a2 w2 s2 r1 r2 r3 r4 => hQ G2 a2 w2 s2 (q1.trans r1) r2 r3 (k3.trans r4))
      · intro j
        by_cases hj : j = d.idx
        · subst hj
          rw [getD_set_self hlt]
          constructor
          · intro h; cases h
          · rintro ⟨y, hy, he⟩
            exfalso
            have hne : ∀ y ∈ α ++ β, y.idx ≠ d.idx := by
              intro y hy he
              rcases List.mem_append.1 hy with h | h
              · have hb := hpw'.2.2 y h d (List.mem_cons_self ..)
                unfold beforeOK at hb
                simp only [Bool.and_eq_true, Bool.not_eq_true'] at hb
                rw [he, Nat.beq_refl] at hb
                exact absurd hb.1 (by simp)
              · have hb := (List.pairwise_cons.1 hpw'.2.1).1 y h
                unfold beforeOK at hb
                simp only [Bool.and_eq_true, Bool.not_eq_true'] at hb
                rw [he, Nat.beq_refl] at hb
                exact absurd hb.1 (by simp)
            exact hne y hy he
        · rw [getD_set_ne true (Ne.symm hj), hun]
          constructor
          · rintro ⟨y, hy, he⟩
            refine ⟨y, ?_, he⟩
            simp only [List.mem_append, List.mem_cons] at hy ⊢
            rcases hy with h | h | h
            · exact .inl h
            · subst h; exact absurd he.symm hj
            · exact .inr h
          · rintro ⟨y, hy, he⟩
            refine ⟨y, ?_, he⟩
            simp only [List.mem_append, List.mem_cons] at hy ⊢
            rcases hy with h | h <;> simp [h]
      · intro j hj p hp
        by_cases hjd : j = d.idx
        · subst hjd
          exact getD_set_true (ready_preds hi p hp)
        · rw [getD_set_ne false (Ne.symm hjd)] at hj
          exact getD_set_true (hcl j hj p hp)
    refine ⟨fun hnil => ?_, hready⟩
    exfalso
    cases rem with
    | nil => simp at hlen
    | cons x rest =>
      have hx0 := (hun x.idx).2 ⟨x, List.mem_cons_self .., rfl⟩
      obtain ⟨_, o, io, ho, _⟩ := hrel x (List.mem_cons_self ..)
      have hxr : x.idx ∈ Region.ready .any ops listed := by
        rw [mem_ready]
        refine ⟨hx0, o, ho, fun e he hb => ?_⟩
        have hp : e.on ∈ preds ops x.idx := preds_mem.2 ⟨o, ho, e, he, hb, rfl⟩
        have hs := hself x (List.mem_cons_self ..)
        unfold selfOK at hs
        rw [List.all_eq_true] at hs
        have hs' := hs _ hp
        simp only [Bool.and_eq_true, Bool.not_eq_true'] at hs'
        have hlt : e.on < listed.size := by rw [hsz]; have h1 := hs'.1; simp [Nat.blt] at h1; omega
        cases hl : listed.getD e.on false with
        | true => rfl
        | false =>
          exfalso
          rw [← getD_flip hlt] at hl
          obtain ⟨y, hy, he'⟩ := (hun e.on).1 hl
          rcases List.mem_cons.1 hy with h | h
          · subst h
            rw [he', Nat.beq_refl] at hs'
            exact absurd hs'.2 (by simp)
          · have hb2 := (List.pairwise_cons.1 hpw).1 y h
            unfold beforeOK at hb2
            simp only [Bool.and_eq_true, Bool.not_eq_true'] at hb2
            have := hb2.2.1
            rw [he'] at this
            simp [hp] at this
      rw [hnil] at hxr
      cases hxr
end
end Go.Abs
namespace Go.Abs
open Go Go.RowKit
set_option linter.unusedVariables false
inductive ICode where
  | skip
  | ops (l : List IOper)
  | dops (n : Nat) (l : List DOp)
  | seq (a b : ICode)
  | cond (x : Opd) (a b : ICode)
  | block (id : Nat) (c : ICode)
  | loop (c : ICode)
  | exit (id : Nat)
  | ret
  | bad
inductive IEx where
  | normal | exit (id : Nat) | ret
abbrev XR := Option (IEx × Tr AV × AH)
def iter (body : Tr AV → AH → XR) : Nat → Tr AV → AH → XR
  | 0, _, _ => none
  | n + 1, T, H => match body T H with
    | some (.normal, T', H') => iter body n T' H'
    | r => r
noncomputable def xcode (call : ICall) (F : Nat) : ICode → Tr AV → AH → XR
  | .skip, T, H => some (.normal, T, H)
  | .ops l, T, H => match xops call l T H with
    | some (T', H') => some (.normal, T', H')
    | none => none
  | .dops n l, T, H => match drun call H.next l ⟨T, ⟨H.next + n, H.gs, H.ms⟩, []⟩ with
    | some s => some (.normal, s.T, s.H)
    | none => none
  | .seq a b, T, H => match xcode call F a T H with
    | some (.normal, T', H') => xcode call F b T' H'
    | r => r
  | .cond x a b, T, H => match iev T x with
    | some (.bool true) => xcode call F a T H
    | some (.bool false) => xcode call F b T H
    | _ => none
  | .block id c, T, H => match xcode call F c T H with
    | some (.exit id', T', H') => bif Nat.beq id' id then some (.normal, T', H') else some (.exit id', T', H')
    | r => r
  | .loop c, T, H => iter (xcode call F c) F T H
  | .exit id, T, H => some (.exit id, T, H)
  | .ret, T, H => some (.ret, T, H)
  | .bad, _, _ => none
inductive IRes where
  | tmp (p : Pth)
  | cell (p : Pth) (n : Option Nat)
structure IFun where
  nt : Nat
  body : ICode
  res : List IRes
def iress (T : Tr AV) (H : AH) : List IRes → Option (List AV)
  | [] => some []
  | .tmp p :: rs => match T.getP p with
    | some x => match iress T H rs with
      | some xs => some (x :: xs)
      | none => none
    | none => none
  | .cell p n :: rs => match T.getP p with
    | some a => match iload n H a with
      | some x => match iress T H rs with
        | some xs => some (x :: xs)
        | none => none
      | none => none
    | none => none
def ires (T : Tr AV) (H : AH) (rs : List IRes) : Option AV :=
  match iress T H rs with
  | some [x] => some x
  | some xs => some (.tup xs)
  | none => none
def cRes (P : Program) : List ResultVar → Option (List IRes)
  | [] => some []
  | .tmp t :: rs => match cRes P rs with
    | some is => some (.tmp (Tr.path t) :: is)
    | none => none
  | .cell p t :: rs => match P.underlying t, cRes P rs with
    | some d, some is => some (.cell (Tr.path p) (if isAggD d then some (P.cellsOf t) else none) :: is)
    | _, _ => none
def cOpers (P : Program) (nt : Nat) (ops : Array Oper) : List Oper → Option (List IOper)
  | [] => some []
  | o :: os => match cOper P nt ops o, cOpers P nt ops os with
    | some i, some is => some (i :: is)
    | _, _ => none
def mkK (k : IK) (watch : List Nat) : DK :=
  match k with
  | .call f a => .k2 (.call f a) watch
  | .op o => bif o.isPure then .pure o else bif o.isAlloc then .alloc o else (match o with
    | .load n x => .load n x
    | o => .k2 (.op o) watch)
def DK.cls : DK → Nat
  | .pure _ => 0
  | .load .. => 0
  | .k2 .. => 1
  | .alloc _ => 2
def DK.isLoad : DK → Bool
  | .load .. => true
  | _ => false
def nextD (ops : Array Oper) (is : List IOper) (done : List Nat) (c : Nat) : Option Nat :=
  (List.range is.length).find? fun i => !(done.elem i) && ((match is[i]? with | some io => Nat.beq (mkK io.op []).cls c | none => false) && (preds ops i).all fun p => done.elem p)
def orderD (ops : Array Oper) (is : List IOper) : Nat → List Nat → List Nat
  | 0, _ => []
  | n + 1, done => match nextD ops is done 0 with
    | some i => i :: orderD ops is n (i :: done)
    | none => match nextD ops is done 1 with
      | some i => i :: orderD ops is n (i :: done)
      | none => match nextD ops is done 2 with
        | some i => i :: orderD ops is n (i :: done)
        | none => []
def buildD (A : List Nat) (is : List IOper) : List Nat → List DOp → Option (List DOp)
  | [], _ => some []
  | i :: l, bef => match is[i]? with
    | some io => match buildD A is l (⟨i, io.dst, io.guard, mkK io.op ((bef.filter fun b => b.k.isLoad && !(Nat.testBit (A.getD i 0) b.idx)).map (·.idx))⟩ :: bef) with
      | some ds => some (⟨i, io.dst, io.guard, mkK io.op ((bef.filter fun b => b.k.isLoad && !(Nat.testBit (A.getD i 0) b.idx)).map (·.idx))⟩ :: ds)
      | none => none
    | none => none
def cDraw (P : Program) (nt : Nat) (ops : Array Oper) : Option (List DOp) :=
  match cOpers P nt ops ops.toList with
  | some is => buildD (ancs ops ops.size) is (orderD ops is ops.size []) []
  | none => none
def cCode (P : Program) (nt : Nat) : Code → ICode
  | .skip => .skip
  | .label _ => .skip
  | .region _ ops draw => match draw with
    | true => (match cDraw P nt ops with
      | some l => .dops ops.size l
      | none => .bad)
    | false => (match cOpers P nt ops ops.toList with
      | some l => .ops l
      | none => .bad)
  | .seq a b => .seq (cCode P nt a) (cCode P nt b)
  | .cond x a b => match cO x with
    | some x => .cond x (cCode P nt a) (cCode P nt b)
    | none => .bad
  | .block id c => .block id (cCode P nt c)
  | .loop c => .loop (cCode P nt c)
  | .scope c => cCode P nt c
  | .exit id => .exit id
  | .ret => .ret
  | _ => .bad
/-- All rows whose order is open are well. -/
def codeD (P : Program) (nt : Nat) : Code → Bool
  | .region _ ops draw => match draw with
    | true => (match cDraw P nt ops with
      | some l => dOK ops l
      | none => true)
    | false => true
  | .seq a b => codeD P nt a && codeD P nt b
  | .cond _ a b => codeD P nt a && codeD P nt b
  | .block _ c => codeD P nt c
  | .loop c => codeD P nt c
  | .scope c => codeD P nt c
  | _ => true
def funD (P : Program) (f : FuncId) : Bool :=
  match P.funcs[f]? with
  | some fn => match fn.body with
    | some c => codeD P fn.ntmps c
    | none => true
  | none => true
def cFun (P : Program) (good : FuncId → Bool) (f : FuncId) : Option IFun :=
  bif good f then (match P.funcs[f]? with
    | some fn => bif fn.name == "runtime.NumGoroutine" then none else (match fn.body with
      | some c => match cRes P fn.results.toList with
        | some rs => some ⟨fn.ntmps, cCode P fn.ntmps c, rs⟩
        | none => none
      | none => none)
    | none => none) else none
def xinit : List AV → Nat → Tr AV → Tr AV
  | [], _, T => T
  | x :: xs, i, T => xinit xs (i + 1) (Tr.setP (Tr.path i) T x)
def xend (fn : IFun) : XR → Option (AV × AH)
  | some (.normal, T, H) => match ires T H fn.res with
    | some x => some (x, H)
    | none => none
  | some (.ret, T, H) => match ires T H fn.res with
    | some x => some (x, H)
    | none => none
  | _ => none
/-- Functions that are not carried out: what they answer is known. -/
abbrev Hooks := FuncId → Option (List AV → AH → Option (AV × AH))
noncomputable def arun (P : Program) (good : FuncId → Bool) (hook : Hooks) (F : Nat) : Nat → ICall
  | 0 => fun _ _ _ => none
  | n + 1 => fun f args H => match hook f with
    | some h => h args H
    | none => match cFun P good f with
      | some fn => bif Nat.ble args.length fn.nt then xend fn (xcode (arun P good hook F n) F fn.body (xinit args 0 .nil) H) else none
      | none => none
end Go.Abs
namespace Go.Abs
open Go Go.RowKit
set_option linter.unusedVariables false
/-- The same, with more groups about. -/
def FrameX {β : Type} (y : β) (H H' : AH) (f : AH → Option (β × AH)) : Prop :=
  Grows H H' ∧ ∀ R H2, Ext R H H2 → Apart R H' → ∃ H2', f H2 = some (y, H2') ∧ Ext R H' H2'
section
variable {call : ICall}
theorem xops_frame (hf : CallFrame call) : ∀ {l : List IOper} {T T' : Tr AV} {H H' : AH}, xops call l T H = some (T', H') → FrameX T' H H' (xops call l T)
  | [], T, T', H, H', h => by
    simp only [xops] at h
    cases h
    exact ⟨Grows.refl _, fun R H2 he ha => ⟨H2, rfl, he⟩⟩
  | o :: os, T, T', H, H', h => by
    have main : ∀ x H1, xop call T H o.op = some (x, H1) → xops call os (xput T o.dst x) H1 = some (T', H') → FrameX T' H H' (fun H => match xop call T H o.op with | some (x, H') => xops call os (xput T o.dst x) H' | none => none) := by
      intro x H1 h1 h2
      obtain ⟨q1, q2⟩ := xop_frame hf h1
      obtain ⟨q3, q4⟩ := xops_frame hf h2
      refine ⟨q1.trans q3, fun R H2 he ha => ?_⟩
      obtain ⟨H2', k1, k2⟩ := q2 R H2 he (ha.back q3)
      obtain ⟨H3', k3, k4⟩ := q4 R H2' k2 ha
      have k1' : xop call T H2 o.op = some (x, H2') := k1
      exact ⟨H3', by simp only [k1']; exact k3, k4⟩
    have skip : xops call os (xput T o.dst .und) H = some (T', H') → FrameX T' H H' (fun H => xops call os (xput T o.dst .und) H) := fun h2 => xops_frame hf h2
    simp only [xops] at h
    have e : xops call (o :: os) T = fun H => (match o.guard with
      | none => match xop call T H o.op with
        | some (x, H') => xops call os (xput T o.dst x) H'
        | none => none
      | some (p, want) => match T.getP p with
        | some (.bool b) => bif b == want then (match xop call T H o.op with
            | some (x, H') => xops call os (xput T o.dst x) H'
            | none => none) else xops call os (xput T o.dst .und) H
        | some .und => xops call os (xput T o.dst .und) H
        | _ => none) := by
      funext H
      simp only [xops]
      cases o.guard with
      | none => rfl
      | some g =>
        obtain ⟨p, want⟩ := g
        cases hT : T.getP p with
        | none => rfl
        | some v => cases v <;> rfl
    rw [e]
    split at h
    · rename_i eg
      simp only [eg]
      split at h
      · rename_i x H1 hx; exact main x H1 hx h
      · cases h
    · rename_i p want eg
      simp only [eg]
      split at h
      · rename_i b hb
        simp only [hb]
        cases hbw : (b == want) with
        | true =>
          rw [hbw] at h
          simp only [cond_true] at h ⊢
          split at h
          · rename_i x H1 hx; exact main x H1 hx h
          · cases h
        | false =>
          rw [hbw] at h
          simp only [cond_false] at h ⊢
          exact skip h
      · rename_i hb
        simp only [hb]
        exact skip h
      · cases h
theorem eff_frame (hf : CallFrame call) {base idx : Nat} {T : Tr AV} {H H' : AH} {W W' : List WE} {k : DK} {x : AV} (hk : k.ok = true) (h : eff call base T H W idx k = some (x, H', W')) :
    Grows H H' ∧ ∀ R H2, Ext R H H2 → Apart R H' → ∃ H2', eff call base T H2 W idx k = some (x, H2', W') ∧ Ext R H' H2' := by
  cases k with
  | pure i =>
    simp only [eff] at h
    split at h
    · rename_i x' H1 e
      cases h
      obtain ⟨_, q⟩ := iop_pure hk e
      exact ⟨Grows.refl _, fun R H2 he ha => ⟨H2, by simp only [eff, q H2], he⟩⟩
    · cases h
  | load n i =>
    simp only [eff] at h
    split at h
    · rename_i p e
      split at h
      · rename_i v e2
        cases h
        exact ⟨Grows.refl _, fun R H2 he ha => ⟨H2, by simp only [eff, e, iload_ext he ha e2], he⟩⟩
      · cases h
    · cases h
  | k2 kk watch =>
    simp only [eff] at h
    split at h
    · rename_i x' H1 e
      cases hc : wcheck H1 watch W with
      | false => rw [hc] at h; cases h
      | true =>
        rw [hc] at h
        cases h
        obtain ⟨q1, q2⟩ := xop_frame hf e
        refine ⟨q1, fun R H2 he ha => ?_⟩
        obtain ⟨H2', k1, k2⟩ := q2 R H2 he ha
        have k1' : xop call T H2 kk = some (x, H2') := k1
        exact ⟨H2', by simp only [eff, k1', wcheck_eq k2 ha (fun e he => he) hc, cond_true], k2⟩
    · cases h
  | alloc i =>
    obtain ⟨G, rfl, rfl, q1, q2⟩ := eff_alloc hk h
    refine ⟨Grows.put _ _ _ _, fun R H2 he ha => ?_⟩
    have hR := ha.not
    refine ⟨_, q2 H2 _ (by rw [he.gs, hR]; exact q1), ?_⟩
    have := he.put (r := G) (nx := H.next) hR
    rw [show H2.put (base + idx) G H2.next = H2.put (base + idx) G H.next by rw [he.next]]
    exact this
theorem dstep_frame (hf : CallFrame call) {base : Nat} {d : DOp} {s s1 : DS} (hk : d.k.ok = true) (h : dstep call base d s = some s1) :
    Grows s.H s1.H ∧ ∀ R H2, Ext R s.H H2 → Apart R s1.H → ∃ H2', dstep call base d ⟨s.T, H2, s.W⟩ = some ⟨s1.T, H2', s1.W⟩ ∧ Ext R s1.H H2' := by
  unfold dstep at h ⊢
  split at h
  · cases h
  · rename_i e
    cases h
    exact ⟨Grows.refl _, fun R H2 he ha => ⟨H2, by simp only [e], he⟩⟩
  · rename_i e
    split at h
    · rename_i x H' W' e2
      cases h
      obtain ⟨q1, q2⟩ := eff_frame hf hk e2
      refine ⟨q1, fun R H2 he ha => ?_⟩
      obtain ⟨H2', k1, k2⟩ := q2 R H2 he ha
      exact ⟨H2', by simp only [e, k1], k2⟩
    · cases h
theorem drun_frame (hf : CallFrame call) {base : Nat} : ∀ {l : List DOp} {s s1 : DS}, (∀ d ∈ l, d.k.ok = true) → drun call base l s = some s1 →
    Grows s.H s1.H ∧ ∀ R H2, Ext R s.H H2 → Apart R s1.H → ∃ H2', drun call base l ⟨s.T, H2, s.W⟩ = some ⟨s1.T, H2', s1.W⟩ ∧ Ext R s1.H H2'
  | [], s, s1, hk, h => by
    simp only [drun] at h
    cases h
    exact ⟨Grows.refl _, fun R H2 he ha => ⟨H2, rfl, he⟩⟩
  | d :: l, s, s1, hk, h => by
    simp only [drun] at h
    split at h
    · rename_i u hu
      obtain ⟨q1, q2⟩ := dstep_frame hf (hk d (List.mem_cons_self ..)) hu
      obtain ⟨q3, q4⟩ := drun_frame hf (fun y hy => hk y (List.mem_cons_of_mem _ hy)) h
      refine ⟨q1.trans q3, fun R H2 he ha => ?_⟩
      obtain ⟨H2', k1, k2⟩ := q2 R H2 he (ha.back q3)
      obtain ⟨H3', k3, k4⟩ := q4 R H2' k2 ha
      exact ⟨H3', by simp only [drun, k1]; exact k3, k4⟩
    · cases h
theorem mkK_ok (k : IK) (w : List Nat) : (mkK k w).ok = true := by
  unfold mkK
  cases k with
  | call f a => rfl
  | op o =>
    cases h1 : o.isPure with
    | true => simp [h1, DK.ok]
    | false =>
      cases h2 : o.isAlloc with
      | true => simp [h1, h2, DK.ok]
      | false =>
        simp only [h1, h2, cond_false]
        split <;> rfl
theorem buildD_mem {A : List Nat} {is : List IOper} : ∀ {l : List Nat} {bef ds : List DOp}, buildD A is l bef = some ds → ∀ d ∈ ds, ∃ io w, is[d.idx]? = some io ∧ d.dst = io.dst ∧ d.guard = io.guard ∧ d.k = mkK io.op w
  | [], bef, ds, h, d, hd => by simp only [buildD] at h; cases h; cases hd
  | i :: l, bef, ds, h, d, hd => by
    simp only [buildD] at h
    split at h
    · rename_i io hio
      split at h
      · rename_i ds' hds
        cases h
        rcases List.mem_cons.1 hd with rfl | hd
        · exact ⟨io, _, hio, rfl, rfl, rfl⟩
        · exact buildD_mem hds d hd
      · cases h
    · cases h
theorem cDraw_ok {P : Program} {nt : Nat} {ops : Array Oper} {l : List DOp} (h : cDraw P nt ops = some l) : ∀ d ∈ l, d.k.ok = true := by
  unfold cDraw at h
  split at h
  · intro d hd
    obtain ⟨io, w, _, _, _, e⟩ := buildD_mem h d hd
    rw [e]; exact mkK_ok _ _
  · cases h
/-- All rows in it are of operations that are what they say. -/
def okC : ICode → Prop
  | .dops _ l => ∀ d ∈ l, d.k.ok = true
  | .seq a b => okC a ∧ okC b
  | .cond _ a b => okC a ∧ okC b
  | .block _ c => okC c
  | .loop c => okC c
  | _ => True
theorem cCode_okC (P : Program) (nt : Nat) : ∀ c, okC (cCode P nt c)
  | .skip => trivial
  | .label _ => trivial
  | .region _ ops true => by
    simp only [cCode]
    split
    · rename_i l h; exact cDraw_ok h
    · trivial
  | .region _ ops false => by
    simp only [cCode]
    split <;> trivial
  | .seq a b => ⟨cCode_okC P nt a, cCode_okC P nt b⟩
  | .cond x a b => by
    simp only [cCode]
    split
    · exact ⟨cCode_okC P nt a, cCode_okC P nt b⟩
    · trivial
  | .block _ c => cCode_okC P nt c
  | .loop c => cCode_okC P nt c
  | .scope c => by simp only [cCode]; exact cCode_okC P nt c
  | .exit _ => trivial
  | .ret => trivial
  | .rangeFunc .. => trivial
  | .goto _ => trivial
  | .refuse _ => trivial
theorem iter_frame {body : Tr AV → AH → XR} (hb : ∀ T H e T' H', body T H = some (e, T', H') → Grows H H' ∧ ∀ R H2, Ext R H H2 → Apart R H' → ∃ H2', body T H2 = some (e, T', H2') ∧ Ext R H' H2') : ∀ {n : Nat} {T : Tr AV} {H : AH} {e : IEx} {T' : Tr AV} {H' : AH},
    iter body n T H = some (e, T', H') → Grows H H' ∧ ∀ R H2, Ext R H H2 → Apart R H' → ∃ H2', iter body n T H2 = some (e, T', H2') ∧ Ext R H' H2'
  | 0, T, H, e, T', H', h => by simp only [iter] at h; cases h
  | n + 1, T, H, e, T', H', h => by
    simp only [iter] at h
    split at h
    · rename_i T1 H1 h1
      obtain ⟨q1, q2⟩ := hb _ _ _ _ _ h1
      obtain ⟨q3, q4⟩ := iter_frame hb h
      refine ⟨q1.trans q3, fun R H2 he ha => ?_⟩
      obtain ⟨H2', k1, k2⟩ := q2 R H2 he (ha.back q3)
      obtain ⟨H3', k3, k4⟩ := q4 R H2' k2 ha
      exact ⟨H3', by simp only [iter, k1]; exact k3, k4⟩
    · rename_i r hne
      obtain ⟨q1, q2⟩ := hb _ _ _ _ _ h
      refine ⟨q1, fun R H2 he ha => ?_⟩
      obtain ⟨H2', k1, k2⟩ := q2 R H2 he ha
      refine ⟨H2', ?_, k2⟩
      simp only [iter, k1]
      cases e with
      | normal => exact absurd h (hne _ _)
      | exit id => rfl
      | ret => rfl
theorem xcode_frame (hf : CallFrame call) {F : Nat} : ∀ {c : ICode} {T : Tr AV} {H : AH} {e : IEx} {T' : Tr AV} {H' : AH}, okC c → xcode call F c T H = some (e, T', H') →
    Grows H H' ∧ ∀ R H2, Ext R H H2 → Apart R H' → ∃ H2', xcode call F c T H2 = some (e, T', H2') ∧ Ext R H' H2' := by
  intro c
  induction c with
  | skip => intro T H e T' H' hok h; simp only [xcode] at h; cases h; exact ⟨Grows.refl _, fun R H2 he ha => ⟨H2, rfl, he⟩⟩
  | exit id => intro T H e T' H' hok h; simp only [xcode] at h; cases h; exact ⟨Grows.refl _, fun R H2 he ha => ⟨H2, rfl, he⟩⟩
  | ret => intro T H e T' H' hok h; simp only [xcode] at h; cases h; exact ⟨Grows.refl _, fun R H2 he ha => ⟨H2, rfl, he⟩⟩
  | bad => intro T H e T' H' hok h; simp only [xcode] at h; cases h
  | ops l =>
    intro T H e T' H' hok h
    simp only [xcode] at h
    split at h
    · rename_i T1 H1 h1
      cases h
      obtain ⟨q1, q2⟩ := xops_frame hf h1
      refine ⟨q1, fun R H2 he ha => ?_⟩
      obtain ⟨H2', k1, k2⟩ := q2 R H2 he ha
      exact ⟨H2', by simp only [xcode, k1], k2⟩
    · cases h
  | dops n l =>
    intro T H e T' H' hok h
    simp only [xcode] at h
    split at h
    · rename_i s h1
      cases h
      obtain ⟨q1, q2⟩ := drun_frame hf hok h1
      refine ⟨q1, fun R H2 he ha => ?_⟩
      obtain ⟨H2', k1, k2⟩ := q2 R ⟨H2.next + n, H2.gs, H2.ms⟩ ⟨by show H2.next + n = H.next + n; rw [he.next], he.gs, he.ms⟩ ha
      refine ⟨H2', ?_, k2⟩
      simp only at k1
      simp only [xcode, he.next]
      rw [he.next] at k1
      rw [k1]
    · cases h
  | seq a b iha ihb =>
    intro T H e T' H' hok h
    simp only [xcode] at h
    split at h
    · rename_i T1 H1 h1
      obtain ⟨q1, q2⟩ := iha hok.1 h1
      obtain ⟨q3, q4⟩ := ihb hok.2 h
      refine ⟨q1.trans q3, fun R H2 he ha => ?_⟩
      obtain ⟨H2', k1, k2⟩ := q2 R H2 he (ha.back q3)
      obtain ⟨H3', k3, k4⟩ := q4 R H2' k2 ha
      exact ⟨H3', by simp only [xcode, k1]; exact k3, k4⟩
    · rename_i r hne
      obtain ⟨q1, q2⟩ := iha hok.1 h
      refine ⟨q1, fun R H2 he ha => ?_⟩
      obtain ⟨H2', k1, k2⟩ := q2 R H2 he ha
      refine ⟨H2', ?_, k2⟩
      simp only [xcode, k1]
      cases e with
      | normal => exact absurd h (hne _ _)
      | exit id => rfl
      | ret => rfl
  | cond x a b iha ihb =>
    intro T H e T' H' hok h
    simp only [xcode] at h
    split at h
    · rename_i hx
      obtain ⟨q1, q2⟩ := iha hok.1 h
      exact ⟨q1, fun R H2 he ha => by obtain ⟨H2', k1, k2⟩ := q2 R H2 he ha; exact ⟨H2', by simp only [xcode, hx]; exact k1, k2⟩⟩
    · rename_i hx
      obtain ⟨q1, q2⟩ := ihb hok.2 h
      exact ⟨q1, fun R H2 he ha => by obtain ⟨H2', k1, k2⟩ := q2 R H2 he ha; exact ⟨H2', by simp only [xcode, hx]; exact k1, k2⟩⟩
    · cases h
  | block id c ih =>
    intro T H e T' H' hok h
    simp only [xcode] at h
    split at h
    · rename_i id' T1 H1 h1
      obtain ⟨q1, q2⟩ := ih hok h1
      cases hb : Nat.beq id' id with
      | true =>
        rw [hb] at h
        cases h
        exact ⟨q1, fun R H2 he ha => by obtain ⟨H2', k1, k2⟩ := q2 R H2 he ha; exact ⟨H2', by simp only [xcode, k1, hb, cond_true], k2⟩⟩
      | false =>
        rw [hb] at h
        cases h
        exact ⟨q1, fun R H2 he ha => by obtain ⟨H2', k1, k2⟩ := q2 R H2 he ha; exact ⟨H2', by simp only [xcode, k1, hb, cond_false], k2⟩⟩
    · rename_i r hne
      obtain ⟨q1, q2⟩ := ih hok h
      refine ⟨q1, fun R H2 he ha => ?_⟩
      obtain ⟨H2', k1, k2⟩ := q2 R H2 he ha
      refine ⟨H2', ?_, k2⟩
      simp only [xcode, k1]
      cases e with
      | normal => rfl
      | exit id' => exact absurd h (hne _ _ _)
      | ret => rfl
  | loop c ih =>
    intro T H e T' H' hok h
    simp only [xcode] at h ⊢
    exact iter_frame (fun T H e T' H' h => ih hok h) h
theorem iress_frame {T : Tr AV} {R : Nat → Option Grp} {H H2 : AH} (he : Ext R H H2) (ha : Apart R H) : ∀ {rs : List IRes} {xs : List AV}, iress T H rs = some xs → iress T H2 rs = some xs
  | [], xs, h => h
  | .tmp p :: rs, xs, h => by
    simp only [iress] at h ⊢
    split at h
    · rename_i x e1
      split at h
      · rename_i ys e2
        simp only [iress_frame he ha e2]
        exact h
      · cases h
    · cases h
  | .cell p n :: rs, xs, h => by
    simp only [iress] at h ⊢
    split at h
    · rename_i a e1
      split at h
      · rename_i x e2
        split at h
        · rename_i ys e3
          simp only [iload_ext he ha e2, iress_frame he ha e3]
          exact h
        · cases h
      · cases h
    · cases h
theorem ires_frame {T : Tr AV} {R : Nat → Option Grp} {H H2 : AH} (he : Ext R H H2) (ha : Apart R H) {rs : List IRes} {x : AV} (h : ires T H rs = some x) : ires T H2 rs = some x := by
  unfold ires at h ⊢
  split at h
  · rename_i y e; rw [iress_frame he ha e]; exact h
  · rename_i ys hne e
    cases h
    rw [iress_frame he ha e]
    split
    · rename_i y e2; cases e2; exact absurd rfl (hne y)
    · rename_i zs _ e2; cases e2; rfl
    · rename_i e2; cases e2
  · cases h
theorem xend_frame {fn : IFun} {f : AH → XR} {H H' : AH} {x : AV} (hx : ∀ e T1 H1, f H = some (e, T1, H1) → Grows H H1 ∧ ∀ R H2, Ext R H H2 → Apart R H1 → ∃ H2', f H2 = some (e, T1, H2') ∧ Ext R H1 H2') (h : xend fn (f H) = some (x, H')) : FrameR x H H' (fun H => xend fn (f H)) := by
  have main : ∀ e T1 H1, f H = some (e, T1, H1) → (e = .normal ∨ e = .ret) → ires T1 H1 fn.res = some x → H1 = H' → FrameR x H H' (fun H => xend fn (f H)) := by
    rintro e T1 H1 h1 h2 h3 rfl
    obtain ⟨q1, q2⟩ := hx _ _ _ h1
    refine ⟨q1, fun R H2 he ha => ?_⟩
    obtain ⟨H2', k1, k2⟩ := q2 R H2 he ha
    refine ⟨H2', ?_, k2⟩
    simp only [k1]
    rcases h2 with rfl | rfl <;> simp only [xend, ires_frame k2 ha h3]
  cases hfh : f H with
  | none => rw [hfh] at h; simp [xend] at h
  | some r =>
    obtain ⟨e, T1, H1⟩ := r
    rw [hfh] at h
    cases e with
    | normal =>
      simp only [xend] at h
      split at h
      · rename_i y hy; cases h; exact main _ _ _ hfh (.inl rfl) hy rfl
      · cases h
    | ret =>
      simp only [xend] at h
      split at h
      · rename_i y hy; cases h; exact main _ _ _ hfh (.inr rfl) hy rfl
      · cases h
    | exit id => simp [xend] at h
def HookFrame (hook : Hooks) : Prop := ∀ f h, hook f = some h → ∀ args H x H', h args H = some (x, H') → FrameR x H H' (h args)
theorem arun_frame {P : Program} {good : FuncId → Bool} {hook : Hooks} {F : Nat} (hh : HookFrame hook) : ∀ n, CallFrame (arun P good hook F n)
  | 0 => fun f args H x H' h => by simp only [arun] at h; cases h
  | n + 1 => fun f args H x H' h => by
    have ih := arun_frame (P := P) (good := good) (F := F) hh n
    simp only [arun] at h
    split at h
    · rename_i hk hr
      obtain ⟨q1, q2⟩ := hh _ _ hr _ _ _ _ h
      refine ⟨q1, fun R H2 he ha => ?_⟩
      obtain ⟨H2', k1, k2⟩ := q2 R H2 he ha
      exact ⟨H2', by simp only [arun, hr]; exact k1, k2⟩
    · rename_i hr
      split at h
      · rename_i fn hfn
        cases hb : Nat.ble args.length fn.nt with
        | false => rw [hb] at h; cases h
        | true =>
          rw [hb] at h
          simp only [cond_true] at h
          have hokc : okC fn.body := by
            unfold cFun at hfn
            cases hg : good f with
            | false => rw [hg] at hfn; cases hfn
            | true =>
              rw [hg] at hfn
              simp only [cond_true] at hfn
              split at hfn
              · rename_i fn' _
                cases hnm : (fn'.name == "runtime.NumGoroutine") with
                | true => rw [hnm] at hfn; cases hfn
                | false =>
                  rw [hnm] at hfn
                  simp only [cond_false] at hfn
                  split at hfn
                  · split at hfn
                    · cases hfn; exact cCode_okC _ _ _
                    · cases hfn
                  · cases hfn
              · cases hfn
          obtain ⟨q1, q2⟩ := xend_frame (f := fun H => xcode (arun P good hook F n) F fn.body (xinit args 0 .nil) H) (fun e T1 H1 h1 => xcode_frame ih hokc h1) h
          refine ⟨q1, fun R H2 he ha => ?_⟩
          obtain ⟨H2', k1, k2⟩ := q2 R H2 he ha
          exact ⟨H2', by simp only [arun, hr, hfn, hb, cond_true]; exact k1, k2⟩
      · cases h
end
end Go.Abs
namespace Go.Abs
open Go Go.RowKit
set_option linter.unusedVariables false
section
variable {P : Program} {nt : Nat} {call : ICall}
theorem cOpers_get {ops : Array Oper} : ∀ {l : List Oper} {is : List IOper}, cOpers P nt ops l = some is → is.length = l.length ∧ ∀ (j : Nat) io, is[j]? = some io → ∃ o, l[j]? = some o ∧ cOper P nt ops o = some io
  | [], is, h => by simp only [cOpers] at h; cases h; exact ⟨rfl, fun j io hj => by simp at hj⟩
  | o :: os, is, h => by
    simp only [cOpers] at h
    split at h
    · rename_i i is' h1 h2
      cases h
      obtain ⟨q1, q2⟩ := cOpers_get h2
      refine ⟨by simp [q1], fun j io hj => ?_⟩
      cases j with
      | zero => simp at hj; subst hj; exact ⟨o, rfl, h1⟩
      | succ j => simpa using q2 j io (by simpa using hj)
    · cases h
theorem mkK_dk (k : IK) (w : List Nat) : dkOf (mkK k w) k := by
  unfold mkK
  cases k with
  | call f a => rfl
  | op o =>
    cases h1 : o.isPure with
    | true => simp [h1, dkOf]
    | false =>
      cases h2 : o.isAlloc with
      | true => simp [h1, h2, dkOf]
      | false =>
        simp only [h1, h2, cond_false]
        split
        · rfl
        · rfl
theorem cDraw_rel {ops : Array Oper} {l : List DOp} (h : cDraw P nt ops = some l) : ∀ d ∈ l, dRel P nt ops d := by
  unfold cDraw at h
  split at h
  · rename_i is his
    intro d hd
    obtain ⟨io, w, h1, h2, h3, h4⟩ := buildD_mem h d hd
    obtain ⟨_, q⟩ := cOpers_get his
    obtain ⟨o, h5, h6⟩ := q _ _ h1
    exact ⟨by rw [h4]; exact mkK_ok _ _, o, io, by simpa using h5, h6, h2, h3, by rw [h4]; exact mkK_dk _ _⟩
  · cases h
/-- An exit. -/
def toEx : IEx → Exit
  | .normal => .normal
  | .exit id => .exit id
  | .ret => .ret
def Is (e : IEx) (T : Tr AV) (H : AH) : Exit → Tr AV → AH → Prop := fun e1 T1 H1 => e1 = toEx e ∧ T1 = T ∧ H1 = H
theorem AT.draw (hcall : CallOK P call) (hf : CallFrame call) (hm : P.follows .mixedOrders = true) {id : Nat} {ops : Array Oper} {l : List DOp} (hl : cDraw P nt ops = some l) (hd : dOK ops l = true) {T : Tr AV} {H : AH} {s : DS}
    (h : drun call H.next l ⟨T, ⟨H.next + ops.size, H.gs, H.ms⟩, []⟩ = some s) : AT P nt (.region id ops true) T H (Is .normal s.T s.H) := by
  intro K G a w hr ht
  unfold dOK at hd
  simp only [Bool.and_eq_true] at hd
  obtain ⟨h1, h2, h3, h4⟩ := hd
  have hlen := Nat.eq_of_beq_eq_true h1
  have hrel := cDraw_rel hl
  refine wp_region_any hm ?_
  have hget : ∀ j, (Array.replicate ops.size false).getD j true = false ↔ j < ops.size := by
    intro j
    rw [Array.getD_eq_getD_getElem?, Array.getElem?_replicate]
    by_cases hj : j < ops.size
    · simp [hj]
    · simp [hj]
  refine wpAny_of_run hcall hf (base := H.next) ops.size (Array.replicate ops.size false) l ⟨T, ⟨H.next + ops.size, H.gs, H.ms⟩, []⟩ s G a _ (by simp) hlen (fun j => ?_) hrel (by simpa [List.all_eq_true] using h3) (pwOK_ok h4) ?_ h ((hr.next _).drawn _) ht ?_
  · rw [hget]
    rw [List.all_eq_true] at h2
    constructor
    · intro hj
      have := h2 j (List.mem_range.2 hj)
      rw [List.any_eq_true] at this
      obtain ⟨d, hd, he⟩ := this
      exact ⟨d, hd, Nat.eq_of_beq_eq_true he⟩
    · rintro ⟨d, hd, rfl⟩
      obtain ⟨_, o, io, ho, _⟩ := hrel d hd
      exact (Array.getElem?_eq_some_iff.1 ho).1
  · intro j hj
    rw [Array.getD_eq_getD_getElem?, Array.getElem?_replicate] at hj
    split at hj <;> simp at hj
  · intro G' a' w' s' q1 q2 q3 q4
    refine ⟨G', s.T, s.H, q1, ?_, ?_, rfl, rfl, rfl⟩
    · exact q2.he ⟨q4.H.1.symm, fun g => (q4.H.2.1 g).symm, fun g => (q4.H.2.2 g).symm⟩
    · exact q3.congr fun k => by
        have := q4.T (Tr.path k)
        rw [Tr.getP_eq, Tr.getP_eq] at this
        exact this.symm
theorem AT.scope {c : Code} {T : Tr AV} {H : AH} {Q : Exit → Tr AV → AH → Prop} (h : AT P nt c T H Q) (hq : ∀ l T H, ¬ Q (.goto l) T H) : AT P nt (.scope c) T H Q := fun K G a w hr ht =>
  wp_scope_straight (wp_mono (h K G a w hr ht) fun e a' w' hl => by
    cases e with
    | goto l => obtain ⟨_, _, _, _, _, _, h4⟩ := hl; exact (hq _ _ _ h4).elim
    | normal => exact hl
    | exit id => exact hl
    | ret => exact hl
    | panic ch => exact hl
    | outgrown => exact hl)
theorem xcode_ok (hcall : CallOK P call) (hf : CallFrame call) (hm : P.follows .mixedOrders = true) {F : Nat} : ∀ (c : Code) (T : Tr AV) (H : AH) (e : IEx) (T' : Tr AV) (H' : AH), codeD P nt c = true → xcode call F (cCode P nt c) T H = some (e, T', H') → AT P nt c T H (Is e T' H') := by
  intro c
  induction c with
  | skip => intro T H e T' H' hd h; simp only [cCode, xcode] at h; cases h; exact AT.skip ⟨rfl, rfl, rfl⟩
  | label l => intro T H e T' H' hd h; simp only [cCode, xcode] at h; cases h; exact AT.label ⟨rfl, rfl, rfl⟩
  | exit id => intro T H e T' H' hd h; simp only [cCode, xcode] at h; cases h; exact AT.exit ⟨rfl, rfl, rfl⟩
  | ret => intro T H e T' H' hd h; simp only [cCode, xcode] at h; cases h; exact AT.ret ⟨rfl, rfl, rfl⟩
  | rangeFunc f ps a b => intro T H e T' H' hd h; simp only [cCode, xcode] at h; cases h
  | goto l => intro T H e T' H' hd h; simp only [cCode, xcode] at h; cases h
  | refuse w => intro T H e T' H' hd h; simp only [cCode, xcode] at h; cases h
  | region id ops draw =>
    intro T H e T' H' hd h
    cases draw with
    | true =>
      simp only [cCode] at h
      split at h
      · rename_i l hl
        simp only [xcode] at h
        split at h
        · rename_i s hs
          cases h
          simp only [codeD, hl] at hd
          exact AT.draw hcall hf hm hl hd hs
        · cases h
      · simp only [xcode] at h; cases h
    | false =>
      simp only [cCode] at h
      split at h
      · rename_i l hl
        simp only [xcode] at h
        split at h
        · rename_i T1 H1 h1
          cases h
          obtain ⟨q1, q2⟩ := cOpers_get hl
          refine AT.region (xops_ok hcall (List.range ops.size) l T H _ _ (by simp [q1]) (fun j i io hj hio => ?_) h1)
          obtain ⟨o, h2, h3⟩ := q2 j io hio
          have hij : i = j := by
            rw [List.getElem?_range (by have := (List.getElem?_eq_some_iff.1 hj).1; simpa using this)] at hj
            exact (Option.some.inj hj).symm
          subst hij
          exact ⟨o, by simpa using h2, h3⟩
        · cases h
      · simp only [xcode] at h; cases h
  | seq a b iha ihb =>
    intro T H e T' H' hd h
    simp only [codeD, Bool.and_eq_true] at hd
    simp only [cCode, xcode] at h
    split at h
    · rename_i T1 H1 h1
      refine AT.seq' ((iha _ _ _ _ _ hd.1 h1).mono fun e1 T2 H2 hq => ?_)
      obtain ⟨rfl, rfl, rfl⟩ := hq
      exact ihb _ _ _ _ _ hd.2 h
    · rename_i r hne
      refine AT.seq' ((iha _ _ _ _ _ hd.1 h).mono fun e1 T2 H2 hq => ?_)
      obtain ⟨rfl, rfl, rfl⟩ := hq
      cases e with
      | normal => exact absurd h (hne _ _)
      | exit id => exact ⟨rfl, rfl, rfl⟩
      | ret => exact ⟨rfl, rfl, rfl⟩
  | cond x a b iha ihb =>
    intro T H e T' H' hd h
    simp only [codeD, Bool.and_eq_true] at hd
    simp only [cCode] at h
    split at h
    · rename_i y hy
      simp only [xcode, cO_ok hy T] at h
      split at h
      · rename_i hx; exact AT.cond hx (iha _ _ _ _ _ hd.1 h)
      · rename_i hx; exact AT.cond hx (ihb _ _ _ _ _ hd.2 h)
      · cases h
    · simp only [xcode] at h; cases h
  | block id c ih =>
    intro T H e T' H' hd h
    simp only [codeD] at hd
    simp only [cCode, xcode] at h
    split at h
    · rename_i id' T1 H1 h1
      refine AT.block ((ih _ _ _ _ _ hd h1).mono fun e1 T2 H2 hq => ?_)
      obtain ⟨rfl, rfl, rfl⟩ := hq
      simp only [toEx]
      cases hb : Nat.beq id' id with
      | true =>
        rw [hb] at h
        have := Nat.eq_of_beq_eq_true hb
        subst this
        rw [if_pos rfl]
        cases h
        exact ⟨rfl, rfl, rfl⟩
      | false =>
        rw [hb] at h
        rw [if_neg (fun he => by subst he; rw [Nat.beq_refl] at hb; cases hb)]
        cases h
        exact ⟨rfl, rfl, rfl⟩
    · rename_i r hne
      refine AT.block ((ih _ _ _ _ _ hd h).mono fun e1 T2 H2 hq => ?_)
      obtain ⟨rfl, rfl, rfl⟩ := hq
      cases e with
      | normal => exact ⟨rfl, rfl, rfl⟩
      | exit id' => exact absurd h (hne _ _ _)
      | ret => exact ⟨rfl, rfl, rfl⟩
  | loop c ih =>
    intro T H e T' H' hd h
    simp only [codeD] at hd
    simp only [cCode, xcode] at h
    refine AT.loop (fun n T H => iter (xcode call F (cCode P nt c)) n T H = some (e, T', H')) h fun n T1 H1 hI => ?_
    cases n with
    | zero => simp only [iter] at hI; cases hI
    | succ n =>
      simp only [iter] at hI
      split at hI
      · rename_i T2 H2 h2
        refine (ih _ _ _ _ _ hd h2).mono fun e1 T3 H3 hq => ?_
        obtain ⟨rfl, rfl, rfl⟩ := hq
        exact ⟨n, Nat.lt_succ_self _, hI⟩
      · rename_i r hne
        refine (ih _ _ _ _ _ hd hI).mono fun e1 T3 H3 hq => ?_
        obtain ⟨rfl, rfl, rfl⟩ := hq
        cases e with
        | normal => exact absurd hI (hne _ _)
        | exit id' => exact ⟨rfl, rfl, rfl⟩
        | ret => exact ⟨rfl, rfl, rfl⟩
  | scope c ih =>
    intro T H e T' H' hd h
    simp only [codeD] at hd
    simp only [cCode] at h
    refine AT.scope (ih _ _ _ _ _ hd h) fun l T1 H1 hq => ?_
    obtain ⟨h1, _⟩ := hq
    cases e <;> cases h1
theorem iload_aload {H : AH} {t : TypeId} {d : TypeDesc} {x y : AV} (hd : P.underlying t = some d) (h : iload (if isAggD d then some (P.cellsOf t) else none) H x = some y) : aload P H t x = some y := by
  unfold aload
  rw [hd]
  simp only
  unfold iload at h
  cases ha : isAggD d with
  | true =>
    rw [ha] at h
    simp only [if_true] at h ⊢
    split at h
    · rename_i cs e; cases h; rw [e]; rfl
    · cases h
  | false =>
    rw [ha] at h
    simp only [Bool.false_eq_true, if_false] at h ⊢
    split at h
    · rename_i c rest e; cases h; rw [e]; rfl
    · cases h
theorem cRes_ok {T : Tr AV} {H : AH} : ∀ {rs : List ResultVar} {is : List IRes} {xs : List AV}, cRes P rs = some is → iress T H is = some xs → ares P T H rs = some xs
  | [], is, xs, h1, h2 => by simp only [cRes] at h1; cases h1; simpa [iress, ares] using h2
  | .tmp t :: rs, is, xs, h1, h2 => by
    simp only [cRes] at h1
    split at h1
    · rename_i is' h3
      cases h1
      simp only [iress, Tr.getP_eq] at h2
      split at h2
      · rename_i x e1
        split at h2
        · rename_i ys e2
          cases h2
          simp only [ares, e1, cRes_ok h3 e2]
        · cases h2
      · cases h2
    · cases h1
  | .cell p t :: rs, is, xs, h1, h2 => by
    simp only [cRes] at h1
    split at h1
    · rename_i d is' hd h3
      cases h1
      simp only [iress, Tr.getP_eq] at h2
      split at h2
      · rename_i a e1
        split at h2
        · rename_i x e2
          split at h2
          · rename_i ys e3
            cases h2
            simp only [ares, e1, Option.bind_some, iload_aload hd e2, cRes_ok h3 e3]
          · cases h2
        · cases h2
      · cases h2
    · cases h1
theorem ires_ok {T : Tr AV} {H : AH} {rs : List ResultVar} {is : List IRes} {x : AV} (h1 : cRes P rs = some is) (h2 : ires T H is = some x) : aresult P T H rs = some x := by
  unfold ires at h2
  unfold aresult
  split at h2
  · rename_i y e; cases h2; rw [cRes_ok h1 e]
  · rename_i ys hne e
    cases h2
    rw [cRes_ok h1 e]
    split
    · rename_i y e2; cases e2; exact absurd rfl (hne y)
    · rename_i zs _ e2; cases e2; rfl
    · rename_i e2; cases e2
  · cases h2
theorem xinit_get : ∀ (xs : List AV) (i : Nat) (T : Tr AV) (k : Nat), (xinit xs i T).get k = if i ≤ k ∧ k < i + xs.length then xs[k - i]? else T.get k
  | [], i, T, k => by rw [if_neg (by simp)]; rfl
  | x :: xs, i, T, k => by
    rw [xinit, xinit_get xs (i + 1), Tr.get_setP]
    by_cases h : i + 1 ≤ k ∧ k < i + 1 + xs.length
    · rw [if_pos h, if_pos (by simp; omega), show k - i = (k - (i + 1)) + 1 by omega]; simp
    · rw [if_neg h]
      by_cases hk : k = i
      · subst hk; simp
      · rw [if_neg hk, if_neg (by simp; omega)]
/-- What is carried out is what happens. -/
def HookOK (P : Program) (hook : Hooks) : Prop := ∀ f h, hook f = some h → ∀ args H x H', h args H = some (x, H') → callableB P f = true ∧ ACalls P f args H fun y H1 => y = x ∧ H1 = H'
theorem arun_ok {good : FuncId → Bool} {hook : Hooks} {F : Nat} (hm : P.follows .mixedOrders = true) (hD : ∀ f, good f = true → funD P f = true) (hh : HookOK P hook) (hfr : HookFrame hook) : ∀ n, CallOK P (arun P good hook F n)
  | 0 => fun f args H x H' h => by simp only [arun] at h; cases h
  | n + 1 => fun f args H x H' h => by
    have ih := arun_ok (F := F) hm hD hh hfr n
    have ihf := arun_frame (P := P) (good := good) (F := F) hfr n
    simp only [arun] at h
    split at h
    · rename_i hk hr
      exact hh _ _ hr _ _ _ _ h
    · split at h
      · rename_i fn hfn
        cases hb : Nat.ble args.length fn.nt with
        | false => rw [hb] at h; cases h
        | true =>
          rw [hb] at h
          simp only [cond_true] at h
          unfold cFun at hfn
          cases hg : good f with
          | false => rw [hg] at hfn; cases hfn
          | true =>
            rw [hg] at hfn
            simp only [cond_true] at hfn
            split at hfn
            · rename_i fn' hf'
              cases hnm : (fn'.name == "runtime.NumGoroutine") with
              | true => rw [hnm] at hfn; cases hfn
              | false =>
                rw [hnm] at hfn
                simp only [cond_false] at hfn
                split at hfn
                · rename_i c hbody
                  split at hfn
                  · rename_i rs hrs
                    cases hfn
                    have hcd : codeD P fn'.ntmps c = true := by
                      have := hD f hg
                      unfold funD at this
                      rw [hf'] at this
                      simpa [hbody] using this
                    refine ⟨by unfold callableB; rw [hf']; simp [hnm, hbody], ?_⟩
                    refine ACalls.of_body hf' hbody (Nat.le_of_ble_eq_true hb) ?_
                    have hxi : ∀ k, (xinit args 0 .nil).get k = (tinit args 0).get k := by
                      intro k
                      rw [xinit_get, tinit_get]
                      simp only [Nat.zero_le, true_and, Nat.zero_add, Nat.sub_zero, if_true, Tr.get_nil]
                      by_cases hk : k < args.length
                      · rw [if_pos hk]
                      · rw [if_neg hk, List.getElem?_eq_none (by omega)]
                    have main : ∀ e T1 H1, xcode (arun P good hook F n) F (cCode P fn'.ntmps c) (xinit args 0 .nil) H = some (e, T1, H1) → (e = .normal ∨ e = .ret) → ires T1 H1 rs = some x → H1 = H' → AT P fn'.ntmps c (tinit args 0) H (bodyQ P fn' fun y H1 => y = x ∧ H1 = H') := by
                      rintro e T1 H1 k1 k2 k3 rfl
                      have hAT := xcode_ok (nt := fn'.ntmps) ih ihf hm c _ _ _ _ _ hcd k1
                      intro K G a w hr ht
                      refine wp_mono (hAT K G a w hr (ht.congr hxi)) fun e1 a1 w1 ⟨G', T2, H2, r1, r2, r3, r4, r5, r6⟩ => ?_
                      subst r4; subst r5; subst r6
                      refine ⟨G', T2, H2, r1, r2, r3, ?_⟩
                      rcases k2 with rfl | rfl <;> exact ⟨x, ires_ok hrs k3, rfl, rfl⟩
                    cases hx : xcode (arun P good hook F n) F (cCode P fn'.ntmps c) (xinit args 0 .nil) H with
                    | none => rw [hx] at h; simp [xend] at h
                    | some r =>
                      obtain ⟨e, T1, H1⟩ := r
                      rw [hx] at h
                      cases e with
                      | normal =>
                        simp only [xend] at h
                        split at h
                        · rename_i y hy; cases h; exact main _ _ _ hx (.inl rfl) hy rfl
                        · cases h
                      | ret =>
                        simp only [xend] at h
                        split at h
                        · rename_i y hy; cases h; exact main _ _ _ hx (.inr rfl) hy rfl
                        · cases h
                      | exit id => simp [xend] at h
                  · cases hfn
                · cases hfn
            · cases hfn
      · cases h
end
end Go.Abs
