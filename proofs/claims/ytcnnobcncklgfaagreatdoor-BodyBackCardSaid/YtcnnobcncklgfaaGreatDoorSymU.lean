/- Contracts of the walks as calls of values that stand for good: term.Good. -/
import Derived.Test.YtcnnobcncklgfaaGreatDoorSymT
namespace Go.Proofs.YtcnnobcncklgfaaGreatDoor
open Go Go.Abs Go.ChangeShapes Go.WideShapes Go.ChangeAt Go.RowKit
set_option linter.unusedVariables false
/-- A contract of the walks, its answer flat. -/
theorem flat_calls {P : Program} {f : FuncId} {args : List AV} {y : AV} (hy : flatC y = true) (h : ∀ (G : Gh) (vs : Array Value) (w : World), (∀ b o v, G.M b o = some v → w.cell? ⟨b, o, none⟩ = some v) → VRs G args vs.toList → Calls P f vs w fun e w' => ∃ u, e = .returned u ∧ VR G y u ∧ Below w.heap.size w w') (H : AH) :
    ACalls P f args H fun y' H' => y' = y ∧ H' = H := fun K G vs w hr hv =>
  (h G vs w hr.mem hv).mono fun e w' ⟨u, h1, h2, h3⟩ => ⟨u, y, G, H, h1, Gh.le.refl _, hr.stay h3, h2, rfl, rfl⟩
noncomputable def only {α : Type} (p : Prop) (x : Option α) : Option α := @ite _ p (Classical.propDecidable _) x none
theorem only_eq {α : Type} {p : Prop} (h : p) (x : Option α) : only p x = x := if_pos h
theorem only_ok {α : Type} {p : Prop} {x : Option α} {y : α} (h : only p x = some y) : p ∧ x = some y := by
  unfold only at h
  split at h
  · rename_i hp; exact ⟨hp, h⟩
  · cases h
theorem tm_one {G : Gh} {t : Tm} {u : Value} {w : World} {N : Nat} (hN : N ≤ maxLen) (hf : Fine N t) (hM : ∀ b o v, G.M b o = some v → w.cell? ⟨b, o, none⟩ = some v) (hv : VR G (tmA t) u) : Holds w (fun _ => True) t u := by
  unfold tmA at hv
  simp only [VR] at hv
  obtain ⟨us, rfl, h2⟩ := hv
  obtain ⟨sl, he, hh⟩ := tm_holds hN hM t us.toList hf h2
  obtain rfl : us = #[.int .i64 t.kind, .int .i64 t.num, .string ⟨t.name.toArray⟩, sl] := by cases us; simpa using he
  exact hh
noncomputable def goodS : List AV → Option AV
  | [x] => (ofT x).bind fun t => only (Fine 1000 t) (some (.bool t.good))
  | _ => none
theorem goodS_eq {t : Tm} (h : Fine 1000 t) : goodS [tmA t] = some (.bool t.good) := by simp [goodS, ofT_tm, only_eq h]
theorem goodS_one : HookOne Tryz.prog 15 (pureH goodS) := by
  refine HookOne.ofPure (by decide +kernel) fun args y h H => ?_
  unfold goodS at h
  split at h
  · rename_i x
    rw [Option.bind_eq_some_iff] at h
    obtain ⟨t, h1, h2⟩ := h
    obtain ⟨hf, h3⟩ := only_ok h2
    cases h3
    have := ofT_ok h1
    subst this
    refine flat_calls rfl (fun G vs w hM hv => ?_) H
    obtain ⟨u, hu, hv1⟩ := hv.one
    obtain rfl : vs = #[u] := by cases vs; simpa using hu
    refine (good_any 1000 (by omega) t hf w u (tm_one (by unfold maxLen; omega) hf hM hv1)).mono fun e w' ⟨he, hb⟩ => ⟨_, he, by simp [VR], hb⟩
  · cases h
end Go.Proofs.YtcnnobcncklgfaaGreatDoor
