/- A row that allows goroutines to be left behind, of a function that leaves none. -/
import Derived.Test.YtdkfimmhgpeimaaGreatDoorCards
import Derived.Deep.DeepHandedRow
import Derived.Conc.Holds
import Derived.SevenTiedAt
namespace Go.Proofs.YtdkfimmhgpeimaaGreatDoor
open Go
set_option linter.unusedVariables false
theorem leaving_of_alone {P : Program} {last : Machine} {w : World} {t : Trace} (h : aloneAtReturn P last w t) : leavingAtReturn P last w t := by
  obtain ⟨⟨h1, h2⟩, h3, h4⟩ := h
  refine ⟨h3, ⟨fun g hg => ⟨0, ?_⟩, h2⟩, h4⟩
  have h5 := List.all_eq_true.1 h1 g hg
  show g.status = .finished
  first
    | exact eq_of_beq h5
    | (cases hs : g.status <;> rw [hs] at h5 <;> first | rfl | (exact absurd h5 (by decide)))
theorem openAt_mono {a : Assume} {stops : Option Stop.Interp} {C : Checked} {os : Os} {f : FuncId} {r : Reach} {ok : Program → World → Reach → Nat → FuncId → Input → Prop} {Pre : World → Array Value → Prop} {Post : World → Array Value → Value → World → Prop} {A B : Machine → World → Trace → Prop} {al : Machine → Prop}
    (hm : ∀ m w t, A m w t → B m w t) (h : ReturnsInOpen a stops C os f r ok Pre Post A al) : ReturnsInOpen a stops C os f r ok Pre Post B al := by
  obtain ⟨h1, h2, h3, h4, h5⟩ := h
  refine ⟨h1, h2, h3, h4, fun w tape i hf => ?_⟩
  obtain ⟨n, v, w', k1, k2, k3, k4, ⟨j, last, k5, k6, k7⟩, k8⟩ := h5 w tape i hf
  exact ⟨n, v, w', k1, k2, k3, k4, ⟨j, last, k5, k6, hm _ _ _ k7⟩, k8⟩
theorem holds_leaving {p : Pinned} {s : OpenSpec} {c : OpenClaim} (hwf : c.wf s = true) (hlv : c.leaving = true) (hst : c.stops = []) (hstart : c.start = .entering) (h : ({ c with leaving := false } : OpenClaim).holds p s) : c.holds p s := by
  obtain ⟨a1, a2, a3, a4, a5, a6, a7, a8, f, fn, b1, b2, c1, c2, c3, c4, c5, c6, c7, c8, c9, d1, d2, d3, d4, d5, d6, d7, d8, d9, ⟨os, st, hq⟩, L, hL, hall⟩ := h
  refine ⟨hwf, a2, a3, a4, a5, a6, a7, a8, f, fn, b1, b2, c1, c2, c3, c4, c5, c6, c7, c8, c9, d1, d2, d3, d4, d5, d6, d7, d8, d9, ⟨os, st, hq⟩, L, hL, fun os hw hq H enc inj => ?_⟩
  have hx := hall os hw hq H enc inj
  unfold OpenClaim.form at hx ⊢
  simp only [hst, hstart] at hx ⊢
  intro F
  refine openAt_mono (fun m w t hm => ?_) (hx F)
  have e1 : c.atReturn p.checked.prog = leavingAtReturn p.checked.prog := by unfold OpenClaim.atReturn; rw [hlv]
  rw [e1]
  exact leaving_of_alone hm
/-- A tied card of a function in whose program goroutines start. -/
theorem tied_goes (Lk : Looks) {p : Pinned} {s : OpenSpec} {c : OpenClaim} (kinds : List LaidKind) (tests : Bool) (har : Bool × String) (lk goes : Bool)
    (hc : c.holds p s) (hw : c.wfByText s = true) (htie : c.laidByTextAt Lk p kinds tests)
    (hst : c.start = .entering) (hnb : c.noBlocks = false ∧ c.again = false) (hm : p.checked.prog.mainIs = some (har.1, har.2.toList)) (hn : (!har.1 && har.2.isEmpty && !lk) = false)
    (hl : ∀ f fn, p.checked.prog.funcNamed c.func = some f → p.checked.prog.funcs[f]? = some fn → lk = p.checked.prog.looks [] ∧ ∀ (j : Nat) t, fn.params[j]? = some t → p.checked.prog.wantsStandIn t = false)
    (hg : goes = c.goesBy p.checked.prog) :
    Claim7.holds p (.plain s) { stood := { row := c, standIns := [], harness := har, looks := lk }, kinds := [], alts := [], goes := goes, laidByText := true, laidKinds := kinds, laidTests := tests, laidLooks := Lk } := by
  have h6 : Claim7.isSixth { stood := { row := c, standIns := [], harness := har, looks := lk }, kinds := [] } = false := by simpa [Claim7.isSixth] using hn
  exact ⟨Claim7.tied_new_at Lk kinds tests (Claim7.new_of_sixth hc har lk hst hnb hm h6 hl) hw, fun D hD => (by cases hD), htie, fun h => (by cases h), hg⟩
end Go.Proofs.YtdkfimmhgpeimaaGreatDoor
