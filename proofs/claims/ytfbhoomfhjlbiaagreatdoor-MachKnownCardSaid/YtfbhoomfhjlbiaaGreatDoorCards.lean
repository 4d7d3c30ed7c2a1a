/-
  DERIVED. GIVEN WITH THE SEED: THE CARDS: each row of YtfbhoomfhjlbiaaGreatDoorRows.lean that lists a variable, with what it lists TIED to the program's text (the seventh form; the later family's looks); each row that meets fmt, with fmt's text TOLD by the authors' own Lean function (tested against real Go, not proved from fmt's source: count such statements apart). THE CARD IS WHAT COUNTS. Prove the row's statement (the work); the ties are given (YtfbhoomfhjlbiaaGreatDoorTie.lean); close each card by the builder's one call (the guide's Derived/Test/ToyasCard.lean, 'card_holds'). Laid BY PROGRAM, IN A SANDBOX (cutbox-door.mjs). By AI agents, Wed Nov 11 2026. No macro, syntax, notation, axiom, sorry.
-/
import Derived.Test.YtfbhoomfhjlbiaaGreatDoorRows
import GoSem.ClaimSeven
namespace Go.Proofs.YtfbhoomfhjlbiaaGreatDoor
namespace Rows

/-- THE TIED CARD OF 'sizarlaw25.MachKnown'. -/
def machKnownCard : Claim7 := { stood := { row := machKnownRow, standIns := [], harness := (true, "979b02013b3e550bd3958f0f0d37ee2cf36d39c6bc5247ff56d68f2b5b4d9068"), looks := true }, kinds := [], alts := [], laidByText := true, laidKinds := [.data, .data, .data, .data, .sentinel, .sentinel, .pinned], laidTests := true, laidLooks := .later }
def MachKnownCardSaid : Prop := Claim7.holds Tryz.pinned (.plain (OpenSpec.ofChange machKnownSpec)) machKnownCard

/-- THE TIED CARD OF 'sizarlaw25.MachFlows'. -/
def machFlowsCard : Claim7 := { stood := { row := machFlowsRow, standIns := [], harness := (true, "979b02013b3e550bd3958f0f0d37ee2cf36d39c6bc5247ff56d68f2b5b4d9068"), looks := true }, kinds := [], alts := [], laidByText := true, laidKinds := [.data, .data, .data, .data, .sentinel, .sentinel, .pinned], laidTests := true, laidLooks := .later }
def MachFlowsCardSaid : Prop := Claim7.holds Tryz.pinned (.plain (OpenSpec.ofChange machFlowsSpec)) machFlowsCard

/-- THE TIED CARD OF 'sizarlaw25.MachSplits'. -/
def machSplitsCard : Claim7 := { stood := { row := machSplitsRow, standIns := [], harness := (true, "979b02013b3e550bd3958f0f0d37ee2cf36d39c6bc5247ff56d68f2b5b4d9068"), looks := true }, kinds := [], alts := [], laidByText := true, laidKinds := [.data, .data, .data, .data, .sentinel, .sentinel, .pinned], laidTests := true, laidLooks := .later }
def MachSplitsCardSaid : Prop := Claim7.holds Tryz.pinned (.plain (OpenSpec.ofChange machSplitsSpec)) machSplitsCard

/-- THE TIED CARD OF 'sizarlaw25.MachRises'. -/
def machRisesCard : Claim7 := { stood := { row := machRisesRow, standIns := [], harness := (true, "979b02013b3e550bd3958f0f0d37ee2cf36d39c6bc5247ff56d68f2b5b4d9068"), looks := true }, kinds := [], alts := [], laidByText := true, laidKinds := [.data, .data, .data, .data, .sentinel, .sentinel, .pinned], laidTests := true, laidLooks := .later }
def MachRisesCardSaid : Prop := Claim7.holds Tryz.pinned (.plain (OpenSpec.ofChange machRisesSpec)) machRisesCard

/-- THE SECOND FORM's CARD OF 'sizarlaw25.MachKnown'. -/
def machKnownUptoCard : Claim7 := { stood := { row := machKnownUptoRow, standIns := [], harness := (true, "979b02013b3e550bd3958f0f0d37ee2cf36d39c6bc5247ff56d68f2b5b4d9068"), looks := true }, kinds := [], alts := [], laidByText := true, laidKinds := [.data, .data, .data, .data, .sentinel, .sentinel, .pinned], laidTests := true, laidLooks := .later }
def MachKnownUptoCardSaid : Prop := Claim7.holds Tryz.pinned (.plain (OpenSpec.upto machKnownSpec)) machKnownUptoCard

/-- THE SECOND FORM's CARD OF 'sizarlaw25.MachFlows'. -/
def machFlowsUptoCard : Claim7 := { stood := { row := machFlowsUptoRow, standIns := [], harness := (true, "979b02013b3e550bd3958f0f0d37ee2cf36d39c6bc5247ff56d68f2b5b4d9068"), looks := true }, kinds := [], alts := [], laidByText := true, laidKinds := [.data, .data, .data, .data, .sentinel, .sentinel, .pinned], laidTests := true, laidLooks := .later }
def MachFlowsUptoCardSaid : Prop := Claim7.holds Tryz.pinned (.plain (OpenSpec.upto machFlowsSpec)) machFlowsUptoCard

/-- THE SECOND FORM's CARD OF 'sizarlaw25.MachSplits'. -/
def machSplitsUptoCard : Claim7 := { stood := { row := machSplitsUptoRow, standIns := [], harness := (true, "979b02013b3e550bd3958f0f0d37ee2cf36d39c6bc5247ff56d68f2b5b4d9068"), looks := true }, kinds := [], alts := [], laidByText := true, laidKinds := [.data, .data, .data, .data, .sentinel, .sentinel, .pinned], laidTests := true, laidLooks := .later }
def MachSplitsUptoCardSaid : Prop := Claim7.holds Tryz.pinned (.plain (OpenSpec.upto machSplitsSpec)) machSplitsUptoCard

/-- THE SECOND FORM's CARD OF 'sizarlaw25.MachRises'. -/
def machRisesUptoCard : Claim7 := { stood := { row := machRisesUptoRow, standIns := [], harness := (true, "979b02013b3e550bd3958f0f0d37ee2cf36d39c6bc5247ff56d68f2b5b4d9068"), looks := true }, kinds := [], alts := [], laidByText := true, laidKinds := [.data, .data, .data, .data, .sentinel, .sentinel, .pinned], laidTests := true, laidLooks := .later }
def MachRisesUptoCardSaid : Prop := Claim7.holds Tryz.pinned (.plain (OpenSpec.upto machRisesSpec)) machRisesUptoCard
end Rows
end Go.Proofs.YtfbhoomfhjlbiaaGreatDoor
