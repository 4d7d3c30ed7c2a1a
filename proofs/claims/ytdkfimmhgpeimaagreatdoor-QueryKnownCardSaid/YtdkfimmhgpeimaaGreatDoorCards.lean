/-
  DERIVED. GIVEN WITH THE SEED: THE CARDS: each row of YtdkfimmhgpeimaaGreatDoorRows.lean that lists a variable, with what it lists TIED to the program's text (the seventh form; the later family's looks); each row that meets fmt, with fmt's text TOLD by the authors' own Lean function (tested against real Go, not proved from fmt's source: count such statements apart). THE CARD IS WHAT COUNTS. Prove the row's statement (the work); the ties are given (YtdkfimmhgpeimaaGreatDoorTie.lean); close each card by the builder's one call (the guide's Derived/Test/ToyasCard.lean, 'card_holds'). Laid BY PROGRAM, IN A SANDBOX (cutbox-door.mjs). By AI agents, Wed Nov 11 2026. No macro, syntax, notation, axiom, sorry.
-/
import Derived.Test.YtdkfimmhgpeimaaGreatDoorRows
import GoSem.ClaimSeven
namespace Go.Proofs.YtdkfimmhgpeimaaGreatDoor
namespace Rows

/-- THE TIED CARD OF 'sizarlaw25.MachKnown'. -/
def machKnownCard : Claim7 := { stood := { row := machKnownRow, standIns := [], harness := (true, "1c1ce712a3f92d02a6c41326363b1c1b06074cce1bae9259bf57f647094cd831"), looks := true }, kinds := [], alts := [], goes := true, laidByText := true, laidKinds := [.data, .data, .data, .data, .sentinel, .sentinel, .pinned], laidTests := true, laidLooks := .later }
def MachKnownCardSaid : Prop := Claim7.holds Tryz.pinned (.plain (OpenSpec.ofChange machKnownSpec)) machKnownCard

/-- THE TIED CARD OF 'sizarlaw25.MachFlows'. -/
def machFlowsCard : Claim7 := { stood := { row := machFlowsRow, standIns := [], harness := (true, "1c1ce712a3f92d02a6c41326363b1c1b06074cce1bae9259bf57f647094cd831"), looks := true }, kinds := [], alts := [], goes := true, laidByText := true, laidKinds := [.data, .data, .data, .data, .sentinel, .sentinel, .pinned], laidTests := true, laidLooks := .later }
def MachFlowsCardSaid : Prop := Claim7.holds Tryz.pinned (.plain (OpenSpec.ofChange machFlowsSpec)) machFlowsCard

/-- THE TIED CARD OF 'sizarlaw25.MachSplits'. -/
def machSplitsCard : Claim7 := { stood := { row := machSplitsRow, standIns := [], harness := (true, "1c1ce712a3f92d02a6c41326363b1c1b06074cce1bae9259bf57f647094cd831"), looks := true }, kinds := [], alts := [], goes := true, laidByText := true, laidKinds := [.data, .data, .data, .data, .sentinel, .sentinel, .pinned], laidTests := true, laidLooks := .later }
def MachSplitsCardSaid : Prop := Claim7.holds Tryz.pinned (.plain (OpenSpec.ofChange machSplitsSpec)) machSplitsCard

/-- THE TIED CARD OF 'sizarlaw25.MachRises'. -/
def machRisesCard : Claim7 := { stood := { row := machRisesRow, standIns := [], harness := (true, "1c1ce712a3f92d02a6c41326363b1c1b06074cce1bae9259bf57f647094cd831"), looks := true }, kinds := [], alts := [], goes := true, laidByText := true, laidKinds := [.data, .data, .data, .data, .sentinel, .sentinel, .pinned], laidTests := true, laidLooks := .later }
def MachRisesCardSaid : Prop := Claim7.holds Tryz.pinned (.plain (OpenSpec.ofChange machRisesSpec)) machRisesCard

/-- THE TIED CARD OF 'sizarlaw26.QueryEnds'. -/
def queryEndsCard : Claim7 := { stood := { row := queryEndsRow, standIns := [], harness := (true, "1c1ce712a3f92d02a6c41326363b1c1b06074cce1bae9259bf57f647094cd831"), looks := true }, kinds := [], alts := [], goes := true, laidByText := true, laidKinds := [.data, .data, .data, .data, .sentinel, .sentinel, .pinned], laidTests := true, laidLooks := .later }
def QueryEndsCardSaid : Prop := Claim7.holds Tryz.pinned (.plain (OpenSpec.ofChange queryEndsSpec)) queryEndsCard

/-- THE TIED CARD OF 'sizarlaw26.QueryKnown'. -/
def queryKnownCard : Claim7 := { stood := { row := queryKnownRow, standIns := [], harness := (true, "1c1ce712a3f92d02a6c41326363b1c1b06074cce1bae9259bf57f647094cd831"), looks := true }, kinds := [], alts := [], goes := true, laidByText := true, laidKinds := [.data, .data, .data, .data, .sentinel, .sentinel, .pinned], laidTests := true, laidLooks := .later }
def QueryKnownCardSaid : Prop := Claim7.holds Tryz.pinned (.plain (OpenSpec.ofChange queryKnownSpec)) queryKnownCard

/-- THE TIED CARD OF 'sizarlaw27.HallKnown'. -/
def hallKnownCard : Claim7 := { stood := { row := hallKnownRow, standIns := [], harness := (true, "1c1ce712a3f92d02a6c41326363b1c1b06074cce1bae9259bf57f647094cd831"), looks := true }, kinds := [], alts := [], goes := true, laidByText := true, laidKinds := [.data, .data, .data, .data, .sentinel, .sentinel, .pinned], laidTests := true, laidLooks := .later }
def HallKnownCardSaid : Prop := Claim7.holds Tryz.pinned (.plain (OpenSpec.ofChange hallKnownSpec)) hallKnownCard

/-- THE TIED CARD OF 'sizarlaw28.TaleKnown'. -/
def taleKnownCard : Claim7 := { stood := { row := taleKnownRow, standIns := [], harness := (true, "1c1ce712a3f92d02a6c41326363b1c1b06074cce1bae9259bf57f647094cd831"), looks := true }, kinds := [], alts := [], goes := true, laidByText := true, laidKinds := [.data, .data, .data, .data, .sentinel, .sentinel, .pinned], laidTests := true, laidLooks := .later }
def TaleKnownCardSaid : Prop := Claim7.holds Tryz.pinned (.plain (OpenSpec.ofChange taleKnownSpec)) taleKnownCard

/-- THE SECOND FORM's CARD OF 'sizarlaw25.MachKnown'. -/
def machKnownUptoCard : Claim7 := { stood := { row := machKnownUptoRow, standIns := [], harness := (true, "1c1ce712a3f92d02a6c41326363b1c1b06074cce1bae9259bf57f647094cd831"), looks := true }, kinds := [], alts := [], goes := true, laidByText := true, laidKinds := [.data, .data, .data, .data, .sentinel, .sentinel, .pinned], laidTests := true, laidLooks := .later }
def MachKnownUptoCardSaid : Prop := Claim7.holds Tryz.pinned (.plain (OpenSpec.upto machKnownSpec)) machKnownUptoCard

/-- THE SECOND FORM's CARD OF 'sizarlaw25.MachFlows'. -/
def machFlowsUptoCard : Claim7 := { stood := { row := machFlowsUptoRow, standIns := [], harness := (true, "1c1ce712a3f92d02a6c41326363b1c1b06074cce1bae9259bf57f647094cd831"), looks := true }, kinds := [], alts := [], goes := true, laidByText := true, laidKinds := [.data, .data, .data, .data, .sentinel, .sentinel, .pinned], laidTests := true, laidLooks := .later }
def MachFlowsUptoCardSaid : Prop := Claim7.holds Tryz.pinned (.plain (OpenSpec.upto machFlowsSpec)) machFlowsUptoCard

/-- THE SECOND FORM's CARD OF 'sizarlaw25.MachSplits'. -/
def machSplitsUptoCard : Claim7 := { stood := { row := machSplitsUptoRow, standIns := [], harness := (true, "1c1ce712a3f92d02a6c41326363b1c1b06074cce1bae9259bf57f647094cd831"), looks := true }, kinds := [], alts := [], goes := true, laidByText := true, laidKinds := [.data, .data, .data, .data, .sentinel, .sentinel, .pinned], laidTests := true, laidLooks := .later }
def MachSplitsUptoCardSaid : Prop := Claim7.holds Tryz.pinned (.plain (OpenSpec.upto machSplitsSpec)) machSplitsUptoCard

/-- THE SECOND FORM's CARD OF 'sizarlaw25.MachRises'. -/
def machRisesUptoCard : Claim7 := { stood := { row := machRisesUptoRow, standIns := [], harness := (true, "1c1ce712a3f92d02a6c41326363b1c1b06074cce1bae9259bf57f647094cd831"), looks := true }, kinds := [], alts := [], goes := true, laidByText := true, laidKinds := [.data, .data, .data, .data, .sentinel, .sentinel, .pinned], laidTests := true, laidLooks := .later }
def MachRisesUptoCardSaid : Prop := Claim7.holds Tryz.pinned (.plain (OpenSpec.upto machRisesSpec)) machRisesUptoCard

/-- THE SECOND FORM's CARD OF 'sizarlaw26.QueryEnds'. -/
def queryEndsUptoCard : Claim7 := { stood := { row := queryEndsUptoRow, standIns := [], harness := (true, "1c1ce712a3f92d02a6c41326363b1c1b06074cce1bae9259bf57f647094cd831"), looks := true }, kinds := [], alts := [], goes := true, laidByText := true, laidKinds := [.data, .data, .data, .data, .sentinel, .sentinel, .pinned], laidTests := true, laidLooks := .later }
def QueryEndsUptoCardSaid : Prop := Claim7.holds Tryz.pinned (.plain (OpenSpec.upto queryEndsSpec)) queryEndsUptoCard

/-- THE SECOND FORM's CARD OF 'sizarlaw26.QueryKnown'. -/
def queryKnownUptoCard : Claim7 := { stood := { row := queryKnownUptoRow, standIns := [], harness := (true, "1c1ce712a3f92d02a6c41326363b1c1b06074cce1bae9259bf57f647094cd831"), looks := true }, kinds := [], alts := [], goes := true, laidByText := true, laidKinds := [.data, .data, .data, .data, .sentinel, .sentinel, .pinned], laidTests := true, laidLooks := .later }
def QueryKnownUptoCardSaid : Prop := Claim7.holds Tryz.pinned (.plain (OpenSpec.upto queryKnownSpec)) queryKnownUptoCard

/-- THE SECOND FORM's CARD OF 'sizarlaw27.HallKnown'. -/
def hallKnownUptoCard : Claim7 := { stood := { row := hallKnownUptoRow, standIns := [], harness := (true, "1c1ce712a3f92d02a6c41326363b1c1b06074cce1bae9259bf57f647094cd831"), looks := true }, kinds := [], alts := [], goes := true, laidByText := true, laidKinds := [.data, .data, .data, .data, .sentinel, .sentinel, .pinned], laidTests := true, laidLooks := .later }
def HallKnownUptoCardSaid : Prop := Claim7.holds Tryz.pinned (.plain (OpenSpec.upto hallKnownSpec)) hallKnownUptoCard

/-- THE SECOND FORM's CARD OF 'sizarlaw28.TaleKnown'. -/
def taleKnownUptoCard : Claim7 := { stood := { row := taleKnownUptoRow, standIns := [], harness := (true, "1c1ce712a3f92d02a6c41326363b1c1b06074cce1bae9259bf57f647094cd831"), looks := true }, kinds := [], alts := [], goes := true, laidByText := true, laidKinds := [.data, .data, .data, .data, .sentinel, .sentinel, .pinned], laidTests := true, laidLooks := .later }
def TaleKnownUptoCardSaid : Prop := Claim7.holds Tryz.pinned (.plain (OpenSpec.upto taleKnownSpec)) taleKnownUptoCard
end Rows
end Go.Proofs.YtdkfimmhgpeimaaGreatDoor
