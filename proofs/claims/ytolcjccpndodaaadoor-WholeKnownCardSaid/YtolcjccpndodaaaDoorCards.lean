/-
  DERIVED. GIVEN WITH THE SEED: THE CARDS: each row of YtolcjccpndodaaaDoorRows.lean that lists a variable, with what it lists TIED to the program's text (the seventh form; the later family's looks); each row that meets fmt, with fmt's text TOLD by the authors' own Lean function (tested against real Go, not proved from fmt's source: count such statements apart). THE CARD IS WHAT COUNTS. Prove the row's statement (the work); the ties are given (YtolcjccpndodaaaDoorTie.lean); close each card by the builder's one call (the guide's Derived/Test/ToyasCard.lean, 'card_holds'). Laid BY PROGRAM, IN A SANDBOX (cutbox-door.mjs). By AI agents, Wed Nov 11 2026. No macro, syntax, notation, axiom, sorry.
-/
import Derived.Test.YtolcjccpndodaaaDoorRows
import GoSem.ClaimSeven
namespace Go.Proofs.YtolcjccpndodaaaDoor
namespace Rows

/-- THE TIED CARD OF 'sizarlaw2.WholeDivides'. -/
def wholeDividesCard : Claim7 := { stood := { row := wholeDividesRow, standIns := [], harness := (true, "40c88aaece324e08f32cf5195a9673e0c0ce1c58f163e385ea2c8906542c2146"), looks := true }, kinds := [], alts := [], laidByText := true, laidKinds := [.data, .data, .data], laidTests := true, laidLooks := .later }
def WholeDividesCardSaid : Prop := Claim7.holds Tryd.pinned (.plain (OpenSpec.ofChange wholeDividesSpec)) wholeDividesCard

/-- THE TIED CARD OF 'sizarlaw2.WholeSums'. -/
def wholeSumsCard : Claim7 := { stood := { row := wholeSumsRow, standIns := [], harness := (true, "40c88aaece324e08f32cf5195a9673e0c0ce1c58f163e385ea2c8906542c2146"), looks := true }, kinds := [], alts := [], laidByText := true, laidKinds := [.data, .data, .data], laidTests := true, laidLooks := .later }
def WholeSumsCardSaid : Prop := Claim7.holds Tryd.pinned (.plain (OpenSpec.ofChange wholeSumsSpec)) wholeSumsCard

/-- THE TIED CARD OF 'sizarlaw2.WholeShifts'. -/
def wholeShiftsCard : Claim7 := { stood := { row := wholeShiftsRow, standIns := [], harness := (true, "40c88aaece324e08f32cf5195a9673e0c0ce1c58f163e385ea2c8906542c2146"), looks := true }, kinds := [], alts := [], laidByText := true, laidKinds := [.data, .data, .data], laidTests := true, laidLooks := .later }
def WholeShiftsCardSaid : Prop := Claim7.holds Tryd.pinned (.plain (OpenSpec.ofChange wholeShiftsSpec)) wholeShiftsCard

/-- THE TIED CARD OF 'sizarlaw2.WholeBits'. -/
def wholeBitsCard : Claim7 := { stood := { row := wholeBitsRow, standIns := [], harness := (true, "40c88aaece324e08f32cf5195a9673e0c0ce1c58f163e385ea2c8906542c2146"), looks := true }, kinds := [], alts := [], laidByText := true, laidKinds := [.data, .data, .data], laidTests := true, laidLooks := .later }
def WholeBitsCardSaid : Prop := Claim7.holds Tryd.pinned (.plain (OpenSpec.ofChange wholeBitsSpec)) wholeBitsCard

/-- THE TIED CARD OF 'sizarlaw2.WholeTexts'. -/
def wholeTextsCard : Claim7 := { stood := { row := wholeTextsRow, standIns := [], harness := (true, "40c88aaece324e08f32cf5195a9673e0c0ce1c58f163e385ea2c8906542c2146"), looks := true }, kinds := [], alts := [], laidByText := true, laidKinds := [.data, .data, .data, .data, .sentinel, .sentinel, .pinned], laidTests := true, laidLooks := .later }
def WholeTextsCardSaid : Prop := Claim7.holds Tryd.pinned (.plain (OpenSpec.ofChange wholeTextsSpec)) wholeTextsCard

/-- THE TIED CARD OF 'sizarlaw2.WholeKnown'. -/
def wholeKnownCard : Claim7 := { stood := { row := wholeKnownRow, standIns := [], harness := (true, "40c88aaece324e08f32cf5195a9673e0c0ce1c58f163e385ea2c8906542c2146"), looks := true }, kinds := [], alts := [], laidByText := true, laidKinds := [.data, .data, .data, .data, .sentinel, .sentinel, .pinned], laidTests := true, laidLooks := .later }
def WholeKnownCardSaid : Prop := Claim7.holds Tryd.pinned (.plain (OpenSpec.ofChange wholeKnownSpec)) wholeKnownCard

/-- THE TIED CARD OF 'sizarlaw2.WholeSays'. -/
def wholeSaysCard : Claim7 := { stood := { row := wholeSaysRow, standIns := [], harness := (true, "40c88aaece324e08f32cf5195a9673e0c0ce1c58f163e385ea2c8906542c2146"), looks := true }, kinds := [], alts := [], laidByText := true, laidKinds := [.data, .data, .data, .data, .sentinel, .sentinel, .pinned], laidTests := true, laidLooks := .later }
def WholeSaysCardSaid : Prop := Claim7.holds Tryd.pinned (.plain (OpenSpec.ofChange wholeSaysSpec)) wholeSaysCard

/-- THE SECOND FORM's CARD OF 'sizarlaw2.WholeDivides'. -/
def wholeDividesUptoCard : Claim7 := { stood := { row := wholeDividesUptoRow, standIns := [], harness := (true, "40c88aaece324e08f32cf5195a9673e0c0ce1c58f163e385ea2c8906542c2146"), looks := true }, kinds := [], alts := [], laidByText := true, laidKinds := [.data, .data, .data], laidTests := true, laidLooks := .later }
def WholeDividesUptoCardSaid : Prop := Claim7.holds Tryd.pinned (.plain (OpenSpec.upto wholeDividesSpec)) wholeDividesUptoCard

/-- THE SECOND FORM's CARD OF 'sizarlaw2.WholeSums'. -/
def wholeSumsUptoCard : Claim7 := { stood := { row := wholeSumsUptoRow, standIns := [], harness := (true, "40c88aaece324e08f32cf5195a9673e0c0ce1c58f163e385ea2c8906542c2146"), looks := true }, kinds := [], alts := [], laidByText := true, laidKinds := [.data, .data, .data], laidTests := true, laidLooks := .later }
def WholeSumsUptoCardSaid : Prop := Claim7.holds Tryd.pinned (.plain (OpenSpec.upto wholeSumsSpec)) wholeSumsUptoCard

/-- THE SECOND FORM's CARD OF 'sizarlaw2.WholeShifts'. -/
def wholeShiftsUptoCard : Claim7 := { stood := { row := wholeShiftsUptoRow, standIns := [], harness := (true, "40c88aaece324e08f32cf5195a9673e0c0ce1c58f163e385ea2c8906542c2146"), looks := true }, kinds := [], alts := [], laidByText := true, laidKinds := [.data, .data, .data], laidTests := true, laidLooks := .later }
def WholeShiftsUptoCardSaid : Prop := Claim7.holds Tryd.pinned (.plain (OpenSpec.upto wholeShiftsSpec)) wholeShiftsUptoCard

/-- THE SECOND FORM's CARD OF 'sizarlaw2.WholeBits'. -/
def wholeBitsUptoCard : Claim7 := { stood := { row := wholeBitsUptoRow, standIns := [], harness := (true, "40c88aaece324e08f32cf5195a9673e0c0ce1c58f163e385ea2c8906542c2146"), looks := true }, kinds := [], alts := [], laidByText := true, laidKinds := [.data, .data, .data], laidTests := true, laidLooks := .later }
def WholeBitsUptoCardSaid : Prop := Claim7.holds Tryd.pinned (.plain (OpenSpec.upto wholeBitsSpec)) wholeBitsUptoCard

/-- THE SECOND FORM's CARD OF 'sizarlaw2.WholeTexts'. -/
def wholeTextsUptoCard : Claim7 := { stood := { row := wholeTextsUptoRow, standIns := [], harness := (true, "40c88aaece324e08f32cf5195a9673e0c0ce1c58f163e385ea2c8906542c2146"), looks := true }, kinds := [], alts := [], laidByText := true, laidKinds := [.data, .data, .data, .data, .sentinel, .sentinel, .pinned], laidTests := true, laidLooks := .later }
def WholeTextsUptoCardSaid : Prop := Claim7.holds Tryd.pinned (.plain (OpenSpec.upto wholeTextsSpec)) wholeTextsUptoCard

/-- THE SECOND FORM's CARD OF 'sizarlaw2.WholeKnown'. -/
def wholeKnownUptoCard : Claim7 := { stood := { row := wholeKnownUptoRow, standIns := [], harness := (true, "40c88aaece324e08f32cf5195a9673e0c0ce1c58f163e385ea2c8906542c2146"), looks := true }, kinds := [], alts := [], laidByText := true, laidKinds := [.data, .data, .data, .data, .sentinel, .sentinel, .pinned], laidTests := true, laidLooks := .later }
def WholeKnownUptoCardSaid : Prop := Claim7.holds Tryd.pinned (.plain (OpenSpec.upto wholeKnownSpec)) wholeKnownUptoCard

/-- THE SECOND FORM's CARD OF 'sizarlaw2.WholeSays'. -/
def wholeSaysUptoCard : Claim7 := { stood := { row := wholeSaysUptoRow, standIns := [], harness := (true, "40c88aaece324e08f32cf5195a9673e0c0ce1c58f163e385ea2c8906542c2146"), looks := true }, kinds := [], alts := [], laidByText := true, laidKinds := [.data, .data, .data, .data, .sentinel, .sentinel, .pinned], laidTests := true, laidLooks := .later }
def WholeSaysUptoCardSaid : Prop := Claim7.holds Tryd.pinned (.plain (OpenSpec.upto wholeSaysSpec)) wholeSaysUptoCard
end Rows
end Go.Proofs.YtolcjccpndodaaaDoor
