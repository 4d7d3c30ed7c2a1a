/-
  DERIVED. GIVEN WITH THE SEED: THE CARDS: each row of YtcnnobcncklgfaaGreatDoorRows.lean that lists a variable, with what it lists TIED to the program's text (the seventh form; the later family's looks); each row that meets fmt, with fmt's text TOLD by the authors' own Lean function (tested against real Go, not proved from fmt's source: count such statements apart). THE CARD IS WHAT COUNTS. Prove the row's statement (the work); the ties are given (YtcnnobcncklgfaaGreatDoorTie.lean); close each card by the builder's one call (the guide's Derived/Test/ToyasCard.lean, 'card_holds'). Laid BY PROGRAM, IN A SANDBOX (cutbox-door.mjs). By AI agents, Wed Nov 11 2026. No macro, syntax, notation, axiom, sorry.
-/
import Derived.Test.YtcnnobcncklgfaaGreatDoorRows
import GoSem.ClaimSeven
namespace Go.Proofs.YtcnnobcncklgfaaGreatDoor
namespace Rows

/-- THE TIED CARD OF 'sizarlaw14.BodyJoins'. -/
def bodyJoinsCard : Claim7 := { stood := { row := bodyJoinsRow, standIns := [], harness := (true, "7657e1070231e955ebb7d59c5f3e9053e268d2a61c5824120d6b05ccd9b88176"), looks := true }, kinds := [], alts := [], laidByText := true, laidKinds := [.data, .data, .data, .data, .sentinel, .sentinel, .pinned], laidTests := true, laidLooks := .later }
def BodyJoinsCardSaid : Prop := Claim7.holds Tryz.pinned (.plain (OpenSpec.ofChange bodyJoinsSpec)) bodyJoinsCard

/-- THE TIED CARD OF 'sizarlaw14.BodySays'. -/
def bodySaysCard : Claim7 := { stood := { row := bodySaysRow, standIns := [], harness := (true, "7657e1070231e955ebb7d59c5f3e9053e268d2a61c5824120d6b05ccd9b88176"), looks := true }, kinds := [], alts := [], laidByText := true, laidKinds := [.data, .data, .data, .data, .sentinel, .sentinel, .pinned], laidTests := true, laidLooks := .later }
def BodySaysCardSaid : Prop := Claim7.holds Tryz.pinned (.plain (OpenSpec.ofChange bodySaysSpec)) bodySaysCard

/-- THE TIED CARD OF 'sizarlaw20.EvalParts'. -/
def evalPartsCard : Claim7 := { stood := { row := evalPartsRow, standIns := [], harness := (true, "7657e1070231e955ebb7d59c5f3e9053e268d2a61c5824120d6b05ccd9b88176"), looks := true }, kinds := [], alts := [], laidByText := true, laidKinds := [.data, .data, .data, .data, .sentinel, .sentinel, .pinned], laidTests := true, laidLooks := .later }
def EvalPartsCardSaid : Prop := Claim7.holds Tryz.pinned (.plain (OpenSpec.ofChange evalPartsSpec)) evalPartsCard

/-- THE TIED CARD OF 'sizarlaw14.BodyBack'. -/
def bodyBackCard : Claim7 := { stood := { row := bodyBackRow, standIns := [], harness := (true, "7657e1070231e955ebb7d59c5f3e9053e268d2a61c5824120d6b05ccd9b88176"), looks := true }, kinds := [], alts := [], laidByText := true, laidKinds := [.data, .data, .data, .data, .sentinel, .sentinel, .pinned], laidTests := true, laidLooks := .later }
def BodyBackCardSaid : Prop := Claim7.holds Tryz.pinned (.plain (OpenSpec.ofChange bodyBackSpec)) bodyBackCard

/-- THE TIED CARD OF 'sizarlaw20.EvalKnown'. -/
def evalKnownCard : Claim7 := { stood := { row := evalKnownRow, standIns := [], harness := (true, "7657e1070231e955ebb7d59c5f3e9053e268d2a61c5824120d6b05ccd9b88176"), looks := true }, kinds := [], alts := [], laidByText := true, laidKinds := [.data, .data, .data, .data, .sentinel, .sentinel, .pinned], laidTests := true, laidLooks := .later }
def EvalKnownCardSaid : Prop := Claim7.holds Tryz.pinned (.plain (OpenSpec.ofChange evalKnownSpec)) evalKnownCard

/-- THE TIED CARD OF 'sizarlaw20.EvalSays'. -/
def evalSaysCard : Claim7 := { stood := { row := evalSaysRow, standIns := [], harness := (true, "7657e1070231e955ebb7d59c5f3e9053e268d2a61c5824120d6b05ccd9b88176"), looks := true }, kinds := [], alts := [], laidByText := true, laidKinds := [.data, .data, .data, .data, .sentinel, .sentinel, .pinned], laidTests := true, laidLooks := .later }
def EvalSaysCardSaid : Prop := Claim7.holds Tryz.pinned (.plain (OpenSpec.ofChange evalSaysSpec)) evalSaysCard

/-- THE TIED CARD OF 'sizarlaw20.EvalTests'. -/
def evalTestsCard : Claim7 := { stood := { row := evalTestsRow, standIns := [], harness := (true, "7657e1070231e955ebb7d59c5f3e9053e268d2a61c5824120d6b05ccd9b88176"), looks := true }, kinds := [], alts := [], laidByText := true, laidKinds := [.data, .data, .data, .data, .sentinel, .sentinel, .pinned], laidTests := true, laidLooks := .later }
def EvalTestsCardSaid : Prop := Claim7.holds Tryz.pinned (.plain (OpenSpec.ofChange evalTestsSpec)) evalTestsCard

/-- THE TIED CARD OF 'sizarlaw14.BodyKnown'. -/
def bodyKnownCard : Claim7 := { stood := { row := bodyKnownRow, standIns := [], harness := (true, "7657e1070231e955ebb7d59c5f3e9053e268d2a61c5824120d6b05ccd9b88176"), looks := true }, kinds := [], alts := [], laidByText := true, laidKinds := [.data, .data, .data, .data, .sentinel, .sentinel, .pinned], laidTests := true, laidLooks := .later }
def BodyKnownCardSaid : Prop := Claim7.holds Tryz.pinned (.plain (OpenSpec.ofChange bodyKnownSpec)) bodyKnownCard

/-- THE SECOND FORM's CARD OF 'sizarlaw14.BodyJoins'. -/
def bodyJoinsUptoCard : Claim7 := { stood := { row := bodyJoinsUptoRow, standIns := [], harness := (true, "7657e1070231e955ebb7d59c5f3e9053e268d2a61c5824120d6b05ccd9b88176"), looks := true }, kinds := [], alts := [], laidByText := true, laidKinds := [.data, .data, .data, .data, .sentinel, .sentinel, .pinned], laidTests := true, laidLooks := .later }
def BodyJoinsUptoCardSaid : Prop := Claim7.holds Tryz.pinned (.plain (OpenSpec.upto bodyJoinsSpec)) bodyJoinsUptoCard

/-- THE SECOND FORM's CARD OF 'sizarlaw14.BodySays'. -/
def bodySaysUptoCard : Claim7 := { stood := { row := bodySaysUptoRow, standIns := [], harness := (true, "7657e1070231e955ebb7d59c5f3e9053e268d2a61c5824120d6b05ccd9b88176"), looks := true }, kinds := [], alts := [], laidByText := true, laidKinds := [.data, .data, .data, .data, .sentinel, .sentinel, .pinned], laidTests := true, laidLooks := .later }
def BodySaysUptoCardSaid : Prop := Claim7.holds Tryz.pinned (.plain (OpenSpec.upto bodySaysSpec)) bodySaysUptoCard

/-- THE SECOND FORM's CARD OF 'sizarlaw20.EvalParts'. -/
def evalPartsUptoCard : Claim7 := { stood := { row := evalPartsUptoRow, standIns := [], harness := (true, "7657e1070231e955ebb7d59c5f3e9053e268d2a61c5824120d6b05ccd9b88176"), looks := true }, kinds := [], alts := [], laidByText := true, laidKinds := [.data, .data, .data, .data, .sentinel, .sentinel, .pinned], laidTests := true, laidLooks := .later }
def EvalPartsUptoCardSaid : Prop := Claim7.holds Tryz.pinned (.plain (OpenSpec.upto evalPartsSpec)) evalPartsUptoCard

/-- THE SECOND FORM's CARD OF 'sizarlaw14.BodyBack'. -/
def bodyBackUptoCard : Claim7 := { stood := { row := bodyBackUptoRow, standIns := [], harness := (true, "7657e1070231e955ebb7d59c5f3e9053e268d2a61c5824120d6b05ccd9b88176"), looks := true }, kinds := [], alts := [], laidByText := true, laidKinds := [.data, .data, .data, .data, .sentinel, .sentinel, .pinned], laidTests := true, laidLooks := .later }
def BodyBackUptoCardSaid : Prop := Claim7.holds Tryz.pinned (.plain (OpenSpec.upto bodyBackSpec)) bodyBackUptoCard

/-- THE SECOND FORM's CARD OF 'sizarlaw20.EvalKnown'. -/
def evalKnownUptoCard : Claim7 := { stood := { row := evalKnownUptoRow, standIns := [], harness := (true, "7657e1070231e955ebb7d59c5f3e9053e268d2a61c5824120d6b05ccd9b88176"), looks := true }, kinds := [], alts := [], laidByText := true, laidKinds := [.data, .data, .data, .data, .sentinel, .sentinel, .pinned], laidTests := true, laidLooks := .later }
def EvalKnownUptoCardSaid : Prop := Claim7.holds Tryz.pinned (.plain (OpenSpec.upto evalKnownSpec)) evalKnownUptoCard

/-- THE SECOND FORM's CARD OF 'sizarlaw20.EvalSays'. -/
def evalSaysUptoCard : Claim7 := { stood := { row := evalSaysUptoRow, standIns := [], harness := (true, "7657e1070231e955ebb7d59c5f3e9053e268d2a61c5824120d6b05ccd9b88176"), looks := true }, kinds := [], alts := [], laidByText := true, laidKinds := [.data, .data, .data, .data, .sentinel, .sentinel, .pinned], laidTests := true, laidLooks := .later }
def EvalSaysUptoCardSaid : Prop := Claim7.holds Tryz.pinned (.plain (OpenSpec.upto evalSaysSpec)) evalSaysUptoCard

/-- THE SECOND FORM's CARD OF 'sizarlaw20.EvalTests'. -/
def evalTestsUptoCard : Claim7 := { stood := { row := evalTestsUptoRow, standIns := [], harness := (true, "7657e1070231e955ebb7d59c5f3e9053e268d2a61c5824120d6b05ccd9b88176"), looks := true }, kinds := [], alts := [], laidByText := true, laidKinds := [.data, .data, .data, .data, .sentinel, .sentinel, .pinned], laidTests := true, laidLooks := .later }
def EvalTestsUptoCardSaid : Prop := Claim7.holds Tryz.pinned (.plain (OpenSpec.upto evalTestsSpec)) evalTestsUptoCard

/-- THE SECOND FORM's CARD OF 'sizarlaw14.BodyKnown'. -/
def bodyKnownUptoCard : Claim7 := { stood := { row := bodyKnownUptoRow, standIns := [], harness := (true, "7657e1070231e955ebb7d59c5f3e9053e268d2a61c5824120d6b05ccd9b88176"), looks := true }, kinds := [], alts := [], laidByText := true, laidKinds := [.data, .data, .data, .data, .sentinel, .sentinel, .pinned], laidTests := true, laidLooks := .later }
def BodyKnownUptoCardSaid : Prop := Claim7.holds Tryz.pinned (.plain (OpenSpec.upto bodyKnownSpec)) bodyKnownUptoCard
end Rows
end Go.Proofs.YtcnnobcncklgfaaGreatDoor
