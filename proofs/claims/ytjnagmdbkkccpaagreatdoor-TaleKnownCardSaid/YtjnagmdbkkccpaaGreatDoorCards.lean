/-
  DERIVED. GIVEN WITH THE SEED: THE CARDS: each row of YtjnagmdbkkccpaaGreatDoorRows.lean that lists a variable, with what it lists TIED to the program's text (the seventh form; the later family's looks); each row that meets fmt, with fmt's text TOLD by the authors' own Lean function (tested against real Go, not proved from fmt's source: count such statements apart). THE CARD IS WHAT COUNTS. Prove the row's statement (the work); the ties are given (YtjnagmdbkkccpaaGreatDoorTie.lean); close each card by the builder's one call (the guide's Derived/Test/ToyasCard.lean, 'card_holds'). Laid BY PROGRAM, IN A SANDBOX (cutbox-door.mjs). By AI agents, Wed Nov 11 2026. No macro, syntax, notation, axiom, sorry.
-/
import Derived.Test.YtjnagmdbkkccpaaGreatDoorRows
import GoSem.ClaimSeven
namespace Go.Proofs.YtjnagmdbkkccpaaGreatDoor
namespace Rows

/-- THE TIED CARD OF 'sizarlaw28.TaleKnown'. -/
def taleKnownCard : Claim7 := { stood := { row := taleKnownRow, standIns := [], harness := (true, "f2fbf7d9fb454af2938a07740a9a2803fb892fd29e4c83127bc4807bf4964793"), looks := true }, kinds := [], alts := [], laidByText := true, laidKinds := [.data, .data, .data, .data, .sentinel, .sentinel, .pinned], laidTests := true, laidLooks := .later }
def TaleKnownCardSaid : Prop := Claim7.holds Tryz.pinned (.plain (OpenSpec.ofChange taleKnownSpec)) taleKnownCard

/-- THE SECOND FORM's CARD OF 'sizarlaw28.TaleKnown'. -/
def taleKnownUptoCard : Claim7 := { stood := { row := taleKnownUptoRow, standIns := [], harness := (true, "f2fbf7d9fb454af2938a07740a9a2803fb892fd29e4c83127bc4807bf4964793"), looks := true }, kinds := [], alts := [], laidByText := true, laidKinds := [.data, .data, .data, .data, .sentinel, .sentinel, .pinned], laidTests := true, laidLooks := .later }
def TaleKnownUptoCardSaid : Prop := Claim7.holds Tryz.pinned (.plain (OpenSpec.upto taleKnownSpec)) taleKnownUptoCard
end Rows
end Go.Proofs.YtjnagmdbkkccpaaGreatDoor
