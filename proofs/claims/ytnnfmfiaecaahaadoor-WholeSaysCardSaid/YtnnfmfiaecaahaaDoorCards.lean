/-
  DERIVED. GIVEN WITH THE SEED: THE CARDS: each row of YtnnfmfiaecaahaaDoorRows.lean that lists a variable, with what it lists TIED to the program's text (the seventh form; the later family's looks); each row that meets fmt, with fmt's text TOLD by the authors' own Lean function (tested against real Go, not proved from fmt's source: count such statements apart). THE CARD IS WHAT COUNTS. Prove the row's statement (the work); the ties are given (YtnnfmfiaecaahaaDoorTie.lean); close each card by the builder's one call (the guide's Derived/Test/ToyasCard.lean, 'card_holds'). Laid BY PROGRAM, IN A SANDBOX (cutbox-door.mjs). By AI agents, Wed Nov 11 2026. No macro, syntax, notation, axiom, sorry.
-/
import Derived.Test.YtnnfmfiaecaahaaDoorRows
import GoSem.ClaimSeven
namespace Go.Proofs.YtnnfmfiaecaahaaDoor
namespace Rows

/-- THE TIED CARD OF 'sizarlaw2.WholeSays'. -/
def wholeSaysCard : Claim7 := { stood := { row := wholeSaysRow, standIns := [], harness := (true, "bd67ef49557acf61010acf8a3bb130d190ffd69d9533c50ee1081b9abe879c8f"), looks := true }, kinds := [], alts := [], laidByText := true, laidKinds := [.data, .data, .data, .data, .sentinel, .sentinel, .pinned], laidTests := true, laidLooks := .later }
def WholeSaysCardSaid : Prop := Claim7.holds Tryd.pinned (.plain (OpenSpec.ofChange wholeSaysSpec)) wholeSaysCard

/-- THE SECOND FORM's CARD OF 'sizarlaw2.WholeSays'. -/
def wholeSaysUptoCard : Claim7 := { stood := { row := wholeSaysUptoRow, standIns := [], harness := (true, "bd67ef49557acf61010acf8a3bb130d190ffd69d9533c50ee1081b9abe879c8f"), looks := true }, kinds := [], alts := [], laidByText := true, laidKinds := [.data, .data, .data, .data, .sentinel, .sentinel, .pinned], laidTests := true, laidLooks := .later }
def WholeSaysUptoCardSaid : Prop := Claim7.holds Tryd.pinned (.plain (OpenSpec.upto wholeSaysSpec)) wholeSaysUptoCard
end Rows
end Go.Proofs.YtnnfmfiaecaahaaDoor
