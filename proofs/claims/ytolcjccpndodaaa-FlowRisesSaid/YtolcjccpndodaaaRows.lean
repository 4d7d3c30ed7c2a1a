/-
  No cell of these rows narrows 'for every input' (looked for: loops, veiled, ifaces, maps, wideKeys, modest, calm, conditions, laid).
  DERIVED. THE GIVEN ROWS OF THIS SEAT. 4 by the template 'for every input the law returns true; each argument reads behind the call as it read before'; 0 by the template 'total and deterministic' (their statements: YtolcjccpndodaaaTotals.lean).
  GIVEN WITH THE SEED: the statements are not yours to turn. If you find one false, say at which input.
  Laid BY PROGRAM, IN A SANDBOX (cutbox-rows.mjs): the forced cells as the released guide's own fill.sh prints them over the translation c4a2c2ff5e597399… (all of the seat's roots in one cut). By AI agents, Wed Nov 11 2026. No macro, syntax, notation, axiom, sorry.
-/
import Derived.Test.YtolcjccpndodaaaChecked
import GoSem.Claim
import GoSem.ClaimJoined
import GoSem.ClaimMapViews
import Derived.JoinedTies
import Derived.KernelRfl
namespace Go.Proofs.Ytolcjccpndodaaa
/- THE CELL 'sum', in the pinned program and in every row, IS THE sha256 OF THE DUMP (.gsa) THAT YtolcjccpndodaaaProg.lean LOADS. Nothing in Lean hashes anything: it is a label: what it is worth is what the hold of that sum in a sandbox is worth. -/
noncomputable def Try.pinned : Pinned := { name := "ytolcjccpndodaaa", sum := "c4a2c2ff5e5973991a4276ee1acc0fb59f63ca431373951254a732f0ae1683ad", checked := Try.checked }
namespace Rows
def none {H : Type} : Left H := { results := [], args := [] }

/-- 'sizarlaw19.FlowInto': WHATEVER THE INPUT: true; the input reads as it did. -/
def flowIntoSpec : ChangeSpec := { name := "flowInto", fn := fun _ => fun
  | [d1, d2, d3, d4] => { results := [.lit (.bool true)], args := [d1, d2, d3, d4] }
  | _ => none }
def flowIntoRow : OpenClaim := { program := "ytolcjccpndodaaa", sum := "c4a2c2ff5e5973991a4276ee1acc0fb59f63ca431373951254a732f0ae1683ad", func := "sizar/sizarlaw19.FlowInto", spec := "flowInto", apart := false }
def FlowIntoSaid : Prop := flowIntoRow.holds Try.pinned (OpenSpec.ofChange flowIntoSpec)

/-- ITS FALSE NEIGHBOUR: 'it returns false'. Refute it at one input. -/
def flowIntoWrong : ChangeSpec := { name := "flowInto", fn := fun _ => fun
  | [d1, d2, d3, d4] => { results := [.lit (.bool false)], args := [d1, d2, d3, d4] }
  | _ => none }
def FlowIntoWrongFalsely : Prop := flowIntoRow.holds Try.pinned (OpenSpec.ofChange flowIntoWrong)

/-- 'sizarlaw19.FlowRises': WHATEVER THE INPUT: true; the input reads as it did. -/
def flowRisesSpec : ChangeSpec := { name := "flowRises", fn := fun _ => fun
  | [d1, d2, d3] => { results := [.lit (.bool true)], args := [d1, d2, d3] }
  | _ => none }
def flowRisesRow : OpenClaim := { program := "ytolcjccpndodaaa", sum := "c4a2c2ff5e5973991a4276ee1acc0fb59f63ca431373951254a732f0ae1683ad", func := "sizar/sizarlaw19.FlowRises", spec := "flowRises", apart := false }
def FlowRisesSaid : Prop := flowRisesRow.holds Try.pinned (OpenSpec.ofChange flowRisesSpec)

/-- ITS FALSE NEIGHBOUR: 'it returns false'. Refute it at one input. -/
def flowRisesWrong : ChangeSpec := { name := "flowRises", fn := fun _ => fun
  | [d1, d2, d3] => { results := [.lit (.bool false)], args := [d1, d2, d3] }
  | _ => none }
def FlowRisesWrongFalsely : Prop := flowRisesRow.holds Try.pinned (OpenSpec.ofChange flowRisesWrong)

/-- 'sizarlaw19.FlowKnown': WHATEVER THE INPUT: true; the input reads as it did. -/
def flowKnownSpec : ChangeSpec := { name := "flowKnown", fn := fun _ => fun
  | [] => { results := [.lit (.bool true)], args := [] }
  | _ => none }
def flowKnownRow : OpenClaim := { program := "ytolcjccpndodaaa", sum := "c4a2c2ff5e5973991a4276ee1acc0fb59f63ca431373951254a732f0ae1683ad", func := "sizar/sizarlaw19.FlowKnown", spec := "flowKnown", apart := false }
def FlowKnownSaid : Prop := flowKnownRow.holds Try.pinned (OpenSpec.ofChange flowKnownSpec)

/-- ITS FALSE NEIGHBOUR: 'it returns false'. Refute it at one input. -/
def flowKnownWrong : ChangeSpec := { name := "flowKnown", fn := fun _ => fun
  | [] => { results := [.lit (.bool false)], args := [] }
  | _ => none }
def FlowKnownWrongFalsely : Prop := flowKnownRow.holds Try.pinned (OpenSpec.ofChange flowKnownWrong)

/-- 'sizarlaw19.FlowSays': WHATEVER THE INPUT: true; the input reads as it did. -/
def flowSaysSpec : ChangeSpec := { name := "flowSays", fn := fun _ => fun
  | [d1, d2, d3] => { results := [.lit (.bool true)], args := [d1, d2, d3] }
  | _ => none }
def flowSaysRow : OpenClaim := { program := "ytolcjccpndodaaa", sum := "c4a2c2ff5e5973991a4276ee1acc0fb59f63ca431373951254a732f0ae1683ad", func := "sizar/sizarlaw19.FlowSays", spec := "flowSays", apart := false }
def FlowSaysSaid : Prop := flowSaysRow.holds Try.pinned (OpenSpec.ofChange flowSaysSpec)

/-- ITS FALSE NEIGHBOUR: 'it returns false'. Refute it at one input. -/
def flowSaysWrong : ChangeSpec := { name := "flowSays", fn := fun _ => fun
  | [d1, d2, d3] => { results := [.lit (.bool false)], args := [d1, d2, d3] }
  | _ => none }
def FlowSaysWrongFalsely : Prop := flowSaysRow.holds Try.pinned (OpenSpec.ofChange flowSaysWrong)

/- THE SECOND FORM. 'bulk': how many values and letters a reading holds, each counted each time it is reached (what is shared counts as often as it is met; a slice's spare places count too). A statement '..UptoSaid' is the law's where the arguments, and the package variables that the reading takes, are together of bulk at most 1048576: NARROWER than '..Said'. Prove '..Said' where nothing that the law and all that it calls make is longer than what came in: it says more and counts as full. Else prove '..UptoSaid'. A law counts once. -/
mutual
def uptoBulk {H : Type} : DataW H → Nat
  | .lit (.string bytes) => bytes.length + 1
  | .lit _ => 1
  | .nil => 1
  | .ptr d => uptoBulk d + 1
  | .slice elems spare => uptoBulkAll elems + uptoBulkAll spare + 1
  | .agg parts => uptoBulkAll parts + 1
  | .iface _ d => uptoBulk d + 1
  | .map entries => uptoBulkEntries entries + 1
  | .held _ => 1
def uptoBulkAll {H : Type} : List (DataW H) → Nat
  | [] => 0
  | d :: r => uptoBulk d + uptoBulkAll r
def uptoBulkEntries {H : Type} : List (Lit × DataW H) → Nat
  | [] => 0
  | x :: r => uptoBulkEntry x + uptoBulkEntries r
def uptoBulkEntry {H : Type} : Lit × DataW H → Nat
  | (.string bytes, d) => bytes.length + uptoBulk d + 1
  | (_, d) => uptoBulk d + 1
 end
def uptoSmall : (H : Type) → List (DataW H) → Bool := fun _ ds => decide (uptoBulkAll ds ≤ 1048576)
def OpenSpec.upto (s : _root_.Go.ChangeSpec) : _root_.Go.OpenSpec := { _root_.Go.OpenSpec.ofChange s with cond := some uptoSmall }

/-- 'sizarlaw19.FlowInto', WHERE WHAT IT READS IS OF BULK AT MOST 1048576: true; the input reads as it did. -/
def flowIntoUptoRow : OpenClaim := { program := "ytolcjccpndodaaa", sum := "c4a2c2ff5e5973991a4276ee1acc0fb59f63ca431373951254a732f0ae1683ad", func := "sizar/sizarlaw19.FlowInto", spec := "flowInto", apart := false, narrowed := true }
def FlowIntoUptoSaid : Prop := flowIntoUptoRow.holds Try.pinned (OpenSpec.upto flowIntoSpec)

/-- 'sizarlaw19.FlowRises', WHERE WHAT IT READS IS OF BULK AT MOST 1048576: true; the input reads as it did. -/
def flowRisesUptoRow : OpenClaim := { program := "ytolcjccpndodaaa", sum := "c4a2c2ff5e5973991a4276ee1acc0fb59f63ca431373951254a732f0ae1683ad", func := "sizar/sizarlaw19.FlowRises", spec := "flowRises", apart := false, narrowed := true }
def FlowRisesUptoSaid : Prop := flowRisesUptoRow.holds Try.pinned (OpenSpec.upto flowRisesSpec)

/-- 'sizarlaw19.FlowKnown', WHERE WHAT IT READS IS OF BULK AT MOST 1048576: true; the input reads as it did. -/
def flowKnownUptoRow : OpenClaim := { program := "ytolcjccpndodaaa", sum := "c4a2c2ff5e5973991a4276ee1acc0fb59f63ca431373951254a732f0ae1683ad", func := "sizar/sizarlaw19.FlowKnown", spec := "flowKnown", apart := false, narrowed := true }
def FlowKnownUptoSaid : Prop := flowKnownUptoRow.holds Try.pinned (OpenSpec.upto flowKnownSpec)

/-- 'sizarlaw19.FlowSays', WHERE WHAT IT READS IS OF BULK AT MOST 1048576: true; the input reads as it did. -/
def flowSaysUptoRow : OpenClaim := { program := "ytolcjccpndodaaa", sum := "c4a2c2ff5e5973991a4276ee1acc0fb59f63ca431373951254a732f0ae1683ad", func := "sizar/sizarlaw19.FlowSays", spec := "flowSays", apart := false, narrowed := true }
def FlowSaysUptoSaid : Prop := flowSaysUptoRow.holds Try.pinned (OpenSpec.upto flowSaysSpec)

end Rows
end Go.Proofs.Ytolcjccpndodaaa
