/- 'sizarlaw28.TaleKnown': for every input it returns true, and each argument reads afterwards as it read before; the library's variables that it reads hold what their text lays (tied by the card). No condition on the input. -/
import Derived.Test.YtjnagmdbkkccpaaGreatDoorCards
import Derived.Test.YtjnagmdbkkccpaaGreatDoorTie
import Derived.Test.YtjnagmdbkkccpaaGreatDoorTkK
import Derived.Test.YtjnagmdbkkccpaaGreatDoorLaw
import Derived.Test.YtjnagmdbkkccpaaGreatDoorShelf
import Derived.Test.YtjnagmdbkkccpaaGreatDoorLaid7
import Derived.Test.YtjnagmdbkkccpaaGreatDoorTaleKnownF
import Derived.Deep.DeepHandedRow
import Derived.Lib.LaidTab
namespace Go.Proofs.YtjnagmdbkkccpaaGreatDoor.taleKnown
open Go.ChangeShapes Go.WideShapes Go.ChangeAt Go.RowKit
open Go.ChangeMaps (open_string shut_string)
set_option linter.unusedVariables false
theorem own : ownKnob Tryz.prog.godebug = none := by kernel_rfl
theorem globV_of {W : World} (h : Lib.TabIs Tryz.prog W "internal/strconv.uint64pow10" .u64 Lib.pow10Tab) : Go.Abs.GlobV W W.heap.size := by
  unfold Lib.TabIs World.var? at h
  rw [show (Tryz.prog).globalNamed "internal/strconv.uint64pow10" = some 1 by kernel_rfl] at h
  simp only [Option.bind_some] at h
  split at h
  · rename_i cs t f hb
    refine ⟨Go.Abs.get_lt hb, t, f, ?_⟩
    rw [show Go.Abs.powG = 1 from rfl, hb, Option.some.inj h]
    rfl
  · cases h
theorem contract (H : Type) (enc : TypeId × Value → H) (W : World) (base : Nat) (args : Array Value) (ds gs : List (DataW H)) (before : List MemPlace)
    (hval : ∀ (j : Nat) t v, Tryz.f3.params[j]? = some t → args[j]? = some v → Value.okWide Tryz.prog W .any base t v)
    (hW : DataW.Whole enc Tryz.prog Tryz.f3.params.toList Rows.taleKnownSpec.vars false W args.toList ds gs before) (hL : laidMetH Tryz.prog Rows.taleKnownRow.laid W) (hsh : W.ShapedOpen Tryz.prog) :
    Calls Tryz.prog 3 args W fun e W' => ∃ v, e = .returned v ∧ Rows.taleKnownSpec.post enc Tryz.prog Tryz.f3 false true false false W args v W' := by
  have hW' := hW
  obtain ⟨p, q, hA0, hV, rfl, hfz, hnd⟩ := hW
  have hA : DataW.TrodAll enc Tryz.prog W 0 (fun _ => true) true Tryz.f3.params.toList args.toList ds p := hA0
  rw [Tryz.params3] at hA hval
  obtain ⟨hargs, rfl, rfl⟩ := trodAll_nil hA
  obtain rfl : args = #[] := by cases args; simp_all
  clear hA0
  obtain ⟨m, hm⟩ := Tryz.laysM143.s1_3 W hsh
  refine (known_any W ⟨⟨Nat.lt_of_le_of_lt (Nat.zero_le _) (Go.Abs.cell_lt hm), globV_of (LaidFacts.tab hL rfl)⟩, m, hm⟩).mono fun e W' ⟨he, hg⟩ => ?_
  subst he
  exact ⟨_, rfl, law_post (by kernel_rfl) (by kernel_rfl) rfl Tryz.underlying4 rfl rfl hW' hg⟩
theorem laid_met (os : Os) : laidMet Tryz.prog Rows.taleKnownRow.laid ((laidWorld os).forCall (fun _ _ => 0) ⟨#[], #[], []⟩).memory :=
  laidMet_of_run' 8 (by kernel_rfl) (by kernel_rfl)
theorem reads (os : Os) {H : Type} (enc : TypeId × Value → H) : ∃ places, DataW.whole enc Tryz.prog ((laidWorld os).forCall (fun _ _ => 0) ⟨#[], #[], []⟩).memory Tryz.f3.params.toList Rows.taleKnownSpec.vars false (#[] : Array Value).toList 8 = some ([], [], places) :=
  ⟨[], by kernel_rfl⟩
set_option maxRecDepth 100000 in
theorem lifted (os : Os) (started : os.Started) (H : Type) (enc : TypeId × Value → H) (F : Stop.Interp) :
    ReturnsInHanded {} Tryz.checked os 3 .any ((OpenSpec.ofChange Rows.taleKnownSpec).preRow enc Tryz.prog Tryz.f3 Rows.taleKnownRow.domain false Rows.taleKnownRow.laid) (((OpenSpec.ofChange Rows.taleKnownSpec).at F).post enc Tryz.prog Tryz.f3 false true false false) := by
  obtain ⟨places, hx⟩ := reads os enc
  refine returnsInHanded_of_row (C := Tryz.checked) (s := OpenSpec.ofChange Rows.taleKnownSpec) own started (by kernel_rfl) Tryz.func3
    (witness_row_atRef (enc := enc) (C := Tryz.checked) false (laidWorld os) #[] rfl (by kernel_rfl) (by kernel_rfl) (by kernel_rfl)
      (OpenSpec.preRow_of_cond 8 hx (by kernel_rfl) (fun k hk => by cases hk) (by kernel_rfl) (laid_met os))) ?_
  intro W base args ds gs before hval hW _ _ _ hL hsh _
  exact contract H enc W base args ds gs before hval hW hL hsh
theorem said : Rows.TaleKnownSaid :=
  OpenClaim.holds_of_cond 3 Tryz.f3 rfl rfl rfl rfl rfl rfl rfl ⟨rfl, rfl, rfl, rfl, rfl⟩ rfl rfl rfl rfl rfl fnamed Tryz.func3 joined inst wrap
    (fun os started H enc _ F => by rw [OpenClaim.pre_eq_preRow]; exact lifted os started H enc F)
theorem plain (f : FuncId) (fn : Func) (hf : Tryz.pinned.checked.prog.funcNamed "sizar/sizarlaw28.TaleKnown" = some f) (hfn : Tryz.pinned.checked.prog.funcs[f]? = some fn) :
    true = Tryz.pinned.checked.prog.looks [] ∧ ∀ (j : Nat) t, fn.params[j]? = some t → Tryz.pinned.checked.prog.wantsStandIn t = false := by
  obtain rfl : f = 3 := Option.some.inj ((show Tryz.prog.funcNamed "sizar/sizarlaw28.TaleKnown" = some 3 by kernel_rfl).symm.trans hf) |>.symm
  obtain rfl : fn = Tryz.f3 := (Option.some.inj (Tryz.func3.symm.trans hfn)).symm
  refine ⟨looks0, fun j t ht => ?_⟩
  have hall : (Tryz.f3.params.toList.all fun t => !Tryz.prog.wantsStandIn t) = true := by kernel_rfl
  have hm := List.all_eq_true.1 hall t (by simpa using Array.mem_of_getElem? ht)
  exact (show Tryz.prog.wantsStandIn t = false by simpa using hm)
/-- The card. -/
theorem card : Rows.TaleKnownCardSaid :=
  Claim7.holds_tied_plain_at .later [] _ _ _ _ said (fun _ h => by cases h) wfT (fun _ h => by cases h) taleKnown_row_tie rfl ⟨rfl, rfl⟩ (by kernel_rfl) rfl plain goesBy
#print axioms card
end Go.Proofs.YtjnagmdbkkccpaaGreatDoor.taleKnown
