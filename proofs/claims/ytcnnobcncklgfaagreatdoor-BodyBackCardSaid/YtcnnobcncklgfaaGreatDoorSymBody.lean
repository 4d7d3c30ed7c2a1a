/- The contracts of body.is, control, row. -/
import Derived.Test.YtcnnobcncklgfaaGreatDoorSymC
namespace Go.Proofs.YtcnnobcncklgfaaGreatDoor
open Go Go.Abs Go.RowKit
set_option linter.unusedVariables false
set_option linter.unusedSimpArgs false
attribute [local congr] on_congr br_congr onf_congr
def isP (t : Tm) (nm : List UInt8) (m : Int) : Bool := decide (1 < t.kind) && (t.name == nm) && decide ((t.args.length : Int) = m)
noncomputable def isS : List AV → Option AV
  | [x, .str nm, .int .i64 m] => (ofT x).map fun t => .bool (isP t nm m)
  | _ => none
theorem isS_eq (t : Tm) (nm : List UInt8) (m : Int) : isS [.agg (tmC t), .str nm, .int .i64 m] = some (.bool (isP t nm m)) := by
  show (ofT (tmA t)).map _ = _
  rw [ofT_tm]; rfl
theorem is_one : HookOne Tryz.prog 54 (pureF isS) := by
  refine HookOne.ofPureF (by decide +kernel) fun args y h H => ?_
  unfold isS at h; split at h
  · rename_i x nm m
    rw [Option.map_eq_some_iff] at h
    obtain ⟨t, h1, rfl⟩ := h
    obtain rfl := ofT_ok h1
    refine ACalls.ofRun (l := []) (by simp) mixed (draws _ rfl) yIs_ok rfl (by simp [pureL, pure_tmA, pureA]) 0 ?_ H
    unfold isP
    by_cases c1 : 1 < t.kind <;> cases c2 : t.name == nm
    all_goals
      simp only [yIs, xinit_3, tmA, ↓axP, axQ, ↓if_true, ↓if_false, List.all_cons, List.all_nil, List.length_cons, List.length_nil, List.take_succ_cons, List.take_zero, List.take_nil, List.drop_succ_cons, List.drop_zero, List.drop_nil, List.getElem?_cons_zero, List.getElem?_cons_succ, List.getElem?_nil, List.nil_append, List.cons_append, List.append_nil, List.flatten_cons, List.flatten_nil, ite_true, ite_false, reduceIte, ne_eq, eq_self, Nat.reduceAdd, Nat.reduceSub, Nat.reduceMul, Nat.reduceLeDiff, Nat.reduceEqDiff, Nat.reduceBEq, reduceCtorEq, Int.reduceToNat, List.elem_nil, List.elem_cons, Int.reduceLT, Int.reduceLE, Int.reduceEq, Int.reduceAdd, Int.reduceSub, Int.reduceNeg, capnY, appzY, List.all_append, List.take_append, List.drop_append, List.length_append, tmC_len, tmC_0, tmC_1, tmC_2, tmC_3, tmC_take, tmC_drop, tmC_one, tmC_ne, c1, c2, List.length_map]
      exact Ans.some (.pure rfl)
  · cases h
end Go.Proofs.YtcnnobcncklgfaaGreatDoor
