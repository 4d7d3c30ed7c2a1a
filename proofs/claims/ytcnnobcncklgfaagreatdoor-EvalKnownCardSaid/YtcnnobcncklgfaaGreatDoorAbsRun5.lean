/- Code, functions that are looked up. -/
import Derived.Test.YtcnnobcncklgfaaGreatDoorAbsDraw4
namespace Go.Abs
open Go Go.RowKit
set_option linter.unusedVariables false
inductive ICode where
  | skip
  | ops (l : List IOper)
  | dops (n : Nat) (l : List DOp)
  | seq (a b : ICode)
  | cond (x : Opd) (a b : ICode)
  | block (id : Nat) (c : ICode)
  | loop (c : ICode)
  | exit (id : Nat)
  | ret
  | bad
inductive IEx where
  | normal | exit (id : Nat) | ret
abbrev XR := Option (IEx × Tr AV × AH)
def iter (body : Tr AV → AH → XR) : Nat → Tr AV → AH → XR
  | 0, _, _ => none
  | n + 1, T, H => match body T H with
    | some (.normal, T', H') => iter body n T' H'
    | r => r
def xcode (call : ICall) (F : Nat) : ICode → Tr AV → AH → XR
  | .skip, T, H => some (.normal, T, H)
  | .ops l, T, H => match xops call l T H with
    | some (T', H') => some (.normal, T', H')
    | none => none
  | .dops n l, T, H => match drun call H.next l ⟨T, ⟨H.next + n, H.gs, H.ms⟩, []⟩ with
    | some s => some (.normal, s.T, s.H)
    | none => none
  | .seq a b, T, H => match xcode call F a T H with
    | some (.normal, T', H') => xcode call F b T' H'
    | r => r
  | .cond x a b, T, H => match iev T x with
    | some (.bool true) => xcode call F a T H
    | some (.bool false) => xcode call F b T H
    | _ => none
  | .block id c, T, H => match xcode call F c T H with
    | some (.exit id', T', H') => bif Nat.beq id' id then some (.normal, T', H') else some (.exit id', T', H')
    | r => r
  | .loop c, T, H => iter (xcode call F c) F T H
  | .exit id, T, H => some (.exit id, T, H)
  | .ret, T, H => some (.ret, T, H)
  | .bad, _, _ => none
inductive IRes where
  | tmp (p : Pth)
  | cell (p : Pth) (n : Option Nat)
structure IFun where
  nt : Nat
  body : ICode
  res : List IRes
def iress (T : Tr AV) (H : AH) : List IRes → Option (List AV)
  | [] => some []
  | .tmp p :: rs => match T.getP p with
    | some x => match iress T H rs with
      | some xs => some (x :: xs)
      | none => none
    | none => none
  | .cell p n :: rs => match T.getP p with
    | some a => match iload n H a with
      | some x => match iress T H rs with
        | some xs => some (x :: xs)
        | none => none
      | none => none
    | none => none
def ires (T : Tr AV) (H : AH) (rs : List IRes) : Option AV :=
  match iress T H rs with
  | some [x] => some x
  | some xs => some (.tup xs)
  | none => none
def cRes (P : Program) : List ResultVar → Option (List IRes)
  | [] => some []
  | .tmp t :: rs => match cRes P rs with
    | some is => some (.tmp (Tr.path t) :: is)
    | none => none
  | .cell p t :: rs => match P.underlying t, cRes P rs with
    | some d, some is => some (.cell (Tr.path p) (if isAggD d then some (P.cellsOf t) else none) :: is)
    | _, _ => none
def cOpers (P : Program) (nt : Nat) (ops : Array Oper) : List Oper → Option (List IOper)
  | [] => some []
  | o :: os => match cOper P nt ops o, cOpers P nt ops os with
    | some i, some is => some (i :: is)
    | _, _ => none
def mkK (k : IK) (watch : List Nat) : DK :=
  match k with
  | .call f a => .k2 (.call f a) watch
  | .op o => bif o.isPure then .pure o else bif o.isAlloc then .alloc o else (match o with
    | .load n x => .load n x
    | o => .k2 (.op o) watch)
def DK.cls : DK → Nat
  | .pure _ => 0
  | .load .. => 0
  | .k2 .. => 1
  | .alloc _ => 2
def DK.isLoad : DK → Bool
  | .load .. => true
  | _ => false
def nextD (ops : Array Oper) (is : List IOper) (done : List Nat) (c : Nat) : Option Nat :=
  (List.range is.length).find? fun i => !(done.elem i) && ((match is[i]? with | some io => Nat.beq (mkK io.op []).cls c | none => false) && (preds ops i).all fun p => done.elem p)
def orderD (ops : Array Oper) (is : List IOper) : Nat → List Nat → List Nat
  | 0, _ => []
  | n + 1, done => match nextD ops is done 0 with
    | some i => i :: orderD ops is n (i :: done)
    | none => match nextD ops is done 1 with
      | some i => i :: orderD ops is n (i :: done)
      | none => match nextD ops is done 2 with
        | some i => i :: orderD ops is n (i :: done)
        | none => []
def buildD (A : List Nat) (is : List IOper) : List Nat → List DOp → Option (List DOp)
  | [], _ => some []
  | i :: l, bef => match is[i]? with
    | some io => match buildD A is l (⟨i, io.dst, io.guard, mkK io.op ((bef.filter fun b => b.k.isLoad && !(Nat.testBit (A.getD i 0) b.idx)).map (·.idx))⟩ :: bef) with
      | some ds => some (⟨i, io.dst, io.guard, mkK io.op ((bef.filter fun b => b.k.isLoad && !(Nat.testBit (A.getD i 0) b.idx)).map (·.idx))⟩ :: ds)
      | none => none
    | none => none
def cDraw (P : Program) (nt : Nat) (ops : Array Oper) : Option (List DOp) :=
  match cOpers P nt ops ops.toList with
  | some is => buildD (ancs ops ops.size) is (orderD ops is ops.size []) []
  | none => none
def cCode (P : Program) (nt : Nat) : Code → ICode
  | .skip => .skip
  | .label _ => .skip
  | .region _ ops draw => match draw with
    | true => (match cDraw P nt ops with
      | some l => .dops ops.size l
      | none => .bad)
    | false => (match cOpers P nt ops ops.toList with
      | some l => .ops l
      | none => .bad)
  | .seq a b => .seq (cCode P nt a) (cCode P nt b)
  | .cond x a b => match cO x with
    | some x => .cond x (cCode P nt a) (cCode P nt b)
    | none => .bad
  | .block id c => .block id (cCode P nt c)
  | .loop c => .loop (cCode P nt c)
  | .scope c => cCode P nt c
  | .exit id => .exit id
  | .ret => .ret
  | _ => .bad
/-- All rows whose order is open are well. -/
def codeD (P : Program) (nt : Nat) : Code → Bool
  | .region _ ops draw => match draw with
    | true => (match cDraw P nt ops with
      | some l => dOK ops l
      | none => true)
    | false => true
  | .seq a b => codeD P nt a && codeD P nt b
  | .cond _ a b => codeD P nt a && codeD P nt b
  | .block _ c => codeD P nt c
  | .loop c => codeD P nt c
  | .scope c => codeD P nt c
  | _ => true
def funD (P : Program) (f : FuncId) : Bool :=
  match P.funcs[f]? with
  | some fn => match fn.body with
    | some c => codeD P fn.ntmps c
    | none => true
  | none => true
def cFun (P : Program) (good : FuncId → Bool) (f : FuncId) : Option IFun :=
  bif good f then (match P.funcs[f]? with
    | some fn => bif fn.name == "runtime.NumGoroutine" then none else (match fn.body with
      | some c => match cRes P fn.results.toList with
        | some rs => some ⟨fn.ntmps, cCode P fn.ntmps c, rs⟩
        | none => none
      | none => none)
    | none => none) else none
def xinit : List AV → Nat → Tr AV → Tr AV
  | [], _, T => T
  | x :: xs, i, T => xinit xs (i + 1) (Tr.setP (Tr.path i) T x)
def xend (fn : IFun) : XR → Option (AV × AH)
  | some (.normal, T, H) => match ires T H fn.res with
    | some x => some (x, H)
    | none => none
  | some (.ret, T, H) => match ires T H fn.res with
    | some x => some (x, H)
    | none => none
  | _ => none
/-- Functions that are not carried out: what they answer is known. -/
abbrev Hooks := FuncId → Option (List AV → AH → Option (AV × AH))
def arun (P : Program) (good : FuncId → Bool) (hook : Hooks) (F : Nat) : Nat → ICall
  | 0 => fun _ _ _ => none
  | n + 1 => fun f args H => match hook f with
    | some h => h args H
    | none => match cFun P good f with
      | some fn => bif Nat.ble args.length fn.nt then xend fn (xcode (arun P good hook F n) F fn.body (xinit args 0 .nil) H) else none
      | none => none
end Go.Abs
