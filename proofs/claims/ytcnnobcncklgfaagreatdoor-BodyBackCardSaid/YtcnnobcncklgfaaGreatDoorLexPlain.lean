/- Chapter 6 as functions on lists of bytes: what package lex computes, letter by letter; a text's place is told by what is left of it. -/
import Derived.Test.YtcnnobcncklgfaaGreatDoorParsePlain
namespace Go.Proofs.YtcnnobcncklgfaaGreatDoor
set_option linter.unusedVariables false
def lsmall (c : UInt8) : Bool := decide ((97 : Int) ≤ (c.toNat : Int)) && decide ((c.toNat : Int) ≤ 122)
def lgreat (c : UInt8) : Bool := (decide ((65 : Int) ≤ (c.toNat : Int)) && decide ((c.toNat : Int) ≤ 90)) || ((c.toNat : Int) == 95)
def ldigit (c : UInt8) : Bool := decide ((48 : Int) ≤ (c.toNat : Int)) && decide ((c.toNat : Int) ≤ 57)
def lword (c : UInt8) : Bool := lsmall c || lgreat c || ldigit c
def lsym (c : UInt8) : Bool := [43, 45, 42, 47, 92, 94, 60, 62, 61, 126, 58, 46, 63, 64, 35, 38, 36].contains c
def lblank (c : UInt8) : Bool := [32, 9, 10, 13].contains c
def lpunct (c : UInt8) : Bool := [40, 41, 91, 93, 123, 125, 44, 124].contains c
/-- What is left behind blanks and comments; the flag: within a comment. -/
def skipS : Bool → List UInt8 → List UInt8
  | _, [] => []
  | true, c :: r => skipS (c != 10) r
  | false, c :: r => if lblank c then skipS false r else if c == 37 then skipS true r else c :: r
/-- Does an end begin here? -/
def endsS : List UInt8 → Bool
  | [] => false
  | c :: r => c == 46 && (match r with | [] => true | d :: _ => [32, 9, 10, 13, 37].contains d)
/-- The symbols that go on from here. -/
def symsS : List UInt8 → List UInt8
  | [] => []
  | c :: r => if lsym c && !endsS (c :: r) then c :: symsS r else []
/-- Of a quoted name, behind the quote: the name so far, and what is left; none where it is refused. -/
def quotS : List UInt8 → List UInt8 → Option (List UInt8 × List UInt8)
  | _, [] => none
  | out, [c] => if c == 39 then some (out, []) else none
  | out, c :: d :: r =>
    if c == 39 then (if d == 39 then quotS (out ++ [39]) r else some (out, d :: r))
    else if c < 32 || 126 < c then none
    else if c == 92 then
      (if d == 110 then quotS (out ++ [10]) r else if d == 116 then quotS (out ++ [9]) r else if d == 92 then quotS (out ++ [92]) r else if d == 39 then quotS (out ++ [39]) r else none)
    else quotS (out ++ [c]) (d :: r)
structure Tok where
  kind : Int
  text : List UInt8
  num : Int
  opn : Bool
  pos : Int
deriving DecidableEq
/-- One token: it, what is left, its error. -/
def oneT : List UInt8 → Tok × List UInt8 × Int
  | [] => (⟨0, [], 0, false, 0⟩, [], 2)
  | c :: r =>
    if lsmall c then (⟨1, (c :: r).takeWhile lword, 0, false, 0⟩, (c :: r).dropWhile lword, 0)
    else if lgreat c then (⟨3, (c :: r).takeWhile lword, 0, false, 0⟩, (c :: r).dropWhile lword, 0)
    else if ldigit c then (⟨4, [], (parseS ((c :: r).takeWhile ldigit)).1, false, 0⟩, (c :: r).dropWhile ldigit, (parseS ((c :: r).takeWhile ldigit)).2)
    else if c == 39 then (match quotS [] r with | none => (⟨0, [], 0, false, 0⟩, [], 2) | some (t, k) => (⟨2, t, 0, false, 0⟩, k, 0))
    else if endsS (c :: r) then (⟨6, [], 0, false, 0⟩, r, 0)
    else if lsym c then (⟨1, symsS (c :: r), 0, false, 0⟩, (c :: r).drop (symsS (c :: r)).length, 0)
    else if c == 59 || c == 33 then (⟨1, [c], 0, false, 0⟩, r, 0)
    else if (c == 91 && r.head? == some 93) || (c == 123 && r.head? == some 125) then (⟨1, (c :: r).take 2, 0, false, 0⟩, r.drop 1, 0)
    else if lpunct c then (⟨5, [c], 0, false, 0⟩, r, 0)
    else (⟨0, [], 0, false, 0⟩, [], 2)
/-- Is a token too much? -/
def overT (t : Tok) (n : Nat) : Bool := (t.kind == 1 || t.kind == 2) && decide (64 < t.text.length) || n == 1024
/-- The tokens of what is left (behind its blanks), of a text of N letters; n are there already. -/
def cutF (N : Nat) : Nat → List Tok → List UInt8 → List Tok × Int × Int
  | 0, out, _ => (out, N, 0)
  | _ + 1, out, [] => (out, N, 0)
  | f + 1, out, c :: r =>
    let o := oneT (c :: r)
    let e := if o.2.2 == 0 && overT o.1 out.length then 3 else o.2.2
    if e != 0 then ([], (N : Int) - (c :: r).length, e)
    else cutF N f (out ++ [{ o.1 with pos := (N : Int) - (c :: r).length, opn := o.2.1.head? == some 40 }]) (skipS false o.2.1)
/-- Cut: the tokens, how far, the error. -/
def cutT (l : List UInt8) : List Tok × Int × Int :=
  if 4096 < l.length then ([], 4096, 3) else cutF l.length (l.length + 1) [] (skipS false l)
def plainT (l : List UInt8) : Bool :=
  match cutT l with
  | ([t], _, e) => e == 0 && t.kind == 1 && t.text == l
  | _ => false
/-- The letters of a quoted name. -/
def quoL : List UInt8 → Option (List UInt8)
  | [] => some []
  | c :: r => if c == 10 then (quoL r).map (fun x => 92 :: 110 :: x) else if c == 9 then (quoL r).map (fun x => 92 :: 116 :: x) else if c == 92 then (quoL r).map (fun x => 92 :: 92 :: x) else if c == 39 then (quoL r).map (fun x => 92 :: 39 :: x)
    else if c < 32 || 126 < c then none else (quoL r).map (fun x => c :: x)
def quoteT (l : List UInt8) : List UInt8 :=
  if plainT l then l else if 64 < l.length then [] else match quoL l with | none => [] | some x => 39 :: (x ++ [39])
/- The program's tests say the same. -/
example : cutT [97, 40, 88, 41, 46] = ([⟨1, [97], 0, true, 0⟩, ⟨5, [40], 0, false, 1⟩, ⟨3, [88], 0, false, 2⟩, ⟨5, [41], 0, false, 3⟩, ⟨6, [], 0, false, 4⟩], 5, 0) := by decide +kernel
end Go.Proofs.YtcnnobcncklgfaaGreatDoor
