/- Operations that are looked up: what they are, what they do. -/
import Derived.Test.YtcnnobcncklgfaaGreatDoorAbsRun
namespace Go.Abs
open Go Go.RowKit
set_option linter.unusedVariables false
/-- An operand: a slot, or a value. -/
inductive Opd where
  | t (p : Pth)
  | c (x : AV)
def iev (T : Tr AV) : Opd → Option AV
  | .t p => T.getP p
  | .c x => some x
def cO : Operand → Option Opd
  | .tmp t => some (.t (Tr.path t))
  | .const v => match AV.ofV v with | some x => some (.c x) | none => none
  | .global _ => none
  | .func f => some (.c (.fn (.func f) []))
theorem cO_ok {o : Operand} {i : Opd} (h : cO o = some i) (T : Tr AV) : iev T i = aev T o := by
  cases o with
  | tmp t => simp only [cO] at h; cases h; simp [iev, aev, Tr.getP_eq]
  | const v =>
    simp only [cO] at h
    split at h
    · rename_i x hx; cases h; simp [iev, aev, hx]
    · cases h
  | global g => cases h
  | func f => simp only [cO] at h; cases h; rfl
def ievs (T : Tr AV) : List Opd → Option (List AV)
  | [] => some []
  | i :: is => match iev T i with
    | none => none
    | some x => match ievs T is with
      | none => none
      | some xs => some (x :: xs)
def cOs : List Operand → Option (List Opd)
  | [] => some []
  | o :: os => match cO o, cOs os with
    | some x, some xs => some (x :: xs)
    | _, _ => none
theorem cOs_ok : ∀ {os : List Operand} {is : List Opd}, cOs os = some is → ∀ (T : Tr AV), ievs T is = aevs T os
  | [], is, h, T => by simp only [cOs] at h; cases h; rfl
  | o :: os, is, h, T => by
    simp only [cOs] at h
    split at h
    · rename_i x xs h1 h2
      cases h
      simp only [ievs, aevs, cO_ok h1 T, cOs_ok h2 T]
      cases aev T o <;> cases aevs T os <;> rfl
    · cases h
/-- An operation, looked up. -/
inductive IOp where
  | ev (x : Opd)
  | pick (c a b : Opd)
  | new (x : Opd)
  | build (zs : List AV) (parts : List (Nat × Nat × Opd))
  | bslice (z n : Nat) (zs : List AV) (parts : List (Nat × Nat × Opd))
  | mkif (t : TypeId) (x : Opd)
  | empty
  | mksl (z by_ : Nat) (zs : List AV) (l c : Opd)
  | load (n : Option Nat) (x : Opd)
  | store (n : Nat) (x y : Opd)
  | nilck (x : Opd)
  | bin (op : BinOp) (t : TypeId) (d : Option TypeDesc) (nc : Bool) (x y : Opd)
  | un (op : UnOp) (x : Opd)
  | conv (k : IntKind) (x : Opd)
  | convs (x : Opd)
  | s2b (x : Opd)
  | b2s (x : Opd)
  | i2s (x : Opd)
  | fn (f : Fn) (cap : List Opd)
  | slice (z : Option Nat) (x : Opd) (lo hi mx : Option Opd)
  | faddr (off : Nat) (x : Opd)
  | field (off : Nat) (n : Option Nat) (x : Opd)
  | iaddr (z : Nat) (x i : Opd)
  | iaddrA (n z : Nat) (x i : Opd)
  | index (x i : Opd)
  | ext (x : Opd) (i : Nat)
  | len (isS : Bool) (x : Opd)
  | app (z by_ : Nat) (s x : Opd)
  | mm (mx : Bool) (l : List Opd)
  | capn (x : Opd)
  | appz (z by_ : Nat) (zs : List AV) (s x : Opd)
def ifill (cells : List AV) : List (Nat × Nat × AV) → Option (List AV)
  | [] => some cells
  | (off, size, v) :: rest => if v.cells.length = size ∧ off + v.cells.length ≤ cells.length ∧ v.fit = true then ifill (cells.take off ++ v.cells ++ cells.drop (off + v.cells.length)) rest else none
def iparts (T : Tr AV) : List (Nat × Nat × Opd) → Option (List (Nat × Nat × AV))
  | [] => some []
  | (a, b, i) :: is => match iev T i with
    | none => none
    | some x => match iparts T is with
      | none => none
      | some xs => some ((a, b, x) :: xs)
def iload (n : Option Nat) (H : AH) (x : AV) : Option AV :=
  match n with
  | some n => match cellsAt H x n with
    | some cs => some (.agg cs)
    | none => none
  | none => match cellsAt H x 1 with
    | some (c :: _) => some c
    | _ => none
def istore (n : Nat) (H : AH) (x v : AV) : Option AH :=
  match x with
  | .ptr g e i =>
    match H.gs.get g with
    | some r => if r.e = e ∧ r.fz ≤ i ∧ v.cells.length = n ∧ i + v.cells.length ≤ r.cells.length ∧ v.fit = true then
        some ⟨H.next, H.gs.set g ⟨r.e, r.fz, r.cells.take i ++ v.cells ++ r.cells.drop (i + v.cells.length)⟩, H.ms⟩ else none
    | none => none
  | _ => none
def ibin0 (op : BinOp) (t : TypeId) (d : Option TypeDesc) (x y : AV) : Option AV :=
  match x, y with
  | .str a, .str b => astr op a b
  | .int k a, .int k' b => (pureOf (binOp op t (.int k a) (.int k' b))).bind AV.ofV0
  | .bool a, .bool b =>
    match op, d with
    | .eql, some .bool => some (.bool (a == b))
    | .neq, some .bool => some (.bool !(a == b))
    | _, _ => none
  | x, y =>
    match op with
    | .eql => (aeq d x y).map .bool
    | .neq => (aeq d x y).map fun b => .bool !b
    | _ => none
def ibin (op : BinOp) (t : TypeId) (d : Option TypeDesc) (nc : Bool) (x y : AV) : Option AV :=
  match x, y with
  | .nili, .nili => bif nc then anilc op d else none
  | x, y => ibin0 op t d x y
def islice (z : Option Nat) (x : AV) (lo hi mx : Option AV) : Option AV :=
  match z, x, mx with
  | none, .str s, none =>
    match natOf hi s.length, natOf lo 0 with
    | some h, some l => if l ≤ h ∧ h ≤ s.length then some (.str ((s.drop l).take (h - l))) else none
    | _, _ => none
  | some e, .slc g a i len z, none =>
    match natOf hi len, natOf lo 0 with
    | some h, some l => if l ≤ h ∧ h ≤ len ∧ z = e ∧ z ≠ 0 then (if l = 0 ∨ l < h then some (.slc g a (i + l * z) (h - l) z) else some (.vals z [])) else none
    | _, _ => none
  | some e, .vals z rows, none =>
    match natOf hi rows.length, natOf lo 0 with
    | some h, some l => if l ≤ h ∧ h ≤ rows.length ∧ z = e ∧ z ≠ 0 then some (.vals z ((rows.drop l).take (h - l))) else none
    | _, _ => none
  | some e, .nils, none =>
    match natOf hi 0, natOf lo 0 with
    | some 0, some 0 => if e ≠ 0 then some .nils else none
    | _, _ => none
  | some e, .slc g a i len z, some m =>
    match natOf (some m) 0, natOf hi 1, natOf lo 0 with
    | some 0, some 0, some 0 => if e ≠ 0 then some .zslc else none
    | _, _, _ => none
  | some e, .vals z rows, some m =>
    match natOf (some m) 0, natOf hi 1, natOf lo 0 with
    | some 0, some 0, some 0 => if e ≠ 0 then some .zslc else none
    | _, _, _ => none
  | some e, .nils, some m =>
    match natOf (some m) 0, natOf hi 1, natOf lo 0 with
    | some 0, some 0, some 0 => if e ≠ 0 then some .zslc else none
    | _, _, _ => none
  | _, _, _ => none
def ievo (T : Tr AV) : Option Opd → Option (Option AV)
  | none => some none
  | some o => match iev T o with
    | some x => some (some x)
    | none => none
def iapp (z by_ : Nat) (s x : AV) (H : AH) : Option (AV × AH) :=
  match listCells H z x with
  | some (m, xs) =>
    if m = 0 then (if anySlice s = true then some (s, H) else none) else
    match s with
    | .slc g a i len z' =>
      match H.gs.get g with
      | some r =>
        if r.e = a ∧ z' = z ∧ r.fz ≤ i + len * z' ∧ i + len * z' ≤ r.cells.length ∧ (len + m) * by_ ≤ 140737488355328 ∧ len + m ≤ 9223372036854775807 then
          some (.slc g (a + 1) 0 (len + m) z', ⟨H.next, H.gs.set g ⟨a + 1, r.fz - i, (r.cells.drop i).take (len * z') ++ xs⟩, H.ms⟩)
        else none
      | none => none
    | .nils => if m * by_ ≤ 140737488355328 ∧ m ≤ 9223372036854775807 ∧ H.free = true then some (.slc H.next 0 0 m z, H.add xs) else none
    | .zslc => if m * by_ ≤ 140737488355328 ∧ m ≤ 9223372036854775807 ∧ H.free = true then some (.slc H.next 0 0 m z, H.add xs) else none
    | _ => none
  | none => none
/-- Carried out. -/
def iop (T : Tr AV) (op : IOp) (H : AH) : Option (AV × AH) :=
  match op with
  | .ev x => match iev T x with | some x => some (x, H) | none => none
  | .pick c a b => match iev T c with
    | some (.bool true) => match iev T a with | some x => some (x, H) | none => none
    | some (.bool false) => match iev T b with | some x => some (x, H) | none => none
    | _ => none
  | .new x => match iev T x with | some x => abox H x | none => none
  | .build zs parts => match iparts T parts with
    | some ps => match ifill zs ps with | some cs => some (.agg cs, H) | none => none
    | none => none
  | .bslice z n zs parts => match iparts T parts with
    | some ps => match ifill zs ps with | some cs => bif H.free then some (.slc H.next 0 0 n z, H.add cs) else none | none => none
    | none => none
  | .mkif t x => match iev T x with | some x => some (.iface t x, H) | none => none
  | .empty => some (.zslc, H)
  | .mksl z by_ zs l c => match iev T l with
    | some (.int _ l) => match iev T c with
      | some (.int _ c) => if 0 ≤ l ∧ l ≤ c ∧ c.toNat * z ≤ 16777216 ∧ by_ * c ≤ 281474976710656 ∧ c ≤ 9223372036854775807 ∧ H.free = true then some (.slc H.next 0 0 l.toNat z, H.add ((List.replicate l.toNat zs).flatten)) else none
      | _ => none
    | _ => none
  | .load n x => match iev T x with
    | some x => match iload n H x with | some y => some (y, H) | none => none
    | none => none
  | .store n x y => match iev T x with
    | some x => match iev T y with
      | some y => match istore n H x y with | some H' => some (.und, H') | none => none
      | none => none
    | none => none
  | .nilck x => match iev T x with
    | some (.ptr g e i) => some (.ptr g e i, H)
    | some (.vptr r i) => some (.vptr r i, H)
    | some (.fn (.func f) cap) => some (.fn (.func f) cap, H)
    | _ => none
  | .bin op t d nc x y => match iev T x with
    | some x => match iev T y with
      | some y => match ibin op t d nc x y with | some z => some (z, H) | none => none
      | none => none
    | none => none
  | .un op x => match iev T x with
    | some x => match aun op x with | some z => some (z, H) | none => none
    | none => none
  | .conv k x => match iev T x with
    | some (.int _ n) => some (.int k (k.wrap n), H)
    | _ => none
  | .convs x => match iev T x with
    | some (.str s) => some (.str s, H)
    | _ => none
  | .s2b x => match iev T x with
    | some (.str s) => some (.vals 1 (byteRows s), H)
    | _ => none
  | .b2s x => match iev T x with
    | some x => match listCells H 1 x with
      | some (_, xs) => match bytesA xs with
        | some l => some (.str l, H)
        | none => none
      | none => none
    | none => none
  | .i2s x => match iev T x with
    | some (.int _ n) => some (.str (Utf8.encode n).data.toList, H)
    | _ => none
  | .fn f cap => match ievs T cap with | some cs => some (.fn f cs, H) | none => none
  | .slice z x lo hi mx => match iev T x with
    | some x => match ievo T lo with
      | some lo => match ievo T hi with
        | some hi => match ievo T mx with
          | some mx => match islice z x lo hi mx with | some y => some (y, H) | none => none
          | none => none
        | none => none
      | none => none
    | none => none
  | .faddr off x => match iev T x with
    | some (.ptr g e i) => some (.ptr g e (i + off), H)
    | some (.vptr row i) => some (.vptr row (i + off), H)
    | _ => none
  | .field off n x => match iev T x with
    | some (.agg cs) => match n with
      | some n => some (.agg ((cs.drop off).take n), H)
      | none => match cs[off]? with | some y => some (y, H) | none => none
    | _ => none
  | .iaddr z x i => match iev T x with
    | some (.slc g a s len z') => match iev T i with
      | some (.int _ i) => if 0 ≤ i ∧ i < len ∧ z' = z then some (.ptr g a (s + i.toNat * z), H) else none
      | _ => none
    | some (.vals z' rows) => match iev T i with
      | some (.int _ i) => if 0 ≤ i ∧ z' = z then (match rows[i.toNat]? with | some r => some (.vptr r 0, H) | none => none) else none
      | _ => none
    | _ => none
  | .iaddrA n z x i => match iev T x with
    | some (.ptr g a s) => match iev T i with
      | some (.int _ i) => if 0 ≤ i ∧ i < n then some (.ptr g a (s + i.toNat * z), H) else none
      | _ => none
    | some (.vptr row s) => match iev T i with
      | some (.int _ i) => if 0 ≤ i ∧ i < n then some (.vptr row (s + i.toNat * z), H) else none
      | _ => none
    | _ => none
  | .index x i => match iev T x with
    | some (.str s) => match iev T i with
      | some (.int _ i) => if 0 ≤ i then (match s[i.toNat]? with | some c => some (.int .u8 c.toNat, H) | none => none) else none
      | _ => none
    | _ => none
  | .ext x i => match iev T x with
    | some (.tup vs) => match vs[i]? with | some y => some (y, H) | none => none
    | _ => none
  | .len isS x => match iev T x with
    | some (.str s) => bif isS then some (.int .i64 s.length, H) else none
    | some (.slc _ _ _ len _) => bif isS then none else some (.int .i64 len, H)
    | some (.vals _ rows) => bif isS then none else some (.int .i64 rows.length, H)
    | some .nils => bif isS then none else some (.int .i64 0, H)
    | some .zslc => bif isS then none else some (.int .i64 0, H)
    | _ => none
  | .app z b s x => match iev T s with
    | some s => match iev T x with
      | some x => iapp z b s x H
      | none => none
    | none => none
  | .mm mx l => match ievs T l with
    | some vs => match amm mx vs with | some y => some (y, H) | none => none
    | none => none
  | .capn x => match iev T x with
    | some .nils => some (.int .i64 0, H)
    | _ => none
  | .appz z by_ zs s x => match iev T s with
    | some .nils => match iev T x with
      | some (.int _ n) => if 0 < n ∧ n ≤ 9223372036854775807 ∧ n.toNat * by_ ≤ 281474976710656 ∧ H.free = true then some (.slc H.next 0 0 n.toNat z, H.add ((List.replicate n.toNat zs).flatten)) else none
      | _ => none
    | _ => none
def cParts (l : List (Nat × Nat × Bool)) : List (Nat × Operand) → Option (List (Nat × Nat × Opd))
  | [] => some []
  | (i, o) :: os => match l[i]?, cO o, cParts l os with
    | some (off, size, _), some x, some xs => some ((off, size, x) :: xs)
    | _, _, _ => none
def cPartsZ (z : Nat) : List (Nat × Operand) → Option (List (Nat × Nat × Opd))
  | [] => some []
  | (i, o) :: os => match cO o, cPartsZ z os with
    | some x, some xs => some ((i * z, z, x) :: xs)
    | _, _ => none
def cOo : Option Operand → Option (Option Opd)
  | none => some none
  | some o => match cO o with
    | some x => some (some x)
    | none => none
/-- Looked up. -/
def cOp (P : Program) (op : Op) : Option IOp :=
  match op with
  | .move x => match cO x with | some x => some (.ev x) | none => none
  | .assign x => match cO x with | some x => some (.ev x) | none => none
  | .pick c a b => match cO c, cO a, cO b with
    | some c, some a, some b => some (.pick c a b)
    | _, _, _ => none
  | .alloc e => match zeroA P e with | some z => some (.new (.c z)) | none => none
  | .box _ x => match cO x with | some x => some (.new x) | none => none
  | .build t parts => match structA P t, zeroA P t with
    | some l, some (.agg zs) => if zs.all AV.one = true then (match cParts l parts.toList with | some ps => some (.build zs ps) | none => none) else none
    | _, _ => none
  | .makeInterface t x => match P.underlying t, cO x with
    | some (.interface _), _ => none
    | some _, some x => some (.mkif t x)
    | _, _ => none
  | .makeSlice t l c => match P.underlying t, cO l, cO c with
    | some (.slice e), some l, some c => match zeroA P e with
      | some zv => if zv.fit = true ∧ zv.cells.length = P.cellsOf e ∧ P.cellsOf e ≠ 0 then some (.mksl (P.cellsOf e) (P.bytesOf e) zv.cells l c) else none
      | none => none
    | _, _, _ => none
  | .buildSlice t len parts => match P.underlying t with
    | some (.slice e) => bif Nat.beq len 0 then (match parts.toList, P.info? e with
        | [], some _ => some .empty
        | _, _ => none) else (match zeroA P e with
      | some zv => if zv.fit = true ∧ zv.cells.length = P.cellsOf e ∧ len * P.cellsOf e ≤ 16777216 ∧ len * P.cellsOf e ≠ 0 then
          (match cPartsZ (P.cellsOf e) parts.toList with | some ps => some (.bslice (P.cellsOf e) len ((List.replicate len zv.cells).flatten) ps) | none => none) else none
      | none => none)
    | _ => none
  | .load t x => match P.underlying t, cO x with
    | some d, some x => some (.load (if isAggD d then some (P.cellsOf t) else none) x)
    | _, _ => none
  | .store t x y => match cO x, cO y with
    | some x, some y => if P.cellsOf t ≠ 0 then some (.store (P.cellsOf t) x y) else none
    | _, _ => none
  | .nilCheck x => match cO x with | some x => some (.nilck x) | none => none
  | .binOp op t x y _ => match cO x, cO y with
    | some x', some y' => some (.bin op t (P.underlying t) (isC x || isC y) x' y')
    | _, _ => none
  | .unOp op _ x => match cO x with | some x => some (.un op x) | none => none
  | .convert s d x => match P.underlying s, P.underlying d, cO x with
    | some _, some (.int k), some x => some (.conv k x)
    | some .string, some .string, some x => some (.convs x)
    | some .string, some (.slice e), some x => match P.underlying e with
      | some (.int .u8) => some (.s2b x)
      | _ => none
    | some (.slice e), some .string, some x => match P.underlying e with
      | some (.int .u8) => some (.b2s x)
      | _ => none
    | some (.int _), some .string, some x => some (.i2s x)
    | _, _, _ => none
  | .makeFunc fn first cap => if first.isEmpty then (match cOs cap.toList with | some cs => some (.fn fn cs) | none => none) else none
  | .slice t x lo hi mx => match cO x, cOo lo, cOo hi, cOo mx with
    | some x, some lo, some hi, some mx => match P.underlying t with
      | some .string => some (.slice none x lo hi mx)
      | some (.slice e) => some (.slice (some (P.cellsOf e)) x lo hi mx)
      | _ => none
    | _, _, _, _ => none
  | .fieldAddr t x f => match structA P t, cO x with
    | some l, some x => match l[f]? with
      | some (off, size, _) => if size = 0 then none else some (.faddr off x)
      | none => none
    | _, _ => none
  | .field t x f => match structA P t, cO x with
    | some l, some x => match l[f]? with
      | some (off, size, true) => some (.field off (some size) x)
      | some (off, _, false) => some (.field off none x)
      | none => none
    | _, _ => none
  | .indexAddr t x i => match cO x, cO i with
    | some x, some i => match P.underlying t with
      | some (.slice e) => if P.cellsOf e = 0 then none else some (.iaddr (P.cellsOf e) x i)
      | some (.array n e) => if P.cellsOf e = 0 then none else some (.iaddrA n (P.cellsOf e) x i)
      | _ => none
    | _, _ => none
  | .index t x i => match cO x, cO i, P.underlying t with
    | some x, some i, some .string => some (.index x i)
    | _, _, _ => none
  | .extract x i => match cO x with | some x => some (.ext x i) | none => none
  | .call c => match c.callee with
    | .builtin b => match cOs c.args.toList with
      | some vs => match b, vs, c.argTypes.toList with
        | .len, [p], [t] => match P.underlying t with
          | some .string => some (.len true p)
          | some (.slice _) => some (.len false p)
          | _ => none
        | .append, [p, q], [t, u] => if u = t then (match P.underlying t with
            | some (.slice e) => match zeroA P e with
              | some zv => if zv.fit = true ∧ zv.cells.length = P.cellsOf e ∧ P.cellsOf e ≠ 0 then some (.app (P.cellsOf e) (P.bytesOf e) p q) else none
              | none => none
            | _ => none) else (match P.underlying t, P.underlying u with
            | some (.slice e), some (.int _) => match zeroA P e with
              | some zv => if zv.fit = true ∧ zv.cells.length = P.cellsOf e ∧ P.cellsOf e ≠ 0 then some (.appz (P.cellsOf e) (P.bytesOf e) zv.cells p q) else none
              | none => none
            | _, _ => none)
        | .cap, [p], [t] => match P.underlying t with
          | some (.slice _) => some (.capn p)
          | _ => none
        | .min, vs, _ => some (.mm false vs)
        | .max, vs, _ => some (.mm true vs)
        | _, _, _ => none
      | none => none
    | _ => none
  | _ => none
end Go.Abs
