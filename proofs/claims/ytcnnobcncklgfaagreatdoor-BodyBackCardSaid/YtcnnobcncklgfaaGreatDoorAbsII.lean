/- Operations that are looked up: what they are, what they do.   What is looked up does as is told.   Code that is looked up, carried out. -/
import Derived.Test.YtcnnobcncklgfaaGreatDoorAbsI
import Derived.Scope
namespace Go.Abs
open Go Go.RowKit
set_option linter.unusedVariables false
/-- An operand: a slot, or a value. -/
inductive Opd where
  | t (p : Pth)
  | c (x : AV)
def iev (T : Tr AV) : Opd → Option AV
  | .t p => T.getP p
  | .c x => some x
def cO : Operand → Option Opd
  | .tmp t => some (.t (Tr.path t))
  | .const v => match AV.ofV v with | some x => some (.c x) | none => none
  | .global _ => none
  | .func f => some (.c (.fn (.func f) []))
theorem cO_ok {o : Operand} {i : Opd} (h : cO o = some i) (T : Tr AV) : iev T i = aev T o := by
  cases o with
  | tmp t => simp only [cO] at h; cases h; simp [iev, aev, Tr.getP_eq]
  | const v =>
    simp only [cO] at h
    split at h
    · rename_i x hx; cases h; simp [iev, aev, hx]
    · cases h
  | global g => cases h
  | func f => simp only [cO] at h; cases h; rfl
def ievs (T : Tr AV) : List Opd → Option (List AV)
  | [] => some []
  | i :: is => match iev T i with
    | none => none
    | some x => match ievs T is with
      | none => none
      | some xs => some (x :: xs)
def cOs : List Operand → Option (List Opd)
  | [] => some []
  | o :: os => match cO o, cOs os with
    | some x, some xs => some (x :: xs)
    | _, _ => none
theorem cOs_ok : ∀ {os : List Operand} {is : List Opd}, cOs os = some is → ∀ (T : Tr AV), ievs T is = aevs T os
  | [], is, h, T => by simp only [cOs] at h; cases h; rfl
  | o :: os, is, h, T => by
    simp only [cOs] at h
    split at h
    · rename_i x xs h1 h2
      cases h
      simp only [ievs, aevs, cO_ok h1 T, cOs_ok h2 T]
      cases aev T o <;> cases aevs T os <;> rfl
    · cases h
/-- An operation, looked up. -/
inductive IOp where
  | ev (x : Opd)
  | pick (c a b : Opd)
  | new (x : Opd)
  | build (zs : List AV) (parts : List (Nat × Nat × Opd))
  | bslice (z n : Nat) (zs : List AV) (parts : List (Nat × Nat × Opd))
  | mkif (t : TypeId) (x : Opd)
  | empty
  | mksl (z by_ : Nat) (zs : List AV) (l c : Opd)
  | load (n : Option Nat) (x : Opd)
  | store (n : Nat) (x y : Opd)
  | nilck (x : Opd)
  | bin (op : BinOp) (t : TypeId) (d : Option TypeDesc) (nc : Bool) (x y : Opd)
  | un (op : UnOp) (x : Opd)
  | conv (k : IntKind) (x : Opd)
  | convs (x : Opd)
  | s2b (x : Opd)
  | b2s (x : Opd)
  | i2s (x : Opd)
  | fn (f : Fn) (cap : List Opd)
  | slice (z : Option Nat) (x : Opd) (lo hi mx : Option Opd)
  | faddr (off : Nat) (x : Opd)
  | field (off : Nat) (n : Option Nat) (x : Opd)
  | iaddr (z : Nat) (x i : Opd)
  | iaddrA (n z : Nat) (x i : Opd)
  | index (x i : Opd)
  | ext (x : Opd) (i : Nat)
  | len (isS : Bool) (x : Opd)
  | app (z by_ : Nat) (s x : Opd)
  | mm (mx : Bool) (l : List Opd)
  | capn (x : Opd)
  | appz (z by_ : Nat) (zs : List AV) (s x : Opd)
  | mop (m : MOp) (l : List Opd)
def ifill (cells : List AV) : List (Nat × Nat × AV) → Option (List AV)
  | [] => some cells
  | (off, size, v) :: rest => if v.cells.length = size ∧ off + v.cells.length ≤ cells.length ∧ v.fit = true then ifill (cells.take off ++ v.cells ++ cells.drop (off + v.cells.length)) rest else none
def iparts (T : Tr AV) : List (Nat × Nat × Opd) → Option (List (Nat × Nat × AV))
  | [] => some []
  | (a, b, i) :: is => match iev T i with
    | none => none
    | some x => match iparts T is with
      | none => none
      | some xs => some ((a, b, x) :: xs)
def iload (n : Option Nat) (H : AH) (x : AV) : Option AV :=
  match n with
  | some n => match cellsAt H x n with
    | some cs => some (.agg cs)
    | none => none
  | none => match cellsAt H x 1 with
    | some (c :: _) => some c
    | _ => none
def istore (n : Nat) (H : AH) (x v : AV) : Option AH :=
  match x with
  | .ptr g e i =>
    match H.gs.get g with
    | some r => if r.e = e ∧ r.fz ≤ i ∧ v.cells.length = n ∧ i + v.cells.length ≤ r.cells.length ∧ v.fit = true then
        some ⟨H.next, H.gs.set g ⟨r.e, r.fz, r.cells.take i ++ v.cells ++ r.cells.drop (i + v.cells.length)⟩, H.ms⟩ else none
    | none => none
  | _ => none
def ibin0 (op : BinOp) (t : TypeId) (d : Option TypeDesc) (x y : AV) : Option AV :=
  match x, y with
  | .str a, .str b => astr op a b
  | .int k a, .int k' b => (pureOf (binOp op t (.int k a) (.int k' b))).bind AV.ofV0
  | .bool a, .bool b =>
    match op, d with
    | .eql, some .bool => some (.bool (a == b))
    | .neq, some .bool => some (.bool !(a == b))
    | _, _ => none
  | x, y =>
    match op with
    | .eql => (aeq d x y).map .bool
    | .neq => (aeq d x y).map fun b => .bool !b
    | _ => none
def ibin (op : BinOp) (t : TypeId) (d : Option TypeDesc) (nc : Bool) (x y : AV) : Option AV :=
  match x, y with
  | .nili, .nili => bif nc then anilc op d else none
  | x, y => ibin0 op t d x y
def islice (z : Option Nat) (x : AV) (lo hi mx : Option AV) : Option AV :=
  match z, x, mx with
  | none, .str s, none =>
    match natOf hi s.length, natOf lo 0 with
    | some h, some l => if l ≤ h ∧ h ≤ s.length then some (.str ((s.drop l).take (h - l))) else none
    | _, _ => none
  | some e, .slc g a i len z, none =>
    match natOf hi len, natOf lo 0 with
    | some h, some l => if l ≤ h ∧ h ≤ len ∧ z = e ∧ z ≠ 0 then (if l = 0 ∨ l < h then some (.slc g a (i + l * z) (h - l) z) else some (.vals z [])) else none
    | _, _ => none
  | some e, .vals z rows, none =>
    match natOf hi rows.length, natOf lo 0 with
    | some h, some l => if l ≤ h ∧ h ≤ rows.length ∧ z = e ∧ z ≠ 0 then some (.vals z ((rows.drop l).take (h - l))) else none
    | _, _ => none
  | some e, .nils, none =>
    match natOf hi 0, natOf lo 0 with
    | some 0, some 0 => if e ≠ 0 then some .nils else none
    | _, _ => none
  | some e, .slc g a i len z, some m =>
    match natOf (some m) 0, natOf hi 1, natOf lo 0 with
    | some 0, some 0, some 0 => if e ≠ 0 then some .zslc else none
    | _, _, _ => none
  | some e, .vals z rows, some m =>
    match natOf (some m) 0, natOf hi 1, natOf lo 0 with
    | some 0, some 0, some 0 => if e ≠ 0 then some .zslc else none
    | _, _, _ => none
  | some e, .nils, some m =>
    match natOf (some m) 0, natOf hi 1, natOf lo 0 with
    | some 0, some 0, some 0 => if e ≠ 0 then some .zslc else none
    | _, _, _ => none
  | _, _, _ => none
def ievo (T : Tr AV) : Option Opd → Option (Option AV)
  | none => some none
  | some o => match iev T o with
    | some x => some (some x)
    | none => none
def iapp (z by_ : Nat) (s x : AV) (H : AH) : Option (AV × AH) :=
  match listCells H z x with
  | some (m, xs) =>
    if m = 0 then (if anySlice s = true then some (s, H) else none) else
    match s with
    | .slc g a i len z' =>
      match H.gs.get g with
      | some r =>
        if r.e = a ∧ z' = z ∧ r.fz ≤ i + len * z' ∧ i + len * z' ≤ r.cells.length ∧ (len + m) * by_ ≤ 140737488355328 ∧ len + m ≤ 9223372036854775807 then
          some (.slc g (a + 1) 0 (len + m) z', ⟨H.next, H.gs.set g ⟨a + 1, r.fz - i, (r.cells.drop i).take (len * z') ++ xs⟩, H.ms⟩)
        else none
      | none => none
    | .nils => if m * by_ ≤ 140737488355328 ∧ m ≤ 9223372036854775807 ∧ H.free = true then some (.slc H.next 0 0 m z, H.add xs) else none
    | .zslc => if m * by_ ≤ 140737488355328 ∧ m ≤ 9223372036854775807 ∧ H.free = true then some (.slc H.next 0 0 m z, H.add xs) else none
    | _ => none
  | none => none
/-- Carried out. -/
def iop (T : Tr AV) (op : IOp) (H : AH) : Option (AV × AH) :=
  match op with
  | .ev x => match iev T x with | some x => some (x, H) | none => none
  | .pick c a b => match iev T c with
    | some (.bool true) => match iev T a with | some x => some (x, H) | none => none
    | some (.bool false) => match iev T b with | some x => some (x, H) | none => none
    | _ => none
  | .new x => match iev T x with | some x => abox H x | none => none
  | .build zs parts => match iparts T parts with
    | some ps => match ifill zs ps with | some cs => some (.agg cs, H) | none => none
    | none => none
  | .bslice z n zs parts => match iparts T parts with
    | some ps => match ifill zs ps with | some cs => bif H.free then some (.slc H.next 0 0 n z, H.add cs) else none | none => none
    | none => none
  | .mkif t x => match iev T x with | some x => some (.iface t x, H) | none => none
  | .empty => some (.zslc, H)
  | .mksl z by_ zs l c => match iev T l with
    | some (.int _ l) => match iev T c with
      | some (.int _ c) => if 0 ≤ l ∧ l ≤ c ∧ c.toNat * z ≤ 16777216 ∧ by_ * c ≤ 281474976710656 ∧ c ≤ 9223372036854775807 ∧ H.free = true then some (.slc H.next 0 0 l.toNat z, H.add ((List.replicate l.toNat zs).flatten)) else none
      | _ => none
    | _ => none
  | .load n x => match iev T x with
    | some x => match iload n H x with | some y => some (y, H) | none => none
    | none => none
  | .store n x y => match iev T x with
    | some x => match iev T y with
      | some y => match istore n H x y with | some H' => some (.und, H') | none => none
      | none => none
    | none => none
  | .nilck x => match iev T x with
    | some (.ptr g e i) => some (.ptr g e i, H)
    | some (.vptr r i) => some (.vptr r i, H)
    | some (.fn (.func f) cap) => some (.fn (.func f) cap, H)
    | _ => none
  | .bin op t d nc x y => match iev T x with
    | some x => match iev T y with
      | some y => match ibin op t d nc x y with | some z => some (z, H) | none => none
      | none => none
    | none => none
  | .un op x => match iev T x with
    | some x => match aun op x with | some z => some (z, H) | none => none
    | none => none
  | .conv k x => match iev T x with
    | some (.int _ n) => some (.int k (k.wrap n), H)
    | _ => none
  | .convs x => match iev T x with
    | some (.str s) => some (.str s, H)
    | _ => none
  | .s2b x => match iev T x with
    | some (.str s) => some (.vals 1 (byteRows s), H)
    | _ => none
  | .b2s x => match iev T x with
    | some x => match listCells H 1 x with
      | some (_, xs) => match bytesA xs with
        | some l => some (.str l, H)
        | none => none
      | none => none
    | none => none
  | .i2s x => match iev T x with
    | some (.int _ n) => some (.str (Utf8.encode n).data.toList, H)
    | _ => none
  | .fn f cap => match ievs T cap with | some cs => some (.fn f cs, H) | none => none
  | .slice z x lo hi mx => match iev T x with
    | some x => match ievo T lo with
      | some lo => match ievo T hi with
        | some hi => match ievo T mx with
          | some mx => match islice z x lo hi mx with | some y => some (y, H) | none => none
          | none => none
        | none => none
      | none => none
    | none => none
  | .faddr off x => match iev T x with
    | some (.ptr g e i) => some (.ptr g e (i + off), H)
    | some (.vptr row i) => some (.vptr row (i + off), H)
    | _ => none
  | .field off n x => match iev T x with
    | some (.agg cs) => match n with
      | some n => some (.agg ((cs.drop off).take n), H)
      | none => match cs[off]? with | some y => some (y, H) | none => none
    | _ => none
  | .iaddr z x i => match iev T x with
    | some (.slc g a s len z') => match iev T i with
      | some (.int _ i) => if 0 ≤ i ∧ i < len ∧ z' = z then some (.ptr g a (s + i.toNat * z), H) else none
      | _ => none
    | some (.vals z' rows) => match iev T i with
      | some (.int _ i) => if 0 ≤ i ∧ z' = z then (match rows[i.toNat]? with | some r => some (.vptr r 0, H) | none => none) else none
      | _ => none
    | _ => none
  | .iaddrA n z x i => match iev T x with
    | some (.ptr g a s) => match iev T i with
      | some (.int _ i) => if 0 ≤ i ∧ i < n then some (.ptr g a (s + i.toNat * z), H) else none
      | _ => none
    | some (.vptr row s) => match iev T i with
      | some (.int _ i) => if 0 ≤ i ∧ i < n then some (.vptr row (s + i.toNat * z), H) else none
      | _ => none
    | _ => none
  | .index x i => match iev T x with
    | some (.str s) => match iev T i with
      | some (.int _ i) => if 0 ≤ i then (match s[i.toNat]? with | some c => some (.int .u8 c.toNat, H) | none => none) else none
      | _ => none
    | _ => none
  | .ext x i => match iev T x with
    | some (.tup vs) => match vs[i]? with | some y => some (y, H) | none => none
    | _ => none
  | .len isS x => match iev T x with
    | some (.str s) => bif isS then some (.int .i64 s.length, H) else none
    | some (.slc _ _ _ len _) => bif isS then none else some (.int .i64 len, H)
    | some (.vals _ rows) => bif isS then none else some (.int .i64 rows.length, H)
    | some .nils => bif isS then none else some (.int .i64 0, H)
    | some .zslc => bif isS then none else some (.int .i64 0, H)
    | _ => none
  | .app z b s x => match iev T s with
    | some s => match iev T x with
      | some x => iapp z b s x H
      | none => none
    | none => none
  | .mm mx l => match ievs T l with
    | some vs => match amm mx vs with | some y => some (y, H) | none => none
    | none => none
  | .capn x => match iev T x with
    | some .nils => some (.int .i64 0, H)
    | _ => none
  | .appz z by_ zs s x => match iev T s with
    | some .nils => match iev T x with
      | some (.int _ n) => if 0 < n ∧ n ≤ 9223372036854775807 ∧ n.toNat * by_ ≤ 281474976710656 ∧ H.free = true then some (.slc H.next 0 0 n.toNat z, H.add ((List.replicate n.toNat zs).flatten)) else none
      | _ => none
    | _ => none
  | .mop m l => match ievs T l with
    | some xs => mop m xs H
    | none => none
def cParts (l : List (Nat × Nat × Bool)) : List (Nat × Operand) → Option (List (Nat × Nat × Opd))
  | [] => some []
  | (i, o) :: os => match l[i]?, cO o, cParts l os with
    | some (off, size, _), some x, some xs => some ((off, size, x) :: xs)
    | _, _, _ => none
def cPartsZ (z : Nat) : List (Nat × Operand) → Option (List (Nat × Nat × Opd))
  | [] => some []
  | (i, o) :: os => match cO o, cPartsZ z os with
    | some x, some xs => some ((i * z, z, x) :: xs)
    | _, _ => none
def cOo : Option Operand → Option (Option Opd)
  | none => some none
  | some o => match cO o with
    | some x => some (some x)
    | none => none
/-- Looked up. -/
def cOp (P : Program) (op : Op) : Option IOp :=
  match op with
  | .move x => match cO x with | some x => some (.ev x) | none => none
  | .assign x => match cO x with | some x => some (.ev x) | none => none
  | .pick c a b => match cO c, cO a, cO b with
    | some c, some a, some b => some (.pick c a b)
    | _, _, _ => none
  | .alloc e => match zeroA P e with | some z => some (.new (.c z)) | none => none
  | .box _ x => match cO x with | some x => some (.new x) | none => none
  | .build t parts => match structA P t, zeroA P t with
    | some l, some (.agg zs) => if zs.all AV.one = true then (match cParts l parts.toList with | some ps => some (.build zs ps) | none => none) else none
    | _, _ => none
  | .makeInterface t x => match P.underlying t, cO x with
    | some (.interface _), _ => none
    | some _, some x => some (.mkif t x)
    | _, _ => none
  | .makeSlice t l c => match P.underlying t, cO l, cO c with
    | some (.slice e), some l, some c => match zeroA P e with
      | some zv => if zv.fit = true ∧ zv.cells.length = P.cellsOf e ∧ P.cellsOf e ≠ 0 then some (.mksl (P.cellsOf e) (P.bytesOf e) zv.cells l c) else none
      | none => none
    | _, _, _ => none
  | .buildSlice t len parts => match P.underlying t with
    | some (.slice e) => bif Nat.beq len 0 then (match parts.toList, P.info? e with
        | [], some _ => some .empty
        | _, _ => none) else (match zeroA P e with
      | some zv => if zv.fit = true ∧ zv.cells.length = P.cellsOf e ∧ len * P.cellsOf e ≤ 16777216 ∧ len * P.cellsOf e ≠ 0 then
          (match cPartsZ (P.cellsOf e) parts.toList with | some ps => some (.bslice (P.cellsOf e) len ((List.replicate len zv.cells).flatten) ps) | none => none) else none
      | none => none)
    | _ => none
  | .load t x => match P.underlying t, cO x with
    | some d, some x => some (.load (if isAggD d then some (P.cellsOf t) else none) x)
    | _, _ => none
  | .store t x y => match cO x, cO y with
    | some x, some y => if P.cellsOf t ≠ 0 then some (.store (P.cellsOf t) x y) else none
    | _, _ => none
  | .nilCheck x => match cO x with | some x => some (.nilck x) | none => none
  | .binOp op t x y _ => match cO x, cO y with
    | some x', some y' => some (.bin op t (P.underlying t) (isC x || isC y) x' y')
    | _, _ => none
  | .unOp op _ x => match cO x with | some x => some (.un op x) | none => none
  | .convert s d x => match P.underlying s, P.underlying d, cO x with
    | some _, some (.int k), some x => some (.conv k x)
    | some .string, some .string, some x => some (.convs x)
    | some .string, some (.slice e), some x => match P.underlying e with
      | some (.int .u8) => some (.s2b x)
      | _ => none
    | some (.slice e), some .string, some x => match P.underlying e with
      | some (.int .u8) => some (.b2s x)
      | _ => none
    | some (.int _), some .string, some x => some (.i2s x)
    | _, _, _ => none
  | .makeFunc fn first cap => if first.isEmpty then (match cOs cap.toList with | some cs => some (.fn fn cs) | none => none) else none
  | .slice t x lo hi mx => match cO x, cOo lo, cOo hi, cOo mx with
    | some x, some lo, some hi, some mx => match P.underlying t with
      | some .string => some (.slice none x lo hi mx)
      | some (.slice e) => some (.slice (some (P.cellsOf e)) x lo hi mx)
      | _ => none
    | _, _, _, _ => none
  | .fieldAddr t x f => match structA P t, cO x with
    | some l, some x => match l[f]? with
      | some (off, size, _) => if size = 0 then none else some (.faddr off x)
      | none => none
    | _, _ => none
  | .field t x f => match structA P t, cO x with
    | some l, some x => match l[f]? with
      | some (off, size, true) => some (.field off (some size) x)
      | some (off, _, false) => some (.field off none x)
      | none => none
    | _, _ => none
  | .indexAddr t x i => match cO x, cO i with
    | some x, some i => match P.underlying t with
      | some (.slice e) => if P.cellsOf e = 0 then none else some (.iaddr (P.cellsOf e) x i)
      | some (.array n e) => if P.cellsOf e = 0 then none else some (.iaddrA n (P.cellsOf e) x i)
      | _ => none
    | _, _ => none
  | .index t x i => match cO x, cO i, P.underlying t with
    | some x, some i, some .string => some (.index x i)
    | _, _, _ => none
  | .extract x i => match cO x with | some x => some (.ext x i) | none => none
  | .makeMap _ r => match r with | none => some (.mop .make []) | some _ => none
  | .lookup t x k ok => match cO x, cO k, amapK P t with
    | some x, some k, some (kk, et) => match zeroA P et with
      | some z => some (.mop (.get kk z ok) [x, k])
      | none => none
    | _, _, _ => none
  | .mapUpdate t m k v => match cO m, cO k, cO v, amapK P t with
    | some m, some k, some v, some (kk, _) => some (.mop (.put kk) [m, k, v])
    | _, _, _, _ => none
  | .insert t m k v => match cO m, cO k, cO v, amapK P t with
    | some m, some k, some v, some (kk, _) => some (.mop (.put kk) [m, k, v])
    | _, _, _, _ => none
  | .call c => match c.callee with
    | .builtin b => match cOs c.args.toList with
      | some vs => match b, vs, c.argTypes.toList with
        | .len, [p], [t] => match P.underlying t with
          | some .string => some (.len true p)
          | some (.slice _) => some (.len false p)
          | some (.map _ _) => some (.mop .len [p])
          | _ => none
        | .delete, [p, q], t :: _ => match amapK P t with
          | some (kk, _) => some (.mop (.del kk) [p, q])
          | none => none
        | .append, [p, q], [t, u] => if u = t then (match P.underlying t with
            | some (.slice e) => match zeroA P e with
              | some zv => if zv.fit = true ∧ zv.cells.length = P.cellsOf e ∧ P.cellsOf e ≠ 0 then some (.app (P.cellsOf e) (P.bytesOf e) p q) else none
              | none => none
            | _ => none) else (match P.underlying t, P.underlying u with
            | some (.slice e), some (.int _) => match zeroA P e with
              | some zv => if zv.fit = true ∧ zv.cells.length = P.cellsOf e ∧ P.cellsOf e ≠ 0 then some (.appz (P.cellsOf e) (P.bytesOf e) zv.cells p q) else none
              | none => none
            | _, _ => none)
        | .cap, [p], [t] => match P.underlying t with
          | some (.slice _) => some (.capn p)
          | _ => none
        | .min, vs, _ => some (.mm false vs)
        | .max, vs, _ => some (.mm true vs)
        | _, _, _ => none
      | none => none
    | _ => none
  | _ => none
end Go.Abs
namespace Go.Abs
open Go Go.RowKit
set_option linter.unusedVariables false
theorem ifill_ok {l : List (Nat × Nat × Bool)} : ∀ {ps : List (Nat × Operand)} {is : List (Nat × Nat × Opd)} {T : Tr AV} {xs : List (Nat × Nat × AV)} {cells ys : List AV}, cParts l ps = some is → iparts T is = some xs → ifill cells xs = some ys →
    ∃ zs, aparts T ps = some zs ∧ afill (fun i => (l[i]?).map fun x => (x.1, x.2.1)) cells zs = some ys
  | [], is, T, xs, cells, ys, h1, h2, h3 => by
    simp only [cParts] at h1; cases h1
    simp only [iparts] at h2; cases h2
    simp only [ifill] at h3; cases h3
    exact ⟨[], rfl, rfl⟩
  | (i, o) :: ps, is, T, xs, cells, ys, h1, h2, h3 => by
    simp only [cParts] at h1
    split at h1
    · rename_i off size ag x is' e1 e2 e3
      cases h1
      simp only [iparts] at h2
      split at h2
      · cases h2
      · rename_i y e4
        split at h2
        · cases h2
        · rename_i xs' e5
          cases h2
          simp only [ifill] at h3
          split at h3
          · rename_i hc
            obtain ⟨zs, q1, q2⟩ := ifill_ok e3 e5 h3
            refine ⟨(i, y) :: zs, ?_, ?_⟩
            · simp only [aparts, ← cO_ok e2 T, e4, q1]
            · simp only [afill, e1, Option.map_some]
              rw [if_pos hc]
              exact q2
          · cases h3
    · cases h1
theorem ifillZ_ok {z : Nat} : ∀ {ps : List (Nat × Operand)} {is : List (Nat × Nat × Opd)} {T : Tr AV} {xs : List (Nat × Nat × AV)} {cells ys : List AV}, cPartsZ z ps = some is → iparts T is = some xs → ifill cells xs = some ys →
    ∃ zs, aparts T ps = some zs ∧ afill (fun i => some (i * z, z)) cells zs = some ys
  | [], is, T, xs, cells, ys, h1, h2, h3 => by
    simp only [cPartsZ] at h1; cases h1
    simp only [iparts] at h2; cases h2
    simp only [ifill] at h3; cases h3
    exact ⟨[], rfl, rfl⟩
  | (i, o) :: ps, is, T, xs, cells, ys, h1, h2, h3 => by
    simp only [cPartsZ] at h1
    split at h1
    · rename_i x is' e2 e3
      cases h1
      simp only [iparts] at h2
      split at h2
      · cases h2
      · rename_i y e4
        split at h2
        · cases h2
        · rename_i xs' e5
          cases h2
          simp only [ifill] at h3
          split at h3
          · rename_i hc
            obtain ⟨zs, q1, q2⟩ := ifillZ_ok e3 e5 h3
            refine ⟨(i, y) :: zs, ?_, ?_⟩
            · simp only [aparts, ← cO_ok e2 T, e4, q1]
            · simp only [afill]
              rw [if_pos hc]
              exact q2
          · cases h3
    · cases h1
theorem cOo_ok {o : Option Operand} {i : Option Opd} (h : cOo o = some i) (T : Tr AV) : ievo T i = aevo T o := by
  cases o with
  | none => simp only [cOo] at h; cases h; rfl
  | some o =>
    simp only [cOo] at h
    split at h
    · rename_i x hx
      cases h
      simp only [ievo, aevo, cO_ok hx T]
      cases aev T o <;> rfl
    · cases h
set_option maxHeartbeats 2000000 in
theorem cOp_ok {P : Program} {T : Tr AV} {op : Op} {i : IOp} {H : AH} {r : AV × AH} (hc : cOp P op = some i) (hr : iop T i H = some r) : aop P T op H = some r := by
  cases op <;> simp only [cOp] at hc <;> try (cases hc; done)
  case move x =>
    split at hc
    · rename_i y e; cases hc
      simp only [iop, cO_ok e T] at hr
      split at hr
      · rename_i z e2; cases hr; simp [aop, e2]
      · cases hr
    · cases hc
  case assign x =>
    split at hc
    · rename_i y e; cases hc
      simp only [iop, cO_ok e T] at hr
      split at hr
      · rename_i z e2; cases hr; simp [aop, e2]
      · cases hr
    · cases hc
  case pick c a b =>
    split at hc
    · rename_i x y z e1 e2 e3
      cases hc
      simp only [iop, cO_ok e1 T, cO_ok e2 T, cO_ok e3 T] at hr
      split at hr
      · rename_i e4
        split at hr
        · rename_i v e5; cases hr; simp [aop, e4, e5]
        · cases hr
      · rename_i e4
        split at hr
        · rename_i v e5; cases hr; simp [aop, e4, e5]
        · cases hr
      · cases hr
    · cases hc
  case alloc e =>
    split at hc
    · rename_i z e1; cases hc
      simp only [iop, iev] at hr
      simp [aop, e1, hr]
    · cases hc
  case box e x =>
    split at hc
    · rename_i y e; cases hc
      simp only [iop, cO_ok e T] at hr
      split at hr
      · rename_i z e2; simp [aop, e2, hr]
      · cases hr
    · cases hc
  case build t parts =>
    split at hc
    · rename_i l zs e1 e2
      split at hc
      · rename_i ho
        split at hc
        · rename_i ps e3
          cases hc
          simp only [iop] at hr
          split at hr
          · rename_i xs e4
            split at hr
            · rename_i cs e5
              cases hr
              obtain ⟨ws, q1, q2⟩ := ifill_ok e3 e4 e5
              simp [aop, q1, abuild, e1, e2, ho, q2]
            · cases hr
          · cases hr
        · cases hc
      · cases hc
    · cases hc
  case makeInterface t x =>
    split at hc
    · cases hc
    · rename_i d y hne e1 e2
      cases hc
      simp only [iop, cO_ok e2 T] at hr
      split at hr
      · rename_i p e3
        cases hr
        have : amkiface P t p = some (.iface t p) := by
          unfold amkiface
          rw [e1]
          cases d <;> first | rfl | exact absurd rfl (hne _)
        simp [aop, e3, this]
      · cases hr
    · cases hc
  case makeSlice t l c =>
    split at hc
    · rename_i e l' c' e1 e2 e3
      split at hc
      · rename_i zv e4
        split at hc
        · rename_i hcond
          cases hc
          simp only [iop, cO_ok e2 T, cO_ok e3 T] at hr
          split at hr
          · rename_i k n e5
            split at hr
            · rename_i k' m e6
              split at hr
              · rename_i hh
                cases hr
                simp only [aop, e5, e6, Option.bind_some, amkslice, e1, e4]
                rw [if_pos ⟨hcond.1, hcond.2.1, hcond.2.2, hh⟩]
              · cases hr
            · cases hr
          · cases hr
        · cases hc
      · cases hc
    · cases hc
  case buildSlice t len parts =>
    split at hc
    · rename_i e e1
      cases hl0 : Nat.beq len 0 with
      | true =>
        rw [hl0] at hc
        have hz := Nat.eq_of_beq_eq_true hl0
        subst hz
        simp only [cond_true] at hc
        split at hc
        · rename_i i' e2 e3
          cases hc
          simp only [iop] at hr
          cases hr
          simp [aop, e2, aparts, abuildSliceE, e1, e3]
        · cases hc
      | false =>
        rw [hl0] at hc
        have hz : len ≠ 0 := fun e0 => by subst e0; cases hl0
        simp only [cond_false] at hc
        split at hc
        · rename_i zv e2
          split at hc
          · rename_i ho
            split at hc
            · rename_i ps e3
              cases hc
              simp only [iop] at hr
              split at hr
              · rename_i xs e4
                split at hr
                · rename_i cs e5
                  cases hfr : H.free with
                  | false => rw [hfr] at hr; cases hr
                  | true =>
                    rw [hfr] at hr
                    cases hr
                    obtain ⟨ws, q1, q2⟩ := ifillZ_ok e3 e4 e5
                    have hE : abuildSliceE P t len ws H = abuildSlice P t len ws H := by
                      unfold abuildSliceE
                      split
                      · exact absurd rfl hz
                      · rfl
                    simp only [aop, q1, hE, abuildSlice, e1, e2, Option.bind_some, q2]
                    rw [if_pos ⟨ho.1, ho.2.1, ho.2.2.1, ho.2.2.2, hfr⟩]
                · cases hr
              · cases hr
            · cases hc
          · cases hc
        · cases hc
    · cases hc
  case load t x =>
    split at hc
    · rename_i d y e1 e2
      cases hc
      simp only [iop, cO_ok e2 T] at hr
      split at hr
      · rename_i z e3
        split at hr
        · rename_i v e4
          cases hr
          have : aload P H t z = some v := by
            unfold aload
            rw [e1]
            simp only
            unfold iload at e4
            cases ha : isAggD d with
            | true =>
              rw [ha] at e4
              simp only [if_true] at e4 ⊢
              split at e4
              · rename_i cs e5; cases e4; rw [e5]; rfl
              · cases e4
            | false =>
              rw [ha] at e4
              simp only [Bool.false_eq_true, if_false] at e4 ⊢
              split at e4
              · rename_i c rest e5; cases e4; rw [e5]; rfl
              · cases e4
          simp [aop, e3, this]
        · cases hr
      · cases hr
    · cases hc
  case store t x y =>
    split at hc
    · rename_i a b e1 e2
      split at hc
      · rename_i hz
        cases hc
        simp only [iop, cO_ok e1 T, cO_ok e2 T] at hr
        split at hr
        · rename_i p e3
          split at hr
          · rename_i v e4
            split at hr
            · rename_i H' e5
              cases hr
              have : astore P H t p v = some H' := by
                unfold istore at e5
                unfold astore
                split at e5
                · rename_i g e i
                  split at e5
                  · rename_i r e6
                    split at e5
                    · rename_i hcond
                      cases e5
                      simp only [e6]
                      rw [if_pos ⟨hcond.1, hcond.2.1, hcond.2.2.1, hz, hcond.2.2.2.1, hcond.2.2.2.2⟩]
                    · cases e5
                  · cases e5
                · cases e5
              simp [aop, e3, e4, this]
            · cases hr
          · cases hr
        · cases hr
      · cases hc
    · cases hc
  case nilCheck x =>
    split at hc
    · rename_i y e; cases hc
      simp only [iop, cO_ok e T] at hr
      split at hr
      · rename_i e2; cases hr; simp [aop, e2]
      · rename_i e2; cases hr; simp [aop, e2]
      · rename_i e2; cases hr; simp [aop, e2]
      · cases hr
    · cases hc
  case binOp op t x y yt =>
    split at hc
    · rename_i a b e1 e2
      cases hc
      simp only [iop, cO_ok e1 T, cO_ok e2 T] at hr
      split at hr
      · rename_i p e3
        split at hr
        · rename_i q e4
          split at hr
          · rename_i z e5
            cases hr
            have : abinC P op t x y p q = some z := by
              rw [← e5]
              unfold abinC ibin
              split
              · rfl
              · split
                · rename_i hne; exact (hne rfl rfl).elim
                · rfl
            simp [aop, e3, e4, this]
          · cases hr
        · cases hr
      · cases hr
    · cases hc
  case unOp op t x =>
    split at hc
    · rename_i a e1
      cases hc
      simp only [iop, cO_ok e1 T] at hr
      split at hr
      · rename_i p e3
        split at hr
        · rename_i z e5
          cases hr
          simp [aop, e3, e5]
        · cases hr
      · cases hr
    · cases hc
  case convert s d x =>
    split at hc
    · rename_i ds k y e1 e2 e3
      cases hc
      simp only [iop, cO_ok e3 T] at hr
      split at hr
      · rename_i k' n e4
        cases hr
        cases ds <;> simp [aop, e4, aconvH, aconv, e1, e2]
      · cases hr
    · rename_i y e1 e2 e3
      cases hc
      simp only [iop, cO_ok e3 T] at hr
      split at hr
      · rename_i s e4; cases hr; simp [aop, e4, aconvH, aconv, e1, e2]
      · cases hr
    · rename_i e y e1 e2 e3
      split at hc
      · rename_i e5
        cases hc
        simp only [iop, cO_ok e3 T] at hr
        split at hr
        · rename_i s e4; cases hr; simp [aop, e4, aconvH, e1, e2, e5]
        · cases hr
      · cases hc
    · rename_i e y e1 e2 e3
      split at hc
      · rename_i e5
        cases hc
        simp only [iop, cO_ok e3 T] at hr
        split at hr
        · rename_i x e4
          split at hr
          · rename_i m xs e6
            split at hr
            · rename_i l e7; cases hr; simp [aop, e4, aconvH, e1, e2, e5, e6, e7]
            · cases hr
          · cases hr
        · cases hr
      · cases hc
    · rename_i k y e1 e2 e3
      cases hc
      simp only [iop, cO_ok e3 T] at hr
      split at hr
      · rename_i k' n e4; cases hr; simp [aop, e4, aconvH, e1, e2]
      · cases hr
    · cases hc
  case makeFunc fn first cap =>
    split at hc
    · rename_i hf
      split at hc
      · rename_i cs e1
        cases hc
        simp only [iop, cOs_ok e1 T] at hr
        split at hr
        · rename_i xs e2; cases hr; simp [aop, hf, e2]
        · cases hr
      · cases hc
    · cases hc
  case slice t x lo hi mx =>
    split at hc
    · rename_i x' lo' hi' mx' e1 e2 e3 e4
      have key : ∀ z, iop T (.slice z x' lo' hi' mx') H = some r → (∀ p l h m y, islice z p l h m = some y → aslice P t p l h m = some y) → aop P T (.slice t x lo hi mx) H = some r := by
        intro z hr hz
        simp only [iop, cO_ok e1 T, cOo_ok e2 T, cOo_ok e3 T, cOo_ok e4 T] at hr
        split at hr
        · rename_i p e5
          split at hr
          · rename_i l e6
            split at hr
            · rename_i h e7
              split at hr
              · rename_i m e8
                split at hr
                · rename_i y e9
                  cases hr
                  simp [aop, e5, e6, e7, e8, hz _ _ _ _ _ e9]
                · cases hr
              · cases hr
            · cases hr
          · cases hr
        · cases hr
      split at hc
      · rename_i e5
        cases hc
        refine key _ hr fun p l h m y hy => ?_
        unfold islice at hy
        unfold aslice
        rw [e5]
        cases p <;> cases m <;> simp only at hy ⊢ <;> first | exact hy | cases hy
      · rename_i e e5
        cases hc
        refine key _ hr fun p l h m y hy => ?_
        unfold islice at hy
        unfold aslice
        rw [e5]
        cases p <;> cases m <;> simp only at hy ⊢ <;> first | exact hy | cases hy
      · cases hc
    · cases hc
  case fieldAddr t x f =>
    split at hc
    · rename_i l y e1 e2
      split at hc
      · rename_i off size ag e3
        split at hc
        · cases hc
        · rename_i hz
          cases hc
          simp only [iop, cO_ok e2 T] at hr
          split at hr
          · rename_i e4; cases hr; simp [aop, e4, afieldAddr, e1, e3, hz]
          · rename_i e4; cases hr; simp [aop, e4, afieldAddr, e1, e3, hz]
          · cases hr
      · cases hc
    · cases hc
  case field t x f =>
    split at hc
    · rename_i l y e1 e2
      split at hc
      · rename_i off size e3
        cases hc
        simp only [iop, cO_ok e2 T] at hr
        split at hr
        · rename_i cs e4; cases hr; simp [aop, e4, afield, e1, e3]
        · cases hr
      · rename_i off size e3
        cases hc
        simp only [iop, cO_ok e2 T] at hr
        split at hr
        · rename_i cs e4
          split at hr
          · rename_i y e5; cases hr; simp [aop, e4, afield, e1, e3, e5]
          · cases hr
        · cases hr
      · cases hc
    · cases hc
  case indexAddr t x i =>
    split at hc
    · rename_i a b e1 e2
      split at hc
      · rename_i e e3
        split at hc
        · cases hc
        · rename_i hz
          cases hc
          simp only [iop, cO_ok e1 T, cO_ok e2 T] at hr
          split at hr
          · rename_i g ag s len z e4
            split at hr
            · rename_i k n e5
              split at hr
              · rename_i hcond; cases hr
                obtain ⟨h1, h2, rfl⟩ := hcond
                simp [aop, e4, e5, aindexAddr, e3, h1, h2, hz]
              · cases hr
            · cases hr
          · rename_i z rows e4
            split at hr
            · rename_i k n e5
              split at hr
              · rename_i hcond
                obtain ⟨h1, rfl⟩ := hcond
                split at hr
                · rename_i w e6; cases hr; simp [aop, e4, e5, aindexAddr, e3, h1, hz, e6]
                · cases hr
              · cases hr
            · cases hr
          · cases hr
      · rename_i n e e3
        split at hc
        · cases hc
        · rename_i hz
          cases hc
          simp only [iop, cO_ok e1 T, cO_ok e2 T] at hr
          split at hr
          · rename_i g ag s e4
            split at hr
            · rename_i k m e5
              split at hr
              · rename_i hcond; cases hr
                simp [aop, e4, e5, aindexAddr, e3, hcond, hz]
              · cases hr
            · cases hr
          · rename_i row s e4
            split at hr
            · rename_i k m e5
              split at hr
              · rename_i hcond; cases hr
                simp [aop, e4, e5, aindexAddr, e3, hcond, hz]
              · cases hr
            · cases hr
          · cases hr
      · cases hc
    · cases hc
  case index t x i =>
    split at hc
    · rename_i a b e1 e2 e3
      cases hc
      simp only [iop, cO_ok e1 T, cO_ok e2 T] at hr
      split at hr
      · rename_i s e4
        split at hr
        · rename_i k n e5
          split at hr
          · rename_i h0
            split at hr
            · rename_i c e6; cases hr; simp [aop, e4, e5, aindex, e3, h0, e6]
            · cases hr
          · cases hr
        · cases hr
      · cases hr
    · cases hc
  case makeMap t r' =>
    cases r' with
    | none =>
      cases hc
      simp only [iop, ievs, mop] at hr
      simp [aop, hr]
    | some r' => cases hc
  case lookup t x k ok =>
    split at hc
    · rename_i x' k' kk et e1 e2 e3
      split at hc
      · rename_i z e4
        cases hc
        simp only [iop, ievs, cO_ok e1 T, cO_ok e2 T, mop] at hr
        cases e6 : aev T x with
        | none => rw [e6] at hr; simp at hr
        | some v =>
          cases e7 : aev T k with
          | none => rw [e6, e7] at hr; simp at hr
          | some v' =>
            rw [e6, e7] at hr
            simp only at hr
            simp [aop, e6, e7, amget, e3, e4, hr]
      · cases hc
    · cases hc
  case mapUpdate t m k v =>
    split at hc
    · rename_i m' k' v' kk et e1 e2 e3 e4
      cases hc
      simp only [iop, ievs, cO_ok e1 T, cO_ok e2 T, cO_ok e3 T, mop] at hr
      cases e6 : aev T m with
      | none => rw [e6] at hr; simp at hr
      | some a =>
        cases e7 : aev T k with
        | none => rw [e6, e7] at hr; simp at hr
        | some b =>
          cases e8 : aev T v with
          | none => rw [e6, e7, e8] at hr; simp at hr
          | some c =>
            rw [e6, e7, e8] at hr
            simp only at hr
            simp [aop, e6, e7, e8, amput, e4, hr]
    · cases hc
  case insert t m k v =>
    split at hc
    · rename_i m' k' v' kk et e1 e2 e3 e4
      cases hc
      simp only [iop, ievs, cO_ok e1 T, cO_ok e2 T, cO_ok e3 T, mop] at hr
      cases e6 : aev T m with
      | none => rw [e6] at hr; simp at hr
      | some a =>
        cases e7 : aev T k with
        | none => rw [e6, e7] at hr; simp at hr
        | some b =>
          cases e8 : aev T v with
          | none => rw [e6, e7, e8] at hr; simp at hr
          | some c =>
            rw [e6, e7, e8] at hr
            simp only at hr
            simp [aop, e6, e7, e8, amput, e4, hr]
    · cases hc
  case extract x i =>
    split at hc
    · rename_i a e1
      cases hc
      simp only [iop, cO_ok e1 T] at hr
      split at hr
      · rename_i vs e2
        split at hr
        · rename_i y e3; cases hr; simp [aop, e2, e3]
        · cases hr
      · cases hr
    · cases hc
  case call c =>
    split at hc
    · rename_i b e1
      split at hc
      · rename_i vs e2
        split at hc
        · rename_i p t e3
          have hargs : ∃ o, c.args.toList = [o] ∧ cO o = some p := by
            cases hl : c.args.toList with
            | nil => rw [hl] at e2; simp [cOs] at e2
            | cons o os =>
              rw [hl] at e2
              simp only [cOs] at e2
              split at e2
              · rename_i x xs h1 h2
                cases e2
                cases os with
                | nil => exact ⟨o, rfl, h1⟩
                | cons o' os => simp only [cOs] at h2; split at h2 <;> cases h2
              · cases e2
          obtain ⟨o, ho, hp⟩ := hargs
          split at hc
          · rename_i e4
            cases hc
            simp only [iop, cO_ok hp T] at hr
            split at hr <;> (try simp only [cond_true] at hr) <;> first
              | (rename_i e5; cases hr; simp [aop, abuiltin, e1, ho, aevs, e5, e3, alen, e4, isMap])
              | cases hr
          · rename_i e e4
            cases hc
            simp only [iop, cO_ok hp T] at hr
            split at hr <;> (try simp only [cond_false] at hr) <;> first
              | (rename_i e5; cases hr; simp [aop, abuiltin, e1, ho, aevs, e5, e3, alen, e4, isMap])
              | cases hr
          · rename_i kt et e4
            cases hc
            simp only [iop, ievs, cO_ok hp T, mop] at hr
            split at hr
            · rename_i vs e5
              split at e5
              · cases e5
              · rename_i v e6
                cases e5
                simp only at hr
                simp [aop, abuiltin, e1, ho, aevs, e6, e3, e4, isMap, hr]
            · cases hr
          · cases hc
        · rename_i p q t ts e3
          have hargs : ∃ o o', c.args.toList = [o, o'] ∧ cO o = some p ∧ cO o' = some q := by
            cases hl : c.args.toList with
            | nil => rw [hl] at e2; simp [cOs] at e2
            | cons o os =>
              rw [hl] at e2
              simp only [cOs] at e2
              split at e2
              · rename_i x xs h1 h2
                cases e2
                cases os with
                | nil => simp [cOs] at h2
                | cons o' os =>
                  simp only [cOs] at h2
                  split at h2
                  · rename_i x' xs' h3 h4
                    cases h2
                    cases os with
                    | nil => exact ⟨o, o', rfl, h1, h3⟩
                    | cons o'' os => simp only [cOs] at h4; split at h4 <;> cases h4
                  · cases h2
              · cases e2
          obtain ⟨o, o', ho, hp, hq⟩ := hargs
          split at hc
          · rename_i kk et e4
            cases hc
            simp only [iop, ievs, cO_ok hp T, cO_ok hq T, mop] at hr
            cases e6 : aev T o with
            | none => rw [e6] at hr; simp at hr
            | some v =>
              cases e7 : aev T o' with
              | none => rw [e6, e7] at hr; simp at hr
              | some v' =>
                rw [e6, e7] at hr
                simp only at hr
                simp [aop, abuiltin, e1, ho, aevs, e6, e7, e3, amdel, e4, hr]
          · cases hc
        · rename_i p q t u e3
          have hargs : ∃ o o', c.args.toList = [o, o'] ∧ cO o = some p ∧ cO o' = some q := by
            cases hl : c.args.toList with
            | nil => rw [hl] at e2; simp [cOs] at e2
            | cons o os =>
              rw [hl] at e2
              simp only [cOs] at e2
              split at e2
              · rename_i x xs h1 h2
                cases e2
                cases os with
                | nil => simp [cOs] at h2
                | cons o' os =>
                  simp only [cOs] at h2
                  split at h2
                  · rename_i x' xs' h3 h4
                    cases h2
                    cases os with
                    | nil => exact ⟨o, o', rfl, h1, h3⟩
                    | cons o'' os => simp only [cOs] at h4; split at h4 <;> cases h4
                  · cases h2
              · cases e2
          obtain ⟨o, o', ho, hp, hq⟩ := hargs
          split at hc
          · rename_i hut
            subst hut
            split at hc
            · rename_i e e4
              split at hc
              · rename_i zv e5
                split at hc
                · rename_i hcond
                  cases hc
                  simp only [iop, cO_ok hp T, cO_ok hq T] at hr
                  split at hr
                  · rename_i s e6
                    split at hr
                    · rename_i x e7
                      have : aappend P u s x H = some r := by
                        unfold aappend
                        rw [e4]
                        simp only [e5]
                        unfold iapp at hr
                        split at hr
                        · rename_i m xs e8
                          rw [e8]
                          simp only
                          rw [if_pos hcond]
                          exact hr
                        · cases hr
                      simp [aop, abuiltin, e1, ho, aevs, e6, e7, e3, this]
                    · cases hr
                  · cases hr
                · cases hc
              · cases hc
            · cases hc
          · rename_i hut
            split at hc
            · rename_i e k' e4 e4'
              split at hc
              · rename_i zv e5
                split at hc
                · rename_i hcond
                  cases hc
                  simp only [iop, cO_ok hp T, cO_ok hq T] at hr
                  split at hr
                  · rename_i e6
                    split at hr
                    · rename_i k n e7
                      split at hr
                      · rename_i hh
                        cases hr
                        have : aappendZ P t u .nils (.int k n) H = some (.slc H.next 0 0 n.toNat (P.cellsOf e), H.add ((List.replicate n.toNat zv.cells).flatten)) := by
                          unfold aappendZ
                          rw [e4, e4']
                          simp only [e5]
                          rw [if_pos ⟨hcond.1, hcond.2.1, hcond.2.2, hh⟩]
                        simp [aop, abuiltin, e1, ho, aevs, e6, e7, e3, this, hut]
                      · cases hr
                    · cases hr
                  · cases hr
                · cases hc
              · cases hc
            · cases hc
        · rename_i p t e3
          have hargs : ∃ o, c.args.toList = [o] ∧ cO o = some p := by
            cases hl : c.args.toList with
            | nil => rw [hl] at e2; simp [cOs] at e2
            | cons o os =>
              rw [hl] at e2
              simp only [cOs] at e2
              split at e2
              · rename_i x xs h1 h2
                cases e2
                cases os with
                | nil => exact ⟨o, rfl, h1⟩
                | cons o' os => simp only [cOs] at h2; split at h2 <;> cases h2
              · cases e2
          obtain ⟨o, ho, hp⟩ := hargs
          split at hc
          · rename_i e e4
            cases hc
            simp only [iop, cO_ok hp T] at hr
            split at hr
            · rename_i e5; cases hr; simp [aop, abuiltin, e1, ho, aevs, e5, e3, acap, e4]
            · cases hr
          · cases hc
        · rename_i vs' l'
          cases hc
          simp only [iop, cOs_ok e2 T] at hr
          split at hr
          · rename_i xs e4
            split at hr
            · rename_i y e5; cases hr; simp [aop, abuiltin, e1, e4, e5]
            · cases hr
          · cases hr
        · rename_i vs' l'
          cases hc
          simp only [iop, cOs_ok e2 T] at hr
          split at hr
          · rename_i xs e4
            split at hr
            · rename_i y e5; cases hr; simp [aop, abuiltin, e1, e4, e5]
            · cases hr
          · cases hr
        · cases hc
      · cases hc
    · cases hc
end Go.Abs
namespace Go.Abs
open Go Go.RowKit
set_option linter.unusedVariables false
inductive IK where
  | op (o : IOp)
  | call (f : Opd) (args : List Opd)
structure IOper where
  dst : Option Pth
  guard : Option (Pth × Bool)
  op : IK
abbrev ICall := FuncId → List AV → AH → Option (AV × AH)
def xput (T : Tr AV) : Option Pth → AV → Tr AV
  | none, _ => T
  | some p, x => Tr.setP p T x
def xop (call : ICall) (T : Tr AV) (H : AH) : IK → Option (AV × AH)
  | .op o => iop T o H
  | .call f args => match iev T f with
    | some (.fn (.func g) cap) => match ievs T args with
      | some xs => call g (xs ++ cap) H
      | none => none
    | _ => none
def xops (call : ICall) : List IOper → Tr AV → AH → Option (Tr AV × AH)
  | [], T, H => some (T, H)
  | o :: os, T, H => match o.guard with
    | none => match xop call T H o.op with
      | some (x, H') => xops call os (xput T o.dst x) H'
      | none => none
    | some (p, want) => match T.getP p with
      | some (.bool b) => bif b == want then (match xop call T H o.op with
          | some (x, H') => xops call os (xput T o.dst x) H'
          | none => none) else xops call os (xput T o.dst .und) H
      | some .und => xops call os (xput T o.dst .und) H
      | _ => none
def cDst (nt : Nat) : Option Tmp → Option (Option Pth)
  | none => some none
  | some d => if d < nt then some (some (Tr.path d)) else none
def cGuard (nt : Nat) (ops : Array Oper) (o : Oper) : Option (Option (Pth × Bool)) :=
  match o.guard with
  | none => some none
  | some (j, want) => match (ops[j]?).bind (·.dst) with
    | some d => if d < nt then some (some (Tr.path d, want)) else none
    | none => none
def cK (P : Program) : Op → Option IK
  | .call c => match c.callee with
    | .value f => match cO f, cOs c.args.toList with
      | some f, some xs => some (.call f xs)
      | _, _ => none
    | _ => match cOp P (.call c) with | some i => some (.op i) | none => none
  | op => match cOp P op with | some i => some (.op i) | none => none
def cOper (P : Program) (nt : Nat) (ops : Array Oper) (o : Oper) : Option IOper :=
  match cDst nt o.dst, cGuard nt ops o, cK P o.op with
  | some d, some g, some k => some ⟨d, g, k⟩
  | _, _, _ => none
/-- Where a call's answer is right. -/
def CallOK (P : Program) (call : ICall) : Prop := ∀ g xs H x H', call g xs H = some (x, H') → callableB P g = true ∧ ACalls P g xs H fun y H1 => y = x ∧ H1 = H'
theorem TRel.congr {G : Gh} {nt : Nat} {T T' : Tr AV} {a : Act} (h : TRel G nt T a) (he : ∀ k, T'.get k = T.get k) : TRel G nt T' a := ⟨h.defers, h.size, fun t x hx => h.at' t x (by rw [← he]; exact hx)⟩
theorem AOps.congr {P : Program} {nt : Nat} {ops : Array Oper} {l : List Nat} {T T' : Tr AV} {H : AH} {Q : Exit → Tr AV → AH → Prop} (he : ∀ k, T'.get k = T.get k) (h : AOps P nt ops l T' H Q) : AOps P nt ops l T H Q := fun K G a w hr ht =>
  h K G a w hr (ht.congr he)
theorem cDst_ok {nt : Nat} {d : Option Tmp} {p : Option Pth} (h : cDst nt d = some p) (T : Tr AV) (x : AV) : ∃ T', tput nt T d x = some T' ∧ ∀ k, (xput T p x).get k = T'.get k := by
  cases d with
  | none => simp only [cDst] at h; cases h; exact ⟨T, rfl, fun k => rfl⟩
  | some d =>
    simp only [cDst] at h
    split at h
    · rename_i hd
      cases h
      refine ⟨T.set d x, by simp [tput, hd], fun k => ?_⟩
      rw [xput, Tr.get_setP, Tr.get_set]
    · cases h
def bval : Option AV → Bool → Option Bool
  | some (.bool b), want => some (b == want)
  | some .und, _ => some false
  | _, _ => none
def gval (T : Tr AV) : Option (Pth × Bool) → Option Bool
  | none => some true
  | some (p, want) => bval (T.getP p) want
theorem cGuard_ok {nt : Nat} {ops : Array Oper} {o : Oper} {g : Option (Pth × Bool)} (h : cGuard nt ops o = some g) :
    guardIn ops nt o = true ∧ ∀ T, wantedA ops T o = gval T g := by
  unfold cGuard at h
  split at h
  · rename_i hg
    cases h
    exact ⟨by simp [guardIn, hg], fun T => by simp [wantedA, hg, gval]⟩
  · rename_i j want hg
    split at h
    · rename_i d hd
      split at h
      · rename_i hlt
        cases h
        refine ⟨by simp [guardIn, hg, hd, hlt], fun T => ?_⟩
        simp only [wantedA, hg, hd, gval, Tr.getP_eq]
        cases T.get d with
        | none => rfl
        | some v => cases v <;> rfl
      · cases h
    · cases h
section
variable {P : Program} {nt : Nat} {ops : Array Oper} {call : ICall}
/-- One that is carried out. -/
theorem AOps.run {i : Nat} {l : List Nat} {o : Oper} {io : IOper} {T : Tr AV} {H H' : AH} {x : AV} {Q : Exit → Tr AV → AH → Prop} (hcall : CallOK P call) (ho : ops[i]? = some o) (hc : cOper P nt ops o = some io)
    (hw : wantedA ops T o = some true) (hx : xop call T H io.op = some (x, H')) (h : AOps P nt ops l (xput T io.dst x) H' Q) : AOps P nt ops (i :: l) T H Q := by
  unfold cOper at hc
  split at hc
  · rename_i d g k e1 e2 e3
    cases hc
    obtain ⟨hg, _⟩ := cGuard_ok e2
    obtain ⟨T', ht, he⟩ := cDst_ok e1 T x
    have hop : ∀ i' : IOp, cOp P o.op = some i' → k = .op i' → AOps P nt ops (i :: l) T H Q := by
      intro i' h1 h2
      subst h2
      exact AOps.op ho hg hw (cOp_ok h1 hx) ht (AOps.congr he h)
    cases hk : o.op with
    | call c =>
      rw [hk] at e3
      simp only [cK] at e3
      split at e3
      · rename_i f hf
        split at e3
        · rename_i f' xs' h1 h2
          cases e3
          simp only [xop, cO_ok h1 T, cOs_ok h2 T] at hx
          split at hx
          · rename_i gg cap h3
            split at hx
            · rename_i ys h4
              obtain ⟨q1, q2⟩ := hcall _ _ _ _ _ hx
              refine AOps.call (R := fun y H1 => y = x ∧ H1 = H') ho hg hw hk ?_ q1 q2 ?_
              · unfold acallee; rw [hf]; simp only [h3, h4]
              · rintro y H1 ⟨rfl, rfl⟩
                exact ⟨T', ht, AOps.congr he h⟩
            · cases hx
          · cases hx
        · cases e3
      · split at e3
        · rename_i i' h1; cases e3; exact hop i' (by rw [hk]; exact h1) rfl
        · cases e3
    | _ =>
      rw [hk] at e3
      simp only [cK] at e3
      split at e3
      · rename_i i' h1; cases e3; exact hop i' (by rw [hk]; exact h1) rfl
      · cases e3
  · cases hc
theorem AOps.skip {i : Nat} {l : List Nat} {o : Oper} {io : IOper} {T : Tr AV} {H : AH} {Q : Exit → Tr AV → AH → Prop} (ho : ops[i]? = some o) (hc : cOper P nt ops o = some io)
    (hw : wantedA ops T o = some false) (h : AOps P nt ops l (xput T io.dst .und) H Q) : AOps P nt ops (i :: l) T H Q := by
  unfold cOper at hc
  split at hc
  · rename_i d g k e1 e2 e3
    cases hc
    obtain ⟨hg, _⟩ := cGuard_ok e2
    obtain ⟨T', ht, he⟩ := cDst_ok e1 T .und
    exact AOps.no ho hg hw ht (AOps.congr he h)
  · cases hc
theorem cOper_guard {o : Oper} {io : IOper} (hc : cOper P nt ops o = some io) (T : Tr AV) : wantedA ops T o = gval T io.guard := by
  unfold cOper at hc
  split at hc
  · rename_i d g k e1 e2 e3
    cases hc
    exact (cGuard_ok e2).2 T
  · cases hc
theorem xops_ok (hcall : CallOK P call) : ∀ (l : List Nat) (is : List IOper) (T : Tr AV) (H : AH) (T' : Tr AV) (H' : AH), l.length = is.length → (∀ (j : Nat) i io, l[j]? = some i → is[j]? = some io → ∃ o, ops[i]? = some o ∧ cOper P nt ops o = some io) →
    xops call is T H = some (T', H') → AOps P nt ops l T H fun e T1 H1 => e = .normal ∧ T1 = T' ∧ H1 = H'
  | [], [], T, H, T', H', hl, hc, h => by
    simp only [xops] at h; cases h
    exact AOps.nil ⟨rfl, rfl, rfl⟩
  | [], _ :: _, T, H, T', H', hl, hc, h => by simp at hl
  | _ :: _, [], T, H, T', H', hl, hc, h => by simp at hl
  | i :: l, io :: is, T, H, T', H', hl, hc, h => by
    obtain ⟨o, ho, hco⟩ := hc 0 i io rfl rfl
    have hg := cOper_guard hco T
    have hl' : l.length = is.length := by simpa using hl
    have hc' : ∀ (j : Nat) i io, l[j]? = some i → is[j]? = some io → ∃ o, ops[i]? = some o ∧ cOper P nt ops o = some io := fun j i io h1 h2 => hc (j + 1) i io (by simpa using h1) (by simpa using h2)
    simp only [xops] at h
    split at h
    · rename_i e
      rw [e] at hg
      simp only [gval] at hg
      split at h
      · rename_i x H1 hx
        exact AOps.run hcall ho hco hg hx (xops_ok hcall l is _ _ _ _ hl' hc' h)
      · cases h
    · rename_i p want e
      rw [e] at hg
      simp only [gval] at hg
      split at h
      · rename_i b hb
        rw [hb] at hg
        simp only [bval] at hg
        cases hbw : b == want with
        | true =>
          rw [hbw] at h hg
          simp only [cond_true] at h
          split at h
          · rename_i x H1 hx
            exact AOps.run hcall ho hco hg hx (xops_ok hcall l is _ _ _ _ hl' hc' h)
          · cases h
        | false =>
          rw [hbw] at h hg
          simp only [cond_false] at h
          exact AOps.skip ho hco hg (xops_ok hcall l is _ _ _ _ hl' hc' h)
      · rename_i hb
        rw [hb] at hg
        simp only [bval] at hg
        exact AOps.skip ho hco hg (xops_ok hcall l is _ _ _ _ hl' hc' h)
      · cases h
end
end Go.Abs
