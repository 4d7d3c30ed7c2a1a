/- The contracts of package lex: quoted. -/
import Derived.Test.YtofefbonokikfaaDoorLexWalk3
import Derived.OwnWalk
import Derived.Laws.AppendOwn
import Derived.Laws.ResultCell
import Derived.Laws.Rows
import Derived.Laws.BytesString
import Derived.Laws.IdiomStrings
namespace Go.Proofs.YtofefbonokikfaaDoor
open Go Go.ChangeShapes Go.WideShapes Go.ChangeAt Go.RowKit
set_option linter.unusedVariables false
/-- A token as a value. -/
def tokCells (t : Tok) : Array Value := #[.int .i64 t.kind, .string ⟨t.text.toArray⟩, .int .i64 t.num, .bool t.opn, .int .i64 t.pos]
def tokV (t : Tok) : Value := .agg (tokCells t)
def tok0 : Tok := ⟨0, [], 0, false, 0⟩
/-- A token and an error, as a call's results. -/
def tokR (t : Tok) (e : Int) : Value := .tuple #[tokV t, .int .i64 e]
def bytesV (l : List UInt8) : List Value := l.map fun c => .int .u8 c.toNat
/-- What 'quoted' and 'one' leave. -/
def OneIs (s : ByteArray) (b : Nat) (o : Tok × List UInt8 × Int) (w : World) (e : Ending) (w' : World) : Prop :=
  e = .returned (tokR o.1 o.2.2) ∧ But b w w' ∧ (o.2.2 = 0 → ∃ j, j ≤ s.size ∧ s.data.toList.drop j = o.2.1 ∧ Blk w' b #[.string s, .int .i64 j] 36)
def quoR : Option (List UInt8 × List UInt8) → Tok × List UInt8 × Int
  | none => (tok0, [], 2)
  | some (t, k) => (⟨2, t, 0, false, 0⟩, k, 0)
theorem info_u8 : (Tryd.prog.info? 5).map (fun i => (i.zero, i.size, i.bytes)) = some (some (.int .u8 0), 1, 1) := by kernel_rfl
theorem Blk.new' {w : World} {n : Nat} (h : w.heap.size = n) (cs : Array Value) (t : TypeId) : Blk (w.alloc (.cells cs t)) n cs t := by subst h; exact Blk.new w cs t
theorem Blk.five {w : World} {b : Nat} {x y z u v : Value} {t : TypeId} (h : Blk w b #[x, y, z, u, v] t) : w.cell? ⟨b, 0, none⟩ = some x ∧ w.cell? ⟨b, 1, none⟩ = some y ∧ w.cell? ⟨b, 2, none⟩ = some z ∧ w.cell? ⟨b, 3, none⟩ = some u ∧ w.cell? ⟨b, 4, none⟩ = some v ∧
    w.frozen? ⟨b, 0, none⟩ = false ∧ w.frozen? ⟨b, 1, none⟩ = false ∧ w.frozen? ⟨b, 2, none⟩ = false ∧ w.frozen? ⟨b, 3, none⟩ = false ∧ w.frozen? ⟨b, 4, none⟩ = false ∧ b < w.heap.size :=
  ⟨h.cell rfl, h.cell rfl, h.cell rfl, h.cell rfl, h.cell rfl, h.free 0, h.free 1, h.free 2, h.free 3, h.free 4, h.lt⟩
theorem But.new {b : Nat} {x w : World} (h : But b x w) {a : Addr} (ha : x.heap.size ≤ a.block) (v : Value) : But b x (w.setCell a v) :=
  ⟨h.os, h.tape, h.output, by have := h.size; simpa [World.setCell] using this, fun k hk hb => (Below.heap_setCell _ _ _ _ (by omega)).trans (h.block k hk hb)⟩
theorem conv_own {w : World} {base : Nat} {v : Value} {l : List UInt8} (h : w.ownsRow base 5 1 v l.length (bytesV l)) : (convert 39 9 v).run Tryd.prog w = .ok (.string ⟨l.toArray⟩) w := by
  rcases h.2 with ⟨rfl, hl⟩ | ⟨g, cap, cur, rfl, _, _, _, _, _, _⟩
  · have : l = [] := List.length_eq_zero_iff.mp hl
    subst this
    rw [run_convert_bytes_string w 39 9 5 none 0 0 Tryd.underlying39 Tryd.underlying5 Tryd.underlying9]
    simp [Conv.bytesToString, go_sem]; rfl
  · refine run_convert_bytes_back w 39 9 5 ⟨g, 0, none⟩ cap l Tryd.underlying39 Tryd.underlying5 Tryd.underlying9 fun j hj => ?_
    refine h.cells (g := g) rfl j _ ?_
    simp [bytesV, List.getElem?_eq_getElem hj]
theorem res_tok {fn : Func} {p u : Tmp} (h : fn.results = #[.cell p 28, .tmp u]) (tmps : Array Value) (B : Nat) (hB : tmps.getD p undef = .pointer (some ⟨B, 0, none⟩)) (e : Int) (he : tmps.getD u undef = .int .i64 e)
    (t : Tok) (w : World) (hw : Blk w B (tokCells t) 28) : (results fn tmps).run Tryd.prog w = .ok (tokR t e) w := by
  rw [results_cell_tmp h, hB, he]
  simp only [asAddr]
  rw [Sem.run_pure]
  simp only [Result.andThen]
  rw [run_loadVar_row w B _ _ _ _ _ hw Tryd.underlying28 rfl (by kernel_rfl)]
  rfl
theorem But.grown {b : Nat} {x w w' : World} {row : Option Nat} (h : But b x w) (hg : w.grownBy w' row) (hr : ∀ g, row = some g → x.heap.size ≤ g) : But b x w' :=
  ⟨hg.os.trans h.os, hg.tape.trans h.tape, hg.output.trans h.output, Nat.le_trans h.size hg.size, fun k hk hb => (hg.block k (Nat.lt_of_lt_of_le hk h.size) (fun e => by have := hr k e.symm; omega)).trans (h.block k hk hb)⟩
theorem Blk.grown {w w' : World} {c : Nat} {cs : Array Value} {t : TypeId} {row : Option Nat} (h : Blk w c cs t) (hg : w.grownBy w' row) (hr : ∀ g, row = some g → c < g) : Blk w' c cs t := by
  unfold Blk; rw [hg.block c h.lt (fun e => by have := hr c e.symm; omega)]; exact h
theorem own_drewN {w : World} {base : Nat} {e : TypeId} {size : Nat} {v : Value} {n : Nat} {xs : List Value} (h : w.ownsRow base e size v n xs) (m : Nat) : (w.drewN m).ownsRow base e size v n xs := h
theorem own_set {w : World} {base : Nat} {e : TypeId} {size : Nat} {v : Value} {n : Nat} {xs : List Value} (h : w.ownsRow base e size v n xs) {b : Nat} (hb : b < base) (i : Nat) (u : Value) : (w.setCell ⟨b, i, none⟩ u).ownsRow base e size v n xs :=
  ownsRow_setCell_below h hb u
theorem one_new' {w : World} {n : Nat} (h : w.heap.size = n) {u : Value} {t : TypeId} : ∀ j x, [u][j]? = some x → (w.alloc (.cells #[u] t)).cell? ((⟨n, 0, none⟩ : Addr).add j) = some x := by
  subst h
  intro j x hj
  match j, hj with
  | 0, hj =>
    simp at hj; subst hj
    exact (Blk.new w #[u] t).cell rfl
theorem one_new {w : World} {u : Value} {t : TypeId} : ∀ j x, [u][j]? = some x → (w.alloc (.cells #[u] t)).cell? ((⟨w.heap.size, 0, none⟩ : Addr).add j) = some x := by
  intro j x hj
  match j, hj with
  | 0, hj =>
    simp at hj; subst hj
    exact (Blk.new w #[u] t).cell rfl
/-- The loop's relation, kept by an append. -/
def QRel (s : ByteArray) (b : Nat) (Q : Option (List UInt8 × List UInt8)) (w : World) (k : Nat) (acc : List UInt8) (v : Value) (wr : World) : Prop :=
  k ≤ s.size ∧ Hid (Q = quotS acc (s.data.toList.drop k)) ∧ wr.ownsRow (w.heap.size + 1) 5 1 v acc.length (bytesV acc) ∧ Hid (acc.length ≤ k) ∧ But b w wr ∧ Blk wr b #[.string s, .int .i64 k] 36 ∧ Blk wr w.heap.size (tokCells tok0) 28
theorem q_app {s : ByteArray} {b k k' : Nat} {Q : Option (List UInt8 × List UInt8)} {w wr wq w1 : World} {acc : List UInt8} {v v' : Value} {c : UInt8} {o : Obj} {x : Value} (hb : b < w.heap.size)
    (hown : wr.ownsRow (w.heap.size + 1) 5 1 v acc.length (bytesV acc)) (hal : Hid (acc.length ≤ k)) (hbut : But b w wq) (hblk : Blk wq b #[.string s, x] 36) (htok : Blk wq w.heap.size (tokCells tok0) 28)
    (hq : Q = quotS (acc ++ [c]) (s.data.toList.drop k')) (hk : k < k') (hk' : k' ≤ s.size)
    (hown' : w1.ownsRow (w.heap.size + 1) 5 1 v' (acc.length + 1) (bytesV acc ++ [.int .u8 c.toNat])) (hg : (wq.alloc o).grownBy w1 v.ownBlock) :
    QRel s b Q w k' (acc ++ [c]) v' (w1.setCell ⟨b, 1, none⟩ (.int .i64 k')) := by
  have hl := fun g (e : v.ownBlock = some g) => (hown.lt g e).1
  refine ⟨hk', hq, ?_, Lib.hid (by have := hal.out; simp; omega), ?_, ?_, ?_⟩
  · have := own_set hown' (show b < w.heap.size + 1 by omega) 1 (.int .i64 k')
    simpa [bytesV] using this
  · exact ((hbut.alloc o).grown hg (fun g e => by have := hl g e; omega)).set _ _
  · exact ((hblk.alloc o).grown hg (fun g e => by have := hl g e; omega)).store 1 _
  · exact ((htok.alloc o).grown hg (fun g e => by have := hl g e; omega)).other (by show b ≠ _; omega) _
theorem Blk.storeTok {w : World} {B : Nat} {t0 : Tok} {t : TypeId} (h : Blk w B (tokCells t0) t) (x y z u v : Value) :
    Blk (((((w.setCell ⟨B, 0, none⟩ x).setCell ⟨B, 1, none⟩ y).setCell ⟨B, 2, none⟩ z).setCell ⟨B, 3, none⟩ u).setCell ⟨B, 4, none⟩ v) B #[x, y, z, u, v] t :=
  ((((h.store 0 x).store 1 y).store 2 z).store 3 u).store 4 v
theorem Blk.other5 {w : World} {b B : Nat} {cs : Array Value} {t : TypeId} (h : Blk w b cs t) (hb : B ≠ b) (x y z u v : Value) :
    Blk (((((w.setCell ⟨B, 0, none⟩ x).setCell ⟨B, 1, none⟩ y).setCell ⟨B, 2, none⟩ z).setCell ⟨B, 3, none⟩ u).setCell ⟨B, 4, none⟩ v) b cs t :=
  ((((h.other hb _).other hb _).other hb _).other hb _).other hb _
theorem But.new5 {b B : Nat} {x0 w : World} (h : But b x0 w) (hB : x0.heap.size ≤ B) (x y z u v : Value) :
    But b x0 (((((w.setCell ⟨B, 0, none⟩ x).setCell ⟨B, 1, none⟩ y).setCell ⟨B, 2, none⟩ z).setCell ⟨B, 3, none⟩ u).setCell ⟨B, 4, none⟩ v) :=
  ((((h.new hB _).new hB _).new hB _).new hB _).new hB _
theorem quot_one {acc : List UInt8} {c : UInt8} : quotS acc [c] = if c == 39 then some (acc, []) else none := by rw [quotS]
theorem q_err {s : ByteArray} {b : Nat} {Q : Option (List UInt8 × List UInt8)} {w wq : World} (hQ : Hid (Q = none)) (hbut : But b w wq) (x y z u v : Value) :
    OneIs s b (quoR Q) w (.returned (tokR tok0 2)) (((((wq.setCell ⟨w.heap.size, 0, none⟩ x).setCell ⟨w.heap.size, 1, none⟩ y).setCell ⟨w.heap.size, 2, none⟩ z).setCell ⟨w.heap.size, 3, none⟩ u).setCell ⟨w.heap.size, 4, none⟩ v) := by
  rw [hQ.out]
  exact ⟨rfl, hbut.new5 (Nat.le_refl _) _ _ _ _ _, fun h => absurd h (by decide)⟩
theorem q_ret {s : ByteArray} {b k : Nat} {Q : Option (List UInt8 × List UInt8)} {acc : List UInt8} {w wq : World} (hQ : Hid (Q = some (acc, s.data.toList.drop (k + 1)))) (hk : k < s.size) (hb : b < w.heap.size) (hbut : But b w wq)
    (hblk : Blk wq b #[.string s, .int .i64 ((k : Int) + 1)] 36) (x y z u v : Value) :
    OneIs s b (quoR Q) w (.returned (tokR ⟨2, acc, 0, false, 0⟩ 0)) (((((wq.setCell ⟨w.heap.size, 0, none⟩ x).setCell ⟨w.heap.size, 1, none⟩ y).setCell ⟨w.heap.size, 2, none⟩ z).setCell ⟨w.heap.size, 3, none⟩ u).setCell ⟨w.heap.size, 4, none⟩ v) := by
  rw [hQ.out]
  exact ⟨rfl, hbut.new5 (Nat.le_refl _) _ _ _ _ _, fun _ => ⟨k + 1, by omega, rfl, hblk.other5 (by omega) _ _ _ _ _⟩⟩
theorem idx_p (l : List UInt8) (c : UInt8) (w : World) : Calls Tryd.prog 14 #[.string ⟨l.toArray⟩, .int .u8 c.toNat] w fun e w' => e = .returned (.int .i64 (Lib.indexByte l c)) ∧ w = w' :=
  (Tryd.strings_IndexByte ⟨l.toArray⟩ c.toNat w).mono fun e w' ⟨h1, h2⟩ => ⟨by rw [h1]; simp, h2.symm⟩
theorem quot_two {acc r : List UInt8} {c d : UInt8} : quotS acc (c :: d :: r) =
    if c == 39 then (if d == 39 then quotS (acc ++ [39]) r else some (acc, d :: r))
    else if c < 32 || 126 < c then none
    else if c == 92 then
      (if d == 110 then quotS (acc ++ [10]) r else if d == 116 then quotS (acc ++ [9]) r else if d == 92 then quotS (acc ++ [92]) r else if d == 39 then quotS (acc ++ [39]) r else none)
    else quotS (acc ++ [c]) (d :: r) := by rw [quotS]
theorem bad_or {c : UInt8} : (c < 32 || 126 < c) = (decide ((c.toNat : Int) < 32) || decide (126 < (c.toNat : Int))) := by
  have h1 : (c < 32) ↔ ((c.toNat : Int) < 32) := by rw [UInt8.lt_iff_toNat_lt]; show c.toNat < 32 ↔ _; omega
  have h2 : (126 < c) ↔ (126 < (c.toNat : Int)) := by rw [UInt8.lt_iff_toNat_lt]; show 126 < c.toNat ↔ _; omega
  rw [decide_eq_decide.mpr h1, decide_eq_decide.mpr h2]
theorem idx_esc (d : UInt8) (h1 : (d == 110) = false) (h2 : (d == 116) = false) (h3 : (d == 92) = false) (h4 : (d == 39) = false) : Lib.indexByte [110, 116, 92, 39] d = -1 := by
  have hg := Lib.indexByte_ge [110, 116, 92, 39] d
  have hc := indexByte_geq [110, 116, 92, 39] d
  rw [show ([110, 116, 92, 39] : List UInt8).contains d = false from by simp only [List.contains_cons, h1, h2, h3, h4]; rfl] at hc
  have := of_decide_eq_false hc
  omega
set_option maxRecDepth 100000 in
set_option maxHeartbeats 10000000 in
theorem quoted_any (s : ByteArray) (b i : Nat) (hi : i < s.size) (hs : s.size ≤ 4096) (w : World) (hb : Blk w b #[.string s, .int .i64 i] 36) :
    Calls Tryd.prog 22 #[.pointer (some ⟨b, 0, none⟩)] w (OneIs s b (quoR (quotS [] (s.data.toList.drop (i + 1)))) w) := by
  obtain ⟨c0, c1, f0, f1, hbl⟩ := hb.two
  obtain ⟨Q, hQ⟩ : ∃ Q, Q = quotS [] (s.data.toList.drop (i + 1)) := ⟨_, rfl⟩
  rw [← hQ]
  have HQ := Lib.hid hQ; clear hQ
  have n0 : b ≠ w.heap.size := by omega
  obtain ⟨i0, hi0, hz0, hz1, hz2⟩ := info_parts info_u8
  have kw : IntKind.i64.wrap ((i : Int) + 1) = (i : Int) + 1 := IntWalk.i64_in _ (by omega)
  go_enter Tryd.func22, Tryd.ntmps22
  go_wp2_with fail
  go_loopg [4] (s.size - (i + 1)) (fun g v wr => ∃ (k : Nat) (acc : List UInt8), g = s.size - k ∧ QRel s b Q w k acc v wr)
  case atStart => exact ⟨i + 1, [], by omega, by omega, HQ.out, World.ownsRow_nil _ _ _ _, Lib.hid (Nat.zero_le _), (by repeat (first | exact But.refl _ _ | assumption | apply But.drewN | apply But.set | apply But.alloc | refine But.trans ?_ (by assumption))), (hb.store 1 _).alloc _, Blk.new' (by simp) _ _⟩
  case round =>
    obtain ⟨k, acc, hg, h2, hr, hown, hal, hbut, hblk, htok⟩ := hrel
    have G := Lib.hid hg; clear hg
    obtain ⟨c0, c1, f0, f1, lt⟩ := hblk.two
    obtain ⟨t0, t1, t2, t3, t4, z0, z1, z2, z3, z4, ltt⟩ := htok.five
    have k0 : (0 : Int) ≤ (k : Int) := by omega
    have hcv : ∀ n (x : Value), Sem.run Tryd.prog (convert 39 9 u4) ((wr.drewN n).setCell ⟨b, 1, none⟩ x) = .ok (.string ⟨acc.toArray⟩) ((wr.drewN n).setCell ⟨b, 1, none⟩ x) := fun n x => conv_own (own_set (own_drewN hown n) (by omega) 1 x)
    by_cases hlt : k < s.size
    · have hlt' : (k : Int) < (s.size : Int) := by omega
      have kw : IntKind.i64.wrap ((k : Int) + 1) = (k : Int) + 1 := IntWalk.i64_in _ (by omega)
      by_cases hn : k + 1 < s.size
      · have hn' : (k : Int) + 1 < (s.size : Int) := by omega
        have kw2 : IntKind.i64.wrap ((k : Int) + 1 + 1) = (k : Int) + 1 + 1 := IntWalk.i64_in _ (by omega)
        have k1 : (0 : Int) ≤ (k : Int) + 1 := by omega
        have k3 : ((k : Int) + 1).toNat = k + 1 := by omega
        have hdk : s.data.toList.drop k = s[k] :: s[k + 1] :: s.data.toList.drop (k + 2) := by rw [drop_cons hlt, drop_cons hn]
        have hdk1 : s.data.toList.drop (k + 1) = s[k + 1] :: s.data.toList.drop (k + 2) := by rw [drop_cons hn]
        rw [hdk, quot_two, bad_or] at hr
        have D1 := Lib.hid hdk1
        clear hdk hdk1
        cases h39 : s[k] == 39
        · have e39 : ((s[k].toNat : Int) == 39) = false := by rw [u8_eq s[k] 39 39 rfl]; exact h39
          by_cases hbad : (s[k].toNat : Int) < 32 ∨ 126 < (s[k].toNat : Int)
          · have hQ0 : Hid (Q = none) := Lib.hid (by rw [hr.out, h39]; rcases hbad with h | h <;> simp [h])
            rcases hbad with hb1 | hb1
            · clear hcv hr
              go_wp2_with fail
              go_quiet (fail)
              go_wp2_with fail
              go_quiet (fail)
              go_wp2_with fail
              go_quiet (fail)
              go_wp2_with fail
              go_quiet (fail)
              go_wp2
              (try simp only [Exit.inBlock, Exit.then]); refine bodyPost_ret (res_tok rfl _ w.heap.size rfl 2 rfl tok0 _ ((htok.drewN _).storeTok _ _ _ _ _)) rfl ?_
              exact q_err hQ0 (hbut.drewN _) _ _ _ _ _
            · have hb0 : ¬ (s[k].toNat : Int) < 32 := by omega
              clear hcv hr
              go_wp2_with fail
              go_quiet (fail)
              go_wp2_with fail
              go_quiet (fail)
              go_wp2_with fail
              go_quiet (fail)
              go_wp2_with fail
              go_quiet (fail)
              go_wp2
              (try simp only [Exit.inBlock, Exit.then]); refine bodyPost_ret (res_tok rfl _ w.heap.size rfl 2 rfl tok0 _ ((htok.drewN _).storeTok _ _ _ _ _)) rfl ?_
              exact q_err hQ0 (hbut.drewN _) _ _ _ _ _
          · have hb1 : ¬ (s[k].toNat : Int) < 32 := by omega
            have hb2 : ¬ 126 < (s[k].toNat : Int) := by omega
            cases h92 : s[k] == 92
            · have e92 : ((s[k].toNat : Int) == 92) = false := by rw [u8_eq s[k] 92 92 rfl]; exact h92
              have hQ0 : Hid (Q = quotS (acc ++ [s[k]]) (s.data.toList.drop (k + 1))) := Lib.hid (by rw [hr.out, h39, h92, D1.out]; simp [hb1, hb2])
              clear hr
              clear hcv t0 t1 t2 t3 t4 z0 z1 z2 z3 z4
              go_wp2_with fail
              go_quiet (fail)
              go_wp2_with fail
              go_quiet (fail)
              go_wp2_with fail
              go_quiet (fail)
              go_wp2_with fail
              go_quiet (fail)
              go_wp2_with (at_builtin; refine wpList_append_own _ rfl _ _ 39 rfl (w.heap.size + 1) 5 i0 (.int .u8 0) 1 1 Tryd.underlying39 hi0 hz0 hz1 hz2 rfl (by decide) _ _ _ rfl ((own_drewN hown _).alloc _) ⟨wr.heap.size, 0, none⟩ 1 1 [.int .u8 s[k].toNat] rfl rfl (one_new' (by simp)) (by intro u hu; simp at hu; subst hu; rfl) (by have := hal.out; unfold maxLen; omega) (by have := hal.out; omega) (by have := hbut.size; have := hblk.lt; simp; omega) ?_; intro v' w1 hown' hgrow hnil; obtain ⟨x0, x1, y0, y1, ltq⟩ := (Blk.grown ((hblk.drewN _).alloc _) hgrow (fun g e => by have := (hown.lt g e).1; omega)).two)
              go_roundg (s.size - (k + 1))
              case measure => have := G.out; omega
              case rel => exact ⟨k + 1, _, rfl, q_app hbl hown hal (hbut.drewN _) (hblk.drewN _) (htok.drewN _) (hQ0.out) (by omega) (by omega) hown' hgrow⟩
            · have e92 : ((s[k].toNat : Int) == 92) = true := by rw [u8_eq s[k] 92 92 rfl]; exact h92
              have hd : (s[k + 1] == 110) = true ∨ (s[k + 1] == 116) = true ∨ (s[k + 1] == 92) = true ∨ (s[k + 1] == 39) = true ∨ ((s[k + 1] == 110) = false ∧ (s[k + 1] == 116) = false ∧ (s[k + 1] == 92) = false ∧ (s[k + 1] == 39) = false) := by
                cases s[k + 1] == 110 <;> cases s[k + 1] == 116 <;> cases s[k + 1] == 92 <;> cases s[k + 1] == 39 <;> simp
              rcases hd with hd | hd | hd | hd | hd
              · have hq : Q = quotS (acc ++ [10]) (s.data.toList.drop (k + 2)) := by
                  have hd2 : s[k + 1] = 110 := eq_of_beq hd
                  have := hr.out
                  rw [h39, h92, hd2] at this
                  rw [this]; simp [hb1, hb2]
                have hix : Lib.indexByte [110, 116, 92, 39] s[k + 1] = 0 := by have h := eq_of_beq hd; rw [h]; decide
                have hQ0 := Lib.hid hq
                clear hr hq hd
                clear hcv t0 t1 t2 t3 t4 z0 z1 z2 z3 z4
                go_wp2_with fail
                go_quiet (fail)
                go_wp2_with fail
                go_quiet (fail)
                go_wp2_with fail
                go_quiet (fail)
                go_wp2_with fail
                go_quiet (fail)
                go_wp2_with fail
                refine (idx_p _ s[k + 1] _).mono ?_; rintro e w' ⟨rfl, rfl⟩
                rw [hix]
                go_wp2_with (at_builtin; refine wpList_append_own _ rfl _ _ 39 rfl (w.heap.size + 1) 5 i0 (.int .u8 0) 1 1 Tryd.underlying39 hi0 hz0 hz1 hz2 rfl (by decide) _ _ _ rfl ((own_set (own_drewN hown _) (by omega) 1 _).alloc _) ⟨wr.heap.size, 0, none⟩ 1 1 [.int .u8 10] rfl rfl (one_new' (by simp)) (by intro u hu; simp at hu; subst hu; rfl) (by have := hal.out; unfold maxLen; omega) (by have := hal.out; omega) (by have := hbut.size; have := hblk.lt; simp; omega) ?_; intro v' w1 hown' hgrow hnil; obtain ⟨x0, x1, y0, y1, ltq⟩ := (Blk.grown (((hblk.drewN _).store 1 (.int .i64 ((k : Int) + 1))).alloc _) hgrow (fun g e => by have := (hown.lt g e).1; omega)).two)
                go_roundg (s.size - (k + 1 + 1))
                case measure => have := G.out; omega
                case rel => exact ⟨k + 1 + 1, _, rfl, q_app hbl hown hal ((hbut.drewN _).set 1 (.int .i64 ((k : Int) + 1))) ((hblk.drewN _).store 1 _) ((htok.drewN _).other n0 _) (hQ0.out) (by omega) (by omega) hown' hgrow⟩
              · have hq : Q = quotS (acc ++ [9]) (s.data.toList.drop (k + 2)) := by
                  have hd2 : s[k + 1] = 116 := eq_of_beq hd
                  have := hr.out
                  rw [h39, h92, hd2] at this
                  rw [this]; simp [hb1, hb2]
                have hix : Lib.indexByte [110, 116, 92, 39] s[k + 1] = 1 := by have h := eq_of_beq hd; rw [h]; decide
                have hQ0 := Lib.hid hq
                clear hr hq hd
                clear hcv t0 t1 t2 t3 t4 z0 z1 z2 z3 z4
                go_wp2_with fail
                go_quiet (fail)
                go_wp2_with fail
                go_quiet (fail)
                go_wp2_with fail
                go_quiet (fail)
                go_wp2_with fail
                go_quiet (fail)
                go_wp2_with fail
                refine (idx_p _ s[k + 1] _).mono ?_; rintro e w' ⟨rfl, rfl⟩
                rw [hix]
                go_wp2_with (at_builtin; refine wpList_append_own _ rfl _ _ 39 rfl (w.heap.size + 1) 5 i0 (.int .u8 0) 1 1 Tryd.underlying39 hi0 hz0 hz1 hz2 rfl (by decide) _ _ _ rfl ((own_set (own_drewN hown _) (by omega) 1 _).alloc _) ⟨wr.heap.size, 0, none⟩ 1 1 [.int .u8 9] rfl rfl (one_new' (by simp)) (by intro u hu; simp at hu; subst hu; rfl) (by have := hal.out; unfold maxLen; omega) (by have := hal.out; omega) (by have := hbut.size; have := hblk.lt; simp; omega) ?_; intro v' w1 hown' hgrow hnil; obtain ⟨x0, x1, y0, y1, ltq⟩ := (Blk.grown (((hblk.drewN _).store 1 (.int .i64 ((k : Int) + 1))).alloc _) hgrow (fun g e => by have := (hown.lt g e).1; omega)).two)
                go_roundg (s.size - (k + 1 + 1))
                case measure => have := G.out; omega
                case rel => exact ⟨k + 1 + 1, _, rfl, q_app hbl hown hal ((hbut.drewN _).set 1 (.int .i64 ((k : Int) + 1))) ((hblk.drewN _).store 1 _) ((htok.drewN _).other n0 _) (hQ0.out) (by omega) (by omega) hown' hgrow⟩
              · have hq : Q = quotS (acc ++ [92]) (s.data.toList.drop (k + 2)) := by
                  have hd2 : s[k + 1] = 92 := eq_of_beq hd
                  have := hr.out
                  rw [h39, h92, hd2] at this
                  rw [this]; simp [hb1, hb2]
                have hix : Lib.indexByte [110, 116, 92, 39] s[k + 1] = 2 := by have h := eq_of_beq hd; rw [h]; decide
                have hQ0 := Lib.hid hq
                clear hr hq hd
                clear hcv t0 t1 t2 t3 t4 z0 z1 z2 z3 z4
                go_wp2_with fail
                go_quiet (fail)
                go_wp2_with fail
                go_quiet (fail)
                go_wp2_with fail
                go_quiet (fail)
                go_wp2_with fail
                go_quiet (fail)
                go_wp2_with fail
                refine (idx_p _ s[k + 1] _).mono ?_; rintro e w' ⟨rfl, rfl⟩
                rw [hix]
                go_wp2_with (at_builtin; refine wpList_append_own _ rfl _ _ 39 rfl (w.heap.size + 1) 5 i0 (.int .u8 0) 1 1 Tryd.underlying39 hi0 hz0 hz1 hz2 rfl (by decide) _ _ _ rfl ((own_set (own_drewN hown _) (by omega) 1 _).alloc _) ⟨wr.heap.size, 0, none⟩ 1 1 [.int .u8 92] rfl rfl (one_new' (by simp)) (by intro u hu; simp at hu; subst hu; rfl) (by have := hal.out; unfold maxLen; omega) (by have := hal.out; omega) (by have := hbut.size; have := hblk.lt; simp; omega) ?_; intro v' w1 hown' hgrow hnil; obtain ⟨x0, x1, y0, y1, ltq⟩ := (Blk.grown (((hblk.drewN _).store 1 (.int .i64 ((k : Int) + 1))).alloc _) hgrow (fun g e => by have := (hown.lt g e).1; omega)).two)
                go_roundg (s.size - (k + 1 + 1))
                case measure => have := G.out; omega
                case rel => exact ⟨k + 1 + 1, _, rfl, q_app hbl hown hal ((hbut.drewN _).set 1 (.int .i64 ((k : Int) + 1))) ((hblk.drewN _).store 1 _) ((htok.drewN _).other n0 _) (hQ0.out) (by omega) (by omega) hown' hgrow⟩
              · have hq : Q = quotS (acc ++ [39]) (s.data.toList.drop (k + 2)) := by
                  have hd2 : s[k + 1] = 39 := eq_of_beq hd
                  have := hr.out
                  rw [h39, h92, hd2] at this
                  rw [this]; simp [hb1, hb2]
                have hix : Lib.indexByte [110, 116, 92, 39] s[k + 1] = 3 := by have h := eq_of_beq hd; rw [h]; decide
                have hQ0 := Lib.hid hq
                clear hr hq hd
                clear hcv t0 t1 t2 t3 t4 z0 z1 z2 z3 z4
                go_wp2_with fail
                go_quiet (fail)
                go_wp2_with fail
                go_quiet (fail)
                go_wp2_with fail
                go_quiet (fail)
                go_wp2_with fail
                go_quiet (fail)
                go_wp2_with fail
                refine (idx_p _ s[k + 1] _).mono ?_; rintro e w' ⟨rfl, rfl⟩
                rw [hix]
                go_wp2_with (at_builtin; refine wpList_append_own _ rfl _ _ 39 rfl (w.heap.size + 1) 5 i0 (.int .u8 0) 1 1 Tryd.underlying39 hi0 hz0 hz1 hz2 rfl (by decide) _ _ _ rfl ((own_set (own_drewN hown _) (by omega) 1 _).alloc _) ⟨wr.heap.size, 0, none⟩ 1 1 [.int .u8 39] rfl rfl (one_new' (by simp)) (by intro u hu; simp at hu; subst hu; rfl) (by have := hal.out; unfold maxLen; omega) (by have := hal.out; omega) (by have := hbut.size; have := hblk.lt; simp; omega) ?_; intro v' w1 hown' hgrow hnil; obtain ⟨x0, x1, y0, y1, ltq⟩ := (Blk.grown (((hblk.drewN _).store 1 (.int .i64 ((k : Int) + 1))).alloc _) hgrow (fun g e => by have := (hown.lt g e).1; omega)).two)
                go_roundg (s.size - (k + 1 + 1))
                case measure => have := G.out; omega
                case rel => exact ⟨k + 1 + 1, _, rfl, q_app hbl hown hal ((hbut.drewN _).set 1 (.int .i64 ((k : Int) + 1))) ((hblk.drewN _).store 1 _) ((htok.drewN _).other n0 _) (hQ0.out) (by omega) (by omega) hown' hgrow⟩
              · have hQ0 : Hid (Q = none) := Lib.hid (by rw [hr.out, h39, h92, hd.1, hd.2.1, hd.2.2.1, hd.2.2.2]; simp [hb1, hb2])
                have hix : Lib.indexByte [110, 116, 92, 39] s[k + 1] = -1 := idx_esc _ hd.1 hd.2.1 hd.2.2.1 hd.2.2.2
                clear hcv hr hd
                go_wp2_with fail
                go_quiet (fail)
                go_wp2_with fail
                go_quiet (fail)
                go_wp2_with fail
                go_quiet (fail)
                go_wp2_with fail
                go_quiet (fail)
                go_wp2_with fail
                refine (idx_p _ s[k + 1] _).mono ?_; rintro e w' ⟨rfl, rfl⟩
                rw [hix]
                go_wp2
                (try simp only [Exit.inBlock, Exit.then]); refine bodyPost_ret (res_tok rfl _ w.heap.size rfl 2 rfl tok0 _ ((htok.drewN _).storeTok _ _ _ _ _)) rfl ?_
                exact q_err hQ0 (hbut.drewN _) _ _ _ _ _
        · have e39 : ((s[k].toNat : Int) == 39) = true := by rw [u8_eq s[k] 39 39 rfl]; exact h39
          cases d39 : s[k + 1] == 39
          · have f39 : ((s[k + 1].toNat : Int) != 39) = true := by rw [bne, u8_eq s[k + 1] 39 39 rfl, d39]; rfl
            have hQ0 : Hid (Q = some (acc, s.data.toList.drop (k + 1))) := Lib.hid (by rw [hr.out, h39, d39, D1.out]; rfl)
            clear hr
            go_wp2_with fail
            go_quiet (fail)
            go_wp2_with fail
            go_quiet (fail)
            go_wp2_with fail
            go_quiet (fail)
            go_wp2_with fail
            go_quiet (fail)
            go_wp2
            (try simp only [Exit.inBlock, Exit.then]); refine bodyPost_ret (res_tok rfl _ w.heap.size rfl 0 rfl ⟨2, acc, 0, false, 0⟩ _ (((htok.drewN _).other n0 _).storeTok _ _ _ _ _)) rfl ?_
            exact q_ret hQ0 hlt hbl ((hbut.drewN _).set _ _) ((hblk.drewN _).store 1 _) _ _ _ _ _
          · have f39 : ((s[k + 1].toNat : Int) != 39) = false := by rw [bne, u8_eq s[k + 1] 39 39 rfl, d39]; rfl
            have hQ0 : Hid (Q = quotS (acc ++ [s[k]]) (s.data.toList.drop (k + 2))) := Lib.hid (by rw [hr.out, h39, d39, eq_of_beq h39]; rfl)
            have hb1 : ¬ (s[k].toNat : Int) < 32 := by have := eq_of_beq h39; rw [this]; decide
            have hb2 : ¬ 126 < (s[k].toNat : Int) := by have := eq_of_beq h39; rw [this]; decide
            clear hr
            clear hcv t0 t1 t2 t3 t4 z0 z1 z2 z3 z4
            go_wp2_with fail
            go_quiet (fail)
            go_wp2_with fail
            go_quiet (fail)
            go_wp2_with fail
            go_quiet (fail)
            go_wp2_with fail
            go_quiet (fail)
            go_wp2_with (at_builtin; refine wpList_append_own _ rfl _ _ 39 rfl (w.heap.size + 1) 5 i0 (.int .u8 0) 1 1 Tryd.underlying39 hi0 hz0 hz1 hz2 rfl (by decide) _ _ _ rfl ((own_set (own_drewN hown _) (by omega) 1 _).alloc _) ⟨wr.heap.size, 0, none⟩ 1 1 [.int .u8 s[k].toNat] rfl rfl (one_new' (by simp)) (by intro u hu; simp at hu; subst hu; rfl) (by have := hal.out; unfold maxLen; omega) (by have := hal.out; omega) (by have := hbut.size; have := hblk.lt; simp; omega) ?_; intro v' w1 hown' hgrow hnil; obtain ⟨x0, x1, y0, y1, ltq⟩ := (Blk.grown (((hblk.drewN _).store 1 (.int .i64 ((k : Int) + 1))).alloc _) hgrow (fun g e => by have := (hown.lt g e).1; omega)).two)
            go_roundg (s.size - (k + 1 + 1))
            case measure => have := G.out; omega
            case rel => exact ⟨k + 1 + 1, _, rfl, q_app hbl hown hal ((hbut.drewN _).set 1 (.int .i64 ((k : Int) + 1))) ((hblk.drewN _).store 1 _) ((htok.drewN _).other n0 _) (hQ0.out) (by omega) (by omega) hown' hgrow⟩
      · have hn' : ¬ (k : Int) + 1 < (s.size : Int) := by omega
        have hdk : s.data.toList.drop k = [s[k]] := by rw [drop_cons hlt, drop_nil hn]
        rw [hdk, quot_one] at hr
        clear hdk
        cases h39 : s[k] == 39
        · have e39 : ((s[k].toNat : Int) == 39) = false := by rw [u8_eq s[k] 39 39 rfl]; exact h39
          have hQ0 : Hid (Q = none) := Lib.hid (by rw [hr.out, h39]; rfl)
          clear hr
          by_cases hbad : (s[k].toNat : Int) < 32 ∨ 126 < (s[k].toNat : Int)
          · rcases hbad with hb1 | hb1
            · clear hcv
              go_wp2_with fail
              go_quiet (fail)
              go_wp2_with fail
              go_quiet (fail)
              go_wp2_with fail
              go_quiet (fail)
              go_wp2
              (try simp only [Exit.inBlock, Exit.then]); refine bodyPost_ret (res_tok rfl _ w.heap.size rfl 2 rfl tok0 _ ((htok.drewN _).storeTok _ _ _ _ _)) rfl ?_
              exact q_err hQ0 (hbut.drewN _) _ _ _ _ _
            · have hb0 : ¬ (s[k].toNat : Int) < 32 := by omega
              clear hcv
              go_wp2_with fail
              go_quiet (fail)
              go_wp2_with fail
              go_quiet (fail)
              go_wp2_with fail
              go_quiet (fail)
              go_wp2
              (try simp only [Exit.inBlock, Exit.then]); refine bodyPost_ret (res_tok rfl _ w.heap.size rfl 2 rfl tok0 _ ((htok.drewN _).storeTok _ _ _ _ _)) rfl ?_
              exact q_err hQ0 (hbut.drewN _) _ _ _ _ _
          · have hb1 : ¬ (s[k].toNat : Int) < 32 := by omega
            have hb2 : ¬ 126 < (s[k].toNat : Int) := by omega
            cases h92 : s[k] == 92
            · have e92 : ((s[k].toNat : Int) == 92) = false := by rw [u8_eq s[k] 92 92 rfl]; exact h92
              clear hcv t0 t1 t2 t3 t4 z0 z1 z2 z3 z4
              go_wp2_with fail
              go_quiet (fail)
              go_wp2_with fail
              go_quiet (fail)
              go_wp2_with fail
              go_quiet (fail)
              go_wp2_with (at_builtin; refine wpList_append_own _ rfl _ _ 39 rfl (w.heap.size + 1) 5 i0 (.int .u8 0) 1 1 Tryd.underlying39 hi0 hz0 hz1 hz2 rfl (by decide) _ _ _ rfl ((own_drewN hown _).alloc _) ⟨wr.heap.size, 0, none⟩ 1 1 [.int .u8 s[k].toNat] rfl rfl (one_new' (by simp)) (by intro u hu; simp at hu; subst hu; rfl) (by have := hal.out; unfold maxLen; omega) (by have := hal.out; omega) (by have := hbut.size; have := hblk.lt; simp; omega) ?_; intro v' w1 hown' hgrow hnil; obtain ⟨x0, x1, y0, y1, ltq⟩ := (Blk.grown ((hblk.drewN _).alloc _) hgrow (fun g e => by have := (hown.lt g e).1; omega)).two)
              go_roundg (s.size - (k + 1))
              case measure => have := G.out; omega
              case rel => exact ⟨k + 1, _, rfl, q_app hbl hown hal (hbut.drewN _) (hblk.drewN _) (htok.drewN _) (by rw [hQ0.out, drop_nil hn]; rfl) (by omega) (by omega) hown' hgrow⟩
            · have e92 : ((s[k].toNat : Int) == 92) = true := by rw [u8_eq s[k] 92 92 rfl]; exact h92
              clear hcv
              go_wp2_with fail
              go_quiet (fail)
              go_wp2_with fail
              go_quiet (fail)
              go_wp2_with fail
              go_quiet (fail)
              go_wp2_with fail
              refine (idx_p [110, 116, 92, 39] 0 _).mono ?_; rintro e w' ⟨rfl, rfl⟩
              rw [show Lib.indexByte [110, 116, 92, 39] 0 = -1 from by decide]
              go_wp2
              (try simp only [Exit.inBlock, Exit.then]); refine bodyPost_ret (res_tok rfl _ w.heap.size rfl 2 rfl tok0 _ ((htok.drewN _).storeTok _ _ _ _ _)) rfl ?_
              exact q_err hQ0 (hbut.drewN _) _ _ _ _ _
        · have e39 : ((s[k].toNat : Int) == 39) = true := by rw [u8_eq s[k] 39 39 rfl]; exact h39
          have hQ0 : Hid (Q = some (acc, s.data.toList.drop (k + 1))) := Lib.hid (by rw [hr.out, h39, drop_nil hn]; rfl)
          clear hr
          go_wp2_with fail
          go_quiet (fail)
          go_wp2_with fail
          go_quiet (fail)
          go_wp2_with fail
          go_quiet (fail)
          go_wp2
          (try simp only [Exit.inBlock, Exit.then]); refine bodyPost_ret (res_tok rfl _ w.heap.size rfl 0 rfl ⟨2, acc, 0, false, 0⟩ _ (((htok.drewN _).other n0 _).storeTok _ _ _ _ _)) rfl ?_
          exact q_ret hQ0 hlt hbl ((hbut.drewN _).set _ _) ((hblk.drewN _).store 1 _) _ _ _ _ _
    · have hlt' : decide ((k : Int) < (s.size : Int)) = false := by simp; omega
      have hQ0 : Hid (Q = none) := Lib.hid (by rw [hr.out, drop_nil hlt]; rfl)
      clear hcv hr
      go_wp2_with fail
      go_quiet (fail)
      go_wp2
      (try simp only [Exit.inBlock, Exit.then]); refine bodyPost_ret (res_tok rfl _ w.heap.size rfl 2 rfl tok0 _ ((htok.drewN _).storeTok _ _ _ _ _)) rfl ?_
      exact q_err hQ0 (hbut.drewN _) _ _ _ _ _
end Go.Proofs.YtofefbonokikfaaDoor
