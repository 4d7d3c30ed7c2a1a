/- More operations, read abstractly: interfaces, empty slices, made slices. -/
import Derived.Test.YtcnnobcncklgfaaGreatDoorAbsConv
import Derived.Laws.MakeOwn
namespace Go.Abs
open Go Go.RowKit
set_option linter.unusedVariables false
def amkiface (P : Program) (t : TypeId) (x : AV) : Option AV :=
  match P.underlying t with
  | some (.interface _) => none
  | some _ => some (.iface t x)
  | none => none
theorem amkiface_ok {P : Program} {G : Gh} {t : TypeId} {x y : AV} {u : Value} (hx : VR G x u) (h : amkiface P t x = some y) (w : World) : ∃ r, (Instr.makeInterface t u).run P w = .ok r w ∧ VR G y r := by
  unfold amkiface at h
  split at h
  · cases h
  · rename_i d hd hne
    cases h
    refine ⟨.iface t u, ?_, by simp only [VR]; exact ⟨u, rfl, hx⟩⟩
    cases d <;> simp [Instr.makeInterface, run_underlying hne] at hd ⊢
  · cases h
/-- A slice of no elements. -/
def abuildSliceE (P : Program) (t : TypeId) (len : Nat) (parts : List (Nat × AV)) (H : AH) : Option (AV × AH) :=
  match len, parts, P.underlying t with
  | 0, [], some (.slice e) => (P.info? e).map fun _ => (.zslc, H)
  | len, parts, _ => abuildSlice P t len parts H
theorem abuildSliceE_ok {P : Program} {K : Kx} {G : Gh} {H H' : AH} {w : World} (h : HRel K G H w) {t : TypeId} {len : Nat} {parts : List (Nat × AV)} {ps : Array (Nat × Value)} {x : AV} (hl : parts.length = ps.size)
    (hp : ∀ (j : Nat) p, parts[j]? = some p → ∃ v, ps[j]? = some (p.1, v) ∧ VR G p.2 v) (hb : abuildSliceE P t len parts H = some (x, H')) :
    ∃ u w' G', (Instr.buildSlice t len ps).run P w = .ok u w' ∧ G.le G' ∧ HRel K G' H' w' ∧ VR G' x u := by
  unfold abuildSliceE at hb
  split at hb
  · rename_i e hu
    rw [Option.map_eq_some_iff] at hb
    obtain ⟨i, hi, hx⟩ := hb
    cases hx
    have hps : ps = #[] := by apply Array.eq_empty_of_size_eq_zero; simpa using hl.symm
    subst hps
    obtain ⟨k1, k2⟩ := h.newGood (cs := #[]) (t := e) (f := (0, 0)) (w' := w.alloc (.cells #[] e)) (Below.alloc (Below.refl _ _) (Nat.le_refl _) _) (by show (w.heap.push _)[w.heap.size]? = _; simp) (fun c hc => by simp at hc)
    refine ⟨.slice (some ⟨w.heap.size, 0, none⟩) 0 0, _, _, ?_, k1, k2, by simp only [VR]; exact ⟨_, rfl⟩⟩
    have e0 : ∀ f : Nat → Value, Array.map f (Array.range 0) = #[] := fun f => Array.eq_empty_of_size_eq_zero (by simp)
    simp [Instr.buildSlice, run_underlying hu, run_size hi, Instr.fill, newRow]
    rw [e0]
  · exact abuildSlice_ok h hl hp hb
/-- A slice that is made. -/
def amkslice (P : Program) (t : TypeId) (l c : AV) (H : AH) : Option (AV × AH) :=
  match P.underlying t, l, c with
  | some (.slice e), .int _ l, .int _ c =>
    match zeroA P e with
    | some zv => if zv.fit = true ∧ zv.cells.length = P.cellsOf e ∧ P.cellsOf e ≠ 0 ∧ 0 ≤ l ∧ l ≤ c ∧ c.toNat * P.cellsOf e ≤ 16777216 ∧ P.bytesOf e * c ≤ 281474976710656 ∧ c ≤ 9223372036854775807 ∧ H.free = true then
        some (.slc H.next 0 0 l.toNat (P.cellsOf e), H.add ((List.replicate l.toNat zv.cells).flatten)) else none
    | none => none
  | _, _, _ => none
theorem flatten_replicate_get {α : Type} (z : List α) : ∀ (n m : Nat), n ≤ m → ∀ (j : Nat) x, ((List.replicate n z).flatten)[j]? = some x → ((List.replicate m z).flatten)[j]? = some x := by
  intro n m h j x hx
  obtain ⟨k, rfl⟩ := Nat.exists_eq_add_of_le h
  rw [← List.replicate_append_replicate, List.flatten_append, List.getElem?_append_left (List.getElem?_eq_some_iff.1 hx).1]
  exact hx
theorem amkslice_ok {P : Program} {K : Kx} {G : Gh} {H H' : AH} {w : World} (h : HRel K G H w) {t : TypeId} {l c x : AV} {vl vc : Value} (hl : VR G l vl) (hc : VR G c vc) (hb : amkslice P t l c H = some (x, H')) :
    ∃ u w' G', (Instr.makeSlice t vl vc).run P w = .ok u w' ∧ G.le G' ∧ HRel K G' H' w' ∧ VR G' x u := by
  unfold amkslice at hb
  split at hb
  · rename_i e kl l kc c hu
    split at hb
    · rename_i zv hz
      split at hb
      · rename_i hh
        obtain ⟨hfit, hzl, hzne, h0, hlc, hsm, hby, h63, hfree⟩ := hh
        cases hb
        simp only [VR] at hl hc
        subst hl; subst hc
        obtain ⟨v, i, hi, hzv, _, hv⟩ := zeroA_ok (G := G) hz w
        obtain ⟨q1, q2, q3⟩ := fit_ok hfit hv
        have hcs : P.cellsOf e = i.size := by simp [Program.cellsOf, hi]
        have hbs : P.bytesOf e = i.bytes := by simp [Program.bytesOf, hi]
        have hsz : v.cells.size = i.size := by rw [← Array.length_toList, q1.len, hzl, hcs]
        have hrun := run_makeSlice (P := P) w t e i v hu hi hzv kl kc l c h0 hlc (by rw [← hcs]; exact hsm) (by rw [← hbs]; exact hby) h63
        have hrep : (madeCells v.cells (c.toNat * i.size)).toList = (List.replicate c.toNat v.cells.toList).flatten := by
          rw [← hsz]; exact repeat_cells v.cells c.toNat
        have hvs := q1.repeat c.toNat
        have hf := h.fresh H.next (AH.free_ok hfree)
        have hlen : ((List.replicate c.toNat v.cells.toList).flatten).length = c.toNat * i.size := by simp [← hsz]
        have hle : l.toNat ≤ c.toNat := by omega
        have key := h.newBlock (g := H.next) (e := 0) (fz := 0) (nx := H.next + 1) (xs := (List.replicate l.toNat zv.cells).flatten) (t := e) (cs := madeCells v.cells (c.toNat * i.size))
          (w' := w.alloc (.cells (madeCells v.cells (c.toNat * i.size)) e)) (Below.alloc (Below.refl _ _) (Nat.le_refl _) _) (by show (w.heap.push _)[w.heap.size]? = _; simp) (fun j y hj => by
            have hj' := flatten_replicate_get zv.cells _ _ hle j y hj
            obtain ⟨u, g1, g2⟩ := hvs.get j y hj'
            refine ⟨u, ?_, g2, ?_⟩
            · rw [← Array.getElem?_toList, hrep]; exact g1
            · have hm := List.mem_of_getElem? g1
              rw [List.mem_flatten] at hm
              obtain ⟨l', h1, h2⟩ := hm
              rw [List.mem_replicate] at h1
              rw [h1.2] at h2
              exact q3 u h2) (hf 0) (fun e' _ => hf e')
        refine ⟨_, _, _, hrun, Gh.put_le (hf 0), key, ?_⟩
        simp only [VR]
        refine ⟨_, _, _, c.toNat, Gh.put_same _ _ _ _, rfl, hle, ?_⟩
        rw [← Array.length_toList, hrep, hlen, hcs]
        simp
      · cases hb
    · cases hb
  · cases hb
def isC : Operand → Bool
  | .const _ => true
  | _ => false
/-- nil and the literal nil, of an interface. -/
def anilc (op : BinOp) (d : Option TypeDesc) : Option AV :=
  match op, d with
  | .eql, some (.interface _) => some (.bool true)
  | .neq, some (.interface _) => some (.bool false)
  | _, _ => none
/-- Two operands, of which one may be written in the text. -/
def abinC (P : Program) (op : BinOp) (t : TypeId) (ox oy : Operand) (x y : AV) : Option AV :=
  match x, y with
  | .nili, .nili => bif isC ox || isC oy then anilc op (P.underlying t) else none
  | x, y => abin P op t x y
theorem abinC_ok {P : Program} {G : Gh} {op : BinOp} {t : TypeId} {ox oy : Operand} {x y z : AV} {u v : Value} (h : abinC P op t ox oy x y = some z) (hx : VR G x u) (hy : VR G y v) (w : World) :
    ∃ r, (do eqGuard op t ox oy u v; binOp op t u v : Sem Value).run P w = .ok r w ∧ VR G z r := by
  unfold abinC at h
  split at h
  · cases hc : (isC ox || isC oy) with
    | false => rw [hc] at h; cases h
    | true =>
      rw [hc] at h
      simp only [cond_true] at h
      simp only [VR] at hx hy
      subst hx; subst hy
      have hg : ∀ o, eqGuard o t ox oy .nilIface .nilIface = pure () := by
        intro o
        cases ox <;> cases oy <;> simp [isC] at hc <;> cases o <;> simp [eqGuard]
      rw [hg]
      unfold anilc at h
      split at h
      · rename_i ms hd
        cases h
        refine ⟨.bool true, ?_, by simp [VR]⟩
        have e : binOp .eql t .nilIface .nilIface = (do pure (.bool (← Op.equal t .nilIface .nilIface))) := rfl
        have e2 : (Op.equal t .nilIface .nilIface).run P w = .ok true w := by
          have e3 : ∀ d, (Op.equalIn (d + 1) t .nilIface .nilIface).run P w = .ok true w := fun d => by simp [Op.equalIn, run_underlying hd]
          exact e3 9999
        rw [e]; simp [e2]
      · rename_i ms hd
        cases h
        refine ⟨.bool false, ?_, by simp [VR]⟩
        have e : binOp .neq t .nilIface .nilIface = (do pure (.bool (!(← Op.equal t .nilIface .nilIface)))) := rfl
        have e2 : (Op.equal t .nilIface .nilIface).run P w = .ok true w := by
          have e3 : ∀ d, (Op.equalIn (d + 1) t .nilIface .nilIface).run P w = .ok true w := fun d => by simp [Op.equalIn, run_underlying hd]
          exact e3 9999
        rw [e]; simp [e2]
      · cases h
  · exact abin_ok h hx hy ox oy w
/-- What there is room for: of nil, nothing. -/
def acap (P : Program) (t : TypeId) (x : AV) : Option AV :=
  match P.underlying t, x with
  | some (.slice _), .nils => some (.int .i64 0)
  | _, _ => none
theorem acap_ok {P : Program} {G : Gh} {t ty : TypeId} {x y : AV} {v : Value} (hx : VR G x v) (h : acap P t x = some y) (w : World) : ∃ u, (Builtin.cap_ #[t] ty #[v]).run P w = .ok u w ∧ VR G y u := by
  unfold acap at h
  split at h
  · rename_i e hu
    cases h
    simp only [VR] at hx
    subst hx
    exact ⟨.int .i64 0, by simp [Builtin.cap_, run_underlying hu]; rfl, by simp [VR]⟩
  · cases h
theorem run_append_nil_zeros {P : Program} (w : World) (t u ty e : TypeId) (i : TypeInfo) (z : Value) (k k' : IntKind) (ht : P.underlying t = some (.slice e)) (hu : P.underlying u = some (.int k')) (hi : P.info? e = some i) (hz : i.zero = some z)
    (n : Nat) (h0 : 0 < n) (hsz : 0 < i.size) (h63 : (n : Int) ≤ 9223372036854775807) (h48 : n * i.bytes ≤ 281474976710656) :
    (Builtin.append_ #[t, u] ty #[.slice none 0 0, .int k (n : Int)]).run P w =
      .ok (.slice (some ⟨w.heap.size, 0, none⟩) n (grownCap w n 0 e)) (w.drew.alloc (.cells (Builtin.zeroCells z.cells n ++ Builtin.zeroCells z.cells (grownCap w n 0 e - n)) e)) := by
  have hn : n ≠ 0 := by omega
  have h63' : ¬ (9223372036854775807 < (n : Int)) := by omega
  have h48' : ¬ (281474976710656 < Builtin.nextslicecap n 0 * i.bytes) := by rw [nextslicecap_zero h0]; omega
  have hw : IntKind.i64.wrap (n : Int) = (n : Int) := by
    show (if _ then _ else _) = _
    have e1 : (IntKind.i64.bits) = 64 := rfl
    have e2 : IntKind.i64.signed = true := rfl
    simp only [e1, e2]
    have : (n : Int) % (2 ^ 64 : Int) = n := Int.emod_eq_of_lt (by omega) (by omega)
    rw [this]
    rw [if_neg (by simp; omega)]
  have h48'' : ¬ (281474976710656 < (n : Int) * (i.bytes : Int)) := by
    have : ((n * i.bytes : Nat) : Int) = (n : Int) * (i.bytes : Int) := by simp
    omega
  have hneg : ¬ ((n : Int) < 0) := by omega
  have hns : ¬ (n * i.size = 0) := by
    intro e
    rcases Nat.mul_eq_zero.1 e with h | h <;> omega
  simp [Builtin.append_, run_underlying ht, run_underlying hu, sizeOf, typeInfo, zeroValue, hi, hz, Builtin.lenOf, hn, h63', h48', h48'', hw, hneg, hns, Question.forced, run_firstCells_none, newRow, grownCap, asInt, asIntOf]
/-- append of so many zeros, to nil. -/
def aappendZ (P : Program) (t u : TypeId) (s x : AV) (H : AH) : Option (AV × AH) :=
  match P.underlying t, P.underlying u, s, x with
  | some (.slice e), some (.int _), .nils, .int _ n =>
    match zeroA P e with
    | some zv => if zv.fit = true ∧ zv.cells.length = P.cellsOf e ∧ P.cellsOf e ≠ 0 ∧ 0 < n ∧ n ≤ 9223372036854775807 ∧ n.toNat * P.bytesOf e ≤ 281474976710656 ∧ H.free = true then
        some (.slc H.next 0 0 n.toNat (P.cellsOf e), H.add ((List.replicate n.toNat zv.cells).flatten)) else none
    | none => none
  | _, _, _, _ => none
theorem aappendZ_ok {P : Program} {K : Kx} {G : Gh} {H H' : AH} {w : World} (h : HRel K G H w) {t u ty : TypeId} {s x y : AV} {vs vx : Value} (hs : VR G s vs) (hx : VR G x vx) (ha : aappendZ P t u s x H = some (y, H')) :
    ∃ r w' G', (Builtin.append_ #[t, u] ty #[vs, vx]).run P w = .ok r w' ∧ G.le G' ∧ HRel K G' H' w' ∧ VR G' y r := by
  unfold aappendZ at ha
  split at ha
  · rename_i e k' k n ht hu
    split at ha
    · rename_i zv hz
      split at ha
      · rename_i hh
        obtain ⟨hfit, hzl, hzne, h0, h63, hby, hfree⟩ := hh
        cases ha
        simp only [VR] at hs hx
        subst hs; subst hx
        obtain ⟨v, i, hi, hzv, _, hv⟩ := zeroA_ok (G := G) hz w
        obtain ⟨q1, q2, q3⟩ := fit_ok hfit hv
        have hcs : P.cellsOf e = i.size := by simp [Program.cellsOf, hi]
        have hbs : P.bytesOf e = i.bytes := by simp [Program.bytesOf, hi]
        have hsz : v.cells.size = i.size := by rw [← Array.length_toList, q1.len, hzl, hcs]
        obtain ⟨m, rfl⟩ : ∃ m : Nat, n = (m : Int) := ⟨n.toNat, by omega⟩
        simp only [Int.toNat_natCast] at hby ⊢
        have hrun := run_append_nil_zeros (P := P) w t u ty e i v k k' ht hu hi hzv m (by omega) (by rw [← hcs]; omega) h63 (by rw [← hbs]; exact hby)
        have hge := grownCap_ge w m 0 e
        generalize hcap : grownCap w m 0 e = cap at hrun hge
        have hz1 : (Builtin.zeroCells v.cells m).toList = (List.replicate m v.cells.toList).flatten := repeat_cells v.cells m
        have hz2 : (Builtin.zeroCells v.cells (cap - m)).toList = (List.replicate (cap - m) v.cells.toList).flatten := repeat_cells v.cells (cap - m)
        have hl1 : (Builtin.zeroCells v.cells m).size = m * i.size := by rw [← Array.length_toList, hz1]; simp [hsz]
        have hl2 : (Builtin.zeroCells v.cells (cap - m)).size = (cap - m) * i.size := by rw [← Array.length_toList, hz2]; simp [hsz]
        have hvs := q1.repeat m
        have hf := h.fresh H.next (AH.free_ok hfree)
        have key := h.newBlock (g := H.next) (e := 0) (fz := 0) (nx := H.next + 1) (xs := (List.replicate m zv.cells).flatten) (t := e) (cs := Builtin.zeroCells v.cells m ++ Builtin.zeroCells v.cells (cap - m))
          (w' := w.drew.alloc (.cells (Builtin.zeroCells v.cells m ++ Builtin.zeroCells v.cells (cap - m)) e)) (Below.alloc (Below.drew (Below.refl _ _)) (Nat.le_refl _) _) (by show (w.heap.push _)[w.heap.size]? = _; simp) (fun j y hj => by
            obtain ⟨u, g1, g2⟩ := hvs.get j y hj
            have hjl : j < (Builtin.zeroCells v.cells m).size := by
              rw [← Array.length_toList, hz1]; exact (List.getElem?_eq_some_iff.1 g1).1
            refine ⟨u, ?_, g2, ?_⟩
            · rw [Array.getElem?_append_left hjl, ← Array.getElem?_toList, hz1]; exact g1
            · have hm := List.mem_of_getElem? g1
              rw [List.mem_flatten] at hm
              obtain ⟨l', h1, h2⟩ := hm
              rw [List.mem_replicate] at h1
              rw [h1.2] at h2
              exact q3 u h2) (hf 0) (fun e' _ => hf e')
        refine ⟨_, _, _, hrun, Gh.put_le (hf 0), key, ?_⟩
        simp only [VR]
        refine ⟨_, _, _, cap, Gh.put_same _ _ _ _, rfl, hge, ?_⟩
        rw [Array.size_append, hl1, hl2, hcs]
        have : cap * i.size = m * i.size + (cap - m) * i.size := by rw [← Nat.add_mul]; congr 1; omega
        omega
      · cases ha
    · cases ha
  · cases ha
end Go.Abs
