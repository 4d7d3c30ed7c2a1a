/- The operations, read abstractly: those that touch memory. -/
import Derived.Test.YtcnnobcncklgfaaGreatDoorAbsOps
import Derived.Laws.Tables
import Derived.Laws.Cells
import Derived.Laws.Append
import Derived.Great.BuildSlice
namespace Go.Abs
open Go Go.RowKit
set_option linter.unusedVariables false
def AV.cells : AV → List AV
  | .agg cs => cs
  | x => [x]
/-- It takes one cell. -/
def AV.one : AV → Bool
  | .agg _ | .tup _ | .und => false
  | _ => true
/-- It may be stored. -/
def AV.fit : AV → Bool
  | .tup _ | .und => false
  | .agg cs => cs.all AV.one
  | _ => true
theorem one_ok {G : Gh} {x : AV} {u : Value} (h : x.one = true) (hv : VR G x u) : u.oneCell' = true ∧ u.cells = #[u] := by
  cases x <;> simp only [AV.one] at h <;> try (cases h; done)
  all_goals simp only [VR] at hv
  case bool => subst hv; exact ⟨rfl, rfl⟩
  case int => subst hv; exact ⟨rfl, rfl⟩
  case str => subst hv; exact ⟨rfl, rfl⟩
  case nilp => subst hv; exact ⟨rfl, rfl⟩
  case nils => subst hv; exact ⟨rfl, rfl⟩
  case nilf => subst hv; exact ⟨rfl, rfl⟩
  case nili => subst hv; exact ⟨rfl, rfl⟩
  case ptr => obtain ⟨_, _, _, _, rfl⟩ := hv; exact ⟨rfl, rfl⟩
  case vptr => obtain ⟨_, _, rfl, _⟩ := hv; exact ⟨rfl, rfl⟩
  case zslc => obtain ⟨_, rfl⟩ := hv; exact ⟨rfl, rfl⟩
  case slc => obtain ⟨_, _, _, _, _, rfl, _⟩ := hv; exact ⟨rfl, rfl⟩
  case vals => obtain ⟨_, _, rfl, _⟩ := hv; exact ⟨rfl, rfl⟩
  case fn => obtain ⟨_, rfl, _⟩ := hv; exact ⟨rfl, rfl⟩
  case iface => obtain ⟨_, rfl, _⟩ := hv; exact ⟨rfl, rfl⟩
  case nilm => subst hv; exact ⟨rfl, rfl⟩
  case mapp => obtain ⟨b, -, rfl⟩ := hv; exact ⟨rfl, rfl⟩
theorem ones_ok {G : Gh} : ∀ {xs : List AV} {us : List Value}, xs.all AV.one = true → VRs G xs us → ∀ u ∈ us, u.oneCell' = true
  | [], us, h, hv, u, hu => by simp only [VRs] at hv; subst hv; cases hu
  | x :: xs, us, h, hv, u, hu => by
    simp only [VRs] at hv
    obtain ⟨v, vs, rfl, h1, h2⟩ := hv
    simp only [List.all_cons, Bool.and_eq_true] at h
    rcases List.mem_cons.1 hu with rfl | hu
    · exact (one_ok h.1 h1).1
    · exact ones_ok h.2 h2 u hu
theorem fit_ok {G : Gh} {x : AV} {u : Value} (h : x.fit = true) (hv : VR G x u) : VRs G x.cells u.cells.toList ∧ x.cells.all AV.one = true ∧ ∀ c ∈ u.cells.toList, c.oneCell' = true := by
  have key : ∀ y : AV, y.one = true → VR G y u → y.cells = [y] → VRs G y.cells u.cells.toList ∧ y.cells.all AV.one = true ∧ ∀ c ∈ u.cells.toList, c.oneCell' = true := by
    intro y hy hv he
    obtain ⟨h1, h2⟩ := one_ok hy hv
    rw [he, h2]
    refine ⟨by simp only [VRs]; exact ⟨u, [], rfl, hv, rfl⟩, by simp [hy], fun c hc => ?_⟩
    have : c = u := by simpa using hc
    rw [this]; exact h1
  cases x <;> simp only [AV.fit] at h <;> try (cases h; done)
  case agg cs =>
    simp only [VR] at hv
    obtain ⟨us, rfl, hv⟩ := hv
    exact ⟨hv, h, ones_ok h hv⟩
  all_goals exact key _ rfl hv rfl
def isAggD : TypeDesc → Bool
  | .struct _ | .array _ _ => true
  | _ => false
theorem info_of_underlying {P : Program} {t : TypeId} {d : TypeDesc} (h : P.underlying t = some d) : ∃ i, P.info? t = some i := by
  unfold Program.underlying at h
  split at h
  · rename_i hh; exact ⟨_, hh⟩
  · rename_i hh; exact ⟨_, hh⟩
  · cases h
theorem info_of_cells {P : Program} {t : TypeId} (h : P.cellsOf t ≠ 0) : ∃ i, P.info? t = some i ∧ i.size = P.cellsOf t := by
  unfold Program.cellsOf at h ⊢
  cases hi : P.info? t with
  | none => rw [hi] at h; simp at h
  | some i => exact ⟨i, rfl, by simp⟩
theorem run_isAgg {P : Program} {t : TypeId} {d : TypeDesc} (h : P.underlying t = some d) (w : World) : (isAgg t).run P w = .ok (isAggD d) w := by
  cases d <;> simp [isAgg, run_underlying h, isAggD]
theorem run_size {P : Program} {t : TypeId} {i : TypeInfo} (h : P.info? t = some i) (w : World) : (sizeOf t).run P w = .ok i.size w := by
  simp [sizeOf, typeInfo, h]
/-- The cells that a pointer shows. -/
def cellsAt (H : AH) (x : AV) (n : Nat) : Option (List AV) :=
  match x with
  | .ptr g e i =>
    match H.gs.get g with
    | some r => if r.e = e ∧ i + n ≤ r.cells.length then some ((r.cells.drop i).take n) else none
    | none => none
  | .vptr row i => if i + n ≤ row.length then some ((row.drop i).take n) else none
  | _ => none
/-- Cells of memory that are as told. -/
def CellsIn (G : Gh) (w : World) (xs : List AV) (b o : Nat) : Prop := ∀ (j : Nat) (x : AV), xs[j]? = some x → ∃ u, w.cell? ⟨b, o + j, none⟩ = some u ∧ VR G x u ∧ u.oneCell' = true
theorem CellsIn.list {G : Gh} {w : World} : ∀ {xs : List AV} {b o : Nat}, CellsIn G w xs b o → ∃ us : List Value, VRs G xs us ∧ (∀ (j : Nat) u, us[j]? = some u → w.cell? ⟨b, o + j, none⟩ = some u) ∧ ∀ u ∈ us, u.oneCell' = true
  | [], b, o, h => ⟨[], by simp [VRs], fun j u hu => by simp at hu, fun u hu => by cases hu⟩
  | x :: xs, b, o, h => by
    obtain ⟨u, h1, h2, h5⟩ := h 0 x rfl
    obtain ⟨us, h3, h4, h6⟩ := CellsIn.list (xs := xs) (b := b) (o := o + 1) fun j y hy => by
      obtain ⟨v, hv, hr⟩ := h (j + 1) y (by simpa using hy)
      exact ⟨v, by rw [← hv]; congr 2; omega, hr⟩
    refine ⟨u :: us, by simp only [VRs]; exact ⟨u, us, rfl, h2, h3⟩, fun j v hv => ?_, fun v hv => (List.mem_cons.1 hv).elim (fun e => e ▸ h5) (h6 v)⟩
    cases j with
    | zero => simp at hv; subst hv; exact h1
    | succ j => simp at hv; rw [← h4 j v hv]; congr 2; omega
theorem GrpAt.cellsIn {K : Kx} {G : Gh} {w : World} {g : Nat} {r : Grp} {b o n : Nat} {cs : Array Value} {t : TypeId} (q : GrpAt K G w g r b o n cs t) (i m : Nat) : CellsIn G w ((r.cells.drop i).take m) b (o + i) := by
  intro j x hx
  rw [List.getElem?_take] at hx
  split at hx
  · rw [List.getElem?_drop] at hx
    obtain ⟨u, h1, h2, h3⟩ := q.cell (i + j) x hx
    exact ⟨u, by rw [cell_of q.heap, ← h1]; congr 1; omega, h2, h3⟩
  · cases hx
theorem cellsAt_ok {K : Kx} {G : Gh} {H : AH} {w : World} (h : HRel K G H w) {x : AV} {v : Value} {n : Nat} {xs : List AV} (hx : VR G x v) (hc : cellsAt H x n = some xs) :
    xs.length = n ∧ ∃ b o, v = .pointer (some ⟨b, o, none⟩) ∧ CellsIn G w xs b o := by
  unfold cellsAt at hc
  split at hc
  · rename_i g e i
    split at hc
    · rename_i r hr
      split at hc
      · rename_i hh
        cases hc
        obtain ⟨rfl, hl⟩ := hh
        simp only [VR] at hx
        obtain ⟨b, o, m, hm, rfl⟩ := hx
        obtain ⟨b', o', n', cs, t, q⟩ := h.grp g r hr
        rw [q.mu] at hm
        cases hm
        exact ⟨by rw [List.length_take, List.length_drop]; omega, b, o + i, rfl, q.cellsIn i n⟩
      · cases hc
    · cases hc
  · rename_i row i
    split at hc
    · rename_i hl
      cases hc
      simp only [VR] at hx
      obtain ⟨b, o, rfl, hrow⟩ := hx
      refine ⟨by rw [List.length_take, List.length_drop]; omega, b, o + i, rfl, fun j x hx => ?_⟩
      rw [List.getElem?_take] at hx
      split at hx
      · rw [List.getElem?_drop] at hx
        obtain ⟨u, h1, h2⟩ := hrow.get (i + j) x hx
        exact ⟨u, by rw [← h.mem _ _ _ h1]; congr 2; omega, h2, h.ones _ _ _ h1⟩
      · cases hx
    · cases hc
  · cases hc
theorem run_loads {P : Program} {w : World} {b o : Nat} {us : List Value} (h : ∀ (j : Nat) u, us[j]? = some u → w.cell? ⟨b, o + j, none⟩ = some u) : (loadCells ⟨b, o, none⟩ us.length).run P w = .ok us.toArray w :=
  run_loadCells_list w ⟨b, o, none⟩ us fun j v hv => by rw [Addr.add_lit]; exact h j v hv
/-- A load. -/
def aload (P : Program) (H : AH) (t : TypeId) (x : AV) : Option AV :=
  match P.underlying t with
  | some d => if isAggD d then (cellsAt H x (P.cellsOf t)).map .agg else (cellsAt H x 1).bind (·.head?)
  | none => none
theorem aload_ok {P : Program} {K : Kx} {G : Gh} {H : AH} {w : World} (h : HRel K G H w) {t : TypeId} {x y : AV} {v : Value} (hx : VR G x v) (hl : aload P H t x = some y) :
    ∃ u, (Instr.loadAt t v).run P w = .ok u w ∧ VR G y u := by
  unfold aload at hl
  split at hl
  · rename_i d hd
    obtain ⟨i, hi⟩ := info_of_underlying hd
    have hcs : P.cellsOf t = i.size := by simp [Program.cellsOf, hi]
    split at hl
    · rename_i ha
      rw [Option.map_eq_some_iff] at hl
      obtain ⟨xs, h1, rfl⟩ := hl
      obtain ⟨hlen, b, o, rfl, hin⟩ := cellsAt_ok h hx h1
      obtain ⟨us, h2, h3, _⟩ := hin.list
      refine ⟨.agg us.toArray, ?_, by simp only [VR]; exact ⟨us.toArray, rfl, by simpa using h2⟩⟩
      have hn : us.length = i.size := by rw [h2.len, hlen, hcs]
      have := run_loads (P := P) h3
      rw [hn] at this
      simp [Instr.loadAt, Instr.sureAddr, loadVar, run_isAgg hd, ha, run_size hi, this]
    · rename_i ha
      rw [Option.bind_eq_some_iff] at hl
      obtain ⟨xs, h1, h2⟩ := hl
      obtain ⟨hlen, b, o, rfl, hin⟩ := cellsAt_ok h hx h1
      obtain ⟨u, h3, h4, _⟩ := hin 0 y (by rw [← h2]; cases xs <;> rfl)
      refine ⟨u, ?_, h4⟩
      simp only [Nat.add_zero] at h3
      simp [Instr.loadAt, Instr.sureAddr, loadVar, run_isAgg hd, ha, h3]
  · cases hl
/-- A store. -/
def astore (P : Program) (H : AH) (t : TypeId) (x v : AV) : Option AH :=
  match x with
  | .ptr g e i =>
    match H.gs.get g with
    | some r => if r.e = e ∧ r.fz ≤ i ∧ v.cells.length = P.cellsOf t ∧ P.cellsOf t ≠ 0 ∧ i + v.cells.length ≤ r.cells.length ∧ v.fit = true then
        some ⟨H.next, H.gs.set g ⟨r.e, r.fz, r.cells.take i ++ v.cells ++ r.cells.drop (i + v.cells.length)⟩, H.ms⟩ else none
    | none => none
  | _ => none
theorem getElem?_splice {α : Type} (l m : List α) (i : Nat) (hi : i + m.length ≤ l.length) (j : Nat) : (l.take i ++ m ++ l.drop (i + m.length))[j]? = if i ≤ j ∧ j < i + m.length then m[j - i]? else l[j]? := by
  have h1 : (l.take i).length = i := by rw [List.length_take]; omega
  by_cases hj : j < i
  · rw [if_neg (by omega), List.append_assoc, List.getElem?_append_left (by omega), List.getElem?_take, if_pos hj]
  · by_cases hk : j < i + m.length
    · rw [if_pos ⟨by omega, hk⟩, List.getElem?_append_left (by rw [List.length_append]; omega), List.getElem?_append_right (by omega), h1]
    · rw [if_neg (by omega), List.getElem?_append_right (by rw [List.length_append]; omega), List.getElem?_drop, List.length_append, h1]
      congr 1; omega
theorem astore_ok {P : Program} {K : Kx} {G : Gh} {H H' : AH} {w : World} (h : HRel K G H w) {t : TypeId} {x y : AV} {v u : Value} (hx : VR G x v) (hy : VR G y u) (hs : astore P H t x y = some H') :
    ∃ w', (Instr.storeAt t v u).run P w = .ok () w' ∧ HRel K G H' w' := by
  unfold astore at hs
  split at hs
  · rename_i g e i
    split at hs
    · rename_i r hr
      split at hs
      · rename_i hh
        cases hs
        obtain ⟨rfl, hfz, hlen, h0, hfit, hft⟩ := hh
        simp only [VR] at hx
        obtain ⟨b, o, m, hm, rfl⟩ := hx
        obtain ⟨b', o', n', cs, ty, q⟩ := h.grp g r hr
        rw [q.mu] at hm
        cases hm
        obtain ⟨hv, hone, hcell⟩ := fit_ok hft hy
        obtain ⟨inf, hinf, hsz⟩ := info_of_cells h0
        have hul : u.cells.toList.length = y.cells.length := hv.len
        have hlast : o + i + y.cells.length ≤ m := by
          have hpos : 0 < y.cells.length := by omega
          obtain ⟨z, hz⟩ : ∃ z, r.cells[i + y.cells.length - 1]? = some z := ⟨_, List.getElem?_eq_getElem (by omega)⟩
          obtain ⟨w1, hw1, _⟩ := q.cell _ z hz
          have := (Array.getElem?_eq_some_iff.1 hw1).1
          rw [← q.size]; omega
        obtain ⟨hle, hrel⟩ := h.sets q hr (r' := ⟨r.e, r.fz, r.cells.take i ++ y.cells ++ r.cells.drop (i + y.cells.length)⟩) (p := o + i) (vs := u.cells.toList) (by rw [hul]; exact hlast) (by omega) (o' := o) (G' := G) (.inl ⟨rfl, rfl, rfl⟩) (Nat.le_refl _) (by
          intro j z hz
          rw [getElem?_splice _ _ _ hfit] at hz
          by_cases hj : i ≤ j ∧ j < i + y.cells.length
          · rw [if_pos hj] at hz
            obtain ⟨c, h1, h2⟩ := hv.get _ z hz
            exact ⟨c, h2, by rw [if_pos (by rw [hul]; omega), ← h1]; congr 1; omega, hcell c (List.mem_of_getElem? h1)⟩
          · rw [if_neg hj] at hz
            obtain ⟨c, h1, h2, h3⟩ := q.cell j z hz
            exact ⟨c, h2, by rw [if_neg (by rw [hul]; omega)]; exact h1, h3⟩)
        refine ⟨_, ?_, hrel⟩
        have hst := run_storeCells_cells (P := P) b (o + i) u.cells.toList 0 w (fun j hj => by
            rw [cell_of q.heap]
            rw [Array.getElem?_eq_getElem (by rw [q.size]; omega)]; rfl) (fun j hj => by simp [World.frozen?, q.heap]) hcell
        simp only [Nat.add_zero] at hst
        have hus : u.cells.size = inf.size := by rw [← Array.length_toList, hul, hlen, hsz]
        simp [Instr.storeAt, Instr.sureAddr, storeVar, run_size hinf, hus, hst]
      · cases hs
    · cases hs
  · cases hs
/-- The next number is not in use. -/
def AH.free (H : AH) : Bool := match H.gs.get H.next with | none => true | some _ => false
theorem AH.free_ok {H : AH} (h : H.free = true) : H.gs.get H.next = none := by
  unfold AH.free at h
  split at h
  · assumption
  · cases h
def abox (H : AH) (x : AV) : Option (AV × AH) := if x.fit = true ∧ x.cells ≠ [] ∧ H.free = true then some (.ptr H.next 0 0, H.add x.cells) else none
theorem add_ok {K : Kx} {G : Gh} {H : AH} {w : World} (h : HRel K G H w) {xs : List AV} {cs : Array Value} (hv : VRs G xs cs.toList) (h1 : ∀ c ∈ cs.toList, c.oneCell' = true) (t : TypeId) (hfree : H.free = true) :
    G.le (G.put H.next 0 (w.heap.size, 0, cs.size)) ∧ HRel K (G.put H.next 0 (w.heap.size, 0, cs.size)) (H.add xs) (w.alloc (.cells cs t)) := by
  have hf := h.fresh H.next (AH.free_ok hfree)
  have hw : (w.alloc (.cells cs t)).heap[w.heap.size]? = some (.cells cs t (0, 0)) := by show (w.heap.push _)[w.heap.size]? = _; simp
  refine ⟨Gh.put_le (hf 0), ?_⟩
  exact h.newBlock (g := H.next) (e := 0) (fz := 0) (nx := H.next + 1) (Below.alloc (Below.refl _ _) (Nat.le_refl _) _) hw
    (fun i x hi => by obtain ⟨u, h2, h3⟩ := hv.get i x hi; exact ⟨u, by simpa using h2, h3, h1 u (List.mem_of_getElem? h2)⟩) (hf 0) (fun e' _ => hf e')
theorem abox_ok {P : Program} {K : Kx} {G : Gh} {H H' : AH} {w : World} (h : HRel K G H w) {t : TypeId} {x y : AV} {v : Value} (hx : VR G x v) (hb : abox H x = some (y, H')) :
    ∃ u w' G', (newVar t v).run P w = .ok u w' ∧ G.le G' ∧ HRel K G' H' w' ∧ VR G' y (.pointer (some u)) := by
  unfold abox at hb
  split at hb
  · rename_i hf
    cases hb
    obtain ⟨hv, _, hc⟩ := fit_ok hf.1 hx
    obtain ⟨h1, h2⟩ := add_ok h hv hc t hf.2.2
    refine ⟨_, _, _, rfl, h1, h2, ?_⟩
    simp only [VR]
    exact ⟨_, _, _, Gh.put_same _ _ _ _, rfl⟩
  · cases hb
/-- Parts are put in their places. -/
def afill (place : Nat → Option (Nat × Nat)) (cells : List AV) : List (Nat × AV) → Option (List AV)
  | [] => some cells
  | (i, v) :: rest =>
    match place i with
    | none => none
    | some (off, size) => if v.cells.length = size ∧ off + v.cells.length ≤ cells.length ∧ v.fit = true then afill place (cells.take off ++ v.cells ++ cells.drop (off + v.cells.length)) rest else none
theorem foldl_at : ∀ (vs : List Value) (k off : Nat) (cs : Array Value), off + k + vs.length ≤ cs.size →
    ((vs.zipIdx k).foldl (fun cs (c : Value × Nat) => cs.setIfInBounds (off + c.2) c.1) cs).size = cs.size ∧
    ∀ j : Nat, ((vs.zipIdx k).foldl (fun cs (c : Value × Nat) => cs.setIfInBounds (off + c.2) c.1) cs)[j]? = if off + k ≤ j ∧ j < off + k + vs.length then vs[j - (off + k)]? else cs[j]?
  | [], k, off, cs, h => ⟨rfl, fun j => by rw [if_neg (by simp)]; rfl⟩
  | v :: vs, k, off, cs, h => by
    simp at h
    obtain ⟨h1, h2⟩ := foldl_at vs (k + 1) off (cs.setIfInBounds (off + k) v) (by simp; omega)
    simp only [List.zipIdx_cons, List.foldl_cons]
    refine ⟨by rw [h1]; simp, fun j => ?_⟩
    rw [h2]
    by_cases hj : off + (k + 1) ≤ j ∧ j < off + (k + 1) + vs.length
    · rw [if_pos hj, if_pos (by simp; omega), show j - (off + k) = (j - (off + (k + 1))) + 1 by omega]
      simp
    · rw [if_neg hj]
      by_cases he : j = off + k
      · subst he
        rw [if_pos (by simp)]
        simp [Array.getElem?_setIfInBounds]
        omega
      · rw [if_neg (by simp; omega), Array.getElem?_setIfInBounds, if_neg (Ne.symm he)]
theorem afill_ok {G : Gh} {place : Nat → Option (Nat × Nat)} : ∀ {parts : List (Nat × AV)} {ps : List (Nat × Value)} {xs ys : List AV} {cs : Array Value}, parts.length = ps.length →
    (∀ (j : Nat) p, parts[j]? = some p → ∃ v, ps[j]? = some (p.1, v) ∧ VR G p.2 v) → VRs G xs cs.toList → (∀ c ∈ cs.toList, c.oneCell' = true) → afill place xs parts = some ys → ∃ cs', Instr.fill place cs ps = some cs' ∧ VRs G ys cs'.toList ∧ (∀ c ∈ cs'.toList, c.oneCell' = true) ∧ cs'.size = cs.size
  | [], ps, xs, ys, cs, hl, hp, hv, ho, hf => by
    simp only [afill] at hf
    cases hf
    cases ps with
    | nil => exact ⟨cs, rfl, hv, ho, rfl⟩
    | cons p ps => simp at hl
  | (i, x) :: parts, ps, xs, ys, cs, hl, hp, hv, ho, hf => by
    obtain ⟨v, hv1, hv2⟩ := hp 0 (i, x) rfl
    cases ps with
    | nil => simp at hv1
    | cons p ps =>
      simp at hv1
      subst hv1
      simp only [afill] at hf
      split at hf
      · cases hf
      · rename_i off size hpl
        split at hf
        · rename_i hh
          obtain ⟨h1, h2, h3⟩ := hh
          obtain ⟨q1, q2, q3⟩ := fit_ok h3 hv2
          have hul : v.cells.toList.length = x.cells.length := q1.len
          have hus : v.cells.size = x.cells.length := by rw [← Array.length_toList]; exact hul
          have hcl : cs.size = xs.length := by rw [← Array.length_toList]; exact hv.len
          have e1 : v.cells.zipIdx.foldl (fun cs (c, j) => cs.setIfInBounds (off + j) c) cs = ((v.cells.toList.zipIdx 0).foldl (fun cs (c : Value × Nat) => cs.setIfInBounds (off + c.2) c.1) cs) := by
            rw [← Array.foldl_toList, Array.toList_zipIdx]
          obtain ⟨k1, k2⟩ := foldl_at v.cells.toList 0 off cs (by omega)
          obtain ⟨cs', g1, g2, g3, g4⟩ := afill_ok (parts := parts) (ps := ps) (xs := xs.take off ++ x.cells ++ xs.drop (off + x.cells.length)) (ys := ys) (cs := (v.cells.toList.zipIdx 0).foldl (fun cs (c : Value × Nat) => cs.setIfInBounds (off + c.2) c.1) cs)
            (by simpa using hl) (fun j p hj => by simpa using hp (j + 1) p (by simpa using hj)) (VRs.of_get (by
              rw [Array.length_toList, k1, hcl]; simp; omega) fun j y hy => by
              rw [getElem?_splice _ _ _ h2] at hy
              rw [Array.getElem?_toList, k2]
              by_cases hj : off ≤ j ∧ j < off + x.cells.length
              · rw [if_pos hj] at hy
                obtain ⟨c, c1, c2⟩ := q1.get _ y hy
                exact ⟨c, by rw [if_pos (by omega), ← c1]; congr 1, c2⟩
              · rw [if_neg hj] at hy
                obtain ⟨c, c1, c2⟩ := hv.get _ y hy
                exact ⟨c, by rw [if_neg (by omega)]; simpa using c1, c2⟩) (fun c hc => by
              obtain ⟨j, hj⟩ := List.mem_iff_getElem?.1 hc
              rw [Array.getElem?_toList, k2] at hj
              split at hj
              · exact q3 c (List.mem_of_getElem? hj)
              · exact ho c (by rw [← Array.getElem?_toList] at hj; exact List.mem_of_getElem? hj)) hf
          refine ⟨cs', ?_, g2, g3, by rw [g4, k1]⟩
          simp only [Instr.fill, hpl]
          rw [if_neg (by simp; omega), e1]
          exact g1
        · cases hf
end Go.Abs
