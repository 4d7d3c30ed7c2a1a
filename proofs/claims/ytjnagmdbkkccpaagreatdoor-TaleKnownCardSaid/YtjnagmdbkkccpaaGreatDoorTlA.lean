/- A strings.Builder: a group of two cells whose block's type is told, and its bytes, another.   (*strings.Builder).WriteString, in a memory that knows the builder's type.   (*strings.Builder).WriteString: what stands in for it. -/
import Derived.Test.YtjnagmdbkkccpaaGreatDoorAbsL
import Derived.Lib.AppendStr
import Derived.Test.YtjnagmdbkkccpaaGreatDoorShelf
import Derived.Test.YtjnagmdbkkccpaaGreatDoorRows
import Derived.Shelf.RegionOpenPlain
import Derived.WalkKit
import Derived.Lib.Walk
import Derived.Lib.Builder
import Derived.ArgAppend
import Derived.Test.YtjnagmdbkkccpaaGreatDoorStA
namespace Go.Abs
open Go Go.RowKit Go.Lib
set_option linter.unusedVariables false
/-- A text's bytes. -/
def txtA (s : List UInt8) : List AV := s.map fun b => .int .u8 b.toNat
def selfN (g e : Nat) : AV → Bool
  | .nilp => true
  | .ptr g' e' i => Nat.beq g' g && Nat.beq e' e && Nat.beq i 0
  | _ => false
/-- Where the bytes lie behind an append. -/
def wsBuf (ty : Nat) (g : Nat) (c1 : AV) (s : List UInt8) (H : AH) : Option (AV × AH) :=
  match c1 with
  | .nils => bif H.free then some (.slc H.next 0 0 s.length 1, H.put H.next ⟨0, 1000000001 + 2 * ty, txtA s⟩ (H.next + 1)) else none
  | .slc gq eq i len z => match H.gs.get gq with
    | some rq => bif Nat.beq i 0 && Nat.beq rq.e eq && Nat.beq z 1 && Nat.beq rq.fz (1000000001 + 2 * ty) && Nat.beq rq.cells.length len && Nat.blt len 1000000 && !Nat.beq gq g then
        some (.slc gq (eq + 1) 0 (len + s.length) 1, H.put gq ⟨eq + 1, rq.fz, rq.cells ++ txtA s⟩ H.next) else none
    | none => none
  | _ => none
def wsH (tb ty : Nat) (args : List AV) (H : AH) : Option (AV × AH) :=
  match args with
  | [.ptr g e i, .str s] => match H.gs.get g with
    | some r => match r.cells with
      | [c0, c1] => bif Nat.beq i 0 && Nat.beq r.e e && Nat.beq r.fz (1000000000 + 2 * tb) && selfN g e c0 && Nat.blt 0 s.length && Nat.blt s.length 1000000 then
          match wsBuf ty g c1 s H with
          | some (x, H1) => some (.tup [.int .i64 s.length, .nili], H1.put g ⟨e, r.fz, [.ptr g e 0, x]⟩ H1.next)
          | none => none
          else none
      | _ => none
    | none => none
  | _ => none
theorem wsBuf_frame {ty g : Nat} {c1 x : AV} {s : List UInt8} {H H1 : AH} (h : wsBuf ty g c1 s H = some (x, H1)) : FrameR x H H1 (wsBuf ty g c1 s) := by
  unfold wsBuf at h
  split at h
  · cases hf : H.free with
    | false => rw [hf] at h; cases h
    | true =>
      rw [hf] at h
      cases h
      refine ⟨Grows.put _ _ _ _, fun R H2 he ha => ?_⟩
      have hR := ha.not
      refine ⟨_, ?_, he.put hR⟩
      simp only [wsBuf, he.free hR hf, he.next, cond_true]
  · rename_i gq eq i len z
    split at h
    · rename_i rq hq
      cases hc : (Nat.beq i 0 && Nat.beq rq.e eq && Nat.beq z 1 && Nat.beq rq.fz (1000000001 + 2 * ty) && Nat.beq rq.cells.length len && Nat.blt len 1000000 && !Nat.beq gq g) with
      | false => rw [hc] at h; cases h
      | true =>
        rw [hc] at h
        cases h
        refine ⟨Grows.put _ _ _ _, fun R H2 he ha => ?_⟩
        have hR := ha.not
        refine ⟨_, ?_, he.put hR⟩
        have hq2 := he.get (ha.back (Grows.put _ _ _ _)) hq
        simp only [wsBuf, hq2, hc, cond_true, he.next]
    · cases h
  · cases h
theorem wsH_frame {tb ty : Nat} {args : List AV} {x : AV} {H H' : AH} (h : wsH tb ty args H = some (x, H')) : FrameR x H H' (wsH tb ty args) := by
  unfold wsH at h
  split at h
  · rename_i g e i s
    split at h
    · rename_i r hr
      split at h
      · rename_i c0 c1 hcs
        cases hc : (Nat.beq i 0 && Nat.beq r.e e && Nat.beq r.fz (1000000000 + 2 * tb) && selfN g e c0 && Nat.blt 0 s.length && Nat.blt s.length 1000000) with
        | false => rw [hc] at h; cases h
        | true =>
          rw [hc] at h
          simp only [cond_true] at h
          split at h
          · rename_i y H1 hb
            cases h
            obtain ⟨q1, q2⟩ := wsBuf_frame hb
            refine ⟨q1.trans (Grows.put _ _ _ _), fun R H2 he ha => ?_⟩
            have hR := ha.not
            obtain ⟨H2', k1, k2⟩ := q2 R H2 he (ha.back (Grows.put _ _ _ _))
            have hr2 := he.get (ha.back (q1.trans (Grows.put _ _ _ _))) hr
            refine ⟨_, ?_, k2.put hR⟩
            simp only [wsH, hr2, hcs, hc, cond_true, k1, k2.next]
          · cases h
      · cases h
    · cases h
  · cases h
theorem bytes_get {G : Gh} {s : List UInt8} {i : Nat} {x : AV} (h : (txtA s)[i]? = some x) : ∃ u, (strCells ⟨s.toArray⟩)[i]? = some u ∧ VR G x u ∧ u.oneCell' = true := by
  unfold txtA at h
  rw [List.getElem?_map, Option.map_eq_some_iff] at h
  obtain ⟨b, h1, rfl⟩ := h
  exact ⟨.int .u8 b.toNat, by simp [strCells, h1], by simp [VR], rfl⟩
theorem bytes_len (s : List UInt8) : (txtA s).length = s.length := by simp [txtA]
theorem strCells_len (s : List UInt8) : (strCells ⟨s.toArray⟩).length = s.length := by simp [strCells]
/-- One of a builder's two cells is set. -/
theorem HRel.bcell {K : Kx} {G : Gh} {H : AH} {w : World} (h : HRel K G H w) {g e tb : Nat} {c0 c1 : AV} (hg : H.gs.get g = some ⟨e, 1000000000 + 2 * tb, [c0, c1]⟩) {b o n : Nat} {cs : Array Value} {t : TypeId} (q : GrpAt K G w g ⟨e, 1000000000 + 2 * tb, [c0, c1]⟩ b o n cs t)
    {i : Nat} {x : AV} {u : Value} {ys : List AV} (hi : i < 2) (hx : VR G x u) (hu : u.oneCell' = true) (hys : ys = if i = 0 then [x, c1] else [c0, x]) : HRel K G ⟨H.next, H.gs.set g ⟨e, 1000000000 + 2 * tb, ys⟩, H.ms⟩ (w.setCell ⟨b, i, none⟩ u) := by
  have hk := q.kind (by show 2 < 1000000000 + 2 * tb; omega)
  obtain ⟨htag, rfl, hM⟩ := hk
  have hn : n = 2 := by
    rcases htag with ⟨-, hn⟩ | hn
    · exact hn
    · have hn : 1000000000 + 2 * tb = 1000000001 + 2 * t := hn
      omega
  subst hys
  have hlen : (if i = 0 then [x, c1] else [c0, x] : List AV).length = 2 := by split <;> rfl
  have := h.setsG q hg (r' := ⟨e, 1000000000 + 2 * tb, if i = 0 then [x, c1] else [c0, x]⟩) (p := i) (vs := [u]) (by simp; omega) (fun j _ => hM j) (o' := 0) (G' := G) (.inl ⟨rfl, rfl, rfl⟩) (fun j _ => hM j) (fun _ => ⟨by rw [hlen]; exact htag, rfl, hM⟩) (by
    intro j y hj
    have hj : (if i = 0 then [x, c1] else [c0, x] : List AV)[j]? = some y := hj
    have hj2 : j < 2 := by rw [← hlen]; exact (List.getElem?_eq_some_iff.1 hj).1
    have old : ∀ y, ([c0, c1] : List AV)[j]? = some y → ∃ u, VR G y u ∧ cs[j]? = some u ∧ u.oneCell' = true := fun y hy => by
      obtain ⟨v, h1, h2, h3⟩ := q.cell j y hy
      exact ⟨v, h2, by simpa using h1, h3⟩
    by_cases hij : j = i
    · subst hij
      have hy : y = x := by
        rcases (by omega : j = 0 ∨ j = 1) with rfl | rfl <;> simpa using hj.symm
      subst hy
      exact ⟨u, hx, by simp, hu⟩
    · obtain ⟨v, h1, h2, h3⟩ := old y (by
        rcases (by omega : j = 0 ∨ j = 1) with rfl | rfl
        · rw [if_neg (by omega)] at hj; exact hj
        · rw [if_pos (by omega)] at hj; exact hj)
      refine ⟨v, h1, ?_, h3⟩
      rw [if_neg (by simp; omega)]
      simpa using h2)
  exact this.2
theorem append_room_string {P : Program} (w : World) (t u ty e : TypeId) (i : TypeInfo) (ht : P.underlying t = some (.slice e)) (hu : P.underlying u = some .string) (hi : P.info? e = some i) (hs1 : i.size = 1)
    (g sLen sCap : Nat) (cur : Array Value) (hg : w.heap[g]? = some (.cells cur e (0, 0))) (s : ByteArray) (hroom : sLen + s.size ≤ sCap) (hfit : sLen + s.size ≤ cur.size) :
    (Builtin.append_ #[t, u] ty #[.slice (some ⟨g, 0, none⟩) sLen sCap, .string s]).run P w = .ok (.slice (some ⟨g, 0, none⟩) (sLen + s.size) sCap) (w.setCells g sLen (strCells s)) := by
  have hf := run_firstCells_string (P := P) w 1 s
  have hst := run_storeCells_cells (P := P) g sLen (strCells s) 0 w (fun j hj => by
    rw [strCells_length] at hj
    rw [cell_of hg, Array.getElem?_eq_getElem (by omega)]; rfl) (fun j hj => by simp [World.frozen?, hg]) (strCells_oneCell s)
  simp only [Nat.add_zero] at hst
  simp [Builtin.append_, run_underlying ht, run_underlying hu, sizeOf, typeInfo, hi, hs1, Builtin.lenOf, hroom, hf, Addr.add_lit, hst]
/-- A text appended to a builder's bytes. -/
theorem wsBuf_ok {P : Program} {K : Kx} {G : Gh} {H H1 : AH} {w : World} (h : HRel K G H w) {g ty : Nat} {r : Grp} (hg : H.gs.get g = some r) {b o n : Nat} {cs : Array Value} {t : TypeId} (q : GrpAt K G w g r b o n cs t)
    {c1 x : AV} {s : List UInt8} (hb : wsBuf ty g c1 s H = some (x, H1)) (hs : 0 < s.length) (hs2 : s.length < 1000000) {tb tu rt : TypeId} {inf : TypeInfo} (ht : P.underlying tb = some (.slice ty)) (hu : P.underlying tu = some .string)
    (hi : P.info? ty = some inf) (hz : inf.zero = some (.int .u8 0)) (hs1 : inf.size = 1) (hby : inf.bytes = 1) {v : Value} (hv : VR G c1 v) :
    ∃ v' w2 G', (Builtin.append_ #[tb, tu] rt #[v, .string ⟨s.toArray⟩]).run P w = .ok v' w2 ∧ G.le G' ∧ HRel K G' H1 w2 ∧ H1.gs.get g = some r ∧ VR G' x v' ∧ v'.oneCell' = true ∧ (∃ a n c, v' = .slice a n c) ∧ w2.heap[b]? = w.heap[b]? := by
  have hsz : (⟨s.toArray⟩ : ByteArray).size = s.length := by simp [ByteArray.size]
  have hlt := get_lt q.heap
  unfold wsBuf at hb
  split at hb
  · cases hf : H.free with
    | false => rw [hf] at hb; cases hb
    | true =>
      rw [hf] at hb
      cases hb
      simp only [VR] at hv
      subst hv
      have hr := run_append_nil_string (P := P) w tb tu rt ty inf (.int .u8 0) ht hu hi hz ⟨s.toArray⟩ (by omega) (by omega) (by rw [hby]; omega)
      have hge := grownCap_ge w s.length 0 ty
      have hfree := AH.free_ok hf
      have hmu := h.fresh _ hfree
      have hne : g ≠ H.next := fun e => by rw [e, hfree] at hg; cases hg
      rw [hsz] at hr
      have hcz : ((s.toArray.map fun b => Value.int .u8 b.toNat) ++ Builtin.zeroCells (Value.int .u8 0).cells (grownCap w s.length 0 ty - s.length)).size = grownCap w s.length 0 ty := by
        have hz1 : (Value.int IntKind.u8 0).cells.size = 1 := rfl
        rw [Array.size_append, size_zeroCells, hz1, Array.size_map, List.size_toArray]; omega
      have key := h.newBlock (g := H.next) (e := 0) (fz := 1000000001 + 2 * ty) (nx := H.next + 1) (xs := txtA s) (t := ty) (w' := w.drew.alloc (.cells ((s.toArray.map fun b => Value.int .u8 b.toNat) ++ Builtin.zeroCells (Value.int .u8 0).cells (grownCap w s.length 0 ty - s.length)) ty))
        (cs := (s.toArray.map fun b => Value.int .u8 b.toNat) ++ Builtin.zeroCells (Value.int .u8 0).cells (grownCap w s.length 0 ty - s.length)) (Below.alloc (Below.drew (Below.refl _ _)) (Nat.le_refl _) _) (by show (w.heap.push _)[w.heap.size]? = _; simp) (fun j z hj => by
          obtain ⟨u, h1, h2, h3⟩ := bytes_get (G := G) hj
          refine ⟨u, ?_, h2, h3⟩
          have hjl : j < s.length := by rw [← strCells_len]; exact (List.getElem?_eq_some_iff.1 h1).1
          rw [Array.getElem?_append_left (by simpa using hjl)]
          rw [← h1]
          simp [strCells]) (hmu 0) (fun e' _ => hmu e') (fun _ => .inr rfl)
      refine ⟨_, _, _, hr, Gh.put_le (hmu 0), key, ?_, ?_, rfl, ⟨_, _, _, rfl⟩, ?_⟩
      · show (H.gs.set H.next _).get g = _
        rw [Tr.get_set_ne _ _ hne]; exact hg
      · simp only [VR]
        exact ⟨w.heap.size, 0, _, grownCap w s.length 0 ty, Gh.put_same _ _ _ _, rfl, hge, by rw [hcz]; omega⟩
      · show (w.heap.push _)[b]? = w.heap[b]?; rw [Array.getElem?_push, if_neg (Nat.ne_of_lt hlt)]
  · rename_i gq eq i len z
    split at hb
    · rename_i rq hq
      cases hc : (Nat.beq i 0 && Nat.beq rq.e eq && Nat.beq z 1 && Nat.beq rq.fz (1000000001 + 2 * ty) && Nat.beq rq.cells.length len && Nat.blt len 1000000 && !Nat.beq gq g) with
      | false => rw [hc] at hb; cases hb
      | true =>
        rw [hc] at hb
        cases hb
        simp only [Bool.and_eq_true, Nat.beq_eq, Nat.blt_eq, Bool.not_eq_true'] at hc
        obtain ⟨⟨⟨⟨⟨⟨rfl, rfl⟩, rfl⟩, hfz⟩, rfl⟩, hlen⟩, hnb⟩ := hc
        have hne : g ≠ gq := fun e => by rw [e, Nat.beq_refl] at hnb; cases hnb
        obtain ⟨bq, oq, nq, cq, tq, qq⟩ := h.grp gq rq hq
        obtain ⟨htag, rfl, hM⟩ := qq.kind (by rw [hfz]; omega)
        obtain rfl : @Eq Nat tq ty := by
          unfold TagOk at htag
          omega
        have hbq : bq ≠ b := h.apart gq g rq r _ _ _ _ _ _ hq hg (Ne.symm hne) qq.mu q.mu
        simp only [VR] at hv
        obtain ⟨b', o', n', cap, hmu, rfl, hlc, hcn⟩ := hv
        rw [qq.mu] at hmu
        cases hmu
        have hage := h.ages gq rq _ hq (Nat.lt_succ_self rq.e)
        have hcl : (rq.cells ++ txtA s).length = rq.cells.length + s.length := by rw [List.length_append, bytes_len]
        have hgg : (H.put gq ⟨rq.e + 1, rq.fz, rq.cells ++ txtA s⟩ H.next).gs.get g = some r := by
          show (H.gs.set gq _).get g = _
          rw [Tr.get_set_ne _ _ hne]; exact hg
        have hnew : ∀ (j : Nat) (z : AV), (rq.cells ++ txtA s)[j]? = some z → ∃ u, VR G z u ∧ u.oneCell' = true ∧ (if j < rq.cells.length then cq[j]? = some u else (strCells ⟨s.toArray⟩)[j - rq.cells.length]? = some u) := by
          intro j z hj
          by_cases hjl : j < rq.cells.length
          · rw [List.getElem?_append_left hjl] at hj
            obtain ⟨u, h1, h2, h3⟩ := qq.cell j z hj
            exact ⟨u, h2, h3, by rw [if_pos hjl]; simpa using h1⟩
          · rw [List.getElem?_append_right (by omega)] at hj
            obtain ⟨u, h1, h2, h3⟩ := bytes_get (G := G) hj
            exact ⟨u, h2, h3, by rw [if_neg hjl]; exact h1⟩
        by_cases hroom : rq.cells.length + s.length ≤ cap
        · have hr := append_room_string (P := P) w tb tu rt tq inf ht hu hi hs1 bq rq.cells.length cap cq qq.heap ⟨s.toArray⟩ (by omega) (by rw [qq.size]; omega)
          rw [hsz] at hr
          obtain ⟨k1, k2⟩ := h.setsG qq hq (r' := ⟨rq.e + 1, rq.fz, rq.cells ++ txtA s⟩) (p := rq.cells.length) (vs := strCells ⟨s.toArray⟩) (by rw [strCells_len]; omega) (fun j _ => hM j) (o' := 0) (G' := G.put gq (rq.e + 1) (bq, 0, nq)) (.inr ⟨rfl, Nat.lt_succ_self _⟩) (fun j _ => hM j)
            (fun _ => ⟨.inr hfz, rfl, hM⟩) (fun j z hj => by
              obtain ⟨u, h1, h2, h3⟩ := hnew j z hj
              refine ⟨u, h1, ?_, h2⟩
              have hjl : j < rq.cells.length + s.length := by rw [← hcl]; exact (List.getElem?_eq_some_iff.1 hj).1
              rw [strCells_len]
              by_cases hj2 : j < rq.cells.length
              · rw [if_pos hj2] at h3; rw [if_neg (by omega)]; simpa using h3
              · rw [if_neg hj2] at h3; rw [if_pos (by omega)]; simpa using h3)
          refine ⟨_, _, _, by simpa using hr, k1, k2, hgg, ?_, rfl, ⟨_, _, _, rfl⟩, ?_⟩
          · simp only [VR]
            exact ⟨bq, 0, nq, cap, Gh.put_same _ _ _ _, rfl, hroom, by omega⟩
          · exact heap_sets_ne bq b (Ne.symm hbq) _ _ w
        · have hol : ∀ j v, (cq.toList.take rq.cells.length)[j]? = some v → w.cell? ((⟨bq, 0, none⟩ : Addr).add j) = some v := fun j v hj => by
            rw [Addr.add_lit, cell_of qq.heap, Nat.zero_add]
            rw [List.getElem?_take] at hj
            split at hj
            · rw [← Array.getElem?_toList]; exact hj
            · cases hj
          have hcs : rq.cells.length ≤ cq.size := by rw [qq.size]; omega
          have hr := run_append_grow_string (P := P) w tb tu rt tq inf (.int .u8 0) ht hu hi hz ⟨bq, 0, none⟩ rq.cells.length cap (cq.toList.take rq.cells.length) (by rw [List.length_take, hs1, Array.length_toList]; omega) hol ⟨s.toArray⟩ (by omega) (by omega) (by rw [hby]; exact growslice_fits (by omega) (by omega))
          rw [hsz] at hr
          have hge := grownCap_ge w (rq.cells.length + s.length) cap tq
          have hcz : ((cq.toList.take rq.cells.length).toArray ++ (strCells ⟨s.toArray⟩).toArray ++ Builtin.zeroCells (Value.int .u8 0).cells (grownCap w (rq.cells.length + s.length) cap tq - (rq.cells.length + s.length))).size = grownCap w (rq.cells.length + s.length) cap tq := by
            have hz1 : (Value.int IntKind.u8 0).cells.size = 1 := rfl
            rw [Array.size_append, Array.size_append, size_zeroCells, hz1, List.size_toArray, List.size_toArray, strCells_len, List.length_take, Array.length_toList]; omega
          have key := h.newBlock (g := gq) (e := rq.e + 1) (fz := rq.fz) (nx := H.next) (xs := rq.cells ++ txtA s) (t := tq) (w' := w.drew.alloc (.cells ((cq.toList.take rq.cells.length).toArray ++ (strCells ⟨s.toArray⟩).toArray ++ Builtin.zeroCells (Value.int .u8 0).cells (grownCap w (rq.cells.length + s.length) cap tq - (rq.cells.length + s.length))) tq))
            (cs := (cq.toList.take rq.cells.length).toArray ++ (strCells ⟨s.toArray⟩).toArray ++ Builtin.zeroCells (Value.int .u8 0).cells (grownCap w (rq.cells.length + s.length) cap tq - (rq.cells.length + s.length)))
            (Below.alloc (Below.drew (Below.refl _ _)) (Nat.le_refl _) _) (by show (w.heap.push _)[w.heap.size]? = _; simp) (fun j z hj => by
              obtain ⟨u, h1, h2, h3⟩ := hnew j z hj
              refine ⟨u, ?_, h1, h2⟩
              have hjl : j < rq.cells.length + s.length := by rw [← hcl]; exact (List.getElem?_eq_some_iff.1 hj).1
              rw [Array.getElem?_append_left (by rw [Array.size_append, List.size_toArray, List.size_toArray, strCells_len, List.length_take, Array.length_toList]; omega)]
              by_cases hj2 : j < rq.cells.length
              · rw [if_pos hj2] at h3
                rw [Array.getElem?_append_left (by rw [List.size_toArray, List.length_take, Array.length_toList]; omega), List.getElem?_toArray, List.getElem?_take, if_pos hj2, Array.getElem?_toList]
                exact h3
              · rw [if_neg hj2] at h3
                rw [Array.getElem?_append_right (by rw [List.size_toArray, List.length_take, Array.length_toList]; omega), List.getElem?_toArray, List.size_toArray, List.length_take, Array.length_toList, Nat.min_eq_left hcs]
                exact h3) hage (fun e' he' => h.ages gq rq _ hq (by omega)) (fun _ => .inr hfz)
          refine ⟨_, _, _, hr, Gh.put_le hage, key, hgg, ?_, rfl, ⟨_, _, _, rfl⟩, ?_⟩
          · simp only [VR]
            exact ⟨w.heap.size, 0, _, grownCap w (rq.cells.length + s.length) cap tq, Gh.put_same _ _ _ _, rfl, hge, by rw [hcz]; omega⟩
          · show (w.heap.push _)[b]? = w.heap[b]?; rw [Array.getElem?_push, if_neg (Nat.ne_of_lt hlt)]
    · cases hb
  · cases hb
theorem wsBuf_set {ty g : Nat} {c1 y : AV} {s : List UInt8} {H H1 : AH} {r : Grp} (hg : H.gs.get g = some r) (h : wsBuf ty g c1 s H = some (y, H1)) (r0 : Grp) :
    ∃ H2, wsBuf ty g c1 s ⟨H.next, H.gs.set g r0, H.ms⟩ = some (y, H2) ∧ H2.next = H1.next ∧ (∀ k, k ≠ g → H2.gs.get k = H1.gs.get k) ∧ ∀ k, H2.ms.get k = H1.ms.get k := by
  unfold wsBuf at h
  split at h
  · cases hf : H.free with
    | false => rw [hf] at h; cases h
    | true =>
      rw [hf] at h
      cases h
      have hne : H.next ≠ g := fun e => by rw [← e, AH.free_ok hf] at hg; cases hg
      have hf2 : (⟨H.next, H.gs.set g r0, H.ms⟩ : AH).free = true := by
        unfold AH.free
        simp only [Tr.get_set_ne _ _ hne, AH.free_ok hf]
      refine ⟨(⟨H.next, H.gs.set g r0, H.ms⟩ : AH).put H.next ⟨0, 1000000001 + 2 * ty, txtA s⟩ (H.next + 1), by simp only [wsBuf, hf2, cond_true], rfl, fun k hk => ?_, fun k => rfl⟩
      simp only [AH.put, Tr.get_set, if_neg hk]
  · rename_i gq eq i len z
    split at h
    · rename_i rq hq
      cases hc : (Nat.beq i 0 && Nat.beq rq.e eq && Nat.beq z 1 && Nat.beq rq.fz (1000000001 + 2 * ty) && Nat.beq rq.cells.length len && Nat.blt len 1000000 && !Nat.beq gq g) with
      | false => rw [hc] at h; cases h
      | true =>
        rw [hc] at h
        cases h
        have hne : gq ≠ g := fun e => by
          simp only [Bool.and_eq_true, Bool.not_eq_true'] at hc
          have := hc.2
          rw [e, Nat.beq_refl] at this; cases this
        refine ⟨(⟨H.next, H.gs.set g r0, H.ms⟩ : AH).put gq ⟨eq + 1, rq.fz, rq.cells ++ txtA s⟩ H.next, by simp only [wsBuf, Tr.get_set_ne _ _ hne, hq, hc, cond_true], rfl, fun k hk => ?_, fun k => rfl⟩
        simp only [AH.put, Tr.get_set, if_neg hk]
    · cases h
  · cases h
end Go.Abs
namespace Go.Proofs.YtjnagmdbkkccpaaGreatDoor
open Go Go.Abs Go.RowKit Go.Lib
set_option linter.unusedVariables false
set_option linter.unusedSimpArgs false
theorem wpList_append_run {P : Program} {ops : Array Oper} {rest : List Oper} {o : Oper} {a : Act} {w : World} {Q : Exit → Act → World → Prop} (hgd : o.guard = none) (s x : Operand) (t u : TypeId)
    (ho : o.op = .call { callee := .builtin .append, args := #[s, x], argTypes := #[t, u] }) (v y : Value) (hs : a.eval s = v) (hx : a.eval x = y) {v' : Value} {w' : World}
    (hr : (Builtin.append_ #[t, u] o.type #[v, y]).run P w = .ok v' w') (h : wpList P ops Q rest (a.put o.dst v') w') : wpList P ops Q (o :: rest) a w := by
  refine wpList_plain hgd fun K' hK => ?_
  unfold Oper.wp execOp
  simp only [ho, resolve, invoke, builtin, Sem.run_bind, Sem.run_pure, Result.andThen_ok, List.map_toArray, List.map_cons, List.map_nil, hs, hx, hr]
  exact hK _ _ h
set_option maxHeartbeats 1000000 in
set_option maxRecDepth 100000 in
theorem cc_used (b : Nat) (w : World) (h0 : w.cell? ⟨b, 0, none⟩ = some (.pointer (some ⟨b, 0, none⟩))) :
    Calls Tryz.prog 33 #[.pointer (some ⟨b, 0, none⟩)] w fun e w' => e = .returned (.tuple #[]) ∧ w' = w := by
  obtain ⟨j, hj, _⟩ := Option.map_eq_some_iff.1 Tryz.Builder_Extra_169.sizeBuilder
  have mixed : (Tryz.prog).follows .mixedOrders = true := by kernel_rfl
  go_enter Tryz.func33, Tryz.ntmps33
  go_wp2
  rw [run_neq_ptr_same w _ Tryz.underlying45 hj]
  go_wp2
  go_end0
  exact ⟨rfl, rfl⟩
set_option maxHeartbeats 1000000 in
set_option maxRecDepth 100000 in
theorem cc_fresh (b : Nat) (w : World) (h0 : w.cell? ⟨b, 0, none⟩ = some (.pointer none)) (hsh : w.shape? b = some (48, 2)) (hfz : w.frozen? ⟨b, 0, none⟩ = false) :
    Calls Tryz.prog 33 #[.pointer (some ⟨b, 0, none⟩)] w fun e w' => e = .returned (.tuple #[]) ∧ w' = w.setCell ⟨b, 0, none⟩ (.pointer (some ⟨b, 0, none⟩)) := by
  obtain ⟨j, hj, hjs⟩ := Option.map_eq_some_iff.1 Tryz.Builder_Extra_169.sizeBuilder
  have mixed : (Tryz.prog).follows .mixedOrders = true := by kernel_rfl
  go_enter Tryz.func33, Tryz.ntmps33
  go_wp2
  rw [run_to_unsafe w ⟨b, 0, none⟩ Tryz.underlying45 Tryz.underlying124 hj (by rw [hjs]; decide) hsh (Nat.zero_lt_succ 1)]
  simp only [Result.andThen]
  rw [Oper.upon_value]
  go_wp2
  rw [run_callFunc_extern Tryz.func58 (by kernel_rfl) (by kernel_rfl) (by kernel_rfl) (e := Extern.AbiNoEscape.same) (by kernel_rfl)]
  rw [run_noEscape]
  simp only [Result.andThen]
  rw [Oper.upon_value]
  go_wp2
  rw [run_from_unsafe w ⟨b, 0, none⟩ Tryz.underlying124 Tryz.underlying45 hj hsh Tryz.Builder_Extra_169.liesBuilder]
  simp only [Result.andThen]
  rw [Oper.upon_value]
  go_wp2
  go_end0
  exact ⟨rfl, rfl⟩
set_option maxHeartbeats 2000000 in
set_option maxRecDepth 100000 in
theorem ws_walk (b : Nat) (s : ByteArray) (w w1 w2 : World) (v v' : Value) (hc : Calls Tryz.prog 33 #[.pointer (some ⟨b, 0, none⟩)] w fun e w' => e = .returned (.tuple #[]) ∧ w' = w1)
    (c1 : w1.cell? ⟨b, 1, none⟩ = some v) (hr : (Builtin.append_ #[46, 9] 46 #[v, .string s]).run Tryz.prog w1 = .ok v' w2) (hv : ∃ a n c, v' = .slice a n c) (u0 u1 : Value) (hb : w2.heap[b]? = some (.cells #[u0, u1] 48 (0, 0))) :
    Calls Tryz.prog 12 #[.pointer (some ⟨b, 0, none⟩), .string s] w fun e w' => e = .returned (.tuple #[.int .i64 s.size, .nilIface]) ∧ w' = w2.setCell ⟨b, 1, none⟩ v' := by
  have mixed : (Tryz.prog).follows .mixedOrders = true := by kernel_rfl
  have d0 : w2.cell? ⟨b, 0, none⟩ = some u0 := by rw [Go.Abs.cell_of hb]; rfl
  have d1 : w2.cell? ⟨b, 1, none⟩ = some u1 := by rw [Go.Abs.cell_of hb]; rfl
  have f1 : w2.frozen? ⟨b, 1, none⟩ = false := by simp [World.frozen?, hb]
  obtain ⟨a, n, c, rfl⟩ := hv
  go_enter Tryz.func12, Tryz.ntmps12
  go_wp2_with (go_at_call 33; refine hc.mono ?_)
  rintro e w1' ⟨rfl, rfl⟩
  go_wp2_with (at_builtin; refine wpList_append_run rfl _ _ _ _ rfl _ _ rfl rfl hr ?_)
  go_wp2
  go_ret2
  exact ⟨rfl, rfl⟩
end Go.Proofs.YtjnagmdbkkccpaaGreatDoor
namespace Go.Proofs.YtjnagmdbkkccpaaGreatDoor
open Go Go.Abs Go.RowKit Go.Lib
set_option linter.unusedVariables false
set_option linter.unusedSimpArgs false
theorem byte_info : ∃ inf, (Tryz.prog).info? 5 = some inf ∧ inf.zero = some (.int .u8 0) ∧ inf.size = 1 ∧ inf.bytes = 1 := by
  obtain ⟨i, h1, h2⟩ := Option.map_eq_some_iff.1 Tryz.Builder_Extra_169.infoByte
  have h3 := congrArg Prod.fst h2
  have h4 := congrArg (fun x => x.2.1) h2
  have h5 := congrArg (fun x => x.2.2) h2
  exact ⟨i, h1, h3, h4, h5⟩
theorem ws_one : HookOne Tryz.prog 12 (wsH 48 5) := by
  refine ⟨by decide +kernel, fun args H x H' h => ?_, fun args H x H' h => wsH_frame h⟩
  unfold wsH at h
  split at h
  · rename_i g e i s
    split at h
    · rename_i r hr
      split at h
      · rename_i c0 c1 hcs
        cases hc : (Nat.beq i 0 && Nat.beq r.e e && Nat.beq r.fz (1000000000 + 2 * 48) && selfN g e c0 && Nat.blt 0 s.length && Nat.blt s.length 1000000) with
        | false => rw [hc] at h; cases h
        | true =>
          rw [hc] at h
          simp only [cond_true] at h
          split at h
          · rename_i y H1 hb
            cases h
            simp only [Bool.and_eq_true, Nat.beq_eq, Nat.blt_eq] at hc
            obtain ⟨⟨⟨⟨⟨rfl, he⟩, hfz⟩, hself⟩, hl0⟩, hl1⟩ := hc
            obtain ⟨re, rz, rc⟩ := r
            simp only at he hfz hcs
            subst he; subst hfz; subst hcs
            intro K G vs w hw hv
            obtain ⟨b, o, n, cs, t, q⟩ := hw.grp g _ hr
            obtain ⟨htag, rfl, hM⟩ := q.kind (by show 2 < 1000000000 + 2 * 48; omega)
            obtain ⟨rfl, rfl⟩ : @Eq Nat t 48 ∧ n = 2 := by
              unfold TagOk at htag
              dsimp only at htag
              simp only [List.length_cons, List.length_nil] at htag
              exact ⟨by omega, by omega⟩
            obtain ⟨u0, hu0, hv0, ho0⟩ := q.cell 0 c0 rfl
            obtain ⟨u1, hu1, hv1, ho1⟩ := q.cell 1 c1 rfl
            rw [Nat.zero_add] at hu0 hu1
            have hcs2 : cs = #[u0, u1] := by
              apply Array.ext'
              have hsz : cs.toList.length = 2 := by rw [Array.length_toList]; exact q.size
              rw [← Array.getElem?_toList] at hu0 hu1
              match hl : cs.toList, hsz with
              | [a, b], _ => rw [hl] at hu0 hu1; simp at hu0 hu1; simp [hu0, hu1]
            subst hcs2
            obtain rfl : vs = #[.pointer (some ⟨b, 0, none⟩), .string ⟨s.toArray⟩] := by
              obtain ⟨p, z, hu, h1, h2⟩ := hv.two
              simp only [VR] at h1 h2
              obtain ⟨b', o', n', hmu, rfl⟩ := h1
              subst h2
              rw [q.mu] at hmu
              cases hmu
              cases vs; simpa using hu
            have hself' : VR G (.ptr g re 0) (.pointer (some ⟨b, 0, none⟩)) := by simp only [VR]; exact ⟨b, 0, 2, q.mu, rfl⟩
            -- the check: the builder holds its own address behind it
            obtain ⟨w1, hcc, hrel1, hw1⟩ : ∃ w1, Calls Tryz.prog 33 #[.pointer (some ⟨b, 0, none⟩)] w (fun e w' => e = .returned (.tuple #[]) ∧ w' = w1) ∧
                HRel K G ⟨H.next, H.gs.set g ⟨re, 1000000000 + 2 * 48, [.ptr g re 0, c1]⟩, H.ms⟩ w1 ∧ w1.heap[b]? = some (.cells #[.pointer (some ⟨b, 0, none⟩), u1] 48 (0, 0)) := by
              cases c0 with
              | nilp =>
                simp only [VR] at hv0
                subst hv0
                refine ⟨_, cc_fresh b w (by rw [Go.Abs.cell_of q.heap]; rfl) (by simp [World.shape?, q.heap]) (by simp [World.frozen?, q.heap]), hw.bcell hr q (i := 0) (x := .ptr g re 0) (by omega) hself' rfl rfl, ?_⟩
                rw [heap_set w b 0 _ _ _ _ q.heap]; rfl
              | ptr g' e' i' =>
                simp only [selfN, Bool.and_eq_true, Nat.beq_eq] at hself
                obtain ⟨⟨rfl, rfl⟩, rfl⟩ := hself
                simp only [VR] at hv0
                obtain ⟨b', o', n', hmu, rfl⟩ := hv0
                rw [q.mu] at hmu
                cases hmu
                refine ⟨w, cc_used b w (by rw [Go.Abs.cell_of q.heap]; rfl), hw.he ⟨rfl, fun k => ?_, fun k => rfl⟩, q.heap⟩
                show (H.gs.set g' _).get k = H.gs.get k
                rw [Tr.get_set]
                split
                · rename_i hk; rw [hk, hr]
                · rfl
              | _ => cases hself
            obtain ⟨H2, hb2, hn2, hg2, hm2⟩ := wsBuf_set hr hb ⟨re, 1000000000 + 2 * 48, [.ptr g re 0, c1]⟩
            obtain ⟨b2, o2, n2, cs2, t2, q2⟩ := hrel1.grp g _ (Tr.get_set_same _ _ _)
            obtain ⟨rfl, rfl, rfl⟩ : b2 = b ∧ o2 = 0 ∧ n2 = 2 := by
              have := q2.mu
              rw [show G.mu g re = some (b, 0, 2) from q.mu] at this
              cases this; exact ⟨rfl, rfl, rfl⟩
            obtain ⟨inf, hi, hz, hs1, hby⟩ := byte_info
            obtain ⟨v', w2, G', hr2, hle, hrel2, hgg, hx', ho', hsl, hkeep⟩ := wsBuf_ok (P := Tryz.prog) (rt := 46) (tb := 46) (tu := 9) hrel1 (Tr.get_set_same _ _ _) q2 hb2 hl0 hl1 Tryz.underlying46 Tryz.underlying9 hi hz hs1 hby hv1
            rw [hw1] at hkeep
            refine (ws_walk b2 ⟨s.toArray⟩ w w1 w2 u1 v' hcc (by rw [Go.Abs.cell_of hw1]; rfl) hr2 hsl _ _ hkeep).mono fun e0 w' ⟨he0, hw'⟩ => ?_
            subst hw'
            obtain ⟨b3, o3, n3, cs3, t3, q3⟩ := hrel2.grp g _ hgg
            obtain ⟨rfl, rfl, rfl⟩ : b3 = b2 ∧ o3 = 0 ∧ n3 = 2 := by
              have := q3.mu
              rw [show G'.mu g re = some (b2, 0, 2) from hle.mu _ _ _ q.mu] at this
              cases this; exact ⟨rfl, rfl, rfl⟩
            have hfin := hrel2.bcell hgg q3 (i := 1) (x := y) (u := v') (ys := [.ptr g re 0, y]) (by omega) hx' ho' rfl
            refine ⟨_, _, G', _, he0, hle, hfin.he (H' := H1.put g ⟨re, 1000000000 + 2 * 48, [.ptr g re 0, y]⟩ H1.next) ⟨hn2.symm, fun k => ?_, fun k => (hm2 k).symm⟩, ?_, rfl, rfl⟩
            · show (H1.gs.set g _).get k = (H2.gs.set g _).get k
              rw [Tr.get_set, Tr.get_set]
              split
              · rfl
              · rename_i hk; exact (hg2 k hk).symm
            · simp only [VR, VRs]
              exact ⟨_, rfl, _, _, rfl, by simp [ByteArray.size], _, _, rfl, rfl, rfl⟩
          · cases h
      · cases h
    · cases h
  · cases h
end Go.Proofs.YtjnagmdbkkccpaaGreatDoor
