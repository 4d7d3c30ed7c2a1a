/- More operations on memory, read abstractly. -/
import Derived.Test.YtcnnobcncklgfaaGreatDoorAbsMem
import Derived.Laws.AppendOwn
namespace Go.Abs
open Go Go.RowKit
set_option linter.unusedVariables false
/-- A type's zero, abstractly. -/
def zeroA (P : Program) (t : TypeId) : Option AV := ((P.info? t).bind (·.zero)).bind AV.ofV
theorem zeroA_ok {P : Program} {G : Gh} {t : TypeId} {x : AV} (h : zeroA P t = some x) (w : World) : ∃ v i, P.info? t = some i ∧ i.zero = some v ∧ (zeroValue t).run P w = .ok v w ∧ VR G x v := by
  unfold zeroA at h
  rw [Option.bind_eq_some_iff] at h
  obtain ⟨v, h1, h2⟩ := h
  rw [Option.bind_eq_some_iff] at h1
  obtain ⟨i, h3, h4⟩ := h1
  exact ⟨v, i, h3, h4, by simp [zeroValue, typeInfo, h3, h4], ofV_ok h2⟩
/-- A struct's fields: where each lies, its size, whether it is made of parts. -/
def structA (P : Program) (t : TypeId) : Option (List (Nat × Nat × Bool)) :=
  match P.underlying t with
  | some (.struct fs) => fs.toList.mapM fun f => (P.info? f.type).bind fun i => (P.underlying f.type).map fun d => (f.offset, i.size, isAggD d)
  | _ => none
theorem structA_ok {P : Program} {t : TypeId} {l : List (Nat × Nat × Bool)} (h : structA P t = some l) : ∃ fs : Array Field, P.underlying t = some (.struct fs) ∧
    fs.toList.mapM (fun f => (P.info? f.type).map fun i => (f.offset, i.size)) = some (l.map fun x => (x.1, x.2.1)) ∧
    ∀ (j : Nat) x, l[j]? = some x → ∃ f i d, fs[j]? = some f ∧ P.info? f.type = some i ∧ P.underlying f.type = some d ∧ x = (f.offset, i.size, isAggD d) := by
  unfold structA at h
  split at h
  · rename_i fs hu
    refine ⟨fs, hu, ?_⟩
    have key : ∀ (L : List Field) (l : List (Nat × Nat × Bool)), (L.mapM fun f => (P.info? f.type).bind fun i => (P.underlying f.type).map fun d => (f.offset, i.size, isAggD d)) = some l →
        L.mapM (fun f => (P.info? f.type).map fun i => (f.offset, i.size)) = some (l.map fun x => (x.1, x.2.1)) ∧
        ∀ (j : Nat) x, l[j]? = some x → ∃ f i d, L[j]? = some f ∧ P.info? f.type = some i ∧ P.underlying f.type = some d ∧ x = (f.offset, i.size, isAggD d) := by
      intro L
      induction L with
      | nil => intro l h; simp at h; subst h; exact ⟨by simp, fun j x hx => by simp at hx⟩
      | cons f L ih =>
        intro l h
        simp only [List.mapM_cons, Option.bind_eq_bind, Option.pure_def] at h
        rw [Option.bind_eq_some_iff] at h
        obtain ⟨a, h1, h2⟩ := h
        rw [Option.bind_eq_some_iff] at h2
        obtain ⟨r, h3, h4⟩ := h2
        cases h4
        rw [Option.bind_eq_some_iff] at h1
        obtain ⟨i, hi, h5⟩ := h1
        rw [Option.map_eq_some_iff] at h5
        obtain ⟨d, hd, rfl⟩ := h5
        obtain ⟨k1, k2⟩ := ih r h3
        refine ⟨by simp [List.mapM_cons, hi, k1], fun j x hx => ?_⟩
        cases j with
        | zero => simp at hx; subst hx; exact ⟨f, i, d, rfl, hi, hd, rfl⟩
        | succ j => simp at hx; simpa using k2 j x hx
    obtain ⟨k1, k2⟩ := key fs.toList l h
    exact ⟨k1, fun j x hx => by obtain ⟨f, i, d, q1, q2, q3, q4⟩ := k2 j x hx; exact ⟨f, i, d, by simpa using q1, q2, q3, q4⟩⟩
  · cases h
/-- A struct or an array out of its parts. -/
def abuild (P : Program) (t : TypeId) (parts : List (Nat × AV)) : Option AV :=
  match structA P t, zeroA P t with
  | some l, some (.agg zs) => if zs.all AV.one = true then (afill (fun i => (l[i]?).map fun x => (x.1, x.2.1)) zs parts).map .agg else none
  | _, _ => none
theorem abuild_ok {P : Program} {G : Gh} {t : TypeId} {parts : List (Nat × AV)} {ps : Array (Nat × Value)} {x : AV} (hl : parts.length = ps.size)
    (hp : ∀ (j : Nat) p, parts[j]? = some p → ∃ v, ps[j]? = some (p.1, v) ∧ VR G p.2 v) (h : abuild P t parts = some x) (w : World) :
    ∃ u, (Instr.build t ps).run P w = .ok u w ∧ VR G x u := by
  unfold abuild at h
  split at h
  · rename_i l zs hs hz
    split at h
    · rename_i ho
      rw [Option.map_eq_some_iff] at h
      obtain ⟨ys, h1, rfl⟩ := h
      obtain ⟨fs, hu, hm, _⟩ := structA_ok hs
      obtain ⟨v, i, hi, hzv, _, hv⟩ := zeroA_ok (G := G) hz w
      simp only [VR] at hv
      obtain ⟨us, rfl, hv⟩ := hv
      obtain ⟨cs', g1, g2, _, _⟩ := afill_ok (ps := ps.toList) (by simpa using hl) (fun j p hj => by simpa using hp j p hj) hv (ones_ok ho hv) h1
      refine ⟨.agg cs', run_build w t ps cs' ?_, by simp only [VR]; exact ⟨cs', rfl, g2⟩⟩
      unfold Program.built
      rw [hi, hu]
      simp only [hzv, hm, Value.cells]
      rw [← g1]
      congr 1
      funext j
      simp
    · cases h
  · cases h
/-- A slice out of its parts: a new group. -/
def abuildSlice (P : Program) (t : TypeId) (len : Nat) (parts : List (Nat × AV)) (H : AH) : Option (AV × AH) :=
  match P.underlying t with
  | some (.slice e) =>
    let z := P.cellsOf e
    match zeroA P e with
    | some zv =>
      if zv.fit = true ∧ zv.cells.length = z ∧ len * z ≤ 16777216 ∧ len * z ≠ 0 ∧ H.free = true then
        match afill (fun i => some (i * z, z)) ((List.replicate len zv.cells).flatten) parts with
        | some ys => some (.slc H.next 0 0 len z, H.add ys)
        | none => none
      else none
    | none => none
  | _ => none
theorem repeat_cells {α : Type} [Inhabited α] (z : Array α) (n : Nat) : ((Array.range (n * z.size)).map fun i => z[i % z.size]!).toList = (List.replicate n z.toList).flatten := by
  apply List.ext_getElem?
  intro j
  induction n generalizing j with
  | zero => simp
  | succ n ih =>
    rw [List.replicate_succ, List.flatten_cons]
    by_cases hj : j < z.size
    · rw [List.getElem?_append_left (by simpa using hj)]
      have h1 : j < (n + 1) * z.size := by rw [Nat.add_mul]; omega
      simp [h1, Nat.mod_eq_of_lt hj, hj]
    · rw [List.getElem?_append_right (by simpa using hj), ← ih]
      simp only [Array.length_toList, Array.getElem?_toList, Array.getElem?_map, Array.getElem?_range]
      by_cases h1 : j < (n + 1) * z.size
      · have h2 : j - z.size < n * z.size := by rw [Nat.add_mul] at h1; omega
        rw [if_pos h1, if_pos h2]
        simp only [Option.map_some]
        congr 2
        conv => lhs; rw [show j = (j - z.size) + z.size by omega]
        rw [Nat.add_mod_right]
      · have h2 : ¬ j - z.size < n * z.size := by rw [Nat.add_mul] at h1; omega
        rw [if_neg h1, if_neg h2]
theorem VRs.append {G : Gh} : ∀ {xs ys : List AV} {us vs : List Value}, VRs G xs us → VRs G ys vs → VRs G (xs ++ ys) (us ++ vs)
  | [], ys, us, vs, h1, h2 => by simp only [VRs] at h1; subst h1; exact h2
  | x :: xs, ys, us, vs, h1, h2 => by
    simp only [VRs] at h1
    obtain ⟨u, us', rfl, h3, h4⟩ := h1
    show VRs G (x :: (xs ++ ys)) (u :: (us' ++ vs))
    simp only [VRs]
    exact ⟨u, us' ++ vs, rfl, h3, VRs.append h4 h2⟩
theorem VRs.repeat {G : Gh} {xs : List AV} {us : List Value} (h : VRs G xs us) : ∀ n, VRs G (List.replicate n xs).flatten (List.replicate n us).flatten
  | 0 => by simp [VRs]
  | n + 1 => by rw [List.replicate_succ, List.replicate_succ, List.flatten_cons, List.flatten_cons]; exact h.append (VRs.repeat h n)
theorem abuildSlice_ok {P : Program} {K : Kx} {G : Gh} {H H' : AH} {w : World} (h : HRel K G H w) {t : TypeId} {len : Nat} {parts : List (Nat × AV)} {ps : Array (Nat × Value)} {x : AV} (hl : parts.length = ps.size)
    (hp : ∀ (j : Nat) p, parts[j]? = some p → ∃ v, ps[j]? = some (p.1, v) ∧ VR G p.2 v) (hb : abuildSlice P t len parts H = some (x, H')) :
    ∃ u w' G', (Instr.buildSlice t len ps).run P w = .ok u w' ∧ G.le G' ∧ HRel K G' H' w' ∧ VR G' x u := by
  unfold abuildSlice at hb
  split at hb
  · rename_i e hu
    simp only at hb
    split at hb
    · rename_i zv hz
      split at hb
      · rename_i hh
        obtain ⟨hfit, hzl, hsm, hpos, hfree⟩ := hh
        split at hb
        · rename_i ys hys
          cases hb
          obtain ⟨v, i, hi, hzv, _, hv⟩ := zeroA_ok (G := G) hz w
          obtain ⟨q1, q2, q3⟩ := fit_ok hfit hv
          have hcs : P.cellsOf e = i.size := by simp [Program.cellsOf, hi]
          have hsz : v.cells.size = i.size := by rw [← Array.length_toList, q1.len, hzl, hcs]
          have hrep : ((Array.range (len * i.size)).map (v.cells[· % v.cells.size]!)).toList = (List.replicate len v.cells.toList).flatten := by
            rw [← hsz]; exact repeat_cells v.cells len
          have hones : ∀ c ∈ ((Array.range (len * i.size)).map (v.cells[· % v.cells.size]!)).toList, c.oneCell' = true := by
            rw [hrep]
            intro c hc
            rw [List.mem_flatten] at hc
            obtain ⟨l, h1, h2⟩ := hc
            rw [List.mem_replicate] at h1
            rw [h1.2] at h2
            exact q3 c h2
          obtain ⟨cs', g1, g2, g3, g4⟩ := afill_ok (ps := ps.toList) (place := fun j => some (j * P.cellsOf e, P.cellsOf e)) (cs := (Array.range (len * i.size)).map (v.cells[· % v.cells.size]!)) (by simpa using hl) (fun j p hj => by simpa using hp j p hj)
            (by rw [hrep]; exact q1.repeat len) hones hys
          rw [hcs] at g1 hsm hpos
          have hrun := run_buildSlice w t e len ps cs' i v hu hi hzv (by omega) hpos g1
          obtain ⟨k1, k2⟩ := add_ok h g2 g3 e hfree
          refine ⟨_, _, _, hrun, k1, k2, ?_⟩
          simp only [VR]
          refine ⟨_, _, _, len, Gh.put_same _ _ _ _, rfl, Nat.le_refl _, ?_⟩
          rw [g4]
          simp [hcs]
        · cases hb
      · cases hb
    · cases hb
  · cases hb
/-- A field's address. -/
def afieldAddr (P : Program) (t : TypeId) (x : AV) (f : Nat) : Option AV :=
  match structA P t with
  | some l =>
    match l[f]? with
    | some (off, size, _) => if size = 0 then none else
      match x with
      | .ptr g e i => some (.ptr g e (i + off))
      | .vptr row i => some (.vptr row (i + off))
      | _ => none
    | none => none
  | none => none
theorem afieldAddr_ok {P : Program} {G : Gh} {t : TypeId} {x y : AV} {f : Nat} {v : Value} (hx : VR G x v) (h : afieldAddr P t x f = some y) (w : World) : ∃ u, (Instr.fieldAt t v f).run P w = .ok u w ∧ VR G y u := by
  unfold afieldAddr at h
  split at h
  · rename_i l hs
    split at h
    · rename_i off size ag hf
      split at h
      · cases h
      · rename_i hsz
        obtain ⟨fs, hu, _, hk⟩ := structA_ok hs
        obtain ⟨fl, i, d, h1, h2, h3, h4⟩ := hk f _ hf
        cases h4
        split at h
        · rename_i g e j
          cases h
          simp only [VR] at hx
          obtain ⟨b, o, n, hm, rfl⟩ := hx
          refine ⟨.pointer (some ⟨b, o + (j + fl.offset), none⟩), ?_, by simp only [VR]; exact ⟨b, o, n, hm, rfl⟩⟩
          simp [Instr.fieldAt, run_underlying hu, h1, Instr.sureAddr, fieldPlace, run_size h2, hsz, Addr.add_lit, Nat.add_assoc]
        · rename_i row j
          cases h
          simp only [VR] at hx
          obtain ⟨b, o, rfl, hr⟩ := hx
          refine ⟨.pointer (some ⟨b, o + (j + fl.offset), none⟩), ?_, by simp only [VR]; exact ⟨b, o, rfl, hr⟩⟩
          simp [Instr.fieldAt, run_underlying hu, h1, Instr.sureAddr, fieldPlace, run_size h2, hsz, Addr.add_lit, Nat.add_assoc]
        · cases h
    · cases h
  · cases h
/-- A field of a value. -/
def afield (P : Program) (t : TypeId) (x : AV) (f : Nat) : Option AV :=
  match structA P t, x with
  | some l, .agg cs =>
    match l[f]? with
    | some (off, size, true) => some (.agg ((cs.drop off).take size))
    | some (off, _, false) => cs[off]?
    | none => none
  | _, _ => none
theorem VRs.drop {G : Gh} : ∀ {xs : List AV} {us : List Value} (n : Nat), VRs G xs us → VRs G (xs.drop n) (us.drop n)
  | xs, us, 0, h => by simpa using h
  | [], us, n + 1, h => by simp only [VRs] at h; subst h; simp [VRs]
  | x :: xs, us, n + 1, h => by
    simp only [VRs] at h
    obtain ⟨u, us', rfl, _, h⟩ := h
    simpa using VRs.drop n h
theorem VRs.take {G : Gh} : ∀ {xs : List AV} {us : List Value} (n : Nat), VRs G xs us → VRs G (xs.take n) (us.take n)
  | xs, us, 0, h => by simp [VRs]
  | [], us, n + 1, h => by simp only [VRs] at h; subst h; simp [VRs]
  | x :: xs, us, n + 1, h => by
    simp only [VRs] at h
    obtain ⟨u, us', rfl, h1, h⟩ := h
    simp only [List.take_succ_cons, VRs]
    exact ⟨u, us'.take n, rfl, h1, VRs.take n h⟩
theorem part_ok {P : Program} {G : Gh} {t : TypeId} {i : TypeInfo} {d : TypeDesc} {cs : List AV} {us : Array Value} {off : Nat} {y : AV} (hi : P.info? t = some i) (hd : P.underlying t = some d) (hv : VRs G cs us.toList)
    (h : (if isAggD d then some (.agg ((cs.drop off).take i.size)) else cs[off]?) = some y) (w : World) : ∃ u, (part t us off).run P w = .ok u w ∧ VR G y u := by
  split at h
  · rename_i ha
    cases h
    refine ⟨.agg (us.extract off (off + i.size)), by simp [part, run_isAgg hd, ha, run_size hi], ?_⟩
    simp only [VR]
    refine ⟨_, rfl, ?_⟩
    have : (us.extract off (off + i.size)).toList = (us.toList.drop off).take i.size := by simp [List.extract_eq_take_drop]
    rw [this]
    exact (hv.drop off).take i.size
  · rename_i ha
    obtain ⟨u, h1, h2⟩ := hv.get off y h
    exact ⟨u, by simp at h1; simp [part, run_isAgg hd, ha, h1], h2⟩
theorem afield_ok {P : Program} {G : Gh} {t : TypeId} {x y : AV} {f : Nat} {v : Value} (hx : VR G x v) (h : afield P t x f = some y) (w : World) : ∃ u, (Instr.field t v f).run P w = .ok u w ∧ VR G y u := by
  unfold afield at h
  split at h
  · rename_i l cs hs
    obtain ⟨fs, hu, _, hk⟩ := structA_ok hs
    simp only [VR] at hx
    obtain ⟨us, rfl, hv⟩ := hx
    split at h
    · rename_i off size hf
      obtain ⟨fl, i, d, h1, h2, h3, h4⟩ := hk f _ hf
      simp only [Prod.mk.injEq] at h4
      obtain ⟨rfl, rfl, ha⟩ := h4
      obtain ⟨u, q1, q2⟩ := part_ok (y := y) (off := fl.offset) h2 h3 hv (by rw [← ha]; exact h) w
      exact ⟨u, by simp [Instr.field, run_underlying hu, h1, asAgg, q1], q2⟩
    · rename_i off size hf
      obtain ⟨fl, i, d, h1, h2, h3, h4⟩ := hk f _ hf
      simp only [Prod.mk.injEq] at h4
      obtain ⟨rfl, rfl, ha⟩ := h4
      obtain ⟨u, q1, q2⟩ := part_ok (y := y) (off := fl.offset) h2 h3 hv (by rw [← ha]; exact h) w
      exact ⟨u, by simp [Instr.field, run_underlying hu, h1, asAgg, q1], q2⟩
    · cases h
  · cases h
end Go.Abs
