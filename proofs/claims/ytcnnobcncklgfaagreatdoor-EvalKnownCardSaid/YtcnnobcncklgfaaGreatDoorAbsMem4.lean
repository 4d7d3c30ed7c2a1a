/- append and len, read abstractly. -/
import Derived.Test.YtcnnobcncklgfaaGreatDoorAbsMem3
namespace Go.Abs
open Go Go.RowKit
set_option linter.unusedVariables false
/-- The elements of a slice: how many, and their cells. -/
def listCells (H : AH) (z : Nat) (x : AV) : Option (Nat × List AV) :=
  match x with
  | .nils => some (0, [])
  | .zslc => some (0, [])
  | .vals z' rows => if z' = z then some (rows.length, rows.flatten) else none
  | .slc g e i len z' =>
    match H.gs.get g with
    | some r => if r.e = e ∧ z' = z ∧ i + len * z ≤ r.cells.length then some (len, (r.cells.drop i).take (len * z)) else none
    | none => none
  | _ => none
theorem CellsIn.append {G : Gh} {w : World} {xs ys : List AV} {b o : Nat} (h1 : CellsIn G w xs b o) (h2 : CellsIn G w ys b (o + xs.length)) : CellsIn G w (xs ++ ys) b o := by
  intro j x hx
  by_cases hj : j < xs.length
  · rw [List.getElem?_append_left hj] at hx; exact h1 j x hx
  · rw [List.getElem?_append_right (by omega)] at hx
    obtain ⟨u, q1, q2⟩ := h2 _ x hx
    exact ⟨u, by rw [← q1]; congr 2; omega, q2⟩
theorem VRow.cellsIn {K : Kx} {G : Gh} {H : AH} {w : World} (h : HRel K G H w) {r : List AV} {b o : Nat} (hr : VRow G r b o) : CellsIn G w r b o := fun j x hx => by
  obtain ⟨u, h1, h2⟩ := hr.get j x hx
  exact ⟨u, h.mem _ _ _ h1, h2, h.ones _ _ _ h1⟩
theorem VRows.cellsIn {K : Kx} {G : Gh} {H : AH} {w : World} (h : HRel K G H w) {z : Nat} : ∀ {rs : List (List AV)} {b o : Nat}, VRows G z rs b o → rs.flatten.length = rs.length * z ∧ CellsIn G w rs.flatten b o
  | [], b, o, hr => ⟨by simp, fun j x hx => by simp at hx⟩
  | r :: rs, b, o, hr => by
    simp only [VRows] at hr
    obtain ⟨h1, h2, h3⟩ := hr
    obtain ⟨q1, q2⟩ := VRows.cellsIn h h3
    rw [List.flatten_cons]
    exact ⟨by rw [List.length_append, q1, h1, List.length_cons, Nat.add_mul]; omega, (h2.cellsIn h).append (by rw [h1]; exact q2)⟩
theorem listCells_ok {K : Kx} {G : Gh} {H : AH} {w : World} (h : HRel K G H w) {z m : Nat} {x : AV} {xs : List AV} {v : Value} (hx : VR G x v) (hl : listCells H z x = some (m, xs)) :
    ∃ a c, v = .slice a m c ∧ m ≤ c ∧ xs.length = m * z ∧ (m = 0 ∨ ∃ b o, a = some ⟨b, o, none⟩ ∧ CellsIn G w xs b o) := by
  unfold listCells at hl
  split at hl
  · cases hl
    simp only [VR] at hx
    exact ⟨none, 0, hx, Nat.le_refl _, by simp, .inl rfl⟩
  · cases hl
    simp only [VR] at hx
    obtain ⟨a, rfl⟩ := hx
    exact ⟨a, 0, rfl, Nat.le_refl _, by simp, .inl rfl⟩
  · split at hl
    · rename_i z' rows hz
      subst hz
      cases hl
      simp only [VR] at hx
      obtain ⟨a, c, rfl, hlc, rfl | ⟨b, o, rfl, hr⟩⟩ := hx
      · exact ⟨a, c, rfl, hlc, by simp, .inl rfl⟩
      · obtain ⟨q1, q2⟩ := hr.cellsIn h
        exact ⟨_, c, rfl, hlc, q1, .inr ⟨b, o, rfl, q2⟩⟩
    · cases hl
  · rename_i g e i len z'
    split at hl
    · rename_i r hr
      split at hl
      · rename_i hh
        obtain ⟨rfl, rfl, hfit⟩ := hh
        cases hl
        simp only [VR] at hx
        obtain ⟨b, o, n, c, hmu, rfl, hlc, _⟩ := hx
        obtain ⟨b', o', n', cs, t, q⟩ := h.grp g r hr
        rw [q.mu] at hmu
        cases hmu
        exact ⟨_, c, rfl, hlc, by rw [List.length_take, List.length_drop]; omega, .inr ⟨b, o + i, rfl, q.cellsIn i _⟩⟩
      · cases hl
    · cases hl
  · cases hl
def anySlice : AV → Bool
  | .slc .. | .nils | .zslc | .vals .. => true
  | _ => false
theorem anySlice_ok {G : Gh} {x : AV} {v : Value} (h : anySlice x = true) (hx : VR G x v) : ∃ a n c, v = .slice a n c ∧ n ≤ c := by
  cases x <;> simp only [anySlice] at h <;> try (cases h; done)
  all_goals simp only [VR] at hx
  · exact ⟨_, _, _, hx, Nat.le_refl _⟩
  · obtain ⟨a, rfl⟩ := hx; exact ⟨_, _, _, rfl, Nat.le_refl _⟩
  · obtain ⟨b, o, n, c, _, rfl, h, _⟩ := hx; exact ⟨_, _, _, rfl, h⟩
  · obtain ⟨a, c, rfl, h, _⟩ := hx; exact ⟨_, _, _, rfl, h⟩
/-- append. -/
def aappend (P : Program) (t : TypeId) (s x : AV) (H : AH) : Option (AV × AH) :=
  match P.underlying t with
  | some (.slice e) =>
    match zeroA P e, listCells H (P.cellsOf e) x with
    | some zv, some (m, xs) =>
      if zv.fit = true ∧ zv.cells.length = P.cellsOf e ∧ P.cellsOf e ≠ 0 then
        if m = 0 then (if anySlice s = true then some (s, H) else none) else
        match s with
        | .slc g a i len z =>
          match H.gs.get g with
          | some r =>
            if r.e = a ∧ z = P.cellsOf e ∧ r.fz ≤ i + len * z ∧ i + len * z ≤ r.cells.length ∧ (len + m) * P.bytesOf e ≤ 140737488355328 ∧ len + m ≤ 9223372036854775807 then
              some (.slc g (a + 1) 0 (len + m) z, ⟨H.next, H.gs.set g ⟨a + 1, r.fz - i, (r.cells.drop i).take (len * z) ++ xs⟩, H.ms⟩)
            else none
          | none => none
        | .nils => if m * P.bytesOf e ≤ 140737488355328 ∧ m ≤ 9223372036854775807 ∧ H.free = true then some (.slc H.next 0 0 m (P.cellsOf e), H.add xs) else none
        | .zslc => if m * P.bytesOf e ≤ 140737488355328 ∧ m ≤ 9223372036854775807 ∧ H.free = true then some (.slc H.next 0 0 m (P.cellsOf e), H.add xs) else none
        | _ => none
      else none
    | _, _ => none
  | _ => none
theorem run_append_none {P : Program} {t ty e : TypeId} {i : TypeInfo} (ht : P.underlying t = some (.slice e)) (hi : P.info? e = some i) (a xa : Option Addr) (n c cx : Nat) (hn : n ≤ c) (w : World) :
    (Builtin.append_ #[t, t] ty #[.slice a n c, .slice xa 0 cx]).run P w = .ok (.slice a n c) w := by
  cases a <;> cases xa <;> simp [Builtin.append_, run_underlying ht, run_size hi, Builtin.lenOf, hn, Builtin.firstCells, loadCells, loadCellsFrom, storeCells]
theorem add_new {K : Kx} {G : Gh} {H : AH} {w w' : World} (h : HRel K G H w) {xs : List AV} {cs : Array Value} {t : TypeId} (hb : Below w.heap.size w w') (hw : w'.heap[w.heap.size]? = some (.cells cs t (0, 0)))
    (hx : ∀ (i : Nat) (x : AV), xs[i]? = some x → ∃ u, cs[i]? = some u ∧ VR G x u ∧ u.oneCell' = true) (hfree : H.free = true) :
    G.le (G.put H.next 0 (w.heap.size, 0, cs.size)) ∧ HRel K (G.put H.next 0 (w.heap.size, 0, cs.size)) (H.add xs) w' := by
  have hf := h.fresh H.next (AH.free_ok hfree)
  exact ⟨Gh.put_le (hf 0), h.newBlock (g := H.next) (e := 0) (fz := 0) (nx := H.next + 1) hb hw hx (hf 0) (fun e' _ => hf e')⟩
theorem grown_size {z v : Value} {zs n m need cap : Nat} {olds news : List Value} (hz : z.cells.size = zs) (ho : olds.length = n * zs) (hn : news.length = m * zs) (hc : n + m ≤ cap) :
    (olds.toArray ++ news.toArray ++ Builtin.zeroCells z.cells (cap - (n + m))).size = cap * zs := by
  simp only [Array.size_append, List.size_toArray, size_zeroCells, hz, ho, hn, ← Nat.add_mul]
  congr 1; omega
set_option maxHeartbeats 1000000 in
theorem aappend_ok {P : Program} {K : Kx} {G : Gh} {H H' : AH} {w : World} (h : HRel K G H w) {t ty : TypeId} {s x y : AV} {v u : Value} (hs : VR G s v) (hx : VR G x u) (ha : aappend P t s x H = some (y, H')) :
    ∃ r w' G', (Builtin.append_ #[t, t] ty #[v, u]).run P w = .ok r w' ∧ G.le G' ∧ HRel K G' H' w' ∧ VR G' y r := by
  unfold aappend at ha
  split at ha
  · rename_i e hu
    split at ha
    · rename_i zv m xs hz hlc
      split at ha
      · rename_i hh
        obtain ⟨hfit, hzl, hz0⟩ := hh
        obtain ⟨zz, inf, hi, hzz, _, hvz⟩ := zeroA_ok (G := G) hz w
        obtain ⟨q1, _, _⟩ := fit_ok hfit hvz
        have hcs : P.cellsOf e = inf.size := by simp [Program.cellsOf, hi]
        have hby : P.bytesOf e = inf.bytes := by simp [Program.bytesOf, hi]
        have hzsz : zz.cells.size = inf.size := by rw [← Array.length_toList, q1.len, hzl, hcs]
        obtain ⟨xa, xc, rfl, hmc, hxl, hxin⟩ := listCells_ok h hx hlc
        by_cases hm : m = 0
        · rw [if_pos hm] at ha
          split at ha
          · rename_i hany
            cases ha
            subst hm
            obtain ⟨a, n, c, rfl, hnc⟩ := anySlice_ok hany hs
            exact ⟨_, w, G, run_append_none hu hi a xa n c xc hnc w, Gh.le.refl _, h, hs⟩
          · cases ha
        · rw [if_neg hm] at ha
          obtain ⟨xb, xo, rfl, hxi⟩ := hxin.resolve_left hm
          obtain ⟨news, hnv, hnc, hn1⟩ := hxi.list
          have hnl : news.length = m * inf.size := by rw [hnv.len, hxl, hcs]
          have hnews : ∀ j v, news[j]? = some v → w.cell? ((⟨xb, xo, none⟩ : Addr).add j) = some v := fun j v hj => by rw [Addr.add_lit]; exact hnc j v hj
          -- a new row out of nothing
          have fresh : H.free = true → ∀ (cap : Nat), m ≤ cap → ∀ w', w' = w.drew.alloc (.cells (([] : List Value).toArray ++ news.toArray ++ Builtin.zeroCells zz.cells (cap - (0 + m))) e) →
              ∃ G', G.le G' ∧ HRel K G' (H.add xs) w' ∧ VR G' (.slc H.next 0 0 m (P.cellsOf e)) (.slice (some ⟨w.heap.size, 0, none⟩) m cap) := by
            intro hfree cap hcap w' hw'
            have hsz := grown_size (v := zz) (need := 0) (n := 0) (olds := []) hzsz (by simp) hnl (by omega : 0 + m ≤ cap)
            obtain ⟨k1, k2⟩ := add_new h (xs := xs) (t := e) (w' := w') (cs := ([] : List Value).toArray ++ news.toArray ++ Builtin.zeroCells zz.cells (cap - (0 + m)))
              (by rw [hw']; exact Below.alloc (Below.drew (Below.refl _ _)) (Nat.le_refl _) _) (by rw [hw']; show (w.heap.push _)[w.heap.size]? = _; simp)
              (fun j z hj => by
                obtain ⟨u', g1, g2⟩ := hnv.get j z hj
                have hjl : j < news.length := (List.getElem?_eq_some_iff.1 g1).1
                refine ⟨u', ?_, g2, hn1 u' (List.mem_of_getElem? g1)⟩
                simp only [Array.empty_append]
                rw [Array.getElem?_append_left (by simpa using hjl)]
                simpa using g1) hfree
            refine ⟨_, k1, k2, ?_⟩
            simp only [VR]
            refine ⟨_, _, _, cap, Gh.put_same _ _ _ _, rfl, hcap, ?_⟩
            rw [hsz, hcs]; simp
          split at ha
          · rename_i g a i len z
            split at ha
            · rename_i r hr
              split at ha
              · rename_i hh
                cases ha
                obtain ⟨rfl, rfl, hfz, hwin, hbytes, h63⟩ := hh
                simp only [VR] at hs
                obtain ⟨b, o, n, cap, hmu, rfl, hlcap, hroomn⟩ := hs
                obtain ⟨b', o', n', cs, ty', q⟩ := h.grp g r hr
                rw [q.mu] at hmu
                cases hmu
                rw [hcs] at hfz hwin hroomn
                have hwl : ((r.cells.drop i).take (len * inf.size)).length = len * inf.size := by rw [List.length_take, List.length_drop]; omega
                by_cases hroom : len + m ≤ cap
                · have hmul : (len + m) * inf.size ≤ cap * inf.size := Nat.mul_le_mul_right _ hroom
                  have hsplit : (len + m) * inf.size = len * inf.size + m * inf.size := Nat.add_mul _ _ _
                  have hrun := run_append_room_cells (P := P) w t ty e inf hu hi b (o + i) len cap ⟨xb, xo, none⟩ m xc news hnl hnews hn1 hroom
                    (fun j hj => by rw [cell_of q.heap, Array.getElem?_eq_getElem (by rw [q.size]; omega)]; rfl) (fun j hj => by simp [World.frozen?, q.heap])
                  obtain ⟨k1, k2⟩ := h.sets q hr (r' := ⟨r.e + 1, r.fz - i, (r.cells.drop i).take (len * P.cellsOf e) ++ xs⟩) (p := o + i + len * inf.size) (vs := news) (by omega) (by omega) (o' := o + i)
                    (G' := G.put g (r.e + 1) (b, o + i, n)) (.inr ⟨rfl, Nat.lt_succ_self _⟩) (by show o + r.fz ≤ o + i + (r.fz - i); omega) (by
                      intro j z hz
                      rw [hcs] at hz
                      by_cases hj : j < len * inf.size
                      · rw [List.getElem?_append_left (by omega), List.getElem?_take, if_pos hj, List.getElem?_drop] at hz
                        obtain ⟨u', g1, g2, g3⟩ := q.cell _ z hz
                        refine ⟨u', g2, ?_, g3⟩
                        rw [if_neg (by omega), ← g1]
                        congr 1; omega
                      · rw [List.getElem?_append_right (by omega), hwl] at hz
                        obtain ⟨u', g1, g2⟩ := hnv.get _ z hz
                        have hjl : j - len * inf.size < news.length := (List.getElem?_eq_some_iff.1 g1).1
                        refine ⟨u', g2, ?_, hn1 u' (List.mem_of_getElem? g1)⟩
                        rw [if_pos (by omega), ← g1]
                        congr 1; omega)
                  refine ⟨_, _, _, hrun, k1, k2, ?_⟩
                  simp only [VR]
                  refine ⟨b, o + i, n, cap, Gh.put_same _ _ _ _, rfl, hroom, ?_⟩
                  rw [hcs]; omega
                · obtain ⟨olds, hov, hoc, ho1⟩ := (q.cellsIn i (len * inf.size)).list
                  have hol : olds.length = len * inf.size := by rw [hov.len, hwl]
                  have hrun := run_append_grow (P := P) w t ty e inf zz hu hi hzz ⟨b, o + i, none⟩ len cap olds hol (fun j v hj => by rw [Addr.add_lit]; exact hoc j v hj) ⟨xb, xo, none⟩ m xc news hnl hnews (by omega) (by omega)
                    (growslice_fits (by omega) (by rw [← hby]; exact hbytes))
                  have hge := grownCap_ge w (len + m) cap e
                  have hsz := grown_size (v := zz) (need := 0) hzsz hol hnl hge
                  have key := h.newBlock (g := g) (e := r.e + 1) (fz := r.fz - i) (nx := H.next) (xs := (r.cells.drop i).take (len * P.cellsOf e) ++ xs) (t := e)
                    (w' := w.drew.alloc (.cells (olds.toArray ++ news.toArray ++ Builtin.zeroCells zz.cells (grownCap w (len + m) cap e - (len + m))) e))
                    (cs := olds.toArray ++ news.toArray ++ Builtin.zeroCells zz.cells (grownCap w (len + m) cap e - (len + m)))
                    (Below.alloc (Below.drew (Below.refl _ _)) (Nat.le_refl _) _) (by show (w.heap.push _)[w.heap.size]? = _; simp) (fun j z hz => by
                      have hz' : (olds ++ news)[j]? = none → False := by
                        intro hno
                        rw [List.getElem?_eq_none_iff] at hno
                        have := (List.getElem?_eq_some_iff.1 hz).1
                        rw [hcs, List.length_append, hwl, hxl] at this
                        rw [List.length_append, hol, hnl] at hno
                        rw [hcs] at this
                        omega
                      obtain ⟨u', g1, g2⟩ := (hov.append hnv).get j z (by rw [hcs] at hz; exact hz)
                      have hjl : j < (olds ++ news).length := (List.getElem?_eq_some_iff.1 g1).1
                      refine ⟨u', ?_, g2, ?_⟩
                      · rw [Array.getElem?_append_left (by simpa using hjl)]
                        rw [← Array.getElem?_toList]
                        simpa using g1
                      · rcases List.mem_append.1 (List.mem_of_getElem? g1) with hm' | hm'
                        · exact ho1 u' hm'
                        · exact hn1 u' hm')
                    (h.ages g r _ hr (Nat.lt_succ_self _)) (fun e' he' => h.ages g r _ hr (by omega))
                  refine ⟨_, _, _, hrun, Gh.put_le (h.ages g r _ hr (Nat.lt_succ_self _)), key, ?_⟩
                  simp only [VR]
                  refine ⟨_, _, _, grownCap w (len + m) cap e, Gh.put_same _ _ _ _, rfl, hge, ?_⟩
                  rw [hsz, hcs]; simp
              · cases ha
            · cases ha
          · split at ha
            · rename_i hb
              cases ha
              simp only [VR] at hs
              subst hs
              have hrun := run_append_nil (P := P) w t ty e inf zz hu hi hzz ⟨xb, xo, none⟩ m xc news hnl hnews (by omega) (by omega) (by rw [← hby]; omega)
              obtain ⟨G', k1, k2, k3⟩ := fresh hb.2.2 (grownCap w m 0 e) (grownCap_ge w m 0 e) _ rfl
              simp only [Array.empty_append, Nat.zero_add] at k2
              exact ⟨_, _, G', hrun, k1, k2, k3⟩
            · cases ha
          · split at ha
            · rename_i hb
              cases ha
              simp only [VR] at hs
              obtain ⟨a, rfl⟩ := hs
              cases a with
              | none =>
                have hrun := run_append_nil (P := P) w t ty e inf zz hu hi hzz ⟨xb, xo, none⟩ m xc news hnl hnews (by omega) (by omega) (by rw [← hby]; omega)
                obtain ⟨G', k1, k2, k3⟩ := fresh hb.2.2 (grownCap w m 0 e) (grownCap_ge w m 0 e) _ rfl
                simp only [Array.empty_append, Nat.zero_add] at k2
                exact ⟨_, _, G', hrun, k1, k2, k3⟩
              | some a =>
                have hrun := run_append_grow (P := P) w t ty e inf zz hu hi hzz a 0 0 [] (by simp) (fun j v hj => by simp at hj) ⟨xb, xo, none⟩ m xc news hnl hnews (by omega) (by omega)
                  (growslice_fits (by omega) (by rw [← hby]; simpa using hb.1))
                obtain ⟨G', k1, k2, k3⟩ := fresh hb.2.2 (grownCap w (0 + m) 0 e) (by have := grownCap_ge w (0 + m) 0 e; omega) _ rfl
                refine ⟨_, _, G', hrun, k1, k2, ?_⟩
                simpa using k3
            · cases ha
          · cases ha
      · cases ha
    · cases ha
  · cases ha
/-- len. -/
def alen (P : Program) (t : TypeId) (x : AV) : Option AV :=
  match P.underlying t, x with
  | some .string, .str s => some (.int .i64 s.length)
  | some (.slice _), .slc _ _ _ len _ => some (.int .i64 len)
  | some (.slice _), .vals _ rows => some (.int .i64 rows.length)
  | some (.slice _), .nils => some (.int .i64 0)
  | some (.slice _), .zslc => some (.int .i64 0)
  | _, _ => none
theorem alen_ok {P : Program} {G : Gh} {t ty : TypeId} {x y : AV} {v : Value} (hx : VR G x v) (h : alen P t x = some y) (w : World) : ∃ u, (Builtin.len_ #[t] ty #[v]).run P w = .ok u w ∧ VR G y u := by
  unfold alen at h
  split at h
  · rename_i s hu
    cases h
    simp only [VR] at hx
    subst hx
    have hsz : (⟨s.toArray⟩ : ByteArray).size = s.length := by simp [ByteArray.size]
    exact ⟨.int .i64 s.length, by simp [Builtin.len_, run_underlying hu, goInt, hsz], by simp [VR]⟩
  · rename_i hu
    cases h
    simp only [VR] at hx
    obtain ⟨b, o, n, c, _, rfl, _⟩ := hx
    exact ⟨_, by simp [Builtin.len_, run_underlying hu, goInt]; rfl, by simp [VR]⟩
  · rename_i hu
    cases h
    simp only [VR] at hx
    obtain ⟨a, c, rfl, _⟩ := hx
    exact ⟨_, by simp [Builtin.len_, run_underlying hu, goInt]; rfl, by simp [VR]⟩
  · rename_i hu
    cases h
    simp only [VR] at hx
    subst hx
    exact ⟨_, by simp [Builtin.len_, run_underlying hu, goInt]; rfl, by simp [VR]⟩
  · rename_i hu
    cases h
    simp only [VR] at hx
    obtain ⟨a, rfl⟩ := hx
    exact ⟨_, by simp [Builtin.len_, run_underlying hu, goInt]; rfl, by simp [VR]⟩
  · cases h
end Go.Abs
