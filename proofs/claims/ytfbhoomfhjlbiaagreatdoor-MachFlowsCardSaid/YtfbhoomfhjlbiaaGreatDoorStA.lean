/- What stands in for slices.Insert, slices.Delete, and a store's Drop.   slices.Delete of a store's clauses: the walk, and what stands in for it.   slices.Delete of a store's clauses: the walk.   Functions carried out by another text that stands for theirs.   A memory of which less is known.   What stands in for slices.Delete of a store's clauses. -/
import Derived.Test.YtfbhoomfhjlbiaaGreatDoorAbsZZ
import Derived.Test.YtfbhoomfhjlbiaaGreatDoorRows
import Derived.Shelf.RegionOpenPlain
import Derived.WalkKit
import Derived.Lib.Walk
import Derived.ArgAppend
import Derived.Laws.IdiomCopy
namespace Go.Abs
open Go Go.RowKit
set_option linter.unusedVariables false
/-- slices.Insert: rows are put in ahead of row i; the row lies where it lay, or elsewhere. -/
def insertH (z by_ : Nat) (args : List AV) (H : AH) : Option (AV × AH) :=
  match args with
  | [.nils, .int .i64 0, .slc gv ev iv mv zv] => bif Nat.beq mv 0 then none else iapp z by_ .nils (.slc gv ev iv mv zv) H
  | [.zslc, .int .i64 0, .slc gv ev iv mv zv] => bif Nat.beq mv 0 then none else iapp z by_ .zslc (.slc gv ev iv mv zv) H
  | [.slc g e 0 len z', .int .i64 (.ofNat i), .slc gv ev iv mv zv] =>
    bif Nat.beq mv 0 || Nat.beq gv g then none else
    bif Nat.beq i len then iapp z by_ (.slc g e 0 len z') (.slc gv ev iv mv zv) H else
    match listCells H z (.slc gv ev iv mv zv) with
    | some (m, xs) =>
      match H.gs.get g with
      | some r =>
        bif Nat.beq r.e e && Nat.beq z' z && Nat.beq r.fz 0 && Nat.beq r.cells.length (len * z) && Nat.blt i len && Nat.blt 0 m && Nat.ble ((len + m) * by_) 140737488355328 && Nat.ble (len + m) 9223372036854775807 then
          some (.slc g (e + 1) 0 (len + m) z, ⟨H.next, H.gs.set g ⟨e + 1, 0, r.cells.take (i * z) ++ xs ++ r.cells.drop (i * z)⟩, H.ms⟩)
        else none
      | none => none
    | none => none
  | _ => none
/-- slices.Delete: rows i to j are taken out. -/
def deleteH (z : Nat) (args : List AV) (H : AH) : Option (AV × AH) :=
  match args with
  | [.slc g e 0 len z', .int .i64 (.ofNat i), .int .i64 (.ofNat j)] =>
    match H.gs.get g with
    | some r =>
      bif Nat.beq r.e e && Nat.beq z' z && Nat.beq r.fz 0 && Nat.beq r.cells.length (len * z) && Nat.blt i j && Nat.ble j len && Nat.ble len 9223372036854775807 then
        some (.slc g (e + 1) 0 (len - (j - i)) z, ⟨H.next, H.gs.set g ⟨e + 1, 0, r.cells.take (i * z) ++ r.cells.drop (j * z)⟩, H.ms⟩)
      else none
    | none => none
  | _ => none
/-- At which row stands a number first? (Each row begins with a number.) -/
def rowIx (z : Nat) (id : Int) : Nat → List AV → Option (Option Nat)
  | 0, _ => some none
  | n + 1, cs => match cs with
    | .int .i64 k :: _ => match rowIx z id n (cs.drop z) with
      | some o => some (bif decide (k = id) then some 0 else match o with
        | some j => some (j + 1)
        | none => none)
      | none => none
    | _ => none
theorem rowIx_ok {z : Nat} {id : Int} : ∀ {n : Nat} {cs : List AV} {o : Option Nat}, rowIx z id n cs = some o → ∃ ks : Nat → Int, (∀ j, j < n → cs[j * z]? = some (.int .i64 (ks j))) ∧
    match o with
    | none => ∀ j, j < n → ks j ≠ id
    | some i => i < n ∧ ks i = id ∧ ∀ j, j < i → ks j ≠ id
  | 0, cs, o, h => by
    simp only [rowIx] at h; cases h
    exact ⟨fun _ => 0, fun j hj => by omega, fun j hj => by omega⟩
  | n + 1, cs, o, h => by
    simp only [rowIx] at h
    split at h
    · rename_i k l
      split at h
      · rename_i o' ho'
        cases h
        obtain ⟨ks, h1, h2⟩ := rowIx_ok ho'
        refine ⟨fun j => match j with | 0 => k | j + 1 => ks j, fun j hj => ?_, ?_⟩
        · cases j with
          | zero => simp
          | succ j =>
            have := h1 j (by omega)
            rw [List.getElem?_drop] at this
            rw [show (j + 1) * z = z + j * z by rw [Nat.add_mul]; omega]
            exact this
        · by_cases hk : k = id
          · simp only [hk, decide_true, cond_true]
            exact ⟨Nat.succ_pos _, trivial, fun j hj => by omega⟩
          · simp only [hk, decide_false, cond_false]
            cases o' with
            | none =>
              simp only at h2 ⊢
              intro j hj
              cases j with
              | zero => exact hk
              | succ j => exact h2 j (by omega)
            | some i =>
              simp only at h2 ⊢
              refine ⟨by omega, h2.2.1, fun j hj => ?_⟩
              cases j with
              | zero => exact hk
              | succ j => exact h2.2.2 j (by omega)
      · cases h
    · cases h
/-- In which entry, at which row? -/
def hitsAt (z : Nat) (id : Int) (H : AH) : List (Nat × AV × AV) → Option (List ((Nat × AV × AV) × Nat))
  | [] => some []
  | t :: es => match listCells H z t.2.2 with
    | some (m, cs) => bif Nat.ble m 4611686018427387904 then match rowIx z id m cs with
      | some (some j) => match hitsAt z id H es with
        | some l => some ((t, j) :: l)
        | none => none
      | some none => hitsAt z id H es
      | none => none else none
    | none => none
theorem hitsAt_ok {z : Nat} {id : Int} {H : AH} : ∀ {es : List (Nat × AV × AV)} {l : List ((Nat × AV × AV) × Nat)}, hitsAt z id H es = some l →
    (∀ t ∈ es, ∃ m cs o, listCells H z t.2.2 = some (m, cs) ∧ m ≤ 4611686018427387904 ∧ rowIx z id m cs = some o ∧ ∀ j, o = some j → (t, j) ∈ l) ∧
    ∀ t j, (t, j) ∈ l → t ∈ es ∧ ∃ m cs, listCells H z t.2.2 = some (m, cs) ∧ rowIx z id m cs = some (some j)
  | [], l, h => by
    simp only [hitsAt] at h; cases h
    exact ⟨fun t ht => (nomatch ht), fun t j h => (nomatch h)⟩
  | t0 :: es, l, h => by
    simp only [hitsAt] at h
    split at h
    · rename_i m cs hc
      cases hm : Nat.ble m 4611686018427387904 with
      | false => rw [hm] at h; cases h
      | true =>
        rw [hm] at h
        simp only [cond_true] at h
        have hm' := Nat.le_of_ble_eq_true hm
        split at h
        · rename_i j hj
          split at h
          · rename_i l' hl'
            cases h
            obtain ⟨q1, q2⟩ := hitsAt_ok hl'
            refine ⟨fun t ht => ?_, fun t i hi => ?_⟩
            · rcases List.mem_cons.1 ht with rfl | ht
              · exact ⟨m, cs, some j, hc, hm', hj, fun i hi => by cases hi; exact List.mem_cons_self ..⟩
              · obtain ⟨m', cs', o', k1, k2, k3, k4⟩ := q1 t ht
                exact ⟨m', cs', o', k1, k2, k3, fun i hi => List.mem_cons_of_mem _ (k4 i hi)⟩
            · rcases List.mem_cons.1 hi with hi | hi
              · cases hi; exact ⟨List.mem_cons_self .., m, cs, hc, hj⟩
              · obtain ⟨k1, k2⟩ := q2 t i hi
                exact ⟨List.mem_cons_of_mem _ k1, k2⟩
          · cases h
        · rename_i hj
          obtain ⟨q1, q2⟩ := hitsAt_ok h
          refine ⟨fun t ht => ?_, fun t i hi => ?_⟩
          · rcases List.mem_cons.1 ht with rfl | ht
            · exact ⟨m, cs, none, hc, hm', hj, fun i hi => by cases hi⟩
            · exact q1 t ht
          · obtain ⟨k1, k2⟩ := q2 t i hi
            exact ⟨List.mem_cons_of_mem _ k1, k2⟩
        · cases h
    · cases h
theorem hitsAt_ext {z : Nat} {id : Int} {R : Nat → Option Grp} {H H2 : AH} (he : Ext R H H2) (ha : Apart R H) : ∀ {es : List (Nat × AV × AV)} {l : List ((Nat × AV × AV) × Nat)}, hitsAt z id H es = some l → hitsAt z id H2 es = some l
  | [], l, h => h
  | t0 :: es, l, h => by
    simp only [hitsAt] at h ⊢
    split at h
    · rename_i m cs hc
      rw [listCells_ext he ha hc]
      simp only
      cases hm : Nat.ble m 4611686018427387904 with
      | false => rw [hm] at h; cases h
      | true =>
        rw [hm] at h
        simp only [cond_true] at h ⊢
        split at h
        · rename_i j hj
          split at h
          · rename_i l' hl'
            cases h
            rw [hitsAt_ext he ha hl']
          · cases h
        · rename_i hj
          exact hitsAt_ext he ha h
        · cases h
    · cases h
theorem ERel.mem {G : Gh} : ∀ {es : List (Nat × AV × AV)} {l : List MapEntry}, ERel G es l → ∀ e ∈ l, ∃ t ∈ es, t.1 = e.born ∧ VR G t.2.1 e.key ∧ VR G t.2.2 e.val
  | [], l, h, e, he => by simp only [ERel] at h; subst h; cases he
  | (n, k, x) :: es, l, h, e, he => by
    simp only [ERel] at h
    obtain ⟨e0, l', rfl, h0, h1, h2, h3⟩ := h
    rcases List.mem_cons.1 he with rfl | he
    · exact ⟨_, List.mem_cons_self .., h0.symm, h1, h2⟩
    · obtain ⟨t, ht, q⟩ := ERel.mem h3 e he
      exact ⟨t, List.mem_cons_of_mem _ ht, q⟩
theorem ERel.mem' {G : Gh} : ∀ {es : List (Nat × AV × AV)} {l : List MapEntry}, ERel G es l → ∀ t ∈ es, ∃ e ∈ l, t.1 = e.born ∧ VR G t.2.1 e.key ∧ VR G t.2.2 e.val
  | [], l, h, e, he => by cases he
  | (n, k, x) :: es, l, h, e, he => by
    simp only [ERel] at h
    obtain ⟨e0, l', rfl, h0, h1, h2, h3⟩ := h
    rcases List.mem_cons.1 he with rfl | he
    · exact ⟨_, List.mem_cons_self .., h0.symm, h1, h2⟩
    · obtain ⟨t, ht, q⟩ := ERel.mem' h3 e he
      exact ⟨t, List.mem_cons_of_mem _ ht, q⟩
theorem ERel.born {G : Gh} : ∀ {es : List (Nat × AV × AV)} {l : List MapEntry}, ERel G es l → l.map (·.born) = es.map (·.1)
  | [], l, h => by simp only [ERel] at h; subst h; rfl
  | (n, k, x) :: es, l, h => by
    simp only [ERel] at h
    obtain ⟨e0, l', rfl, h0, h1, h2, h3⟩ := h
    simp only [List.map_cons, h0, ERel.born h3]
/-- No number twice. -/
def onceB : List Nat → Bool
  | [] => true
  | n :: l => bif l.all (fun m => !(Nat.beq n m)) then onceB l else false
theorem onceB_ok : ∀ {l : List Nat}, onceB l = true → l.Nodup
  | [], _ => List.nodup_nil
  | n :: l, h => by
    simp only [onceB] at h
    cases ha : l.all (fun m => !(Nat.beq n m)) with
    | false => rw [ha] at h; cases h
    | true =>
      rw [ha] at h
      refine List.nodup_cons.2 ⟨fun hm => ?_, onceB_ok h⟩
      have := List.all_eq_true.1 ha n hm
      rw [Nat.beq_refl] at this
      cases this
def keyB : AV → Bool
  | .agg [.str _, .int .i64 _] => true
  | _ => false
/-- A map whose entries are told apart, with keys of a text and a number. -/
def mapB (es : MapA) : Bool := es.2.all (fun t => Nat.blt t.1 es.1 && keyB t.2.1) && onceB (es.2.map (·.1))
theorem find_once {es : List (Nat × AV × AV)} (h : (es.map (·.1)).Nodup) {t : Nat × AV × AV} (ht : t ∈ es) : es.find? (fun x => x.1 == t.1) = some t := by
  induction es with
  | nil => cases ht
  | cons x es ih =>
    rw [List.map_cons, List.nodup_cons] at h
    rw [List.find?_cons]
    rcases List.mem_cons.1 ht with rfl | ht
    · simp
    · have : (x.1 == t.1) = false := by
        cases hc : x.1 == t.1 with
        | false => rfl
        | true => exact absurd (by rw [beq_iff_eq.1 hc]; exact List.mem_map_of_mem ht) h.1
      rw [this]
      exact ih h.2 ht
theorem setCells_with (b : Nat) : ∀ (vs : List Value) (o : Nat) (w : World), w.setCells b o vs = { w with heap := (w.setCells b o vs).heap }
  | [], o, w => rfl
  | v :: vs, o, w => by
    rw [World.setCells]
    have := setCells_with b vs (o + 1) (w.setCell ⟨b, o, none⟩ v)
    rw [this]
    rfl
/-- Two rows of cells, set one behind the other, the further ones first. -/
theorem setCells_two {w : World} {b p1 p2 : Nat} {A B : List Value} {cs : Array Value} {t : TypeId} {f : Nat × Nat} (hb : w.heap[b]? = some (.cells cs t f)) (hp : p1 + B.length = p2) (hin : p2 + A.length ≤ cs.size) :
    (w.setCells b p2 A).setCells b p1 B = w.setCells b p1 (B ++ A) := by
  obtain ⟨c1, h1, s1, g1⟩ := heap_sets b t f A p2 w cs hb hin
  obtain ⟨c2, h2, s2, g2⟩ := heap_sets b t f B p1 (w.setCells b p2 A) c1 h1 (by omega)
  obtain ⟨c3, h3, s3, g3⟩ := heap_sets b t f (B ++ A) p1 w cs hb (by rw [List.length_append]; omega)
  have hc : c2 = c3 := by
    refine Array.ext_getElem? fun j => ?_
    rw [g2, g1, g3, List.length_append]
    by_cases q1 : p1 ≤ j ∧ j < p1 + B.length
    · rw [if_pos q1, if_pos (by omega), List.getElem?_append_left (by omega)]
    · rw [if_neg q1]
      by_cases q2 : p2 ≤ j ∧ j < p2 + A.length
      · rw [if_pos q2, if_pos (by omega), List.getElem?_append_right (by omega)]
        congr 1; omega
      · rw [if_neg q2, if_neg (by omega)]
  have hh : ((w.setCells b p2 A).setCells b p1 B).heap = (w.setCells b p1 (B ++ A)).heap := by
    refine Array.ext_getElem? fun k => ?_
    by_cases hk : k = b
    · subst hk; rw [h2, h3, hc]
    · rw [heap_sets_ne b k hk, heap_sets_ne b k hk, heap_sets_ne b k hk]
  rw [setCells_with b B p1 (w.setCells b p2 A), hh, setCells_with b A p2 w, setCells_with b (B ++ A) p1 w]
end Go.Abs
namespace Go.Proofs.YtfbhoomfhjlbiaaGreatDoor
open Go Go.Abs Go.RowKit Go.Lib
set_option linter.unusedVariables false
set_option linter.unusedSimpArgs false
theorem step_append_run {P : Program} {ops : Array Oper} {o : Oper} {a : Act} {w : World} {K : Act → World → Prop} {Q : Exit → Act → World → Prop} {E : Prop}
    (hg : o.guard = none) (d x : Operand) (dT sT : TypeId) (hop : o.op = Op.call { callee := Callee.builtin Builtin.append, args := #[d, x], argTypes := #[dT, sT] })
    (v u : Value) (hd : a.eval d = v) (hx : a.eval x = u) {v' : Value} {w' : World} (hr : (Builtin.append_ #[dT, sT] o.type #[v, u]).run P w = .ok v' w') (hK : K (a.put o.dst v') w') :
    if Region.wanted o (yielded ops a.tmps) = true then Oper.wp P o a w K Q else E := by
  have hw : Region.wanted o (yielded ops a.tmps) = true := by simp [Region.wanted, hg]
  rw [if_pos hw]
  unfold Oper.wp
  simp [execOp, hop, resolve, invoke, builtin, hd, hx, hr, Result.andThen]
  exact hK
theorem wpList_clear_run {P : Program} (w : World) {ops : Array Oper} {rest : List Oper} {o : Oper} {a : Act} {Q : Exit → Act → World → Prop} (hgd : o.guard = none) (s : Operand) (t : TypeId)
    (ho : o.op = .call { callee := .builtin .clear, args := #[s], argTypes := #[t] }) (v : Value) (hs : a.eval s = v) {v' : Value} {w' : World}
    (hr : (Builtin.clear_ #[t] o.type #[v]).run P w = .ok v' w') (h : wpList P ops Q rest (a.put o.dst v') w') : wpList P ops Q (o :: rest) a w := by
  refine wpList_plain hgd fun K' hK => ?_
  unfold Oper.wp execOp
  simp only [ho, resolve, invoke, builtin, Sem.run_bind, Sem.run_pure, Result.andThen_ok, List.map_toArray, List.map_cons, List.map_nil, hs, hr]
  exact hK _ _ h
def zClause : AV := .agg [.int .i64 0, .int .u64 0, .int .i64 0, .int .i64 0, .str [], .nils, .int .i64 0, .int .i64 0, .str [], .nils]
theorem clause_zero : zeroA Tryz.prog 148 = some zClause := by kernel_rfl
theorem clause_cells : (Tryz.prog).cellsOf 148 = 10 := by kernel_rfl
theorem clause_bytes : (Tryz.prog).bytesOf 148 = 128 := by kernel_rfl
theorem clause_info : ∃ i z, (Tryz.prog).info? 148 = some i ∧ i.size = 10 ∧ i.zero = some z ∧ z.cells.size = 10 ∧ (∀ c ∈ z.cells.toList, c.oneCell' = true) ∧ i.bytes = 128 ∧ ∀ w, (zeroValue 148).run Tryz.prog w = .ok z w := by
  obtain ⟨zz, inf, hi, hzz, -, hvz⟩ := zeroA_ok (G := noG) clause_zero default
  obtain ⟨q1, q2, q3⟩ := fit_ok (by rfl) hvz
  have hs : inf.size = 10 := by have := clause_cells; simpa [Program.cellsOf, hi] using this
  have hb : inf.bytes = 128 := by have := clause_bytes; simpa [Program.bytesOf, hi] using this
  refine ⟨inf, zz, hi, hs, hzz, ?_, q3, hb, fun w => by simp [zeroValue, typeInfo, hi, hzz]⟩
  rw [← Array.length_toList, q1.len]; rfl
/-- 'clear' of k rows. -/
theorem run_clear_rows (w : World) (ty : TypeId) (b o k c : Nat) (cs : Array Value) (t : TypeId) (hb : w.heap[b]? = some (.cells cs t (0, 0))) (hin : o + k * 10 ≤ cs.size) (hk : k ≠ 0) :
    ∃ zs : List Value, zs.length = k * 10 ∧ (∀ v ∈ zs, v.oneCell' = true) ∧ (Builtin.clear_ #[145] ty #[.slice (some ⟨b, o, none⟩) k c]).run Tryz.prog w = .ok (.tuple #[]) (w.setCells b o zs) := by
  obtain ⟨i, z, hi, hs, hz, hzs, hz1, -, hzr⟩ := clause_info
  refine ⟨(Builtin.zeroCells z.cells k).toList, ?_, ?_, ?_⟩
  · rw [zeroCells_list, flat_rep_len]; simp [hzs]
  · intro v hv
    rw [zeroCells_list, List.mem_flatten] at hv
    obtain ⟨l, h1, h2⟩ := hv
    rw [List.mem_replicate] at h1
    rw [h1.2] at h2
    exact hz1 v h2
  · have hl : (Builtin.zeroCells z.cells k).toList.length = k * 10 := by rw [zeroCells_list, flat_rep_len]; simp [hzs]
    have h1 : ∀ v ∈ (Builtin.zeroCells z.cells k).toList, v.oneCell' = true := by
      intro v hv
      rw [zeroCells_list, List.mem_flatten] at hv
      obtain ⟨l, h1, h2⟩ := hv
      rw [List.mem_replicate] at h1
      rw [h1.2] at h2
      exact hz1 v h2
    have hst := run_storeCells_cells (P := Tryz.prog) b o (Builtin.zeroCells z.cells k).toList 0 w (fun j hj => by
      rw [cell_of hb, Array.getElem?_eq_getElem (by omega)]; rfl) (fun j hj => by simp [World.frozen?, hb]) h1
    simp only [Nat.add_zero] at hst
    obtain ⟨k, rfl⟩ : ∃ m, k = m + 1 := ⟨k - 1, by omega⟩
    simp [Builtin.clear_, run_underlying Tryz.underlying145, hzr, hst]
end Go.Proofs.YtfbhoomfhjlbiaaGreatDoor
namespace Go.Proofs.YtfbhoomfhjlbiaaGreatDoor
open Go Go.Abs Go.RowKit Go.Lib
set_option linter.unusedVariables false
set_option linter.unusedSimpArgs false
set_option maxHeartbeats 4000000 in
set_option maxRecDepth 100000 in
theorem delete_walk (b o n c i j : Nat) (cs : List Value) (cs0 : Array Value) (t : TypeId) (w : World) (hb : w.heap[b]? = some (.cells cs0 t (0, 0))) (hroom : o + c * 10 ≤ cs0.size)
    (hcs : ∀ k v, cs[k]? = some v → w.cell? ⟨b, o + k, none⟩ = some v) (hl : cs.length = n * 10) (h1 : ∀ v ∈ cs, v.oneCell' = true) (hij : i < j) (hjn : j ≤ n) (hnc : n ≤ c) (h63 : n ≤ 9223372036854775807) :
    Calls Tryz.prog 336 #[.slice (some ⟨b, o, none⟩) n c, .int .i64 i, .int .i64 j] w fun e w' =>
      e = .returned (.slice (some ⟨b, o, none⟩) (n - (j - i)) c) ∧ ∃ (q : Nat) (zs : List Value), zs.length = (j - i) * 10 ∧ (∀ v ∈ zs, v.oneCell' = true) ∧
        w' = ((w.drewN q).setCells b (o + i * 10) (cs.drop (j * 10))).setCells b (o + (n - (j - i)) * 10) zs := by
  have mixed : (Tryz.prog).follows .mixedOrders = true := by kernel_rfl
  obtain ⟨inf, z, hi, hs, hz, hzs, hz1, -, hzr⟩ := clause_info
  have hdl : (cs.drop (j * 10)).length = (n - j) * 10 := by rw [List.length_drop, hl, Nat.sub_mul]
  have hb1 : ¬ ((i : Int) = (j : Int)) := by omega
  have hap : ∀ (W : World) (ty : TypeId) (xc : Nat), W.heap = w.heap → ∀ (a : Addr) (m : Nat), m = n - j → (m ≠ 0 → a = ⟨b, o + j * 10, none⟩) → (Builtin.append_ #[145, 145] ty #[.slice (some ⟨b, o, none⟩) i c, .slice (some a) m xc]).run Tryz.prog W = .ok (.slice (some ⟨b, o, none⟩) (n - (j - i)) c) (W.setCells b (o + i * 10) (cs.drop (j * 10))) := by
    intro W ty xc hW a m hm ha
    subst hm
    have hWc : ∀ x : Addr, W.cell? x = w.cell? x := fun x => World.cell?_of_block (w := w) (by rw [hW])
    have hrun := run_append_room_cells (P := Tryz.prog) W 145 ty 148 inf Tryz.underlying145 hi b o i c a (n - j) xc (cs.drop (j * 10)) (by rw [hdl, hs]) (fun k u hk => by
        have hlt : k < (n - j) * 10 := by have := (List.getElem?_eq_some_iff.1 hk).1; rwa [hdl] at this
        rw [ha (by intro h0; rw [h0] at hlt; omega), Addr.add_lit, hWc, Nat.add_assoc]
        rw [List.getElem?_drop] at hk
        exact hcs _ u hk) (fun v hv => h1 v (List.mem_of_mem_drop hv)) (by omega)
      (fun k hk => by rw [hWc, cell_of hb, Array.getElem?_eq_getElem (by rw [hdl] at hk; rw [hs]; omega)]; rfl) (fun k hk => by simp [World.frozen?, hW, hb])
    rw [hs] at hrun
    rw [hrun]
    congr 2
    omega
  have hap' : ∀ (W : World) (ty : TypeId) (xc : Nat), W.heap = w.heap → (Builtin.append_ #[145, 145] ty #[.slice (some ⟨b, o, none⟩) i c, .slice (if c = j then some ⟨b, o, none⟩ else some ⟨b, o + j * 10, none⟩) (n - j) xc]).run Tryz.prog W = .ok (.slice (some ⟨b, o, none⟩) (n - (j - i)) c) (W.setCells b (o + i * 10) (cs.drop (j * 10))) := by
    intro W ty xc hW
    by_cases hc : c = j
    · rw [if_pos hc]; exact hap W ty xc hW _ _ rfl (fun h0 => absurd h0 (by omega))
    · rw [if_neg hc]; exact hap W ty xc hW _ _ rfl (fun _ => rfl)
  obtain ⟨cs1, hb1', hs1, -⟩ := heap_sets b t (0, 0) (cs.drop (j * 10)) (o + i * 10) w.drew cs0 hb (by rw [hdl, Nat.sub_mul]; have : i * 10 ≤ j * 10 := Nat.mul_le_mul_right _ (by omega); have : n * 10 ≤ c * 10 := Nat.mul_le_mul_right _ hnc; omega)
  obtain ⟨zs, hzl, hz1', hcl⟩ := run_clear_rows (w.drew.setCells b (o + i * 10) (cs.drop (j * 10))) 0 b (o + (n - (j - i)) * 10) (n - (n - (j - i))) (c - (n - (j - i))) cs1 t hb1' (by rw [hs1]; omega) (by omega)
  rw [show n - (n - (j - i)) = j - i by omega] at hzl
  have hic : i ≤ c := by omega
  go_enter Tryz.func336, Tryz.ntmps336
  go_wp2
  go_region_law_o (refine step_append_run (P := Tryz.prog) rfl (.tmp 22) (.tmp 25) 145 145 rfl _ _ rfl rfl (hap' _ _ _ rfl) ?_)
  go_wp2
  all_goals
    go_ret
    exact ⟨rfl, 1, zs, hzl, hz1', rfl⟩
end Go.Proofs.YtfbhoomfhjlbiaaGreatDoor
namespace Go.Abs
open Go Go.RowKit
set_option linter.unusedVariables false
abbrev Fns := FuncId → Option IFun
noncomputable def arunP (fns : Fns) (hook : Hooks) (F : Nat) : Nat → ICall
  | 0 => fun _ _ _ => none
  | n + 1 => fun f args H => match hook f with
    | some h => h args H
    | none => match fns f with
      | some fn => bif Nat.ble args.length fn.nt then xend fn (xcode (arunP fns hook F n) F fn.body (xinit args 0 .nil) H) else none
      | none => none
/-- What the text does is what a call does. -/
structure FnOK (P : Program) (f : FuncId) (fn : IFun) : Prop where
  okc : okC fn.body
  ok : ∀ call F, CallOK P call → CallFrame call → ∀ args H x H', Nat.ble args.length fn.nt = true → xend fn (xcode call F fn.body (xinit args 0 .nil) H) = some (x, H') → callableB P f = true ∧ ACalls P f args H fun y H1 => y = x ∧ H1 = H'
theorem arunP_frame {fns : Fns} {hook : Hooks} {F : Nat} (hf : ∀ f fn, fns f = some fn → okC fn.body) (hh : HookFrame hook) : ∀ n, CallFrame (arunP fns hook F n)
  | 0 => fun f args H x H' h => by simp only [arunP] at h; cases h
  | n + 1 => fun f args H x H' h => by
    have ih := arunP_frame (F := F) hf hh n
    simp only [arunP] at h
    split at h
    · rename_i hk hr
      obtain ⟨q1, q2⟩ := hh _ _ hr _ _ _ _ h
      refine ⟨q1, fun R H2 he ha => ?_⟩
      obtain ⟨H2', k1, k2⟩ := q2 R H2 he ha
      exact ⟨H2', by simp only [arunP, hr]; exact k1, k2⟩
    · rename_i hr
      split at h
      · rename_i fn hfn
        cases hb : Nat.ble args.length fn.nt with
        | false => rw [hb] at h; cases h
        | true =>
          rw [hb] at h
          simp only [cond_true] at h
          obtain ⟨q1, q2⟩ := xend_frame (f := fun H => xcode (arunP fns hook F n) F fn.body (xinit args 0 .nil) H) (fun e T1 H1 h1 => xcode_frame ih (hf _ _ hfn) h1) h
          refine ⟨q1, fun R H2 he ha => ?_⟩
          obtain ⟨H2', k1, k2⟩ := q2 R H2 he ha
          exact ⟨H2', by simp only [arunP, hr, hfn, hb, cond_true]; exact k1, k2⟩
      · cases h
theorem arunP_ok {P : Program} {fns : Fns} {hook : Hooks} {F : Nat} (hf : ∀ f fn, fns f = some fn → FnOK P f fn) (hh : HookOK P hook) (hfr : HookFrame hook) : ∀ n, CallOK P (arunP fns hook F n)
  | 0 => fun f args H x H' h => by simp only [arunP] at h; cases h
  | n + 1 => fun f args H x H' h => by
    have ih := arunP_ok (F := F) hf hh hfr n
    have ihf := arunP_frame (F := F) (fun f fn h => (hf f fn h).okc) hfr n
    simp only [arunP] at h
    split at h
    · rename_i hk hr
      exact hh _ _ hr _ _ _ _ h
    · split at h
      · rename_i fn hfn
        cases hb : Nat.ble args.length fn.nt with
        | false => rw [hb] at h; cases h
        | true =>
          rw [hb] at h
          simp only [cond_true] at h
          exact (hf _ _ hfn).ok _ F ih ihf args H x H' hb h
      · cases h
theorem FnOK.plain {P : Program} {f : FuncId} {fn : IFun} (hm : P.follows .mixedOrders = true) (hD : funD P f = true) (hfn : cFun P (fun _ => true) f = some fn) : FnOK P f fn := by
  unfold cFun at hfn
  simp only [cond_true] at hfn
  split at hfn
  · rename_i fn' hf'
    cases hnm : (fn'.name == "runtime.NumGoroutine") with
    | true => rw [hnm] at hfn; cases hfn
    | false =>
      rw [hnm] at hfn
      simp only [cond_false] at hfn
      split at hfn
      · rename_i c hbody
        split at hfn
        · rename_i rs hrs
          cases hfn
          have hcd : codeD P fn'.ntmps c = true := by
            have := hD
            unfold funD at this
            rw [hf'] at this
            simpa [hbody] using this
          refine ⟨cCode_okC _ _ _, fun call F ih ihf args H x H' hb h => ?_⟩
          refine ⟨by unfold callableB; rw [hf']; simp [hnm, hbody], ?_⟩
          refine ACalls.of_body hf' hbody (Nat.le_of_ble_eq_true hb) ?_
          have hxi : ∀ k, (xinit args 0 .nil).get k = (tinit args 0).get k := by
            intro k
            rw [xinit_get, tinit_get]
            simp only [Nat.zero_le, true_and, Nat.zero_add, Nat.sub_zero, if_true, Tr.get_nil]
            by_cases hk : k < args.length
            · rw [if_pos hk]
            · rw [if_neg hk, List.getElem?_eq_none (by omega)]
          have main : ∀ e T1 H1, xcode call F (cCode P fn'.ntmps c) (xinit args 0 .nil) H = some (e, T1, H1) → (e = .normal ∨ e = .ret) → ires T1 H1 rs = some x → H1 = H' → AT P fn'.ntmps c (tinit args 0) H (bodyQ P fn' fun y H1 => y = x ∧ H1 = H') := by
            rintro e T1 H1 k1 k2 k3 rfl
            have hAT := xcode_ok (nt := fn'.ntmps) ih ihf hm c _ _ _ _ _ hcd k1
            intro K G a w hr ht
            refine wp_mono (hAT K G a w hr (ht.congr hxi)) fun e1 a1 w1 ⟨G', T2, H2, r1, r2, r3, r4, r5, r6⟩ => ?_
            subst r4; subst r5; subst r6
            refine ⟨G', T2, H2, r1, r2, r3, ?_⟩
            rcases k2 with rfl | rfl <;> exact ⟨x, ires_ok hrs k3, rfl, rfl⟩
          cases hx : xcode call F (cCode P fn'.ntmps c) (xinit args 0 .nil) H with
          | none => rw [hx] at h; simp [xend] at h
          | some r =>
            obtain ⟨e, T1, H1⟩ := r
            rw [hx] at h
            cases e with
            | normal =>
              simp only [xend] at h
              split at h
              · rename_i y hy; cases h; exact main _ _ _ hx (.inl rfl) hy rfl
              · cases h
            | ret =>
              simp only [xend] at h
              split at h
              · rename_i y hy; cases h; exact main _ _ _ hx (.inr rfl) hy rfl
              · cases h
            | exit id => simp [xend] at h
        · cases hfn
      · cases hfn
  · cases hfn
/-- A plain function refines a text. -/
def EZ (fns : Fns) (f : FuncId) (m : MZ) : Prop := ∀ c c2, CLe c c2 → ∀ F args H r, m c F args H = some r → ∃ fn, fns f = some fn ∧ Nat.ble args.length fn.nt = true ∧ xend fn (xcode c2 F fn.body (xinit args 0 .nil) H) = some r
theorem EZ.of {P : Program} {fns : Fns} {f : FuncId} {m : MZ} (h : ZOK P f m) (hf : fns f = cFun P (fun _ => true) f) : EZ fns f m := fun c c2 hc F args H r hr => by
  rw [hf]
  exact zrun_ok hc (h c F args H r hr)
theorem tabP_le {fns : Fns} {hs : HL} {l : List (Nat × MZ)} {F : Nat} (hl : ∀ e ∈ l, EZ fns e.1 e.2) : ∀ n, CLe (tabH hs (mkT l) F n) (arunP fns (hooksOf hs) F n)
  | 0 => fun f xs H r h => by cases h
  | n + 1 => fun f xs H r h => by
    have ih := tabP_le (F := F) (hs := hs) hl n
    replace h : Option.rec (motive := fun _ => RA) (Option.rec (motive := fun _ => RA) none (fun m => m (tabH hs (mkT l) F n) F xs H) (getZ (mkT l) f)) (fun h => h xs H) (hoZ hs f) = some r := h
    rw [hoZ_eq] at h
    cases hk : hooksOf hs f with
    | some k =>
      rw [hk] at h
      simp only [arunP, hk]; exact h
    | none =>
      rw [hk] at h
      replace h : Option.rec (motive := fun _ => RA) none (fun m => m (tabH hs (mkT l) F n) F xs H) (getZ (mkT l) f) = some r := h
      rw [getZ_eq] at h
      cases hm : (mkT l).get f with
      | none => rw [hm] at h; cases h
      | some m =>
        rw [hm] at h
        obtain ⟨fn, q1, q2, q3⟩ := hl _ (mkT_get hm) _ _ ih _ _ _ _ h
        simp only [arunP, hk, q1, q2, cond_true]
        exact q3
/-- Kept out of runs of the plain functions. -/
theorem memoP_of {P : Program} {fns : Fns} {hs : HL} {l : List (Nat × MZ)} {F n : Nat} (hl : ∀ e ∈ l, EZ fns e.1 e.2) (hok : CallOK P (arunP fns (hooksOf hs) F n)) {f : FuncId} {L : List (List AV × AV)} (h : allA (tabU (hkT hs) (mkT l) F n) f L = true) : AllE P f L := by
  intro e he m args H hk
  rw [tabU_eq] at h
  obtain ⟨x, H1, h2, h3⟩ := answers_ok (allA_ok h e he)
  exact ACalls.memoF 100 (hok _ _ _ _ _ (tabP_le hl n _ _ _ _ h2)).2 h3 hk
/-- The last call: from nothing. -/
theorem callsP_closed {P : Program} {fns : Fns} {hs : HL} {l : List (Nat × MZ)} {F n : Nat} (hl : ∀ e ∈ l, EZ fns e.1 e.2) (hok : CallOK P (arunP fns (hooksOf hs) F n)) {f : FuncId} (h : answers (tabU (hkT hs) (mkT l) F n f [] AH.empty) (.bool true) = true) (w : World) (gl : Glob w w.heap.size) :
    Calls P f #[] w fun e w' => e = .returned (.bool true) ∧ Below w.heap.size w w' := by
  rw [tabU_eq] at h
  obtain ⟨x, H1, h2, h3⟩ := answers_ok h
  have hA := (hok _ _ _ _ _ (tabP_le hl n _ _ _ _ h2)).2
  refine (ACalls.memo 100 (by rfl) hA h3 AH.empty _ _ #[] w (allG_rel w gl) (by simp [VRs])).mono fun e w' ⟨u, x', G', H', k1, k2, k3, k4, k5, k6⟩ => ?_
  subst k5
  simp only [VR] at k4
  subst k4
  exact ⟨k1, k3.below⟩
end Go.Abs
namespace Go.Abs
open Go Go.RowKit
set_option linter.unusedVariables false
/-- The same groups and ages; of their cells no others. -/
structure LessH (H H' : AH) : Prop where
  none' : ∀ g, H.gs.get g = none → H'.gs.get g = none
  some' : ∀ g r, H.gs.get g = some r → ∃ r', H'.gs.get g = some r' ∧ r'.e = r.e ∧ r'.fz = r.fz ∧ ∀ (i : Nat) x, r'.cells[i]? = some x → r.cells[i]? = some x
  ms : ∀ g, H'.ms.get g = H.ms.get g
theorem LessH.back {H H' : AH} (h : LessH H H') {g : Nat} {r' : Grp} (hg : H'.gs.get g = some r') : ∃ r, H.gs.get g = some r ∧ r'.e = r.e ∧ r'.fz = r.fz ∧ ∀ (i : Nat) x, r'.cells[i]? = some x → r.cells[i]? = some x := by
  cases hr : H.gs.get g with
  | none => rw [h.none' g hr] at hg; cases hg
  | some r =>
    obtain ⟨q, h1, h2⟩ := h.some' g r hr
    rw [hg] at h1
    cases h1
    exact ⟨r, rfl, h2⟩
theorem HRel.less {K : Kx} {G : Gh} {H H' : AH} {w : World} (h : HRel K G H w) (hl : LessH H H') : HRel K G H' w := by
  refine ⟨h.below, h.hB, h.mem, h.ones, h.old, ?_, ?_, ?_, ?_, ?_, ?_, ?_⟩
  · intro g r' hg
    obtain ⟨r, h1, h2, h3, h4⟩ := hl.back hg
    obtain ⟨b, o, n, cs, t, q⟩ := h.grp g r h1
    exact ⟨b, o, n, cs, t, by rw [h2]; exact q.mu, q.low, q.heap, q.size, fun i x hi => q.cell i x (h4 i x hi), fun j hj => q.free j (by rw [← h3]; exact hj)⟩
  · intro g g' r r' b o n b' o' n' h1 h2 hne h3 h4
    obtain ⟨r1, k1, k2, _⟩ := hl.back h1
    obtain ⟨r2, k3, k4, _⟩ := hl.back h2
    exact h.apart g g' r1 r2 b o n b' o' n' k1 k3 hne (by rw [← k2]; exact h3) (by rw [← k4]; exact h4)
  · intro g hg e
    refine h.fresh g ?_ e
    cases hr : H.gs.get g with
    | none => rfl
    | some r => obtain ⟨q, h1, _⟩ := hl.some' g r hr; rw [hg] at h1; cases h1
  · intro g es hg; exact h.maps g es (by rw [← hl.ms]; exact hg)
  · intro g g' es es' b b' h1 h2; exact h.mapart g g' es es' b b' (by rw [← hl.ms]; exact h1) (by rw [← hl.ms]; exact h2)
  · intro g hg; exact h.mfresh g (by rw [← hl.ms]; exact hg)
  · intro g r' e hg he
    obtain ⟨r, h1, h2, _⟩ := hl.back hg
    exact h.ages g r e h1 (by rw [← h2]; exact he)
end Go.Abs
namespace Go.Proofs.YtfbhoomfhjlbiaaGreatDoor
open Go Go.Abs Go.RowKit Go.Lib
set_option linter.unusedVariables false
set_option linter.unusedSimpArgs false
theorem delete_one : HookOne Tryz.prog 336 (deleteH 10) := by
  refine ⟨by decide +kernel, fun args H x H' h => ?_, fun args H x H' h => ?_⟩
  · unfold deleteH at h
    split at h
    · rename_i g e len z' i j
      split at h
      · rename_i r hr
        cases hc : (Nat.beq r.e e && Nat.beq z' 10 && Nat.beq r.fz 0 && Nat.beq r.cells.length (len * 10) && Nat.blt i j && Nat.ble j len && Nat.ble len 9223372036854775807) with
        | false => rw [hc] at h; cases h
        | true =>
          rw [hc] at h
          cases h
          simp only [Bool.and_eq_true, Nat.beq_eq, Nat.blt_eq, Nat.ble_eq] at hc
          obtain ⟨⟨⟨⟨⟨⟨rfl, rfl⟩, hfz⟩, hlen⟩, hij⟩, hjl⟩, h63⟩ := hc
          intro K G vs w hw hv
          obtain ⟨b, o, n, cs0, t, q⟩ := hw.grp g r hr
          obtain ⟨cap, hvs, hlc, hroom⟩ : ∃ cap, vs = #[.slice (some ⟨b, o, none⟩) len cap, .int .i64 i, .int .i64 j] ∧ len ≤ cap ∧ o + cap * 10 ≤ n := by
            simp only [VRs, VR] at hv
            obtain ⟨u, us, hu, ⟨b', o', n', cap, hmu, rfl, h1, h2⟩, u2, us2, rfl, rfl, u3, us3, rfl, rfl, rfl⟩ := hv
            rw [q.mu] at hmu
            cases hmu
            exact ⟨cap, by cases vs; simpa using hu, h1, by simpa using h2⟩
          subst hvs
          obtain ⟨us, hus, hin, ho⟩ := (q.cellsIn 0 (len * 10)).list
          have hul : us.length = len * 10 := by rw [hus.len, List.length_take, List.length_drop]; omega
          have hcell : ∀ (k : Nat) (x : AV), r.cells[k]? = some x → ∃ u, us[k]? = some u ∧ cs0[o + k]? = some u ∧ VR G x u ∧ u.oneCell' = true := by
            intro k x hx
            have hk : k < len * 10 := by rw [← hlen]; exact (List.getElem?_eq_some_iff.1 hx).1
            obtain ⟨u, k1, k2, k3⟩ := q.cell k x hx
            refine ⟨u, ?_, k1, k2, k3⟩
            obtain ⟨u', m1, m2⟩ := hus.get k x (by rw [List.getElem?_take, if_pos hk, List.drop_zero]; exact hx)
            have := hin k u' m1
            rw [Nat.add_zero, cell_of q.heap, k1] at this
            cases this
            exact m1
          refine (delete_walk b o len cap i j us cs0 t w q.heap (by rw [q.size]; exact hroom) (by simpa using hin) hul ho hij hjl hlc h63).mono fun e0 w' ⟨he, d, zs, hzl, hz1, hw'⟩ => ?_
          subst hw'
          have hij10 : i * 10 ≤ j * 10 := Nat.mul_le_mul_right _ (by omega)
          have hjl10 : j * 10 ≤ len * 10 := Nat.mul_le_mul_right _ hjl
          have hlc10 : len * 10 ≤ cap * 10 := Nat.mul_le_mul_right _ hlc
          have hsub : (len - (j - i)) * 10 = i * 10 + (len * 10 - j * 10) := by omega
          obtain ⟨k1, k2⟩ := (hw.drawn (w.drawn + d)).sets (g := g) (r := r) ⟨q.mu, q.low, q.heap, q.size, q.cell, q.free⟩ hr (r' := ⟨r.e + 1, 0, r.cells.take (i * 10) ++ r.cells.drop (j * 10)⟩) (p := o + i * 10) (vs := us.drop (j * 10)) (by rw [List.length_drop, hul]; omega) (by omega) (o' := o)
            (G' := G.put g (r.e + 1) (b, o, n)) (.inr ⟨rfl, Nat.lt_succ_self _⟩) (by show o + r.fz ≤ o + 0; omega) (by
              intro k x hx
              have htl : (r.cells.take (i * 10)).length = i * 10 := by rw [List.length_take]; omega
              by_cases hk : k < i * 10
              · rw [List.getElem?_append_left (by omega), List.getElem?_take, if_pos hk] at hx
                obtain ⟨u, -, m2, m3, m4⟩ := hcell k x hx
                exact ⟨u, m3, by rw [if_neg (by omega)]; exact m2, m4⟩
              · rw [List.getElem?_append_right (by omega), htl, List.getElem?_drop] at hx
                obtain ⟨u, m1, m2, m3, m4⟩ := hcell _ x hx
                have hlt := (List.getElem?_eq_some_iff.1 m1).1
                refine ⟨u, m3, ?_, m4⟩
                rw [if_pos (by rw [List.length_drop]; omega), List.getElem?_drop, ← m1]
                congr 1; omega)
          obtain ⟨b', o', n', cs1, t1, q2⟩ := k2.grp g _ (Tr.get_set_same _ _ _)
          have hmu2 := q2.mu
          rw [Gh.put_same] at hmu2
          cases hmu2
          have hrl : (r.cells.take (i * 10) ++ r.cells.drop (j * 10)).length = (len - (j - i)) * 10 := by rw [List.length_append, List.length_take, List.length_drop]; omega
          obtain ⟨k3, k4⟩ := k2.sets q2 (Tr.get_set_same _ _ _) (r' := ⟨r.e + 1, 0, r.cells.take (i * 10) ++ r.cells.drop (j * 10)⟩) (p := o + (len - (j - i)) * 10) (vs := zs) (by rw [hzl]; omega) (by show o + 0 ≤ _; omega) (o' := o)
            (G' := G.put g (r.e + 1) (b, o, n)) (.inl ⟨rfl, rfl, rfl⟩) (Nat.le_refl _) (by
              intro k x hx
              have hk : k < (len - (j - i)) * 10 := by rw [← hrl]; exact (List.getElem?_eq_some_iff.1 hx).1
              obtain ⟨u, m1, m2, m3⟩ := q2.cell k x hx
              exact ⟨u, m2, by rw [if_neg (by omega)]; exact m1, m3⟩)
          refine ⟨_, _, G.put g (r.e + 1) (b, o, n), ⟨H.next, H.gs.set g ⟨r.e + 1, 0, r.cells.take (i * 10) ++ r.cells.drop (j * 10)⟩, H.ms⟩, he, k1, k4.less ⟨?_, ?_, fun _ => rfl⟩, ?_, rfl, rfl⟩
          · intro g' hg'
            have hg' : ((H.gs.set g _).set g _).get g' = none := hg'
            show (H.gs.set g _).get g' = none
            rw [Tr.get_set] at hg' ⊢
            by_cases hq : g' = g
            · rw [if_pos hq] at hg'; cases hg'
            · rw [if_neg hq] at hg' ⊢; rw [Tr.get_set_ne _ _ hq] at hg'; exact hg'
          · intro g' r2 hg'
            have hg' : ((H.gs.set g _).set g _).get g' = some r2 := hg'
            refine ⟨r2, ?_, rfl, rfl, fun _ _ h => h⟩
            show (H.gs.set g _).get g' = some r2
            rw [Tr.get_set] at hg' ⊢
            by_cases hq : g' = g
            · rw [if_pos hq] at hg' ⊢; exact hg'
            · rw [if_neg hq] at hg' ⊢; rw [Tr.get_set_ne _ _ hq] at hg'; exact hg'
          · simp only [VR]
            exact ⟨b, o, n, cap, Gh.put_same _ _ _ _, rfl, by omega, by simpa using hroom⟩
      · cases h
    · cases h
  · unfold deleteH at h
    split at h
    · rename_i g e len z' i j
      split at h
      · rename_i r hr
        cases hc : (Nat.beq r.e e && Nat.beq z' 10 && Nat.beq r.fz 0 && Nat.beq r.cells.length (len * 10) && Nat.blt i j && Nat.ble j len && Nat.ble len 9223372036854775807) with
        | false => rw [hc] at h; cases h
        | true =>
          rw [hc] at h
          cases h
          refine FrameR.set hr fun R H2 he ha => ?_
          simp only [deleteH, he.get ha hr]
          rw [hc]
          rfl
      · cases h
    · cases h
end Go.Proofs.YtfbhoomfhjlbiaaGreatDoor
