/- slices.Insert of a store's clauses: laws, and the road in place.   slices.Insert of a store's clauses: the road into a new row.   slices.Insert of a store's clauses: at the end; what stands in for it.   What stands in for slices.Insert of a store's clauses. -/
import Derived.Test.YtjnagmdbkkccpaaGreatDoorStA
import Derived.Lib.Overlaps
import Derived.Lib.AppendZerosOnto
import Derived.Laws.Externs
import Derived.Laws.NewBlocks
namespace Go.Proofs.YtjnagmdbkkccpaaGreatDoor
open Go Go.Abs Go.RowKit Go.Lib
set_option linter.unusedVariables false
set_option linter.unusedSimpArgs false
theorem wpList_copy_run {P : Program} (w : World) {ops : Array Oper} {rest : List Oper} {o : Oper} {a : Act} {Q : Exit → Act → World → Prop} (hgd : o.guard = none) (d s : Operand) (t t' : TypeId)
    (ho : o.op = .call { callee := .builtin .copy, args := #[d, s], argTypes := #[t, t'] }) (v u : Value) (hd : a.eval d = v) (hs : a.eval s = u) {v' : Value} {w' : World}
    (hr : (Builtin.copy_ #[t, t'] o.type #[v, u]).run P w = .ok v' w') (h : wpList P ops Q rest (a.put o.dst v') w') : wpList P ops Q (o :: rest) a w := by
  refine wpList_plain hgd fun K' hK => ?_
  unfold Oper.wp execOp
  simp only [ho, resolve, invoke, builtin, Sem.run_bind, Sem.run_pure, Result.andThen_ok, List.map_toArray, List.map_cons, List.map_nil, hd, hs, hr]
  exact hK _ _ h
theorem wpList_append_runB {P : Program} (w : World) {ops : Array Oper} {rest : List Oper} {o : Oper} {a : Act} {Q : Exit → Act → World → Prop} (hgd : o.guard = none) (d s : Operand) (t t' : TypeId)
    (ho : o.op = .call { callee := .builtin .append, args := #[d, s], argTypes := #[t, t'] }) (v u : Value) (hd : a.eval d = v) (hs : a.eval s = u) {v' : Value} {w' : World}
    (hr : (Builtin.append_ #[t, t'] o.type #[v, u]).run P w = .ok v' w') (h : wpList P ops Q rest (a.put o.dst v') w') : wpList P ops Q (o :: rest) a w := by
  refine wpList_plain hgd fun K' hK => ?_
  unfold Oper.wp execOp
  simp only [ho, resolve, invoke, builtin, Sem.run_bind, Sem.run_pure, Result.andThen_ok, List.map_toArray, List.map_cons, List.map_nil, hd, hs, hr]
  exact hK _ _ h
theorem step_copy_runB {P : Program} {ops : Array Oper} {o : Oper} {a : Act} {w : World} {K : Act → World → Prop} {Q : Exit → Act → World → Prop} {E : Prop}
    (hg : o.guard = none) (d x : Operand) (dT sT : TypeId) (hop : o.op = Op.call { callee := Callee.builtin Builtin.copy, args := #[d, x], argTypes := #[dT, sT] })
    (v u : Value) (hd : a.eval d = v) (hx : a.eval x = u) {v' : Value} {w' : World} (hr : (Builtin.copy_ #[dT, sT] o.type #[v, u]).run P w = .ok v' w') (hK : K (a.put o.dst v') w') :
    if Region.wanted o (yielded ops a.tmps) = true then Oper.wp P o a w K Q else E := by
  have hw : Region.wanted o (yielded ops a.tmps) = true := by simp [Region.wanted, hg]
  rw [if_pos hw]
  unfold Oper.wp
  simp [execOp, hop, resolve, invoke, builtin, hd, hx, hr, Result.andThen]
  exact hK
/-- Rows are copied: all is read before anything is written. -/
theorem run_copy_rows (w : World) (ty : TypeId) (b o dLen dCap : Nat) (a : Addr) (sLen sCap : Nat) (cs : List Value) (hn : cs.length = Nat.min sLen dLen * 10)
    (hsrc : ∀ j v, cs[j]? = some v → w.cell? (a.add j) = some v) (hc : ∀ j, j < cs.length → (w.cell? ⟨b, o + j, none⟩).isSome = true) (hf : ∀ j, j < cs.length → w.frozen? ⟨b, o + j, none⟩ = false) (h1 : ∀ v ∈ cs, v.oneCell' = true) :
    (Builtin.copy_ #[127, 127] ty #[.slice (some ⟨b, o, none⟩) dLen dCap, .slice (some a) sLen sCap]).run Tryz.prog w = .ok (goInt (Nat.min sLen dLen)) (w.setCells b o cs) := by
  obtain ⟨inf, z, hi, hs, -⟩ := clause_info
  have hl := run_firstCells_some (P := Tryz.prog) w 10 (Nat.min sLen dLen) a sLen sCap cs hn hsrc
  have hst := run_storeCells_cells (P := Tryz.prog) b o cs 0 w (by simpa using hc) (by simpa using hf) h1
  simp only [Nat.add_zero] at hst
  simp [Builtin.copy_, run_underlying Tryz.underlying127, Builtin.lenOf, sizeOf, typeInfo, hi, hs, hl, hst]
theorem isSome_setC (b : Nat) (vs : List Value) (o : Nat) (w : World) (h : ∀ j, j < vs.length → (w.cell? ⟨b, o + j, none⟩).isSome = true) (k : Nat) (hk : (w.cell? ⟨b, k, none⟩).isSome = true) : ((w.setCells b o vs).cell? ⟨b, k, none⟩).isSome = true := by
  by_cases hin : o ≤ k ∧ k < o + vs.length
  · have := World.cell?_setCells_in b vs o w h (k - o) (by omega)
    rw [show o + (k - o) = k by omega] at this
    rw [this]; rfl
  · rw [World.cell?_setCells_out b vs o w ⟨b, k, none⟩ (fun _ _ => by show k < o ∨ o + vs.length ≤ k; omega)]
    exact hk
set_option maxHeartbeats 4000000 in
set_option maxRecDepth 100000 in
/-- There is room: in place. -/
theorem insert_shift (b o n c i vb vo m vc : Nat) (cs vs : List Value) (cs0 vs0 : Array Value) (t tv : TypeId) (w : World) (hb : w.heap[b]? = some (.cells cs0 t (0, 0))) (hvb : w.heap[vb]? = some (.cells vs0 tv (0, 0))) (hne : vb ≠ b) (hroom : o + c * 10 ≤ cs0.size)
    (hcs : ∀ k v, cs[k]? = some v → w.cell? ⟨b, o + k, none⟩ = some v) (hvs : ∀ k v, vs[k]? = some v → w.cell? ⟨vb, vo + k, none⟩ = some v) (hcl : cs.length = n * 10) (hvl : vs.length = m * 10) (h1 : ∀ v ∈ cs, v.oneCell' = true) (h1v : ∀ v ∈ vs, v.oneCell' = true)
    (hi : i < n) (hm : 0 < m) (hnm : n + m ≤ c) (h63 : n + m ≤ 9223372036854775807) :
    Calls Tryz.prog 135 #[.slice (some ⟨b, o, none⟩) n c, .int .i64 i, .slice (some ⟨vb, vo, none⟩) m vc] w fun e w' =>
      e = .returned (.slice (some ⟨b, o, none⟩) (n + m) c) ∧ ∃ q, w' = ((w.drewN q).setCells b (o + (i + m) * 10) (cs.drop (i * 10))).setCells b (o + i * 10) vs := by
  have mixed : (Tryz.prog).follows .mixedOrders = true := by kernel_rfl
  obtain ⟨inf, z, hinf, hs, hz, hzs, hz1, -, hzr⟩ := clause_info
  have hz1' : ¬ ((m : Int) = 0) := by omega
  have hz2 : ¬ ((i : Int) = (n : Int)) := by omega
  have hcm : n * 10 + m * 10 ≤ c * 10 := by omega
  have hsz : ∀ w : World, (Go.sizeOf 130).run Tryz.prog w = .ok 10 w := fun w => by simp [sizeOf, typeInfo, hinf, hs]
  have hov : ∀ lb cb, (callFunc 168 #[.slice (some ⟨vb, vo, none⟩) m vc, .slice (some ⟨b, o + (i + m) * 10, none⟩) lb cb]).run Tryz.prog w = .ok (.value (.bool false)) w := fun lb cb => by
    rw [run_callFunc_extern Tryz.func168 (by kernel_rfl) (by kernel_rfl) (by kernel_rfl) (e := Extern.SlicesOverlaps.overlaps #[127, 127] #[4]) (by kernel_rfl),
      Lib.run_overlaps_apart w 127 4 130 Tryz.underlying127 10 hsz ⟨vb, vo, none⟩ ⟨b, o + (i + m) * 10, none⟩ m vc lb cb hne tv t vs0.size cs0.size (by simp [World.shape?, hvb]) (by simp [World.shape?, hb]) (by omega) (by simp [World.frozen?, hvb]) (by simp [World.frozen?, hvb])]
    rfl
  have hdl : (cs.drop (i * 10)).length = (n - i) * 10 := by rw [List.length_drop, hcl, Nat.sub_mul]
  have hw1 : IntKind.i64.wrap ((i : Int) + (m : Int)) = (i : Int) + (m : Int) := by rw [IntKind.wrap_i64]; omega
  have hb1 : (0 : Int) ≤ (i : Int) + (m : Int) := by omega
  have hin : i ≤ n := by omega
  have htn : ((i : Int) + (m : Int)).toNat = i + m := by omega
  have hb2 : ¬ (c = i + m) := by omega
  have hb3 : (i : Int) ≤ (n : Int) + (m : Int) := by omega
  have hb4 : ¬ (c = i) := by omega
  have hcell : ∀ k, k < (n + m) * 10 → (w.cell? ⟨b, o + k, none⟩).isSome = true := fun k hk => by rw [cell_of hb, Array.getElem?_eq_getElem (by omega)]; rfl
  have hfz : ∀ k, w.frozen? ⟨b, k, none⟩ = false := fun k => by simp [World.frozen?, hb]
  have hcp1 : ∀ ty dc sc, (Builtin.copy_ #[127, 127] ty #[.slice (some ⟨b, o + (i + m) * 10, none⟩) (n + m - (i + m)) dc, .slice (some ⟨b, o + i * 10, none⟩) (n + m - i) sc]).run Tryz.prog w.drew = .ok (goInt (n - i)) (w.drew.setCells b (o + (i + m) * 10) (cs.drop (i * 10))) := fun ty dc sc => by
    have := run_copy_rows w.drew ty b (o + (i + m) * 10) (n + m - (i + m)) dc ⟨b, o + i * 10, none⟩ (n + m - i) sc (cs.drop (i * 10)) (by rw [hdl]; simp only [Nat.min_def]; split <;> omega)
      (fun j v hj => by rw [Addr.add_lit, Nat.add_assoc]; exact hcs (i * 10 + j) v (by rwa [List.getElem?_drop] at hj))
      (fun j hj => by rw [Nat.add_assoc]; exact hcell _ (by rw [hdl] at hj; omega)) (fun j hj => hfz _) (fun v hv => h1 v (List.mem_of_mem_drop hv))
    rw [this]
    congr 2
    simp only [Nat.min_def]; split <;> omega
  obtain ⟨W1, hW1⟩ : ∃ W1, W1 = w.drew.setCells b (o + (i + m) * 10) (cs.drop (i * 10)) := ⟨_, rfl⟩
  have hcp2 : ∀ (W : World), (∀ x, W.cell? x = W1.cell? x) → (∀ x, W.frozen? x = W1.frozen? x) → ∀ ty dc, (Builtin.copy_ #[127, 127] ty #[.slice (some ⟨b, o + i * 10, none⟩) (n + m - i) dc, .slice (some ⟨vb, vo, none⟩) m vc]).run Tryz.prog W = .ok (goInt m) (W.setCells b (o + i * 10) vs) := fun W hWc hWf ty dc => by
    have := run_copy_rows W ty b (o + i * 10) (n + m - i) dc ⟨vb, vo, none⟩ m vc vs (by rw [hvl]; simp only [Nat.min_def]; split <;> omega)
      (fun j v hj => by
        rw [Addr.add_lit, hWc, hW1, World.cell?_setCells_out b _ _ _ _ (fun h _ => absurd h hne)]
        exact hvs j v hj)
      (fun j hj => by rw [hWc, hW1, Nat.add_assoc]; exact isSome_setC b _ _ _ (fun k hk => by rw [Nat.add_assoc]; exact hcell _ (by rw [hdl] at hk; omega)) _ (hcell _ (by omega)))
      (fun j hj => by rw [hWf, hW1, World.frozen?_setCells]; exact hfz _) h1v
    rw [this]
    congr 2
    simp only [Nat.min_def]; split <;> omega
  rw [← hW1] at hcp1
  go_enter Tryz.func135, Tryz.ntmps135
  go_wp2_with (simp only [hov])
  go_region_law_o (refine step_copy_runB (P := Tryz.prog) rfl (.tmp 73) (.tmp 76) 127 127 rfl (.slice (some ⟨b, o + (i + m) * 10, none⟩) (n + m - (i + m)) (c - (i + m))) (.slice (some ⟨b, o + i * 10, none⟩) (n + m - i) (c - i)) (by simp [Act.eval, Act.put]) (by simp [Act.eval, Act.put]) (hcp1 3 (c - (i + m)) (c - i)) ?_)
  go_wp2_with (at_builtin; refine wpList_copy_run _ rfl (.tmp 80) (.tmp 81) 127 127 rfl (.slice (some ⟨b, o + i * 10, none⟩) (n + m - i) (c - i)) (.slice (some ⟨vb, vo, none⟩) m vc) (by simp [Act.eval, Act.put]) (by simp [Act.eval, Act.put]) (hcp2 _ (fun x => by rw [hW1]) (fun x => by rw [hW1]) _ _) ?_)
  go_ret
  exact ⟨rfl, 1, by first | rfl | (rw [hW1]; rfl)⟩
end Go.Proofs.YtjnagmdbkkccpaaGreatDoor
namespace Go.Proofs.YtjnagmdbkkccpaaGreatDoor
open Go Go.Abs Go.RowKit Go.Lib
set_option linter.unusedVariables false
set_option linter.unusedSimpArgs false
set_option maxHeartbeats 4000000 in
set_option maxRecDepth 100000 in
/-- There is no room: a new row. -/
theorem insert_grow (b o n c i vb vo m vc : Nat) (cs vs : List Value) (w : World) (hbw : b < w.heap.size) (hvw : vb < w.heap.size)
    (hcs : ∀ k v, cs[k]? = some v → w.cell? ⟨b, o + k, none⟩ = some v) (hvs : ∀ k v, vs[k]? = some v → w.cell? ⟨vb, vo + k, none⟩ = some v) (hcl : cs.length = n * 10) (hvl : vs.length = m * 10) (h1 : ∀ v ∈ cs, v.oneCell' = true) (h1v : ∀ v ∈ vs, v.oneCell' = true)
    (hi : i < n) (hm : 0 < m) (hnc : n ≤ c) (hnm : c < n + m) (hbig : (n + m) * 128 ≤ 140737488355328) :
    Calls Tryz.prog 135 #[.slice (some ⟨b, o, none⟩) n c, .int .i64 i, .slice (some ⟨vb, vo, none⟩) m vc] w fun e w' =>
      ∃ (C : Nat) (row : Array Value), n + m ≤ C ∧ row.size = C * 10 ∧ e = .returned (.slice (some ⟨w.heap.size, 0, none⟩) (n + m) C) ∧ (∀ k, k < i * 10 → row[k]? = cs[k]?) ∧
        ∃ q q2, w' = ((((w.drewN q).alloc (.cells row 130)).setCells w.heap.size (i * 10) vs).drewN q2).setCells w.heap.size ((i + m) * 10) (cs.drop (i * 10)) := by
  have mixed : (Tryz.prog).follows .mixedOrders = true := by kernel_rfl
  obtain ⟨inf, z, hinf, hs, hz, hzs, hz1, hby, hzr⟩ := clause_info
  have hz1' : ¬ ((m : Int) = 0) := by omega
  have hz2 : ¬ ((i : Int) = (n : Int)) := by omega
  have hz3 : (c : Int) < (n : Int) + (m : Int) := by omega
  have hkk : (n : Int) + (m : Int) - (i : Int) = ((n + m - i : Nat) : Int) := by omega
  have hik : i + (n + m - i) = n + m := by omega
  have htl : (cs.take (i * 10)).length = i * 10 := by rw [List.length_take]; omega
  have hold : (Builtin.firstCells inf.size i (.slice (some ⟨b, o, none⟩) i c)).run Tryz.prog w.drew = .ok (cs.take (i * 10)).toArray w.drew := by
    rw [hs]
    exact run_firstCells_some w.drew 10 i ⟨b, o, none⟩ i c (cs.take (i * 10)) htl (fun j v hj => by
      rw [Addr.add_lit]
      rw [List.getElem?_take] at hj
      split at hj
      · exact hcs j v hj
      · cases hj)
  have hrz : ∀ ty, (Builtin.append_ #[127, 3] ty #[.slice (some ⟨b, o, none⟩) i c, .int .i64 ((n : Int) + (m : Int) - (i : Int))]).run Tryz.prog w =
      .ok (.slice (some ⟨w.heap.size, 0, none⟩) (n + m) (grownCap w (n + m) c 130)) (w.drew.alloc (.cells ((cs.take (i * 10)).toArray ++ Builtin.zeroCells z.cells (n + m - i) ++ Builtin.zeroCells z.cells (grownCap w (n + m) c 130 - (n + m))) 130)) := fun ty => by
    have h := Lib.run_append_grow_zeros (P := Tryz.prog) w 127 3 ty 130 inf z .i64 .i64 Tryz.underlying127 Tryz.underlying3 hinf hz (some ⟨b, o, none⟩) i c (cs.take (i * 10)) hold (n + m - i) (by omega) (by omega) (by omega) (by omega) (by rw [hby]; omega) (by rw [hby, hik]; exact growslice_fits (by omega) hbig)
    rw [hik] at h
    rw [hkk]
    exact h
  have hge : n + m ≤ grownCap w (n + m) c 130 := grownCap_ge w _ _ _
  obtain ⟨C, hC⟩ : ∃ C, C = grownCap w (n + m) c 130 := ⟨_, rfl⟩
  rw [← hC] at hrz hge
  obtain ⟨row, hrow⟩ : ∃ row : Array Value, row = (cs.take (i * 10)).toArray ++ Builtin.zeroCells z.cells (n + m - i) ++ Builtin.zeroCells z.cells (C - (n + m)) := ⟨_, rfl⟩
  rw [← hrow] at hrz
  have hzc : ∀ k, (Builtin.zeroCells z.cells k).size = k * 10 := fun k => by rw [size_zeroCells, hzs]
  have hrs : row.size = C * 10 := by
    rw [hrow, Array.size_append, Array.size_append, hzc, hzc, List.size_toArray, htl]
    omega
  have hrk : ∀ k, k < i * 10 → row[k]? = cs[k]? := fun k hk => by
    rw [hrow, Array.getElem?_append_left (by rw [Array.size_append, List.size_toArray, htl]; omega), Array.getElem?_append_left (by rw [List.size_toArray, htl]; omega), List.getElem?_toArray, List.getElem?_take, if_pos hk]
  have hG63 : C ≤ 9223372036854775807 := by
    have := grownCap_le_maxLen w (n + m) c 130 (by unfold maxLen; omega)
    rw [← hC] at this
    unfold maxLen at this
    omega
  obtain ⟨W1, hW1⟩ : ∃ W1, W1 = w.drew.alloc (.cells row 130) := ⟨_, rfl⟩
  have hN : ∀ j, j < (n + m) * 10 → (W1.cell? ⟨w.heap.size, j, none⟩).isSome = true := fun j hj => by
    rw [hW1, World.cell?_alloc_at (w := w.drew) row _ w.heap.size j rfl, Array.getElem?_eq_getElem (by omega)]; rfl
  have hNf : ∀ j, W1.frozen? ⟨w.heap.size, j, none⟩ = false := fun j => by rw [hW1]; exact World.frozen?_alloc_at (w := w.drew) row _ w.heap.size j rfl
  have hOb : ∀ j v, w.cell? ⟨b, j, none⟩ = some v → W1.cell? ⟨b, j, none⟩ = some v := fun j v h => by rw [hW1, World.cell?_alloc_past (w := w.drew) _ b j hbw]; exact h
  have hOv : ∀ j v, w.cell? ⟨vb, j, none⟩ = some v → W1.cell? ⟨vb, j, none⟩ = some v := fun j v h => by rw [hW1, World.cell?_alloc_past (w := w.drew) _ vb j hvw]; exact h
  have hcpA : ∀ (W : World), (∀ x, W.cell? x = W1.cell? x) → (∀ x, W.frozen? x = W1.frozen? x) → ∀ ty dc, (Builtin.copy_ #[127, 127] ty #[.slice (some ⟨w.heap.size, i * 10, none⟩) (n + m - i) dc, .slice (some ⟨vb, vo, none⟩) m vc]).run Tryz.prog W = .ok (goInt m) (W.setCells w.heap.size (i * 10) vs) := fun W hWc hWf ty dc => by
    have := run_copy_rows W ty w.heap.size (i * 10) (n + m - i) dc ⟨vb, vo, none⟩ m vc vs (by rw [hvl]; simp only [Nat.min_def]; split <;> omega)
      (fun j v hj => by rw [Addr.add_lit, hWc]; exact hOv _ v (hvs j v hj))
      (fun j hj => by rw [hWc]; exact hN _ (by omega)) (fun j hj => by rw [hWf]; exact hNf _) h1v
    rw [this]
    congr 2
    simp only [Nat.min_def]; split <;> omega
  have hGi : ¬ (C = i) := by omega
  have hGim : ¬ (C = i + m) := by omega
  have hci : ¬ (c = i) := by omega
  have hbN : b ≠ w.heap.size := by omega
  have hdl : (cs.drop (i * 10)).length = (n - i) * 10 := by rw [List.length_drop, hcl, Nat.sub_mul]
  have hcpB : ∀ (W : World), (∀ x, W.cell? x = (W1.setCells w.heap.size (i * 10) vs).cell? x) → (∀ x, W.frozen? x = (W1.setCells w.heap.size (i * 10) vs).frozen? x) → ∀ ty dc sc, (Builtin.copy_ #[127, 127] ty #[.slice (some ⟨w.heap.size, (i + m) * 10, none⟩) (n + m - (i + m)) dc, .slice (some ⟨b, o + i * 10, none⟩) (n - i) sc]).run Tryz.prog W = .ok (goInt (n - i : Nat)) (W.setCells w.heap.size ((i + m) * 10) (cs.drop (i * 10))) := fun W hWc hWf ty dc sc => by
    have := run_copy_rows W ty w.heap.size ((i + m) * 10) (n + m - (i + m)) dc ⟨b, o + i * 10, none⟩ (n - i) sc (cs.drop (i * 10)) (by rw [hdl]; simp only [Nat.min_def]; split <;> omega)
      (fun j v hj => by
        rw [Addr.add_lit, hWc, World.cell?_setCells_out _ _ _ _ _ (fun h _ => absurd h hbN), Nat.add_assoc]
        exact hOb _ v (hcs (i * 10 + j) v (by rwa [List.getElem?_drop] at hj)))
      (fun j hj => by rw [hWc]; exact isSome_setC _ _ _ _ (fun t ht => hN _ (by rw [hvl] at ht; omega)) _ (hN _ (by rw [hdl] at hj; omega)))
      (fun j hj => by rw [hWf, World.frozen?_setCells]; exact hNf _) (fun v hv => h1 v (List.mem_of_mem_drop hv))
    rw [this]
    congr 2
    simp only [Nat.min_def]; split <;> omega
  have hw1 : IntKind.i64.wrap ((i : Int) + (m : Int)) = (i : Int) + (m : Int) := by rw [IntKind.wrap_i64]; omega
  have hb1 : (0 : Int) ≤ (i : Int) + (m : Int) := by omega
  have hin : i ≤ n := by omega
  have htn : ((i : Int) + (m : Int)).toNat = i + m := by omega
  have hb3 : (i : Int) ≤ (n : Int) := by omega
  have hE1 : ∀ x, ((w.alloc (.cells row 130)).drew).cell? x = W1.cell? x := fun x => by rw [hW1]; rfl
  have hE2 : ∀ x, ((w.alloc (.cells row 130)).drew).frozen? x = W1.frozen? x := fun x => by rw [hW1]; rfl
  have hF1 : ∀ x, (((w.alloc (.cells row 130)).drew.setCells w.heap.size (i * 10) vs).drew).cell? x = (W1.setCells w.heap.size (i * 10) vs).cell? x := fun x => by rw [hW1]; rfl
  have hF2 : ∀ x, (((w.alloc (.cells row 130)).drew.setCells w.heap.size (i * 10) vs).drew).frozen? x = (W1.setCells w.heap.size (i * 10) vs).frozen? x := fun x => by rw [hW1]; rfl
  have hfin : ∀ e, e = Ending.returned (.slice (some ⟨w.heap.size, 0, none⟩) (n + m) C) → ∃ (C0 : Nat) (row0 : Array Value), n + m ≤ C0 ∧ row0.size = C0 * 10 ∧ e = .returned (.slice (some ⟨w.heap.size, 0, none⟩) (n + m) C0) ∧ (∀ k, k < i * 10 → row0[k]? = cs[k]?) ∧
        ∃ q q2, ((w.alloc (.cells row 130)).drew.setCells w.heap.size (i * 10) vs).drew.setCells w.heap.size ((i + m) * 10) (cs.drop (i * 10)) = ((((w.drewN q).alloc (.cells row0 130)).setCells w.heap.size (i * 10) vs).drewN q2).setCells w.heap.size ((i + m) * 10) (cs.drop (i * 10)) :=
    fun e he => ⟨C, row, hge, hrs, he, hrk, 1, 1, rfl⟩
  clear hkk hik hold hrow hC hrk htl hzc hW1 hN hNf hOb hOv hge hrs
  go_enter Tryz.func135, Tryz.ntmps135
  go_wp2_with (first
    | (at_builtin; refine wpList_append_runB _ rfl (.tmp 34) (.tmp 39) 127 3 rfl (.slice (some ⟨b, o, none⟩) i c) (.int .i64 ((n : Int) + (m : Int) - (i : Int))) (by simp [Act.eval, Act.put]) (by simp [Act.eval, Act.put]) (hrz _) ?_)
    | (at_builtin; refine wpList_copy_run _ rfl (.tmp 43) (.tmp 44) 127 127 rfl (.slice (some ⟨w.heap.size, i * 10, none⟩) (n + m - i) (C - i)) (.slice (some ⟨vb, vo, none⟩) m vc) (by simp [Act.eval, Act.put]) (by simp [Act.eval, Act.put]) (hcpA _ hE1 hE2 _ _) ?_))
  go_region_law_o (refine step_copy_runB (P := Tryz.prog) rfl (.tmp 50) (.tmp 53) 127 127 rfl (.slice (some ⟨w.heap.size, (i + m) * 10, none⟩) (n + m - (i + m)) (C - (i + m))) (.slice (some ⟨b, o + i * 10, none⟩) (n - i) (c - i)) (by simp [Act.eval, Act.put]) (by simp [Act.eval, Act.put]) (hcpB _ hF1 hF2 3 (C - (i + m)) (c - i)) ?_)
  go_wp2
  go_ret
  exact hfin _ (by rfl)
end Go.Proofs.YtjnagmdbkkccpaaGreatDoor
namespace Go.Proofs.YtjnagmdbkkccpaaGreatDoor
open Go Go.Abs Go.RowKit Go.Lib
set_option linter.unusedVariables false
set_option linter.unusedSimpArgs false
set_option maxHeartbeats 4000000 in
set_option maxRecDepth 100000 in
theorem insert_end (a va : Option Addr) (n c m vc : Nat) (r : Value) (w w1 : World) (hm : 0 < m) (hnc : n ≤ c) (hrun : (Builtin.append_ #[127, 127] 127 #[.slice a n c, .slice va m vc]).run Tryz.prog w = .ok r w1) :
    Calls Tryz.prog 135 #[.slice a n c, .int .i64 n, .slice va m vc] w fun e w' => e = .returned r ∧ w' = w1 := by
  have hz1' : ¬ ((m : Int) = 0) := by omega
  cases a
  all_goals
    go_enter Tryz.func135, Tryz.ntmps135
    go_wp2_with (at_builtin; refine wpList_append_runB _ rfl (.tmp 23) (.tmp 24) 127 127 rfl _ _ rfl rfl hrun ?_)
    all_goals
      go_ret
      exact ⟨rfl, rfl⟩
theorem app_eq (s x : AV) (H : AH) {r : AV × AH} (h : iapp 10 128 s x H = some r) : aappend Tryz.prog 127 s x H = some r := by
  have hc : zClause.fit = true ∧ zClause.cells.length = 10 ∧ (10 : Nat) ≠ 0 := ⟨rfl, rfl, by decide⟩
  unfold aappend
  rw [Tryz.underlying127]
  simp only [clause_zero, clause_cells, clause_bytes]
  unfold iapp at h
  split at h
  · rename_i m xs e8
    rw [e8]
    simp only
    rw [if_pos hc]
    exact h
  · cases h
theorem insert_app {K : Kx} {G : Gh} {H H' : AH} {w : World} {s v x : AV} {a va : Option Addr} {n c m vc : Nat} (hw : HRel K G H w) (hs : VR G s (.slice a n c)) (hv : VR G v (.slice va m vc)) (hm : 0 < m) (hnc : n ≤ c) (h : iapp 10 128 s v H = some (x, H')) :
    Calls Tryz.prog 135 #[.slice a n c, .int .i64 n, .slice va m vc] w fun e w' => ∃ u x' G' H'', e = .returned u ∧ G.le G' ∧ HRel K G' H'' w' ∧ VR G' x' u ∧ x' = x ∧ H'' = H' := by
  obtain ⟨r, w1, G', h1, h2, h3, h4⟩ := aappend_ok (P := Tryz.prog) (ty := 127) hw hs hv (app_eq s v H h)
  exact (insert_end a va n c m vc r w w1 hm hnc h1).mono fun e w' ⟨he, hw'⟩ => ⟨r, x, G', H', he, h2, by rw [hw']; exact h3, h4, rfl, rfl⟩
end Go.Proofs.YtjnagmdbkkccpaaGreatDoor
namespace Go.Proofs.YtjnagmdbkkccpaaGreatDoor
open Go Go.Abs Go.RowKit Go.Lib
set_option linter.unusedVariables false
set_option linter.unusedSimpArgs false
theorem iapp_fr {z b : Nat} {s x y : AV} {H H' : AH} (h : iapp z b s x H = some (y, H')) : FrameR y H H' (iapp z b s x) :=
  iop_frame (T := .nil) (op := .app z b (.c s) (.c x)) h
theorem insert_mid {K : Kx} {G : Gh} {H : AH} {w : World} {g e len i gv ev iv mv zv m : Nat} {r : Grp} {xs : List AV} {vs : Array Value} (hw : HRel K G H w) (hv : VRs G [.slc g e 0 len 10, .int .i64 i, .slc gv ev iv mv zv] vs.toList) (hm : 0 < m) (hne : gv ≠ g)
    (hlc : listCells H 10 (.slc gv ev iv mv zv) = some (m, xs)) (hr : H.gs.get g = some r) (he : r.e = e) (hfz : r.fz = 0) (hlen : r.cells.length = len * 10) (hil : i < len) (hbig : (len + m) * 128 ≤ 140737488355328) (h63 : len + m ≤ 9223372036854775807) :
    Calls Tryz.prog 135 vs w fun e0 w' => ∃ u x' G' H'', e0 = .returned u ∧ G.le G' ∧ HRel K G' H'' w' ∧ VR G' x' u ∧ x' = .slc g (e + 1) 0 (len + m) 10 ∧ H'' = ⟨H.next, H.gs.set g ⟨e + 1, 0, r.cells.take (i * 10) ++ xs ++ r.cells.drop (i * 10)⟩, H.ms⟩ := by
  subst he
  obtain ⟨b, o, n, cs0, t, q⟩ := hw.grp g r hr
  -- the new rows
  obtain ⟨rv, hrv, rfl, rfl, rfl, hivl, hxs⟩ : ∃ rv, H.gs.get gv = some rv ∧ rv.e = ev ∧ m = mv ∧ zv = 10 ∧ iv + m * 10 ≤ rv.cells.length ∧ xs = (rv.cells.drop iv).take (m * 10) := by
    simp only [listCells] at hlc
    split at hlc
    · rename_i rv hg
      split at hlc
      · rename_i hc; cases hlc; exact ⟨rv, hg, hc.1, rfl, hc.2.1, hc.2.2, rfl⟩
      · cases hlc
    · cases hlc
  obtain ⟨bv, ov, nv, cv, tv, qv⟩ := hw.grp gv rv hrv
  have hbv : bv ≠ b := hw.apart gv g rv r _ _ _ _ _ _ hrv hr hne qv.mu q.mu
  obtain ⟨cap, vcap, hvs, hlcap, hroom⟩ : ∃ cap vcap, vs = #[.slice (some ⟨b, o, none⟩) len cap, .int .i64 i, .slice (some ⟨bv, ov + iv, none⟩) m vcap] ∧ len ≤ cap ∧ o + cap * 10 ≤ n := by
    simp only [VRs, VR] at hv
    obtain ⟨u, us, hu, ⟨b', o', n', cap, hmu, rfl, h1, h2⟩, u2, us2, rfl, rfl, u3, us3, rfl, ⟨b3, o3, n3, cap3, hmu3, rfl, h3, h4⟩, rfl⟩ := hv
    rw [q.mu] at hmu
    rw [qv.mu] at hmu3
    cases hmu; cases hmu3
    exact ⟨cap, cap3, by cases vs; simpa using hu, h1, by simpa using h2⟩
  subst hvs
  have hxl : xs.length = m * 10 := by rw [hxs, List.length_take, List.length_drop]; omega
  obtain ⟨us, hus, hin, ho⟩ := (q.cellsIn 0 (len * 10)).list
  obtain ⟨vv, hvv, hvin, hvo⟩ := (qv.cellsIn iv (m * 10)).list
  rw [← hxs] at hvv
  have hul : us.length = len * 10 := by rw [hus.len, List.length_take, List.length_drop]; omega
  have hvl : vv.length = m * 10 := by rw [hvv.len, hxl]
  have htl : (r.cells.take (i * 10)).length = i * 10 := by rw [List.length_take]; omega
  have hcell : ∀ (k : Nat) (x : AV), r.cells[k]? = some x → ∃ u, us[k]? = some u ∧ cs0[o + k]? = some u ∧ VR G x u ∧ u.oneCell' = true := by
    intro k x hx
    have hk : k < len * 10 := by rw [← hlen]; exact (List.getElem?_eq_some_iff.1 hx).1
    obtain ⟨u, k1, k2, k3⟩ := q.cell k x hx
    refine ⟨u, ?_, k1, k2, k3⟩
    obtain ⟨u', m1, m2⟩ := hus.get k x (by rw [List.getElem?_take, if_pos hk, List.drop_zero]; exact hx)
    have := hin k u' m1
    rw [Nat.add_zero, cell_of q.heap, k1] at this
    cases this
    exact m1
  -- what stands in each of the cells behind the call
  have hnew : ∀ (k : Nat) (x : AV), (r.cells.take (i * 10) ++ xs ++ r.cells.drop (i * 10))[k]? = some x → ∃ u, VR G x u ∧ u.oneCell' = true ∧ (if k < i * 10 then cs0[o + k]? else (vv ++ us.drop (i * 10))[k - i * 10]?) = some u ∧ (if k < i * 10 then us[k]? else (vv ++ us.drop (i * 10))[k - i * 10]?) = some u := by
    intro k x hx
    rw [List.append_assoc] at hx
    by_cases hk : k < i * 10
    · rw [List.getElem?_append_left (by omega), List.getElem?_take, if_pos hk] at hx
      obtain ⟨u, m1, m2, m3, m4⟩ := hcell k x hx
      exact ⟨u, m3, m4, by rw [if_pos hk]; exact m2, by rw [if_pos hk]; exact m1⟩
    · rw [List.getElem?_append_right (by omega), htl] at hx
      by_cases hk2 : k - i * 10 < m * 10
      · rw [List.getElem?_append_left (by omega)] at hx
        obtain ⟨u, m1, m2⟩ := hvv.get _ x hx
        refine ⟨u, m2, hvo u (List.mem_of_getElem? m1), ?_, ?_⟩
        all_goals rw [if_neg hk, List.getElem?_append_left (by omega)]; exact m1
      · rw [List.getElem?_append_right (by omega), hxl, List.getElem?_drop] at hx
        obtain ⟨u, m1, m2, m3, m4⟩ := hcell _ x hx
        refine ⟨u, m3, m4, ?_, ?_⟩
        all_goals rw [if_neg hk, List.getElem?_append_right (by omega), hvl, List.getElem?_drop]; exact m1
  have hrl : (r.cells.take (i * 10) ++ xs ++ r.cells.drop (i * 10)).length = (len + m) * 10 := by rw [List.length_append, List.length_append, htl, hxl, List.length_drop]; omega
  have hudl : (us.drop (i * 10)).length = len * 10 - i * 10 := by rw [List.length_drop, hul]
  by_cases hnm : len + m ≤ cap
  · refine (insert_shift b o len cap i bv (ov + iv) m vcap us vv cs0 cv t tv w q.heap qv.heap hbv (by rw [q.size]; exact hroom) (by simpa using hin) hvin hul hvl ho hvo hil hm hnm h63).mono fun e0 w' ⟨he, d, hw'⟩ => ?_
    have hb' : (w.drewN d).heap[b]? = some (.cells cs0 t (0, 0)) := q.heap
    rw [setCells_two hb' (by rw [hvl]; omega) (by rw [hudl, q.size]; omega)] at hw'
    subst hw'
    obtain ⟨k1, k2⟩ := (hw.drawn (w.drawn + d)).sets (g := g) (r := r) ⟨q.mu, q.low, q.heap, q.size, q.cell, q.free, q.kind⟩ hr (r' := ⟨r.e + 1, 0, r.cells.take (i * 10) ++ xs ++ r.cells.drop (i * 10)⟩) (p := o + i * 10) (vs := vv ++ us.drop (i * 10)) (by rw [List.length_append, hvl, hudl]; omega) (by omega) (o' := o)
      (G' := G.put g (r.e + 1) (b, o, n)) (.inr ⟨rfl, Nat.lt_succ_self _⟩) (by show o + r.fz ≤ o + 0; omega) (by
        intro k x hx
        obtain ⟨u, m1, m2, m3, -⟩ := hnew k x hx
        refine ⟨u, m1, ?_, m2⟩
        have hk : k < (len + m) * 10 := by rw [← hrl]; exact (List.getElem?_eq_some_iff.1 hx).1
        by_cases hki : k < i * 10
        · rw [if_pos hki] at m3; rw [if_neg (by omega)]; exact m3
        · rw [if_neg hki] at m3
          rw [if_pos (by rw [List.length_append, hvl, hudl]; omega), ← m3]
          congr 1; omega)
    refine ⟨_, _, G.put g (r.e + 1) (b, o, n), _, he, k1, k2, ?_, rfl, rfl⟩
    simp only [VR]
    exact ⟨b, o, n, cap, Gh.put_same _ _ _ _, rfl, by omega, by simpa using hroom⟩
  · have hbl := get_lt q.heap
    have hvbl := get_lt qv.heap
    refine (insert_grow b o len cap i bv (ov + iv) m vcap us vv w hbl hvbl (by simpa using hin) hvin hul hvl ho hvo hil hm hlcap (by omega) hbig).mono fun e0 w' ⟨C, row, hC, hrs, he, hrow, d1, d2, hw'⟩ => ?_
    subst hw'
    have ha : (((w.drewN d1).alloc (.cells row 130))).heap[w.heap.size]? = some (.cells row 130 (0, 0)) := by show (w.heap.push _)[w.heap.size]? = _; simp
    obtain ⟨c1, g1, s1, e1⟩ := heap_sets w.heap.size 130 (0, 0) vv (i * 10) _ row ha (by rw [hvl]; omega)
    have g1' : ((((w.drewN d1).alloc (.cells row 130)).setCells w.heap.size (i * 10) vv).drewN d2).heap[w.heap.size]? = some (.cells c1 130 (0, 0)) := g1
    obtain ⟨c2, g2, s2, e2⟩ := heap_sets w.heap.size 130 (0, 0) (us.drop (i * 10)) ((i + m) * 10) _ c1 g1' (by rw [hudl]; omega)
    have hb : Below w.heap.size w (((((w.drewN d1).alloc (.cells row 130)).setCells w.heap.size (i * 10) vv).drewN d2).setCells w.heap.size ((i + m) * 10) (us.drop (i * 10))) := by
      refine below_sets (Nat.le_refl _) _ _ _ ?_
      have h0 : Below w.heap.size w (((w.drewN d1).alloc (.cells row 130)).setCells w.heap.size (i * 10) vv) :=
        below_sets (Nat.le_refl _) _ _ _ (Below.alloc (w := w.drewN d1) (show Below w.heap.size w (w.drewN d1) from ⟨rfl, rfl, rfl, Nat.le_refl _, fun _ _ => rfl⟩) (Nat.le_refl _) _)
      exact h0.trans ⟨rfl, rfl, rfl, Nat.le_refl _, fun _ _ => rfl⟩
    have hage := hw.ages g r _ hr (Nat.lt_succ_self r.e)
    have key := hw.newBlock (g := g) (e := r.e + 1) (fz := 0) (nx := H.next) (xs := r.cells.take (i * 10) ++ xs ++ r.cells.drop (i * 10)) (t := 130) (cs := c2) hb g2 (fun k x hx => by
      obtain ⟨u, m1, m2, -, m3⟩ := hnew k x hx
      refine ⟨u, ?_, m1, m2⟩
      have hk : k < (len + m) * 10 := by rw [← hrl]; exact (List.getElem?_eq_some_iff.1 hx).1
      rw [e2, e1]
      by_cases hki : k < i * 10
      · rw [if_pos hki] at m3
        rw [if_neg (by omega), if_neg (by omega), hrow k hki]; exact m3
      · rw [if_neg hki] at m3
        by_cases hkm : k < (i + m) * 10
        · rw [List.getElem?_append_left (by omega)] at m3
          rw [if_neg (by omega), if_pos (by omega)]; exact m3
        · rw [List.getElem?_append_right (by omega), hvl] at m3
          rw [if_pos (by rw [hudl]; omega), ← m3]
          congr 1; omega) hage (fun e' he' => hw.ages g r _ hr (by omega))
    refine ⟨_, _, G.put g (r.e + 1) (w.heap.size, 0, c2.size), _, he, Gh.put_le hage, key, ?_, rfl, rfl⟩
    simp only [VR]
    exact ⟨w.heap.size, 0, c2.size, C, Gh.put_same _ _ _ _, rfl, hC, by rw [s2, s1, hrs]; omega⟩
theorem insert_one : HookOne Tryz.prog 135 (insertH 10 128) := by
  refine ⟨by decide +kernel, fun args H x H' h => ?_, fun args H x H' h => ?_⟩
  · intro K G vs w hw hv
    have two : ∀ {s : AV} {i : Nat} {gv ev iv mv zv : Nat}, VRs G [s, .int .i64 i, .slc gv ev iv mv zv] vs.toList → ∃ u a c, vs = #[u, .int .i64 i, .slice a mv c] ∧ VR G s u ∧ VR G (.slc gv ev iv mv zv) (.slice a mv c) := by
      intro s i gv ev iv mv zv hv
      simp only [VRs] at hv
      obtain ⟨u, us, hu, h1, u2, us2, rfl, h2, u3, us3, rfl, h3, rfl⟩ := hv
      simp only [VR] at h2
      subst h2
      have h3' := h3
      simp only [VR] at h3'
      obtain ⟨b, o, n, cap, -, rfl, -, -⟩ := h3'
      exact ⟨u, _, cap, by cases vs; simpa using hu, h1, h3⟩
    unfold insertH at h
    split at h
    · cases hm : Nat.beq _ 0 with
      | true => rw [hm] at h; cases h
      | false =>
        rw [hm] at h
        obtain ⟨u, a, c, rfl, h1, h2⟩ := two (i := 0) hv
        have h1' := h1
        simp only [VR] at h1'
        subst h1'
        exact insert_app (n := 0) hw h1 h2 (Nat.pos_of_ne_zero fun e => by rw [e] at hm; cases hm) (Nat.le_refl _) h
    · cases hm : Nat.beq _ 0 with
      | true => rw [hm] at h; cases h
      | false =>
        rw [hm] at h
        obtain ⟨u, a, c, rfl, h1, h2⟩ := two (i := 0) hv
        have h1' := h1
        simp only [VR] at h1'
        obtain ⟨a', rfl⟩ := h1'
        exact insert_app (n := 0) hw h1 h2 (Nat.pos_of_ne_zero fun e => by rw [e] at hm; cases hm) (Nat.le_refl _) h
    · rename_i g e len z' i gv ev iv mv zv
      cases hm : (Nat.beq mv 0 || Nat.beq gv g) with
      | true => rw [hm] at h; cases h
      | false =>
        rw [hm] at h
        simp only [cond_false] at h
        rw [Bool.or_eq_false_iff] at hm
        have hm0 : 0 < mv := Nat.pos_of_ne_zero fun e => by rw [e] at hm; cases hm.1
        have hne : gv ≠ g := fun e => by have := hm.2; rw [e, Nat.beq_refl] at this; cases this
        cases hi : Nat.beq i len with
        | true =>
          rw [hi] at h
          simp only [cond_true] at h
          obtain rfl := Nat.eq_of_beq_eq_true hi
          obtain ⟨u, a, c, rfl, h1, h2⟩ := two (i := i) hv
          have h1' := h1
          simp only [VR] at h1'
          obtain ⟨b, o, n, cap, -, rfl, h3, -⟩ := h1'
          exact insert_app (n := i) hw h1 h2 hm0 h3 h
        | false =>
          rw [hi] at h
          simp only [cond_false] at h
          split at h
          · rename_i m xs hlc
            split at h
            · rename_i r hr
              cases hc : (Nat.beq r.e e && Nat.beq z' 10 && Nat.beq r.fz 0 && Nat.beq r.cells.length (len * 10) && Nat.blt i len && Nat.blt 0 m && Nat.ble ((len + m) * 128) 140737488355328 && Nat.ble (len + m) 9223372036854775807) with
              | false => rw [hc] at h; cases h
              | true =>
                rw [hc] at h
                cases h
                simp only [Bool.and_eq_true, Nat.beq_eq, Nat.blt_eq, Nat.ble_eq] at hc
                obtain ⟨⟨⟨⟨⟨⟨⟨h1, rfl⟩, h3⟩, h4⟩, h5⟩, h6⟩, h7⟩, h8⟩ := hc
                exact insert_mid hw hv h6 hne hlc hr h1 h3 h4 h5 h7 h8
            · cases h
          · cases h
    · cases h
  · unfold insertH at h
    split at h
    · cases hm : Nat.beq _ 0 with
      | true => rw [hm] at h; cases h
      | false =>
        rw [hm] at h
        have := iapp_fr h
        refine ⟨this.1, fun R H2 he ha => ?_⟩
        obtain ⟨H2', k1, k2⟩ := this.2 R H2 he ha
        exact ⟨H2', by simp only [insertH]; rw [hm]; exact k1, k2⟩
    · cases hm : Nat.beq _ 0 with
      | true => rw [hm] at h; cases h
      | false =>
        rw [hm] at h
        have := iapp_fr h
        refine ⟨this.1, fun R H2 he ha => ?_⟩
        obtain ⟨H2', k1, k2⟩ := this.2 R H2 he ha
        exact ⟨H2', by simp only [insertH]; rw [hm]; exact k1, k2⟩
    · rename_i g e len z' i gv ev iv mv zv
      cases hm : (Nat.beq mv 0 || Nat.beq gv g) with
      | true => rw [hm] at h; cases h
      | false =>
        rw [hm] at h
        simp only [cond_false] at h
        cases hi : Nat.beq i len with
        | true =>
          rw [hi] at h
          have := iapp_fr h
          refine ⟨this.1, fun R H2 he ha => ?_⟩
          obtain ⟨H2', k1, k2⟩ := this.2 R H2 he ha
          exact ⟨H2', by simp only [insertH]; rw [hm, hi]; exact k1, k2⟩
        | false =>
          rw [hi] at h
          simp only [cond_false] at h
          split at h
          · rename_i m xs hlc
            split at h
            · rename_i r hr
              cases hc : (Nat.beq r.e e && Nat.beq z' 10 && Nat.beq r.fz 0 && Nat.beq r.cells.length (len * 10) && Nat.blt i len && Nat.blt 0 m && Nat.ble ((len + m) * 128) 140737488355328 && Nat.ble (len + m) 9223372036854775807) with
              | false => rw [hc] at h; cases h
              | true =>
                rw [hc] at h
                cases h
                refine FrameR.set hr fun R H2 he ha => ?_
                simp only [insertH]
                rw [hm, hi]
                simp only [cond_false, listCells_ext he ha hlc, he.get ha hr]
                rw [hc]
                rfl
            · cases h
          · cases h
    · cases h
end Go.Proofs.YtjnagmdbkkccpaaGreatDoor
