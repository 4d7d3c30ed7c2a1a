/- A term that came in, as a value that stands for good. -/
import Derived.Test.YtcnnobcncklgfaaGreatDoorSymU
namespace Go.Proofs.YtcnnobcncklgfaaGreatDoor
open Go Go.Abs Go.ChangeShapes Go.WideShapes Go.ChangeAt Go.RowKit
set_option linter.unusedVariables false
theorem spot_none {w : World} {a : Addr} {v : Value} (h : w.cell? a = some v) : a = ⟨a.block, a.off, none⟩ := by
  obtain ⟨b, o, s⟩ := a
  cases s with
  | none => rfl
  | some n =>
    unfold World.cell? at h
    simp only at h
    split at h
    · simp at h
    · cases h
theorem rows_vr {G : Gh} {b : Nat} : ∀ (ts : List Tm) (o : Nat), (∀ i (hi : i < ts.length), ∃ us : List Value, VRs G (tmC ts[i]) us ∧ ∀ j u, us[j]? = some u → G.M b (o + i * 4 + j) = some u) → VRows G 4 (tmRs ts) b o
  | [], o, h => by simp [tmRs, VRows]
  | t :: ts, o, h => by
    simp only [tmRs, VRows]
    refine ⟨tmC_len t, VRow.of_get fun j x hj => ?_, rows_vr ts (o + 4) fun i hi => ?_⟩
    · obtain ⟨us, h1, h2⟩ := h 0 (by simp)
      obtain ⟨u, h3, h4⟩ := h1.get j x hj
      exact ⟨u, by have := h2 j u h3; simpa using this, h4⟩
    · obtain ⟨us, h1, h2⟩ := h (i + 1) (by simpa using hi)
      exact ⟨us, h1, fun j u hj => by rw [← h2 j u hj]; congr 1; omega⟩
theorem four_get {α : Type} {a b c d u : α} {j : Nat} (h : [a, b, c, d][j]? = some u) : (j = 0 ∧ a = u) ∨ (j = 1 ∧ b = u) ∨ (j = 2 ∧ c = u) ∨ (j = 3 ∧ d = u) := by
  match j, h with
  | 0, h => simp at h; exact .inl ⟨rfl, h⟩
  | 1, h => simp at h; exact .inr (.inl ⟨rfl, h⟩)
  | 2, h => simp at h; exact .inr (.inr (.inl ⟨rfl, h⟩))
  | 3, h => simp at h; exact .inr (.inr (.inr ⟨rfl, h⟩))
  | n + 4, h => simp at h
theorem open_vr {H : Type} {enc : TypeId × Value → H} {w : World} {base : Nat} {sp : Nat → Bool} {held : Bool} : ∀ (fuel : Nat) (cs : List Value) (x : DataW H × List MemPlace), DataW.trod enc Tryz.prog w base sp held fuel 24 cs = some x →
    ∃ (t : Tm), VRs (allG w) (tmC t) cs ∧ Fine maxLen t := by
  intro fuel
  induction fuel using Nat.strongRecOn with
  | _ fuel ih =>
    intro cs x h
    obtain ⟨xs, n, rfl, rfl, hl, hlen, hf⟩ := DataW.trod_struct Tryz.underlying24 h
    rw [cellsTerm] at hl
    obtain ⟨c0, c1, c2, c3, rfl⟩ := len_four hl
    obtain ⟨x0, x1, x2, x3, rfl⟩ := len_four (show xs.length = 4 from hlen)
    have q0 := hf 0 _ rfl
    have q1 := hf 1 _ rfl
    have q2 := hf 2 _ rfl
    have q3 := hf 3 _ rfl
    obtain ⟨k, e0, -, wk⟩ := DataW.trod_int Tryz.underlying3 q0
    obtain ⟨m, e1, -, wm⟩ := DataW.trod_int Tryz.underlying2 q1
    obtain ⟨s, e2, -, ws⟩ := DataW.trod_string Tryz.underlying9 q2
    replace e0 : (([c0, c1, c2, c3].drop 0).take (Tryz.prog.cellsOf 3)) = [.int .i64 k] := e0
    rw [cellsInt] at e0
    replace e1 : (([c0, c1, c2, c3].drop 1).take (Tryz.prog.cellsOf 2)) = [.int .i64 m] := e1
    rw [cellsI64] at e1
    replace e2 : (([c0, c1, c2, c3].drop 2).take (Tryz.prog.cellsOf 9)) = [.string s] := e2
    rw [cellsString] at e2
    cases e0; cases e1; cases e2
    rcases DataW.trod_slice Tryz.underlying22 q3 with ⟨e3, -⟩ | ⟨a, len, cap, elems, rest, n2, hn2, e3, -, -, hlc, hcm, hel, hall, -, -⟩
    · replace e3 : (([Value.int .i64 k, .int .i64 m, .string s, c3].drop 3).take (Tryz.prog.cellsOf 22)) = [.slice none 0 0] := e3
      rw [cellsTerms] at e3
      cases e3
      refine ⟨.mk k m s.data.toList [], ?_, .mk _ _ _ _ (wf_i64 wk) (wf_i64 wm) (name_len ws) (Nat.zero_le _) (fun x hx => by cases hx)⟩
      simp only [tmC, tmRs, VRs, VR]
      exact ⟨_, _, rfl, rfl, _, _, rfl, rfl, _, _, rfl, by rw [bytes_list s], _, _, rfl, ⟨none, 0, rfl, Nat.le_refl _, .inl trivial⟩, rfl⟩
    · replace e3 : (([Value.int .i64 k, .int .i64 m, .string s, c3].drop 3).take (Tryz.prog.cellsOf 22)) = [.slice (some a) len cap] := e3
      rw [cellsTerms] at e3
      cases e3
      have each : ∀ i, ∃ p : Tm × List Value, i < len → (VRs (allG w) (tmC p.1) p.2 ∧ (∀ j u, p.2[j]? = some u → w.cell? (a.add (i * 4 + j)) = some u) ∧ (∀ u ∈ p.2, u.oneCell' = true) ∧ Fine maxLen p.1 ∧ p.2.length = 4) := by
        intro i
        by_cases hi : i < len
        · have h1 := hall i hi
          have hi' : i < elems.length := by omega
          rw [List.getElem?_eq_getElem hi', cellsTerm, Option.bind_eq_some_iff] at h1
          obtain ⟨cs', hc, ht⟩ := h1
          obtain ⟨t', hv, hfi⟩ := ih n2 (by omega) cs' _ ht
          obtain ⟨-, hcl, hcell⟩ := World.cells?_some hc
          refine ⟨(t', cs'), fun _ => ⟨hv, fun j u hj => ?_, fun u hu => ?_, hfi, hcl⟩⟩
          · have hj4 : j < 4 := by rw [← hcl]; exact (List.getElem?_eq_some_iff.1 hj).1
            have := hcell j hj4
            rw [Addr.add_add] at this
            rw [this]; exact hj
          · rw [tmC_eq] at hv
            simp only [VRs, VR] at hv
            obtain ⟨_, _, rfl, rfl, _, _, rfl, rfl, _, _, rfl, rfl, _, _, rfl, ⟨_, _, rfl, _⟩, rfl⟩ := hv
            simp only [List.mem_cons, List.not_mem_nil, or_false] at hu
            rcases hu with rfl | rfl | rfl | rfl <;> rfl
        · exact ⟨(.mk 0 0 [] [], []), fun h => absurd h hi⟩
      obtain ⟨F, hF⟩ := Classical.axiomOfChoice each
      have hln : ((List.range len).map fun i => (F i).1).length = len := by simp
      have hgi : ∀ i (hi : i < ((List.range len).map fun i => (F i).1).length), ((List.range len).map fun i => (F i).1)[i] = (F i).1 := by intro i hi; simp
      refine ⟨.mk k m s.data.toList ((List.range len).map fun i => (F i).1), ?_, .mk _ _ _ _ (wf_i64 wk) (wf_i64 wm) (name_len ws) (by rw [hln]; omega) (fun x hx => by
        obtain ⟨i, hi, rfl⟩ := List.mem_map.1 hx
        exact (hF i (List.mem_range.1 hi)).2.2.2.1)⟩
      have hrl : (tmRs ((List.range len).map fun i => (F i).1)).length = len := by rw [tmRs_map]; simp
      simp only [tmC, VRs, VR]
      refine ⟨_, _, rfl, rfl, _, _, rfl, rfl, _, _, rfl, by rw [bytes_list s], _, _, rfl, ⟨some a, cap, by rw [hrl], by rw [hrl]; exact hlc, ?_⟩, rfl⟩
      by_cases h0 : len = 0
      · left; subst h0; rfl
      · right
        have a0 : w.cell? (a.add (0 * 4 + 0)) = some ((F 0).2[0]'(by rw [(hF 0 (by omega)).2.2.2.2]; omega)) := (hF 0 (by omega)).2.1 0 _ (List.getElem?_eq_getElem _)
        rw [show a.add (0 * 4 + 0) = a from by unfold Addr.add; rfl] at a0
        have hsp := spot_none a0
        refine ⟨a.block, a.off, by rw [← hsp], rows_vr _ _ fun i hi => ?_⟩
        rw [hln] at hi
        obtain ⟨q1, q2, q3, q4, q5⟩ := hF i hi
        refine ⟨(F i).2, by rw [hgi i (by rw [hln]; exact hi)]; exact q1, fun j u hj => ?_⟩
        have := q2 j u hj
        rw [hsp, addr_add] at this
        refine allG_cell ?_ (q3 u (List.mem_of_getElem? hj))
        rw [Nat.add_assoc]; exact this
set_option maxRecDepth 100000 in
theorem open_argV {H : Type} {enc : TypeId × Value → H} {w : World} {r : Reach} {b0 base : Nat} {sp : Nat → Bool} {held : Bool} {v : Value} {d : DataW H} {ps : List MemPlace} (hval : Value.okWide Tryz.prog w r b0 24 v) (hd : DataW.Trod enc Tryz.prog w base sp held 24 v d ps) :
    ∃ t : Tm, VR (allG w) (tmA t) v ∧ Fine maxLen t := by
  obtain ⟨fuel, hf⟩ := hd
  obtain ⟨t, hv, hfi⟩ := open_vr fuel _ _ hf
  have hu := Tryz.underlying24
  generalize Tryz.prog = PP at hval hu
  obtain ⟨cs, rfl⟩ := okWide_agg hu hval
  clear hu hval
  have e : (Value.agg cs).cells.toList = cs.toList := by simp only [Value.cells]
  rw [e] at hv
  refine ⟨t, ?_, hfi⟩
  simp only [tmA, VR]
  exact ⟨cs, rfl, hv⟩
/-- The last call of a law. -/
theorem law_calls {P : Program} {f : FuncId} {args : List AV} {w : World} {vs : Array Value} (h : ∀ H, ACalls P f args H fun y H' => y = .bool true ∧ H' = H) (hv : VRs (allG w) args vs.toList) :
    Calls P f vs w fun e w' => e = .returned (.bool true) ∧ Below w.heap.size w w' :=
  (h AH.empty _ _ vs w (allG_rel w) hv).mono fun e w' ⟨u, x', G', H', k1, k2, k3, k4, k5, k6⟩ => by
    subst k5
    simp only [VR] at k4
    subst k4
    exact ⟨k1, k3.below⟩
end Go.Proofs.YtcnnobcncklgfaaGreatDoor
