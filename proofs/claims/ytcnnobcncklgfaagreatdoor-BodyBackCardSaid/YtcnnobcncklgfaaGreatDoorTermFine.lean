/- A term that came in: read as data, it is a tree that the world holds, whose numbers and names may be. -/
import Derived.Test.YtcnnobcncklgfaaGreatDoorTermOpen
import Derived.Test.YtcnnobcncklgfaaGreatDoorGoodA
namespace Go.Proofs.YtcnnobcncklgfaaGreatDoor
open Go Go.ChangeShapes Go.WideShapes Go.ChangeAt Go.RowKit
set_option linter.unusedVariables false
theorem wf_i64 {n : Int} (h : (Lit.int .i64 n).wf = true) : -9223372036854775808 ≤ n ∧ n ≤ 9223372036854775807 := by
  simp [Lit.wf] at h
  have e : IntKind.i64.min = -9223372036854775808 := by decide
  rw [e] at h
  exact h
theorem name_len {s : ByteArray} (h : s.size ≤ maxLen) : s.data.toList.length ≤ maxLen := h
theorem open_fine {H : Type} {enc : TypeId × Value → H} {w : World} {base : Nat} {sp : Nat → Bool} {held : Bool} : ∀ (fuel : Nat) (cs : List Value) (x : DataW H × List MemPlace), DataW.trod enc Tryz.prog w base sp held fuel 24 cs = some x →
    ∃ (t : Tm) (sl : Value), cs = [.int .i64 t.kind, .int .i64 t.num, .string ⟨t.name.toArray⟩, sl] ∧ Holds w (fun _ => True) t (tmV t.kind t.num t.name sl) ∧ Fine maxLen t := by
  intro fuel
  induction fuel using Nat.strongRecOn with
  | _ fuel ih =>
    intro cs x h
    obtain ⟨xs, n, rfl, rfl, hl, hlen, hf⟩ := DataW.trod_struct Tryz.underlying24 h
    rw [cellsTerm] at hl
    obtain ⟨c0, c1, c2, c3, rfl⟩ := len_four hl
    obtain ⟨x0, x1, x2, x3, rfl⟩ := len_four (show xs.length = 4 from hlen)
    have q0 := hf 0 _ rfl
    have q1 := hf 1 _ rfl
    have q2 := hf 2 _ rfl
    have q3 := hf 3 _ rfl
    obtain ⟨k, e0, -, wk⟩ := DataW.trod_int Tryz.underlying3 q0
    obtain ⟨m, e1, -, wm⟩ := DataW.trod_int Tryz.underlying2 q1
    obtain ⟨s, e2, -, ws⟩ := DataW.trod_string Tryz.underlying9 q2
    replace e0 : (([c0, c1, c2, c3].drop 0).take (Tryz.prog.cellsOf 3)) = [.int .i64 k] := e0
    rw [cellsInt] at e0
    replace e1 : (([c0, c1, c2, c3].drop 1).take (Tryz.prog.cellsOf 2)) = [.int .i64 m] := e1
    rw [cellsI64] at e1
    replace e2 : (([c0, c1, c2, c3].drop 2).take (Tryz.prog.cellsOf 9)) = [.string s] := e2
    rw [cellsString] at e2
    cases e0; cases e1; cases e2
    rcases DataW.trod_slice Tryz.underlying22 q3 with ⟨e3, -⟩ | ⟨a, len, cap, elems, rest, n2, hn2, e3, -, -, hlc, hcm, hel, hall, -, -⟩
    · replace e3 : (([Value.int .i64 k, .int .i64 m, .string s, c3].drop 3).take (Tryz.prog.cellsOf 22)) = [.slice none 0 0] := e3
      rw [cellsTerms] at e3
      cases e3
      exact ⟨.mk k m s.data.toList [], _, by rw [bytes_list s]; rfl, .leaf _ _ _ _ _, .mk _ _ _ _ (wf_i64 wk) (wf_i64 wm) (name_len ws) (Nat.zero_le _) (fun x hx => by cases hx)⟩
    · replace e3 : (([Value.int .i64 k, .int .i64 m, .string s, c3].drop 3).take (Tryz.prog.cellsOf 22)) = [.slice (some a) len cap] := e3
      rw [cellsTerms] at e3
      cases e3
      have each : ∀ i, ∃ p : Tm × Value, i < len → (w.cell? (a.add (i * 4 + 0)) = some (.int .i64 p.1.kind) ∧ w.cell? (a.add (i * 4 + 1)) = some (.int .i64 p.1.num) ∧ w.cell? (a.add (i * 4 + 2)) = some (.string ⟨p.1.name.toArray⟩) ∧ w.cell? (a.add (i * 4 + 3)) = some p.2 ∧
          Holds w (fun _ => True) p.1 (tmV p.1.kind p.1.num p.1.name p.2) ∧ Fine maxLen p.1) := by
        intro i
        by_cases hi : i < len
        · have h1 := hall i hi
          have hi' : i < elems.length := by omega
          rw [List.getElem?_eq_getElem hi', cellsTerm, Option.bind_eq_some_iff] at h1
          obtain ⟨cs', hc, ht⟩ := h1
          obtain ⟨t', sl', he, hh, hfi⟩ := ih n2 (by omega) cs' _ ht
          obtain ⟨-, -, hcell⟩ := World.cells?_some hc
          subst he
          refine ⟨(t', sl'), fun _ => ⟨?_, ?_, ?_, ?_, hh, hfi⟩⟩
          · have := hcell 0 (by omega); rw [Addr.add_add] at this; exact this
          · have := hcell 1 (by omega); rw [Addr.add_add] at this; exact this
          · have := hcell 2 (by omega); rw [Addr.add_add] at this; exact this
          · have := hcell 3 (by omega); rw [Addr.add_add] at this; exact this
        · exact ⟨(.mk 0 0 [] [], .nilFunc), fun h => absurd h hi⟩
      obtain ⟨F, hF⟩ := Classical.axiomOfChoice each
      have hln : ((List.range len).map fun i => (F i).1).length = len := by simp
      have hgi : ∀ i (hi : i < ((List.range len).map fun i => (F i).1).length), ((List.range len).map fun i => (F i).1)[i] = (F i).1 := by intro i hi; simp
      refine ⟨.mk k m s.data.toList ((List.range len).map fun i => (F i).1), .slice (some a) len cap, by rw [bytes_list s]; rfl, ?_, .mk _ _ _ _ (wf_i64 wk) (wf_i64 wm) (name_len ws) (by rw [hln]; omega) (fun x hx => by
        obtain ⟨i, hi, rfl⟩ := List.mem_map.1 hx
        exact (hF i (List.mem_range.1 hi)).2.2.2.2.2)⟩
      have key := Holds.node (w := w) (X := fun _ => True) k m s.data.toList ((List.range len).map fun i => (F i).1) a cap (fun i => (F i).2) trivial (by rw [hln]; omega)
        (fun i hi => by rw [hgi i hi]; exact (hF i (by rw [hln] at hi; exact hi)).2.2.2.2.1)
        (fun i hi => by rw [hgi i hi]; exact (hF i (by rw [hln] at hi; exact hi)).1)
        (fun i hi => by rw [hgi i hi]; exact (hF i (by rw [hln] at hi; exact hi)).2.1)
        (fun i hi => by rw [hgi i hi]; exact (hF i (by rw [hln] at hi; exact hi)).2.2.1)
        (fun i hi => (hF i (by rw [hln] at hi; exact hi)).2.2.2.1)
      rw [hln] at key
      exact key
theorem okWide_agg {P : Program} {w : World} {r : Reach} {b : Nat} {t : TypeId} {v : Value} {fs : Array Field} (ht : P.underlying t = some (.struct fs)) (h : Value.okWide P w r b t v) : ∃ cs, v = .agg cs := by
  unfold Value.okWide at h
  rw [ht] at h
  obtain ⟨cs, rfl, -, -⟩ := h
  exact ⟨cs, rfl⟩
set_option maxRecDepth 100000 in
theorem open_arg {H : Type} {enc : TypeId × Value → H} {w : World} {r : Reach} {b0 base : Nat} {sp : Nat → Bool} {held : Bool} {v : Value} {d : DataW H} {ps : List MemPlace} (hval : Value.okWide Tryz.prog w r b0 24 v) (hd : DataW.Trod enc Tryz.prog w base sp held 24 v d ps) :
    ∃ t : Tm, Holds w (fun _ => True) t v ∧ Fine maxLen t := by
  obtain ⟨fuel, hf⟩ := hd
  obtain ⟨t, sl, hcs, hh, hfi⟩ := open_fine fuel _ _ hf
  have hu := Tryz.underlying24
  generalize Tryz.prog = PP at hval hu
  obtain ⟨cs, rfl⟩ := okWide_agg hu hval
  clear hu hval
  have e : (Value.agg cs).cells.toList = cs.toList := by simp only [Value.cells]
  rw [e] at hcs
  refine ⟨t, ?_, hfi⟩
  obtain rfl : cs = #[.int .i64 t.kind, .int .i64 t.num, .string ⟨t.name.toArray⟩, sl] := by cases cs; simpa using hcs
  exact hh
end Go.Proofs.YtcnnobcncklgfaaGreatDoor
