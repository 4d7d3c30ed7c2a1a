/- A term that came in: read as data, it is a tree that the world holds. -/
import Derived.Test.YtcnnobcncklgfaaGreatDoorTermA
import Derived.Lib.SmallJoins
import Derived.ChangeSlices
import Derived.ChangeSame
namespace Go.Proofs.YtcnnobcncklgfaaGreatDoor
open Go Go.ChangeShapes Go.WideShapes Go.ChangeAt Go.RowKit
set_option linter.unusedVariables false
theorem cellsTerm : Tryz.prog.cellsOf 24 = 4 := by kernel_rfl
theorem cellsInt : Tryz.prog.cellsOf 3 = 1 := by kernel_rfl
theorem cellsI64 : Tryz.prog.cellsOf 2 = 1 := by kernel_rfl
theorem cellsString : Tryz.prog.cellsOf 9 = 1 := by kernel_rfl
theorem cellsTerms : Tryz.prog.cellsOf 22 = 1 := by kernel_rfl
theorem len_four {α : Type} {l : List α} (h : l.length = 4) : ∃ a b c d, l = [a, b, c, d] := by
  match l, h with
  | [a, b, c, d], _ => exact ⟨a, b, c, d, rfl⟩
theorem bytes_list (s : ByteArray) : s = ⟨s.data.toList.toArray⟩ := by simp
theorem open_term {H : Type} {enc : TypeId × Value → H} {w : World} {base : Nat} {sp : Nat → Bool} {held : Bool} : ∀ (fuel : Nat) (cs : List Value) (x : DataW H × List MemPlace), DataW.trod enc Tryz.prog w base sp held fuel 24 cs = some x →
    ∃ (t : Tm) (sl : Value), cs = [.int .i64 t.kind, .int .i64 t.num, .string ⟨t.name.toArray⟩, sl] ∧ Holds w (fun _ => True) t (tmV t.kind t.num t.name sl) := by
  intro fuel
  induction fuel using Nat.strongRecOn with
  | _ fuel ih =>
    intro cs x h
    obtain ⟨xs, n, rfl, rfl, hl, hlen, hf⟩ := DataW.trod_struct Tryz.underlying24 h
    rw [cellsTerm] at hl
    obtain ⟨c0, c1, c2, c3, rfl⟩ := len_four hl
    obtain ⟨x0, x1, x2, x3, rfl⟩ := len_four (show xs.length = 4 from hlen)
    have q0 := hf 0 _ rfl
    have q1 := hf 1 _ rfl
    have q2 := hf 2 _ rfl
    have q3 := hf 3 _ rfl
    obtain ⟨k, e0, -, -⟩ := DataW.trod_int Tryz.underlying3 q0
    obtain ⟨m, e1, -, -⟩ := DataW.trod_int Tryz.underlying2 q1
    obtain ⟨s, e2, -, -⟩ := DataW.trod_string Tryz.underlying9 q2
    replace e0 : (([c0, c1, c2, c3].drop 0).take (Tryz.prog.cellsOf 3)) = [.int .i64 k] := e0
    rw [cellsInt] at e0
    replace e1 : (([c0, c1, c2, c3].drop 1).take (Tryz.prog.cellsOf 2)) = [.int .i64 m] := e1
    rw [cellsI64] at e1
    replace e2 : (([c0, c1, c2, c3].drop 2).take (Tryz.prog.cellsOf 9)) = [.string s] := e2
    rw [cellsString] at e2
    cases e0; cases e1; cases e2
    rcases DataW.trod_slice Tryz.underlying22 q3 with ⟨e3, -⟩ | ⟨a, len, cap, elems, rest, n2, hn2, e3, -, -, hlc, hcm, hel, hall, -, -⟩
    · replace e3 : (([Value.int .i64 k, .int .i64 m, .string s, c3].drop 3).take (Tryz.prog.cellsOf 22)) = [.slice none 0 0] := e3
      rw [cellsTerms] at e3
      cases e3
      exact ⟨.mk k m s.data.toList [], _, by rw [bytes_list s]; rfl, .leaf _ _ _ _ _⟩
    · replace e3 : (([Value.int .i64 k, .int .i64 m, .string s, c3].drop 3).take (Tryz.prog.cellsOf 22)) = [.slice (some a) len cap] := e3
      rw [cellsTerms] at e3
      cases e3
      have each : ∀ i, ∃ p : Tm × Value, i < len → (w.cell? (a.add (i * 4 + 0)) = some (.int .i64 p.1.kind) ∧ w.cell? (a.add (i * 4 + 1)) = some (.int .i64 p.1.num) ∧ w.cell? (a.add (i * 4 + 2)) = some (.string ⟨p.1.name.toArray⟩) ∧ w.cell? (a.add (i * 4 + 3)) = some p.2 ∧
          Holds w (fun _ => True) p.1 (tmV p.1.kind p.1.num p.1.name p.2)) := by
        intro i
        by_cases hi : i < len
        · have h1 := hall i hi
          have hi' : i < elems.length := by omega
          rw [List.getElem?_eq_getElem hi', cellsTerm, Option.bind_eq_some_iff] at h1
          obtain ⟨cs', hc, ht⟩ := h1
          obtain ⟨t', sl', he, hh⟩ := ih n2 (by omega) cs' _ ht
          obtain ⟨-, -, hcell⟩ := World.cells?_some hc
          subst he
          refine ⟨(t', sl'), fun _ => ⟨?_, ?_, ?_, ?_, hh⟩⟩
          · have := hcell 0 (by omega); rw [Addr.add_add] at this; exact this
          · have := hcell 1 (by omega); rw [Addr.add_add] at this; exact this
          · have := hcell 2 (by omega); rw [Addr.add_add] at this; exact this
          · have := hcell 3 (by omega); rw [Addr.add_add] at this; exact this
        · exact ⟨(.mk 0 0 [] [], .nilFunc), fun h => absurd h hi⟩
      obtain ⟨F, hF⟩ := Classical.axiomOfChoice each
      have hln : ((List.range len).map fun i => (F i).1).length = len := by simp
      have hgi : ∀ i (hi : i < ((List.range len).map fun i => (F i).1).length), ((List.range len).map fun i => (F i).1)[i] = (F i).1 := by intro i hi; simp
      refine ⟨.mk k m s.data.toList ((List.range len).map fun i => (F i).1), .slice (some a) len cap, by rw [bytes_list s]; rfl, ?_⟩
      have key := Holds.node (w := w) (X := fun _ => True) k m s.data.toList ((List.range len).map fun i => (F i).1) a cap (fun i => (F i).2) trivial (by rw [hln]; omega)
        (fun i hi => by rw [hgi i hi]; exact (hF i (by rw [hln] at hi; exact hi)).2.2.2.2)
        (fun i hi => by rw [hgi i hi]; exact (hF i (by rw [hln] at hi; exact hi)).1)
        (fun i hi => by rw [hgi i hi]; exact (hF i (by rw [hln] at hi; exact hi)).2.1)
        (fun i hi => by rw [hgi i hi]; exact (hF i (by rw [hln] at hi; exact hi)).2.2.1)
        (fun i hi => (hF i (by rw [hln] at hi; exact hi)).2.2.2.1)
      rw [hln] at key
      exact key
end Go.Proofs.YtcnnobcncklgfaaGreatDoor
