/- term.List stands in by its walk. -/
import Derived.Test.YtcnnobcncklgfaaGreatDoorListW3
namespace Go.Proofs.YtcnnobcncklgfaaGreatDoor
open Go Go.RowKit Go.Shelf Go.Abs
set_option linter.unusedVariables false
def isSl : AV → Bool
  | .nils | .zslc | .slc .. | .vals .. => true
  | _ => false
theorem isSl_ok {G : Gh} {y : AV} {u : Value} (h : isSl y = true) (hv : VR G y u) : ∃ a l c, u = .slice a l c := by
  unfold isSl at h
  split at h
  · simp only [VR] at hv; exact ⟨_, _, _, hv⟩
  · simp only [VR] at hv; obtain ⟨a, rfl⟩ := hv; exact ⟨_, _, _, rfl⟩
  · simp only [VR] at hv; obtain ⟨b, o, n, cap, _, rfl, _⟩ := hv; exact ⟨_, _, _, rfl⟩
  · simp only [VR] at hv; obtain ⟨a, cap, rfl, _⟩ := hv; exact ⟨_, _, _, rfl⟩
  · cases h
def tRow : List AV → Bool
  | [.int .i64 _, .int .i64 _, .str _, y] => isSl y
  | _ => false
theorem tRow_ok {G : Gh} {r : List AV} {us : List Value} (h : tRow r = true) (hv : VRs G r us) : ∃ i0 i1 s a l c, us = tc4 i0 i1 s a l c := by
  unfold tRow at h
  split at h
  · rename_i i0 i1 s y
    simp only [VRs, VR] at hv
    obtain ⟨_, _, rfl, rfl, _, _, rfl, rfl, _, _, rfl, rfl, u, _, rfl, h1, rfl⟩ := hv
    obtain ⟨a, l, c, rfl⟩ := isSl_ok h h1
    exact ⟨_, _, _, _, _, _, rfl⟩
  · cases h
def row4 (cs : List AV) (j : Nat) : List AV := (cs.drop (j * 4)).take 4
def listH (args : List AV) (H : AH) : Option (AV × AH) :=
  match args with
  | [s, .agg tc] => match listCells H 4 s with
    | some (m, cs) => if m ≠ 0 ∧ m ≤ 1000 ∧ tRow tc = true ∧ ((List.range m).all fun j => tRow (row4 cs j)) = true then some (.agg (listA (row4 cs) ((List.range m).map fun j => m - 1 - j) tc), H) else none
    | none => none
  | _ => none
theorem downs_fst (m : Nat) (hl : 0 < m) : (downs m hl m).map (·.1) = (List.range m).map fun j => m - 1 - j := by
  unfold downs
  rw [List.map_map]
  rfl
set_option maxHeartbeats 1000000 in
theorem list_one : HookOne Tryz.prog 143 listH := by
  refine ⟨by decide +kernel, fun args H x H' h => ?_, fun args H x H' h => ?_⟩
  · unfold listH at h
    split at h
    · rename_i s tc
      split at h
      · rename_i m cs hcs
        split at h
        · rename_i hc
          obtain ⟨hm0, hm, htr, hrows⟩ := hc
          cases h
          intro K G vs w hr hv
          obtain ⟨u, v, hu, h1, h2⟩ := hv.two
          simp only [VR] at h2
          obtain ⟨us, rfl, h2⟩ := h2
          obtain ⟨t0, t1, t2, t3, t4, t5, ht⟩ := tRow_ok htr h2
          obtain rfl : us = #[.int .i64 t0, .int .i64 t1, .string t2, .slice t3 t4 t5] := by cases us; simpa [tc4] using ht
          obtain ⟨a, c, rfl, hmc, hlen, h0 | ⟨b, o, rfl, hin⟩⟩ := listCells_ok hr h1 hcs
          · exact absurd h0 hm0
          obtain rfl : vs = #[.slice (some ⟨b, o, none⟩) m c, .agg #[.int .i64 t0, .int .i64 t1, .string t2, .slice t3 t4 t5]] := by cases vs; simpa using hu
          have hex : ∀ j : Nat, ∃ p : Int × Int × ByteArray × Option Addr × Nat × Nat, j < m → VRs G (row4 cs j) (tc4 p.1 p.2.1 p.2.2.1 p.2.2.2.1 p.2.2.2.2.1 p.2.2.2.2.2) ∧
              w.cell? ⟨b, o + j * 4, none⟩ = some (.int .i64 p.1) ∧ w.cell? ⟨b, o + j * 4 + 1, none⟩ = some (.int .i64 p.2.1) ∧ w.cell? ⟨b, o + j * 4 + 2, none⟩ = some (.string p.2.2.1) ∧ w.cell? ⟨b, o + j * 4 + 3, none⟩ = some (.slice p.2.2.2.1 p.2.2.2.2.1 p.2.2.2.2.2) := by
            intro j
            by_cases hj : j < m
            · have hin' : CellsIn G w (row4 cs j) b (o + j * 4) := by
                intro i x hx
                unfold row4 at hx
                rw [List.getElem?_take] at hx
                split at hx
                · rw [List.getElem?_drop] at hx
                  obtain ⟨u, q1, q2, q3⟩ := hin _ _ hx
                  exact ⟨u, by rw [← q1]; congr 2; omega, q2, q3⟩
                · cases hx
              obtain ⟨us, q1, q2, q3⟩ := hin'.list
              obtain ⟨i0, i1, s, a, l, c, rfl⟩ := tRow_ok (List.all_eq_true.1 hrows j (List.mem_range.2 hj)) q1
              exact ⟨(i0, i1, s, a, l, c), fun _ => ⟨q1, q2 0 _ rfl, q2 1 _ rfl, q2 2 _ rfl, q2 3 _ rfl⟩⟩
            · exact ⟨(0, 0, ⟨#[]⟩, none, 0, 0), fun h => absurd h hj⟩
          obtain ⟨p, hp⟩ := Classical.axiomOfChoice hex
          have hm1 : 0 < m := by omega
          have hb : b < w.heap.size := by
            have := World.block_lt_of_cell? w _ (hp 0 hm1).2.1
            exact this
          refine (list_walk G b o m c (fun j => (p j).1) (fun j => (p j).2.1) (fun j => (p j).2.2.1) (fun j => (p j).2.2.2.1) (fun j => (p j).2.2.2.2.1) (fun j => (p j).2.2.2.2.2) t0 t1 t2 t3 t4 t5 (row4 cs) tc hm1 (by omega) w hb
            (fun j hj => (hp j hj).2) (fun j hj => (hp j hj).1) (fun b o v hv => cell_lt (hr.mem b o v hv)) h2).mono ?_
          rintro e w' ⟨u0, u1, u2, u3, u4, u5, rfl, hB, hV⟩
          refine ⟨_, _, newG G w.heap.size w', H, rfl, newG_le hr, newG_rel hr hB, ?_, rfl, rfl⟩
          rw [downs_fst] at hV
          simp only [VR]
          exact ⟨_, rfl, hV⟩
        · cases h
      · cases h
    · cases h
  · unfold listH at h
    split at h
    · rename_i s tc
      split at h
      · rename_i m cs hcs
        split at h
        · rename_i hc
          cases h
          exact FrameR.same fun R H2 he ha => by
            simp only [listH, listCells_ext he ha hcs]
            rw [if_pos hc]
        · cases h
      · cases h
    · cases h
end Go.Proofs.YtcnnobcncklgfaaGreatDoor
