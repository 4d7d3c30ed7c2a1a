/- slices.Backward of a slice of terms: its closure, round by round. -/
import Derived.RangeFuncNested
import Derived.RangeFuncBound
import Derived.RangeFuncCalls
import Derived.RangeFuncLeaves
import Derived.RangeFuncBox
import Derived.Shelf.Abstract
import Derived.Shelf.RegionOpen
import Derived.WalkKit
import Derived.OwnWalkIn
import Derived.TacticsInMore
import Derived.LoopNIn
import Derived.LoopIn
import Derived.Test.YtcnnobcncklgfaaGreatDoorProg
import Derived.Test.YtcnnobcncklgfaaGreatDoorAbsL
namespace Go.Proofs.YtcnnobcncklgfaaGreatDoor
open Go Go.RowKit Go.Shelf
set_option linter.unusedVariables false
attribute [local go_sem] Oper.semAt_some
set_option maxHeartbeats 1000000 in
theorem backward_in (F : Fence) (n : Nat) (h : F.fn 158) (hro : F.round = none) (a : Option Addr) (len cap : Nat) (w : World) :
    CallsIn F n Tryz.prog 158 #[.slice a len cap] w fun e w' => e = .returned (.func (.func 169) #[] #[.pointer (some ⟨w.heap.size, 0, none⟩)]) ∧ w' = w.alloc (.cells #[.slice a len cap] 22) := by
  refine callsIn_of_wp Tryz.func158 rfl h ?_ hro
  simp only [Tryz.ntmps158, List.size_toArray, List.length_cons, List.length_nil, Nat.reduceAdd, Nat.reduceSub, Array.replicate_succ, Array.replicate_zero, List.push_toArray, List.append_toArray, List.nil_append, List.cons_append]
  gi_wp2
  go_ret
  exact ⟨rfl, rfl⟩
/-- Two blocks stay as they are. -/
def KB (b Bs : Nat) (W W' : World) : Prop := W'.heap[b]? = W.heap[b]? ∧ W'.heap[Bs]? = W.heap[Bs]?
theorem KB.trans {b Bs : Nat} {A B C : World} (h : KB b Bs A B) (k : KB b Bs B C) : KB b Bs A C := ⟨k.1.trans h.1, k.2.trans h.2⟩
abbrev Ix (len : Nat) := { i : Nat // i < len }
def down (len : Nat) (h : 0 < len) (j : Nat) : Ix len := ⟨len - 1 - j, by omega⟩
def downs (len : Nat) (h : 0 < len) (k : Nat) : List (Ix len) := (List.range k).map (down len h)
theorem downs_succ (len : Nat) (h : 0 < len) (k : Nat) : downs len h (k + 1) = downs len h k ++ [down len h k] := by simp [downs, List.range_succ]
theorem downs_length (len : Nat) (h : 0 < len) (k : Nat) : (downs len h k).length = k := by simp [downs]
set_option maxRecDepth 100000 in
set_option maxHeartbeats 4000000 in
theorem backward1_in (F : Fence) (n : Nat) (h : F.fn 169) (hro : F.round = none) (hn : 1 ≤ n) (l Bs b off len cap : Nat) (k0 k1 k2 k3 : Nat → Value) (hl : 0 < len) (hreach : len * 56 ≤ 140737488351232) (J Jx : List (Ix len) → World → Prop)
    (hY : ∀ pre (x : Ix len) W, J pre W → pre.length < len → YieldAt F (n - 1) Tryz.prog l #[.int .i64 (x.1 : Int), .agg #[k0 x.1, k1 x.1, k2 x.1, k3 x.1]] W fun e W' =>
      (e = .returned (.bool true) ∧ J (pre ++ [x]) W' ∧ KB b Bs W W') ∨ (e = .returned (.bool false) ∧ Jx (pre ++ [x]) W'))
    (W : World) (hBs : W.cell? ⟨Bs, 0, none⟩ = some (.slice (some ⟨b, off, none⟩) len cap))
    (hc : ∀ j, j < len → W.cell? ⟨b, off + j * 4, none⟩ = some (k0 j) ∧ W.cell? ⟨b, off + j * 4 + 1, none⟩ = some (k1 j) ∧ W.cell? ⟨b, off + j * 4 + 2, none⟩ = some (k2 j) ∧ W.cell? ⟨b, off + j * 4 + 3, none⟩ = some (k3 j)) (h0 : J [] W) :
    CallsIn F n Tryz.prog 169 #[.func (.yield l) #[] #[], .pointer (some ⟨Bs, 0, none⟩)] W fun e W' => (∃ v, e = .returned v) ∧
      (J (downs len hl len) W' ∨ (∃ k, k ≤ len ∧ Jx (downs len hl k) W')) := by
  refine callsIn_of_wp Tryz.func169 rfl h ?_ hro
  simp only [Tryz.ntmps169, List.size_toArray, List.length_cons, List.length_nil, Nat.reduceAdd, Nat.reduceSub, Array.replicate_succ, Array.replicate_zero, List.push_toArray, List.append_toArray, List.nil_append, List.cons_append]
  have e1 : IntKind.i64.wrap ((len : Int) - 1) = ((len - 1 : Nat) : Int) := by
    rw [IntWalk.i64_in _ (by omega)]; omega
  gi_wp2
  gi_loopw [3] (fun i wr => ∃ k : Nat, k ≤ len ∧ i = .int .i64 ((len : Int) - 1 - k) ∧ J (downs len hl k) wr ∧ KB b Bs W wr)
    (fun i _ => (intOf i + 1).toNat)
  case atStart => exact ⟨0, Nat.zero_le _, by simp; omega, h0, rfl, rfl⟩
  case round =>
    obtain ⟨k, hk, rfl, hJs, hnx⟩ := hrel
    by_cases hlt : k < len
    · obtain ⟨fn, tmps, assign, body, hy, hR⟩ := hY _ (down len hl k) wr hJs (by rw [downs_length]; exact hlt)
      dsimp only [down] at hy
      have hi : ((len - 1 - k : Nat) : Int) = (len : Int) - 1 - k := by omega
      rw [hi] at hy
      have hBx := (World.cell?_of_block (a := ⟨Bs, 0, none⟩) hnx.2).trans hBs
      obtain ⟨c0, c1, c2, c3⟩ := hc (len - 1 - k) (by omega)
      have d0 := (World.cell?_of_block (a := ⟨b, off + (len - 1 - k) * 4, none⟩) hnx.1).trans c0
      have d1 := (World.cell?_of_block (a := ⟨b, off + (len - 1 - k) * 4 + 1, none⟩) hnx.1).trans c1
      have d2 := (World.cell?_of_block (a := ⟨b, off + (len - 1 - k) * 4 + 2, none⟩) hnx.1).trans c2
      have d3 := (World.cell?_of_block (a := ⟨b, off + (len - 1 - k) * 4 + 3, none⟩) hnx.1).trans c3
      gi_wp2
      refine hR.mono ?_
      rintro e W3 (⟨rfl, hJ3, hk3⟩ | ⟨rfl, hJx3⟩)
      · gi_wp2
        go_roundw
        case rel => exact ⟨k + 1, by omega, by first | (simp; omega) | (congr 1; omega), by rw [downs_succ]; exact hJ3, hnx.trans hk3⟩
        case measure => simp [intOf]; omega
      · gi_wp2
        refine bodyPost_ret (results_none rfl _ _ _) rfl ?_
        exact ⟨⟨_, rfl⟩, .inr ⟨k + 1, by omega, by rw [downs_succ]; exact hJx3⟩⟩
    · obtain rfl : k = len := by omega
      gi_wp2
      go_end0
      exact ⟨⟨_, rfl⟩, .inl hJs⟩
theorem backward_stops (F : Fence) (n : Nat) (h : F.fn 169) (hro : F.round = none) (hn : 1 ≤ n) (Bs b off len cap : Nat) (k0 k1 k2 k3 : Nat → Value) (hl : 0 < len) (hreach : len * 56 ≤ 140737488351232) (w : World) (hB : Bs < w.heap.size) (hb : b < w.heap.size)
    (hBs : w.cell? ⟨Bs, 0, none⟩ = some (.slice (some ⟨b, off, none⟩) len cap))
    (hc : ∀ j, j < len → w.cell? ⟨b, off + j * 4, none⟩ = some (k0 j) ∧ w.cell? ⟨b, off + j * 4 + 1, none⟩ = some (k1 j) ∧ w.cell? ⟨b, off + j * 4 + 2, none⟩ = some (k2 j) ∧ w.cell? ⟨b, off + j * 4 + 3, none⟩ = some (k3 j)) :
    SeqStopsK F n Tryz.prog 169 #[.pointer (some ⟨Bs, 0, none⟩)] (fun x : Ix len => #[Value.int .i64 (x.1 : Int), .agg #[k0 x.1, k1 x.1, k2 x.1, k3 x.1]]) (KB b Bs) (fun ys => ys = downs len hl len) (fun pre => ∃ k, k ≤ len ∧ pre = downs len hl k) len w := fun l J Jx W hW _ _ hY h0 => by
  refine (backward1_in F n h hro hn l Bs b off len cap k0 k1 k2 k3 hl hreach J Jx hY W ((hW.cell (p := ⟨Bs, 0, none⟩) hB).trans hBs) (fun j hj => ?_) h0).mono ?_
  · obtain ⟨c0, c1, c2, c3⟩ := hc j hj
    exact ⟨(hW.cell (p := ⟨b, off + j * 4, none⟩) hb).trans c0, (hW.cell (p := ⟨b, off + j * 4 + 1, none⟩) hb).trans c1, (hW.cell (p := ⟨b, off + j * 4 + 2, none⟩) hb).trans c2, (hW.cell (p := ⟨b, off + j * 4 + 3, none⟩) hb).trans c3⟩
  · rintro e W' ⟨he, hj | ⟨k, hk, hj⟩⟩
    · exact ⟨he, .inl ⟨_, rfl, hj⟩⟩
    · exact ⟨he, .inr ⟨_, ⟨k, hk, rfl⟩, hj⟩⟩
end Go.Proofs.YtcnnobcncklgfaaGreatDoor
