/- slices.Backward of a slice of terms: its closure, round by round.   term.Comp of cells; term.List.   term.List: its walk.   term.List stands in by its walk. -/
import Derived.RangeFuncNested
import Derived.RangeFuncBound
import Derived.RangeFuncCalls
import Derived.RangeFuncLeaves
import Derived.RangeFuncBox
import Derived.Shelf.Abstract
import Derived.Shelf.RegionOpen
import Derived.WalkKit
import Derived.OwnWalkIn
import Derived.TacticsInMore
import Derived.LoopNIn
import Derived.LoopIn
import Derived.Test.YtfbhoomfhjlbiaaGreatDoorProg
import Derived.Test.YtfbhoomfhjlbiaaGreatDoorAbsL
import Derived.Test.YtfbhoomfhjlbiaaGreatDoorTermA
namespace Go.Proofs.YtfbhoomfhjlbiaaGreatDoor
open Go Go.RowKit Go.Shelf
set_option linter.unusedVariables false
attribute [local go_sem] Oper.semAt_some
set_option maxHeartbeats 1000000 in
theorem backward_in (F : Fence) (n : Nat) (h : F.fn 90) (hro : F.round = none) (a : Option Addr) (len cap : Nat) (w : World) :
    CallsIn F n Tryz.prog 90 #[.slice a len cap] w fun e w' => e = .returned (.func (.func 136) #[] #[.pointer (some ⟨w.heap.size, 0, none⟩)]) ∧ w' = w.alloc (.cells #[.slice a len cap] 27) := by
  refine callsIn_of_wp Tryz.func90 rfl h ?_ hro
  simp only [Tryz.ntmps90, List.size_toArray, List.length_cons, List.length_nil, Nat.reduceAdd, Nat.reduceSub, Array.replicate_succ, Array.replicate_zero, List.push_toArray, List.append_toArray, List.nil_append, List.cons_append]
  gi_wp2
  go_ret
  exact ⟨rfl, rfl⟩
/-- Two blocks stay as they are. -/
def KB (b Bs : Nat) (W W' : World) : Prop := W'.heap[b]? = W.heap[b]? ∧ W'.heap[Bs]? = W.heap[Bs]?
theorem KB.trans {b Bs : Nat} {A B C : World} (h : KB b Bs A B) (k : KB b Bs B C) : KB b Bs A C := ⟨k.1.trans h.1, k.2.trans h.2⟩
abbrev Ix (len : Nat) := { i : Nat // i < len }
def down (len : Nat) (h : 0 < len) (j : Nat) : Ix len := ⟨len - 1 - j, by omega⟩
def downs (len : Nat) (h : 0 < len) (k : Nat) : List (Ix len) := (List.range k).map (down len h)
theorem downs_succ (len : Nat) (h : 0 < len) (k : Nat) : downs len h (k + 1) = downs len h k ++ [down len h k] := by simp [downs, List.range_succ]
theorem downs_length (len : Nat) (h : 0 < len) (k : Nat) : (downs len h k).length = k := by simp [downs]
set_option maxRecDepth 100000 in
set_option maxHeartbeats 4000000 in
theorem backward1_in (F : Fence) (n : Nat) (h : F.fn 136) (hro : F.round = none) (hn : 1 ≤ n) (l Bs b off len cap : Nat) (k0 k1 k2 k3 : Nat → Value) (hl : 0 < len) (hreach : len * 56 ≤ 140737488351232) (J Jx : List (Ix len) → World → Prop)
    (hY : ∀ pre (x : Ix len) W, J pre W → pre.length < len → YieldAt F (n - 1) Tryz.prog l #[.int .i64 (x.1 : Int), .agg #[k0 x.1, k1 x.1, k2 x.1, k3 x.1]] W fun e W' =>
      (e = .returned (.bool true) ∧ J (pre ++ [x]) W' ∧ KB b Bs W W') ∨ (e = .returned (.bool false) ∧ Jx (pre ++ [x]) W'))
    (W : World) (hBs : W.cell? ⟨Bs, 0, none⟩ = some (.slice (some ⟨b, off, none⟩) len cap))
    (hc : ∀ j, j < len → W.cell? ⟨b, off + j * 4, none⟩ = some (k0 j) ∧ W.cell? ⟨b, off + j * 4 + 1, none⟩ = some (k1 j) ∧ W.cell? ⟨b, off + j * 4 + 2, none⟩ = some (k2 j) ∧ W.cell? ⟨b, off + j * 4 + 3, none⟩ = some (k3 j)) (h0 : J [] W) :
    CallsIn F n Tryz.prog 136 #[.func (.yield l) #[] #[], .pointer (some ⟨Bs, 0, none⟩)] W fun e W' => (∃ v, e = .returned v) ∧
      (J (downs len hl len) W' ∨ (∃ k, k ≤ len ∧ Jx (downs len hl k) W')) := by
  refine callsIn_of_wp Tryz.func136 rfl h ?_ hro
  simp only [Tryz.ntmps136, List.size_toArray, List.length_cons, List.length_nil, Nat.reduceAdd, Nat.reduceSub, Array.replicate_succ, Array.replicate_zero, List.push_toArray, List.append_toArray, List.nil_append, List.cons_append]
  have e1 : IntKind.i64.wrap ((len : Int) - 1) = ((len - 1 : Nat) : Int) := by
    rw [IntWalk.i64_in _ (by omega)]; omega
  gi_wp2
  gi_loopw [3] (fun i wr => ∃ k : Nat, k ≤ len ∧ i = .int .i64 ((len : Int) - 1 - k) ∧ J (downs len hl k) wr ∧ KB b Bs W wr)
    (fun i _ => (intOf i + 1).toNat)
  case atStart => exact ⟨0, Nat.zero_le _, by simp; omega, h0, rfl, rfl⟩
  case round =>
    obtain ⟨k, hk, rfl, hJs, hnx⟩ := hrel
    by_cases hlt : k < len
    · obtain ⟨fn, tmps, assign, body, hy, hR⟩ := hY _ (down len hl k) wr hJs (by rw [downs_length]; exact hlt)
      dsimp only [down] at hy
      have hi : ((len - 1 - k : Nat) : Int) = (len : Int) - 1 - k := by omega
      rw [hi] at hy
      have hBx := (World.cell?_of_block (a := ⟨Bs, 0, none⟩) hnx.2).trans hBs
      obtain ⟨c0, c1, c2, c3⟩ := hc (len - 1 - k) (by omega)
      have d0 := (World.cell?_of_block (a := ⟨b, off + (len - 1 - k) * 4, none⟩) hnx.1).trans c0
      have d1 := (World.cell?_of_block (a := ⟨b, off + (len - 1 - k) * 4 + 1, none⟩) hnx.1).trans c1
      have d2 := (World.cell?_of_block (a := ⟨b, off + (len - 1 - k) * 4 + 2, none⟩) hnx.1).trans c2
      have d3 := (World.cell?_of_block (a := ⟨b, off + (len - 1 - k) * 4 + 3, none⟩) hnx.1).trans c3
      gi_wp2
      refine hR.mono ?_
      rintro e W3 (⟨rfl, hJ3, hk3⟩ | ⟨rfl, hJx3⟩)
      · gi_wp2
        go_roundw
        case rel => exact ⟨k + 1, by omega, by first | (simp; omega) | (congr 1; omega), by rw [downs_succ]; exact hJ3, hnx.trans hk3⟩
        case measure => simp [intOf]; omega
      · gi_wp2
        refine bodyPost_ret (results_none rfl _ _ _) rfl ?_
        exact ⟨⟨_, rfl⟩, .inr ⟨k + 1, by omega, by rw [downs_succ]; exact hJx3⟩⟩
    · obtain rfl : k = len := by omega
      gi_wp2
      go_end0
      exact ⟨⟨_, rfl⟩, .inl hJs⟩
theorem backward_stops (F : Fence) (n : Nat) (h : F.fn 136) (hro : F.round = none) (hn : 1 ≤ n) (Bs b off len cap : Nat) (k0 k1 k2 k3 : Nat → Value) (hl : 0 < len) (hreach : len * 56 ≤ 140737488351232) (w : World) (hB : Bs < w.heap.size) (hb : b < w.heap.size)
    (hBs : w.cell? ⟨Bs, 0, none⟩ = some (.slice (some ⟨b, off, none⟩) len cap))
    (hc : ∀ j, j < len → w.cell? ⟨b, off + j * 4, none⟩ = some (k0 j) ∧ w.cell? ⟨b, off + j * 4 + 1, none⟩ = some (k1 j) ∧ w.cell? ⟨b, off + j * 4 + 2, none⟩ = some (k2 j) ∧ w.cell? ⟨b, off + j * 4 + 3, none⟩ = some (k3 j)) :
    SeqStopsK F n Tryz.prog 136 #[.pointer (some ⟨Bs, 0, none⟩)] (fun x : Ix len => #[Value.int .i64 (x.1 : Int), .agg #[k0 x.1, k1 x.1, k2 x.1, k3 x.1]]) (KB b Bs) (fun ys => ys = downs len hl len) (fun pre => ∃ k, k ≤ len ∧ pre = downs len hl k) len w := fun l J Jx W hW _ _ hY h0 => by
  refine (backward1_in F n h hro hn l Bs b off len cap k0 k1 k2 k3 hl hreach J Jx hY W ((hW.cell (p := ⟨Bs, 0, none⟩) hB).trans hBs) (fun j hj => ?_) h0).mono ?_
  · obtain ⟨c0, c1, c2, c3⟩ := hc j hj
    exact ⟨(hW.cell (p := ⟨b, off + j * 4, none⟩) hb).trans c0, (hW.cell (p := ⟨b, off + j * 4 + 1, none⟩) hb).trans c1, (hW.cell (p := ⟨b, off + j * 4 + 2, none⟩) hb).trans c2, (hW.cell (p := ⟨b, off + j * 4 + 3, none⟩) hb).trans c3⟩
  · rintro e W' ⟨he, hj | ⟨k, hk, hj⟩⟩
    · exact ⟨he, .inl ⟨_, rfl, hj⟩⟩
    · exact ⟨he, .inr ⟨_, ⟨k, hk, rfl⟩, hj⟩⟩
end Go.Proofs.YtfbhoomfhjlbiaaGreatDoor
namespace Go.Proofs.YtfbhoomfhjlbiaaGreatDoor
open Go Go.RowKit Go.Shelf
set_option linter.unusedVariables false
theorem ownsRow_lower {w : World} {base base' : Nat} {e : TypeId} {size : Nat} {v : Value} {n : Nat} {xs : List Value} (hb : base' ≤ base) (h : w.ownsRow base e size v n xs) : w.ownsRow base' e size v n xs := by
  obtain ⟨h1, h2 | ⟨g, cap, cur, rfl, h3, h4⟩⟩ := h
  · exact ⟨h1, .inl h2⟩
  · exact ⟨h1, .inr ⟨g, cap, cur, rfl, Nat.le_trans hb h3, h4⟩⟩
set_option maxRecDepth 100000 in
theorem comp_raw (name : ByteArray) (a : Addr) (n c : Nat) (news : List Value) (w : World) (hl : news.length = n * 4) (hc : ∀ j u, news[j]? = some u → w.cell? (a.add j) = some u) (h1 : ∀ u ∈ news, u.oneCell' = true) (hlen : n ≤ 1000000000) :
    Calls Tryz.prog 12 #[.string name, .slice (some a) n c] w fun e w' => ∃ sl, e = .returned (.agg #[.int .i64 2, .int .i64 0, .string name, sl]) ∧ Below w.heap.size w w' ∧ w'.ownsRow w.heap.size 29 4 sl n news := by
  have hk : ∀ j u, news[j]? = some u → (w.alloc (.cells #[.int .i64 0, .int .i64 0, .string ⟨#[]⟩, .slice none 0 0] 29)).cell? (a.add j) = some u := fun j u hu => (World.cell?_alloc_lt _ _ _ (World.block_lt_of_cell? w _ (hc j u hu))).trans (hc j u hu)
  have HC := Lib.hid hk; have HL := Lib.hid hl; have H1 := Lib.hid h1; clear hk hc hl h1
  have htok : Blk (w.alloc (.cells #[.int .i64 0, .int .i64 0, .string ⟨#[]⟩, .slice none 0 0] 29)) w.heap.size #[.int .i64 0, .int .i64 0, .string ⟨#[]⟩, .slice none 0 0] 29 := Blk.new _ _ _
  go_enter Tryz.func12, Tryz.ntmps12
  go_wp2_with fail
  refine (clone_some a n c news _ HL.out HC.out H1.out hlen).mono ?_; rintro e w1 ⟨sl, rfl, hown, hb⟩
  obtain ⟨oa, oc, rfl⟩ := own_shapeT hown
  have HO := Lib.hid hown; clear hown
  have hblk := htok.keep hb
  obtain ⟨t0, t1, t2, t3, z0, z1, z2, z3, ltt⟩ := hblk.fourT
  go_wp2
  (try simp only [Exit.inBlock, Exit.then]); refine bodyPost_ret (res_row rfl _ w.heap.size rfl _ _ _ _ _ ((((hblk.store 0 _).store 1 _).store 2 _).store 3 _)) rfl ?_
  refine ⟨_, rfl, ?_, ?_⟩
  · exact Below.setCell (Below.setCell (Below.setCell (Below.setCell (bcall (Below.alloc (Below.refl _ _) (Nat.le_refl _) _) hb) (Nat.le_refl _) _) (Nat.le_refl _) _) (Nat.le_refl _) _) (Nat.le_refl _) _
  · have h0 : (w.alloc (.cells #[.int .i64 0, .int .i64 0, .string ⟨#[]⟩, .slice none 0 0] 29)).heap.size = w.heap.size + 1 := by simp
    refine ownsRow_lower (show w.heap.size ≤ w.heap.size + 1 from Nat.le_succ _) ?_
    rw [← h0]
    exact ownsRow_setCell_below (ownsRow_setCell_below (ownsRow_setCell_below (ownsRow_setCell_below HO.out (by rw [h0]; exact Nat.lt_succ_self _) _) (by rw [h0]; exact Nat.lt_succ_self _) _) (by rw [h0]; exact Nat.lt_succ_self _) _) (by rw [h0]; exact Nat.lt_succ_self _) _
end Go.Proofs.YtfbhoomfhjlbiaaGreatDoor
namespace Go.Proofs.YtfbhoomfhjlbiaaGreatDoor
open Go Go.RowKit Go.Shelf Go.Abs
set_option linter.unusedVariables false
attribute [local go_sem] Oper.semAt_some
/-- What a caller knows, and all that is new but for two blocks. -/
def GX (G : Gh) (B : Nat) (W : World) : Gh := ⟨fun b o => if b < B then G.M b o else if b = B ∨ b = B + 1 then none else (allG W).M b o, G.mu, G.mm⟩
theorem GX_le_new (G : Gh) (B : Nat) (W : World) : (GX G B W).le (newG G B W) := by
  refine ⟨fun b o v h => ?_, fun _ _ _ h => h, fun _ _ h => h⟩
  simp only [GX] at h
  simp only [newG]
  split at h
  · rename_i hb; rw [if_pos hb]; exact h
  · rename_i hb
    rw [if_neg hb]
    split at h
    · cases h
    · exact h
theorem GX_keep {G : Gh} {B : Nat} {W W' : World} (h : ∀ b o v, b ≠ B → b ≠ B + 1 → W.cell? ⟨b, o, none⟩ = some v → W'.cell? ⟨b, o, none⟩ = some v) : (GX G B W).le (GX G B W') := by
  refine ⟨fun b o v hv => ?_, fun _ _ _ h => h, fun _ _ h => h⟩
  simp only [GX] at hv ⊢
  split at hv
  · rename_i hb; rw [if_pos hb]; exact hv
  · rename_i hb
    rw [if_neg hb]
    split at hv
    · cases hv
    · rename_i hb
      rw [if_neg hb]
      simp only [allG] at hv ⊢
      split at hv
      · rename_i u hu
        rw [h b o u (fun e => hb (.inl e)) (fun e => hb (.inr e)) hu]
        exact hv
      · cases hv
theorem GX_cell {G : Gh} {B : Nat} {W : World} {b o : Nat} {v : Value} (hb : B + 1 < b) (h : W.cell? ⟨b, o, none⟩ = some v) (h1 : v.oneCell' = true) : (GX G B W).M b o = some v := by
  simp only [GX]
  rw [if_neg (by omega), if_neg (by omega)]
  exact allG_cell h h1
theorem GX_of {G : Gh} {B : Nat} {W : World} (h : ∀ b o v, G.M b o = some v → b < B) : G.le (GX G B W) := by
  refine ⟨fun b o v hv => ?_, fun _ _ _ h => h, fun _ _ h => h⟩
  simp only [GX]
  rw [if_pos (h b o v hv)]
  exact hv
theorem blk_own {W W' : World} {row : Option Nat} {b : Nat} {cs : Array Value} {t : TypeId} (h : Blk W b cs t) (hg : W.grownBy W' row) (hr : ∀ r, row = some r → ∃ o : Obj, W.heap[r]? = some o ∧ o.isCells = false) : Blk W' b cs t :=
  (hg.block b h.lt (fun e => by obtain ⟨o, ho, hc⟩ := hr b e.symm; rw [show W.heap[b]? = _ from h] at ho; cases ho; cases hc)).trans h
theorem vrow_of {G : Gh} : ∀ {xs : List AV} {us : List Value} {b o : Nat}, VRs G xs us → (∀ j u, us[j]? = some u → G.M b (o + j) = some u) → VRow G xs b o
  | [], us, b, o, h, hc => by simp only [VRow]
  | x :: xs, us, b, o, h, hc => by
    simp only [VRs] at h
    obtain ⟨u, us', rfl, h1, h2⟩ := h
    simp only [VRow]
    exact ⟨⟨u, hc 0 u rfl, h1⟩, vrow_of h2 fun j v hj => by rw [← hc (j + 1) v (by simpa using hj)]; congr 1; omega⟩
theorem vrs_four {G : Gh} {a b c d : AV} {u v w x : Value} (h1 : VR G a u) (h2 : VR G b v) (h3 : VR G c w) (h4 : VR G d x) : VRs G [a, b, c, d] [u, v, w, x] := by
  simp only [VRs]
  exact ⟨u, _, rfl, h1, v, _, rfl, h2, w, _, rfl, h3, x, _, rfl, h4, rfl⟩
def listA (rows : Nat → List AV) : List Nat → List AV → List AV
  | [], tc => tc
  | i :: is, tc => listA rows is [.int .i64 2, .int .i64 0, .str [46], .vals 4 [rows i, tc]]
theorem listA_snoc (rows : Nat → List AV) (i : Nat) : ∀ (is : List Nat) (tc : List AV), listA rows (is ++ [i]) tc = [.int .i64 2, .int .i64 0, .str [46], .vals 4 [rows i, listA rows is tc]]
  | [], tc => rfl
  | j :: is, tc => listA_snoc rows i is _
/-- Cells of a term. -/
def tc4 (i0 i1 : Int) (s : ByteArray) (a : Option Addr) (l c : Nat) : List Value := [.int .i64 i0, .int .i64 i1, .string s, .slice a l c]
theorem tc4_ones (i0 i1 : Int) (s : ByteArray) (a : Option Addr) (l c : Nat) : ∀ u ∈ tc4 i0 i1 s a l c, u.oneCell' = true := by
  intro u hu
  simp only [tc4, List.mem_cons, List.not_mem_nil, or_false] at hu
  rcases hu with rfl | rfl | rfl | rfl <;> rfl
set_option maxRecDepth 100000 in
set_option maxHeartbeats 4000000 in
theorem list_walk (G : Gh) (b off len cap : Nat) (k0 k1 : Nat → Int) (k2 : Nat → ByteArray) (k3 : Nat → Option Addr) (k4 k5 : Nat → Nat) (t0 t1 : Int) (t2 : ByteArray) (t3 : Option Addr) (t4 t5 : Nat) (rows : Nat → List AV) (tc : List AV) (hl : 0 < len) (hreach : len * 56 ≤ 140737488351232) (w : World) (hb : b < w.heap.size)
    (hc : ∀ j, j < len → w.cell? ⟨b, off + j * 4, none⟩ = some (.int .i64 (k0 j)) ∧ w.cell? ⟨b, off + j * 4 + 1, none⟩ = some (.int .i64 (k1 j)) ∧ w.cell? ⟨b, off + j * 4 + 2, none⟩ = some (.string (k2 j)) ∧ w.cell? ⟨b, off + j * 4 + 3, none⟩ = some (.slice (k3 j) (k4 j) (k5 j)))
    (hrows : ∀ j, j < len → VRs G (rows j) (tc4 (k0 j) (k1 j) (k2 j) (k3 j) (k4 j) (k5 j))) (hG : ∀ b o v, G.M b o = some v → b < w.heap.size) (htc : VRs G tc (tc4 t0 t1 t2 t3 t4 t5)) :
    Calls Tryz.prog 43 #[.slice (some ⟨b, off, none⟩) len cap, .agg #[.int .i64 t0, .int .i64 t1, .string t2, .slice t3 t4 t5]] w fun e w' => ∃ u0 u1 u2 u3 u4 u5, e = .returned (.agg #[.int .i64 u0, .int .i64 u1, .string u2, .slice u3 u4 u5]) ∧ Below w.heap.size w w' ∧ VRs (newG G w.heap.size w') (listA rows ((downs len hl len).map (·.1)) tc) (tc4 u0 u1 u2 u3 u4 u5) := by
  refine (callsIn_wide (n := 3)).1 ?_
  refine callsIn_of_wp_marks Tryz.func43 rfl trivial ?_ rfl
  simp only [Tryz.ntmps43, List.size_toArray, List.length_cons, List.length_nil, Nat.reduceAdd, Nat.reduceSub, Array.replicate_succ, Array.replicate_zero, List.push_toArray, List.append_toArray, List.nil_append, List.cons_append]
  gi_wp2_with (refine ⟨trivial, ?_⟩; gi_at_call 90; refine (backward_in Fence.wide 2 trivial rfl _ _ _ _).mono ?_; rintro e w' ⟨rfl, rfl⟩)
  have bT := ((Blk.new w #[.int .i64 t0, .int .i64 t1, .string t2, .slice t3 t4 t5] 29).alloc (.cells #[.int .i64 0, .int .i64 0, .string ⟨#[]⟩, .slice none 0 0] 29)).alloc (.cells #[.slice (some ⟨b, off, none⟩) len cap] 27)
  have bR := (Blk.new (w.alloc (.cells #[.int .i64 t0, .int .i64 t1, .string t2, .slice t3 t4 t5] 29)) #[.int .i64 0, .int .i64 0, .string ⟨#[]⟩, .slice none 0 0] 29).alloc (.cells #[.slice (some ⟨b, off, none⟩) len cap] 27)
  have bS := Blk.new ((w.alloc (.cells #[.int .i64 t0, .int .i64 t1, .string t2, .slice t3 t4 t5] 29)).alloc (.cells #[.int .i64 0, .int .i64 0, .string ⟨#[]⟩, .slice none 0 0] 29)) #[.slice (some ⟨b, off, none⟩) len cap] 27
  simp only [World.size_alloc] at bR bS
  have hB0 : Below w.heap.size w (((w.alloc (.cells #[.int .i64 t0, .int .i64 t1, .string t2, .slice t3 t4 t5] 29)).alloc (.cells #[.int .i64 0, .int .i64 0, .string ⟨#[]⟩, .slice none 0 0] 29)).alloc (.cells #[.slice (some ⟨b, off, none⟩) len cap] 27)) := (((Below.refl _ w).alloc (Nat.le_refl _) _).alloc (by simp) _).alloc (by simp; omega) _
  have hsz : (((w.alloc (.cells #[.int .i64 t0, .int .i64 t1, .string t2, .slice t3 t4 t5] 29)).alloc (.cells #[.int .i64 0, .int .i64 0, .string ⟨#[]⟩, .slice none 0 0] 29)).alloc (.cells #[.slice (some ⟨b, off, none⟩) len cap] 27)).heap.size = w.heap.size + 3 := by simp
  obtain ⟨W0, hW0⟩ : ∃ W0, ((w.alloc (.cells #[.int .i64 t0, .int .i64 t1, .string t2, .slice t3 t4 t5] 29)).alloc (.cells #[.int .i64 0, .int .i64 0, .string ⟨#[]⟩, .slice none 0 0] 29)).alloc (.cells #[.slice (some ⟨b, off, none⟩) len cap] 27) = W0 := ⟨_, rfl⟩
  rw [hW0] at bT bR bS hB0 hsz ⊢
  clear hW0
  refine wpIn_rangeFunc_ownH rfl (by omega) (gf := 136) (lb := #[.pointer (some ⟨w.heap.size + 1 + 1, 0, none⟩)]) rfl trivial (enters_of Tryz.func136 (by kernel_rfl) rfl)
    (backward_stops Fence.wide 2 trivial rfl (by omega) (w.heap.size + 1 + 1) b off len cap (fun j => .int .i64 (k0 j)) (fun j => .int .i64 (k1 j)) (fun j => .string (k2 j)) (fun j => .slice (k3 j) (k4 j) (k5 j)) hl hreach W0 (by omega) (by omega) (bS.cell rfl) (fun j hj => by
      obtain ⟨c0, c1, c2, c3⟩ := hc j hj
      exact ⟨(hB0.cell (p := ⟨b, off + j * 4, none⟩) hb).trans c0, (hB0.cell (p := ⟨b, off + j * 4 + 1, none⟩) hb).trans c1, (hB0.cell (p := ⟨b, off + j * 4 + 2, none⟩) hb).trans c2, (hB0.cell (p := ⟨b, off + j * 4 + 3, none⟩) hb).trans c3⟩))
    KB.trans (fun W l o o' hl' ho _ _ => ⟨World.putObj_heap_other (by omega), World.putObj_heap_other (by omega)⟩) (Below.refl _ _) (fun _ => rfl)
    (fun pre W => ((∃ u0 u1 u2 u3 u4 u5, Blk W w.heap.size #[.int .i64 u0, .int .i64 u1, .string u2, .slice u3 u4 u5] 29 ∧ VRs (GX G w.heap.size W) (listA rows (pre.map (·.1)) tc) (tc4 u0 u1 u2 u3 u4 u5))
      ∧ (Blk W (w.heap.size + 1) #[.int .i64 0, .int .i64 0, .string ⟨#[]⟩, .slice none 0 0] 29 ∧ Blk W (w.heap.size + 1 + 1) #[.slice (some ⟨b, off, none⟩) len cap] 27)) ∧ Below w.heap.size w W)
    (fun _ _ _ => False)
    (OwnFrom.and (OwnFrom.and (fun s A B row hs hg hr => by
      obtain ⟨u0, u1, u2, u3, u4, u5, h1, h2⟩ := hs
      exact ⟨u0, u1, u2, u3, u4, u5, blk_own h1 hg (fun r e => (hr r e).2), VRs.mono (GX_keep fun b o v _ _ h => cell_kept h hg (fun r e => (hr r e).2)) _ _ h2⟩)
      (fun s A B row hs hg hr => ⟨blk_own hs.1 hg (fun r e => (hr r e).2), blk_own hs.2 hg (fun r e => (hr r e).2)⟩)) (ownFrom_below (Nat.le_refl _) (by omega)))
    (fun _ _ _ _ _ hs _ _ => hs)
    ⟨⟨⟨t0, t1, t2, t3, t4, t5, bT, VRs.mono (GX_of hG) _ _ htc⟩, bR, bS⟩, hB0⟩
    (fun x a' W => ∃ Bx, Blk W Bx #[.int .i64 (k0 x.1), .int .i64 (k1 x.1), .string (k2 x.1), .slice (k3 x.1) (k4 x.1) (k5 x.1)] 29 ∧ a' = { tmps := #[.slice (some ⟨b, off, none⟩) len cap, .agg #[.int .i64 t0, .int .i64 t1, .string t2, .slice t3 t4 t5], undef, .pointer (some ⟨w.heap.size, 0, none⟩), .pointer (some ⟨w.heap.size + 1, 0, none⟩), undef, .pointer (some ⟨Bx, 0, none⟩), .slice (some ⟨b, off, none⟩) len cap, .func (.func 136) #[] #[.pointer (some ⟨w.heap.size + 1 + 1, 0, none⟩)], .int .i64 (x.1 : Int), .agg #[.int .i64 (k0 x.1), .int .i64 (k1 x.1), .string (k2 x.1), .slice (k3 x.1) (k4 x.1) (k5 x.1)], undef, undef, undef, undef, undef], defers := [] })
    (fun x a' _ X Y row hs hg hr => by obtain ⟨Bx, h2, h3⟩ := hs; exact ⟨Bx, blk_own h2 hg (fun r e => (hr r e).2), h3⟩)
    ?assign ?body ?done ?stop
  case assign =>
    rintro l pre x W K ⟨⟨⟨u0, u1, u2, u3, u4, u5, bT1, hV⟩, bR1, bS1⟩, hB1⟩ hK
    have hW := hB1.size
    have bX := Blk.new W #[.int .i64 0, .int .i64 0, .string ⟨#[]⟩, .slice none 0 0] 29
    obtain ⟨x0, x1, x2, x3, y0, y1, y2, y3, ltx⟩ := bX.fourT
    gi_wp2
    have hsW := bS1.lt
    exact hK _ _ ((KeepsOthers.alloc _ _).from _) ⟨Below.heap_alloc _ _ _ (by omega), Below.heap_alloc _ _ _ (by omega)⟩
      ⟨⟨⟨u0, u1, u2, u3, u4, u5, bT1.alloc _, VRs.mono (GX_keep fun b o v _ _ h => (World.cell?_alloc_lt _ _ _ (World.block_lt_of_cell? W _ h)).trans h) _ _ hV⟩, bR1.alloc _, bS1.alloc _⟩, hB1.alloc hB1.size _⟩ ⟨W.heap.size, Blk.new _ _ _, rfl⟩
  case body =>
    rintro l pre x a' W hl' ⟨r, hr⟩ ⟨⟨⟨u0, u1, u2, u3, u4, u5, bT1, hV⟩, bR1, bS1⟩, hB1⟩ ⟨Bx, bX, rfl⟩ hlt
    obtain ⟨x0, x1, x2, x3, y0, y1, y2, y3, ltx⟩ := bX.fourT
    obtain ⟨p0, p1, p2, p3, q0, q1, q2, q3, ltp⟩ := bT1.fourT
    gi_wp2_with fail
    refine ⟨trivial, CallsIn.inRound l (callsIn_wide.2 ((comp_raw ⟨#[46]⟩ ⟨W.heap.size, 0, none⟩ 2 2 [.int .i64 (k0 x.1), .int .i64 (k1 x.1), .string (k2 x.1), .slice (k3 x.1) (k4 x.1) (k5 x.1), .int .i64 u0, .int .i64 u1, .string u2, .slice u3 u4 u5] _ rfl ?cells ?ones (by omega)).mono ?_))⟩
    case cells =>
      intro j u hj
      have := Blk.new W #[.int .i64 (k0 x.1), .int .i64 (k1 x.1), .string (k2 x.1), .slice (k3 x.1) (k4 x.1) (k5 x.1), .int .i64 u0, .int .i64 u1, .string u2, .slice u3 u4 u5] 29
      have h2 := this.cell (i := j) (v := u) (by simpa using hj)
      have e : (⟨W.heap.size, 0, none⟩ : Addr).add j = ⟨W.heap.size, j, none⟩ := by cases j <;> simp [Addr.add]
      rw [e]; exact h2
    case ones =>
      intro u hu
      rcases List.mem_append.1 (show u ∈ tc4 (k0 x.1) (k1 x.1) (k2 x.1) (k3 x.1) (k4 x.1) (k5 x.1) ++ tc4 u0 u1 u2 u3 u4 u5 from hu) with h | h
      · exact tc4_ones _ _ _ _ _ _ u h
      · exact tc4_ones _ _ _ _ _ _ u h
    rintro e W2 ⟨sl, rfl, hb2, how⟩
    obtain ⟨oa, oc, rfl⟩ := own_shapeT how
    dsimp only
    have bT2 := (bT1.alloc (.cells #[.int .i64 (k0 x.1), .int .i64 (k1 x.1), .string (k2 x.1), .slice (k3 x.1) (k4 x.1) (k5 x.1), .int .i64 u0, .int .i64 u1, .string u2, .slice u3 u4 u5] 29)).keep hb2
    obtain ⟨p0, p1, p2, p3, q0, q1, q2, q3, ltp⟩ := bT2.fourT
    gi_wp2
    have hsW := bS1.lt
    obtain ⟨W1, hW1⟩ : ∃ W1, W.alloc (.cells #[.int .i64 (k0 x.1), .int .i64 (k1 x.1), .string (k2 x.1), .slice (k3 x.1) (k4 x.1) (k5 x.1), .int .i64 u0, .int .i64 u1, .string u2, .slice u3 u4 u5] 29) = W1 := ⟨_, rfl⟩
    have hs1 : W1.heap.size = W.heap.size + 1 := by rw [← hW1]; simp
    have hBW : Below W.heap.size W W1 := by rw [← hW1]; exact (Below.refl _ W).alloc (Nat.le_refl _) _
    rw [hW1] at hb2 how
    have hW2 : Below W.heap.size W W2 := bcall hBW hb2
    have hlist : VRs (GX G w.heap.size (((((W2.setCell ⟨w.heap.size, 0, none⟩ (.int .i64 2)).setCell ⟨w.heap.size, 1, none⟩ (.int .i64 0)).setCell ⟨w.heap.size, 2, none⟩ (.string ⟨#[46]⟩)).setCell ⟨w.heap.size, 3, none⟩ (.slice oa 2 oc))))
        (listA rows ((pre ++ [x]).map (·.1)) tc) (tc4 2 0 ⟨#[46]⟩ oa 2 oc) := by
      have how3 := ownsRow_setCell_below (ownsRow_setCell_below (ownsRow_setCell_below (ownsRow_setCell_below how (a := ⟨w.heap.size, 0, none⟩) (by rw [hs1]; show w.heap.size < _; omega) (.int .i64 2)) (a := ⟨w.heap.size, 1, none⟩) (by rw [hs1]; show w.heap.size < _; omega) (.int .i64 0)) (a := ⟨w.heap.size, 2, none⟩) (by rw [hs1]; show w.heap.size < _; omega) (.string ⟨#[46]⟩)) (a := ⟨w.heap.size, 3, none⟩) (by rw [hs1]; show w.heap.size < _; omega) (.slice oa 2 oc)
      have hkeep : ∀ b o v, b ≠ w.heap.size → W.cell? ⟨b, o, none⟩ = some v → (((((W2.setCell ⟨w.heap.size, 0, none⟩ (.int .i64 2)).setCell ⟨w.heap.size, 1, none⟩ (.int .i64 0)).setCell ⟨w.heap.size, 2, none⟩ (.string ⟨#[46]⟩)).setCell ⟨w.heap.size, 3, none⟩ (.slice oa 2 oc))).cell? ⟨b, o, none⟩ = some v := by
        intro b o v hb h
        have h2 := (hW2.cell (p := ⟨b, o, none⟩) (World.block_lt_of_cell? W _ h)).trans h
        refine (World.cell?_of_block ?_).trans h2
        show (World.heap _)[b]? = _
        rw [Below.heap_setCell _ _ _ _ hb, Below.heap_setCell _ _ _ _ hb, Below.heap_setCell _ _ _ _ hb, Below.heap_setCell _ _ _ _ hb]
      generalize (((((W2.setCell ⟨w.heap.size, 0, none⟩ (.int .i64 2)).setCell ⟨w.heap.size, 1, none⟩ (.int .i64 0)).setCell ⟨w.heap.size, 2, none⟩ (.string ⟨#[46]⟩)).setCell ⟨w.heap.size, 3, none⟩ (.slice oa 2 oc))) = W3 at how3 hkeep ⊢
      have hprev := VRs.mono (GX_keep fun b o v h1 _ h => hkeep b o v h1 h) _ _ hV
      have hrow := VRs.mono (GX_of (W := W3) hG) _ _ (hrows x.1 x.2)
      rw [List.map_append, List.map_singleton, listA_snoc]
      refine vrs_four (by simp only [VR]) (by simp only [VR]) (by simp only [VR]) ?_
      obtain ⟨_, hv | ⟨g, cap', cur, hv, hgb, hg, hcap, -, hcur, htake⟩⟩ := how3
      · cases hv.2
      · cases hv
        have hc3 : ∀ j u, (tc4 (k0 x.1) (k1 x.1) (k2 x.1) (k3 x.1) (k4 x.1) (k5 x.1) ++ tc4 u0 u1 u2 u3 u4 u5)[j]? = some u → (GX G w.heap.size W3).M g j = some u := by
          intro j u hj
          have h1 : u.oneCell' = true := by
            rcases List.mem_append.1 (List.mem_of_getElem? hj) with h | h
            · exact tc4_ones _ _ _ _ _ _ u h
            · exact tc4_ones _ _ _ _ _ _ u h
          refine GX_cell (by omega) ?_ h1
          have hj' : (cur.toList.take (2 * 4))[j]? = some u := by rw [htake]; exact hj
          rw [List.getElem?_take] at hj'
          split at hj'
          · simp only [World.cell?, hg]
            simpa using hj'
          · cases hj'
        simp only [VR]
        refine ⟨_, _, rfl, hcap, .inr ⟨g, 0, rfl, ?_⟩⟩
        simp only [VRows]
        exact ⟨by have := hrow.len; simp [tc4] at this; omega, vrow_of hrow fun j u hj => by rw [Nat.zero_add]; exact hc3 j u (by rw [List.getElem?_append_left (List.getElem?_eq_some_iff.1 hj).1]; exact hj),
          by have := hprev.len; simp only [tc4, List.length_cons, List.length_nil] at this; omega, vrow_of hprev fun j u hj => by
            have h4 : (tc4 (k0 x.1) (k1 x.1) (k2 x.1) (k3 x.1) (k4 x.1) (k5 x.1)).length = 4 := rfl
            rw [Nat.zero_add]; exact hc3 (4 + j) u (by rw [List.getElem?_append_right (by omega), h4]; simpa using hj), trivial⟩
    refine ⟨?_, ⟨?_, ?_⟩, ⟨⟨2, 0, ⟨#[46]⟩, oa, 2, oc, (((bT2.store 0 _).store 1 _).store 2 _).store 3 _, hlist⟩, ?_, ?_⟩, ?_⟩
    · exact KeepsFrom.trans ⟨hW2.size, fun k o hk h0 ho => (hW2.block k (Array.getElem?_eq_some_iff.1 h0).1).trans h0⟩
        (((((KeepsOthers.setCell _ _ _).trans (KeepsOthers.setCell _ _ _)).trans (KeepsOthers.setCell _ _ _)).trans (KeepsOthers.setCell _ _ _)).from _)
    · rw [Below.heap_setCell _ _ _ _ (show b ≠ w.heap.size by omega), Below.heap_setCell _ _ _ _ (show b ≠ w.heap.size by omega), Below.heap_setCell _ _ _ _ (show b ≠ w.heap.size by omega), Below.heap_setCell _ _ _ _ (show b ≠ w.heap.size by omega)]
      exact hW2.block _ (by omega)
    · rw [Below.heap_setCell _ _ _ _ (show w.heap.size + 1 + 1 ≠ w.heap.size by omega), Below.heap_setCell _ _ _ _ (show w.heap.size + 1 + 1 ≠ w.heap.size by omega), Below.heap_setCell _ _ _ _ (show w.heap.size + 1 + 1 ≠ w.heap.size by omega), Below.heap_setCell _ _ _ _ (show w.heap.size + 1 + 1 ≠ w.heap.size by omega)]
      exact hW2.block _ (by omega)
    · exact ((((bR1.keep hW2).other (by show w.heap.size ≠ _; omega) _).other (by show w.heap.size ≠ _; omega) _).other (by show w.heap.size ≠ _; omega) _).other (by show w.heap.size ≠ _; omega) _
    · exact ((((bS1.keep hW2).other (by show w.heap.size ≠ _; omega) _).other (by show w.heap.size ≠ _; omega) _).other (by show w.heap.size ≠ _; omega) _).other (by show w.heap.size ≠ _; omega) _
    · exact Below.setCell (Below.setCell (Below.setCell (Below.setCell (hB1.trans (hW2.mono hB1.size)) (Nat.le_refl _) _) (Nat.le_refl _) _) (Nat.le_refl _) _) (Nat.le_refl _) _
  case done =>
    rintro D zs W hD rfl ⟨⟨⟨u0, u1, u2, u3, u4, u5, bT1, hV⟩, bR1, bS1⟩, hB1⟩ hK
    obtain ⟨p0, p1, p2, p3, q0, q1, q2, q3, ltp⟩ := bT1.fourT
    obtain ⟨x0, x1, x2, x3, y0, y1, y2, y3, ltx⟩ := bR1.fourT
    gi_wp2
    have hK' := (((((KeepsOthers.setCell W ⟨w.heap.size + 1, 0, none⟩ (.int .i64 u0)).trans (KeepsOthers.setCell _ ⟨w.heap.size + 1, 1, none⟩ (.int .i64 u1))).trans (KeepsOthers.setCell _ ⟨w.heap.size + 1, 2, none⟩ (.string u2))).trans (KeepsOthers.setCell _ ⟨w.heap.size + 1, 3, none⟩ (.slice u3 u4 u5)))).same D _ hK rfl
    have bR2 := (((bR1.store 0 (.int .i64 u0)).store 1 (.int .i64 u1)).store 2 (.string u2)).store 3 (.slice u3 u4 u5)
    have hV2 := VRs.mono (GX_keep (W' := (((W.setCell ⟨w.heap.size + 1, 0, none⟩ (.int .i64 u0)).setCell ⟨w.heap.size + 1, 1, none⟩ (.int .i64 u1)).setCell ⟨w.heap.size + 1, 2, none⟩ (.string u2)).setCell ⟨w.heap.size + 1, 3, none⟩ (.slice u3 u4 u5)) fun b o v _ h2 h => by
      refine (World.cell?_of_block ?_).trans h
      show (World.heap _)[b]? = _
      rw [Below.heap_setCell _ _ _ _ h2, Below.heap_setCell _ _ _ _ h2, Below.heap_setCell _ _ _ _ h2, Below.heap_setCell _ _ _ _ h2]) _ _ hV
    have hB2 : Below w.heap.size w ((((W.setCell ⟨w.heap.size + 1, 0, none⟩ (.int .i64 u0)).setCell ⟨w.heap.size + 1, 1, none⟩ (.int .i64 u1)).setCell ⟨w.heap.size + 1, 2, none⟩ (.string u2)).setCell ⟨w.heap.size + 1, 3, none⟩ (.slice u3 u4 u5)) :=
      Below.setCell (Below.setCell (Below.setCell (Below.setCell hB1 (Nat.le_succ _) _) (Nat.le_succ _) _) (Nat.le_succ _) _) (Nat.le_succ _) _
    refine ⟨by simp, .inl ⟨_, _, rfl, run_takeDeferred hK', ?_⟩⟩
    have hg := grownBy_putObj' ((((W.setCell ⟨w.heap.size + 1, 0, none⟩ (.int .i64 u0)).setCell ⟨w.heap.size + 1, 1, none⟩ (.int .i64 u1)).setCell ⟨w.heap.size + 1, 2, none⟩ (.string u2)).setCell ⟨w.heap.size + 1, 3, none⟩ (.slice u3 u4 u5)) D (.deferred none)
    refine ⟨_, res_row rfl _ (w.heap.size + 1) rfl _ _ _ _ _ (blk_own bR2 hg (fun r e => by cases e; exact ⟨_, hK', rfl⟩)), u0, u1, u2, u3, u4, u5, rfl, hB2.trans (belowK_b (w := w) (Nat.le_refl _) _ D _ _ (by omega) hK' rfl rfl), ?_⟩
    exact VRs.mono ((GX_keep fun b o v _ _ h => cell_kept h hg (fun r e => by cases e; exact ⟨_, hK', rfl⟩)).trans (GX_le_new _ _ _)) _ _ hV2
  case stop =>
    rintro D c pre W _ _ h _
    exact h.elim
end Go.Proofs.YtfbhoomfhjlbiaaGreatDoor
namespace Go.Proofs.YtfbhoomfhjlbiaaGreatDoor
open Go Go.RowKit Go.Shelf Go.Abs
set_option linter.unusedVariables false
def isSl : AV → Bool
  | .nils | .zslc | .slc .. | .vals .. => true
  | _ => false
theorem isSl_ok {G : Gh} {y : AV} {u : Value} (h : isSl y = true) (hv : VR G y u) : ∃ a l c, u = .slice a l c := by
  unfold isSl at h
  split at h
  · simp only [VR] at hv; exact ⟨_, _, _, hv⟩
  · simp only [VR] at hv; obtain ⟨a, rfl⟩ := hv; exact ⟨_, _, _, rfl⟩
  · simp only [VR] at hv; obtain ⟨b, o, n, cap, _, rfl, _⟩ := hv; exact ⟨_, _, _, rfl⟩
  · simp only [VR] at hv; obtain ⟨a, cap, rfl, _⟩ := hv; exact ⟨_, _, _, rfl⟩
  · cases h
def tRow : List AV → Bool
  | [.int .i64 _, .int .i64 _, .str _, y] => isSl y
  | _ => false
theorem tRow_ok {G : Gh} {r : List AV} {us : List Value} (h : tRow r = true) (hv : VRs G r us) : ∃ i0 i1 s a l c, us = tc4 i0 i1 s a l c := by
  unfold tRow at h
  split at h
  · rename_i i0 i1 s y
    simp only [VRs, VR] at hv
    obtain ⟨_, _, rfl, rfl, _, _, rfl, rfl, _, _, rfl, rfl, u, _, rfl, h1, rfl⟩ := hv
    obtain ⟨a, l, c, rfl⟩ := isSl_ok h h1
    exact ⟨_, _, _, _, _, _, rfl⟩
  · cases h
def row4 (cs : List AV) (j : Nat) : List AV := (cs.drop (j * 4)).take 4
def listH (args : List AV) (H : AH) : Option (AV × AH) :=
  match args with
  | [s, .agg tc] => match listCells H 4 s with
    | some (m, cs) => if m ≠ 0 ∧ m ≤ 1000 ∧ tRow tc = true ∧ ((List.range m).all fun j => tRow (row4 cs j)) = true then some (.agg (listA (row4 cs) ((List.range m).map fun j => m - 1 - j) tc), H) else none
    | none => none
  | _ => none
theorem downs_fst (m : Nat) (hl : 0 < m) : (downs m hl m).map (·.1) = (List.range m).map fun j => m - 1 - j := by
  unfold downs
  rw [List.map_map]
  rfl
set_option maxHeartbeats 1000000 in
theorem list_one : HookOne Tryz.prog 43 listH := by
  refine ⟨by decide +kernel, fun args H x H' h => ?_, fun args H x H' h => ?_⟩
  · unfold listH at h
    split at h
    · rename_i s tc
      split at h
      · rename_i m cs hcs
        split at h
        · rename_i hc
          obtain ⟨hm0, hm, htr, hrows⟩ := hc
          cases h
          intro K G vs w hr hv
          obtain ⟨u, v, hu, h1, h2⟩ := hv.two
          simp only [VR] at h2
          obtain ⟨us, rfl, h2⟩ := h2
          obtain ⟨t0, t1, t2, t3, t4, t5, ht⟩ := tRow_ok htr h2
          obtain rfl : us = #[.int .i64 t0, .int .i64 t1, .string t2, .slice t3 t4 t5] := by cases us; simpa [tc4] using ht
          obtain ⟨a, c, rfl, hmc, hlen, h0 | ⟨b, o, rfl, hin⟩⟩ := listCells_ok hr h1 hcs
          · exact absurd h0 hm0
          obtain rfl : vs = #[.slice (some ⟨b, o, none⟩) m c, .agg #[.int .i64 t0, .int .i64 t1, .string t2, .slice t3 t4 t5]] := by cases vs; simpa using hu
          have hex : ∀ j : Nat, ∃ p : Int × Int × ByteArray × Option Addr × Nat × Nat, j < m → VRs G (row4 cs j) (tc4 p.1 p.2.1 p.2.2.1 p.2.2.2.1 p.2.2.2.2.1 p.2.2.2.2.2) ∧
              w.cell? ⟨b, o + j * 4, none⟩ = some (.int .i64 p.1) ∧ w.cell? ⟨b, o + j * 4 + 1, none⟩ = some (.int .i64 p.2.1) ∧ w.cell? ⟨b, o + j * 4 + 2, none⟩ = some (.string p.2.2.1) ∧ w.cell? ⟨b, o + j * 4 + 3, none⟩ = some (.slice p.2.2.2.1 p.2.2.2.2.1 p.2.2.2.2.2) := by
            intro j
            by_cases hj : j < m
            · have hin' : CellsIn G w (row4 cs j) b (o + j * 4) := by
                intro i x hx
                unfold row4 at hx
                rw [List.getElem?_take] at hx
                split at hx
                · rw [List.getElem?_drop] at hx
                  obtain ⟨u, q1, q2, q3⟩ := hin _ _ hx
                  exact ⟨u, by rw [← q1]; congr 2; omega, q2, q3⟩
                · cases hx
              obtain ⟨us, q1, q2, q3⟩ := hin'.list
              obtain ⟨i0, i1, s, a, l, c, rfl⟩ := tRow_ok (List.all_eq_true.1 hrows j (List.mem_range.2 hj)) q1
              exact ⟨(i0, i1, s, a, l, c), fun _ => ⟨q1, q2 0 _ rfl, q2 1 _ rfl, q2 2 _ rfl, q2 3 _ rfl⟩⟩
            · exact ⟨(0, 0, ⟨#[]⟩, none, 0, 0), fun h => absurd h hj⟩
          obtain ⟨p, hp⟩ := Classical.axiomOfChoice hex
          have hm1 : 0 < m := by omega
          have hb : b < w.heap.size := by
            have := World.block_lt_of_cell? w _ (hp 0 hm1).2.1
            exact this
          refine (list_walk G b o m c (fun j => (p j).1) (fun j => (p j).2.1) (fun j => (p j).2.2.1) (fun j => (p j).2.2.2.1) (fun j => (p j).2.2.2.2.1) (fun j => (p j).2.2.2.2.2) t0 t1 t2 t3 t4 t5 (row4 cs) tc hm1 (by omega) w hb
            (fun j hj => (hp j hj).2) (fun j hj => (hp j hj).1) (fun b o v hv => cell_lt (hr.mem b o v hv)) h2).mono ?_
          rintro e w' ⟨u0, u1, u2, u3, u4, u5, rfl, hB, hV⟩
          refine ⟨_, _, newG G w.heap.size w', H, rfl, newG_le hr, newG_rel hr hB, ?_, rfl, rfl⟩
          rw [downs_fst] at hV
          simp only [VR]
          exact ⟨_, rfl, hV⟩
        · cases h
      · cases h
    · cases h
  · unfold listH at h
    split at h
    · rename_i s tc
      split at h
      · rename_i m cs hcs
        split at h
        · rename_i hc
          cases h
          exact FrameR.same fun R H2 he ha => by
            simp only [listH, listCells_ext he ha hcs]
            rw [if_pos hc]
        · cases h
      · cases h
    · cases h
end Go.Proofs.YtfbhoomfhjlbiaaGreatDoor
