/- The contract of term.Comp. -/
import Derived.Test.YtcnnobcncklgfaaGreatDoorTermComp
namespace Go.Proofs.YtcnnobcncklgfaaGreatDoor
open Go Go.ChangeShapes Go.WideShapes Go.ChangeAt Go.RowKit
set_option linter.unusedVariables false
theorem own_shapeT {w : World} {base : Nat} {e : TypeId} {size : Nat} {v : Value} {n : Nat} {xs : List Value} (h : w.ownsRow base e size v n xs) : ∃ a c, v = .slice a n c := by
  rcases h.2 with ⟨rfl, rfl⟩ | ⟨g, cap, cur, rfl, _⟩
  · exact ⟨_, _, rfl⟩
  · exact ⟨_, _, rfl⟩
theorem Blk.fourT {w : World} {b : Nat} {x y z u : Value} {t : TypeId} (h : Blk w b #[x, y, z, u] t) : w.cell? ⟨b, 0, none⟩ = some x ∧ w.cell? ⟨b, 1, none⟩ = some y ∧ w.cell? ⟨b, 2, none⟩ = some z ∧ w.cell? ⟨b, 3, none⟩ = some u ∧
    w.frozen? ⟨b, 0, none⟩ = false ∧ w.frozen? ⟨b, 1, none⟩ = false ∧ w.frozen? ⟨b, 2, none⟩ = false ∧ w.frozen? ⟨b, 3, none⟩ = false ∧ b < w.heap.size :=
  ⟨h.cell rfl, h.cell rfl, h.cell rfl, h.cell rfl, h.free 0, h.free 1, h.free 2, h.free 3, h.lt⟩
set_option maxRecDepth 100000 in
theorem comp_some {X : Nat → Prop} (name : List UInt8) (t : Tm) (a : Addr) (c : Nat) (k n : Int) (s : List UInt8) (w : World) (h : Holds w X t (tmV k n s (.slice (some a) t.args.length c))) (hlen : t.args.length ≤ 1000000000) (hone : ∀ (L : Nat → Value) u, u ∈ tmRow t.args L → u.oneCell' = true) :
    Calls Tryz.prog 14 #[.string ⟨name.toArray⟩, .slice (some a) t.args.length c] w fun e w' => ∃ sl, e = .returned (tmV 2 0 name sl) ∧ Below w.heap.size w w' ∧ Holds w' (fun b => X b ∨ w.heap.size < b) (.mk 2 0 name t.args) (tmV 2 0 name sl) := by
  obtain ⟨L, hL, hc⟩ := holds_cells (h.there.bel (Below.alloc (Below.refl _ w) (Nat.le_refl _) (.cells #[.int .i64 0, .int .i64 0, .string ⟨#[]⟩, .slice none 0 0] 24)))
  have HC := Lib.hid hc; have HL := Lib.hid hL; clear hc hL
  have htok : Blk (w.alloc (.cells #[.int .i64 0, .int .i64 0, .string ⟨#[]⟩, .slice none 0 0] 24)) w.heap.size #[.int .i64 0, .int .i64 0, .string ⟨#[]⟩, .slice none 0 0] 24 := Blk.new _ _ _
  go_enter Tryz.func14, Tryz.ntmps14
  go_wp2_with fail
  refine (clone_some a t.args.length c (tmRow t.args L) _ (tmRow_spec _ _).1 HC.out (hone L) hlen).mono ?_; rintro e w1 ⟨sl, rfl, hown, hb⟩
  obtain ⟨oa, oc, rfl⟩ := own_shapeT hown
  have HO := Lib.hid hown; clear hown
  have hblk := htok.keep hb
  obtain ⟨t0, t1, t2, t3, z0, z1, z2, z3, ltt⟩ := hblk.fourT
  go_wp2
  (try simp only [Exit.inBlock, Exit.then]); refine bodyPost_ret (res_row rfl _ w.heap.size rfl _ _ _ _ _ ((((hblk.store 0 _).store 1 _).store 2 _).store 3 _)) rfl ?_
  refine ⟨_, rfl, ?_, ?_⟩
  · exact Below.setCell (Below.setCell (Below.setCell (Below.setCell (bcall (Below.alloc (Below.refl _ _) (Nat.le_refl _) _) hb) (Nat.le_refl _) _) (Nat.le_refl _) _) (Nat.le_refl _) _) (Nat.le_refl _) _
  · refine holds_own (base := w.heap.size + 1) (L := L) ?_ (fun b hb => .inr hb) (fun i hi => ?_) 2 0 name
    · have h0 : (w.alloc (.cells #[.int .i64 0, .int .i64 0, .string ⟨#[]⟩, .slice none 0 0] 24)).heap.size = w.heap.size + 1 := by simp
      rw [← h0]
      exact ownsRow_setCell_below (ownsRow_setCell_below (ownsRow_setCell_below (ownsRow_setCell_below HO.out (by rw [h0]; exact Nat.lt_succ_self _) _) (by rw [h0]; exact Nat.lt_succ_self _) _) (by rw [h0]; exact Nat.lt_succ_self _) _) (by rw [h0]; exact Nat.lt_succ_self _) _
    · refine (((HL.out i hi).bel hb).keep (fun b hx => ?_)).mono (fun b hx => .inl hx.1)
      have hne : b ≠ w.heap.size := Nat.ne_of_lt hx.2
      exact (Below.heap_setCell _ _ _ _ hne).trans ((Below.heap_setCell _ _ _ _ hne).trans ((Below.heap_setCell _ _ _ _ hne).trans (Below.heap_setCell _ _ _ _ hne)))
end Go.Proofs.YtcnnobcncklgfaaGreatDoor
