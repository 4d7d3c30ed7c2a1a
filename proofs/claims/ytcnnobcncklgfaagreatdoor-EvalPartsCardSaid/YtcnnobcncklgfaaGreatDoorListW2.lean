/- term.Comp of cells; term.List. -/
import Derived.Test.YtcnnobcncklgfaaGreatDoorTermComp2
import Derived.Test.YtcnnobcncklgfaaGreatDoorListW
namespace Go.Proofs.YtcnnobcncklgfaaGreatDoor
open Go Go.RowKit Go.Shelf
set_option linter.unusedVariables false
theorem ownsRow_lower {w : World} {base base' : Nat} {e : TypeId} {size : Nat} {v : Value} {n : Nat} {xs : List Value} (hb : base' ≤ base) (h : w.ownsRow base e size v n xs) : w.ownsRow base' e size v n xs := by
  obtain ⟨h1, h2 | ⟨g, cap, cur, rfl, h3, h4⟩⟩ := h
  · exact ⟨h1, .inl h2⟩
  · exact ⟨h1, .inr ⟨g, cap, cur, rfl, Nat.le_trans hb h3, h4⟩⟩
set_option maxRecDepth 100000 in
theorem comp_raw (name : ByteArray) (a : Addr) (n c : Nat) (news : List Value) (w : World) (hl : news.length = n * 4) (hc : ∀ j u, news[j]? = some u → w.cell? (a.add j) = some u) (h1 : ∀ u ∈ news, u.oneCell' = true) (hlen : n ≤ 1000000000) :
    Calls Tryz.prog 14 #[.string name, .slice (some a) n c] w fun e w' => ∃ sl, e = .returned (.agg #[.int .i64 2, .int .i64 0, .string name, sl]) ∧ Below w.heap.size w w' ∧ w'.ownsRow w.heap.size 24 4 sl n news := by
  have hk : ∀ j u, news[j]? = some u → (w.alloc (.cells #[.int .i64 0, .int .i64 0, .string ⟨#[]⟩, .slice none 0 0] 24)).cell? (a.add j) = some u := fun j u hu => (World.cell?_alloc_lt _ _ _ (World.block_lt_of_cell? w _ (hc j u hu))).trans (hc j u hu)
  have HC := Lib.hid hk; have HL := Lib.hid hl; have H1 := Lib.hid h1; clear hk hc hl h1
  have htok : Blk (w.alloc (.cells #[.int .i64 0, .int .i64 0, .string ⟨#[]⟩, .slice none 0 0] 24)) w.heap.size #[.int .i64 0, .int .i64 0, .string ⟨#[]⟩, .slice none 0 0] 24 := Blk.new _ _ _
  go_enter Tryz.func14, Tryz.ntmps14
  go_wp2_with fail
  refine (clone_some a n c news _ HL.out HC.out H1.out hlen).mono ?_; rintro e w1 ⟨sl, rfl, hown, hb⟩
  obtain ⟨oa, oc, rfl⟩ := own_shapeT hown
  have HO := Lib.hid hown; clear hown
  have hblk := htok.keep hb
  obtain ⟨t0, t1, t2, t3, z0, z1, z2, z3, ltt⟩ := hblk.fourT
  go_wp2
  (try simp only [Exit.inBlock, Exit.then]); refine bodyPost_ret (res_row rfl _ w.heap.size rfl _ _ _ _ _ ((((hblk.store 0 _).store 1 _).store 2 _).store 3 _)) rfl ?_
  refine ⟨_, rfl, ?_, ?_⟩
  · exact Below.setCell (Below.setCell (Below.setCell (Below.setCell (bcall (Below.alloc (Below.refl _ _) (Nat.le_refl _) _) hb) (Nat.le_refl _) _) (Nat.le_refl _) _) (Nat.le_refl _) _) (Nat.le_refl _) _
  · have h0 : (w.alloc (.cells #[.int .i64 0, .int .i64 0, .string ⟨#[]⟩, .slice none 0 0] 24)).heap.size = w.heap.size + 1 := by simp
    refine ownsRow_lower (show w.heap.size ≤ w.heap.size + 1 from Nat.le_succ _) ?_
    rw [← h0]
    exact ownsRow_setCell_below (ownsRow_setCell_below (ownsRow_setCell_below (ownsRow_setCell_below HO.out (by rw [h0]; exact Nat.lt_succ_self _) _) (by rw [h0]; exact Nat.lt_succ_self _) _) (by rw [h0]; exact Nat.lt_succ_self _) _) (by rw [h0]; exact Nat.lt_succ_self _) _
end Go.Proofs.YtcnnobcncklgfaaGreatDoor
