/- The contracts of term.Size, Depth, Good. -/
import Derived.Test.YtcnnobcncklgfaaGreatDoorEachS
namespace Go.Proofs.YtcnnobcncklgfaaGreatDoor
open Go Go.ChangeShapes Go.WideShapes Go.ChangeAt Go.RowKit
set_option linter.unusedVariables false
def Tm.good (t : Tm) : Bool := decide (t.size ≤ 2000) && decide (t.height ≤ 64) && t.allG
set_option maxHeartbeats 4000000 in
theorem size_any {X : Nat → Prop} (N : Nat) (hN : N ≤ 1000) (t : Tm) (hf : Fine N t) (w : World) (v : Value) (h : Holds w X t v) :
    Calls Tryz.prog 45 #[v] w fun e w' => e = .returned (.int .i64 (min t.size 2001 : Nat)) ∧ Below w.heap.size w w' := by
  obtain ⟨sl, rfl⟩ := h.form
  obtain ⟨a, c, rfl⟩ := h.args
  have h0 : Holds w (· < w.heap.size) t (tmV t.kind t.num t.name (.slice a t.args.length c)) := h.there.mono fun b hb => hb.2
  have HH := Lib.hid h0; clear h h0
  have HF := Lib.hid hf; clear hf
  simp only [tmV]
  go_enter Tryz.func45, Tryz.ntmps45
  go_wp2_with fail
  have hb : Blk ((w.alloc (.cells #[.int .i64 t.kind, .int .i64 t.num, .string ⟨t.name.toArray⟩, .slice a t.args.length c] 24)).alloc (.cells #[.int .i64 0] 3)) (w.heap.size + 1) #[.int .i64 (0 : Nat)] 3 := by
    have := Blk.new (w.alloc (.cells #[.int .i64 t.kind, .int .i64 t.num, .string ⟨t.name.toArray⟩, .slice a t.args.length c] 24)) #[.int .i64 0] 3
    simpa using this
  refine (each_size w.heap.size (w.heap.size + 1) N hN t HF.out _ (by omega) hb _ (HH.out.keep fun b hb => by rw [Below.heap_alloc _ _ _ (by simp; omega), Below.heap_alloc _ _ _ hb])).mono ?_
  rintro e w1 ⟨⟨b, rfl⟩, hblk, hbel⟩
  obtain ⟨c0, f0, hl⟩ := hblk.one
  go_wp2
  go_ret
  exact ⟨rfl, (Below.alloc (Below.alloc (Below.refl _ _) (Nat.le_refl _) _) (by simp) _).trans hbel⟩
set_option maxHeartbeats 4000000 in
theorem tdepth_any {X : Nat → Prop} (t : Tm) (w : World) (v : Value) (h : Holds w X t v) :
    Calls Tryz.prog 46 #[v] w fun e w' => e = .returned (.int .i64 (min (t.height : Int) 65)) ∧ Below w.heap.size w w' := by
  obtain ⟨sl, rfl⟩ := h.form
  obtain ⟨a, c, rfl⟩ := h.args
  have HH := Lib.hid h; clear h
  simp only [tmV]
  go_enter Tryz.func46, Tryz.ntmps46
  go_wp2_with fail
  refine (depth_any t.height t (Nat.le_refl _) _ _ (HH.out.bel (Below.alloc (Below.refl _ _) (Nat.le_refl _) _)) 65 (by omega) (by omega)).mono ?_
  rintro e w1 ⟨rfl, hbel⟩
  go_wp2
  go_ret
  exact ⟨rfl, bcall (Below.alloc (Below.refl _ _) (Nat.le_refl _) _) hbel⟩
set_option maxHeartbeats 4000000 in
theorem good_any {X : Nat → Prop} (N : Nat) (hN : N ≤ 1000) (t : Tm) (hf : Fine N t) (w : World) (v : Value) (h : Holds w X t v) :
    Calls Tryz.prog 15 #[v] w fun e w' => e = .returned (.bool t.good) ∧ Below w.heap.size w w' := by
  obtain ⟨sl, rfl⟩ := h.form
  obtain ⟨a, c, rfl⟩ := h.args
  have HH := Lib.hid h; clear h
  have HF := Lib.hid hf; clear hf
  have hn := Blk.new w #[.int .i64 t.kind, .int .i64 t.num, .string ⟨t.name.toArray⟩, .slice a t.args.length c] 24
  have hb0 : Below w.heap.size w (w.alloc (.cells #[.int .i64 t.kind, .int .i64 t.num, .string ⟨t.name.toArray⟩, .slice a t.args.length c] 24)) := Below.alloc (Below.refl _ _) (Nat.le_refl _) _
  by_cases h1 : t.size ≤ 2000
  · have h1' : ((min t.size 2001 : Nat) : Int) ≤ 2000 := by omega
    by_cases h2 : t.height ≤ 64
    · have h2' : min (t.height : Int) 65 ≤ 64 := by omega
      simp only [tmV]
      go_enter Tryz.func15, Tryz.ntmps15
      go_wp2_with fail
      refine (size_any N hN t HF.out _ _ (HH.out.bel hb0)).mono ?_; rintro e w1 ⟨rfl, hb1⟩
      obtain ⟨t0, t1, t2, t3, z0, z1, z2, z3, ltt⟩ := (hn.keep hb1).fourT
      have hb1' := bcall hb0 hb1
      go_wp2_with fail
      refine (tdepth_any t _ _ (HH.out.bel hb1')).mono ?_; rintro e w2 ⟨rfl, hb2⟩
      obtain ⟨t0, t1, t2, t3, z0, z1, z2, z3, ltt⟩ := ((hn.keep hb1).keep hb2).fourT
      have hb2' := bcall hb1' hb2
      go_wp2_with fail
      refine (each_good N hN t HF.out (by omega) _ _ (HH.out.bel hb2')).mono ?_; rintro e w3 ⟨rfl, hb3⟩
      go_wp2
      go_ret
      exact ⟨by simp [Tm.good, h1, h2], bcall hb2' hb3⟩
    · have h2' : ¬ min (t.height : Int) 65 ≤ 64 := by omega
      simp only [tmV]
      go_enter Tryz.func15, Tryz.ntmps15
      go_wp2_with fail
      refine (size_any N hN t HF.out _ _ (HH.out.bel hb0)).mono ?_; rintro e w1 ⟨rfl, hb1⟩
      obtain ⟨t0, t1, t2, t3, z0, z1, z2, z3, ltt⟩ := (hn.keep hb1).fourT
      have hb1' := bcall hb0 hb1
      go_wp2_with fail
      refine (tdepth_any t _ _ (HH.out.bel hb1')).mono ?_; rintro e w2 ⟨rfl, hb2⟩
      go_wp2
      go_ret
      exact ⟨by simp [Tm.good, h2], bcall hb1' hb2⟩
  · have h1' : ¬ ((min t.size 2001 : Nat) : Int) ≤ 2000 := by omega
    simp only [tmV]
    go_enter Tryz.func15, Tryz.ntmps15
    go_wp2_with fail
    refine (size_any N hN t HF.out _ _ (HH.out.bel hb0)).mono ?_; rintro e w1 ⟨rfl, hb1⟩
    go_wp2
    go_ret
    exact ⟨by simp [Tm.good, h1], bcall hb0 hb1⟩
end Go.Proofs.YtcnnobcncklgfaaGreatDoor
