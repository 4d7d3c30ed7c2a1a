/- FlowRises: the loop over the labels. -/
import Derived.Test.YtolcjccpndodaaaFlowLaws
import Derived.Test.YtolcjccpndodaaaBase
import Derived.LoopTactic
import Derived.Deep.LoopGhost
import Derived.Deep.DeepCutAuto
import Derived.Deep.RegionHeld3
namespace Go.Proofs.Ytolcjccpndodaaa
open Go.ChangeShapes Go.WideShapes Go.ChangeAt Go.RowKit
set_option linter.unusedVariables false
def RisesInv (w : World) (B : Nat) (c : Int) (wr : World) : Prop := ∃ p : Int, (0 ≤ p ∧ p < 18446744073709551616) ∧ lq p c = true ∧ Blk wr B #[.int .u64 p, .int .u64 c] 26 ∧ Below w.heap.size w wr
def RisesG (wr : World) (B : Nat) (p q c : Int) (v : Value) (wx : World) : Prop := ∃ g, v = .pointer (some ⟨g, 0, none⟩) ∧ Blk wx g #[.int .u64 q, .int .u64 c] 26 ∧ Blk wx B #[.int .u64 p, .int .u64 c] 26 ∧ Below wr.heap.size wr wx
theorem risesG_a {wr w' : World} {B : Nat} {p q c : Int} (hB : Blk wr B #[.int .u64 p, .int .u64 c] 26) (hb : Below wr.drew.heap.size wr.drew w') :
    RisesG wr B p q c (.pointer (some ⟨w'.heap.size, 0, none⟩)) (w'.alloc (.cells #[.int .u64 q, .int .u64 c] 26)) :=
  ⟨_, rfl, Blk.new _ _ _, (hB.drew.keep hb).alloc _, (by repeat (first | exact Below.refl _ _ | apply ball | apply Below.drew | (refine Below.setCell ?_ (by first | (simp; done) | omega | (simp; omega)) _) | refine bcall ?_ (by assumption)))⟩
theorem risesG_b {wr w' : World} {B : Nat} {p q c : Int} (hB : Blk wr B #[.int .u64 p, .int .u64 c] 26) (hb : Below (wr.alloc (.cells #[.int .u64 0, .int .u64 0] 26)).drew.heap.size (wr.alloc (.cells #[.int .u64 0, .int .u64 0] 26)).drew w') (n0 : wr.heap.size ≠ B) :
    RisesG wr B p q c (.pointer (some ⟨wr.heap.size, 0, none⟩)) ((w'.setCell ⟨wr.heap.size, 0, none⟩ (.int .u64 q)).setCell ⟨wr.heap.size, 1, none⟩ (.int .u64 c)) :=
  ⟨_, rfl, (((Blk.new _ _ _).drew.keep hb).store 0 (.int .u64 q)).store 1 (.int .u64 c), Blk.other (Blk.other (((hB.alloc _).drew).keep hb) n0 _) n0 _, (by repeat (first | exact Below.refl _ _ | apply ball | apply Below.drew | (refine Below.setCell ?_ (by first | (simp; done) | omega | (simp; omega)) _) | refine bcall ?_ (by assumption)))⟩
def RisesH (wr : World) (B g : Nat) (p q s c : Int) (v : Value) (wx : World) : Prop := ∃ h, v = .pointer (some ⟨h, 0, none⟩) ∧ Blk wx h #[.int .u64 s, .int .u64 c] 26 ∧ Blk wx g #[.int .u64 q, .int .u64 c] 26 ∧ Blk wx B #[.int .u64 p, .int .u64 c] 26 ∧ Below wr.heap.size wr wx
theorem risesH_a {wr w' : World} {B g : Nat} {p q s c : Int} (hG : Blk wr g #[.int .u64 q, .int .u64 c] 26) (hB : Blk wr B #[.int .u64 p, .int .u64 c] 26) (hb : Below wr.drew.heap.size wr.drew w') :
    RisesH wr B g p q s c (.pointer (some ⟨w'.heap.size, 0, none⟩)) (w'.alloc (.cells #[.int .u64 s, .int .u64 c] 26)) :=
  ⟨_, rfl, Blk.new _ _ _, (hG.drew.keep hb).alloc _, (hB.drew.keep hb).alloc _, (by repeat (first | exact Below.refl _ _ | apply ball | apply Below.drew | (refine Below.setCell ?_ (by first | (simp; done) | omega | (simp; omega)) _) | refine bcall ?_ (by assumption)))⟩
theorem risesH_b {wr w' : World} {B g : Nat} {p q s c : Int} (hG : Blk wr g #[.int .u64 q, .int .u64 c] 26) (hB : Blk wr B #[.int .u64 p, .int .u64 c] 26) (hb : Below (wr.alloc (.cells #[.int .u64 0, .int .u64 0] 26)).drew.heap.size (wr.alloc (.cells #[.int .u64 0, .int .u64 0] 26)).drew w') (n0 : wr.heap.size ≠ g) (n1 : wr.heap.size ≠ B) :
    RisesH wr B g p q s c (.pointer (some ⟨wr.heap.size, 0, none⟩)) ((w'.setCell ⟨wr.heap.size, 0, none⟩ (.int .u64 s)).setCell ⟨wr.heap.size, 1, none⟩ (.int .u64 c)) :=
  ⟨_, rfl, (((Blk.new _ _ _).drew.keep hb).store 0 (.int .u64 s)).store 1 (.int .u64 c), Blk.other (Blk.other (((hG.alloc _).drew).keep hb) n0 _) n0 _, Blk.other (Blk.other (((hB.alloc _).drew).keep hb) n1 _) n1 _, (by repeat (first | exact Below.refl _ _ | apply ball | apply Below.drew | (refine Below.setCell ?_ (by first | (simp; done) | omega | (simp; omega)) _) | refine bcall ?_ (by assumption)))⟩
theorem risesB {w w1 w2 wr wc wd : World} {u v : Value} (hbl : Below w.heap.size w wr) (h1 : Below wr.heap.size wr wc) (h2 : Below wc.heap.size wc wd) (hlt : w2.heap.size < wr.heap.size) (hb2 : Below w1.heap.size w1 w2) (hb1 : Below w.heap.size w w1) :
    Below w.heap.size w ((wd.setCell ⟨w2.heap.size, 0, none⟩ u).setCell ⟨w2.heap.size, 1, none⟩ v) :=
  Below.setCell (Below.setCell (bcall (bcall hbl h1) h2) (Nat.le_trans hb1.size hb2.size) _) (Nat.le_trans hb1.size hb2.size) _
set_option maxRecDepth 100000 in
set_option maxHeartbeats 2000000 in
theorem flowRises_loop (a0 a1 : Int) (sa : Option Addr) (len cap : Nat) (zs : Nat → Int) (w : World) (hl : len ≤ 100) 
    (hc : ∀ j, j < len → ∃ b off, sa = some ⟨b, off, none⟩ ∧ w.cell? ⟨b, off + j, none⟩ = some (.int .u64 (zs j))) : 
    Calls Try.prog 4 #[.int .u64 a0, .int .u64 a1, .slice sa len cap] w fun e w' => e = .returned (.bool true) ∧ Below w.heap.size w w' := by
  obtain ⟨p, hp⟩ : ∃ p, p = bits .and .u64 a0 a1 := ⟨_, rfl⟩
  have P := Lib.hid hp
  have H := Lib.hid (show lq p a1 = true by rw [hp]; exact lq_mt a0 a1)
  have R := Lib.hid (show 0 ≤ p ∧ p < 18446744073709551616 by rw [hp]; exact mt_range a0 a1)
  have HC := Lib.hid hc
  clear hp hc
  have hl2 : ¬ (100 : Int) < (len : Int) := by omega
  go_enter Try.func4, Try.ntmps4
  go_wp2_with fail
  refine (awake_any _).mono ?_; rintro e w1 ⟨rfl, hb1⟩
  go_wp2_with fail
  rw [← P.out]
  refine (new_t p a1 _ H.out).mono ?_; rintro e w2 ⟨rfl, hb2⟩
  go_wp2_with fail
  go_loopg [9] len (fun n i wr => ∃ k : Nat, k ≤ len ∧ n = len - k ∧ i = .int .i64 k ∧ RisesInv w w2.heap.size a1 wr)
  case atStart => exact ⟨0, Nat.zero_le _, rfl, rfl, p, R.out, H.out, Blk.new _ _ _, (by repeat (first | exact Below.refl _ _ | apply ball | apply Below.drew | (refine Below.setCell ?_ (by first | (simp; done) | omega | (simp; omega)) _) | refine bcall ?_ (by assumption)))⟩
  case round =>
    obtain ⟨k, hk, hgk, rfl, r, hr, hlr, hB, hbl⟩ := hrel
    have GK := Lib.hid hgk; clear hgk
    have HR := Lib.hid hr; have HL := Lib.hid hlr; clear hr hlr
    by_cases hlt : k < len
    · obtain ⟨b, off, hsa, hck⟩ := HC.out k hlt
      subst hsa
      have hck2 : wr.cell? ⟨b, off + k, none⟩ = some (.int .u64 (zs k)) := by rw [hbl.cell (cell_lt hck)]; exact hck
      have hk1 : (k : Int) < (len : Int) := by omega
      have hk0 : (0 : Int) ≤ (k : Int) := by omega
      clear hck
      obtain ⟨x0, x1, x2, x3, x4⟩ := hB.two
      obtain ⟨z, hz⟩ : ∃ z, z = zs k := ⟨_, rfl⟩
      rw [← hz] at hck2
      clear hz
      obtain ⟨q, hq⟩ : ∃ q, jn r (mt z a1) = q := ⟨_, rfl⟩
      have Q := Lib.hid hq
      have QR := Lib.hid (hq ▸ jn_range r (mt z a1))
      have QL := Lib.hid (show lq q a1 = true from hq ▸ lq_jn_of HL.out (lq_mt _ _))
      have G1 := Lib.hid (show lq r q = true from hq ▸ lq_jn_left _ _)
      clear hq
      obtain ⟨s, hs⟩ : ∃ s, jn q (mt z a1) = s := ⟨_, rfl⟩
      have SS := Lib.hid hs
      have SR := Lib.hid (hs ▸ jn_range q (mt z a1))
      have SL := Lib.hid (show lq s a1 = true from hs ▸ lq_jn_of QL.out (lq_mt _ _))
      have G2 := Lib.hid (show lq q s = true from hs ▸ lq_jn_left _ _)
      clear hs
      have HZ := Lib.hid (show ∀ W' : World, Below (wr.alloc (.cells #[.int .u64 0, .int .u64 0] 26)).drew.heap.size (wr.alloc (.cells #[.int .u64 0, .int .u64 0] 26)).drew W' → _ from fun W' hb => ((Blk.new _ _ _).drew.keep hb).two)
      have n0 := World.new_ne wr _ x0
      have n1 := World.new_ne wr _ x1
      have n2 := World.new_ne wr _ hck2
      go_upto_region 9 with fail
      go_cut [10] (fun v wx => RisesG wr w2.heap.size r q a1 v wx)
      case first =>
        go_region_held3 (fun w' => w'.cell? ⟨w2.heap.size, 0, none⟩ = some (.int .u64 r) ∧ w'.cell? ⟨w2.heap.size, 1, none⟩ = some (.int .u64 a1) ∧ w'.cell? ⟨b, off + k, none⟩ = some (.int .u64 z)) (go_keep) ((go_at_call 10; refine (call_b r a1 z _ q (zero_or HR.out.1 HR.out.2) Q.out).mono ?_; rintro e w' ⟨rfl, hb⟩; have s0 := keep hb (a := ⟨w2.heap.size, 0, none⟩) (v := .int .u64 r) (by go_simp); have s1 := keep hb (a := ⟨w2.heap.size, 1, none⟩) (v := .int .u64 a1) (by go_simp); have s2 := keep hb (a := ⟨b, off + k, none⟩) (v := .int .u64 z) (by go_simp); (first | (have y := HZ.out _ hb; obtain ⟨y0, y1, y2, y3, y4⟩ := y) | skip)))
        all_goals (go_wp2_with fail; go_meet)
        · exact risesG_a hB hb
        · exact risesG_b hB hb n0
      case rest =>
        obtain ⟨g, rfl, hG, hB1, hb1'⟩ := hcut
        have hck3 := keep hb1' hck2
        clear hck2 x0 x1 x2 x3 x4 n0 n1 n2 HZ
        obtain ⟨x0, x1, x2, x3, x4⟩ := hB1.two
        obtain ⟨y0, y1, y2, y3, y4⟩ := hG.two
        have n0 := World.new_ne wc _ y0
        have n1 := World.new_ne wc _ y1
        have n2 := World.new_ne wc _ hck3
        have HZ := Lib.hid (show ∀ W' : World, Below (wc.alloc (.cells #[.int .u64 0, .int .u64 0] 26)).drew.heap.size (wc.alloc (.cells #[.int .u64 0, .int .u64 0] 26)).drew W' → _ from fun W' hb => ((Blk.new _ _ _).drew.keep hb).two)
        have ZZ := Lib.hid (show bits .and .u64 z a1 = mt z a1 from rfl)
        go_upto_region 10 with fail
        go_cut [11, 12] (fun v e wx => e = .int .i64 0 ∧ RisesH wc w2.heap.size g r q s a1 v wx)
        case first =>
          go_region_held3 (fun w' => w'.cell? ⟨g, 0, none⟩ = some (.int .u64 q) ∧ w'.cell? ⟨g, 1, none⟩ = some (.int .u64 a1) ∧ w'.cell? ⟨b, off + k, none⟩ = some (.int .u64 z)) (go_keep) ((go_at_call 13; rw [ZZ.out]; refine (open_b q a1 (mt z a1) _ s (zero_or QR.out.1 QR.out.2) (lq_mt z a1) SS.out).mono ?_; rintro e w' ⟨rfl, hb⟩; have s0 := keep hb (a := ⟨g, 0, none⟩) (v := .int .u64 q) (by go_simp); have s1 := keep hb (a := ⟨g, 1, none⟩) (v := .int .u64 a1) (by go_simp); have s2 := keep hb (a := ⟨b, off + k, none⟩) (v := .int .u64 z) (by go_simp); (first | (have y := HZ.out _ hb; obtain ⟨y0, y1, y2, y3, y4⟩ := y) | skip)))
          all_goals (go_wp2_with fail; go_meet)
          · exact ⟨rfl, risesH_a hG hB1 hb⟩
          · exact ⟨rfl, risesH_b hG hB1 hb n0 (Nat.ne_of_gt x4)⟩
        case rest =>
          obtain ⟨rfl, h, rfl, hH, hG2, hB2, hb2'⟩ := hcut
          clear hck3 x0 x1 x2 x3 x4 y0 y1 y2 y3 y4 n0 n1 n2 HZ ZZ HC
          obtain ⟨x0, x1, x2, x3, x4⟩ := hB2.two
          obtain ⟨y0, y1, y2, y3, y4⟩ := hG2.two
          obtain ⟨z0, z1, z2, z3, z4⟩ := hH.two
          go_wp2_with (go_at_call 11; (first | (with_reducible refine (leq_b r q _ G1.out _).mono ?_) | (with_reducible refine (leq_b q s _ G2.out _).mono ?_) | (with_reducible refine (leq_b s a1 _ SL.out _).mono ?_)); rintro e w' ⟨rfl, rfl⟩)
          go_roundg (gk - 1)
          case measure => have := GK.out; omega
          case rel => exact ⟨k + 1, by omega, by have := GK.out; omega, by go_num, s, SR.out, SL.out, (hB2.store 0 (.int .u64 s)).store 1 (.int .u64 a1), risesB hbl hb1' hb2' hB.lt hb2 hb1⟩
    · have hk2 : ¬ (k : Int) < (len : Int) := by omega
      go_wp2
      go_ret
      exact ⟨rfl, hbl⟩
set_option maxRecDepth 100000 in
theorem flowRises_big (a0 a1 : Int) (sa : Option Addr) (len cap : Nat) (w : World) (hl : 100 < len) : 
    Calls Try.prog 4 #[.int .u64 a0, .int .u64 a1, .slice sa len cap] w fun e w' => e = .returned (.bool true) ∧ Below w.heap.size w w' := by
  obtain ⟨p, hp⟩ : ∃ p, p = bits .and .u64 a0 a1 := ⟨_, rfl⟩
  have P := Lib.hid hp
  have H := Lib.hid (show lq p a1 = true by rw [hp]; exact lq_mt a0 a1)
  clear hp
  have hl2 : (100 : Int) < (len : Int) := by omega
  go_enter Try.func4, Try.ntmps4
  go_wp2_with fail
  refine (awake_any _).mono ?_; rintro e w1 ⟨rfl, hb1⟩
  go_wp2_with fail
  rw [← P.out]
  refine (new_t p a1 _ H.out).mono ?_; rintro e w2 ⟨rfl, hb2⟩
  go_wp2
  go_ret
  exact ⟨rfl, (by repeat (first | exact Below.refl _ _ | apply ball | apply Below.drew | (refine Below.setCell ?_ (by first | (simp; done) | omega | (simp; omega)) _) | refine bcall ?_ (by assumption)))⟩
theorem flowRises_any (a0 a1 : Int) (sa : Option Addr) (len cap : Nat) (zs : Nat → Int) (w : World)
    (hc : ∀ j, j < len → ∃ b off, sa = some ⟨b, off, none⟩ ∧ w.cell? ⟨b, off + j, none⟩ = some (.int .u64 (zs j))) : 
    Calls Try.prog 4 #[.int .u64 a0, .int .u64 a1, .slice sa len cap] w fun e w' => e = .returned (.bool true) ∧ Below w.heap.size w w' := by
  by_cases hl : len ≤ 100
  · exact flowRises_loop a0 a1 sa len cap zs w hl hc
  · exact flowRises_big a0 a1 sa len cap w (by omega)
end Go.Proofs.Ytolcjccpndodaaa
