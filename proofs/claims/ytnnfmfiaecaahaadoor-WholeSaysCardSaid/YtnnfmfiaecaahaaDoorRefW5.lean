/- The contract of the document's own answer to chapter 2: Num. -/
import Derived.Test.YtnnfmfiaecaahaaDoorRefW4
import Derived.Lib.ItoaMem
import Derived.Lib.ItoaLen
import Derived.Deep.RegionWith
import Derived.Laws.IdiomStrings
namespace Go.Proofs.YtnnfmfiaecaahaaDoor
open Go Go.ChangeShapes Go.WideShapes Go.ChangeAt Go.RowKit
set_option linter.unusedVariables false
theorem conv1 (z : Int) (c : UInt8) (hz : z = c.toNat) (wx : World) (B : Nat) (h : wx.cell? ⟨B, 0, none⟩ = some (.int .u8 z)) : (convert 41 9 (.slice (some ⟨B, 0, none⟩) 1 1)).run Tryd.prog wx = .ok (.string ⟨#[c]⟩) wx := by
  refine run_convert_bytes_back wx 41 9 5 ⟨B, 0, none⟩ 1 [c] Tryd.underlying41 Tryd.underlying5 Tryd.underlying9 fun j hj => ?_
  have : j = 0 := by simp at hj; omega
  subst this
  subst hz
  exact h
theorem keepn {w w' : World} (hb : Below w.heap.size w w') {a : Addr} {v : Value} (h : w.cell? a = some v) : w'.cell? a = some v :=
  (World.cell?_of_block (hb.block a.block (World.block_lt_of_cell? w a h))).trans h
theorem dec_step {u : Nat} (h : ¬ u < 10) : Lib.decDigits u = Lib.decDigits (u / 10) ++ [UInt8.ofNat (48 + u % 10)] := by rw [Lib.decDigits, dif_neg h]
theorem itoa_pos {n : Int} (h : 10 ≤ n) : Lib.itoa n = Lib.itoa (n.tdiv 10) ++ [UInt8.ofNat (48 + (n.tmod 10).natAbs)] := by
  obtain ⟨u, rfl⟩ := Int.eq_ofNat_of_zero_le (show 0 ≤ n by omega)
  have e1 : ((u : Int).tdiv 10) = ((u / 10 : Nat) : Int) := rfl
  have e2 : ((u : Int).tmod 10) = ((u % 10 : Nat) : Int) := rfl
  rw [e1, e2, Lib.itoa_nonneg, Lib.itoa_nonneg, dec_step (by omega)]; rfl
theorem itoa_minus {n : Int} (h : n ≤ -10) : Lib.itoa n = Lib.itoa (n.tdiv 10) ++ [UInt8.ofNat (48 + (n.tmod 10).natAbs)] := by
  obtain ⟨u, hu⟩ := Int.eq_ofNat_of_zero_le (show 0 ≤ -n by omega)
  obtain rfl : n = -(u : Int) := by omega
  have e1 : ((-(u : Int)).tdiv 10) = -((u / 10 : Nat) : Int) := by rw [Int.neg_tdiv]; rfl
  have e2 : ((-(u : Int)).tmod 10) = -((u % 10 : Nat) : Int) := by rw [Int.neg_tmod]; rfl
  rw [e1, e2, Lib.itoa_neg u (by omega), Lib.itoa_neg (u / 10) (by omega), dec_step (by omega), Int.natAbs_neg, Int.natAbs_natCast]
  rfl
theorem itoa_small {n : Int} (h0 : 0 ≤ n) (h : n < 10) : Lib.itoa n = [UInt8.ofNat (48 + n.natAbs)] := by
  obtain ⟨u, rfl⟩ := Int.eq_ofNat_of_zero_le h0
  rw [Lib.itoa_nonneg, Lib.decDigits_one (by omega)]; rfl
theorem itoa_small' {n : Int} (h0 : n < 0) (h : -10 < n) : Lib.itoa n = [45, UInt8.ofNat (48 + n.natAbs)] := by
  obtain ⟨u, hu⟩ := Int.eq_ofNat_of_zero_le (show 0 ≤ -n by omega)
  obtain rfl : n = -(u : Int) := by omega
  rw [Lib.itoa_neg u (by omega), Lib.decDigits_one (by omega), Int.natAbs_neg, Int.natAbs_natCast]
theorem ofNat_dig {k : Nat} (h : k < 10) : ((UInt8.ofNat (48 + k)).toNat : Int) = 48 + (k : Int) := by
  simp; omega
theorem str_app (l : List UInt8) (c : UInt8) : (⟨l.toArray⟩ ++ ⟨#[c]⟩ : ByteArray) = ⟨(l ++ [c]).toArray⟩ := by
  apply ByteArray.ext
  apply Array.toList_inj.mp
  simp
set_option maxHeartbeats 4000000 in
theorem rnum_any : ∀ (m : Nat) (n : Int), n.natAbs < m → i64 n → ∀ w : World, Calls Tryd.prog 14 #[.int .i64 n] w fun e w' => e = .returned (.string ⟨(Lib.itoa n).toArray⟩) ∧ Below w.heap.size w w' := by
  intro m
  induction m with
  | zero => intro n h; omega
  | succ m ih =>
    intro n hm hn w
    have A := Lib.hid hn
    obtain ⟨n0, n1⟩ := hn
    obtain ⟨L, hL⟩ : ∃ L, L = Lib.itoa n := ⟨_, rfl⟩
    rw [← hL]
    have HL := Lib.hid hL; clear hL
    by_cases hneg : n < 0
    · by_cases h10 : -10 < n
      · have HT := Lib.hid (HL.out.trans (itoa_small' hneg h10))
        have k1 : IntKind.i64.wrap (48 - n) = 48 - n := IntWalk.i64_in _ (by omega)
        have k2 : IntKind.u8.wrap (48 - n) = 48 - n := by unfold IntKind.wrap; simp [IntKind.bits, IntKind.signed]; omega
        obtain ⟨c, hc⟩ : ∃ c, c = UInt8.ofNat (48 + n.natAbs) := ⟨_, rfl⟩
        have hcv := conv1 (48 - n) c (by rw [hc, ofNat_dig (by omega)]; omega)
        have HC := Lib.hid hc; clear hc
        go_enter Tryd.func14, Tryd.ntmps14
        go_wp2
        go_ret
        exact ⟨by rw [HT.out, ← HC.out]; rfl, Below.alloc (Below.refl _ _) (Nat.le_refl _) _⟩
      · have h10' : n ≤ -10 := by omega
        have HT := Lib.hid (HL.out.trans (itoa_minus h10'))
        have hr := Int.tmod_lt_of_pos (-n) (show (0 : Int) < 10 by decide)
        rw [Int.neg_tmod] at hr
        have hr0 := Int.tmod_nonneg 10 (show 0 ≤ -n by omega)
        rw [Int.neg_tmod] at hr0
        have hd := Int.tdiv_eq_ediv_of_nonneg (b := 10) (show 0 ≤ -n by omega)
        rw [Int.neg_tdiv] at hd
        have k0 : IntKind.i64.wrap (n.tdiv 10) = n.tdiv 10 := IntWalk.i64_in _ (by omega)
        have kr : IntKind.i64.wrap (n.tmod 10) = n.tmod 10 := IntWalk.i64_in _ (by omega)
        have k1 : IntKind.i64.wrap (48 - n.tmod 10) = 48 - n.tmod 10 := IntWalk.i64_in _ (by omega)
        have k2 : IntKind.u8.wrap (48 - n.tmod 10) = 48 - n.tmod 10 := by unfold IntKind.wrap; simp [IntKind.bits, IntKind.signed]; omega
        obtain ⟨c, hc⟩ : ∃ c, c = UInt8.ofNat (48 + (n.tmod 10).natAbs) := ⟨_, rfl⟩
        have hcv := conv1 (48 - n.tmod 10) c (by rw [hc, ofNat_dig (by omega)]; omega)
        have HC := Lib.hid hc; clear hc
        have HI : Hid (∀ w : World, Calls Tryd.prog 14 #[.int .i64 (n.tdiv 10)] w fun e w' => e = .returned (.string ⟨(Lib.itoa (n.tdiv 10)).toArray⟩) ∧ Below w.heap.size w w') := Lib.hid (ih (n.tdiv 10) (by omega) (by unfold i64; omega))
        have hlen : (Lib.itoa (n.tdiv 10)).length ≤ 21 := Lib.itoa_length_le _ (by omega) (by omega)
        clear hd
        go_enter Tryd.func14, Tryd.ntmps14
        go_wp2_with fail
        go_region_with ((go_at_call 14; refine (HI.out _).mono ?_; rintro e w' ⟨rfl, hb⟩; have s0 := fun (a : Addr) (ha : a.block < _) => World.cell?_of_block (a := a) (hb.block a.block ha)))
        all_goals go_wp2
        all_goals go_ret
        all_goals refine ⟨(by rw [HT.out, ← HC.out, ← str_app]; rfl), ?_⟩
        all_goals first
          | exact Below.alloc (bcall (Below.drew (Below.refl _ _)) hb) (by have := hb.size; exact this) _
          | exact bcall (Below.drew (ball (Below.refl _ _) _)) hb
          | exact bcall (ball (Below.drew (Below.refl _ _)) _) hb
    · by_cases h10 : n < 10
      · have HT := Lib.hid (HL.out.trans (itoa_small (by omega) h10))
        have k1 : IntKind.i64.wrap (48 + n) = 48 + n := IntWalk.i64_in _ (by omega)
        have k2 : IntKind.u8.wrap (48 + n) = 48 + n := by unfold IntKind.wrap; simp [IntKind.bits, IntKind.signed]; omega
        obtain ⟨c, hc⟩ : ∃ c, c = UInt8.ofNat (48 + n.natAbs) := ⟨_, rfl⟩
        have hcv := conv1 (48 + n) c (by rw [hc, ofNat_dig (by omega)]; omega)
        have HC := Lib.hid hc; clear hc
        go_enter Tryd.func14, Tryd.ntmps14
        go_wp2
        go_ret
        exact ⟨by rw [HT.out, ← HC.out]; rfl, Below.alloc (Below.refl _ _) (Nat.le_refl _) _⟩
      · have h10' : 10 ≤ n := by omega
        have HT := Lib.hid (HL.out.trans (itoa_pos h10'))
        have hr := Int.tmod_lt_of_pos n (show (0 : Int) < 10 by decide)
        have hr0 := Int.tmod_nonneg 10 (show 0 ≤ n by omega)
        have hd := Int.tdiv_eq_ediv_of_nonneg (b := 10) (show 0 ≤ n by omega)
        have k0 : IntKind.i64.wrap (n.tdiv 10) = n.tdiv 10 := IntWalk.i64_in _ (by omega)
        have kr : IntKind.i64.wrap (n.tmod 10) = n.tmod 10 := IntWalk.i64_in _ (by omega)
        have k1 : IntKind.i64.wrap (48 + n.tmod 10) = 48 + n.tmod 10 := IntWalk.i64_in _ (by omega)
        have k2 : IntKind.u8.wrap (48 + n.tmod 10) = 48 + n.tmod 10 := by unfold IntKind.wrap; simp [IntKind.bits, IntKind.signed]; omega
        obtain ⟨c, hc⟩ : ∃ c, c = UInt8.ofNat (48 + (n.tmod 10).natAbs) := ⟨_, rfl⟩
        have hcv := conv1 (48 + n.tmod 10) c (by rw [hc, ofNat_dig (by omega)]; omega)
        have HC := Lib.hid hc; clear hc
        have HI : Hid (∀ w : World, Calls Tryd.prog 14 #[.int .i64 (n.tdiv 10)] w fun e w' => e = .returned (.string ⟨(Lib.itoa (n.tdiv 10)).toArray⟩) ∧ Below w.heap.size w w') := Lib.hid (ih (n.tdiv 10) (by omega) (by unfold i64; omega))
        have hlen : (Lib.itoa (n.tdiv 10)).length ≤ 21 := Lib.itoa_length_le _ (by omega) (by omega)
        clear hd
        go_enter Tryd.func14, Tryd.ntmps14
        go_wp2_with fail
        go_region_with ((go_at_call 14; refine (HI.out _).mono ?_; rintro e w' ⟨rfl, hb⟩; have s0 := fun (a : Addr) (ha : a.block < _) => World.cell?_of_block (a := a) (hb.block a.block ha)))
        all_goals go_wp2
        all_goals go_ret
        all_goals refine ⟨(by rw [HT.out, ← HC.out, ← str_app]; rfl), ?_⟩
        all_goals first
          | exact Below.alloc (bcall (Below.drew (Below.refl _ _)) hb) (by have := hb.size; exact this) _
          | exact bcall (Below.drew (ball (Below.refl _ _) _)) hb
          | exact bcall (ball (Below.drew (Below.refl _ _)) _) hb
end Go.Proofs.YtnnfmfiaecaahaaDoor
