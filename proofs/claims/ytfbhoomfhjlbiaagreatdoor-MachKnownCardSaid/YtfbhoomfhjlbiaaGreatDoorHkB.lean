/- The contract of the document's own answer to chapter 2: Num; its hook.   What stands in for strings.Count, of one byte; for slices.Clone of numbers. -/
import Derived.Test.YtfbhoomfhjlbiaaGreatDoorTermA
import Derived.Test.YtfbhoomfhjlbiaaGreatDoorHkA
import Derived.Lib.ItoaMem
import Derived.Lib.ItoaLen
import Derived.Deep.RegionWith
import Derived.Laws.IdiomStrings
import Derived.Test.YtfbhoomfhjlbiaaGreatDoorAbsL
import Derived.Test.YtfbhoomfhjlbiaaGreatDoorShelf
import Derived.Lib.Bytealg
import Derived.Lib.SliceRun
import Derived.Laws.Externs
namespace Go.Proofs.YtfbhoomfhjlbiaaGreatDoor
open Go Go.ChangeShapes Go.WideShapes Go.ChangeAt Go.RowKit Go.Abs
set_option linter.unusedVariables false
theorem conv1 (z : Int) (c : UInt8) (hz : z = c.toNat) (wx : World) (B : Nat) (h : wx.cell? ⟨B, 0, none⟩ = some (.int .u8 z)) : (convert 323 9 (.slice (some ⟨B, 0, none⟩) 1 1)).run Tryz.prog wx = .ok (.string ⟨#[c]⟩) wx := by
  refine run_convert_bytes_back wx 323 9 5 ⟨B, 0, none⟩ 1 [c] Tryz.underlying323 Tryz.underlying5 Tryz.underlying9 fun j hj => ?_
  have : j = 0 := by simp at hj; omega
  subst this
  subst hz
  exact h
theorem dec_step {u : Nat} (h : ¬ u < 10) : Lib.decDigits u = Lib.decDigits (u / 10) ++ [UInt8.ofNat (48 + u % 10)] := by rw [Lib.decDigits, dif_neg h]
theorem itoa_pos {n : Int} (h : 10 ≤ n) : Lib.itoa n = Lib.itoa (n.tdiv 10) ++ [UInt8.ofNat (48 + (n.tmod 10).natAbs)] := by
  obtain ⟨u, rfl⟩ := Int.eq_ofNat_of_zero_le (show 0 ≤ n by omega)
  have e1 : ((u : Int).tdiv 10) = ((u / 10 : Nat) : Int) := rfl
  have e2 : ((u : Int).tmod 10) = ((u % 10 : Nat) : Int) := rfl
  rw [e1, e2, Lib.itoa_nonneg, Lib.itoa_nonneg, dec_step (by omega)]; rfl
theorem itoa_minus {n : Int} (h : n ≤ -10) : Lib.itoa n = Lib.itoa (n.tdiv 10) ++ [UInt8.ofNat (48 + (n.tmod 10).natAbs)] := by
  obtain ⟨u, hu⟩ := Int.eq_ofNat_of_zero_le (show 0 ≤ -n by omega)
  obtain rfl : n = -(u : Int) := by omega
  have e1 : ((-(u : Int)).tdiv 10) = -((u / 10 : Nat) : Int) := by rw [Int.neg_tdiv]; rfl
  have e2 : ((-(u : Int)).tmod 10) = -((u % 10 : Nat) : Int) := by rw [Int.neg_tmod]; rfl
  rw [e1, e2, Lib.itoa_neg u (by omega), Lib.itoa_neg (u / 10) (by omega), dec_step (by omega), Int.natAbs_neg, Int.natAbs_natCast]
  rfl
theorem itoa_small {n : Int} (h0 : 0 ≤ n) (h : n < 10) : Lib.itoa n = [UInt8.ofNat (48 + n.natAbs)] := by
  obtain ⟨u, rfl⟩ := Int.eq_ofNat_of_zero_le h0
  rw [Lib.itoa_nonneg, Lib.decDigits_one (by omega)]; rfl
theorem itoa_small' {n : Int} (h0 : n < 0) (h : -10 < n) : Lib.itoa n = [45, UInt8.ofNat (48 + n.natAbs)] := by
  obtain ⟨u, hu⟩ := Int.eq_ofNat_of_zero_le (show 0 ≤ -n by omega)
  obtain rfl : n = -(u : Int) := by omega
  rw [Lib.itoa_neg u (by omega), Lib.decDigits_one (by omega), Int.natAbs_neg, Int.natAbs_natCast]
theorem ofNat_dig {k : Nat} (h : k < 10) : ((UInt8.ofNat (48 + k)).toNat : Int) = 48 + (k : Int) := by
  simp; omega
theorem str_app (l : List UInt8) (c : UInt8) : (⟨l.toArray⟩ ++ ⟨#[c]⟩ : ByteArray) = ⟨(l ++ [c]).toArray⟩ := by
  apply ByteArray.ext
  apply Array.toList_inj.mp
  simp
set_option maxHeartbeats 4000000 in
theorem rnum_any : ∀ (m : Nat) (n : Int), n.natAbs < m → i64 n → ∀ w : World, Calls Tryz.prog 168 #[.int .i64 n] w fun e w' => e = .returned (.string ⟨(Lib.itoa n).toArray⟩) ∧ Below w.heap.size w w' := by
  intro m
  induction m with
  | zero => intro n h; omega
  | succ m ih =>
    intro n hm hn w
    have A := Lib.hid hn
    obtain ⟨n0, n1⟩ := hn
    obtain ⟨L, hL⟩ : ∃ L, L = Lib.itoa n := ⟨_, rfl⟩
    rw [← hL]
    have HL := Lib.hid hL; clear hL
    by_cases hneg : n < 0
    · by_cases h10 : -10 < n
      · have HT := Lib.hid (HL.out.trans (itoa_small' hneg h10))
        have k1 : IntKind.i64.wrap (48 - n) = 48 - n := IntWalk.i64_in _ (by omega)
        have k2 : IntKind.u8.wrap (48 - n) = 48 - n := by unfold IntKind.wrap; simp [IntKind.bits, IntKind.signed]; omega
        obtain ⟨c, hc⟩ : ∃ c, c = UInt8.ofNat (48 + n.natAbs) := ⟨_, rfl⟩
        have hcv := conv1 (48 - n) c (by rw [hc, ofNat_dig (by omega)]; omega)
        have HC := Lib.hid hc; clear hc
        go_enter Tryz.func168, Tryz.ntmps168
        go_wp2
        go_ret
        exact ⟨by rw [HT.out, ← HC.out]; rfl, Below.alloc (Below.refl _ _) (Nat.le_refl _) _⟩
      · have h10' : n ≤ -10 := by omega
        have HT := Lib.hid (HL.out.trans (itoa_minus h10'))
        have hr := Int.tmod_lt_of_pos (-n) (show (0 : Int) < 10 by decide)
        rw [Int.neg_tmod] at hr
        have hr0 := Int.tmod_nonneg 10 (show 0 ≤ -n by omega)
        rw [Int.neg_tmod] at hr0
        have hd := Int.tdiv_eq_ediv_of_nonneg (b := 10) (show 0 ≤ -n by omega)
        rw [Int.neg_tdiv] at hd
        have k0 : IntKind.i64.wrap (n.tdiv 10) = n.tdiv 10 := IntWalk.i64_in _ (by omega)
        have kr : IntKind.i64.wrap (n.tmod 10) = n.tmod 10 := IntWalk.i64_in _ (by omega)
        have k1 : IntKind.i64.wrap (48 - n.tmod 10) = 48 - n.tmod 10 := IntWalk.i64_in _ (by omega)
        have k2 : IntKind.u8.wrap (48 - n.tmod 10) = 48 - n.tmod 10 := by unfold IntKind.wrap; simp [IntKind.bits, IntKind.signed]; omega
        obtain ⟨c, hc⟩ : ∃ c, c = UInt8.ofNat (48 + (n.tmod 10).natAbs) := ⟨_, rfl⟩
        have hcv := conv1 (48 - n.tmod 10) c (by rw [hc, ofNat_dig (by omega)]; omega)
        have HC := Lib.hid hc; clear hc
        have HI : Hid (∀ w : World, Calls Tryz.prog 168 #[.int .i64 (n.tdiv 10)] w fun e w' => e = .returned (.string ⟨(Lib.itoa (n.tdiv 10)).toArray⟩) ∧ Below w.heap.size w w') := Lib.hid (ih (n.tdiv 10) (by omega) (by unfold i64; omega))
        have hlen : (Lib.itoa (n.tdiv 10)).length ≤ 21 := Lib.itoa_length_le _ (by omega) (by omega)
        clear hd
        go_enter Tryz.func168, Tryz.ntmps168
        go_wp2_with fail
        go_region_with ((go_at_call 168; refine (HI.out _).mono ?_; rintro e w' ⟨rfl, hb⟩; have s0 := fun (a : Addr) (ha : a.block < _) => World.cell?_of_block (a := a) (hb.block a.block ha)))
        all_goals go_wp2
        all_goals go_ret
        all_goals refine ⟨(by rw [HT.out, ← HC.out, ← str_app]; rfl), ?_⟩
        all_goals first
          | exact Below.alloc (bcall (Below.drew (Below.refl _ _)) hb) (by have := hb.size; exact this) _
          | exact bcall (Below.drew (ball (Below.refl _ _) _)) hb
          | exact bcall (ball (Below.drew (Below.refl _ _)) _) hb
    · by_cases h10 : n < 10
      · have HT := Lib.hid (HL.out.trans (itoa_small (by omega) h10))
        have k1 : IntKind.i64.wrap (48 + n) = 48 + n := IntWalk.i64_in _ (by omega)
        have k2 : IntKind.u8.wrap (48 + n) = 48 + n := by unfold IntKind.wrap; simp [IntKind.bits, IntKind.signed]; omega
        obtain ⟨c, hc⟩ : ∃ c, c = UInt8.ofNat (48 + n.natAbs) := ⟨_, rfl⟩
        have hcv := conv1 (48 + n) c (by rw [hc, ofNat_dig (by omega)]; omega)
        have HC := Lib.hid hc; clear hc
        go_enter Tryz.func168, Tryz.ntmps168
        go_wp2
        go_ret
        exact ⟨by rw [HT.out, ← HC.out]; rfl, Below.alloc (Below.refl _ _) (Nat.le_refl _) _⟩
      · have h10' : 10 ≤ n := by omega
        have HT := Lib.hid (HL.out.trans (itoa_pos h10'))
        have hr := Int.tmod_lt_of_pos n (show (0 : Int) < 10 by decide)
        have hr0 := Int.tmod_nonneg 10 (show 0 ≤ n by omega)
        have hd := Int.tdiv_eq_ediv_of_nonneg (b := 10) (show 0 ≤ n by omega)
        have k0 : IntKind.i64.wrap (n.tdiv 10) = n.tdiv 10 := IntWalk.i64_in _ (by omega)
        have kr : IntKind.i64.wrap (n.tmod 10) = n.tmod 10 := IntWalk.i64_in _ (by omega)
        have k1 : IntKind.i64.wrap (48 + n.tmod 10) = 48 + n.tmod 10 := IntWalk.i64_in _ (by omega)
        have k2 : IntKind.u8.wrap (48 + n.tmod 10) = 48 + n.tmod 10 := by unfold IntKind.wrap; simp [IntKind.bits, IntKind.signed]; omega
        obtain ⟨c, hc⟩ : ∃ c, c = UInt8.ofNat (48 + (n.tmod 10).natAbs) := ⟨_, rfl⟩
        have hcv := conv1 (48 + n.tmod 10) c (by rw [hc, ofNat_dig (by omega)]; omega)
        have HC := Lib.hid hc; clear hc
        have HI : Hid (∀ w : World, Calls Tryz.prog 168 #[.int .i64 (n.tdiv 10)] w fun e w' => e = .returned (.string ⟨(Lib.itoa (n.tdiv 10)).toArray⟩) ∧ Below w.heap.size w w') := Lib.hid (ih (n.tdiv 10) (by omega) (by unfold i64; omega))
        have hlen : (Lib.itoa (n.tdiv 10)).length ≤ 21 := Lib.itoa_length_le _ (by omega) (by omega)
        clear hd
        go_enter Tryz.func168, Tryz.ntmps168
        go_wp2_with fail
        go_region_with ((go_at_call 168; refine (HI.out _).mono ?_; rintro e w' ⟨rfl, hb⟩; have s0 := fun (a : Addr) (ha : a.block < _) => World.cell?_of_block (a := a) (hb.block a.block ha)))
        all_goals go_wp2
        all_goals go_ret
        all_goals refine ⟨(by rw [HT.out, ← HC.out, ← str_app]; rfl), ?_⟩
        all_goals first
          | exact Below.alloc (bcall (Below.drew (Below.refl _ _)) hb) (by have := hb.size; exact this) _
          | exact bcall (Below.drew (ball (Below.refl _ _) _)) hb
          | exact bcall (ball (Below.drew (Below.refl _ _)) _) hb
noncomputable def numH (args : List AV) (H : AH) : Option (AV × AH) :=
  match args with
  | [.int .i64 n] => bif Nat.blt n.natAbs 1000000000 then some (.str (itoaQ n), H) else none
  | _ => none
theorem num_one : HookOne Tryz.prog 168 numH := by
  refine ⟨by decide +kernel, fun args H x H' h => ?_, fun args H x H' h => ?_⟩
  · unfold numH at h
    split at h
    · rename_i n
      cases hb : Nat.blt n.natAbs 1000000000 with
      | false => rw [hb] at h; cases h
      | true =>
        rw [hb] at h
        cases h
        have hn : n.natAbs < 1000000000 := Nat.le_of_ble_eq_true hb
        refine ACalls.of_calls fun G vs w hv => ?_
        obtain ⟨v, hu, h1⟩ := hv.one
        simp only [VR] at h1
        subst h1
        obtain rfl : vs = #[.int .i64 n] := by cases vs; simpa using hu
        refine (rnum_any (n.natAbs + 1) n (by omega) ⟨by omega, by omega⟩ w).mono fun e w' ⟨he, hw⟩ => ?_
        exact ⟨_, he, fun G => by simp only [VR]; rw [itoaQ_eq hn], hw⟩
    · cases h
  · unfold numH at h
    split at h
    · rename_i n
      cases hb : Nat.blt n.natAbs 1000000000 with
      | false => rw [hb] at h; cases h
      | true =>
        rw [hb] at h
        cases h
        exact FrameR.same fun R H2 _ _ => by show (bif Nat.blt n.natAbs 1000000000 then _ else _) = _; rw [hb]; rfl
    · cases h
end Go.Proofs.YtfbhoomfhjlbiaaGreatDoor
namespace Go.Proofs.YtfbhoomfhjlbiaaGreatDoor
open Go Go.Abs Go.RowKit
set_option linter.unusedVariables false
set_option linter.unusedSimpArgs false
theorem eq_nil_sl (t e : TypeId) (ht : (Tryz.prog).underlying t = some (.slice e)) (a : Option Addr) (n c : Nat) (w : World) : (binOp .eql t (.slice a n c) (.slice none 0 0)).run Tryz.prog w = .ok (.bool a.isNone) w := by
  exact Lib.run_eql_slice_nil w t e a n c 0 0 ht
theorem int64_info : ∃ i, (Tryz.prog).info? 2 = some i := Option.isSome_iff_exists.1 (by decide +kernel)
set_option maxRecDepth 100000 in
set_option maxHeartbeats 1000000 in
/-- Of no number: nil, or none. -/
theorem clone_none (a : Option Addr) (c : Nat) (w : World) :
    Calls Tryz.prog 176 #[.slice a 0 c] w fun e w' => ∃ a' c', e = .returned (.slice a' 0 c') ∧ Below w.heap.size w w' := by
  obtain ⟨inf, hi⟩ := int64_info
  have heq := eq_nil_sl 37 _ Tryz.underlying37 a 0 c w
  have hap : ∀ (x : Option Addr) ty (w : World), (Builtin.append_ #[37, 37] ty #[.slice x 0 0, .slice a 0 c]).run Tryz.prog w = .ok (.slice x 0 0) w := fun x ty w => run_append_none Tryz.underlying37 hi x a 0 0 c (Nat.le_refl _) w
  cases a
  all_goals
    simp only [Option.isNone] at heq
    go_enter Tryz.func176, Tryz.ntmps176
    go_wp2
    go_ret
    first
      | exact ⟨_, _, rfl, Below.refl _ _⟩
      | exact ⟨_, _, rfl, Below.alloc (Below.refl _ _) (Nat.le_refl _) _⟩
noncomputable def cloneH (args : List AV) (H : AH) : Option (AV × AH) :=
  match args with
  | [.vals z []] => some (.vals z [], H)
  | [x] => arunK Tryz.prog (fun f => Nat.beq f 176) (hooksOf []) 3 2 176 [x] H
  | _ => none
theorem clone_one : HookOne Tryz.prog 176 cloneH := by
  have hmix : (Tryz.prog).follows .mixedOrders = true := by kernel_rfl
  have hok := arun_ok (P := Tryz.prog) (good := fun f => Nat.beq f 176) (F := 3) hmix (fun f hf => by have := Nat.eq_of_beq_eq_true hf; subst this; exact (by decide +kernel)) (hooksOf_ok (P := Tryz.prog) (l := []) (fun e he => by cases he)).1 (hooksOf_ok (P := Tryz.prog) (l := []) (fun e he => by cases he)).2 2
  have hfr := arun_frame (P := Tryz.prog) (good := fun f => Nat.beq f 176) (F := 3) (hooksOf_ok (P := Tryz.prog) (l := []) (fun e he => by cases he)).2 2
  refine ⟨by decide +kernel, fun args H x H' h => ?_, fun args H x H' h => ?_⟩
  · unfold cloneH at h
    split at h
    · rename_i z
      cases h
      intro K G vs w hr hv
      obtain ⟨u, hu, h1⟩ := hv.one
      simp only [VR] at h1
      obtain ⟨a, c, rfl, -, -⟩ := h1
      obtain rfl : vs = #[.slice a 0 c] := by cases vs; simpa using hu
      refine (clone_none a c w).mono fun e w' ⟨a', c', he, hw⟩ => ?_
      exact ⟨_, _, G, H, he, Gh.le.refl _, hr.stay hw, by simp only [VR]; exact ⟨a', c', rfl, Nat.zero_le _, .inl trivial⟩, rfl, rfl⟩
    · rw [arunK_eq] at h
      exact (hok _ _ _ _ _ h).2
    · cases h
  · unfold cloneH at h
    split at h
    · cases h; exact FrameR.same fun R H2 _ _ => rfl
    · rename_i y hy
      rw [arunK_eq] at h
      have := hfr _ _ _ _ _ h
      refine ⟨this.1, fun R H2 he ha => ?_⟩
      obtain ⟨H2', k1, k2⟩ := this.2 R H2 he ha
      refine ⟨H2', ?_, k2⟩
      unfold cloneH
      split
      · rename_i heq; cases heq; exact absurd rfl (hy _)
      · rename_i heq; cases heq; rw [arunK_eq]; exact k1
      · rename_i hn; exact absurd rfl (hn _)
    · cases h
end Go.Proofs.YtfbhoomfhjlbiaaGreatDoor
