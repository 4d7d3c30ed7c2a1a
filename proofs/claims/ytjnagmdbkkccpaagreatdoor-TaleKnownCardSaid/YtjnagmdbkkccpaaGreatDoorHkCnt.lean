/- What stands in for strings.Count, of one byte; for slices.Clone of numbers. -/
import Derived.Test.YtjnagmdbkkccpaaGreatDoorAbsL
import Derived.Test.YtjnagmdbkkccpaaGreatDoorShelf
import Derived.Lib.Bytealg
import Derived.Lib.SliceRun
import Derived.Laws.Externs
namespace Go.Proofs.YtjnagmdbkkccpaaGreatDoor
open Go Go.Abs Go.RowKit
set_option linter.unusedVariables false
set_option linter.unusedSimpArgs false
noncomputable def cntQ (c : Nat) (s : List UInt8) : Nat := List.rec (motive := fun _ => Nat) 0 (fun b _ n => Bool.rec (motive := fun _ => Nat) n (Nat.succ n) (Nat.beq b.toNat c)) s
theorem cntQ_eq (c : UInt8) : ∀ s : List UInt8, cntQ c.toNat s = Lib.countByte s c
  | [] => rfl
  | b :: s => by
    show (Bool.rec (motive := fun _ => Nat) (cntQ c.toNat s) (Nat.succ (cntQ c.toNat s)) (Nat.beq b.toNat c.toNat) : Nat) = _
    unfold Lib.countByte
    rw [List.count_cons, cntQ_eq c s]
    unfold Lib.countByte
    by_cases h : b = c
    · subst h; rw [Nat.beq_refl]; simp
    · have : Nat.beq b.toNat c.toNat = false := by
        cases hb : Nat.beq b.toNat c.toNat with
        | false => rfl
        | true => exact absurd (UInt8.toNat_inj.1 (Nat.eq_of_beq_eq_true hb)) h
      rw [this]
      have h2 : (b == c) = false := by simpa using h
      simp [h2]
noncomputable def countH (args : List AV) (H : AH) : Option (AV × AH) :=
  match args with
  | [.str s, .str [c]] => some (.int .i64 (cntQ c.toNat s), H)
  | _ => none
set_option maxRecDepth 100000 in
theorem count_walk (s : List UInt8) (c : UInt8) (w : World) : Calls Tryz.prog 42 #[.string ⟨s.toArray⟩, .string ⟨#[c]⟩] w fun e w' => e = .returned (.int .i64 (Lib.countByte s c : Nat)) ∧ w' = w := by
  have hc := Lib.run_countString (P := Tryz.prog) ⟨s.toArray⟩ (c.toNat : Int) w
  go_enter Tryz.func42, Tryz.ntmps42
  go_wp2
  rw [run_callFunc_extern Tryz.func71 (by kernel_rfl) (by kernel_rfl) (by kernel_rfl) (e := Extern.BytealgCount.count) (by kernel_rfl)]
  have e1 : (Extern.BytealgCount.count #[.string ⟨s.toArray⟩, .int .u8 ((⟨#[c]⟩ : ByteArray)[0]'(by show 0 < 1; omega)).toNat]).run Tryz.prog w = .ok (.int .i64 (Lib.countByte s c : Nat)) w := by
    have : (c.toNat : Int).toNat.toUInt8 = c := by rw [Int.toNat_natCast]; exact UInt8.toNat_inj.1 (by simp)
    rw [this] at hc
    exact hc
  rw [e1]
  simp only [Result.andThen]
  rw [Oper.upon_value]
  go_wp2
  go_ret
  exact ⟨rfl, rfl⟩
theorem count_one : HookOne Tryz.prog 42 countH := by
  refine ⟨by decide +kernel, fun args H x H' h => ?_, fun args H x H' h => ?_⟩
  · unfold countH at h
    split at h
    · rename_i s c
      cases h
      refine ACalls.of_calls fun G vs w hv => ?_
      obtain ⟨u, v, hu, h1, h2⟩ := hv.two
      simp only [VR] at h1 h2
      subst h1; subst h2
      obtain rfl : vs = #[.string ⟨s.toArray⟩, .string ⟨[c].toArray⟩] := by cases vs; simpa using hu
      refine (count_walk s c w).mono fun e w' ⟨he, hw⟩ => ?_
      subst hw
      exact ⟨_, he, fun G => by simp only [VR]; rw [cntQ_eq], Below.refl _ _⟩
    · cases h
  · unfold countH at h
    split at h
    · cases h; exact FrameR.same fun R H2 _ _ => rfl
    · cases h
theorem eq_nil_sl (t e : TypeId) (ht : (Tryz.prog).underlying t = some (.slice e)) (a : Option Addr) (n c : Nat) (w : World) : (binOp .eql t (.slice a n c) (.slice none 0 0)).run Tryz.prog w = .ok (.bool a.isNone) w := by
  exact Lib.run_eql_slice_nil w t e a n c 0 0 ht
theorem int64_info : ∃ i, (Tryz.prog).info? 2 = some i := Option.isSome_iff_exists.1 (by decide +kernel)
set_option maxRecDepth 100000 in
set_option maxHeartbeats 1000000 in
/-- Of no number: nil, or none. -/
theorem clone_none (a : Option Addr) (c : Nat) (w : World) :
    Calls Tryz.prog 270 #[.slice a 0 c] w fun e w' => ∃ a' c', e = .returned (.slice a' 0 c') ∧ Below w.heap.size w w' := by
  obtain ⟨inf, hi⟩ := int64_info
  have heq := eq_nil_sl 226 _ Tryz.underlying226 a 0 c w
  have hap : ∀ (x : Option Addr) ty (w : World), (Builtin.append_ #[226, 226] ty #[.slice x 0 0, .slice a 0 c]).run Tryz.prog w = .ok (.slice x 0 0) w := fun x ty w => run_append_none Tryz.underlying226 hi x a 0 0 c (Nat.le_refl _) w
  cases a
  all_goals
    simp only [Option.isNone] at heq
    go_enter Tryz.func270, Tryz.ntmps270
    go_wp2
    go_ret
    first
      | exact ⟨_, _, rfl, Below.refl _ _⟩
      | exact ⟨_, _, rfl, Below.alloc (Below.refl _ _) (Nat.le_refl _) _⟩
noncomputable def cloneH (args : List AV) (H : AH) : Option (AV × AH) :=
  match args with
  | [.vals z []] => some (.vals z [], H)
  | [x] => arunK Tryz.prog (fun f => Nat.beq f 270) (hooksOf []) 3 2 270 [x] H
  | _ => none
theorem clone_one : HookOne Tryz.prog 270 cloneH := by
  have hmix : (Tryz.prog).follows .mixedOrders = true := by kernel_rfl
  have hok := arun_ok (P := Tryz.prog) (good := fun f => Nat.beq f 270) (F := 3) hmix (fun f hf => by have := Nat.eq_of_beq_eq_true hf; subst this; exact (by decide +kernel)) (hooksOf_ok (P := Tryz.prog) (l := []) (fun e he => by cases he)).1 (hooksOf_ok (P := Tryz.prog) (l := []) (fun e he => by cases he)).2 2
  have hfr := arun_frame (P := Tryz.prog) (good := fun f => Nat.beq f 270) (F := 3) (hooksOf_ok (P := Tryz.prog) (l := []) (fun e he => by cases he)).2 2
  refine ⟨by decide +kernel, fun args H x H' h => ?_, fun args H x H' h => ?_⟩
  · unfold cloneH at h
    split at h
    · rename_i z
      cases h
      intro K G vs w hr hv
      obtain ⟨u, hu, h1⟩ := hv.one
      simp only [VR] at h1
      obtain ⟨a, c, rfl, -, -⟩ := h1
      obtain rfl : vs = #[.slice a 0 c] := by cases vs; simpa using hu
      refine (clone_none a c w).mono fun e w' ⟨a', c', he, hw⟩ => ?_
      exact ⟨_, _, G, H, he, Gh.le.refl _, hr.stay hw, by simp only [VR]; exact ⟨a', c', rfl, Nat.zero_le _, .inl trivial⟩, rfl, rfl⟩
    · rw [arunK_eq] at h
      exact (hok _ _ _ _ _ h).2
    · cases h
  · unfold cloneH at h
    split at h
    · cases h; exact FrameR.same fun R H2 _ _ => rfl
    · rename_i y hy
      rw [arunK_eq] at h
      have := hfr _ _ _ _ _ h
      refine ⟨this.1, fun R H2 he ha => ?_⟩
      obtain ⟨H2', k1, k2⟩ := this.2 R H2 he ha
      refine ⟨H2', ?_, k2⟩
      unfold cloneH
      split
      · rename_i heq; cases heq; exact absurd rfl (hy _)
      · rename_i heq; cases heq; rw [arunK_eq]; exact k1
      · rename_i hn; exact absurd rfl (hn _)
    · cases h
end Go.Proofs.YtjnagmdbkkccpaaGreatDoor
