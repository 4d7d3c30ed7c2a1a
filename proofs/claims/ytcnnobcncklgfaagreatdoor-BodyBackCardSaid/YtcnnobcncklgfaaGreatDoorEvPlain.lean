/- PLAIN: what chapter 20's reckoning comes to. -/
import Derived.Test.YtcnnobcncklgfaaGreatDoorGoodA
import Derived.Test.YtcnnobcncklgfaaGreatDoorWhole2
namespace Go.Proofs.YtcnnobcncklgfaaGreatDoor
open Go Go.RowKit
set_option linter.unusedVariables false
theorem i64_lim (x : Int) : i64 (lim x).1 := by
  unfold lim
  split
  · assumption
  · decide
def I64 (p : Int × Int) : Prop := i64 p.1
theorem I64.mk {x y : Int} (h : i64 x) : I64 (x, y) := h
theorem I64.ite {c : Prop} [Decidable c] {x y : Int × Int} (h1 : c → I64 x) (h2 : ¬ c → I64 y) : I64 (if c then x else y) := by
  split
  · exact h1 ‹_›
  · exact h2 ‹_›
theorem i64_bits (o : BinOp) (a b : Int) : i64 (bits o .i64 a b) := by
  unfold bits
  dsimp only
  rw [IntKind.wrap_i64]
  unfold i64
  omega
theorem i64_powL : ∀ (n : Nat) (out a : Int), i64 out → i64 (powL n out a).1
  | 0, out, a, h => h
  | n + 1, out, a, h => by
    unfold powL
    split
    · exact i64_powL n _ a (by assumption)
    · decide
theorem I64_lim (x : Int) : I64 (lim x) := i64_lim x
theorem I64_powL (n : Nat) (out a : Int) (h : i64 out) : I64 (powL n out a) := i64_powL n out a h
theorem i64_div {a b : Int} (ha : i64 a) (hb : i64 b) (op : List UInt8) : I64 (divS op a b) := by
  unfold divS
  refine I64.ite (fun _ => I64.mk (by decide)) fun h0 => I64.ite (fun _ => I64_lim _) fun _ => I64.ite (fun h => ?_) fun _ => I64.mk (tmod_in ha)
  have := mod_in ha hb h.2.1 h.2.2
  have h2 := i64_wrap (a.tmod b + b)
  rw [this] at h2
  exact h2
theorem i64_sh {a b : Int} (ha : i64 a) (op : List UInt8) : I64 (shS op a b) := by
  unfold shS
  refine I64.ite (fun _ => I64.mk (by decide)) fun h0 => I64.ite (fun _ => ?_) fun _ => I64_lim _
  refine I64.mk ?_
  have hp : (1 : Int) ≤ 2 ^ b.toNat := by
    have : (0 : Int) < 2 ^ b.toNat := Int.pow_pos (by decide)
    omega
  generalize (2 : Int) ^ b.toNat = p at hp
  unfold i64 at *
  exact ⟨Int.le_ediv_of_mul_le (by omega) (by omega), Int.le_of_lt_add_one (Int.ediv_lt_of_lt_mul (by omega) (by omega))⟩
theorem i64_pow {a b : Int} (ha : i64 a) : I64 (powS a b) := by
  unfold powS
  exact I64.ite (fun _ => I64.mk (by decide)) fun _ => I64.ite (fun _ => I64.ite (fun _ => I64.mk (by decide)) fun _ => I64.mk ha) fun _ => I64.ite (fun _ => I64.mk (by decide)) fun _ => I64.ite (fun _ => I64.mk (by decide)) fun _ => I64.ite (fun _ => I64.mk (by decide)) fun _ => I64_powL _ _ _ (by decide)
theorem i64_two (op : List UInt8) {a b : Int} (ha : i64 a) (hb : i64 b) : I64 (twoS op a b) := by
  unfold twoS
  exact I64.ite (fun _ => I64_lim _) fun _ => I64.ite (fun _ => I64_lim _) fun _ => I64.ite (fun _ => I64_lim _) fun _ => I64.ite (fun _ => i64_div ha hb _) fun _ => I64.ite (fun _ => I64.mk (i64_bits _ _ _)) fun _ => I64.ite (fun _ => I64.mk (i64_bits _ _ _)) fun _ => I64.ite (fun _ => I64.mk (i64_bits _ _ _)) fun _ =>
    I64.ite (fun _ => i64_sh ha _) fun _ => I64.ite (fun _ => I64.mk (by unfold i64 at *; omega)) fun _ => I64.ite (fun _ => I64.mk (by unfold i64 at *; omega)) fun _ => I64.ite (fun _ => i64_pow ha) fun _ => I64.mk (by decide)
theorem i64_one (op : List UInt8) {a : Int} (ha : i64 a) : I64 (oneS op a) := by
  unfold oneS
  exact I64.ite (fun _ => I64_lim _) fun _ => I64.ite (fun _ => I64.mk ha) fun _ => I64.ite (fun _ => I64_lim _) fun _ => I64.ite (fun _ => I64.mk (by unfold i64 at *; omega)) fun _ => I64.ite (fun _ => I64.mk (by unfold i64 at *; omega)) fun _ => I64.mk (by decide)
end Go.Proofs.YtcnnobcncklgfaaGreatDoor
