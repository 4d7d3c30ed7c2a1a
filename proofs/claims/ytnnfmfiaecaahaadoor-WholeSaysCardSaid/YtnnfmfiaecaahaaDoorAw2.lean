/- What the laws of chapter 2 ask first. -/
import Derived.Test.YtnnfmfiaecaahaaDoorWhole2
import Derived.Test.YtnnfmfiaecaahaaDoorEnv
namespace Go.Proofs.YtnnfmfiaecaahaaDoor
open Go.ChangeShapes Go.WideShapes Go.ChangeAt Go.RowKit
set_option linter.unusedVariables false
theorem two_b (s : ByteArray) (l : List UInt8) (hs : s.toList = l) (a b : Int) (ha : i64 a) (hb : i64 b) (x y : Int) (h : twoS l a b = (x, y)) (w : World) : Calls Tryd.prog 5 #[.string s, .int .i64 a, .int .i64 b] w fun e w' => e = .returned (.tuple #[.int .i64 x, .int .i64 y]) ∧ w = w' := by
  have := two_any s a b ha hb w
  rw [hs, h] at this; exact this
theorem one_b (s : ByteArray) (l : List UInt8) (hs : s.toList = l) (a : Int) (ha : i64 a) (x y : Int) (h : oneS l a = (x, y)) (w : World) : Calls Tryd.prog 7 #[.string s, .int .i64 a] w fun e w' => e = .returned (.tuple #[.int .i64 x, .int .i64 y]) ∧ w = w' := by
  have := one_any s a ha w
  rw [hs, h] at this; exact this
theorem awake2 (w : World) (ht : Tab w) : Calls Tryd.prog 4 #[] w fun e w' => e = .returned (.bool true) ∧ Below w.heap.size w w' := by
  have T := Lib.hid ht; clear ht
  go_enter Tryd.func4, Tryd.ntmps4
  go_wp2_with fail
  refine (two_b _ [109, 111, 100] (by decide +kernel) (-7) 3 (by decide) (by decide) 2 0 (by decide +kernel) _).mono ?_; rintro e w' ⟨rfl, rfl⟩
  go_wp2_with fail
  refine (two_b _ [114, 101, 109] (by decide +kernel) (-7) 3 (by decide) (by decide) (-1) 0 (by decide +kernel) _).mono ?_; rintro e w' ⟨rfl, rfl⟩
  go_wp2_with fail
  refine (text_b (-7) (by decide) _ T.out [45, 55] (by decide +kernel) ).mono ?_; rintro e w' ⟨rfl, hb⟩
  go_wp2
  go_ret
  exact ⟨rfl, hb⟩
end Go.Proofs.YtnnfmfiaecaahaaDoor
