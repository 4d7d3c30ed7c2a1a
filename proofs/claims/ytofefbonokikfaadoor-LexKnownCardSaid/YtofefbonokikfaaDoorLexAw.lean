/- What the laws of layer 6 ask first: awake. -/
import Derived.Test.YtofefbonokikfaaDoorLexQu
import Derived.Test.YtofefbonokikfaaDoorLexLaw3
namespace Go.Proofs.YtofefbonokikfaaDoor
open Go Go.ChangeShapes Go.WideShapes Go.ChangeAt Go.RowKit
set_option linter.unusedVariables false
theorem cut_aX : cutT [97, 40, 88, 41, 46] = ([⟨1, [97], 0, true, 0⟩, ⟨5, [40], 0, false, 1⟩, ⟨3, [88], 0, false, 2⟩, ⟨5, [41], 0, false, 3⟩, ⟨6, [], 0, false, 4⟩], 5, 0) := by decide +kernel
theorem cut_p (l : List UInt8) {o : List Tok × Int × Int} (h : cutT l = o) (w : World) (hr : Rng w) : Calls Tryd.prog 9 #[.string ⟨l.toArray⟩] w (CutIs o w) := by
  have := cut_any ⟨l.toArray⟩ w hr
  rw [show (⟨l.toArray⟩ : ByteArray).data.toList = l from by simp, h] at this; exact this
theorem plain_p (l : List UInt8) {b : Bool} (h : plainT l = b) (w : World) (hr : Rng w) : Calls Tryd.prog 11 #[.string ⟨l.toArray⟩] w fun e w' => e = .returned (.bool b) ∧ Below w.heap.size w w' := by
  have := plain_any ⟨l.toArray⟩ w hr
  rw [show (⟨l.toArray⟩ : ByteArray).data.toList = l from by simp, h] at this; exact this
theorem quote_p (l : List UInt8) {q : List UInt8} (h : quoteT l = q) (w : World) (hr : Rng w) : Calls Tryd.prog 10 #[.string ⟨l.toArray⟩] w fun e w' => e = .returned (.string ⟨q.toArray⟩) ∧ Below w.heap.size w w' := by
  have := quote_any ⟨l.toArray⟩ w hr
  rw [show (⟨l.toArray⟩ : ByteArray).data.toList = l from by simp, h] at this; exact this
set_option maxRecDepth 100000 in
set_option maxHeartbeats 10000000 in
theorem awake_any (w : World) (hr : Rng w) : Calls Tryd.prog 8 #[] w fun e w' => e = .returned (.bool true) ∧ Below w.heap.size w w' := by
  have R := Lib.hid hr; clear hr
  go_enter Tryd.func8, Tryd.ntmps8
  go_wp2_with fail
  refine (cut_p _ cut_aX w R.out).mono ?_; rintro e w1 ⟨v, rfl, hown, hb⟩
  obtain ⟨g, cap, rfl, hg1, hg2, hT⟩ := tok_at hown (by simp)
  have t0 : w1.cell? ⟨g, 0, none⟩ = some (.int .i64 1) := hT 0 (by simp) 0 _ rfl
  have t1 : w1.cell? ⟨g, 1, none⟩ = some (.string ⟨#[97]⟩) := hT 0 (by simp) 1 _ rfl
  have t2 : w1.cell? ⟨g, 2, none⟩ = some (.int .i64 0) := hT 0 (by simp) 2 _ rfl
  have t3 : w1.cell? ⟨g, 3, none⟩ = some (.bool true) := hT 0 (by simp) 3 _ rfl
  have t4 : w1.cell? ⟨g, 4, none⟩ = some (.int .i64 0) := hT 0 (by simp) 4 _ rfl
  have t20 : w1.cell? ⟨g, 20, none⟩ = some (.int .i64 6) := hT 4 (by simp) 0 _ rfl
  clear hT hown
  go_wp2_with fail
  refine (plain_p [97] (b := true) (by decide +kernel) _ (R.out.keep hb)).mono ?_; rintro e w2 ⟨rfl, hb2⟩
  go_wp2
  go_ret
  exact ⟨rfl, bcall hb hb2⟩
end Go.Proofs.YtofefbonokikfaaDoor
