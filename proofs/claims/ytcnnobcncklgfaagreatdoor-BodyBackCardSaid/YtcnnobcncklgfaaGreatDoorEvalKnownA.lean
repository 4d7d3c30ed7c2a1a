/- What stands in for what is not carried out: IndexByte; all rows whose order is open are well. -/
import Derived.Test.YtcnnobcncklgfaaGreatDoorAbsL
import Derived.Test.YtcnnobcncklgfaaGreatDoorShelf
namespace Go.Proofs.YtcnnobcncklgfaaGreatDoor
open Go Go.Abs Go.RowKit
set_option linter.unusedVariables false
theorem mixed : Tryz.prog.follows .mixedOrders = true := by decide +kernel
def rows : List (List AV) := [[.str [58, 45], .str [120, 102, 120], .int .i64 (1200)], [.str [59], .str [120, 102, 121], .int .i64 (1100)], [.str [45, 62], .str [120, 102, 121], .int .i64 (1050)], [.str [44], .str [120, 102, 121], .int .i64 (1000)], [.str [92, 43], .str [102, 121], .int .i64 (900)], [.str [61], .str [120, 102, 120], .int .i64 (700)], [.str [92, 61], .str [120, 102, 120], .int .i64 (700)], [.str [61, 61], .str [120, 102, 120], .int .i64 (700)], [.str [92, 61, 61], .str [120, 102, 120], .int .i64 (700)], [.str [64, 60], .str [120, 102, 120], .int .i64 (700)], [.str [64, 62], .str [120, 102, 120], .int .i64 (700)], [.str [64, 61, 60], .str [120, 102, 120], .int .i64 (700)], [.str [64, 62, 61], .str [120, 102, 120], .int .i64 (700)], [.str [61, 46, 46], .str [120, 102, 120], .int .i64 (700)], [.str [105, 115], .str [120, 102, 120], .int .i64 (700)], [.str [61, 58, 61], .str [120, 102, 120], .int .i64 (700)], [.str [61, 92, 61], .str [120, 102, 120], .int .i64 (700)], [.str [60], .str [120, 102, 120], .int .i64 (700)], [.str [62], .str [120, 102, 120], .int .i64 (700)], [.str [61, 60], .str [120, 102, 120], .int .i64 (700)], [.str [62, 61], .str [120, 102, 120], .int .i64 (700)], [.str [43], .str [121, 102, 120], .int .i64 (500)], [.str [45], .str [121, 102, 120], .int .i64 (500)], [.str [47, 92], .str [121, 102, 120], .int .i64 (500)], [.str [92, 47], .str [121, 102, 120], .int .i64 (500)], [.str [120, 111, 114], .str [121, 102, 120], .int .i64 (500)], [.str [42], .str [121, 102, 120], .int .i64 (400)], [.str [47, 47], .str [121, 102, 120], .int .i64 (400)], [.str [109, 111, 100], .str [121, 102, 120], .int .i64 (400)], [.str [114, 101, 109], .str [121, 102, 120], .int .i64 (400)], [.str [62, 62], .str [121, 102, 120], .int .i64 (400)], [.str [60, 60], .str [121, 102, 120], .int .i64 (400)], [.str [94], .str [120, 102, 121], .int .i64 (200)], [.str [45], .str [102, 121], .int .i64 (200)], [.str [92], .str [102, 121], .int .i64 (200)]]
def flat : List AV := [.str [58, 45], .str [120, 102, 120], .int .i64 (1200), .str [59], .str [120, 102, 121], .int .i64 (1100), .str [45, 62], .str [120, 102, 121], .int .i64 (1050), .str [44], .str [120, 102, 121], .int .i64 (1000), .str [92, 43], .str [102, 121], .int .i64 (900), .str [61], .str [120, 102, 120], .int .i64 (700), .str [92, 61], .str [120, 102, 120], .int .i64 (700), .str [61, 61], .str [120, 102, 120], .int .i64 (700), .str [92, 61, 61], .str [120, 102, 120], .int .i64 (700), .str [64, 60], .str [120, 102, 120], .int .i64 (700), .str [64, 62], .str [120, 102, 120], .int .i64 (700), .str [64, 61, 60], .str [120, 102, 120], .int .i64 (700), .str [64, 62, 61], .str [120, 102, 120], .int .i64 (700), .str [61, 46, 46], .str [120, 102, 120], .int .i64 (700), .str [105, 115], .str [120, 102, 120], .int .i64 (700), .str [61, 58, 61], .str [120, 102, 120], .int .i64 (700), .str [61, 92, 61], .str [120, 102, 120], .int .i64 (700), .str [60], .str [120, 102, 120], .int .i64 (700), .str [62], .str [120, 102, 120], .int .i64 (700), .str [61, 60], .str [120, 102, 120], .int .i64 (700), .str [62, 61], .str [120, 102, 120], .int .i64 (700), .str [43], .str [121, 102, 120], .int .i64 (500), .str [45], .str [121, 102, 120], .int .i64 (500), .str [47, 92], .str [121, 102, 120], .int .i64 (500), .str [92, 47], .str [121, 102, 120], .int .i64 (500), .str [120, 111, 114], .str [121, 102, 120], .int .i64 (500), .str [42], .str [121, 102, 120], .int .i64 (400), .str [47, 47], .str [121, 102, 120], .int .i64 (400), .str [109, 111, 100], .str [121, 102, 120], .int .i64 (400), .str [114, 101, 109], .str [121, 102, 120], .int .i64 (400), .str [62, 62], .str [121, 102, 120], .int .i64 (400), .str [60, 60], .str [121, 102, 120], .int .i64 (400), .str [94], .str [120, 102, 121], .int .i64 (200), .str [45], .str [102, 121], .int .i64 (200), .str [92], .str [102, 121], .int .i64 (200)]
theorem flat_eq : flat = rows.flatten := by rfl
theorem rows_ok : (rows.all fun r => decide (r.length = 3) && r.all flatC) = true := by decide +kernel
theorem rows_ne : rows ≠ [] := by intro h; cases h
def indexH (args : List AV) (H : AH) : Option (AV × AH) :=
  match args with
  | [.str s, .int .u8 c] => some (.int .i64 (Lib.indexByte s c.toNat.toUInt8), H)
  | _ => none
theorem index_one : HookOne Tryz.prog 117 indexH := by
  refine ⟨by decide +kernel, fun args H x H' h => ?_, fun args H x H' h => ?_⟩
  · unfold indexH at h
    split at h
    · rename_i s c
      cases h
      refine ACalls.of_calls fun G vs w hv => ?_
      obtain ⟨u, v, hu, h1, h2⟩ := hv.two
      simp only [VR] at h1 h2
      subst h1; subst h2
      obtain rfl : vs = #[.string ⟨s.toArray⟩, .int .u8 c] := by cases vs; simpa using hu
      refine (Tryz.strings_IndexByte ⟨s.toArray⟩ c w).mono fun e w' ⟨he, hw⟩ => ?_
      subst hw
      exact ⟨_, he, fun G => by simp [VR], Below.refl _ _⟩
    · cases h
  · unfold indexH at h
    split at h
    · cases h
      exact FrameR.same fun R H2 _ _ => rfl
    · cases h
def hooks0 : List (FuncId × (List AV → AH → Option (AV × AH))) := [(117, indexH)]
theorem hooks0_ok : ∀ e ∈ hooks0, HookOne Tryz.prog e.1 e.2 := by
  intro e he
  simp only [hooks0, List.mem_cons, List.not_mem_nil, or_false] at he
  subst he
  exact index_one
def all (f : FuncId) : Bool := true
set_option maxRecDepth 100000 in
theorem draws : ∀ f, all f = true → funD Tryz.prog f = true := fun f _ => funD_all (n := 224) (by decide +kernel) (by decide +kernel) f
theorem run_ok {l : List (FuncId × (List AV → AH → Option (AV × AH)))} (h : ∀ e ∈ l, HookOne Tryz.prog e.1 e.2) : CallOK Tryz.prog (arun Tryz.prog all (hooksOf l) 10000 100) :=
  arun_ok mixed draws (hooksOf_ok h).1 (hooksOf_ok h).2 100
end Go.Proofs.YtcnnobcncklgfaaGreatDoor
