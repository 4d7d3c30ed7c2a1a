/- What stands in for what is not carried out; the table. -/
import Derived.Test.YtfbhoomfhjlbiaaGreatDoorAbsZZ
import Derived.Test.YtfbhoomfhjlbiaaGreatDoorHkA
import Derived.Test.YtfbhoomfhjlbiaaGreatDoorListA
import Derived.Test.YtfbhoomfhjlbiaaGreatDoorHkB
import Derived.Test.YtfbhoomfhjlbiaaGreatDoorStD
import Derived.Test.YtfbhoomfhjlbiaaGreatDoorMfZ0
import Derived.Test.YtfbhoomfhjlbiaaGreatDoorMfZ1
import Derived.Test.YtfbhoomfhjlbiaaGreatDoorMfZ2
import Derived.Test.YtfbhoomfhjlbiaaGreatDoorMfZ3
import Derived.Test.YtfbhoomfhjlbiaaGreatDoorMfZ4
import Derived.Test.YtfbhoomfhjlbiaaGreatDoorMfZ5
namespace Go.Proofs.YtfbhoomfhjlbiaaGreatDoor
open Go Go.Abs Go.RowKit
set_option linter.unusedVariables false
set_option maxRecDepth 100000
theorem mixedH : Tryz.prog.follows .mixedOrders = true := by decide +kernel
def all (f : FuncId) : Bool := !(Nat.beq f 97) && !(Nat.beq f 168)
theorem drawsH : ∀ f, all f = true → funD Tryz.prog f = true := fun f hg => funD_some (n := 431) (by decide +kernel) (by decide +kernel) f hg
theorem runH {l : HL} (h : AllH Tryz.prog l) : CallOK Tryz.prog (arun Tryz.prog all (hooksOf l) 10000 200) :=
  arun_ok mixedH drawsH (hooksOf_ok h.all).1 (hooksOf_ok h.all).2 200
noncomputable def tz : List (Nat × MZ) := tl0 ++ tl1 ++ tl2 ++ tl3 ++ tl4 ++ tl5
theorem tz_ok : AllZ Tryz.prog tz := (((((tl0_ok).app tl1_ok).app tl2_ok).app tl3_ok).app tl4_ok).app tl5_ok
noncomputable def hk0 : HL := [(206, indexH), (43, listH), (151, sindexH), (106, itoaH), (284, joinZ), (168, numH), (385, countH), (176, cloneH), (68, (insertH 10 128)), (283, dropX)]
theorem hk0_ok : AllH Tryz.prog hk0 := .c index_one <| .c list_one <| .c sindex_one <| .c itoa_one <| .c joinz_hook <| .c num_one <| .c count_one <| .c clone_one <| .c insert_one <| .c drop_one <| .n
noncomputable abbrev tb (h : HL) : ICall := tabU (hkT h) (mkT tz) 10000 200
theorem tz_all : ∀ e ∈ tz, all e.1 = true := List.all_eq_true.1 (by decide +kernel)
theorem keep {h : HL} (ok : AllH Tryz.prog h) {f : FuncId} {L : List (List AV × AV)} (r : allA (tb h) f L = true) : AllE Tryz.prog f L := memoF_of tz_all tz_ok (runH ok) r
end Go.Proofs.YtfbhoomfhjlbiaaGreatDoor
