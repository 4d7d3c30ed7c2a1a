/- What stands in for what is not carried out; the table. -/
import Derived.Test.YtdkfimmhgpeimaaGreatDoorAbsZZ
import Derived.Test.YtdkfimmhgpeimaaGreatDoorHkA
import Derived.Test.YtdkfimmhgpeimaaGreatDoorListA
import Derived.Test.YtdkfimmhgpeimaaGreatDoorQkZ0
import Derived.Test.YtdkfimmhgpeimaaGreatDoorQkZ1
import Derived.Test.YtdkfimmhgpeimaaGreatDoorQkZ2
import Derived.Test.YtdkfimmhgpeimaaGreatDoorQkZ3
import Derived.Test.YtdkfimmhgpeimaaGreatDoorQkZ4
namespace Go.Proofs.YtdkfimmhgpeimaaGreatDoor
open Go Go.Abs
set_option linter.unusedVariables false
set_option maxRecDepth 100000
theorem mixedH : Tryz.prog.follows .mixedOrders = true := by decide +kernel
def all (f : FuncId) : Bool := !(Nat.beq f 142) && !(Nat.beq f 249)
theorem drawsH : ∀ f, all f = true → funD Tryz.prog f = true := fun f hg => funD_some (n := 505) (by decide +kernel) (by decide +kernel) f hg
theorem runH {l : HL} (h : AllH Tryz.prog l) : CallOK Tryz.prog (arun Tryz.prog all (hooksOf l) 10000 200) :=
  arun_ok mixedH drawsH (hooksOf_ok h.all).1 (hooksOf_ok h.all).2 200
noncomputable def tz : List (Nat × MZ) := tl0 ++ tl1 ++ tl2 ++ tl3 ++ tl4
theorem tz_ok : AllZ Tryz.prog tz := ((((tl0_ok).app tl1_ok).app tl2_ok).app tl3_ok).app tl4_ok
noncomputable def hk0 : HL := [(302, indexH), (67, listH), (217, mcloneH), (218, mcloneH), (225, sindexH), (153, itoaH), (233, fintH), (91, joinH)]
theorem hk0_ok : AllH Tryz.prog hk0 := .c index_one <| .c list_one <| .c mclone_A <| .c mclone_B <| .c sindex_one <| .c itoa_one <| .c fint_one <| .c join_hook <| .n
noncomputable abbrev tb (h : HL) : ICall := tabU (hkT h) (mkT tz) 10000 200
theorem tz_all : ∀ e ∈ tz, all e.1 = true := List.all_eq_true.1 (by decide +kernel)
theorem keep {h : HL} (ok : AllH Tryz.prog h) {f : FuncId} {L : List (List AV × AV)} (r : allA (tb h) f L = true) : AllE Tryz.prog f L := memoF_of tz_all tz_ok (runH ok) r
end Go.Proofs.YtdkfimmhgpeimaaGreatDoor
