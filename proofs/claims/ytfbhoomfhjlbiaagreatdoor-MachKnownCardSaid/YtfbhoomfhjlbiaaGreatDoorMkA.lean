/- What stands in for what is not carried out; the table. -/
import Derived.Test.YtfbhoomfhjlbiaaGreatDoorAbsZZ
import Derived.Test.YtfbhoomfhjlbiaaGreatDoorHkA
import Derived.Test.YtfbhoomfhjlbiaaGreatDoorListA
import Derived.Test.YtfbhoomfhjlbiaaGreatDoorHkB
import Derived.Test.YtfbhoomfhjlbiaaGreatDoorStB
import Derived.Test.YtfbhoomfhjlbiaaGreatDoorCollG
import Derived.Test.YtfbhoomfhjlbiaaGreatDoorMkZ0
import Derived.Test.YtfbhoomfhjlbiaaGreatDoorMkZ1
import Derived.Test.YtfbhoomfhjlbiaaGreatDoorMkZ2
import Derived.Test.YtfbhoomfhjlbiaaGreatDoorMkZ3
import Derived.Test.YtfbhoomfhjlbiaaGreatDoorMkZ4
import Derived.Test.YtfbhoomfhjlbiaaGreatDoorMkZ5
import Derived.Test.YtfbhoomfhjlbiaaGreatDoorMkZ6
namespace Go.Proofs.YtfbhoomfhjlbiaaGreatDoor
open Go Go.Abs Go.RowKit
set_option linter.unusedVariables false
set_option maxRecDepth 100000
theorem mixedH : Tryz.prog.follows .mixedOrders = true := by decide +kernel
def all (f : FuncId) : Bool := !(Nat.beq f 97) && !(Nat.beq f 168)
theorem drawsH : ∀ f, all f = true → funD Tryz.prog f = true := fun f hg => funD_some (n := 431) (by decide +kernel) (by decide +kernel) f hg
noncomputable abbrev sp : Sps := spOf Tryz.prog 97 colMZ all
theorem runH {l : HL} (h : AllH Tryz.prog l) : CallOK Tryz.prog (arunS sp (hooksOf l) 10000 200) :=
  arunS_ok (spOf_ok mixedH col_ok drawsH) (hooksOf_ok h.all).1 (hooksOf_ok h.all).2 200
noncomputable def tz : List (Nat × MZ) := tl0 ++ tl1 ++ tl2 ++ tl3 ++ tl4 ++ tl5 ++ tl6
theorem tz_ok : AllZ Tryz.prog tz := ((((((tl0_ok).app tl1_ok).app tl2_ok).app tl3_ok).app tl4_ok).app tl5_ok).app tl6_ok
noncomputable def hk0 : HL := [(206, indexH), (43, listH), (151, sindexH), (106, itoaH), (284, joinZ), (168, numH), (176, cloneH), (68, (insertH 10 128))]
theorem hk0_ok : AllH Tryz.prog hk0 := .c index_one <| .c list_one <| .c sindex_one <| .c itoa_one <| .c joinz_hook <| .c num_one <| .c clone_one <| .c insert_one <| .n
noncomputable def tzc : List (Nat × MZ) := (97, colMZ) :: tz
theorem tz_all : (tz.all fun e => all e.1 && !(Nat.beq e.1 97)) = true := by decide +kernel
theorem tz_e : ∀ e ∈ tzc, EZS sp e.1 e.2 := ezs_all tz_ok (List.all_eq_true.1 tz_all) col_ez
noncomputable abbrev tb (h : HL) : ICall := tabU (hkT h) (mkT tzc) 10000 200
theorem keep {h : HL} (ok : AllH Tryz.prog h) {f : FuncId} {L : List (List AV × AV)} (r : allA (tb h) f L = true) : AllE Tryz.prog f L := memoS_of tz_e (runH ok) r
theorem keepV {h : HL} (ok : AllH Tryz.prog h) {f : FuncId} {L : List (List AV × AV)} (r : allAV (tb h) f L = true) : AllE Tryz.prog f L := memoSV_of tz_e (runH ok) r
end Go.Proofs.YtfbhoomfhjlbiaaGreatDoor
