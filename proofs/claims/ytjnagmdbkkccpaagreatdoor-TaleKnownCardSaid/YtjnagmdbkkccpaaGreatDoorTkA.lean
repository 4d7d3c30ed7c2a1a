/- What stands in for what is not carried out; the table. -/
import Derived.Test.YtjnagmdbkkccpaaGreatDoorAbsZZ
import Derived.Test.YtjnagmdbkkccpaaGreatDoorHkA
import Derived.Test.YtjnagmdbkkccpaaGreatDoorMClone
import Derived.Test.YtjnagmdbkkccpaaGreatDoorHkCnt
import Derived.Test.YtjnagmdbkkccpaaGreatDoorStB
import Derived.Test.YtjnagmdbkkccpaaGreatDoorTlA
import Derived.Test.YtjnagmdbkkccpaaGreatDoorTlB
import Derived.Test.YtjnagmdbkkccpaaGreatDoorTkZ0
import Derived.Test.YtjnagmdbkkccpaaGreatDoorTkZ1
import Derived.Test.YtjnagmdbkkccpaaGreatDoorTkZ2
import Derived.Test.YtjnagmdbkkccpaaGreatDoorTkZ3
import Derived.Test.YtjnagmdbkkccpaaGreatDoorTkZ4
namespace Go.Proofs.YtjnagmdbkkccpaaGreatDoor
open Go Go.Abs Go.RowKit
set_option linter.unusedVariables false
set_option maxRecDepth 100000
theorem mixedH : Tryz.prog.follows .mixedOrders = true := by decide +kernel
def all (f : FuncId) : Bool := !(Nat.beq f 206)
theorem drawsH : ∀ f, all f = true → funD Tryz.prog f = true := fun f hg => funD_some (n := 409) (by decide +kernel) (by decide +kernel) f hg
theorem runH {l : HL} (h : AllH Tryz.prog l) : CallOK Tryz.prog (arun Tryz.prog all (hooksOf l) 10000 200) :=
  arun_ok mixedH drawsH (hooksOf_ok h.all).1 (hooksOf_ok h.all).2 200
noncomputable def tz : List (Nat × MZ) := tl0 ++ tl1 ++ tl2 ++ tl3 ++ tl4
theorem tz_ok : AllZ Tryz.prog tz := ((((tl0_ok).app tl1_ok).app tl2_ok).app tl3_ok).app tl4_ok
noncomputable def hk0 : HL := [(211, indexH), (43, sindexH), (72, sindexH), (40, itoaH), (62, fintB), (59, joinZ), (42, countH), (270, cloneH), (130, mcloneH), (131, mcloneH), (135, (insertH 10 128)), (12, (wsH 48 5))]
theorem hk0_ok : AllH Tryz.prog hk0 := .c index_one <| .c sindex_one <| .c slindex_one <| .c itoa_one <| .c fintB_one <| .c joinz_hook <| .c count_one <| .c clone_one <| .c mclone_A <| .c mclone_B <| .c insert_one <| .c ws_one <| .n
noncomputable abbrev tb (h : HL) : ICall := tabU (hkT h) (mkT tz) 10000 200
theorem tz_all : ∀ e ∈ tz, all e.1 = true := List.all_eq_true.1 (by decide +kernel)
theorem keep {h : HL} (ok : AllH Tryz.prog h) {f : FuncId} {L : List (List AV × AV)} (r : allA (tb h) f L = true) : AllE Tryz.prog f L := memoF_of tz_all tz_ok (runH ok) r
theorem framH {l : HL} (h : AllH Tryz.prog l) : CallFrame (arun Tryz.prog all (hooksOf l) 10000 200) := arun_frame (hooksOf_ok h.all).2 200
theorem keep5 {h : HL} (ok : AllH Tryz.prog h) {L : List (List AV × AV)} (r : allR (tb h) L = true) : AllE Tryz.prog 5 L := runAll tz_all tz_ok (runH ok) (framH ok) r
end Go.Proofs.YtjnagmdbkkccpaaGreatDoor
