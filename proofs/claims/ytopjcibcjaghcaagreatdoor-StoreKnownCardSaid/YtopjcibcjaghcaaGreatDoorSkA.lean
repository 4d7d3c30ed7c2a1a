/- What stands in for what is not carried out; the table. -/
import Derived.Test.YtopjcibcjaghcaaGreatDoorAbsZZ
import Derived.Test.YtopjcibcjaghcaaGreatDoorHkA
import Derived.Test.YtopjcibcjaghcaaGreatDoorStD
import Derived.Test.YtopjcibcjaghcaaGreatDoorSkZ0
import Derived.Test.YtopjcibcjaghcaaGreatDoorSkZ1
import Derived.Test.YtopjcibcjaghcaaGreatDoorSkZ2
namespace Go.Proofs.YtopjcibcjaghcaaGreatDoor
open Go Go.Abs Go.RowKit
set_option linter.unusedVariables false
set_option maxRecDepth 100000
theorem mixedH : Tryz.prog.follows .mixedOrders = true := by decide +kernel
def all (f : FuncId) : Bool := true
theorem drawsH : ∀ f, all f = true → funD Tryz.prog f = true := fun f hg => funD_some (n := 283) (by decide +kernel) (by decide +kernel) f hg
theorem runH {l : HL} (h : AllH Tryz.prog l) : CallOK Tryz.prog (arun Tryz.prog all (hooksOf l) 10000 200) :=
  arun_ok mixedH drawsH (hooksOf_ok h.all).1 (hooksOf_ok h.all).2 200
noncomputable def tz : List (Nat × MZ) := tl0 ++ tl1 ++ tl2
theorem tz_ok : AllZ Tryz.prog tz := ((tl0_ok).app tl1_ok).app tl2_ok
noncomputable def hk0 : HL := [(179, indexH), (143, sindexH), (117, itoaH), (53, mcloneH), (54, mcloneH), (39, (insertH 10 128)), (20, dropX)]
theorem hk0_ok : AllH Tryz.prog hk0 := .c index_one <| .c sindex_one <| .c itoa_one <| .c mclone_A <| .c mclone_B <| .c insert_one <| .c drop_one <| .n
noncomputable abbrev tb (h : HL) : ICall := tabU (hkT h) (mkT tz) 10000 200
theorem tz_all : ∀ e ∈ tz, all e.1 = true := List.all_eq_true.1 (by decide +kernel)
theorem keep {h : HL} (ok : AllH Tryz.prog h) {f : FuncId} {L : List (List AV × AV)} (r : allA (tb h) f L = true) : AllE Tryz.prog f L := memoF_of tz_all tz_ok (runH ok) r
end Go.Proofs.YtopjcibcjaghcaaGreatDoor
