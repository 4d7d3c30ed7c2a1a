/- Shared values. -/
import Derived.Test.YtdkfimmhgpeimaaGreatDoorAbsZZ
namespace Go.Proofs.YtdkfimmhgpeimaaGreatDoor
open Go Go.Abs
set_option linter.unusedVariables false
set_option maxRecDepth 100000
noncomputable def w0 : AV := (.vals 1 [[(.str [97])],[(.str [98])]])
noncomputable def w1 : AV := (.str [97,112,112])
noncomputable def w2 : AV := (.str [120,102,120])
noncomputable def w3 : List AV := [(.str [58,45]),w2,(ci 1200)]
noncomputable def w4 : AV := (.str [120,102,121])
noncomputable def w5 : List AV := [(.str [44]),w4,(ci 1000)]
noncomputable def w6 : AV := (.str [102,121])
noncomputable def w7 : List AV := [(.str [61]),w2,(ci 700)]
noncomputable def w8 : AV := (.str [105,115])
noncomputable def w9 : List AV := [w8,w2,(ci 700)]
noncomputable def w10 : List AV := [(.str [62]),w2,(ci 700)]
noncomputable def w11 : AV := (.str [121,102,120])
noncomputable def w12 : List AV := [(.str [43]),w11,(ci 500)]
noncomputable def w13 : List AV := [(.str [45]),w11,(ci 500)]
noncomputable def w14 : List AV := [(.vals 3 [w3,[(.str [59]),w4,(ci 1100)],[(.str [45,62]),w4,(ci 1050)],w5,[(.str [92,43]),w6,(ci 900)],w7,[(.str [92,61]),w2,(ci 700)],[(.str [61,61]),w2,(ci 700)],[(.str [92,61,61]),w2,(ci 700)],[(.str [64,60]),w2,(ci 700)],[(.str [64,62]),w2,(ci 700)],[(.str [64,61,60]),w2,(ci 700)],[(.str [64,62,61]),w2,(ci 700)],[(.str [61,46,46]),w2,(ci 700)],w9,[(.str [61,58,61]),w2,(ci 700)],[(.str [61,92,61]),w2,(ci 700)],[(.str [60]),w2,(ci 700)],w10,[(.str [61,60]),w2,(ci 700)],[(.str [62,61]),w2,(ci 700)],w12,w13,[(.str [47,92]),w11,(ci 500)],[(.str [92,47]),w11,(ci 500)],[(.str [120,111,114]),w11,(ci 500)],[(.str [42]),w11,(ci 400)],[(.str [47,47]),w11,(ci 400)],[(.str [109,111,100]),w11,(ci 400)],[(.str [114,101,109]),w11,(ci 400)],[(.str [62,62]),w11,(ci 400)],[(.str [60,60]),w11,(ci 400)],[(.str [94]),w4,(ci 200)],[(.str [45]),w6,(ci 200)],[(.str [92]),w6,(ci 200)]])]
end Go.Proofs.YtdkfimmhgpeimaaGreatDoor
