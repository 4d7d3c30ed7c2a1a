/- Shared values. -/
import Derived.Test.YtopjcibcjaghcaaGreatDoorAbsZZ
namespace Go.Proofs.YtopjcibcjaghcaaGreatDoor
open Go Go.Abs Go.RowKit
set_option linter.unusedVariables false
set_option maxRecDepth 100000
noncomputable def w0 : AV := (.vals 1 [[(.str [97])],[(.str [98])]])
noncomputable def w1 : AV := (.str [120,102,120])
noncomputable def w2 : List AV := [(.str [58,45]),w1,(ci 1200)]
noncomputable def w3 : AV := (.str [120,102,121])
noncomputable def w4 : List AV := [(.str [44]),w3,(ci 1000)]
noncomputable def w5 : AV := (.str [102,121])
noncomputable def w6 : AV := (.str [121,102,120])
noncomputable def w7 : List AV := [(.vals 3 [w2,[(.str [59]),w3,(ci 1100)],[(.str [45,62]),w3,(ci 1050)],w4,[(.str [92,43]),w5,(ci 900)],[(.str [61]),w1,(ci 700)],[(.str [92,61]),w1,(ci 700)],[(.str [61,61]),w1,(ci 700)],[(.str [92,61,61]),w1,(ci 700)],[(.str [64,60]),w1,(ci 700)],[(.str [64,62]),w1,(ci 700)],[(.str [64,61,60]),w1,(ci 700)],[(.str [64,62,61]),w1,(ci 700)],[(.str [61,46,46]),w1,(ci 700)],[(.str [105,115]),w1,(ci 700)],[(.str [61,58,61]),w1,(ci 700)],[(.str [61,92,61]),w1,(ci 700)],[(.str [60]),w1,(ci 700)],[(.str [62]),w1,(ci 700)],[(.str [61,60]),w1,(ci 700)],[(.str [62,61]),w1,(ci 700)],[(.str [43]),w6,(ci 500)],[(.str [45]),w6,(ci 500)],[(.str [47,92]),w6,(ci 500)],[(.str [92,47]),w6,(ci 500)],[(.str [120,111,114]),w6,(ci 500)],[(.str [42]),w6,(ci 400)],[(.str [47,47]),w6,(ci 400)],[(.str [109,111,100]),w6,(ci 400)],[(.str [114,101,109]),w6,(ci 400)],[(.str [62,62]),w6,(ci 400)],[(.str [60,60]),w6,(ci 400)],[(.str [94]),w3,(ci 200)],[(.str [45]),w5,(ci 200)],[(.str [92]),w5,(ci 200)]])]
end Go.Proofs.YtopjcibcjaghcaaGreatDoor
