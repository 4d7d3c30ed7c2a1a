/- Shared values. -/
import Derived.Test.YtjnagmdbkkccpaaGreatDoorAbsZZ
namespace Go.Proofs.YtjnagmdbkkccpaaGreatDoor
open Go Go.Abs Go.RowKit
set_option linter.unusedVariables false
set_option maxRecDepth 100000
noncomputable def w0 : AV := (.str [48,49,50,51,52,53,54,55,56,57])
noncomputable def w1 : AV := (.str [113,117,111,116,97])
noncomputable def w2 : AV := (.str [119,104,97,116])
noncomputable def w3 : AV := (.vals 1 [[(.str [97])]])
noncomputable def w4 : AV := (.vals 1 [[(.str [97])],[(.str [98])]])
noncomputable def w5 : List AV := [(ci 2),(ci 0),(.str [112]),.nils]
noncomputable def w6 : List AV := [(ci 1),(ci 1),sE0,.nils]
noncomputable def w7 : List AV := [(ci 2),(ci 0),(.str [112]),(.vals 4 [w6])]
noncomputable def w8 : List AV := [(ci 2),(ci 0),(.str [116,114,117,101]),.nils]
noncomputable def w9 : List AV := [(ci 2),(ci 0),(.str [112]),(.vals 4 [[(ci 0),(ci 0),sE0,.nils]])]
noncomputable def w10 : AV := (.str [105,115])
noncomputable def w11 : List AV := [(ci 2),(ci 0),w10,.nils]
noncomputable def w12 : List AV := [(ci 2),(ci 0),(.str [113]),.nils]
noncomputable def w13 : List AV := [(ci 1),(ci 2),sE0,.nils]
noncomputable def w14 : List AV := [(ci 2),(ci 0),(.str [112]),(.vals 4 [w13])]
noncomputable def w15 : List AV := [(ci 2),(ci 0),(.str [113]),(.vals 4 [w6,w13])]
noncomputable def w16 : AV := (.str [120,102,120])
noncomputable def w17 : AV := (.str [120,102,121])
noncomputable def w18 : List AV := [(.str [44]),w17,(ci 1000)]
noncomputable def w19 : AV := (.str [102,121])
noncomputable def w20 : AV := (.str [121,102,120])
noncomputable def w21 : List AV := [(.vals 3 [[(.str [58,45]),w16,(ci 1200)],[(.str [59]),w17,(ci 1100)],[(.str [45,62]),w17,(ci 1050)],w18,[(.str [92,43]),w19,(ci 900)],[(.str [61]),w16,(ci 700)],[(.str [92,61]),w16,(ci 700)],[(.str [61,61]),w16,(ci 700)],[(.str [92,61,61]),w16,(ci 700)],[(.str [64,60]),w16,(ci 700)],[(.str [64,62]),w16,(ci 700)],[(.str [64,61,60]),w16,(ci 700)],[(.str [64,62,61]),w16,(ci 700)],[(.str [61,46,46]),w16,(ci 700)],[w10,w16,(ci 700)],[(.str [61,58,61]),w16,(ci 700)],[(.str [61,92,61]),w16,(ci 700)],[(.str [60]),w16,(ci 700)],[(.str [62]),w16,(ci 700)],[(.str [61,60]),w16,(ci 700)],[(.str [62,61]),w16,(ci 700)],[(.str [43]),w20,(ci 500)],[(.str [45]),w20,(ci 500)],[(.str [47,92]),w20,(ci 500)],[(.str [92,47]),w20,(ci 500)],[(.str [120,111,114]),w20,(ci 500)],[(.str [42]),w20,(ci 400)],[(.str [47,47]),w20,(ci 400)],[(.str [109,111,100]),w20,(ci 400)],[(.str [114,101,109]),w20,(ci 400)],[(.str [62,62]),w20,(ci 400)],[(.str [60,60]),w20,(ci 400)],[(.str [94]),w17,(ci 200)],[(.str [45]),w19,(ci 200)],[(.str [92]),w19,(ci 200)]])]
noncomputable def w22 : List AV := [(.agg [sE0,sE0,(ci 0)]),bF]
end Go.Proofs.YtjnagmdbkkccpaaGreatDoor
