/- Shared values. -/
import Derived.Test.YtopjcibcjaghcaaGreatDoorSkV1
namespace Go.Proofs.YtopjcibcjaghcaaGreatDoor
open Go Go.Abs Go.RowKit
set_option linter.unusedVariables false
set_option maxRecDepth 100000
noncomputable def w8 : List AV := [(ci 2),(ci 0),(.str [112]),.nils]
noncomputable def w9 : List AV := [(ci 2),(ci 0),(.str [113]),.nils]
noncomputable def w10 : List AV := [(ci 2),(ci 0),(.str [114]),.nils]
noncomputable def w11 : List AV := [(ci 1),(ci 1),sE0,.nils]
noncomputable def w12 : AV := (.vals 4 [w11])
noncomputable def w13 : List AV := [(ci 2),(ci 0),(.str [112]),w12]
noncomputable def w14 : List AV := [(ci 1),(ci 2),sE0,.nils]
noncomputable def w15 : List AV := [(ci 2),(ci 0),(.str [112]),(.vals 4 [w14])]
noncomputable def w16 : List AV := [(ci 0),(ci 0),sE0,.nils]
noncomputable def w17 : List AV := [(ci 2),(ci 0),(.str [122]),w12]
noncomputable def w18 : List AV := [(ci 2),(ci 0),(.str [113]),(.vals 4 [w11,w14])]
noncomputable def w19 : List AV := [(ci 2),(ci 0),(.str [112]),(.vals 4 [w16])]
noncomputable def w20 : List AV := [(ci 2),(ci 0),(.str [113]),(.vals 4 [w16,[(ci 0),(ci 1),sE0,.nils]])]
noncomputable def w21 : List AV := [(ci 2),(ci 0),(.str [58,45]),(.vals 4 [w19,w20])]
noncomputable def w22 : List AV := [(ci 2),(ci 0),(.str [113]),(.vals 4 [w11,w11])]
noncomputable def w23 : List AV := [(.agg [sE0,sE0,(ci 0)]),bF]
end Go.Proofs.YtopjcibcjaghcaaGreatDoor
