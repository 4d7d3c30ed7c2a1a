/- Shared values. -/
import Derived.Test.YtfbhoomfhjlbiaaGreatDoorMkV2
namespace Go.Proofs.YtfbhoomfhjlbiaaGreatDoor
open Go Go.Abs Go.RowKit
set_option linter.unusedVariables false
set_option maxRecDepth 100000
noncomputable def w318 : AV := (.str [112,40,49,41])
noncomputable def w319 : AV := (.str [112,40,50,41])
noncomputable def w320 : AV := (.str [92,43,32,112,40,55,41])
noncomputable def w321 : AV := (.str [102,40,97,41,32,64,60,32,102,40,98,41])
noncomputable def w322 : AV := (.str [49,32,61,58,61,32,50,32,45,32,49])
noncomputable def w323 : AV := (.str [97,32,92,61,32,98])
noncomputable def w324 : AV := (.vals 1 [[(ci 0)]])
noncomputable def w325 : AV := (.vals 1 [[(ci 0)],[(ci 1)],[(ci 2)],[(ci 3)]])
noncomputable def w326 : AV := (.vals 1 [[(ci 0)],[(ci 1)],[(ci 2)]])
noncomputable def w327 : AV := (.vals 1 [[(ci 0)],[(ci 1)]])
noncomputable def w328 : AV := (.vals 1 [[(ci 1)]])
noncomputable def w329 : AV := (.vals 1 [[(ci 2)]])
noncomputable def w330 : AV := (.vals 1 [[(ci 3)]])
noncomputable def w331 : AV := (.vals 1 [[(ci 3)],[(ci 4)]])
noncomputable def w332 : AV := (.vals 1 [[(ci 1)],[(ci 2)]])
noncomputable def w333 : AV := (.vals 1 [[(ci 7)]])
noncomputable def w334 : AV := (.vals 1 [[(ci 5)]])
noncomputable def w335 : AV := (.vals 1 [[(ci 4)]])
noncomputable def w336 : AV := (.vals 1 [[(ci 8)]])
noncomputable def w337 : List AV := [(ci 5),(.int .u64 (0)),(ci 2),(ci 0),(.str [112]),w26,(ci 2),(ci 0),w42,.nils]
noncomputable def w338 : List AV := [(ci 6),(.int .u64 (0)),(ci 2),(ci 0),(.str [112]),w29,(ci 2),(ci 0),w42,.nils]
noncomputable def w339 : List AV := [(ci 7),(.int .u64 (0)),(ci 2),(ci 0),(.str [112]),w67,(ci 2),(ci 0),w42,.nils]
noncomputable def w340 : List AV := [(ci 8),(.int .u64 (0)),(ci 2),(ci 0),(.str [113]),w45,(ci 2),(ci 0),(.str [44]),w72]
noncomputable def w341 : List AV := [(ci 1),(.int .u64 (0)),(ci 2),(ci 0),w35,w40,(ci 2),(ci 0),w42,.nils]
noncomputable def w342 : List AV := [(ci 2),(.int .u64 (0)),(ci 2),(ci 0),w35,w48,(ci 2),(ci 0),w35,w50]
noncomputable def w343 : List AV := [(ci 3),(.int .u64 (0)),(ci 2),(ci 0),(.str [110]),w55,(ci 2),(ci 0),w42,.nils]
noncomputable def w344 : List AV := [(ci 4),(.int .u64 (0)),(ci 2),(ci 0),(.str [110]),w58,(ci 2),(ci 0),(.str [44]),w61]
end Go.Proofs.YtfbhoomfhjlbiaaGreatDoor
