/- Plain functions: their constants. -/
import Derived.Test.YtopjcibcjaghcaaGreatDoorAbsZZ
import Derived.Test.YtopjcibcjaghcaaGreatDoorRows
namespace Go.Proofs.YtopjcibcjaghcaaGreatDoor
open Go Go.Abs Go.RowKit
set_option linter.unusedVariables false
set_option maxRecDepth 100000
noncomputable def tU (t : TypeId) : Option TypeDesc := Tryz.prog.underlying t
noncomputable def zv1 : AV := (.str [113,40,49,44,50,41])
noncomputable def zv2 : AV := (.str [112,40,88,41,32,58,45,32,113,40,88,44,89,41])
noncomputable def zv3 : AV := (.str [113,40,49,44,49,41])
noncomputable def zv4 : AV := (.agg [(ci 0),(ci 0),sE0,.nils,(ci 0),(ci 0),sE0,.nils])
noncomputable def zv5 : AV := (.agg [sE0,(ci 0),(.int .u64 0),bF])
noncomputable def zv6 : AV := (.agg [sE0,(ci 0),(.int .u64 0),bF,sE0,(ci 0),(.int .u64 0),bF,sE0,(ci 0),(.int .u64 0),bF])
noncomputable def zv7 : AV := (.agg [(ci 0),(ci 0),sE0,.nils])
noncomputable def zv8 : AV := (.agg [(ci 0),(.int .u64 0),(ci 0),(ci 0),sE0,.nils,(ci 0),(ci 0),sE0,.nils])
noncomputable def zv9 : AV := (.agg [.nilp,(ci 0),(ci 0),.nilm,.nilm])
noncomputable def zv10 : AV := (.agg [(ci 0),(ci 0),sE0,(ci 0)])
noncomputable def zv11 : AV := (.agg [.nilp,(ci 0),(ci 0),.nils])
noncomputable def zv12 : AV := (.agg [sE0,sE0,(ci 0),sE0,sE0,(ci 0),sE0,sE0,(ci 0),sE0,sE0,(ci 0),sE0,sE0,(ci 0)])
noncomputable def zv13 : AV := (.agg [sE0,sE0,sE0,sE0,sE0,sE0,sE0,sE0,sE0,sE0,sE0,sE0,sE0,sE0,sE0,sE0])
noncomputable def zv14 : AV := (.agg [sE0,sE0,sE0,sE0,sE0])
noncomputable def zv15 : AV := (.agg [sE0,sE0,sE0,sE0,sE0,sE0])
noncomputable def zv16 : AV := (.str [32,116,114,117,101,47,48,32,102,97,105,108,47,48,32,33,47,48,32,44,47,50,32,59,47,50,32,45,62,47,50,32,92,43,47,49,32,99,97,108,108,47,49,32,99,97,116,99,104,47,51,32,116,104,114,111,119,47,49,32,102,105,110,100,97,108,108,47,51,32,61,47,50,32,92,61,47,50,32,61,61,47,50,32,92,61,61,47,50,32,64,60,47,50,32,64,62,47,50,32,64,61,60,47,50,32,64,62,61,47,50,32,118,97,114,47,49,32,110,111,110,118,97,114,47,49,32,97,116,111,109,47,49,32,105,110,116,101,103,101,114,47,49,32,97,116,111,109,105,99,47,49,32,99,111,109,112,111,117,110,100,47,49,32,105,115,47,50,32,61,58,61,47,50,32,61,92,61,47,50,32,60,47,50,32,62,47,50,32,61,60,47,50,32,62,61,47,50,32,102,117,110,99,116,111,114,47,51,32,97,114,103,47,51,32,61,46,46,47,50,32,99,111,112,121,95,116,101,114,109,47,50,32,97,116,111,109,95,108,101,110,103,116,104,47,50,32,97,116,111,109,95,99,104,97,114,115,47,50,32,110,117,109,98,101,114,95,99,104,97,114,115,47,50,32,115,111,114,116,47,50,32,109,115,111,114,116,47,50,32,107,101,121,115,111,114,116,47,50,32,108,101,110,103,116,104,47,50,32,97,115,115,101,114,116,122,47,49,32,97,115,115,101,114,116,97,47,49,32,114,101,116,114,97,99,116,47,49,32,108,97,98,101,108,47,49,32,116,111,95,108,97,98,101,108,101,100,47,52,32,117,110,108,97,98,101,108,47,50,32,58,45,47,50,32])
noncomputable def zv17 : AV := (.str [116,114,117,101,32,102,97,105,108,32,33])
noncomputable def zv18 : AV := (.str [92,43,32,99,97,108,108,32,116,104,114,111,119,32,118,97,114,32,110,111,110,118,97,114,32,97,116,111,109,32,105,110,116,101,103,101,114,32,97,116,111,109,105,99,32,99,111,109,112,111,117,110,100,32,97,115,115,101,114,116,122,32,97,115,115,101,114,116,97,32,114,101,116,114,97,99,116,32,108,97,98,101,108])
noncomputable def zv19 : AV := (.str [44,32,59,32,45,62,32,61,32,92,61,32,61,61,32,92,61,61,32,64,60,32,64,62,32,64,61,60,32,64,62,61,32,105,115,32,61,58,61,32,61,92,61,32,60,32,62,32,61,60,32,62,61,32,61,46,46,32,99,111,112,121,95,116,101,114,109,32,97,116,111,109,95,108,101,110,103,116,104,32,97,116,111,109,95,99,104,97,114,115,32,110,117,109,98,101,114,95,99,104,97,114,115,32,115,111,114,116,32,109,115,111,114,116,32,107,101,121,115,111,114,116,32,108,101,110,103,116,104,32,117,110,108,97,98,101,108,32,58,45])
noncomputable def zv20 : AV := (.str [99,97,116,99,104,32,102,105,110,100,97,108,108,32,102,117,110,99,116,111,114,32,97,114,103])
noncomputable def zv21 : AV := (.str [116,111,95,108,97,98,101,108,101,100])
noncomputable def zv22 : AV := (.int .u64 18446744073709551615)
noncomputable def zv23 : AV := (.agg [(ci 0),(ci 0),(ci 0),sE0,.nils,.nils])
noncomputable def zv24 : AV := (.agg [(ci 0),(ci 0),sE0,.nils,(ci 0),(ci 0),sE0,.nils,(ci 0),(ci 0),sE0,.nils])
noncomputable def zv25 : AV := (.agg [.nils,.nils,(ci 0),(ci 0),.nils])
noncomputable def zv26 : AV := (.str [97,98,99,100,101,102,103,104,105,106,107,108,109,110,111,112,113,114,115,116,117,118,119,120,121,122,48,49,50,51,52,53,54,55,56,57,95])
noncomputable def zv27 : AV := (.agg [(ci 0),sE0,(ci 0),bF,(ci 0)])
noncomputable def zv28 : AV := (.agg [bF,bF,bF,bF,bF,bF,bF,bF,bF,bF,bF,bF,bF,bF,bF,bF,bF,bF,bF,bF,bF,bF,bF,bF,bF,bF,bF,bF,bF,bF,bF,bF,bF,bF,bF,bF,bF,bF,bF,bF,bF,bF,bF,bF,bF,bF,bF,bF,bF,bF,bF,bF,bF,bF,bF,bF,bF,bF,bF,bF,bF,bF,bF,bF,bF,bF,bF,bF,bF,bF,bF,bF,bF,bF,bF,bF,bF,bF,bF,bF,bF,bF,bF,bF,bF,bF,bF,bF,bF,bF,bF,bF,bF,bF,bF,bF,bF,bF,bF,bF,bF,bF,bF,bF,bF,bF,bF,bF,bF,bF,bF,bF,bF,bF,bF,bF,bF,bF,bF,bF,bF,bF,bF,bF,bF,bF,bF,bF,bF,bF,bF,bF,bF,bF,bF,bF,bF,bF,bF,bF,bF,bF,bF,bF,bF,bF,bF,bF,bF,bF,bF,bF,bF,bF,bF,bF,bF,bF,bF,bF,bF,bF,bF,bF,bF,bF,bF,bF,bF,bF,bF,bF,bF,bF,bF,bF,bF,bF,bF,bF,bF,bF,bF,bF,bF,bF,bF,bF,bF,bF,bF,bF,bF,bF,bF,bF,bF,bF,bF,bF,bF,bF,bF,bF,bF,bF,bF,bF,bF,bF,bF,bF,bF,bF,bF,bF,bF,bF,bF,bF,bF,bF,bF,bF,bF,bF,bF,bF,bF,bF,bF,bF,bF,bF,bF,bF,bF,bF,bF,bF,bF,bF,bF,bF,bF,bF,bF,bF,bF,bF,bF,bF,bF,bF,bF,bF])
noncomputable def zv29 : AV := (.str [40,41,91,93,123,125,44,124])
noncomputable def zv31 : AV := (.str [48,49,50,51,52,53,54,55,56,57])
noncomputable def zv32 : AV := (.str [43,45,42,47,92,94,60,62,61,126,58,46,63,64,35,38,36])
noncomputable def zv36 : AV := (.str [80,97,114,115,101,73,110,116])
noncomputable def zv38 : AV := (.int .u64 1844674407370955162)
noncomputable def zv39 : AV := (.int .u64 1152921504606846976)
end Go.Proofs.YtopjcibcjaghcaaGreatDoor
