/- Shared values. -/
import Derived.Test.YtjnagmdbkkccpaaGreatDoorTkV1
namespace Go.Proofs.YtjnagmdbkkccpaaGreatDoor
open Go Go.Abs Go.RowKit
set_option linter.unusedVariables false
set_option maxRecDepth 100000
noncomputable def w23 : AV := (.str [123,125])
noncomputable def w24 : List AV := [(.int .u64 (0)),bT]
noncomputable def w25 : AV := (.str [123,97,125])
noncomputable def w26 : List AV := [(.int .u64 (1)),bT]
end Go.Proofs.YtjnagmdbkkccpaaGreatDoor
