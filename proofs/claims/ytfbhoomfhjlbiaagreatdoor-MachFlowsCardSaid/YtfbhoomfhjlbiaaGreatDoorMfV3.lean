/- Shared values. -/
import Derived.Test.YtfbhoomfhjlbiaaGreatDoorMfV2
namespace Go.Proofs.YtfbhoomfhjlbiaaGreatDoor
open Go Go.Abs Go.RowKit
set_option linter.unusedVariables false
set_option maxRecDepth 100000
noncomputable def w118 : AV := (.vals 1 [[(ci 0)]])
noncomputable def w119 : AV := (.vals 1 [[(ci 0)],[(ci 1)],[(ci 2)],[(ci 3)]])
noncomputable def w120 : AV := (.vals 1 [[(ci 0)],[(ci 1)],[(ci 2)]])
noncomputable def w121 : AV := (.vals 1 [[(ci 0)],[(ci 1)]])
noncomputable def w122 : AV := (.vals 1 [[(ci 1)]])
end Go.Proofs.YtfbhoomfhjlbiaaGreatDoor
