/- Shared values. -/
import Derived.Test.YtdkfimmhgpeimaaGreatDoorQkV2
namespace Go.Proofs.YtdkfimmhgpeimaaGreatDoor
open Go Go.Abs
set_option linter.unusedVariables false
set_option maxRecDepth 100000
noncomputable def w109 : AV := (.vals 1 [[(ci 0)]])
noncomputable def w110 : AV := (.vals 1 [[(ci 0)],[(ci 1)],[(ci 2)],[(ci 3)]])
noncomputable def w111 : AV := (.vals 1 [[(ci 0)],[(ci 1)],[(ci 2)]])
noncomputable def w112 : AV := (.vals 1 [[(ci 0)],[(ci 1)]])
noncomputable def w113 : AV := (.vals 1 [[(ci 1)],[(ci 2)]])
noncomputable def w114 : AV := (.vals 1 [[(ci 3)]])
noncomputable def w115 : AV := (.vals 1 [[(ci 2)]])
noncomputable def w116 : AV := (.vals 1 [[(ci 3)],[(ci 8)]])
noncomputable def w117 : AV := (.vals 1 [[(ci 3)],[(ci 8)],[(ci 13)]])
end Go.Proofs.YtdkfimmhgpeimaaGreatDoor
