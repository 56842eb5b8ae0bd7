/- Layer 19: what is in sight behind a node: the plain law. -/
import Derived.Test.YteifbbinfipdlaaK19l
namespace Go.Proofs.Yteifbbinfipdlaa
open Go.Sx
set_option linter.unusedVariables false
set_option linter.unusedSimpArgs false
set_option maxHeartbeats 4000000
set_option maxRecDepth 20000

end Go.Proofs.Yteifbbinfipdlaa
