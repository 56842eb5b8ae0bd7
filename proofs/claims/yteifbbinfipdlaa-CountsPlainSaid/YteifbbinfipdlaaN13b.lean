/- Flows: right, by the document. -/
import Derived.Test.YteifbbinfipdlaaN13a
namespace Go.Proofs.Yteifbbinfipdlaa
open Go.Sx
set_option linter.unusedSimpArgs false
set_option maxHeartbeats 4000000
set_option maxRecDepth 20000

end Go.Proofs.Yteifbbinfipdlaa
