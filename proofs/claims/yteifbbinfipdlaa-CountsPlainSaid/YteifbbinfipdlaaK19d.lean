/- Layer 19: the law of the numbers of the counters of a name. -/
import Derived.Test.YteifbbinfipdlaaK19c
namespace Go.Proofs.Yteifbbinfipdlaa
open Go.Sx
set_option linter.unusedSimpArgs false
set_option maxHeartbeats 4000000
set_option maxRecDepth 20000

end Go.Proofs.Yteifbbinfipdlaa
