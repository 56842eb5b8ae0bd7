/- Layer 19: what may be gone through. -/
import Derived.Test.YteifbbinfipdlaaK19k
namespace Go.Proofs.Yteifbbinfipdlaa
open Go.Sx
set_option linter.unusedSimpArgs false
set_option maxHeartbeats 8000000
set_option maxRecDepth 100000

structure FwC where
  k : Nat
  clk : Nat
end Go.Proofs.Yteifbbinfipdlaa
