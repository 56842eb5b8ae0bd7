/- Layer 9: within what a node is; which node may stand; ends. -/
import Derived.Test.YtlcblcjpebabkaaD9b
namespace Go.Proofs.Ytlcblcjpebabkaa
open Go.Sx
set_option linter.unusedSimpArgs false
set_option maxHeartbeats 4000000
set_option maxRecDepth 20000

structure InS where
  k : Int
  f : Nat
end Go.Proofs.Ytlcblcjpebabkaa
