/- Layer 10, by the document: which nodes a selector is about. -/
import Derived.Test.YtlcblcjpebabkaaM10l
namespace Go.Proofs.Ytlcblcjpebabkaa
open Go.Sx
set_option linter.unusedSimpArgs false
set_option maxHeartbeats 4000000
set_option maxRecDepth 20000

structure UpS where
  b : Bool
  a : Int
end Go.Proofs.Ytlcblcjpebabkaa
