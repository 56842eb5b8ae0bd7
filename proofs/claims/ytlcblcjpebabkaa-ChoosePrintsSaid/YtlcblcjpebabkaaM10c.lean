/- Layer 10: which node a simple selector is about. -/
import Derived.Test.YtlcblcjpebabkaaM10b
namespace Go.Proofs.Ytlcblcjpebabkaa
open Go.Sx
set_option linter.unusedSimpArgs false
set_option maxHeartbeats 4000000
set_option maxRecDepth 20000

end Go.Proofs.Ytlcblcjpebabkaa
