/- Layer 9: classes and attributes (as in T9b). -/
import Derived.Test.YtlcblcjpebabkaaM10a
namespace Go.Proofs.Ytlcblcjpebabkaa
open Go.Sx
set_option linter.unusedSimpArgs false
set_option maxHeartbeats 4000000
set_option maxRecDepth 20000

end Go.Proofs.Ytlcblcjpebabkaa
