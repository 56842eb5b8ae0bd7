/- Layer 10, by the document: which node simple selectors and compounds are about. -/
import Derived.Test.YtlcblcjpebabkaaM10f
namespace Go.Proofs.Ytlcblcjpebabkaa
open Go.Sx
set_option linter.unusedSimpArgs false
set_option maxHeartbeats 4000000
set_option maxRecDepth 20000

end Go.Proofs.Ytlcblcjpebabkaa
