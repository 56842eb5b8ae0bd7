/- Layer 9, without the program: documents. -/
import Derived.Test.YtlcblcjpebabkaaD9d
namespace Go.Proofs.Ytlcblcjpebabkaa
open Go.Sx
set_option linter.unusedSimpArgs false
set_option maxHeartbeats 1000000

end Go.Proofs.Ytlcblcjpebabkaa
