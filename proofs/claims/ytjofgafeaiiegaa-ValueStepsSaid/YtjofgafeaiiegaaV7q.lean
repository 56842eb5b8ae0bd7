/- Layer 7: the law of lengths. -/
import Derived.Test.YtjofgafeaiiegaaV7p
import Derived.Test.YtjofgafeaiiegaaV7g
namespace Go.Proofs.Ytjofgafeaiiegaa
open Go.Sx
set_option linter.unusedSimpArgs false
set_option maxHeartbeats 4000000
set_option maxRecDepth 20000

end Go.Proofs.Ytjofgafeaiiegaa
