/- Layer 7: items, by the document. -/
import Derived.Test.YtjofgafeaiiegaaV7s
namespace Go.Proofs.Ytjofgafeaiiegaa
open Go.Sx
set_option linter.unusedSimpArgs false
set_option maxHeartbeats 4000000
set_option maxRecDepth 20000

end Go.Proofs.Ytjofgafeaiiegaa
