/- Layer 7: what happens to counters, by the document. -/
import Derived.Test.YtjofgafeaiiegaaV7u
namespace Go.Proofs.Ytjofgafeaiiegaa
open Go.Sx
set_option linter.unusedSimpArgs false
set_option maxHeartbeats 8000000
set_option maxRecDepth 20000

end Go.Proofs.Ytjofgafeaiiegaa
