/- Layer 7, without the program: Space between parts says nothing. -/
import Derived.Test.YtjofgafeaiiegaaV7A
namespace Go.Proofs.Ytjofgafeaiiegaa
open Go.Sx
set_option linter.unusedSimpArgs false
set_option maxHeartbeats 8000000
set_option maxRecDepth 20000

end Go.Proofs.Ytjofgafeaiiegaa
