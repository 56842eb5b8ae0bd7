/- Texts in small letters. -/
import Derived.Test.YtlcblcjpebabkaaCd
import Derived.Test.YtlcblcjpebabkaaE4
import Derived.Test.YtlcblcjpebabkaaE4
namespace Go.Proofs.Ytlcblcjpebabkaa
open Go.Sx
set_option linter.unusedSimpArgs false
set_option maxHeartbeats 4000000
set_option maxRecDepth 20000

structure LoS where
  k : Nat
  ver : Nat
  clk : Nat
end Go.Proofs.Ytlcblcjpebabkaa
