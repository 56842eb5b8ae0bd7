/- Layer 8: which selectors are the same, and what the document has. -/
import Derived.Test.YtlcblcjpebabkaaC8b
namespace Go.Proofs.Ytlcblcjpebabkaa
open Go.Sx
set_option linter.unusedSimpArgs false
set_option maxHeartbeats 4000000
set_option maxRecDepth 20000

structure SaS where
  n : Nat
  clk : Nat
end Go.Proofs.Ytlcblcjpebabkaa
