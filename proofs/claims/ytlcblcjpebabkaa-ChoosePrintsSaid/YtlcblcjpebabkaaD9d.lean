/- Layer 9: which node may not stand, in one pass. -/
import Derived.Test.YtlcblcjpebabkaaD9c
namespace Go.Proofs.Ytlcblcjpebabkaa
open Go.Sx
set_option linter.unusedSimpArgs false
set_option maxHeartbeats 4000000
set_option maxRecDepth 20000

structure CkS where
  k : Nat
  es : List Int
  ver : Nat
  clk : Nat
end Go.Proofs.Ytlcblcjpebabkaa
