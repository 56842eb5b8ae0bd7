/- Layer 10: the greatest weight. -/
import Derived.Test.YtlcblcjpebabkaaM10m
namespace Go.Proofs.Ytlcblcjpebabkaa
open Go.Sx
set_option linter.unusedSimpArgs false
set_option maxHeartbeats 4000000
set_option maxRecDepth 20000

structure BsS where
  n : Nat
  w : W3
  b : Bool
  clk : Nat
end Go.Proofs.Ytlcblcjpebabkaa
