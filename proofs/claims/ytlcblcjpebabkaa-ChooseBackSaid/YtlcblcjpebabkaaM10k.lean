/- Layer 10: a selector as the document has it. -/
import Derived.Test.YtlcblcjpebabkaaM10j
namespace Go.Proofs.Ytlcblcjpebabkaa
open Go.Sx
set_option linter.unusedSimpArgs false
set_option maxHeartbeats 4000000
set_option maxRecDepth 20000

structure GvS where
  n : Nat
  ver : Nat
  clk : Nat
end Go.Proofs.Ytlcblcjpebabkaa
