/- Layer 7: four lengths. -/
import Derived.Test.YtjofgafeaiiegaaV7n
namespace Go.Proofs.Ytjofgafeaiiegaa
open Go.Sx
set_option linter.unusedSimpArgs false
set_option maxHeartbeats 4000000
set_option maxRecDepth 20000

structure LnS where
  k : Nat
  out : List Int
  ver : Nat
  clk : Nat
end Go.Proofs.Ytjofgafeaiiegaa
