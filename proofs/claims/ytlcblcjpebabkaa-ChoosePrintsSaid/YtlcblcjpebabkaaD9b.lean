/- Layer 9: the small functions. -/
import Derived.Test.YtlcblcjpebabkaaCd
import Derived.Test.YtlcblcjpebabkaaE4
namespace Go.Proofs.Ytlcblcjpebabkaa
open Go.Sx
set_option linter.unusedSimpArgs false
set_option maxHeartbeats 4000000
set_option maxRecDepth 20000

/-- The first one of which something holds. -/
def fst (p : Nat → Bool) : Nat → Nat → Int
  | 0, _ => -1
  | f + 1, k => if p k = true then k else fst p f (k + 1)
end Go.Proofs.Ytlcblcjpebabkaa
