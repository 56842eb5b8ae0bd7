/- Layer 10: which weight is above which. -/
import Derived.Test.YtlcblcjpebabkaaM10e
namespace Go.Proofs.Ytlcblcjpebabkaa
open Go.Sx
set_option linter.unusedSimpArgs false
set_option maxHeartbeats 4000000
set_option maxRecDepth 20000

structure W3 where
  a : Int
  b : Int
  c : Int
def W3.enc (w : W3) : List V := [vi w.a, vi w.b, vi w.c]
end Go.Proofs.Ytlcblcjpebabkaa
