/- Layer 10: which node a simple selector is about. -/
import Derived.Test.YtlcblcjpebabkaaM10b
namespace Go.Proofs.Ytlcblcjpebabkaa
open Go.Sx
set_option linter.unusedSimpArgs false
set_option maxHeartbeats 4000000
set_option maxRecDepth 20000

def dSms (v : V) : List Smp := v.es.map dSmp
theorem dSms_map (sz : Nat) (l : List Smp) : dSms (.slc sz (l.map Smp.enc)) = l := dSmps sz l
end Go.Proofs.Ytlcblcjpebabkaa
