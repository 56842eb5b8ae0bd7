/- Layer 8, by the document: which selectors are right. -/
import Derived.Test.YtlcblcjpebabkaaM10i
namespace Go.Sx
def C.hd : C → C
  | .seq a _ => a
  | c => c
def C.tl : C → C
  | .seq _ b => b
  | c => c
def C.inn : C → C
  | .block _ c => c
  | .loop c => c
  | c => c
end Go.Sx
namespace Go.Proofs.Ytlcblcjpebabkaa
open Go.Sx
set_option linter.unusedSimpArgs false
set_option maxHeartbeats 4000000
set_option maxRecDepth 20000

end Go.Proofs.Ytlcblcjpebabkaa
