/- Layer 8, by the document: which selectors are right. -/
import Derived.Test.YtlcblcjpebabkaaM10i
namespace Go.Proofs.Ytlcblcjpebabkaa
open Go.Sx
set_option linter.unusedSimpArgs false
set_option maxHeartbeats 4000000
set_option maxRecDepth 20000

def _root_.Go.Sx.C.hd : C → C
  | .seq a _ => a
  | c => c
def _root_.Go.Sx.C.tl : C → C
  | .seq _ b => b
  | c => c
def _root_.Go.Sx.C.inn : C → C
  | .block _ c => c
  | .loop c => c
  | c => c
end Go.Proofs.Ytlcblcjpebabkaa
