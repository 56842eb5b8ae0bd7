/- Layer 7: what happens to counters. -/
import Derived.Test.YtjofgafeaiiegaaV7i
import Derived.Test.YtjofgafeaiiegaaV7j
import Derived.Test.YtjofgafeaiiegaaGc
import Derived.Test.YtjofgafeaiiegaaWm
namespace Go.Proofs.Ytjofgafeaiiegaa
open Go.Sx
set_option linter.unusedSimpArgs false
set_option maxHeartbeats 8000000
set_option maxRecDepth 20000

abbrev NS := ByteArray × Int
structure Stp where
  name : ByteArray
  n : Int
  items : List Itm
instance : Inhabited Stp := ⟨⟨⟨#[]⟩, 0, []⟩⟩
def Stp.enc (s : Stp) : List V := [vs s.name, vi s.n, .slc 5 (s.items.map Itm.enc)]
def noneW : ByteArray := ⟨#[110, 111, 110, 101]⟩
def isNone (L : List Pa) : Bool := match L with | [p] => identB p noneW | _ => false
structure SpS where
  k : Nat
  out : List NS
  ver : Nat
  clk : Nat
end Go.Proofs.Ytjofgafeaiiegaa
