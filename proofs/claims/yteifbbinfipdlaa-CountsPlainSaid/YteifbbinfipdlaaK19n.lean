/- Layer 19: the law of what is in sight. -/
import Derived.Test.YteifbbinfipdlaaK19m
import Derived.Test.YteifbbinfipdlaaK19d
import Derived.Test.YteifbbinfipdlaaDd
namespace Go.Proofs.Yteifbbinfipdlaa
open Go.Sx
set_option linter.unusedSimpArgs false
set_option maxHeartbeats 8000000
set_option maxRecDepth 100000

theorem getD_css (L : List (List Cnt)) (i : Nat) (z : List V) (h : i < L.length) : (L.map fun l => [V.slc 3 (l.map Cnt.enc)]).getD i z = [.slc 3 ((L.getD i []).map Cnt.enc)] := by
  simp [List.getD_eq_getElem?_getD, h]
structure SgS where
  k : Int
  clk : Nat
end Go.Proofs.Yteifbbinfipdlaa
