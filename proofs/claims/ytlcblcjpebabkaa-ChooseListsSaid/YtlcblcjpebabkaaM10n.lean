/- Layer 10: the greatest weight. -/
import Derived.Test.YtlcblcjpebabkaaM10m
namespace Go.Proofs.Ytlcblcjpebabkaa
open Go.Sx
set_option linter.unusedSimpArgs false
set_option maxHeartbeats 4000000
set_option maxRecDepth 20000

def bstP (l : List Node) (k : Int) (p : W3 × Bool) (x : Sel) : W3 × Bool := if isM l k x = true then (if p.2 = false ∨ abv (wtS x) p.1 = true then (wtS x, true) else p) else p
def bstF (l : List Node) (k : Int) (p : W3 × Bool) (s : List Sel) : W3 × Bool := s.foldl (bstP l k) p
theorem bstF_drop (l : List Node) (k : Int) (p : W3 × Bool) (s : List Sel) (n : Nat) (h : n < s.length) : bstF l k p (s.drop n) = bstF l k (bstP l k p (s.getD n [])) (s.drop (n + 1)) := by
  rw [List.drop_eq_getElem_cons h, List.getD_eq_getElem?_getD, List.getElem?_eq_getElem h]; rfl
theorem dSel_mk1 (s : Sel) : dSel (.agg [.slc 2 (s.map Cmp.enc)]) = s := dSelL_enc s
structure BsS where
  n : Nat
  w : W3
  b : Bool
  clk : Nat
end Go.Proofs.Ytlcblcjpebabkaa
