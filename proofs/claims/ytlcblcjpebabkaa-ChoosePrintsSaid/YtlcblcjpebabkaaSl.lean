/- The parts between tokens of a kind. -/
import Derived.Test.YtlcblcjpebabkaaNe
namespace Go.Proofs.Ytlcblcjpebabkaa
open Go.Sx
set_option linter.unusedSimpArgs false
set_option maxHeartbeats 4000000
set_option maxRecDepth 20000

def findF (l : List Tok) (ends : List Int) (to kind : Int) : Nat → Int → Int
  | 0, _ => -1
  | f + 1, k => if k < to then (if (l.getD k.toNat .zero).kind = kind then k else findF l ends to kind f (skip ends k)) else -1
def bad (l : List Tok) (ends : List Int) (a b : Int) : Prop := ¬ ends.length = l.length ∨ ¬ (0 ≤ a ∧ a ≤ b ∧ b ≤ l.length)
instance (l : List Tok) (ends : List Int) (a b : Int) : Decidable (bad l ends a b) := by unfold bad; infer_instance
def nfind (l : List Tok) (ends : List Int) (a b kind : Int) : Int := if bad l ends a b then -1 else findF l ends b kind (b - a).toNat a
structure FiS where
  k : Int
  f : Nat
def prs (l : List (Int × Int)) : V := .slc 2 (l.map fun p => [vi p.1, vi p.2])
theorem mapO_prs11 (S : Nat → Bool) (h : Heap) (l : List (Int × Int)) : mapO (mapO (res S h 11)) (l.map fun p => [vi p.1, vi p.2]) = some (l.map fun p => [vi p.1, vi p.2]) := mapO_flat S h 10 _ (fun _ => rfl) l
def splitF (l : List Tok) (ends : List Int) (b kind : Int) : Nat → Int → List (Int × Int)
  | 0, a => [(a, b)]
  | f + 1, a => if 0 ≤ nfind l ends a b kind then (a, nfind l ends a b kind) :: splitF l ends b kind f (nfind l ends a b kind + 1) else [(a, b)]
structure SlS where
  a : Int
  f : Nat
  out : List (Int × Int)
  ver : Nat
  clk : Nat
end Go.Proofs.Ytlcblcjpebabkaa
