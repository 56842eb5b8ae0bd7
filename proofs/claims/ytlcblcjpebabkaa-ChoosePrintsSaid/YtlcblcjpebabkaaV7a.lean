/- Layer 7: the parts of a value. -/
import Derived.Test.YtlcblcjpebabkaaNe
import Derived.Test.YtlcblcjpebabkaaLo
namespace Go.Proofs.Ytlcblcjpebabkaa
open Go.Sx
set_option linter.unusedSimpArgs false
set_option maxHeartbeats 4000000
set_option maxRecDepth 20000

structure Part where
  t : Tok
  ar : Option (List Tok)
instance : Inhabited Part := ⟨⟨.zero, none⟩⟩
def avO (o : Option (List Tok)) : V := match o with | none => vnil | some l => toks l
def Part.enc (p : Part) : List V := [vi p.t.kind, vs p.t.text, vi p.t.n, avO p.ar]
def parts (l : List Part) : V := .slc 4 (l.map Part.enc)
/-- The places from one on, ahead of another one. -/
def plR (ends : List Int) (to : Int) : Nat → Int → List Int
  | 0, _ => []
  | f + 1, a => if a < to then a :: plR ends to f (skip ends a) else []
structure PtS where
  k : Nat
  f : Nat
  out : List Part
  ver : Nat
  clk : Nat
theorem skip_nat {l : List Tok} (hd : deep l = false) (k : Nat) (hk : k < l.length) : ∃ n : Nat, skip (endsA l) k = n ∧ k < n ∧ n ≤ l.length := by
  have hlen : (endsA l).length = l.length := by unfold endsA; rw [hd]; simp [endsTo_len]
  have h1 := skip_gt (endsA l) k (by rw [hlen]; omega)
  have h2 := skip_le (endsA l) k (by rw [hlen]; omega)
  exact ⟨(skip (endsA l) k).toNat, by omega, by omega, by omega⟩
end Go.Proofs.Ytlcblcjpebabkaa
