/- Layer 5: the ends of brackets, in one pass. -/
import Derived.Test.YtlcblcjpebabkaaL5c
namespace Go.Proofs.Ytlcblcjpebabkaa
open Go.Sx
set_option linter.unusedSimpArgs false
set_option maxHeartbeats 4000000
set_option maxRecDepth 20000

def pops (l : List Tok) (st : List Int) (k : Nat) : Prop := closing (l.getD k .zero) = ⟨#[]⟩ ∧ (l.getD k .zero).kind = 13 ∧ 0 < st.length ∧ closing (l.getD (st.getD (st.length - 1) 0).toNat .zero) = (l.getD k .zero).text
instance (l : List Tok) (st : List Int) (k : Nat) : Decidable (pops l st k) := by unfold pops; infer_instance
structure EnS where
  m : Nat
  es : List Int
  vo : Nat
  ve : Nat
  clk : Nat
end Go.Proofs.Ytlcblcjpebabkaa
