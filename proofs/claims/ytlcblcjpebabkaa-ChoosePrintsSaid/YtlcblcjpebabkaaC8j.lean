/- Layer 8: tokens without Space. -/
import Derived.Test.YtlcblcjpebabkaaC8d
import Derived.Test.YtlcblcjpebabkaaC8e
section
namespace Go.Proofs.Ytlcblcjpebabkaa
open Go.Sx
set_option linter.unusedSimpArgs false
set_option linter.unusedVariables false
set_option maxHeartbeats 8000000
set_option maxRecDepth 100000

structure DeT where
  es : List Tok
  i : Nat
  j : Nat
end Go.Proofs.Ytlcblcjpebabkaa
end
section
namespace Go.Proofs.Ytlcblcjpebabkaa
open Go.Sx
set_option linter.unusedSimpArgs false
set_option linter.unusedVariables false
set_option maxHeartbeats 8000000
set_option maxRecDepth 100000

def attK (r : List Tok) : Option Smp :=
  match r with
  | [a] => if a.kind = 2 then some ⟨5, a.text, ⟨#[]⟩⟩ else none
  | [a, b, c] => if a.kind = 2 ∧ b.kind = 11 ∧ b.text = ⟨#[61]⟩ ∧ (c.kind = 2 ∨ c.kind = 6) then some ⟨6, a.text, c.text⟩ else none
  | _ => none
end Go.Proofs.Ytlcblcjpebabkaa
end
