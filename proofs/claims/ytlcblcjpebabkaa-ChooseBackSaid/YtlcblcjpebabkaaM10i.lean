/- Layers 8 and 10: what selectors weigh. -/
import Derived.Test.YtlcblcjpebabkaaM10h
namespace Go.Proofs.Ytlcblcjpebabkaa
open Go.Sx
set_option linter.unusedSimpArgs false
set_option maxHeartbeats 4000000
set_option maxRecDepth 20000

def W3.le (w : W3) (n : Int) : Prop := 0 ≤ w.a ∧ w.a ≤ n ∧ 0 ≤ w.b ∧ w.b ≤ n ∧ 0 ≤ w.c ∧ w.c ≤ n
structure WtS where
  n : Nat
  w : W3
  clk : Nat
theorem W3.eta (w : W3) : (⟨w.a, w.b, w.c⟩ : W3) = w := rfl
end Go.Proofs.Ytlcblcjpebabkaa
