/- Layers 8 and 10: few selectors. -/
import Derived.Test.YtlcblcjpebabkaaM10n
namespace Go.Proofs.Ytlcblcjpebabkaa
open Go.Sx
set_option linter.unusedSimpArgs false
set_option maxHeartbeats 4000000
set_option maxRecDepth 20000

def fewX (x : Smp) : Prop := x.text.size ≤ 100 ∧ x.val.size ≤ 100
def fewC (c : Cmp) : Prop := c.l.length ≤ 20 ∧ ∀ i, i < c.l.length → fewX (c.l.getD i default)
def fewS (s : Sel) : Prop := s.length ≤ 70 ∧ ∀ i, i < s.length → fewC (s.getD i default)
def few8P (l : List Sel) : Prop := l.length ≤ 10 ∧ ∀ i, i < l.length → fewS (l.getD i [])
instance (x : Smp) : Decidable (fewX x) := by unfold fewX; infer_instance
instance (x : Cmp) : Decidable (fewC x) := by unfold fewC; infer_instance
instance (x : Sel) : Decidable (fewS x) := by unfold fewS; infer_instance
instance (x : List Sel) : Decidable (few8P x) := by unfold few8P; infer_instance
end Go.Proofs.Ytlcblcjpebabkaa
