/- Layer 10: which node a selector is about. -/
import Derived.Test.YtlcblcjpebabkaaM10d
namespace Go.Proofs.Ytlcblcjpebabkaa
open Go.Sx
set_option linter.unusedSimpArgs false
set_option maxHeartbeats 4000000
set_option maxRecDepth 20000

def sumRgtL : Sum Try.prog := ⟨18, fun args => args = [sels (dSels (args.getD 0 .any))] ∧ okM (dSels (args.getD 0 .any)), fun args => vb (rgtL (dSels (args.getD 0 .any))), fun args h => by
  have := rightL_ok (dSels (args.getD 0 .any)) h.2; rwa [← h.1] at this, true⟩
theorem sumRgtL_f : sumRgtL.f = 18 := rfl
theorem sumRgtL_D (args : List V) : sumRgtL.D args = (args = [sels (dSels (args.getD 0 .any))] ∧ okM (dSels (args.getD 0 .any))) := rfl
theorem sumRgtL_flat : sumRgtL.flat = true := rfl
theorem sumRgtL_r (args : List V) : sumRgtL.r args = vb (rgtL (dSels (args.getD 0 .any))) := rfl
attribute [go_sem] sumRgtL_f sumRgtL_D sumRgtL_flat sumRgtL_r
end Go.Proofs.Ytlcblcjpebabkaa
