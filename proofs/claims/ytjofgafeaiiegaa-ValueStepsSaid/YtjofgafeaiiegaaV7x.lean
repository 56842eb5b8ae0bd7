/- Layer 7: the law of content lists. -/
import Derived.Test.YtjofgafeaiiegaaV7w
namespace Go.Proofs.Ytjofgafeaiiegaa
open Go.Sx
set_option linter.unusedSimpArgs false
set_option maxHeartbeats 8000000
set_option maxRecDepth 20000

theorem itL_len (own : Bool) : ∀ (L : List Pa) (xs : List Itm), itL own L = some xs → xs.length = L.length
  | [], xs, h => by simp [itL] at h; subst h; rfl
  | p :: L, xs, h => by
    simp only [itL] at h
    split at h
    · cases h
    · simp only [Option.map_eq_some_iff] at h
      obtain ⟨ys, hy, rfl⟩ := h
      simp [itL_len own L ys hy]
end Go.Proofs.Ytjofgafeaiiegaa
