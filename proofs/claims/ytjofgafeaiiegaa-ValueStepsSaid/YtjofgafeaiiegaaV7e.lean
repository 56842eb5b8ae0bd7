/- Layer 7: breaks, page names, running elements. -/
import Derived.Test.YtjofgafeaiiegaaV7d
import Derived.Test.YtjofgafeaiiegaaAw
import Derived.Test.YtjofgafeaiiegaaCe
namespace Go.Proofs.Ytjofgafeaiiegaa
open Go.Sx
set_option linter.unusedSimpArgs false
set_option maxHeartbeats 4000000
set_option maxRecDepth 20000

theorem dPa_mk0 (a n : Int) (s : ByteArray) : dPa (.agg [.c (.int .i64 a), .c (.string s), .c (.int .i64 n), .slc 3 []]) = ⟨⟨a, s, n⟩, []⟩ := rfl
theorem okP7_0 (a n : Int) (l : List Tok) : okP7 ⟨⟨a, ⟨#[]⟩, n⟩, l⟩ := by show ByteArray.size ⟨#[]⟩ ≤ 1000000; decide
theorem alone_mem {l : List Tok} (h : okT l) {p : Pa} (hp : aloneV l = some p) : okP7 p ∧ okT p.al ∧ onlyP l = some p ∧ p.t.kind = 2 := by
  unfold aloneV at hp
  cases hO : onlyP l with
  | none => rw [hO] at hp; cases hp
  | some q =>
    rw [hO] at hp
    simp only at hp
    split at hp
    · rename_i hk
      cases hp
      have := pl_mem h p (by rw [(only_some hO).2]; simp)
      exact ⟨this.1, this.2, rfl, hk⟩
    · cases hp
end Go.Proofs.Ytjofgafeaiiegaa
