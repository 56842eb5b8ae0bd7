/- Layer 19: the law of the numbers of the counters of a name. -/
import Derived.Test.YteifbbinfipdlaaK19c
namespace Go.Proofs.Yteifbbinfipdlaa
open Go.Sx
set_option linter.unusedSimpArgs false
set_option maxHeartbeats 4000000
set_option maxRecDepth 20000

abbrev cntC : List Cell := [.str, .int .i64, .int .i64]
theorem cnts_of {x : V} (h : CellOK (.slc cntC) x) : ∃ l : List Cnt, x = cnts l := by
  cases h with
  | slc cs ess hl h h2 =>
    refine ⟨ess.map dCntL, ?_⟩
    unfold cnts
    have e : (ess.map dCntL).map Cnt.enc = ess := by
      rw [List.map_map]
      conv => rhs; rw [← List.map_id ess]
      apply List.map_congr_left
      intro es hes
      have hlen := h es hes
      have a0 := h2 es hes 0 _ rfl
      have a1 := h2 es hes 1 _ rfl
      have a2 := h2 es hes 2 _ rfl
      match es, hlen with
      | [a, b, c], _ =>
        simp only [List.getD_cons_zero, List.getD_cons_succ] at a0 a1 a2
        cases a0; cases a1; cases a2
        rfl
    rw [e]
    rfl
end Go.Proofs.Yteifbbinfipdlaa
