/- Flows as arguments (without the children). -/
import Derived.Test.YteifbbinfipdlaaN13d
namespace Go.Proofs.Yteifbbinfipdlaa
open Go.Sx
set_option linter.unusedSimpArgs false
set_option maxHeartbeats 4000000

theorem ints_of' {x : V} (h : CellOK (.slc [.int .i64]) x) : ∃ l : List Int, x = .slc 1 (l.map fun s => [vi s]) := by
  cases h with
  | slc cs ess hl h h2 =>
    refine ⟨ess.map fun e => (e.getD 0 .any).int, ?_⟩
    rw [List.map_map]
    congr 1
    conv => lhs; rw [← List.map_id ess]
    apply List.map_congr_left
    intro es hes
    have hlen := h es hes
    have a0 := h2 es hes 0 _ rfl
    match es, hlen with
    | [a], _ =>
      simp only [List.getD_cons_zero] at a0
      cases a0; rfl
end Go.Proofs.Yteifbbinfipdlaa
