/- Layer 8: the law of lists of selectors. -/
import Derived.Test.YtlcblcjpebabkaaC8g
import Derived.Test.YtlcblcjpebabkaaC8a
namespace Go.Proofs.Ytlcblcjpebabkaa
open Go.Sx
set_option linter.unusedSimpArgs false
set_option maxHeartbeats 8000000
set_option maxRecDepth 100000

abbrev tokC : List Cell := [.int .i64, .str, .int .i64]
theorem toks_of {x : V} (h : CellOK (.slc tokC) x) : ∃ l : List Tok, x = toks l := by
  cases h with
  | slc cs ess hl h h2 =>
    refine ⟨ess.map dTokL, ?_⟩
    unfold toks
    have e : (ess.map dTokL).map Tok.enc = ess := by
      rw [List.map_map]
      conv => rhs; rw [← List.map_id ess]
      apply List.map_congr_left
      intro es hes
      have hlen := h es hes
      have a0 := h2 es hes 0 _ rfl
      have a1 := h2 es hes 1 _ rfl
      have a2 := h2 es hes 2 _ rfl
      match es, hlen with
      | [a, b, c], _ =>
        simp only [List.getD_cons_zero, List.getD_cons_succ] at a0 a1 a2
        cases a0; cases a1; cases a2
        rfl
    rw [e]
    rfl
structure LiS8 where
  k : Nat
  clk : Nat
end Go.Proofs.Ytlcblcjpebabkaa
