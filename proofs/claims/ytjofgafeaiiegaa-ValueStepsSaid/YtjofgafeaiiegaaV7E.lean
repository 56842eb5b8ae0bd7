/- Layer 7: the law of Space. -/
import Derived.Test.YtjofgafeaiiegaaV7B
import Derived.Test.YtjofgafeaiiegaaV7C
import Derived.Test.YtjofgafeaiiegaaV7x
namespace Go.Proofs.Ytjofgafeaiiegaa
open Go.Sx
set_option linter.unusedSimpArgs false
set_option maxHeartbeats 8000000
set_option maxRecDepth 20000

theorem toks_ofN {x : V} (h : CellOK (.slc tokC) x) : ∃ l : List Tok, x = toks l ∧ ∀ t ∈ l, okI t.n := by
  obtain ⟨l, rfl⟩ := toks_of h
  refine ⟨l, rfl, fun t ht => ?_⟩
  cases h with
  | slc cs ess hl h0 h2 =>
    have h3 := h2 t.enc (List.mem_map.2 ⟨t, ht, rfl⟩) 2 (.int .i64) rfl
    have h4 : CellOK (.int .i64) (vi t.n) := h3
    generalize hv : vi t.n = v at h4
    cases h4 with
    | int _ n hn =>
      simp only [V.c.injEq, Value.int.injEq, true_and] at hv
      subst hv
      simp [Lit.wf, IntKind.min, IntKind.max, IntKind.signed, IntKind.bits] at hn
      unfold okI; omega
structure WdS where
  k : Nat
  ver : Nat
  clk : Nat
end Go.Proofs.Ytjofgafeaiiegaa
