/- Layer 7: words. -/
import Derived.Test.YtjofgafeaiiegaaV7f
import Derived.Test.YtjofgafeaiiegaaGc
namespace Go.Proofs.Ytjofgafeaiiegaa
open Go.Sx
set_option linter.unusedSimpArgs false
set_option maxHeartbeats 4000000
set_option maxRecDepth 20000

abbrev tokC : List Cell := [.int .i64, .str, .int .i64]
theorem toks_of {x : V} (h : CellOK (.slc tokC) x) : ∃ l : List Tok, x = toks l := by
  cases h with
  | slc cs ess hl h h2 =>
    refine ⟨ess.map dTokL, ?_⟩
    unfold toks
    have e : (ess.map dTokL).map Tok.enc = ess := by
      rw [List.map_map]
      conv => rhs; rw [← List.map_id ess]
      apply List.map_congr_left
      intro es hes
      have hlen := h es hes
      have a0 := h2 es hes 0 _ rfl
      have a1 := h2 es hes 1 _ rfl
      have a2 := h2 es hes 2 _ rfl
      match es, hlen with
      | [a, b, c], _ =>
        simp only [List.getD_cons_zero, List.getD_cons_succ] at a0 a1 a2
        cases a0; cases a1; cases a2
        rfl
    rw [e]
    rfl
theorem few_okT {l : List Tok} (h : few l = true) : okT l := by
  unfold few at h
  rw [decide_eq_true_eq] at h
  refine ⟨by have := h.1; omega, fun t ht => ?_⟩
  obtain ⟨i, hi, rfl⟩ := List.mem_iff_getElem.1 ht
  have := h.2 i hi
  rw [List.getD_eq_getElem?_getD, List.getElem?_eq_getElem hi] at this
  have : l[i].text.size ≤ 100 := this
  omega
def sumAw7 : Sum Try.prog := ⟨12, fun args => args = [], fun args => vb true, fun args h => by
  have := awake_ok; rwa [← h] at this, true⟩
theorem sumAw7_f : sumAw7.f = 12 := rfl
theorem sumAw7_D (args : List V) : sumAw7.D args = (args = []) := rfl
theorem sumAw7_flat : sumAw7.flat = true := rfl
theorem sumAw7_r (args : List V) : sumAw7.r args = vb true := rfl
attribute [go_sem] sumAw7_f sumAw7_D sumAw7_flat sumAw7_r
end Go.Proofs.Ytjofgafeaiiegaa
