/- Layer 19: the law of what is in sight. -/
import Derived.Test.YteifbbinfipdlaaK19m
import Derived.Test.YteifbbinfipdlaaK19d
import Derived.Test.YteifbbinfipdlaaDd
namespace Go.Proofs.Yteifbbinfipdlaa
open Go.Sx
set_option linter.unusedSimpArgs false
set_option maxHeartbeats 8000000
set_option maxRecDepth 100000

abbrev itmC : List Cell := [.int .i64, .str, .str, .int .i64, .int .i64]
abbrev stepCs : List Cell := [.str, .int .i64, .slc itmC]
abbrev propC : List Cell := [.int .i64, .int .i64, .str, .slc stepCs, .slc stepCs, .slc stepCs, .slc stepCs, .str]
theorem okX_of {cs : List Cell} {x : V} (h : CellOK (.slc cs) x) : okX x := by
  cases h with
  | slc cs ess hl h h2 => exact .inr ⟨_, _, rfl⟩
theorem vsts_of {x : V} (h : CellOK (.slc stepCs) x) : ∃ l : List VSt, x = .slc 3 (l.map VSt.enc) ∧ okS l := by
  cases h with
  | slc cs ess hl h h2 =>
    have e : ∀ es ∈ ess, (VSt.enc ⟨(es.getD 0 .any).str, (es.getD 1 .any).int, es.getD 2 .any⟩ : List V) = es ∧ okX (es.getD 2 .any) := fun es hes => by
      have hlen := h es hes
      have a0 := h2 es hes 0 _ rfl
      have a1 := h2 es hes 1 _ rfl
      have a2 := h2 es hes 2 _ rfl
      match es, hlen with
      | [a, b, c], _ =>
        simp only [List.getD_cons_zero, List.getD_cons_succ] at a0 a1 a2 ⊢
        cases a0; cases a1
        exact ⟨rfl, okX_of a2⟩
    refine ⟨ess.map fun es => ⟨(es.getD 0 .any).str, (es.getD 1 .any).int, es.getD 2 .any⟩, ?_, fun s hs => ?_⟩
    · rw [List.map_map]
      congr 1
      conv => lhs; rw [← List.map_id ess]
      exact List.map_congr_left fun es hes => (e es hes).1.symm
    · obtain ⟨es, hes, rfl⟩ := List.mem_map.1 hs
      exact (e es hes).2
theorem few19_ps {d : Doc} {ps : List Prp} (h : few19 d ps = true) (hps : ∀ p ∈ ps, okX p.st ∧ okS p.r ∧ okS p.i ∧ okS p.s) : d.l.length ≤ 60 ∧ ps.length ≤ 60 ∧ okPs ps := by
  unfold few19 at h
  simp only [Bool.and_eq_true, decide_eq_true_eq] at h
  obtain ⟨⟨h1, h2⟩, h3⟩ := h
  refine ⟨few12_len h2, h3, fun p hp => ?_⟩
  obtain ⟨i, hi, e⟩ := List.getElem_of_mem hp
  have hf := h1 i hi (by omega)
  rw [List.getD_eq_getElem?_getD, List.getElem?_eq_getElem hi, Option.getD_some, e] at hf
  obtain ⟨o1, o2, o3, o4⟩ := hps p hp
  unfold fwP fwL at hf
  simp only [Bool.and_eq_true, decide_eq_true_eq] at hf
  obtain ⟨⟨⟨f1, _⟩, f2, _⟩, f3, _⟩ := hf
  exact ⟨⟨⟨o2, by omega⟩, ⟨o3, by omega⟩, ⟨o4, by omega⟩, o1⟩, f1, f2, f3⟩
structure SgS where
  k : Int
  clk : Nat
end Go.Proofs.Yteifbbinfipdlaa
