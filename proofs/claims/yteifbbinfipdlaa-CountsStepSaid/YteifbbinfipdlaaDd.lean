/- Flows as arguments (without the children). -/
import Derived.Test.YteifbbinfipdlaaN13d
namespace Go.Proofs.Yteifbbinfipdlaa
open Go.Sx
set_option linter.unusedSimpArgs false
set_option maxHeartbeats 4000000

abbrev docC : List Cell := [.slc nodeC, .slc [.bool], .slc [.int .i64], .slc [.int .i64], .slc [.str]]
theorem bools_of {x : V} (h : CellOK (.slc [.bool]) x) : ∃ l : List Bool, x = .slc 1 (l.map fun s => [vb s]) := by
  cases h with
  | slc cs ess hl h h2 =>
    refine ⟨ess.map fun e => V.boo (e.getD 0 .any), ?_⟩
    rw [List.map_map]
    congr 1
    conv => lhs; rw [← List.map_id ess]
    apply List.map_congr_left
    intro es hes
    have hlen := h es hes
    have a0 := h2 es hes 0 _ rfl
    match es, hlen with
    | [a], _ =>
      simp only [List.getD_cons_zero] at a0
      cases a0; rfl
theorem ints_of' {x : V} (h : CellOK (.slc [.int .i64]) x) : ∃ l : List Int, x = .slc 1 (l.map fun s => [vi s]) := by
  cases h with
  | slc cs ess hl h h2 =>
    refine ⟨ess.map fun e => (e.getD 0 .any).int, ?_⟩
    rw [List.map_map]
    congr 1
    conv => lhs; rw [← List.map_id ess]
    apply List.map_congr_left
    intro es hes
    have hlen := h es hes
    have a0 := h2 es hes 0 _ rfl
    match es, hlen with
    | [a], _ =>
      simp only [List.getD_cons_zero] at a0
      cases a0; rfl
theorem doc_of {xs : List V} (hl : xs.length = 5) (h : ∀ i c, docC[i]? = some c → CellOK c (xs.getD i .any)) : ∃ d : Doc, xs = d.enc := by
  have a0 := h 0 _ rfl
  have a1 := h 1 _ rfl
  have a2 := h 2 _ rfl
  have a3 := h 3 _ rfl
  have a4 := h 4 _ rfl
  match xs, hl with
  | [a, b, c, d, e], _ =>
    simp only [List.getD_cons_zero, List.getD_cons_succ] at a0 a1 a2 a3 a4
    obtain ⟨l, rfl⟩ := nodes_of a0
    obtain ⟨r, rfl⟩ := bools_of a1
    obtain ⟨p, rfl⟩ := ints_of' a2
    obtain ⟨q, rfl⟩ := ints_of' a3
    obtain ⟨s, rfl⟩ := strs_of a4
    exact ⟨⟨l, r, p, q, s⟩, rfl⟩
theorem few12_len {d : Doc} (h : few12 d = true) : d.l.length ≤ 60 := by
  unfold few12 at h; rw [decide_eq_true_eq] at h
  have := h.2.1; unfold few9 at this; rw [decide_eq_true_eq] at this; exact this.1
end Go.Proofs.Yteifbbinfipdlaa
