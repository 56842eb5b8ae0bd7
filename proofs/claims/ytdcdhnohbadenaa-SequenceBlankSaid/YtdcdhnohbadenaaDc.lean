/- Flows as arguments. -/
import Derived.Test.YtdcdhnohbadenaaN13i
namespace Go.Proofs.Ytdcdhnohbadenaa
open Go.Sx
set_option linter.unusedSimpArgs false
set_option maxHeartbeats 4000000

abbrev docC : List Cell := [.slc nodeC, .slc [.bool], .slc [.int .i64], .slc [.int .i64], .slc [.str]]
theorem bools_of {x : V} (h : CellOK (.slc [.bool]) x) : ∃ l : List Bool, x = .slc 1 (l.map fun s => [vb s]) := by
  cases h with
  | slc cs ess hl h h2 =>
    refine ⟨ess.map fun e => V.boo (e.getD 0 .any), ?_⟩
    rw [List.map_map]
    congr 1
    conv => lhs; rw [← List.map_id ess]
    apply List.map_congr_left
    intro es hes
    have hlen := h es hes
    have a0 := h2 es hes 0 _ rfl
    match es, hlen with
    | [a], _ =>
      simp only [List.getD_cons_zero] at a0
      cases a0; rfl
theorem ints_of' {x : V} (h : CellOK (.slc [.int .i64]) x) : ∃ l : List Int, x = .slc 1 (l.map fun s => [vi s]) := by
  cases h with
  | slc cs ess hl h h2 =>
    refine ⟨ess.map fun e => (e.getD 0 .any).int, ?_⟩
    rw [List.map_map]
    congr 1
    conv => lhs; rw [← List.map_id ess]
    apply List.map_congr_left
    intro es hes
    have hlen := h es hes
    have a0 := h2 es hes 0 _ rfl
    match es, hlen with
    | [a], _ =>
      simp only [List.getD_cons_zero] at a0
      cases a0; rfl
theorem doc_of {xs : List V} (hl : xs.length = 5) (h : ∀ i c, docC[i]? = some c → CellOK c (xs.getD i .any)) : ∃ d : Doc, xs = d.enc := by
  have a0 := h 0 _ rfl
  have a1 := h 1 _ rfl
  have a2 := h 2 _ rfl
  have a3 := h 3 _ rfl
  have a4 := h 4 _ rfl
  match xs, hl with
  | [a, b, c, d, e], _ =>
    simp only [List.getD_cons_zero, List.getD_cons_succ] at a0 a1 a2 a3 a4
    obtain ⟨l, rfl⟩ := nodes_of a0
    obtain ⟨r, rfl⟩ := bools_of a1
    obtain ⟨p, rfl⟩ := ints_of' a2
    obtain ⟨q, rfl⟩ := ints_of' a3
    obtain ⟨s, rfl⟩ := strs_of a4
    exact ⟨⟨l, r, p, q, s⟩, rfl⟩
theorem few12_len {d : Doc} (h : few12 d = true) : d.l.length ≤ 60 := by
  unfold few12 at h; rw [decide_eq_true_eq] at h
  have := h.2.1; unfold few9 at this; rw [decide_eq_true_eq] at this; exact this.1
theorem few12_page {d : Doc} (h : few12 d = true) : d.page.length ≤ 60 ∧ ∀ i, (pageS d i).size ≤ 50 := by
  unfold few12 at h; rw [decide_eq_true_eq] at h
  refine ⟨h.2.2.2.2.2, fun i => ?_⟩
  by_cases hi : i < d.page.length
  · exact h.1 i hi (by omega)
  · unfold pageS; rw [List.getD_eq_getElem?_getD, List.getElem?_eq_none (by omega)]; exact Nat.zero_le _
theorem inV_at {d : Doc} {i : Nat} (hi : i < (inV d).length) : rightB d = true ∧ ∃ m : Nat, (inV d).getD i 0 = m ∧ m < d.l.length ∧ isN d m = true := by
  unfold inV at hi ⊢
  by_cases hr : rightB d = true
  · rw [if_pos hr] at hi ⊢
    have hm : (inL d)[i] ∈ inL d := List.getElem_mem _
    obtain ⟨m, a, b, c⟩ := selTo_mem.1 hm
    exact ⟨hr, m, by rw [List.getD_eq_getElem?_getD, List.getElem?_eq_getElem hi]; exact a, b, c⟩
  · rw [if_neg hr] at hi; simp at hi
theorem kdV_at {d : Doc} (hr : rightB d = true) {m : Nat} (hm : m < d.l.length) (hi : isN d m = true) : kdV d m = kids d m := by
  unfold kdV; rw [thV_at hr hm, if_pos hi, Int.toNat_natCast]
end Go.Proofs.Ytdcdhnohbadenaa
