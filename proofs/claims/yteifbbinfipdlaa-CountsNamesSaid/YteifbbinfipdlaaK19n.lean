/- Layer 19: the law of what is in sight. -/
import Derived.Test.YteifbbinfipdlaaK19m
import Derived.Test.YteifbbinfipdlaaK19d
import Derived.Test.YteifbbinfipdlaaDd
namespace Go.Proofs.Yteifbbinfipdlaa
open Go.Sx
set_option linter.unusedSimpArgs false
set_option maxHeartbeats 8000000
set_option maxRecDepth 100000

abbrev itmC : List Cell := [.int .i64, .str, .str, .int .i64, .int .i64]
abbrev stepCs : List Cell := [.str, .int .i64, .slc itmC]
abbrev propC : List Cell := [.int .i64, .int .i64, .str, .slc stepCs, .slc stepCs, .slc stepCs, .slc stepCs, .str]
theorem okX_of {cs : List Cell} {x : V} (h : CellOK (.slc cs) x) : okX x := by
  cases h with
  | slc cs ess hl h h2 => exact .inr ⟨_, _, rfl⟩
theorem vsts_of {x : V} (h : CellOK (.slc stepCs) x) : ∃ l : List VSt, x = .slc 3 (l.map VSt.enc) ∧ okS l := by
  cases h with
  | slc cs ess hl h h2 =>
    have e : ∀ es ∈ ess, (VSt.enc ⟨(es.getD 0 .any).str, (es.getD 1 .any).int, es.getD 2 .any⟩ : List V) = es ∧ okX (es.getD 2 .any) := fun es hes => by
      have hlen := h es hes
      have a0 := h2 es hes 0 _ rfl
      have a1 := h2 es hes 1 _ rfl
      have a2 := h2 es hes 2 _ rfl
      match es, hlen with
      | [a, b, c], _ =>
        simp only [List.getD_cons_zero, List.getD_cons_succ] at a0 a1 a2 ⊢
        cases a0; cases a1
        exact ⟨rfl, okX_of a2⟩
    refine ⟨ess.map fun es => ⟨(es.getD 0 .any).str, (es.getD 1 .any).int, es.getD 2 .any⟩, ?_, fun s hs => ?_⟩
    · rw [List.map_map]
      congr 1
      conv => lhs; rw [← List.map_id ess]
      exact List.map_congr_left fun es hes => (e es hes).1.symm
    · obtain ⟨es, hes, rfl⟩ := List.mem_map.1 hs
      exact (e es hes).2
theorem prps_of {x : V} (h : CellOK (.slc propC) x) : ∃ l : List Prp, x = prps l ∧ ∀ p ∈ l, okX p.st ∧ okS p.r ∧ okS p.i ∧ okS p.s := by
  cases h with
  | slc cs ess hl h h2 =>
    have e : ∀ es ∈ ess, ∃ p : Prp, p.enc = es ∧ okX p.st ∧ okS p.r ∧ okS p.i ∧ okS p.s := fun es hes => by
      have hlen := h es hes
      have a0 := h2 es hes 0 _ rfl
      have a1 := h2 es hes 1 _ rfl
      have a2 := h2 es hes 2 _ rfl
      have a3 := h2 es hes 3 _ rfl
      have a4 := h2 es hes 4 _ rfl
      have a5 := h2 es hes 5 _ rfl
      have a6 := h2 es hes 6 _ rfl
      have a7 := h2 es hes 7 _ rfl
      match es, hlen with
      | [b0, b1, b2, b3, b4, b5, b6, b7], _ =>
        simp only [List.getD_cons_zero, List.getD_cons_succ] at a0 a1 a2 a3 a4 a5 a6 a7
        obtain ⟨r, rfl, h3⟩ := vsts_of a3
        obtain ⟨i, rfl, h4⟩ := vsts_of a4
        obtain ⟨s, rfl, h5⟩ := vsts_of a5
        have h6 := okX_of a6
        cases a0; cases a1; cases a2; cases a7
        exact ⟨⟨_, _, _, r, i, s, b6, _⟩, rfl, h6, h3, h4, h5⟩
    have e2 : ∀ ess : List (List V), (∀ es ∈ ess, ∃ p : Prp, p.enc = es ∧ okX p.st ∧ okS p.r ∧ okS p.i ∧ okS p.s) → ∃ l : List Prp, l.map Prp.enc = ess ∧ ∀ p ∈ l, okX p.st ∧ okS p.r ∧ okS p.i ∧ okS p.s := by
      intro ess
      induction ess with
      | nil => exact fun _ => ⟨[], rfl, fun p hp => by cases hp⟩
      | cons es ess ih =>
        intro h
        obtain ⟨p, p1, p2⟩ := h es (by simp)
        obtain ⟨l, l1, l2⟩ := ih fun x hx => h x (by simp [hx])
        refine ⟨p :: l, by rw [List.map_cons, p1, l1], fun q hq => ?_⟩
        rcases List.mem_cons.1 hq with rfl | hq
        · exact p2
        · exact l2 q hq
    obtain ⟨l, l1, l2⟩ := e2 ess e
    exact ⟨l, by unfold prps; rw [l1]; rfl, l2⟩
theorem few19_ps {d : Doc} {ps : List Prp} (h : few19 d ps = true) (hps : ∀ p ∈ ps, okX p.st ∧ okS p.r ∧ okS p.i ∧ okS p.s) : d.l.length ≤ 60 ∧ ps.length ≤ 60 ∧ okPs ps := by
  unfold few19 at h
  simp only [Bool.and_eq_true, decide_eq_true_eq] at h
  obtain ⟨⟨h1, h2⟩, h3⟩ := h
  refine ⟨few12_len h2, h3, fun p hp => ?_⟩
  obtain ⟨i, hi, e⟩ := List.getElem_of_mem hp
  have hf := h1 i hi (by omega)
  rw [List.getD_eq_getElem?_getD, List.getElem?_eq_getElem hi, Option.getD_some, e] at hf
  obtain ⟨o1, o2, o3, o4⟩ := hps p hp
  unfold fwP fwL at hf
  simp only [Bool.and_eq_true, decide_eq_true_eq] at hf
  obtain ⟨⟨⟨f1, _⟩, f2, _⟩, f3, _⟩ := hf
  exact ⟨⟨⟨o2, by omega⟩, ⟨o3, by omega⟩, ⟨o4, by omega⟩, o1⟩, f1, f2, f3⟩
theorem getD_css (L : List (List Cnt)) (i : Nat) (z : List V) (h : i < L.length) : (L.map fun l => [V.slc 3 (l.map Cnt.enc)]).getD i z = [.slc 3 ((L.getD i []).map Cnt.enc)] := by
  simp [List.getD_eq_getElem?_getD, h]
theorem allS_len {d : Doc} {ps : List Prp} (hps : okPs ps) : ∀ (ks : List Int) (now : List Cnt), ∀ x ∈ allS d ps ks now, x.length ≤ now.length + 30 * ks.length
  | [], now, x, hx => by cases hx
  | k :: ks, now, x, hx => by
    have hp : (ps.getD k.toNat .zero).r.length ≤ 10 ∧ (ps.getD k.toNat .zero).i.length ≤ 10 ∧ (ps.getD k.toNat .zero).s.length ≤ 10 := by
      by_cases h : k.toNat < ps.length
      · exact (hps _ (by rw [List.getD_eq_getElem?_getD, List.getElem?_eq_getElem h]; exact List.getElem_mem _)).2
      · rw [List.getD_eq_getElem?_getD, List.getElem?_eq_none (by omega)]
        exact ⟨Nat.zero_le _, Nat.zero_le _, Nat.zero_le _⟩
    have hs := stepC_len d (ps.getD k.toNat .zero) k now
    simp only [allS] at hx
    rw [List.length_cons]
    rcases List.mem_cons.1 hx with rfl | hx
    · omega
    · have := allS_len hps ks _ x hx
      omega
theorem allC_len {d : Doc} {ps : List Prp} (hps : okPs ps) (hd : d.l.length ≤ 1000) (n : Nat) : ((allC d ps).getD n []).length ≤ 30000 := by
  by_cases hn : n < (allC d ps).length
  · rw [List.getD_eq_getElem?_getD, List.getElem?_eq_getElem hn, Option.getD_some]
    have hm := List.getElem_mem hn
    generalize (allC d ps)[n] = x at *
    unfold allC at hm
    split at hm
    · have := allS_len hps _ _ x hm
      have := inV_len d
      simp only [List.length_nil] at *
      omega
    · cases hm
  · rw [List.getD_eq_getElem?_getD, List.getElem?_eq_none (by omega)]
    exact Nat.zero_le _
structure SgS where
  k : Int
  clk : Nat
end Go.Proofs.Yteifbbinfipdlaa
