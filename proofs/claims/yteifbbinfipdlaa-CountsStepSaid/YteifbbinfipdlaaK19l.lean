/- Layer 19: what may be gone through. -/
import Derived.Test.YteifbbinfipdlaaK19k
namespace Go.Proofs.Yteifbbinfipdlaa
open Go.Sx
set_option linter.unusedSimpArgs false
set_option maxHeartbeats 8000000
set_option maxRecDepth 100000

def fwL (ss : List VSt) : Bool := decide (ss.length ≤ 10 ∧ ∀ j, j < ss.length → (ss.getD j .zero).name.size ≤ 50)
def fwP (p : Prp) : Bool := fwL p.r && fwL p.i && fwL p.s
def few19 (d : Doc) (ps : List Prp) : Bool := decide (∀ i, i < ps.length → i ≤ 60 → fwP (ps.getD i .zero) = true) && few12 d && decide (ps.length ≤ 60)
theorem few19_no {d : Doc} {ps : List Prp} {i : Nat} (h1 : i < ps.length) (h2 : i ≤ 60) (h : fwP (ps.getD i .zero) = false) : few19 d ps = false := by
  unfold few19
  rw [decide_eq_false (fun hh => by have := hh i h1 h2; rw [h] at this; cases this)]; rfl
theorem fwL_no {ss : List VSt} {j : Nat} (h : j < ss.length) (hn : 50 < (ss.getD j .zero).name.size) : fwL ss = false := decide_eq_false fun hh => by have := hh.2 j h; omega
structure FwC where
  k : Nat
  clk : Nat
theorem few19_ok (d : Doc) (ps : List Prp) (hps : ∀ p ∈ ps, okX p.st ∧ okS p.r ∧ okS p.i ∧ okS p.s) : PCall Try.prog 8 [.agg d.enc, prps ps] (vb (few19 d ps)) := by
  refine PCall.of (Orc.cons sumFew12 (Orc.nil _)) c8_ok (by simp [c8]) fun w0 own0 => ?_
  simp -implicitDefEqProofs only [c8, prps, Doc.enc, on_gcall, off_gcall, flat_gcall, go_sem, reduceCtorEq, reduceIte, Nat.reduceEqDiff, Nat.reduceAdd, Nat.reduceSub, Nat.reduceMul, Nat.reduceLT, Nat.reduceLeDiff, Nat.reduceBEq, Int.reduceEq, Int.reduceLT, Int.reduceLE, Int.reduceAdd, Int.reduceSub, Int.reduceNeg, Int.reduceToNat]
  refine SemC.lp (α := FwC) (fun a => [(1, .slc 8 (ps.map Prp.enc)), (2, .ptr 0 0 0 0), (5, vi a.k)]) (fun a => ⟨[⟨0, 5, [d.enc], false, []⟩], a.clk⟩)
    (fun a => a.k ≤ ps.length ∧ a.k ≤ 61 ∧ ∀ i, i < a.k → fwP (ps.getD i .zero) = true) (fun a => ps.length - a.k) ⟨0, 1⟩ ⟨Nat.zero_le _, by dsimp only; omega, fun i hi => by simp at hi⟩ (St.cut ?_ ?_ ?_) fun a ha => ?_
  · simp [Agrees, upd_at, initE_at]
  · simp [Heap.alloc, Doc.enc]
  · rfl
  obtain ⟨k, clk⟩ := a
  obtain ⟨g1, g2, g3⟩ := ha
  simp only at g1 g2 g3
  by_cases hk : k < ps.length ∧ k ≤ 60
  · obtain ⟨hk1, hk2⟩ := hk
    have k1 := eq_true (show (k : Int) < (ps.length : Int) by omega)
    have k2 := eq_true (show (k : Int) ≤ 60 by omega)
    have k0 : (0 : Int) ≤ (k : Int) := by omega
    have hgp := fun z => getD_prps ps k z (by omega)
    have hno := fun h => few19_no (d := d) (ps := ps) (i := k) hk1 hk2 h
    have hpm := hps (ps.getD k .zero) (by rw [List.getD_eq_getElem?_getD, List.getElem?_eq_getElem (by omega)]; exact List.getElem_mem _)
    have hg3 : fwP (ps.getD k .zero) = true → ∀ i, i < k + 1 → fwP (ps.getD i .zero) = true := fun h i hi => by
      by_cases e : i = k
      · subst e; exact h
      · exact g3 i (by omega)
    generalize ps.getD k .zero = p at *
    obtain ⟨pb, pa, pg, pr, pi, pss, pst, prun⟩ := p
    obtain ⟨ox, or, oi, os⟩ := hpm
    simp only at ox or oi os
    have e1 : fwP ⟨pb, pa, pg, pr, pi, pss, pst, prun⟩ = (fwL pr && fwL pi && fwL pss) := rfl
    rw [e1] at hno hg3
    simp -implicitDefEqProofs only [k0, k1, k2, hgp, Doc.enc, Prp.enc, vsts, on_gcall, off_gcall, flat_gcall, go_sem, reduceCtorEq, reduceIte, Nat.reduceEqDiff, Nat.reduceAdd, Nat.reduceSub, Nat.reduceMul, Nat.reduceLT, Nat.reduceLeDiff, Nat.reduceBEq, Int.reduceEq, Int.reduceLT, Int.reduceLE, Int.reduceAdd, Int.reduceSub, Int.reduceNeg, Int.reduceToNat]
    refine SemC.lp (α := FwC) (fun a => [(1, .slc 8 (ps.map Prp.enc)), (2, .ptr 0 0 0 0), (5, vi k), (35, .agg [.slc 3 (pr.map VSt.enc), .slc 3 (pi.map VSt.enc), .slc 3 (pss.map VSt.enc)]), (36, vi a.k)]) (fun a => ⟨[⟨0, 5, [d.enc], false, []⟩], a.clk⟩)
      (fun a => a.k ≤ 3 ∧ (0 < a.k → fwL pr = true) ∧ (1 < a.k → fwL pi = true) ∧ (2 < a.k → fwL pss = true)) (fun a => 3 - a.k) ⟨0, clk⟩ ⟨by dsimp only; omega, fun h => by simp at h, fun h => by simp at h, fun h => by simp at h⟩ (St.cut ?_ ?_ ?_) fun a ha => ?_
    · simp [Agrees, upd_at, ev_cons]
    · simp [Doc.enc]
    · rfl
    obtain ⟨q, clk⟩ := a
    obtain ⟨q0, q1, q2, q3⟩ := ha
    simp only at q0 q1 q2 q3
    rcases (show q = 3 ∨ q = 0 ∨ q = 1 ∨ q = 2 by omega) with rfl | rfl | rfl | rfl
    · have hf := hg3 (by rw [q1 (by omega), q2 (by omega), q3 (by omega)]; rfl)
      simp -implicitDefEqProofs only [Doc.enc, on_gcall, off_gcall, flat_gcall, go_sem, reduceCtorEq, reduceIte, Nat.reduceEqDiff, Nat.reduceAdd, Nat.reduceSub, Nat.reduceMul, Nat.reduceLT, Nat.reduceLeDiff, Nat.reduceBEq, Int.reduceEq, Int.reduceLT, Int.reduceLE, Int.reduceAdd, Int.reduceSub, Int.reduceNeg, Int.reduceToNat]
      exact ⟨by omega, ⟨k + 1, clk⟩, ⟨by dsimp only; omega, by dsimp only; omega, hf⟩, by dsimp only; omega, by dsimp only; omega, rfl⟩
    · have hbad := fun (h : fwL pr = false) => hno (by rw [h]; rfl)
      by_cases c1 : (10 : Int) < (pr.length : Int)
      · have hb := hbad (decide_eq_false fun hh => by have := hh.1; omega)
        have c1 := eq_true c1
        simp -implicitDefEqProofs only [Doc.enc, c1, hb, on_gcall, off_gcall, flat_gcall, go_sem, reduceCtorEq, reduceIte, Nat.reduceEqDiff, Nat.reduceAdd, Nat.reduceSub, Nat.reduceMul, Nat.reduceLT, Nat.reduceLeDiff, Nat.reduceBEq, Int.reduceEq, Int.reduceLT, Int.reduceLE, Int.reduceAdd, Int.reduceSub, Int.reduceNeg, Int.reduceToNat]
      have c1' := eq_false c1
      simp -implicitDefEqProofs only [Doc.enc, c1', on_gcall, off_gcall, flat_gcall, go_sem, reduceCtorEq, reduceIte, Nat.reduceEqDiff, Nat.reduceAdd, Nat.reduceSub, Nat.reduceMul, Nat.reduceLT, Nat.reduceLeDiff, Nat.reduceBEq, Int.reduceEq, Int.reduceLT, Int.reduceLE, Int.reduceAdd, Int.reduceSub, Int.reduceNeg, Int.reduceToNat]
      refine SemC.lp (α := FwC) (fun a => [(1, .slc 8 (ps.map Prp.enc)), (2, .ptr 0 0 0 0), (5, vi k), (35, .agg [.slc 3 (pr.map VSt.enc), .slc 3 (pi.map VSt.enc), .slc 3 (pss.map VSt.enc)]), (36, vi 0), (42, .slc 3 (pr.map VSt.enc)), (43, vi pr.length), (44, vi a.k)]) (fun a => ⟨[⟨0, 5, [d.enc], false, []⟩], a.clk⟩)
        (fun a => a.k ≤ pr.length ∧ ∀ i, i < a.k → (pr.getD i .zero).name.size ≤ 50) (fun a => pr.length - a.k) ⟨0, clk⟩ ⟨Nat.zero_le _, fun i hi => by simp at hi⟩ (St.cut ?_ ?_ ?_) fun a ha => ?_
      · simp [Agrees, upd_at, ev_cons]
      · simp [Doc.enc]
      · rfl
      obtain ⟨j, clk⟩ := a
      obtain ⟨j1, j2⟩ := ha
      simp only at j1 j2
      by_cases hj : j = pr.length
      · subst hj
        have hL : fwL pr = true := decide_eq_true ⟨by omega, j2⟩
        simp -implicitDefEqProofs only [Doc.enc, Int.lt_irrefl, on_gcall, off_gcall, flat_gcall, go_sem, reduceCtorEq, reduceIte, Nat.reduceEqDiff, Nat.reduceAdd, Nat.reduceSub, Nat.reduceMul, Nat.reduceLT, Nat.reduceLeDiff, Nat.reduceBEq, Int.reduceEq, Int.reduceLT, Int.reduceLE, Int.reduceAdd, Int.reduceSub, Int.reduceNeg, Int.reduceToNat]
        exact ⟨⟨0 + 1, clk⟩, ⟨by dsimp only; omega, fun _ => hL, fun h => by simp at h, fun h => by simp at h⟩, by dsimp only; omega, by first | rfl | trivial, rfl⟩
      have e1 : (j : Int) < (pr.length : Int) := by omega
      have e0 : (0 : Int) ≤ (j : Int) := by omega
      have hsj := fun z => getD_vsts pr j z (by omega)
      have hxs : okX (pr.getD j .zero).x := or _ (by rw [List.getD_eq_getElem?_getD, List.getElem?_eq_getElem (by omega)]; exact List.getElem_mem _)
      have hbn := fun h => hbad (fwL_no (j := j) (by omega) h)
      have hj2 : (pr.getD j .zero).name.size ≤ 50 → ∀ i, i < j + 1 → (pr.getD i .zero).name.size ≤ 50 := fun h i hi => by
        by_cases e : i = j
        · subst e; exact h
        · exact j2 i (by omega)
      generalize pr.getD j .zero = s at *
      obtain ⟨nm, n, x⟩ := s
      simp only at hxs hbn hj2
      have hxx : (∃ m es, x = .slc m es) ∨ x = vnil := by rcases hxs with h | h; exact .inr h; exact .inl h
      by_cases c2 : (50 : Int) < (nm.size : Int)
      · have hb := hbn (by omega)
        have c2 := eq_true c2
        rcases hxx with ⟨m, es, rfl⟩ | rfl
        · simp -implicitDefEqProofs only [Doc.enc, VSt.enc, e0, e1, hsj, c2, hb, on_gcall, off_gcall, flat_gcall, go_sem, reduceCtorEq, reduceIte, Nat.reduceEqDiff, Nat.reduceAdd, Nat.reduceSub, Nat.reduceMul, Nat.reduceLT, Nat.reduceLeDiff, Nat.reduceBEq, Int.reduceEq, Int.reduceLT, Int.reduceLE, Int.reduceAdd, Int.reduceSub, Int.reduceNeg, Int.reduceToNat]
          first | done | omega
        · simp -implicitDefEqProofs only [Doc.enc, VSt.enc, e0, e1, hsj, c2, hb, on_gcall, off_gcall, flat_gcall, go_sem, reduceCtorEq, reduceIte, Nat.reduceEqDiff, Nat.reduceAdd, Nat.reduceSub, Nat.reduceMul, Nat.reduceLT, Nat.reduceLeDiff, Nat.reduceBEq, Int.reduceEq, Int.reduceLT, Int.reduceLE, Int.reduceAdd, Int.reduceSub, Int.reduceNeg, Int.reduceToNat]
          first | done | omega
      · have hj3 := hj2 (by omega)
        have c2 := eq_false c2
        rcases hxx with ⟨m, es, rfl⟩ | rfl
        · simp -implicitDefEqProofs only [Doc.enc, VSt.enc, e0, e1, hsj, c2, on_gcall, off_gcall, flat_gcall, go_sem, reduceCtorEq, reduceIte, Nat.reduceEqDiff, Nat.reduceAdd, Nat.reduceSub, Nat.reduceMul, Nat.reduceLT, Nat.reduceLeDiff, Nat.reduceBEq, Int.reduceEq, Int.reduceLT, Int.reduceLE, Int.reduceAdd, Int.reduceSub, Int.reduceNeg, Int.reduceToNat]
          exact ⟨by omega, ⟨j + 1, _⟩, ⟨by dsimp only; omega, hj3⟩, by dsimp only; omega, by dsimp only; omega, rfl⟩
        · simp -implicitDefEqProofs only [Doc.enc, VSt.enc, e0, e1, hsj, c2, on_gcall, off_gcall, flat_gcall, go_sem, reduceCtorEq, reduceIte, Nat.reduceEqDiff, Nat.reduceAdd, Nat.reduceSub, Nat.reduceMul, Nat.reduceLT, Nat.reduceLeDiff, Nat.reduceBEq, Int.reduceEq, Int.reduceLT, Int.reduceLE, Int.reduceAdd, Int.reduceSub, Int.reduceNeg, Int.reduceToNat]
          exact ⟨by omega, ⟨j + 1, _⟩, ⟨by dsimp only; omega, hj3⟩, by dsimp only; omega, by dsimp only; omega, rfl⟩
    · have hbad := fun (h : fwL pi = false) => hno (by rw [h, Bool.and_false]; rfl)
      by_cases c1 : (10 : Int) < (pi.length : Int)
      · have hb := hbad (decide_eq_false fun hh => by have := hh.1; omega)
        have c1 := eq_true c1
        simp -implicitDefEqProofs only [Doc.enc, c1, hb, on_gcall, off_gcall, flat_gcall, go_sem, reduceCtorEq, reduceIte, Nat.reduceEqDiff, Nat.reduceAdd, Nat.reduceSub, Nat.reduceMul, Nat.reduceLT, Nat.reduceLeDiff, Nat.reduceBEq, Int.reduceEq, Int.reduceLT, Int.reduceLE, Int.reduceAdd, Int.reduceSub, Int.reduceNeg, Int.reduceToNat]
      have c1' := eq_false c1
      simp -implicitDefEqProofs only [Doc.enc, c1', on_gcall, off_gcall, flat_gcall, go_sem, reduceCtorEq, reduceIte, Nat.reduceEqDiff, Nat.reduceAdd, Nat.reduceSub, Nat.reduceMul, Nat.reduceLT, Nat.reduceLeDiff, Nat.reduceBEq, Int.reduceEq, Int.reduceLT, Int.reduceLE, Int.reduceAdd, Int.reduceSub, Int.reduceNeg, Int.reduceToNat]
      refine SemC.lp (α := FwC) (fun a => [(1, .slc 8 (ps.map Prp.enc)), (2, .ptr 0 0 0 0), (5, vi k), (35, .agg [.slc 3 (pr.map VSt.enc), .slc 3 (pi.map VSt.enc), .slc 3 (pss.map VSt.enc)]), (36, vi 1), (42, .slc 3 (pi.map VSt.enc)), (43, vi pi.length), (44, vi a.k)]) (fun a => ⟨[⟨0, 5, [d.enc], false, []⟩], a.clk⟩)
        (fun a => a.k ≤ pi.length ∧ ∀ i, i < a.k → (pi.getD i .zero).name.size ≤ 50) (fun a => pi.length - a.k) ⟨0, clk⟩ ⟨Nat.zero_le _, fun i hi => by simp at hi⟩ (St.cut ?_ ?_ ?_) fun a ha => ?_
      · simp [Agrees, upd_at, ev_cons]
      · simp [Doc.enc]
      · rfl
      obtain ⟨j, clk⟩ := a
      obtain ⟨j1, j2⟩ := ha
      simp only at j1 j2
      by_cases hj : j = pi.length
      · subst hj
        have hL : fwL pi = true := decide_eq_true ⟨by omega, j2⟩
        simp -implicitDefEqProofs only [Doc.enc, Int.lt_irrefl, on_gcall, off_gcall, flat_gcall, go_sem, reduceCtorEq, reduceIte, Nat.reduceEqDiff, Nat.reduceAdd, Nat.reduceSub, Nat.reduceMul, Nat.reduceLT, Nat.reduceLeDiff, Nat.reduceBEq, Int.reduceEq, Int.reduceLT, Int.reduceLE, Int.reduceAdd, Int.reduceSub, Int.reduceNeg, Int.reduceToNat]
        exact ⟨⟨1 + 1, clk⟩, ⟨by dsimp only; omega, fun _ => q1 (by omega), fun _ => hL, fun h => by simp at h⟩, by dsimp only; omega, by first | rfl | trivial, rfl⟩
      have e1 : (j : Int) < (pi.length : Int) := by omega
      have e0 : (0 : Int) ≤ (j : Int) := by omega
      have hsj := fun z => getD_vsts pi j z (by omega)
      have hxs : okX (pi.getD j .zero).x := oi _ (by rw [List.getD_eq_getElem?_getD, List.getElem?_eq_getElem (by omega)]; exact List.getElem_mem _)
      have hbn := fun h => hbad (fwL_no (j := j) (by omega) h)
      have hj2 : (pi.getD j .zero).name.size ≤ 50 → ∀ i, i < j + 1 → (pi.getD i .zero).name.size ≤ 50 := fun h i hi => by
        by_cases e : i = j
        · subst e; exact h
        · exact j2 i (by omega)
      generalize pi.getD j .zero = s at *
      obtain ⟨nm, n, x⟩ := s
      simp only at hxs hbn hj2
      have hxx : (∃ m es, x = .slc m es) ∨ x = vnil := by rcases hxs with h | h; exact .inr h; exact .inl h
      by_cases c2 : (50 : Int) < (nm.size : Int)
      · have hb := hbn (by omega)
        have c2 := eq_true c2
        rcases hxx with ⟨m, es, rfl⟩ | rfl
        · simp -implicitDefEqProofs only [Doc.enc, VSt.enc, e0, e1, hsj, c2, hb, on_gcall, off_gcall, flat_gcall, go_sem, reduceCtorEq, reduceIte, Nat.reduceEqDiff, Nat.reduceAdd, Nat.reduceSub, Nat.reduceMul, Nat.reduceLT, Nat.reduceLeDiff, Nat.reduceBEq, Int.reduceEq, Int.reduceLT, Int.reduceLE, Int.reduceAdd, Int.reduceSub, Int.reduceNeg, Int.reduceToNat]
          first | done | omega
        · simp -implicitDefEqProofs only [Doc.enc, VSt.enc, e0, e1, hsj, c2, hb, on_gcall, off_gcall, flat_gcall, go_sem, reduceCtorEq, reduceIte, Nat.reduceEqDiff, Nat.reduceAdd, Nat.reduceSub, Nat.reduceMul, Nat.reduceLT, Nat.reduceLeDiff, Nat.reduceBEq, Int.reduceEq, Int.reduceLT, Int.reduceLE, Int.reduceAdd, Int.reduceSub, Int.reduceNeg, Int.reduceToNat]
          first | done | omega
      · have hj3 := hj2 (by omega)
        have c2 := eq_false c2
        rcases hxx with ⟨m, es, rfl⟩ | rfl
        · simp -implicitDefEqProofs only [Doc.enc, VSt.enc, e0, e1, hsj, c2, on_gcall, off_gcall, flat_gcall, go_sem, reduceCtorEq, reduceIte, Nat.reduceEqDiff, Nat.reduceAdd, Nat.reduceSub, Nat.reduceMul, Nat.reduceLT, Nat.reduceLeDiff, Nat.reduceBEq, Int.reduceEq, Int.reduceLT, Int.reduceLE, Int.reduceAdd, Int.reduceSub, Int.reduceNeg, Int.reduceToNat]
          exact ⟨by omega, ⟨j + 1, _⟩, ⟨by dsimp only; omega, hj3⟩, by dsimp only; omega, by dsimp only; omega, rfl⟩
        · simp -implicitDefEqProofs only [Doc.enc, VSt.enc, e0, e1, hsj, c2, on_gcall, off_gcall, flat_gcall, go_sem, reduceCtorEq, reduceIte, Nat.reduceEqDiff, Nat.reduceAdd, Nat.reduceSub, Nat.reduceMul, Nat.reduceLT, Nat.reduceLeDiff, Nat.reduceBEq, Int.reduceEq, Int.reduceLT, Int.reduceLE, Int.reduceAdd, Int.reduceSub, Int.reduceNeg, Int.reduceToNat]
          exact ⟨by omega, ⟨j + 1, _⟩, ⟨by dsimp only; omega, hj3⟩, by dsimp only; omega, by dsimp only; omega, rfl⟩
    · have hbad := fun (h : fwL pss = false) => hno (by rw [h, Bool.and_false])
      by_cases c1 : (10 : Int) < (pss.length : Int)
      · have hb := hbad (decide_eq_false fun hh => by have := hh.1; omega)
        have c1 := eq_true c1
        simp -implicitDefEqProofs only [Doc.enc, c1, hb, on_gcall, off_gcall, flat_gcall, go_sem, reduceCtorEq, reduceIte, Nat.reduceEqDiff, Nat.reduceAdd, Nat.reduceSub, Nat.reduceMul, Nat.reduceLT, Nat.reduceLeDiff, Nat.reduceBEq, Int.reduceEq, Int.reduceLT, Int.reduceLE, Int.reduceAdd, Int.reduceSub, Int.reduceNeg, Int.reduceToNat]
      have c1' := eq_false c1
      simp -implicitDefEqProofs only [Doc.enc, c1', on_gcall, off_gcall, flat_gcall, go_sem, reduceCtorEq, reduceIte, Nat.reduceEqDiff, Nat.reduceAdd, Nat.reduceSub, Nat.reduceMul, Nat.reduceLT, Nat.reduceLeDiff, Nat.reduceBEq, Int.reduceEq, Int.reduceLT, Int.reduceLE, Int.reduceAdd, Int.reduceSub, Int.reduceNeg, Int.reduceToNat]
      refine SemC.lp (α := FwC) (fun a => [(1, .slc 8 (ps.map Prp.enc)), (2, .ptr 0 0 0 0), (5, vi k), (35, .agg [.slc 3 (pr.map VSt.enc), .slc 3 (pi.map VSt.enc), .slc 3 (pss.map VSt.enc)]), (36, vi 2), (42, .slc 3 (pss.map VSt.enc)), (43, vi pss.length), (44, vi a.k)]) (fun a => ⟨[⟨0, 5, [d.enc], false, []⟩], a.clk⟩)
        (fun a => a.k ≤ pss.length ∧ ∀ i, i < a.k → (pss.getD i .zero).name.size ≤ 50) (fun a => pss.length - a.k) ⟨0, clk⟩ ⟨Nat.zero_le _, fun i hi => by simp at hi⟩ (St.cut ?_ ?_ ?_) fun a ha => ?_
      · simp [Agrees, upd_at, ev_cons]
      · simp [Doc.enc]
      · rfl
      obtain ⟨j, clk⟩ := a
      obtain ⟨j1, j2⟩ := ha
      simp only at j1 j2
      by_cases hj : j = pss.length
      · subst hj
        have hL : fwL pss = true := decide_eq_true ⟨by omega, j2⟩
        simp -implicitDefEqProofs only [Doc.enc, Int.lt_irrefl, on_gcall, off_gcall, flat_gcall, go_sem, reduceCtorEq, reduceIte, Nat.reduceEqDiff, Nat.reduceAdd, Nat.reduceSub, Nat.reduceMul, Nat.reduceLT, Nat.reduceLeDiff, Nat.reduceBEq, Int.reduceEq, Int.reduceLT, Int.reduceLE, Int.reduceAdd, Int.reduceSub, Int.reduceNeg, Int.reduceToNat]
        exact ⟨⟨2 + 1, clk⟩, ⟨by dsimp only; omega, fun _ => q1 (by omega), fun _ => q2 (by omega), fun _ => hL⟩, by dsimp only; omega, by first | rfl | trivial, rfl⟩
      have e1 : (j : Int) < (pss.length : Int) := by omega
      have e0 : (0 : Int) ≤ (j : Int) := by omega
      have hsj := fun z => getD_vsts pss j z (by omega)
      have hxs : okX (pss.getD j .zero).x := os _ (by rw [List.getD_eq_getElem?_getD, List.getElem?_eq_getElem (by omega)]; exact List.getElem_mem _)
      have hbn := fun h => hbad (fwL_no (j := j) (by omega) h)
      have hj2 : (pss.getD j .zero).name.size ≤ 50 → ∀ i, i < j + 1 → (pss.getD i .zero).name.size ≤ 50 := fun h i hi => by
        by_cases e : i = j
        · subst e; exact h
        · exact j2 i (by omega)
      generalize pss.getD j .zero = s at *
      obtain ⟨nm, n, x⟩ := s
      simp only at hxs hbn hj2
      have hxx : (∃ m es, x = .slc m es) ∨ x = vnil := by rcases hxs with h | h; exact .inr h; exact .inl h
      by_cases c2 : (50 : Int) < (nm.size : Int)
      · have hb := hbn (by omega)
        have c2 := eq_true c2
        rcases hxx with ⟨m, es, rfl⟩ | rfl
        · simp -implicitDefEqProofs only [Doc.enc, VSt.enc, e0, e1, hsj, c2, hb, on_gcall, off_gcall, flat_gcall, go_sem, reduceCtorEq, reduceIte, Nat.reduceEqDiff, Nat.reduceAdd, Nat.reduceSub, Nat.reduceMul, Nat.reduceLT, Nat.reduceLeDiff, Nat.reduceBEq, Int.reduceEq, Int.reduceLT, Int.reduceLE, Int.reduceAdd, Int.reduceSub, Int.reduceNeg, Int.reduceToNat]
          first | done | omega
        · simp -implicitDefEqProofs only [Doc.enc, VSt.enc, e0, e1, hsj, c2, hb, on_gcall, off_gcall, flat_gcall, go_sem, reduceCtorEq, reduceIte, Nat.reduceEqDiff, Nat.reduceAdd, Nat.reduceSub, Nat.reduceMul, Nat.reduceLT, Nat.reduceLeDiff, Nat.reduceBEq, Int.reduceEq, Int.reduceLT, Int.reduceLE, Int.reduceAdd, Int.reduceSub, Int.reduceNeg, Int.reduceToNat]
          first | done | omega
      · have hj3 := hj2 (by omega)
        have c2 := eq_false c2
        rcases hxx with ⟨m, es, rfl⟩ | rfl
        · simp -implicitDefEqProofs only [Doc.enc, VSt.enc, e0, e1, hsj, c2, on_gcall, off_gcall, flat_gcall, go_sem, reduceCtorEq, reduceIte, Nat.reduceEqDiff, Nat.reduceAdd, Nat.reduceSub, Nat.reduceMul, Nat.reduceLT, Nat.reduceLeDiff, Nat.reduceBEq, Int.reduceEq, Int.reduceLT, Int.reduceLE, Int.reduceAdd, Int.reduceSub, Int.reduceNeg, Int.reduceToNat]
          exact ⟨by omega, ⟨j + 1, _⟩, ⟨by dsimp only; omega, hj3⟩, by dsimp only; omega, by dsimp only; omega, rfl⟩
        · simp -implicitDefEqProofs only [Doc.enc, VSt.enc, e0, e1, hsj, c2, on_gcall, off_gcall, flat_gcall, go_sem, reduceCtorEq, reduceIte, Nat.reduceEqDiff, Nat.reduceAdd, Nat.reduceSub, Nat.reduceMul, Nat.reduceLT, Nat.reduceLeDiff, Nat.reduceBEq, Int.reduceEq, Int.reduceLT, Int.reduceLE, Int.reduceAdd, Int.reduceSub, Int.reduceNeg, Int.reduceToNat]
          exact ⟨by omega, ⟨j + 1, _⟩, ⟨by dsimp only; omega, hj3⟩, by dsimp only; omega, by dsimp only; omega, rfl⟩
  · have hall : decide (∀ i, i < ps.length → i ≤ 60 → fwP (ps.getD i .zero) = true) = true := decide_eq_true fun i h1 h2 => g3 i (by omega)
    have hR : few19 d ps = (few12 d && decide (ps.length ≤ 60)) := by unfold few19; rw [hall, Bool.true_and]
    rw [hR]
    have k0 : (0 : Int) ≤ (k : Int) := by omega
    by_cases hk1 : k < ps.length
    · have k1 := eq_true (show (k : Int) < (ps.length : Int) by omega)
      have k2 := eq_false (show ¬ (k : Int) ≤ 60 by omega)
      have c := eq_false (show ¬ (ps.length : Int) ≤ 60 by omega)
      have c' := decide_eq_false (show ¬ ps.length ≤ 60 by omega)
      cases hf : few12 d <;> simp -implicitDefEqProofs only [k0, k1, k2, c, c', hf, Doc.enc, dDoc_mk, Doc.eta, on_gcall, off_gcall, flat_gcall, go_sem, reduceCtorEq, reduceIte, Nat.reduceEqDiff, Nat.reduceAdd, Nat.reduceSub, Nat.reduceMul, Nat.reduceLT, Nat.reduceLeDiff, Nat.reduceBEq, Int.reduceEq, Int.reduceLT, Int.reduceLE, Int.reduceAdd, Int.reduceSub, Int.reduceNeg, Int.reduceToNat]
    · have k1 := eq_false (show ¬ (k : Int) < (ps.length : Int) by omega)
      by_cases hc : ps.length ≤ 60
      · have c := eq_true (show (ps.length : Int) ≤ 60 by omega)
        have c' := decide_eq_true hc
        cases hf : few12 d <;> simp -implicitDefEqProofs only [k0, k1, c, c', hf, Doc.enc, dDoc_mk, Doc.eta, on_gcall, off_gcall, flat_gcall, go_sem, reduceCtorEq, reduceIte, Nat.reduceEqDiff, Nat.reduceAdd, Nat.reduceSub, Nat.reduceMul, Nat.reduceLT, Nat.reduceLeDiff, Nat.reduceBEq, Int.reduceEq, Int.reduceLT, Int.reduceLE, Int.reduceAdd, Int.reduceSub, Int.reduceNeg, Int.reduceToNat]
      · have c := eq_false (show ¬ (ps.length : Int) ≤ 60 by omega)
        have c' := decide_eq_false hc
        cases hf : few12 d <;> simp -implicitDefEqProofs only [k0, k1, c, c', hf, Doc.enc, dDoc_mk, Doc.eta, on_gcall, off_gcall, flat_gcall, go_sem, reduceCtorEq, reduceIte, Nat.reduceEqDiff, Nat.reduceAdd, Nat.reduceSub, Nat.reduceMul, Nat.reduceLT, Nat.reduceLeDiff, Nat.reduceBEq, Int.reduceEq, Int.reduceLT, Int.reduceLE, Int.reduceAdd, Int.reduceSub, Int.reduceNeg, Int.reduceToNat]
def sumFew19 : Sum Try.prog := ⟨8, fun args => args = [.agg (Doc.enc (dDoc (args.getD 0 .any))), prps (dPrps (args.getD 1 .any))] ∧ ∀ p ∈ (dPrps (args.getD 1 .any)), okX p.st ∧ okS p.r ∧ okS p.i ∧ okS p.s, fun args => vb (few19 (dDoc (args.getD 0 .any)) (dPrps (args.getD 1 .any))), fun args h => by
  have := few19_ok (dDoc (args.getD 0 .any)) (dPrps (args.getD 1 .any)) h.2; rwa [← h.1] at this, true⟩
theorem sumFew19_f : sumFew19.f = 8 := rfl
theorem sumFew19_D (args : List V) : sumFew19.D args = (args = [.agg (Doc.enc (dDoc (args.getD 0 .any))), prps (dPrps (args.getD 1 .any))] ∧ ∀ p ∈ (dPrps (args.getD 1 .any)), okX p.st ∧ okS p.r ∧ okS p.i ∧ okS p.s) := rfl
theorem sumFew19_flat : sumFew19.flat = true := rfl
theorem sumFew19_r (args : List V) : sumFew19.r args = vb (few19 (dDoc (args.getD 0 .any)) (dPrps (args.getD 1 .any))) := rfl
attribute [go_sem] sumFew19_f sumFew19_D sumFew19_flat sumFew19_r
end Go.Proofs.Yteifbbinfipdlaa
