/- Layer 19: the law of the numbers of the counters of a name. -/
import Derived.Test.YteifbbinfipdlaaK19c
namespace Go.Proofs.Yteifbbinfipdlaa
open Go.Sx
set_option linter.unusedSimpArgs false
set_option maxHeartbeats 4000000
set_option maxRecDepth 20000

abbrev cntC : List Cell := [.str, .int .i64, .int .i64]
theorem cnts_of {x : V} (h : CellOK (.slc cntC) x) : ∃ l : List Cnt, x = cnts l := by
  cases h with
  | slc cs ess hl h h2 =>
    refine ⟨ess.map dCntL, ?_⟩
    unfold cnts
    have e : (ess.map dCntL).map Cnt.enc = ess := by
      rw [List.map_map]
      conv => rhs; rw [← List.map_id ess]
      apply List.map_congr_left
      intro es hes
      have hlen := h es hes
      have a0 := h2 es hes 0 _ rfl
      have a1 := h2 es hes 1 _ rfl
      have a2 := h2 es hes 2 _ rfl
      match es, hlen with
      | [a, b, c], _ =>
        simp only [List.getD_cons_zero, List.getD_cons_succ] at a0 a1 a2
        cases a0; cases a1; cases a2
        rfl
    rw [e]
    rfl
theorem countsValues_law (x : V) (h : CellOK (.slc cntC) x) (y : V) (h' : CellOK .str y) : PCall Try.prog 4 [x, y] (.c (.bool true)) := by
  obtain ⟨l, rfl⟩ := cnts_of h
  obtain ⟨nm, rfl⟩ : ∃ nm : ByteArray, y = vs nm := by cases h'; exact ⟨_, rfl⟩
  refine PCall.of (Orc.cons sumAw19 (Orc.cons sumVals (Orc.cons sumValsR (Orc.cons sumValue (Orc.cons sumGiven19 (Orc.nil _)))))) c4_ok (by simp [c4]) fun w0 own0 => ?_
  by_cases g1 : (40 : Int) < (l.length : Int)
  · have g1 := eq_true g1
    simp only [c4, cnts, g1, on_gcall, off_gcall, flat_gcall, go_sem, reduceCtorEq, reduceIte, Nat.reduceEqDiff, Nat.reduceAdd, Nat.reduceSub, Nat.reduceMul, Nat.reduceLT, Nat.reduceLeDiff, Nat.reduceBEq, Int.reduceEq, Int.reduceLT, Int.reduceLE, Int.reduceAdd, Int.reduceSub, Int.reduceNeg, Int.reduceToNat]
  by_cases g2 : (50 : Int) < (nm.size : Int)
  · have g1 := eq_false g1; have g2 := eq_true g2
    simp only [c4, cnts, g1, g2, on_gcall, off_gcall, flat_gcall, go_sem, reduceCtorEq, reduceIte, Nat.reduceEqDiff, Nat.reduceAdd, Nat.reduceSub, Nat.reduceMul, Nat.reduceLT, Nat.reduceLeDiff, Nat.reduceBEq, Int.reduceEq, Int.reduceLT, Int.reduceLE, Int.reduceAdd, Int.reduceSub, Int.reduceNeg, Int.reduceToNat]
  have hl : l.length ≤ 40 := by omega
  have hl6 : l.length ≤ 1000000 := by omega
  have g1 := eq_false g1; have g2 := eq_false g2
  simp only [c4, cnts, g1, g2, on_gcall, off_gcall, flat_gcall, go_sem, reduceCtorEq, reduceIte, Nat.reduceEqDiff, Nat.reduceAdd, Nat.reduceSub, Nat.reduceMul, Nat.reduceLT, Nat.reduceLeDiff, Nat.reduceBEq, Int.reduceEq, Int.reduceLT, Int.reduceLE, Int.reduceAdd, Int.reduceSub, Int.reduceNeg, Int.reduceToNat]
  refine SemC.lp (α := VlS) (fun a => [(0, .slc 3 (l.map Cnt.enc)), (1, vs nm), (19, .slc 3 (l.map Cnt.enc)), (20, vi l.length), (21, vi a.k)]) (fun a => ⟨[], a.clk⟩) (fun a => a.k ≤ l.length) (fun a => l.length - a.k) ⟨0, 0, 0⟩ (Nat.zero_le _) (St.cut ?_ ?_ ?_) fun a ha => ?_
  · simp [Agrees, upd_at, initE_at]
  · simp
  · rfl
  obtain ⟨k, ver, clk⟩ := a
  simp only at ha
  by_cases hk : k = l.length
  · subst hk
    obtain ⟨v1, v2⟩ := valsC_len l nm
    simp only [Int.lt_irrefl, cnts, ints, dCnts_map, hl6, on_gcall, off_gcall, flat_gcall, go_sem, reduceCtorEq, reduceIte, Nat.reduceEqDiff, Nat.reduceAdd, Nat.reduceSub, Nat.reduceMul, Nat.reduceLT, Nat.reduceLeDiff, Nat.reduceBEq, Int.reduceEq, Int.reduceLT, Int.reduceLE, Int.reduceAdd, Int.reduceSub, Int.reduceNeg, Int.reduceToNat]
    refine SemC.lp (α := VlS) (fun a => [(0, .slc 3 (l.map Cnt.enc)), (1, vs nm), (7, .slc 1 ((valsC l nm).map fun n => [vi n])), (8, .slc 1 ((valsC l nm).map fun n => [vi n])), (43, .slc 1 ((valsC l nm).map fun n => [vi n])), (44, vi (valsC l nm).length), (45, vi a.k)]) (fun a => ⟨[], a.clk⟩)
      (fun a => a.k ≤ (valsC l nm).length) (fun a => (valsC l nm).length - a.k) ⟨0, 0, clk⟩ (Nat.zero_le _) (St.cut ?_ ?_ ?_) fun a ha => ?_
    · simp [Agrees, upd_at, ev_cons]
    · simp
    · rfl
    obtain ⟨k, ver, clk⟩ := a
    simp only at ha
    by_cases hk : k = (valsC l nm).length
    · subst hk
      have e1 : ((valsC l nm).length : Int) - 1 < ((valsC l nm).length : Int) := by omega
      have e0 : (0 : Int) ≤ ((valsC l nm).length : Int) - 1 := by omega
      have e2 : (((valsC l nm).length : Int) - 1).toNat = (valsC l nm).length - 1 := by omega
      have o1 := eq_true (show ((valsC l nm).length : Int) - 1 ≤ 9223372036854775807 by omega)
      have o2 := eq_true (show -9223372036854775808 ≤ ((valsC l nm).length : Int) - 1 by omega)
      simp only [Int.lt_irrefl, cnts, dCnts_map, hl6, e0, e1, e2, o1, o2, on_gcall, off_gcall, flat_gcall, go_sem, reduceCtorEq, reduceIte, Nat.reduceEqDiff, Nat.reduceAdd, Nat.reduceSub, Nat.reduceMul, Nat.reduceLT, Nat.reduceLeDiff, Nat.reduceBEq, Int.reduceEq, Int.reduceLT, Int.reduceLE, Int.reduceAdd, Int.reduceSub, Int.reduceNeg, Int.reduceToNat]
    · have e1 : (k : Int) < ((valsC l nm).length : Int) := by omega
      have e0 : (0 : Int) ≤ (k : Int) := by omega
      simp only [e0, e1, on_gcall, off_gcall, flat_gcall, go_sem, reduceCtorEq, reduceIte, Nat.reduceEqDiff, Nat.reduceAdd, Nat.reduceSub, Nat.reduceMul, Nat.reduceLT, Nat.reduceLeDiff, Nat.reduceBEq, Int.reduceEq, Int.reduceLT, Int.reduceLE, Int.reduceAdd, Int.reduceSub, Int.reduceNeg, Int.reduceToNat]
      exact ⟨by omega, ⟨k + 1, ver, clk⟩, by dsimp only; omega, by dsimp only; omega, by dsimp only; omega, rfl⟩
  · have e1 : (k : Int) < (l.length : Int) := by omega
    have e0 : (0 : Int) ≤ (k : Int) := by omega
    have hg := getD_cnts l k
    generalize l.getD k .zero = c at *
    by_cases hn : (50 : Int) < (c.name.size : Int)
    · have hn := eq_true hn
      simp only [e0, e1, hg, hn, Cnt.enc, on_gcall, off_gcall, flat_gcall, go_sem, reduceCtorEq, reduceIte, Nat.reduceEqDiff, Nat.reduceAdd, Nat.reduceSub, Nat.reduceMul, Nat.reduceLT, Nat.reduceLeDiff, Nat.reduceBEq, Int.reduceEq, Int.reduceLT, Int.reduceLE, Int.reduceAdd, Int.reduceSub, Int.reduceNeg, Int.reduceToNat]
    · have hn := eq_false hn
      simp only [e0, e1, hg, hn, Cnt.enc, on_gcall, off_gcall, flat_gcall, go_sem, reduceCtorEq, reduceIte, Nat.reduceEqDiff, Nat.reduceAdd, Nat.reduceSub, Nat.reduceMul, Nat.reduceLT, Nat.reduceLeDiff, Nat.reduceBEq, Int.reduceEq, Int.reduceLT, Int.reduceLE, Int.reduceAdd, Int.reduceSub, Int.reduceNeg, Int.reduceToNat]
      exact ⟨by omega, ⟨k + 1, ver, _⟩, by dsimp only; omega, by dsimp only; omega, by dsimp only; omega, rfl⟩
end Go.Proofs.Yteifbbinfipdlaa
