/- Layer 10, by the document: which node simple selectors and compounds are about. -/
import Derived.Test.YtcjephhkgccmgaaM10f
namespace Go.Proofs.Ytcjephhkgccmgaa
open Go.Sx
set_option linter.unusedSimpArgs false
set_option maxHeartbeats 4000000
set_option maxRecDepth 20000

theorem aboveR_ok (x y : W3) : PCall Try.prog 19 [.agg x.enc, .agg y.enc] (vb (abv x y)) := by
  refine PCall.of (Orc.nil _) c19_ok (by simp [c19]) fun w0 own0 => ?_
  simp only [c19, W3.enc, go_sem, wpR_gcall, reduceCtorEq, reduceIte, Nat.reduceEqDiff, Nat.reduceAdd, Nat.reduceSub, Nat.reduceMul, Nat.reduceLT, Nat.reduceLeDiff, Nat.reduceBEq, Int.reduceEq, Int.reduceLT, Int.reduceLE, Int.reduceAdd, Int.reduceSub, Int.reduceNeg, Int.reduceToNat]
  refine SemC.lp (α := Nat) (fun k => [(2, .ptr 0 0 0 0), (3, .ptr 1 1 0 0), (5, vi k)]) (fun _ => ⟨[⟨0, 3, [x.enc], false, []⟩, ⟨1, 3, [y.enc], false, []⟩], 2⟩)
    (fun k => k ≤ 3 ∧ (0 < k → x.a = y.a) ∧ (1 < k → x.b = y.b) ∧ (2 < k → x.c = y.c)) (fun k => 3 - k) 0 ⟨by omega, by omega, by omega, by omega⟩ (St.mk (by simp [Agrees, upd_at, initE_at])) fun k hk => ?_
  obtain ⟨h1, h2, h3, h4⟩ := hk
  have ha := abv_iff x y
  rcases (show k = 0 ∨ k = 1 ∨ k = 2 ∨ k = 3 by omega) with rfl | rfl | rfl | rfl
  · by_cases h : x.a = y.a
    · simp only [W3.enc, h, go_sem, wpR_gcall, reduceCtorEq, reduceIte, Nat.reduceEqDiff, Nat.reduceAdd, Nat.reduceSub, Nat.reduceMul, Nat.reduceLT, Nat.reduceLeDiff, Nat.reduceBEq, Int.reduceEq, Int.reduceLT, Int.reduceLE, Int.reduceAdd, Int.reduceSub, Int.reduceNeg, Int.reduceToNat]
      first | exact ⟨1, ⟨by omega, by omega, by omega⟩, by omega, by omega⟩ | exact ⟨by omega, 1, ⟨by omega, by omega, by omega⟩, by omega, by omega⟩
    · have e : abv x y = decide (y.a < x.a) := by rw [Bool.eq_iff_iff, ha, decide_eq_true_eq]; omega
      simp only [W3.enc, h, e, go_sem, wpR_gcall, reduceCtorEq, reduceIte, Nat.reduceEqDiff, Nat.reduceAdd, Nat.reduceSub, Nat.reduceMul, Nat.reduceLT, Nat.reduceLeDiff, Nat.reduceBEq, Int.reduceEq, Int.reduceLT, Int.reduceLE, Int.reduceAdd, Int.reduceSub, Int.reduceNeg, Int.reduceToNat]
  · have g := h2 (by omega)
    by_cases h : x.b = y.b
    · simp only [W3.enc, g, h, go_sem, wpR_gcall, reduceCtorEq, reduceIte, Nat.reduceEqDiff, Nat.reduceAdd, Nat.reduceSub, Nat.reduceMul, Nat.reduceLT, Nat.reduceLeDiff, Nat.reduceBEq, Int.reduceEq, Int.reduceLT, Int.reduceLE, Int.reduceAdd, Int.reduceSub, Int.reduceNeg, Int.reduceToNat]
      exact ⟨2, ⟨by omega, by omega⟩, by omega, by omega⟩
    · have e : abv x y = decide (y.b < x.b) := by rw [Bool.eq_iff_iff, ha, decide_eq_true_eq]; omega
      simp only [W3.enc, h, e, go_sem, wpR_gcall, reduceCtorEq, reduceIte, Nat.reduceEqDiff, Nat.reduceAdd, Nat.reduceSub, Nat.reduceMul, Nat.reduceLT, Nat.reduceLeDiff, Nat.reduceBEq, Int.reduceEq, Int.reduceLT, Int.reduceLE, Int.reduceAdd, Int.reduceSub, Int.reduceNeg, Int.reduceToNat]
  · have g := h2 (by omega)
    have g2 := h3 (by omega)
    by_cases h : x.c = y.c
    · simp only [W3.enc, g, g2, h, go_sem, wpR_gcall, reduceCtorEq, reduceIte, Nat.reduceEqDiff, Nat.reduceAdd, Nat.reduceSub, Nat.reduceMul, Nat.reduceLT, Nat.reduceLeDiff, Nat.reduceBEq, Int.reduceEq, Int.reduceLT, Int.reduceLE, Int.reduceAdd, Int.reduceSub, Int.reduceNeg, Int.reduceToNat]
      exact ⟨3, by omega, by omega, by omega⟩
    · have e : abv x y = decide (y.c < x.c) := by rw [Bool.eq_iff_iff, ha, decide_eq_true_eq]; omega
      simp only [W3.enc, h, e, go_sem, wpR_gcall, reduceCtorEq, reduceIte, Nat.reduceEqDiff, Nat.reduceAdd, Nat.reduceSub, Nat.reduceMul, Nat.reduceLT, Nat.reduceLeDiff, Nat.reduceBEq, Int.reduceEq, Int.reduceLT, Int.reduceLE, Int.reduceAdd, Int.reduceSub, Int.reduceNeg, Int.reduceToNat]
  · have e : abv x y = false := by
      cases hb : abv x y with
      | false => rfl
      | true => rw [ha] at hb; omega
    simp only [W3.enc, e, go_sem, wpR_gcall, reduceCtorEq, reduceIte, Nat.reduceEqDiff, Nat.reduceAdd, Nat.reduceSub, Nat.reduceMul, Nat.reduceLT, Nat.reduceLeDiff, Nat.reduceBEq, Int.reduceEq, Int.reduceLT, Int.reduceLE, Int.reduceAdd, Int.reduceSub, Int.reduceNeg, Int.reduceToNat]
def sumAbvR : Sum Try.prog := ⟨19, fun args => args = [.agg (W3.enc (dW3 (args.getD 0 .any))), .agg (W3.enc (dW3 (args.getD 1 .any)))], fun args => vb (abv (dW3 (args.getD 0 .any)) (dW3 (args.getD 1 .any))), fun args h => by
  have := aboveR_ok (dW3 (args.getD 0 .any)) (dW3 (args.getD 1 .any)); rwa [← h] at this, true⟩
theorem sumAbvR_f : sumAbvR.f = 19 := rfl
theorem sumAbvR_D (args : List V) : sumAbvR.D args = (args = [.agg (W3.enc (dW3 (args.getD 0 .any))), .agg (W3.enc (dW3 (args.getD 1 .any)))]) := rfl
theorem sumAbvR_flat : sumAbvR.flat = true := rfl
theorem sumAbvR_r (args : List V) : sumAbvR.r args = vb (abv (dW3 (args.getD 0 .any)) (dW3 (args.getD 1 .any))) := rfl
end Go.Proofs.Ytcjephhkgccmgaa
