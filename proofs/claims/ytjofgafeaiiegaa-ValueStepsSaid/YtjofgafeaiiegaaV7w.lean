/- Layer 7: content lists. -/
import Derived.Test.YtjofgafeaiiegaaV7t
import Derived.Test.YtjofgafeaiiegaaV7v
import Derived.Test.YtjofgafeaiiegaaV7q
namespace Go.Proofs.Ytjofgafeaiiegaa
open Go.Sx
set_option linter.unusedSimpArgs false
set_option maxHeartbeats 8000000
set_option maxRecDepth 20000

structure Ct where
  l : List Itm
  none : Bool
  is : Bool
theorem okPs_pl {l : List Tok} (h : okT l) : okPs (pl l) := ⟨by have := pl_len l; have := h.1; omega, pl_mem h⟩
theorem itemsL_ok (a : List Itm) (h : a.length ≤ 2000000) : PCall Try.prog 15 [itms a, itms a] (vb true) := by
  refine PCall.of (Orc.nil _) c15_ok (by simp [c15]) fun w0 own0 => ?_
  simp only [c15, itms, go_sem, wpR_gcall, reduceCtorEq, reduceIte, Nat.reduceEqDiff, Nat.reduceAdd, Nat.reduceSub, Nat.reduceMul, Nat.reduceLT, Nat.reduceLeDiff, Nat.reduceBEq, Int.reduceEq, Int.reduceLT, Int.reduceLE, Int.reduceAdd, Int.reduceSub, Int.reduceNeg, Int.reduceToNat]
  refine SemC.lp (α := Nat) (fun k => [(0, .slc 5 (a.map Itm.enc)), (1, .slc 5 (a.map Itm.enc)), (12, vi a.length), (13, vi k)]) (fun _ => ⟨[], 0⟩) (fun k => k ≤ a.length) (fun k => a.length - k) 0 (Nat.zero_le _) (St.mk (by simp [Agrees, upd_at, initE_at])) fun k hk => ?_
  by_cases hkl : k = a.length
  · subst hkl
    simp only [Int.lt_irrefl, go_sem, wpR_gcall, reduceCtorEq, reduceIte, Nat.reduceEqDiff, Nat.reduceAdd, Nat.reduceSub, Nat.reduceMul, Nat.reduceLT, Nat.reduceLeDiff, Nat.reduceBEq, Int.reduceEq, Int.reduceLT, Int.reduceLE, Int.reduceAdd, Int.reduceSub, Int.reduceNeg, Int.reduceToNat]
  · have e1 : (k : Int) < (a.length : Int) := by omega
    have e0 : (0 : Int) ≤ (k : Int) := by omega
    have hg := getD_itms a k
    generalize a.getD k default = x at *
    simp only [e0, e1, hg, Itm.enc, go_sem, wpR_gcall, reduceCtorEq, reduceIte, Nat.reduceEqDiff, Nat.reduceAdd, Nat.reduceSub, Nat.reduceMul, Nat.reduceLT, Nat.reduceLeDiff, Nat.reduceBEq, Int.reduceEq, Int.reduceLT, Int.reduceLE, Int.reduceAdd, Int.reduceSub, Int.reduceNeg, Int.reduceToNat]
    exact ⟨rfl, by omega, k + 1, by omega, by omega, by omega⟩
def sumIeq : Sum Try.prog := ⟨15, fun args => args = [itms (dItms (args.getD 0 .any)), itms (dItms (args.getD 0 .any))] ∧ ((dItms (args.getD 0 .any))).length ≤ 2000000, fun args => vb true, fun args h => by
  have := itemsL_ok (dItms (args.getD 0 .any)) h.2; rwa [← h.1] at this, true⟩
theorem sumIeq_f : sumIeq.f = 15 := rfl
theorem sumIeq_D (args : List V) : sumIeq.D args = (args = [itms (dItms (args.getD 0 .any)), itms (dItms (args.getD 0 .any))] ∧ ((dItms (args.getD 0 .any))).length ≤ 2000000) := rfl
theorem sumIeq_flat : sumIeq.flat = true := rfl
theorem sumIeq_r (args : List V) : sumIeq.r args = vb true := rfl
attribute [go_sem] sumIeq_f sumIeq_D sumIeq_flat sumIeq_r
end Go.Proofs.Ytjofgafeaiiegaa
