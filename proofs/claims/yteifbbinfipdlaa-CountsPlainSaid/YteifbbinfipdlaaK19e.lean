/- Layer 19: numbers, stopped; sums. -/
import Derived.Test.YteifbbinfipdlaaK19d
import Derived.Test.YteifbbinfipdlaaFl
namespace Go.Proofs.Yteifbbinfipdlaa
open Go.Sx
set_option linter.unusedSimpArgs false
set_option maxHeartbeats 4000000
set_option maxRecDepth 20000

def stopI (n : Int) : Int := min (max n (-2147483648)) 2147483647
theorem stopI_rng (n : Int) : -2147483648 ≤ stopI n ∧ stopI n ≤ 2147483647 := by unfold stopI; omega
theorem stop19_ok (n : Int) : PCall Try.prog 34 [vi n] (vi (stopI n)) := by
  refine PCall.of (Orc.nil _) c34_ok (by simp [c34]) fun w0 own0 => ?_
  simp only [c34, stopI, go_sem, wpR_gcall, reduceCtorEq, reduceIte, Nat.reduceEqDiff, Nat.reduceAdd, Nat.reduceSub, Nat.reduceMul, Nat.reduceLT, Nat.reduceLeDiff, Nat.reduceBEq, Int.reduceEq, Int.reduceLT, Int.reduceLE, Int.reduceAdd, Int.reduceSub, Int.reduceNeg, Int.reduceToNat]
def sumStop : Sum Try.prog := ⟨34, fun args => args = [vi ((args.getD 0 .any).int)], fun args => vi (stopI ((args.getD 0 .any).int)), fun args h => by
  have := stop19_ok ((args.getD 0 .any).int); rwa [← h] at this, true⟩
theorem sumStop_f : sumStop.f = 34 := rfl
theorem sumStop_D (args : List V) : sumStop.D args = (args = [vi ((args.getD 0 .any).int)]) := rfl
theorem sumStop_flat : sumStop.flat = true := rfl
theorem sumStop_r (args : List V) : sumStop.r args = vi (stopI ((args.getD 0 .any).int)) := rfl
attribute [go_sem] sumStop_f sumStop_D sumStop_flat sumStop_r
def addI (a b : Int) : Int := stopI (stopI a + stopI b)
theorem add00 : FloatKind.f64.format.add 0 0 = some 0 := by decide
theorem add19_ok (a b : Int) : PCall Try.prog 32 [vi a, vi b] (vi (addI a b)) := by
  refine PCall.of (Orc.cons sumStop (Orc.nil _)) c32_ok (by simp [c32]) fun w0 own0 => ?_
  have ha := stopI_rng a
  have hb := stopI_rng b
  unfold addI
  have h1 := add_int (stopI a) (stopI b) (by omega) (by omega)
  have h2 := toInt_int (stopI a + stopI b) (by omega)
  have h3 : IntKind.i64.min ≤ stopI a + stopI b ∧ stopI a + stopI b ≤ IntKind.i64.max := by
    have e1 : IntKind.i64.min = -9223372036854775808 := by decide
    have e2 : IntKind.i64.max = 9223372036854775807 := by decide
    omega
  simp only [c32, fopV, h1, h2, h3, add00, go_sem, wpR_gcall, reduceCtorEq, reduceIte, Nat.reduceEqDiff, Nat.reduceAdd, Nat.reduceSub, Nat.reduceMul, Nat.reduceLT, Nat.reduceLeDiff, Nat.reduceBEq, Int.reduceEq, Int.reduceLT, Int.reduceLE, Int.reduceAdd, Int.reduceSub, Int.reduceNeg, Int.reduceToNat]
def sumAdd : Sum Try.prog := ⟨32, fun args => args = [vi ((args.getD 0 .any).int), vi ((args.getD 1 .any).int)], fun args => vi (addI ((args.getD 0 .any).int) ((args.getD 1 .any).int)), fun args h => by
  have := add19_ok ((args.getD 0 .any).int) ((args.getD 1 .any).int); rwa [← h] at this, true⟩
theorem sumAdd_f : sumAdd.f = 32 := rfl
theorem sumAdd_D (args : List V) : sumAdd.D args = (args = [vi ((args.getD 0 .any).int), vi ((args.getD 1 .any).int)]) := rfl
theorem sumAdd_flat : sumAdd.flat = true := rfl
theorem sumAdd_r (args : List V) : sumAdd.r args = vi (addI ((args.getD 0 .any).int) ((args.getD 1 .any).int)) := rfl
attribute [go_sem] sumAdd_f sumAdd_D sumAdd_flat sumAdd_r
end Go.Proofs.Yteifbbinfipdlaa
