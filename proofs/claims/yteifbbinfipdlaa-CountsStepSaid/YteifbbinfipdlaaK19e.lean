/- Layer 19: numbers, stopped; sums. -/
import Derived.Test.YteifbbinfipdlaaK19d
import Derived.Test.YteifbbinfipdlaaFl
namespace Go.Proofs.Yteifbbinfipdlaa
open Go.Sx
set_option linter.unusedSimpArgs false
set_option maxHeartbeats 4000000
set_option maxRecDepth 20000

def stopI (n : Int) : Int := min (max n (-2147483648)) 2147483647
theorem stopI_rng (n : Int) : -2147483648 ≤ stopI n ∧ stopI n ≤ 2147483647 := by unfold stopI; omega
theorem stop19_ok (n : Int) : PCall Try.prog 34 [vi n] (vi (stopI n)) := by
  refine PCall.of (Orc.nil _) c34_ok (by simp [c34]) fun w0 own0 => ?_
  simp only [c34, stopI, go_sem, wpR_gcall, reduceCtorEq, reduceIte, Nat.reduceEqDiff, Nat.reduceAdd, Nat.reduceSub, Nat.reduceMul, Nat.reduceLT, Nat.reduceLeDiff, Nat.reduceBEq, Int.reduceEq, Int.reduceLT, Int.reduceLE, Int.reduceAdd, Int.reduceSub, Int.reduceNeg, Int.reduceToNat]
def sumStop : Sum Try.prog := ⟨34, fun args => args = [vi ((args.getD 0 .any).int)], fun args => vi (stopI ((args.getD 0 .any).int)), fun args h => by
  have := stop19_ok ((args.getD 0 .any).int); rwa [← h] at this, true⟩
theorem sumStop_f : sumStop.f = 34 := rfl
theorem sumStop_D (args : List V) : sumStop.D args = (args = [vi ((args.getD 0 .any).int)]) := rfl
theorem sumStop_flat : sumStop.flat = true := rfl
theorem sumStop_r (args : List V) : sumStop.r args = vi (stopI ((args.getD 0 .any).int)) := rfl
attribute [go_sem] sumStop_f sumStop_D sumStop_flat sumStop_r
def addI (a b : Int) : Int := stopI (stopI a + stopI b)
theorem add00 : FloatKind.f64.format.add 0 0 = some 0 := by decide
theorem add19_ok (a b : Int) : PCall Try.prog 32 [vi a, vi b] (vi (addI a b)) := by
  refine PCall.of (Orc.cons sumStop (Orc.nil _)) c32_ok (by simp [c32]) fun w0 own0 => ?_
  have ha := stopI_rng a
  have hb := stopI_rng b
  unfold addI
  have h1 := add_int (stopI a) (stopI b) (by omega) (by omega)
  have h2 := toInt_int (stopI a + stopI b) (by omega)
  have h3 : IntKind.i64.min ≤ stopI a + stopI b ∧ stopI a + stopI b ≤ IntKind.i64.max := by
    have e1 : IntKind.i64.min = -9223372036854775808 := by decide
    have e2 : IntKind.i64.max = 9223372036854775807 := by decide
    omega
  simp only [c32, fopV, h1, h2, h3, add00, go_sem, wpR_gcall, reduceCtorEq, reduceIte, Nat.reduceEqDiff, Nat.reduceAdd, Nat.reduceSub, Nat.reduceMul, Nat.reduceLT, Nat.reduceLeDiff, Nat.reduceBEq, Int.reduceEq, Int.reduceLT, Int.reduceLE, Int.reduceAdd, Int.reduceSub, Int.reduceNeg, Int.reduceToNat]
def sumAdd : Sum Try.prog := ⟨32, fun args => args = [vi ((args.getD 0 .any).int), vi ((args.getD 1 .any).int)], fun args => vi (addI ((args.getD 0 .any).int) ((args.getD 1 .any).int)), fun args h => by
  have := add19_ok ((args.getD 0 .any).int) ((args.getD 1 .any).int); rwa [← h] at this, true⟩
theorem sumAdd_f : sumAdd.f = 32 := rfl
theorem sumAdd_D (args : List V) : sumAdd.D args = (args = [vi ((args.getD 0 .any).int), vi ((args.getD 1 .any).int)]) := rfl
theorem sumAdd_flat : sumAdd.flat = true := rfl
theorem sumAdd_r (args : List V) : sumAdd.r args = vi (addI ((args.getD 0 .any).int) ((args.getD 1 .any).int)) := rfl
attribute [go_sem] sumAdd_f sumAdd_D sumAdd_flat sumAdd_r
theorem stopR_ok (n : Int) : PCall Try.prog 40 [vi n] (vi (stopI n)) := by
  refine PCall.of (Orc.nil _) c40_ok (by simp [c40]) fun w0 own0 => ?_
  simp only [c40, stopI, go_sem, wpR_gcall, reduceCtorEq, reduceIte, Nat.reduceEqDiff, Nat.reduceAdd, Nat.reduceSub, Nat.reduceMul, Nat.reduceLT, Nat.reduceLeDiff, Nat.reduceBEq, Int.reduceEq, Int.reduceLT, Int.reduceLE, Int.reduceAdd, Int.reduceSub, Int.reduceNeg, Int.reduceToNat]
  exact ⟨fun h => by omega, fun h => ⟨fun h' => by omega, fun h' => by omega⟩⟩
def sumStopR : Sum Try.prog := ⟨40, fun args => args = [vi ((args.getD 0 .any).int)], fun args => vi (stopI ((args.getD 0 .any).int)), fun args h => by
  have := stopR_ok ((args.getD 0 .any).int); rwa [← h] at this, true⟩
theorem sumStopR_f : sumStopR.f = 40 := rfl
theorem sumStopR_D (args : List V) : sumStopR.D args = (args = [vi ((args.getD 0 .any).int)]) := rfl
theorem sumStopR_flat : sumStopR.flat = true := rfl
theorem sumStopR_r (args : List V) : sumStopR.r args = vi (stopI ((args.getD 0 .any).int)) := rfl
attribute [go_sem] sumStopR_f sumStopR_D sumStopR_flat sumStopR_r
theorem addR_ok (a b : Int) : PCall Try.prog 39 [vi a, vi b] (vi (addI a b)) := by
  refine PCall.of (Orc.cons sumStopR (Orc.nil _)) c39_ok (by simp [c39]) fun w0 own0 => ?_
  have ha := stopI_rng a
  have hb := stopI_rng b
  unfold addI
  simp only [c39, go_sem, wpR_gcall, reduceCtorEq, reduceIte, Nat.reduceEqDiff, Nat.reduceAdd, Nat.reduceSub, Nat.reduceMul, Nat.reduceLT, Nat.reduceLeDiff, Nat.reduceBEq, Int.reduceEq, Int.reduceLT, Int.reduceLE, Int.reduceAdd, Int.reduceSub, Int.reduceNeg, Int.reduceToNat]
  omega
def sumAddR : Sum Try.prog := ⟨39, fun args => args = [vi ((args.getD 0 .any).int), vi ((args.getD 1 .any).int)], fun args => vi (addI ((args.getD 0 .any).int) ((args.getD 1 .any).int)), fun args h => by
  have := addR_ok ((args.getD 0 .any).int) ((args.getD 1 .any).int); rwa [← h] at this, true⟩
theorem sumAddR_f : sumAddR.f = 39 := rfl
theorem sumAddR_D (args : List V) : sumAddR.D args = (args = [vi ((args.getD 0 .any).int), vi ((args.getD 1 .any).int)]) := rfl
theorem sumAddR_flat : sumAddR.flat = true := rfl
theorem sumAddR_r (args : List V) : sumAddR.r args = vi (addI ((args.getD 0 .any).int) ((args.getD 1 .any).int)) := rfl
attribute [go_sem] sumAddR_f sumAddR_D sumAddR_flat sumAddR_r
end Go.Proofs.Yteifbbinfipdlaa
