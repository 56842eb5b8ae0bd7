/- Layer 19: the numbers of the counters of a name; the law. -/
import Derived.Test.YteifbbinfipdlaaK19b
import Derived.Test.YteifbbinfipdlaaAw
import Derived.Test.YteifbbinfipdlaaGc
namespace Go.Proofs.Yteifbbinfipdlaa
open Go.Sx
set_option linter.unusedSimpArgs false
set_option maxHeartbeats 4000000
set_option maxRecDepth 20000

def sumAw19 : Sum Try.prog := ⟨9, fun args => args = [], fun args => vb true, fun args h => by
  have := awake_ok; rwa [← h] at this, true⟩
theorem sumAw19_f : sumAw19.f = 9 := rfl
theorem sumAw19_D (args : List V) : sumAw19.D args = (args = []) := rfl
theorem sumAw19_flat : sumAw19.flat = true := rfl
theorem sumAw19_r (args : List V) : sumAw19.r args = vb true := rfl
attribute [go_sem] sumAw19_f sumAw19_D sumAw19_flat sumAw19_r
structure VlS where
  k : Nat
  ver : Nat
  clk : Nat
theorem take_cnt (l : List Cnt) (n : Nat) (h : n < l.length) : l.take (n + 1) = l.take n ++ [l.getD n .zero] := by
  rw [List.take_add_one, List.getD_eq_getElem?_getD, List.getElem?_eq_getElem h]; rfl
theorem given19_ok (l : List Cnt) (hl : l.length ≤ 1000000) : PCall Try.prog 16 [cnts l] (cnts l) := by
  refine PCall.of (Orc.nil _) c16_ok (by simp [c16]) fun w0 own0 => ?_
  simp only [c16, cnts, go_sem, wpR_gcall, reduceCtorEq, reduceIte, Nat.reduceEqDiff, Nat.reduceAdd, Nat.reduceSub, Nat.reduceMul, Nat.reduceLT, Nat.reduceLeDiff, Nat.reduceBEq, Int.reduceEq, Int.reduceLT, Int.reduceLE, Int.reduceAdd, Int.reduceSub, Int.reduceNeg, Int.reduceToNat]
  refine SemC.lp (α := VlS) (fun a => [(3, .ref 0 a.ver 0 a.k), (6, .slc 3 (l.map Cnt.enc)), (7, vi l.length), (8, vi a.k)])
    (fun a => ⟨[⟨a.ver, 3, (l.take a.k).map Cnt.enc, false, [vs ⟨#[]⟩, vi 0, vi 0]⟩], a.clk⟩) (fun a => a.k ≤ l.length) (fun a => l.length - a.k) ⟨0, 0, 1⟩ (Nat.zero_le _) (St.nil 3 3 [vs ⟨#[]⟩, vi 0, vi 0] (by simp [upd_at]) (St.cut ?_ ?_ ?_)) fun a ha => ?_
  · simp [Agrees, upd_at, initE_at]
  · simp [Heap.alloc]
  · rfl
  obtain ⟨k, ver, clk⟩ := a
  simp only at ha
  by_cases hk : k = l.length
  · subst hk
    simp only [Int.lt_irrefl, List.take_length, Nat.le_refl, mapO_cnts11, go_sem, wpR_gcall, reduceCtorEq, reduceIte, Nat.reduceEqDiff, Nat.reduceAdd, Nat.reduceSub, Nat.reduceMul, Nat.reduceLT, Nat.reduceLeDiff, Nat.reduceBEq, Int.reduceEq, Int.reduceLT, Int.reduceLE, Int.reduceAdd, Int.reduceSub, Int.reduceNeg, Int.reduceToNat]
  · have e1 : (k : Int) < (l.length : Int) := by omega
    have e0 : (0 : Int) ≤ (k : Int) := by omega
    have hg := getD_cnts l k
    have hs := take_cnt l k (by omega)
    have htl : (l.take k).length = k := by rw [List.length_take]; omega
    have htt : (l.take k).take k = l.take k := List.take_of_length_le (by omega)
    generalize l.getD k .zero = c at *
    simp only [e0, e1, hg, htl, htt, Cnt.enc, go_sem, wpR_gcall, reduceCtorEq, reduceIte, Nat.reduceEqDiff, Nat.reduceAdd, Nat.reduceSub, Nat.reduceMul, Nat.reduceLT, Nat.reduceLeDiff, Nat.reduceBEq, Int.reduceEq, Int.reduceLT, Int.reduceLE, Int.reduceAdd, Int.reduceSub, Int.reduceNeg, Int.reduceToNat]
    exact ⟨⟨by omega, by omega, by omega⟩, by omega, ⟨k + 1, _, _⟩, by dsimp only; omega, by dsimp only; omega, ⟨⟨rfl, rfl⟩, by dsimp only; omega⟩, ⟨rfl, by rw [hs]; simp [Cnt.enc]⟩, rfl⟩
def sumGiven19 : Sum Try.prog := ⟨16, fun args => args = [cnts (dCnts (args.getD 0 .any))] ∧ ((dCnts (args.getD 0 .any))).length ≤ 1000000, fun args => cnts (dCnts (args.getD 0 .any)), fun args h => by
  have := given19_ok (dCnts (args.getD 0 .any)) h.2; rwa [← h.1] at this, false⟩
theorem sumGiven19_f : sumGiven19.f = 16 := rfl
theorem sumGiven19_D (args : List V) : sumGiven19.D args = (args = [cnts (dCnts (args.getD 0 .any))] ∧ ((dCnts (args.getD 0 .any))).length ≤ 1000000) := rfl
theorem sumGiven19_flat : sumGiven19.flat = false := rfl
theorem sumGiven19_r (args : List V) : sumGiven19.r args = cnts (dCnts (args.getD 0 .any)) := rfl
attribute [go_sem] sumGiven19_f sumGiven19_D sumGiven19_flat sumGiven19_r
end Go.Proofs.Yteifbbinfipdlaa
