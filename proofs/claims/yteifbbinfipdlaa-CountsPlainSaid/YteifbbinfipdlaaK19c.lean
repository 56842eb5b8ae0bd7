/- Layer 19: the numbers of the counters of a name; the law. -/
import Derived.Test.YteifbbinfipdlaaK19b
import Derived.Test.YteifbbinfipdlaaAw
import Derived.Test.YteifbbinfipdlaaGc
namespace Go.Proofs.Yteifbbinfipdlaa
open Go.Sx
set_option linter.unusedSimpArgs false
set_option maxHeartbeats 4000000
set_option maxRecDepth 20000

def sumAw19 : Sum Try.prog := ⟨9, fun args => args = [], fun args => vb true, fun args h => by
  have := awake_ok; rwa [← h] at this, true⟩
theorem sumAw19_f : sumAw19.f = 9 := rfl
theorem sumAw19_D (args : List V) : sumAw19.D args = (args = []) := rfl
theorem sumAw19_flat : sumAw19.flat = true := rfl
theorem sumAw19_r (args : List V) : sumAw19.r args = vb true := rfl
attribute [go_sem] sumAw19_f sumAw19_D sumAw19_flat sumAw19_r
def valsT (l : List Cnt) (nm : ByteArray) (k : Nat) : List Int := ((l.take k).filter fun c => decide (c.name = nm)).map (·.n)
def valsC (l : List Cnt) (nm : ByteArray) : List Int := if valsT l nm l.length = [] then [0] else valsT l nm l.length
theorem valsT_succ (l : List Cnt) (nm : ByteArray) (k : Nat) (hk : k < l.length) : valsT l nm (k + 1) = if (l.getD k .zero).name = nm then valsT l nm k ++ [(l.getD k .zero).n] else valsT l nm k := by
  unfold valsT
  rw [List.take_add_one, List.getD_eq_getElem?_getD, List.getElem?_eq_getElem hk, List.filter_append, List.map_append]
  simp only [Option.getD_some, Option.toList_some]
  by_cases h : l[k].name = nm
  · rw [if_pos h, List.filter_cons_of_pos (by simpa using h)]; rfl
  · rw [if_neg h, List.filter_cons_of_neg (by simpa using h)]; simp
theorem valsT_len (l : List Cnt) (nm : ByteArray) (k : Nat) : (valsT l nm k).length ≤ k := by
  unfold valsT
  rw [List.length_map]
  exact Nat.le_trans (List.length_filter_le _ _) (by rw [List.length_take]; omega)
theorem valsC_len (l : List Cnt) (nm : ByteArray) : 0 < (valsC l nm).length ∧ (valsC l nm).length ≤ l.length + 1 := by
  unfold valsC
  split
  · exact ⟨by simp, by simp⟩
  · rename_i h
    have := valsT_len l nm l.length
    exact ⟨List.length_pos_iff.2 h, by omega⟩
structure VlS where
  k : Nat
  ver : Nat
  clk : Nat
theorem values_ok (l : List Cnt) (nm : ByteArray) (hl : l.length ≤ 1000000) : PCall Try.prog 17 [cnts l, vs nm] (ints (valsC l nm)) := by
  refine PCall.of (Orc.nil _) c17_ok (by simp [c17]) fun w0 own0 => ?_
  simp only [c17, cnts, go_sem, wpR_gcall, reduceCtorEq, reduceIte, Nat.reduceEqDiff, Nat.reduceAdd, Nat.reduceSub, Nat.reduceMul, Nat.reduceLT, Nat.reduceLeDiff, Nat.reduceBEq, Int.reduceEq, Int.reduceLT, Int.reduceLE, Int.reduceAdd, Int.reduceSub, Int.reduceNeg, Int.reduceToNat]
  refine SemC.lp (α := VlS) (fun a => [(1, vs nm), (5, .ref 0 a.ver 0 (valsT l nm a.k).length), (8, .slc 3 (l.map Cnt.enc)), (9, vi l.length), (10, vi a.k)])
    (fun a => ⟨[⟨a.ver, 1, (valsT l nm a.k).map fun n => [vi n], false, [vi 0]⟩], a.clk⟩) (fun a => a.k ≤ l.length) (fun a => l.length - a.k) ⟨0, 0, 1⟩ (Nat.zero_le _) (St.nil 5 1 [vi 0] (by simp [upd_at]) (St.cut ?_ ?_ ?_)) fun a ha => ?_
  · simp [Agrees, upd_at, initE_at, valsT]
  · simp [Heap.alloc, valsT]
  · rfl
  obtain ⟨k, ver, clk⟩ := a
  simp only at ha
  have hvl := valsT_len l nm k
  by_cases hk : k = l.length
  · subst hk
    have hz : valsC l nm = if valsT l nm l.length = [] then [0] else valsT l nm l.length := rfl
    rw [hz]
    clear hz
    generalize valsT l nm l.length = out at *
    cases out with
    | nil => simp only [Int.lt_irrefl, ints, List.length_nil, go_sem, wpR_gcall, reduceCtorEq, reduceIte, Nat.reduceEqDiff, Nat.reduceAdd, Nat.reduceSub, Nat.reduceMul, Nat.reduceLT, Nat.reduceLeDiff, Nat.reduceBEq, Int.reduceEq, Int.reduceLT, Int.reduceLE, Int.reduceAdd, Int.reduceSub, Int.reduceNeg, Int.reduceToNat]
    | cons x xs =>
      have e0 := eq_false (show ¬ ((xs.length + 1 : Nat) : Int) = 0 by omega)
      have e9 : (x :: xs = []) = False := eq_false (by simp)
      have htk : List.take (xs.length + 1) (x :: xs) = x :: xs := List.take_of_length_le (by simp)
      simp only [Int.lt_irrefl, ints, e0, e9, List.length_cons, Nat.le_refl, List.map_cons, go_sem, wpR_gcall, reduceCtorEq, reduceIte, Nat.reduceEqDiff, Nat.reduceAdd, Nat.reduceSub, Nat.reduceMul, Nat.reduceLT, Nat.reduceLeDiff, Nat.reduceBEq, Int.reduceEq, Int.reduceLT, Int.reduceLE, Int.reduceAdd, Int.reduceSub, Int.reduceNeg, Int.reduceToNat]
      rw [List.take_length]
  · have e1 : (k : Int) < (l.length : Int) := by omega
    have e0 : (0 : Int) ≤ (k : Int) := by omega
    have hg := getD_cnts l k
    have hs := valsT_succ l nm k (by omega)
    have htk : (valsT l nm k).take (valsT l nm k).length = valsT l nm k := List.take_length
    generalize l.getD k .zero = c at *
    by_cases hn : c.name = nm
    · rw [if_pos hn] at hs
      have hn := eq_true hn
      simp only [e0, e1, hg, hn, htk, Cnt.enc, go_sem, wpR_gcall, reduceCtorEq, reduceIte, Nat.reduceEqDiff, Nat.reduceAdd, Nat.reduceSub, Nat.reduceMul, Nat.reduceLT, Nat.reduceLeDiff, Nat.reduceBEq, Int.reduceEq, Int.reduceLT, Int.reduceLE, Int.reduceAdd, Int.reduceSub, Int.reduceNeg, Int.reduceToNat]
      exact ⟨⟨Nat.le_refl _, by omega, by omega⟩, by omega, ⟨k + 1, _, _⟩, by dsimp only; omega, by dsimp only; omega, ⟨⟨rfl, by rw [hs]; simp⟩, by dsimp only; omega⟩, ⟨rfl, by rw [hs]; simp⟩, rfl⟩
    · rw [if_neg hn] at hs
      have hn := eq_false hn
      simp only [e0, e1, hg, hn, htk, Cnt.enc, go_sem, wpR_gcall, reduceCtorEq, reduceIte, Nat.reduceEqDiff, Nat.reduceAdd, Nat.reduceSub, Nat.reduceMul, Nat.reduceLT, Nat.reduceLeDiff, Nat.reduceBEq, Int.reduceEq, Int.reduceLT, Int.reduceLE, Int.reduceAdd, Int.reduceSub, Int.reduceNeg, Int.reduceToNat]
      exact ⟨by omega, ⟨k + 1, ver, _⟩, by dsimp only; omega, by dsimp only; omega, ⟨⟨rfl, by rw [hs]⟩, by dsimp only; omega⟩, ⟨rfl, by rw [hs]⟩, rfl⟩
def sumVals : Sum Try.prog := ⟨17, fun args => args = [cnts (dCnts (args.getD 0 .any)), vs ((args.getD 1 .any).str)] ∧ ((dCnts (args.getD 0 .any))).length ≤ 1000000, fun args => ints (valsC (dCnts (args.getD 0 .any)) ((args.getD 1 .any).str)), fun args h => by
  have := values_ok (dCnts (args.getD 0 .any)) ((args.getD 1 .any).str) h.2; rwa [← h.1] at this, false⟩
theorem sumVals_f : sumVals.f = 17 := rfl
theorem sumVals_D (args : List V) : sumVals.D args = (args = [cnts (dCnts (args.getD 0 .any)), vs ((args.getD 1 .any).str)] ∧ ((dCnts (args.getD 0 .any))).length ≤ 1000000) := rfl
theorem sumVals_flat : sumVals.flat = false := rfl
theorem sumVals_r (args : List V) : sumVals.r args = ints (valsC (dCnts (args.getD 0 .any)) ((args.getD 1 .any).str)) := rfl
attribute [go_sem] sumVals_f sumVals_D sumVals_flat sumVals_r
theorem value_ok (l : List Cnt) (nm : ByteArray) (hl : l.length ≤ 1000000) : PCall Try.prog 19 [cnts l, vs nm] (vi ((valsC l nm).getD ((valsC l nm).length - 1) 0)) := by
  refine PCall.of (Orc.cons sumVals (Orc.nil _)) c19_ok (by simp [c19]) fun w0 own0 => ?_
  obtain ⟨h1, h2⟩ := valsC_len l nm
  have e1 : ((valsC l nm).length : Int) - 1 < ((valsC l nm).length : Int) := by omega
  have e0 : (0 : Int) ≤ ((valsC l nm).length : Int) - 1 := by omega
  have e2 : (((valsC l nm).length : Int) - 1).toNat = (valsC l nm).length - 1 := by omega
  have o1 := eq_true (show ((valsC l nm).length : Int) - 1 ≤ 9223372036854775807 by omega)
  have o2 := eq_true (show -9223372036854775808 ≤ ((valsC l nm).length : Int) - 1 by omega)
  simp only [c19, cnts, dCnts_map, hl, ints, e0, e1, e2, o1, o2, go_sem, wpR_gcall, reduceCtorEq, reduceIte, Nat.reduceEqDiff, Nat.reduceAdd, Nat.reduceSub, Nat.reduceMul, Nat.reduceLT, Nat.reduceLeDiff, Nat.reduceBEq, Int.reduceEq, Int.reduceLT, Int.reduceLE, Int.reduceAdd, Int.reduceSub, Int.reduceNeg, Int.reduceToNat]
  done
def sumValue : Sum Try.prog := ⟨19, fun args => args = [cnts (dCnts (args.getD 0 .any)), vs ((args.getD 1 .any).str)] ∧ ((dCnts (args.getD 0 .any))).length ≤ 1000000, fun args => vi ((valsC (dCnts (args.getD 0 .any)) ((args.getD 1 .any).str)).getD ((valsC (dCnts (args.getD 0 .any)) ((args.getD 1 .any).str)).length - 1) 0), fun args h => by
  have := value_ok (dCnts (args.getD 0 .any)) ((args.getD 1 .any).str) h.2; rwa [← h.1] at this, true⟩
theorem sumValue_f : sumValue.f = 19 := rfl
theorem sumValue_D (args : List V) : sumValue.D args = (args = [cnts (dCnts (args.getD 0 .any)), vs ((args.getD 1 .any).str)] ∧ ((dCnts (args.getD 0 .any))).length ≤ 1000000) := rfl
theorem sumValue_flat : sumValue.flat = true := rfl
theorem sumValue_r (args : List V) : sumValue.r args = vi ((valsC (dCnts (args.getD 0 .any)) ((args.getD 1 .any).str)).getD ((valsC (dCnts (args.getD 0 .any)) ((args.getD 1 .any).str)).length - 1) 0) := rfl
attribute [go_sem] sumValue_f sumValue_D sumValue_flat sumValue_r
theorem take_cnt (l : List Cnt) (n : Nat) (h : n < l.length) : l.take (n + 1) = l.take n ++ [l.getD n .zero] := by
  rw [List.take_add_one, List.getD_eq_getElem?_getD, List.getElem?_eq_getElem h]; rfl
end Go.Proofs.Yteifbbinfipdlaa
