/- Layer 19: a copy of counters; the law's own example. -/
import Derived.Test.YteifbbinfipdlaaK19a
import Derived.Test.YteifbbinfipdlaaEv
namespace Go.Proofs.Yteifbbinfipdlaa
open Go.Sx
set_option linter.unusedSimpArgs false
set_option maxHeartbeats 4000000
set_option maxRecDepth 20000

theorem PRep.nilC {F : Nat → Prop} {w : World} {v : Value} (sz : Nat) (h : PRep F w v vnil) : PRep F w v (.slc sz []) := by
  cases h
  exact .slc none 0 0 sz [] 0 0 (fun _ _ => undef) rfl (Nat.le_refl _) (by simp) (by simp) (by simp) (by simp)
theorem mapO_cnts11 (S : Nat → Bool) (h : Heap) (l : List Cnt) : mapO (mapO (res S h 11)) (l.map Cnt.enc) = some (l.map Cnt.enc) := mapO_flat S h 10 _ (fun _ => rfl) l
theorem mapO_cntE (S : Nat → Bool) (h : Heap) (c : Cnt) : mapO (res S h 11) c.enc = some c.enc := rfl
theorem cloneC_c (a : Option Addr) (cap : Nat) : PCall Try.prog 41 [.c (.slice a 0 cap)] (.slc 3 []) := by
  cases a with
  | none =>
    refine PCall.rsub (r := vnil) ?_ fun F w v h => PRep.nilC 3 h
    refine PCall.of (Orc.nil _) c41_ok (by simp [c41]) fun w0 own0 => ?_
    simp only [c41, Heap.nilV, Option.isNone_none, go_sem, wpR_gcall, reduceCtorEq, reduceIte, Nat.reduceEqDiff, Nat.reduceAdd, Nat.reduceSub, Nat.reduceMul, Nat.reduceLT, Nat.reduceLeDiff, Nat.reduceBEq, Int.reduceEq, Int.reduceLT, Int.reduceLE, Int.reduceAdd, Int.reduceSub, Int.reduceNeg, Int.reduceToNat]
  | some a =>
    refine PCall.of (Orc.nil _) c41_ok (by simp [c41]) fun w0 own0 => ?_
    simp only [c41, Heap.nilV, Option.isNone_some, go_sem, wpR_gcall, reduceCtorEq, reduceIte, Nat.reduceEqDiff, Nat.reduceAdd, Nat.reduceSub, Nat.reduceMul, Nat.reduceLT, Nat.reduceLeDiff, Nat.reduceBEq, Int.reduceEq, Int.reduceLT, Int.reduceLE, Int.reduceAdd, Int.reduceSub, Int.reduceNeg, Int.reduceToNat]
theorem cloneC_ok (l : List Cnt) (hl : l.length ≤ 1000000) : PCall Try.prog 41 [cnts l] (cnts l) := by
  cases l with
  | nil =>
    refine ⟨(compF_ok c41_ok).1, fun F w cargs hF hs hp => ?_⟩
    have hv := hp 0 (by simp)
    simp only [List.getD_cons_zero, cnts, List.map_nil] at hv
    generalize hcv : cargs.getD 0 undef = cv at hv
    cases hv with
    | slc a n cap sz es b' o' ys hn' hc hsz ha hy hry =>
    simp only [List.length_nil] at hn'
    subst hn'
    refine (cloneC_c a cap).2 F w cargs hF hs fun i hi => ?_
    match i, hi with
    | 0, _ => rw [hcv]; exact .c _
    | i + 1, hi => exact absurd hi (by simp)
  | cons c l =>
    refine PCall.of (Orc.nil _) c41_ok (by simp [c41]) fun w0 own0 => ?_
    have h1 := eq_true (show (c :: l).length ≤ 1099511627776 by omega)
    have h2 := eq_true (show (c :: l).length * 32 ≤ 140737488355328 by omega)
    simp only [List.length_cons] at h1 h2
    simp only [c41, cnts, Heap.nilV, h1, h2, List.map_cons, Nat.le_refl, List.take_length, mapO_cnts11, mapO_cntE, go_sem, wpR_gcall, reduceCtorEq, reduceIte, Nat.reduceEqDiff, Nat.reduceAdd, Nat.reduceSub, Nat.reduceMul, Nat.reduceLT, Nat.reduceLeDiff, Nat.reduceBEq, Int.reduceEq, Int.reduceLT, Int.reduceLE, Int.reduceAdd, Int.reduceSub, Int.reduceNeg, Int.reduceToNat]
/-- What is known beforehand, for the run of the law's own example. -/
def cloneX (f : FuncId) (args : List V) : Option V :=
  match args with
  | [.slc 3 es] =>
    match decide (f = 41) && decide (es.length ≤ 1000000), mapO decCnt es with
    | true, some l => some (cnts l)
    | _, _ => none
  | _ => none
theorem cloneX_ok (f : FuncId) (args : List V) (r : V) (h : cloneX f args = some r) : PCall Try.prog f args r := by
  unfold cloneX at h
  split at h
  · rename_i es
    split at h
    · rename_i l hc hl
      obtain rfl := Option.some.inj h
      simp only [Bool.and_eq_true, decide_eq_true_eq] at hc
      obtain ⟨rfl, hc⟩ := hc
      have := decCnts_ok hl
      subst this
      rw [List.length_map] at hc
      exact cloneC_ok l hc
    · cases h
  · cases h
def xt19 : Xt Try.prog := ⟨fun f args => match lastX f args with | some r => some r | none => cloneX f args, fun f args r h => by
  split at h
  · rename_i r' hr
    obtain rfl := Option.some.inj h
    exact lastX_ok _ _ _ hr
  · exact cloneX_ok _ _ _ h⟩
end Go.Proofs.Yteifbbinfipdlaa
