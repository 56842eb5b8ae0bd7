/- The laws of flows: points. -/
import Derived.Test.YtihkcnibffddgaaCe
import Derived.Test.YtihkcnibffddgaaF12e
import Derived.Test.YtihkcnibffddgaaF12c
namespace Go.Proofs.Ytihkcnibffddgaa
open Go.Sx
set_option linter.unusedSimpArgs false
set_option maxHeartbeats 4000000
set_option maxRecDepth 20000

theorem flowPoints_law (x : List V) (hl : x.length = 5) (h : ∀ i c, docC[i]? = some c → CellOK c (x.getD i .any)) : PCall Try.prog 7 [.agg x] (.c (.bool true)) := by
  obtain ⟨d, rfl⟩ := doc_of hl h
  refine PCall.of (Orc.cons sumFew12 (Orc.cons sumAwake12 (Orc.cons sumGiven (Orc.cons sumRightR (Orc.cons sumInA (Orc.cons sumKidsA (Orc.cons sumPoint (Orc.nil _)))))))) c7_ok (by simp [c7]) fun w0 own0 => ?_
  by_cases hf : few12 d = true
  · have hn := few12_len hf
    have hl : d.l.length ≤ 1000 := by omega
    by_cases hr : rightB d = true
    · have hok : okL d := ⟨rightB_ok hr, hl⟩
      have hinv : inV d = inL d := by unfold inV; rw [if_pos hr]
      have hil := inL_len d
      have hall := kids_all hok.1
      simp only [c7, Doc.enc, dDoc_mk, Doc.eta, hf, hl, hr, hinv, ints, on_gcall, off_gcall, flat_gcall, sumFew12_f, sumFew12_D, sumFew12_flat, sumFew12_r, sumAwake12_f, sumAwake12_D, sumAwake12_flat, sumAwake12_r, sumGiven_f, sumGiven_D, sumGiven_flat, sumGiven_r, sumRightR_f, sumRightR_D, sumRightR_flat, sumRightR_r, sumInA_f, sumInA_D, sumInA_flat, sumInA_r, sumKidsA_f, sumKidsA_D, sumKidsA_flat, sumKidsA_r, sumPoint_f, sumPoint_D, sumPoint_flat, sumPoint_r, go_sem, reduceCtorEq, reduceIte, Nat.reduceEqDiff, Nat.reduceAdd, Nat.reduceSub, Nat.reduceMul, Nat.reduceLT, Nat.reduceLeDiff, Nat.reduceBEq, Int.reduceEq, Int.reduceLT, Int.reduceLE, Int.reduceAdd, Int.reduceSub, Int.reduceNeg, Int.reduceToNat]
      refine SemC.lp (α := Nat) (fun i => [(1, .ptr 0 0 0 0), (3, vi (((inL d).take i).map fun x => (kids d x.toNat).length).sum), (19, .slc 1 ((inL d).map fun n => [vi n])), (20, vi (inL d).length), (21, vi i)]) (fun _ => ⟨[⟨0, 5, [d.enc], false, []⟩], 1⟩)
        (fun i => i ≤ (inL d).length ∧ (((inL d).take i).map fun x => (kids d x.toNat).length).sum ≤ i * 1000) (fun i => (inL d).length - i) 0 ⟨Nat.zero_le _, by simp⟩ (St.mk (by simp [Agrees, upd_at, initE_at, Doc.enc])) fun i hi => ?_
      obtain ⟨hi, hs⟩ := hi
      by_cases he : i = (inL d).length
      · subst he
        rw [List.take_length]
        have e1 : ((((inL d).map fun x => (kids d x.toNat).length).sum : Nat) : Int) = ((inL d).length : Int) - 1 := by omega
        rw [e1]
        simp only [Doc.enc, dDoc_mk, Doc.eta, hl, hinv, pt_zero, ints, Int.lt_irrefl, on_gcall, off_gcall, flat_gcall, sumFew12_f, sumFew12_D, sumFew12_flat, sumFew12_r, sumAwake12_f, sumAwake12_D, sumAwake12_flat, sumAwake12_r, sumGiven_f, sumGiven_D, sumGiven_flat, sumGiven_r, sumRightR_f, sumRightR_D, sumRightR_flat, sumRightR_r, sumInA_f, sumInA_D, sumInA_flat, sumInA_r, sumKidsA_f, sumKidsA_D, sumKidsA_flat, sumKidsA_r, sumPoint_f, sumPoint_D, sumPoint_flat, sumPoint_r, go_sem, reduceCtorEq, reduceIte, Nat.reduceEqDiff, Nat.reduceAdd, Nat.reduceSub, Nat.reduceMul, Nat.reduceLT, Nat.reduceLeDiff, Nat.reduceBEq, Int.reduceEq, Int.reduceLT, Int.reduceLE, Int.reduceAdd, Int.reduceSub, Int.reduceNeg, Int.reduceToNat]
        omega
      · have e1 : (i : Int) < ((inL d).length : Int) := by omega
        obtain ⟨_, m, q1, q2, q3⟩ := inV_at (d := d) (i := i) (by rw [hinv]; omega)
        rw [hinv] at q1
        have u4 := kdV_at hr q2 q3
        have hkl := kidsL d m
        have hst := sum_take (inL d) (fun x => (kids d x.toNat).length) i (by omega)
        rw [q1, Int.toNat_natCast] at hst
        generalize (((inL d).take i).map fun x => (kids d x.toNat).length).sum = S at *
        simp only [Doc.enc, dDoc_mk, Doc.eta, hl, e1, q1, u4, ints, sumFew12_f, sumFew12_D, sumFew12_flat, sumFew12_r, sumAwake12_f, sumAwake12_D, sumAwake12_flat, sumAwake12_r, sumGiven_f, sumGiven_D, sumGiven_flat, sumGiven_r, sumRightR_f, sumRightR_D, sumRightR_flat, sumRightR_r, sumInA_f, sumInA_D, sumInA_flat, sumInA_r, sumKidsA_f, sumKidsA_D, sumKidsA_flat, sumKidsA_r, sumPoint_f, sumPoint_D, sumPoint_flat, sumPoint_r, go_sem, wpR_gcall, reduceCtorEq, reduceIte, Nat.reduceEqDiff, Nat.reduceAdd, Nat.reduceSub, Nat.reduceMul, Nat.reduceLT, Nat.reduceLeDiff, Nat.reduceBEq, Int.reduceEq, Int.reduceLT, Int.reduceLE, Int.reduceAdd, Int.reduceSub, Int.reduceNeg, Int.reduceToNat]
        refine ⟨by omega, ?_⟩
        refine SemC.lp (α := Nat) (fun j => [(1, .ptr 0 0 0 0), (3, vi (S + j : Nat)), (19, .slc 1 ((inL d).map fun n => [vi n])), (20, vi (inL d).length), (21, vi i), (27, .slc 1 ((kids d m).map fun n => [vi n])), (28, vi (kids d m).length), (29, vi j)]) (fun _ => ⟨[⟨0, 5, [d.enc], false, []⟩], 1⟩)
          (fun j => j ≤ (kids d m).length) (fun j => (kids d m).length - j) 0 (Nat.zero_le _) (St.mk (by simp [Agrees, upd_at, ev_cons, Doc.enc])) fun j hj => ?_
        by_cases hje : j = (kids d m).length
        · subst hje
          simp only [Doc.enc, Int.lt_irrefl, go_sem, wpR_gcall, reduceCtorEq, reduceIte, Nat.reduceEqDiff, Nat.reduceAdd, Nat.reduceSub, Nat.reduceMul, Nat.reduceLT, Nat.reduceLeDiff, Nat.reduceBEq, Int.reduceEq, Int.reduceLT, Int.reduceLE, Int.reduceAdd, Int.reduceSub, Int.reduceNeg, Int.reduceToNat]
          refine ⟨by omega, i + 1, ⟨by omega, by rw [hst]; omega⟩, by omega, by rw [hst], by omega⟩
        · have e2 : (j : Int) < ((kids d m).length : Int) := by omega
          obtain ⟨c, r1, r2, r3, r4⟩ := kid_at hok.1 hr q2 q3 (show j < (kids d m).length by omega)
          simp only [Doc.enc, dDoc_mk, Doc.eta, hl, e2, r1, r4, ints, sumFew12_f, sumFew12_D, sumFew12_flat, sumFew12_r, sumAwake12_f, sumAwake12_D, sumAwake12_flat, sumAwake12_r, sumGiven_f, sumGiven_D, sumGiven_flat, sumGiven_r, sumRightR_f, sumRightR_D, sumRightR_flat, sumRightR_r, sumInA_f, sumInA_D, sumInA_flat, sumInA_r, sumKidsA_f, sumKidsA_D, sumKidsA_flat, sumKidsA_r, sumPoint_f, sumPoint_D, sumPoint_flat, sumPoint_r, go_sem, wpR_gcall, reduceCtorEq, reduceIte, Nat.reduceEqDiff, Nat.reduceAdd, Nat.reduceSub, Nat.reduceMul, Nat.reduceLT, Nat.reduceLeDiff, Nat.reduceBEq, Int.reduceEq, Int.reduceLT, Int.reduceLE, Int.reduceAdd, Int.reduceSub, Int.reduceNeg, Int.reduceToNat]
          refine ⟨by omega, by omega, by omega, j + 1, by omega, by omega, by omega, by omega⟩
    · simp only [c7, Doc.enc, dDoc_mk, Doc.eta, hf, hl, hr, ints, on_gcall, off_gcall, flat_gcall, sumFew12_f, sumFew12_D, sumFew12_flat, sumFew12_r, sumAwake12_f, sumAwake12_D, sumAwake12_flat, sumAwake12_r, sumGiven_f, sumGiven_D, sumGiven_flat, sumGiven_r, sumRightR_f, sumRightR_D, sumRightR_flat, sumRightR_r, sumInA_f, sumInA_D, sumInA_flat, sumInA_r, sumKidsA_f, sumKidsA_D, sumKidsA_flat, sumKidsA_r, sumPoint_f, sumPoint_D, sumPoint_flat, sumPoint_r, go_sem, reduceCtorEq, reduceIte, Nat.reduceEqDiff, Nat.reduceAdd, Nat.reduceSub, Nat.reduceMul, Nat.reduceLT, Nat.reduceLeDiff, Nat.reduceBEq, Int.reduceEq, Int.reduceLT, Int.reduceLE, Int.reduceAdd, Int.reduceSub, Int.reduceNeg, Int.reduceToNat]
  · simp only [c7, Doc.enc, dDoc_mk, Doc.eta, hf, on_gcall, off_gcall, flat_gcall, sumFew12_f, sumFew12_D, sumFew12_flat, sumFew12_r, sumAwake12_f, sumAwake12_D, sumAwake12_flat, sumAwake12_r, sumGiven_f, sumGiven_D, sumGiven_flat, sumGiven_r, sumRightR_f, sumRightR_D, sumRightR_flat, sumRightR_r, sumInA_f, sumInA_D, sumInA_flat, sumInA_r, sumKidsA_f, sumKidsA_D, sumKidsA_flat, sumKidsA_r, sumPoint_f, sumPoint_D, sumPoint_flat, sumPoint_r, go_sem, reduceCtorEq, reduceIte, Nat.reduceEqDiff, Nat.reduceAdd, Nat.reduceSub, Nat.reduceMul, Nat.reduceLT, Nat.reduceLeDiff, Nat.reduceBEq, Int.reduceEq, Int.reduceLT, Int.reduceLE, Int.reduceAdd, Int.reduceSub, Int.reduceNeg, Int.reduceToNat]
end Go.Proofs.Ytihkcnibffddgaa
