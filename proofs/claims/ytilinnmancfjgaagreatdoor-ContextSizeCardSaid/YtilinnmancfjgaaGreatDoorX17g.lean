/- The law of layer 17: the size that any tokens are is the document's. -/
import Derived.Test.YtilinnmancfjgaaGreatDoorX17f
import Derived.Test.YtilinnmancfjgaaGreatDoorR6a
import Derived.Test.YtilinnmancfjgaaGreatDoorAw
import Derived.LaidMore
import Derived.OpenShut
import Derived.FnData
namespace Go.Proofs.YtilinnmancfjgaaGreatDoor
open Go.Sx
set_option linter.unusedSimpArgs false
set_option linter.unusedVariables false
set_option maxHeartbeats 8000000
set_option maxRecDepth 100000

def sumAw17 : Sum Tryz.prog := ⟨5, fun args => args = [], fun args => vb true, fun args h => by
  have := awake_ok; rwa [← h] at this, true⟩
theorem sumAw17_f : sumAw17.f = 5 := rfl
theorem sumAw17_D (args : List V) : sumAw17.D args = (args = []) := rfl
theorem sumAw17_flat : sumAw17.flat = true := rfl
theorem sumAw17_r (args : List V) : sumAw17.r args = vb true := rfl
attribute [go_sem] sumAw17_f sumAw17_D sumAw17_flat sumAw17_r
theorem few_txt {v : List Tok} (h : few v = true) : txtOK v := by
  unfold few at h; rw [decide_eq_true_eq] at h
  refine ⟨by omega, fun t ht => ?_⟩
  obtain ⟨i, hi, rfl⟩ := mem_getD6 (d := Tok.zero) ht
  have := h.2 i hi; omega
theorem contextSize_law (x : V) (hx : CellOK (.slc tokC6) x) : PCall Tryz.prog 3 [x] (.c (.bool true)) := by
  obtain ⟨v, rfl, _⟩ := toks6_of hx
  refine PCall.of (Orc.cons sumFew4 (Orc.cons sumAw17 (Orc.cons sumSiz (Orc.cons sumSizR (Orc.nil _))))) c3_ok (by simp [c3]) fun w0 own0 => ?_
  cases hf : few v with
  | false => simp -implicitDefEqProofs only [c3, toks, dToks_map, hf, on_gcall, off_gcall, flat_gcall, wpC_seq_xreg, wpC_xreg, wpXR_nil, wpXR_own, wpXR_flu, xeOK, xe, argTops, openArgs, Orc.ppre_cons, Orc.pr_cons, Orc.ppre_econs, Orc.pr_econs, Orc.ppre_fcons, Orc.pr_fcons, Orc.ppre_gcons, Orc.pr_gcons, List.head?_cons, List.headD_cons, XE.val, XE.heap, efO, shutArgs, xfoot, footO, V.tops, V.top1, clashOne, noClash, Orc.flat_fcons, Orc.pre_fcons, Orc.v_fcons, Orc.hp_fcons, Orc.qpre_fcons, Orc.qv_fcons, Orc.fpre_fcons, Orc.fes_fcons, Orc.flat_gcons, Orc.pre_gcons, Orc.v_gcons, Orc.hp_gcons, Orc.qpre_gcons, Orc.qv_gcons, Orc.fpre_gcons, Orc.fes_gcons, GSum.pre, GSum.v, GSum.hp, Orc.fpre_cons, Orc.fes_cons, Orc.fpre_econs, Orc.fes_econs, FSum.pre, FSum.v, FSum.hp, fres, O.calls, List.flatMap_cons, List.flatMap_nil, List.contains_cons, List.contains_nil, Bool.not_true, Bool.not_false, Heap.freeze, List.mapIdx_cons, List.mapIdx_nil, List.elem_cons, List.elem_nil, fluP, fluV, evF, bne_iff_ne, ne_eq, Option.some.injEq, sumFew4_f, sumFew4_D, sumFew4_flat, sumFew4_r, go_sem, reduceCtorEq, reduceIte, Nat.reduceEqDiff, Nat.reduceAdd, Nat.reduceSub, Nat.reduceMul, Nat.reduceLT, Nat.reduceLeDiff, Nat.reduceBEq, Int.reduceEq, Int.reduceLT, Int.reduceLE, Int.reduceAdd, Int.reduceSub, Int.reduceNeg, Int.reduceToNat]
  | true =>
    have ht := few_txt hf
    have he := size17_eq v
    simp -implicitDefEqProofs only [c3, toks, dToks_map, hf, ht, he, sizV, decide_true, Bool.true_and, on_gcall, off_gcall, flat_gcall, wpC_seq_xreg, wpC_xreg, wpXR_nil, wpXR_own, wpXR_flu, xeOK, xe, argTops, openArgs, Orc.ppre_cons, Orc.pr_cons, Orc.ppre_econs, Orc.pr_econs, Orc.ppre_fcons, Orc.pr_fcons, Orc.ppre_gcons, Orc.pr_gcons, List.head?_cons, List.headD_cons, XE.val, XE.heap, efO, shutArgs, xfoot, footO, V.tops, V.top1, clashOne, noClash, Orc.flat_fcons, Orc.pre_fcons, Orc.v_fcons, Orc.hp_fcons, Orc.qpre_fcons, Orc.qv_fcons, Orc.fpre_fcons, Orc.fes_fcons, Orc.flat_gcons, Orc.pre_gcons, Orc.v_gcons, Orc.hp_gcons, Orc.qpre_gcons, Orc.qv_gcons, Orc.fpre_gcons, Orc.fes_gcons, GSum.pre, GSum.v, GSum.hp, Orc.fpre_cons, Orc.fes_cons, Orc.fpre_econs, Orc.fes_econs, FSum.pre, FSum.v, FSum.hp, fres, O.calls, List.flatMap_cons, List.flatMap_nil, List.contains_cons, List.contains_nil, Bool.not_true, Bool.not_false, Heap.freeze, List.mapIdx_cons, List.mapIdx_nil, List.elem_cons, List.elem_nil, fluP, fluV, evF, bne_iff_ne, ne_eq, Option.some.injEq, sumFew4_f, sumFew4_D, sumFew4_flat, sumFew4_r, go_sem, reduceCtorEq, reduceIte, Nat.reduceEqDiff, Nat.reduceAdd, Nat.reduceSub, Nat.reduceMul, Nat.reduceLT, Nat.reduceLeDiff, Nat.reduceBEq, Int.reduceEq, Int.reduceLT, Int.reduceLE, Int.reduceAdd, Int.reduceSub, Int.reduceNeg, Int.reduceToNat]
end Go.Proofs.YtilinnmancfjgaaGreatDoor
