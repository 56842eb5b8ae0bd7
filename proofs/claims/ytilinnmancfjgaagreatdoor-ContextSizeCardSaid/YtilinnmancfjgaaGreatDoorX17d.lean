/- Layer 17: a size. -/
import Derived.Test.YtilinnmancfjgaaGreatDoorX17c
import Derived.Test.YtilinnmancfjgaaGreatDoorV7p
namespace Go.Proofs.YtilinnmancfjgaaGreatDoor
open Go.Sx
set_option linter.unusedSimpArgs false
set_option linter.unusedVariables false
set_option maxHeartbeats 8000000
set_option maxRecDepth 100000

def minV : List Int → Int
  | [] => 0
  | x :: l => minL x l
theorem minV_ok (l : List Int) (h0 : l ≠ []) (hl : l.length ≤ 1000000) : PCall Tryz.prog 14 [ints l] (vi (minV l)) := by
  cases l with
  | nil => exact absurd rfl h0
  | cons x l => exact minS_ok x l hl
def sumMin : Sum Tryz.prog := ⟨14, fun args => args = [ints (dInts (args.getD 0 .any))] ∧ ¬ (dInts (args.getD 0 .any)) = [] ∧ ((dInts (args.getD 0 .any))).length ≤ 1000000, fun args => vi (minV (dInts (args.getD 0 .any))), fun args h => by
  have := minV_ok (dInts (args.getD 0 .any)) h.2.1 h.2.2; rwa [← h.1] at this, true⟩
theorem sumMin_f : sumMin.f = 14 := rfl
theorem sumMin_D (args : List V) : sumMin.D args = (args = [ints (dInts (args.getD 0 .any))] ∧ ¬ (dInts (args.getD 0 .any)) = [] ∧ ((dInts (args.getD 0 .any))).length ≤ 1000000) := rfl
theorem sumMin_flat : sumMin.flat = true := rfl
theorem sumMin_r (args : List V) : sumMin.r args = vi (minV (dInts (args.getD 0 .any))) := rfl
attribute [go_sem] sumMin_f sumMin_D sumMin_flat sumMin_r
def sizO (k : List Tok) : Option (Int × Int) :=
  if (nmR k).2 = true then some (nmR k).1
  else match lnsO k with
    | some l => if k.length ≤ 2 ∧ 0 < minV l then some (l.getD 0 0, l.getD 1 0) else none
    | none => none
def sizV (o : Option (Int × Int)) : V := .tup [vi (o.getD (0, 0)).1, vi (o.getD (0, 0)).2, vb o.isSome]
theorem kpT_txt {v : List Tok} (h : txtOK v) : txtOK (kpT v) ∧ okT (kpT v) := by
  have h1 : (kpT v).length ≤ 1000000 := Nat.le_trans (kpT_len v) h.1
  have h2 : ∀ t ∈ kpT v, t.text.size ≤ 1000000 := fun t ht => h.2 t (List.mem_filter.1 ht).1
  exact ⟨⟨h1, h2⟩, ⟨h1, h2⟩⟩
theorem four_len {l : List Int} (h : 1 ≤ l.length) (h4 : l.length ≤ 4) : (fourL l).length = 4 := by
  match l, h, h4 with
  | [_], _, _ => rfl
  | [_, _], _, _ => rfl
  | [_, _, _], _, _ => rfl
  | [_, _, _, _], _, _ => rfl
theorem lnsO_four {k : List Tok} {l : List Int} (h : lnsO k = some l) : l.length = 4 := by
  unfold lnsO at h
  split at h
  · rename_i hc
    simp only [Option.map_eq_some_iff] at h
    obtain ⟨n, hn, rfl⟩ := h
    have := lnsL_len _ _ hn
    exact four_len (by omega) (by omega)
  · cases h
theorem size_ok (v : List Tok) (hv : txtOK v) : PCall Tryz.prog 6 [toks v] (sizV (sizO (kpT v))) := by
  obtain ⟨hk1, hk2⟩ := kpT_txt hv
  have hvl := hv.1
  refine PCall.of (Orc.cons sumBare (Orc.cons sumNam17 (Orc.cons sumLns (Orc.cons sumMin (Orc.nil _))))) c6_ok (by simp [c6]) fun w0 own0 => ?_
  unfold sizO
  cases hn : (nmR (kpT v)).2 with
  | true =>
    rw [if_pos rfl]
    simp -implicitDefEqProofs only [c6, toks, dToks_map, hvl, hk1, hk2, nmV, hn, sizV, Option.getD_some, Option.isSome_some, Option.getD_none, Option.isSome_none, on_gcall, off_gcall, flat_gcall, wpC_seq_xreg, wpC_xreg, wpXR_nil, wpXR_own, wpXR_flu, xeOK, xe, argTops, openArgs, Orc.ppre_cons, Orc.pr_cons, Orc.ppre_econs, Orc.pr_econs, Orc.ppre_fcons, Orc.pr_fcons, Orc.ppre_gcons, Orc.pr_gcons, List.head?_cons, List.headD_cons, XE.val, XE.heap, efO, shutArgs, xfoot, footO, V.tops, V.top1, clashOne, noClash, Orc.flat_fcons, Orc.pre_fcons, Orc.v_fcons, Orc.hp_fcons, Orc.qpre_fcons, Orc.qv_fcons, Orc.fpre_fcons, Orc.fes_fcons, Orc.flat_gcons, Orc.pre_gcons, Orc.v_gcons, Orc.hp_gcons, Orc.qpre_gcons, Orc.qv_gcons, Orc.fpre_gcons, Orc.fes_gcons, GSum.pre, GSum.v, GSum.hp, Orc.fpre_cons, Orc.fes_cons, Orc.fpre_econs, Orc.fes_econs, FSum.pre, FSum.v, FSum.hp, fres, O.calls, List.flatMap_cons, List.flatMap_nil, List.contains_cons, List.contains_nil, Bool.not_true, Bool.not_false, Heap.freeze, List.mapIdx_cons, List.mapIdx_nil, List.elem_cons, List.elem_nil, fluP, fluV, evF, bne_iff_ne, ne_eq, Option.some.injEq, go_sem, reduceCtorEq, reduceIte, Nat.reduceEqDiff, Nat.reduceAdd, Nat.reduceSub, Nat.reduceMul, Nat.reduceLT, Nat.reduceLeDiff, Nat.reduceBEq, Int.reduceEq, Int.reduceLT, Int.reduceLE, Int.reduceAdd, Int.reduceSub, Int.reduceNeg, Int.reduceToNat]
  | false =>
    rw [if_neg (by simp)]
    cases hL : lnsO (kpT v) with
    | none =>
      simp -implicitDefEqProofs only [hL, lnsV, ints, List.map_nil, c6, toks, dToks_map, hvl, hk1, hk2, nmV, hn, sizV, Option.getD_some, Option.isSome_some, Option.getD_none, Option.isSome_none, on_gcall, off_gcall, flat_gcall, wpC_seq_xreg, wpC_xreg, wpXR_nil, wpXR_own, wpXR_flu, xeOK, xe, argTops, openArgs, Orc.ppre_cons, Orc.pr_cons, Orc.ppre_econs, Orc.pr_econs, Orc.ppre_fcons, Orc.pr_fcons, Orc.ppre_gcons, Orc.pr_gcons, List.head?_cons, List.headD_cons, XE.val, XE.heap, efO, shutArgs, xfoot, footO, V.tops, V.top1, clashOne, noClash, Orc.flat_fcons, Orc.pre_fcons, Orc.v_fcons, Orc.hp_fcons, Orc.qpre_fcons, Orc.qv_fcons, Orc.fpre_fcons, Orc.fes_fcons, Orc.flat_gcons, Orc.pre_gcons, Orc.v_gcons, Orc.hp_gcons, Orc.qpre_gcons, Orc.qv_gcons, Orc.fpre_gcons, Orc.fes_gcons, GSum.pre, GSum.v, GSum.hp, Orc.fpre_cons, Orc.fes_cons, Orc.fpre_econs, Orc.fes_econs, FSum.pre, FSum.v, FSum.hp, fres, O.calls, List.flatMap_cons, List.flatMap_nil, List.contains_cons, List.contains_nil, Bool.not_true, Bool.not_false, Heap.freeze, List.mapIdx_cons, List.mapIdx_nil, List.elem_cons, List.elem_nil, fluP, fluV, evF, bne_iff_ne, ne_eq, Option.some.injEq, go_sem, reduceCtorEq, reduceIte, Nat.reduceEqDiff, Nat.reduceAdd, Nat.reduceSub, Nat.reduceMul, Nat.reduceLT, Nat.reduceLeDiff, Nat.reduceBEq, Int.reduceEq, Int.reduceLT, Int.reduceLE, Int.reduceAdd, Int.reduceSub, Int.reduceNeg, Int.reduceToNat]
    | some l =>
      have h4 := lnsO_four hL
      have hne : ¬ l = [] := by intro h; rw [h] at h4; simp at h4
      have hl6 := eq_true (show l.length ≤ 1000000 by omega)
      have hne := eq_false hne
      have g0 := getD_ints l 0
      have g1 := getD_ints l 1
      have i0 := eq_true (show (0 : Int) < (l.length : Int) by omega)
      have i1 := eq_true (show (1 : Int) < (l.length : Int) by omega)
      simp only
      by_cases c2 : (kpT v).length ≤ 2
      · have c2' := eq_false (show ¬ (2 : Int) < ((kpT v).length : Int) by omega)
        by_cases c3 : 0 < minV l
        · rw [if_pos ⟨c2, c3⟩]
          have c3' := eq_false (show ¬ minV l ≤ 0 by omega)
          simp -implicitDefEqProofs only [hL, lnsV, ints, dInts_map, hne, hl6, c2', c3', g0, g1, i0, i1, c6, toks, dToks_map, hvl, hk1, hk2, nmV, hn, sizV, Option.getD_some, Option.isSome_some, Option.getD_none, Option.isSome_none, on_gcall, off_gcall, flat_gcall, wpC_seq_xreg, wpC_xreg, wpXR_nil, wpXR_own, wpXR_flu, xeOK, xe, argTops, openArgs, Orc.ppre_cons, Orc.pr_cons, Orc.ppre_econs, Orc.pr_econs, Orc.ppre_fcons, Orc.pr_fcons, Orc.ppre_gcons, Orc.pr_gcons, List.head?_cons, List.headD_cons, XE.val, XE.heap, efO, shutArgs, xfoot, footO, V.tops, V.top1, clashOne, noClash, Orc.flat_fcons, Orc.pre_fcons, Orc.v_fcons, Orc.hp_fcons, Orc.qpre_fcons, Orc.qv_fcons, Orc.fpre_fcons, Orc.fes_fcons, Orc.flat_gcons, Orc.pre_gcons, Orc.v_gcons, Orc.hp_gcons, Orc.qpre_gcons, Orc.qv_gcons, Orc.fpre_gcons, Orc.fes_gcons, GSum.pre, GSum.v, GSum.hp, Orc.fpre_cons, Orc.fes_cons, Orc.fpre_econs, Orc.fes_econs, FSum.pre, FSum.v, FSum.hp, fres, O.calls, List.flatMap_cons, List.flatMap_nil, List.contains_cons, List.contains_nil, Bool.not_true, Bool.not_false, Heap.freeze, List.mapIdx_cons, List.mapIdx_nil, List.elem_cons, List.elem_nil, fluP, fluV, evF, bne_iff_ne, ne_eq, Option.some.injEq, go_sem, reduceCtorEq, reduceIte, Nat.reduceEqDiff, Nat.reduceAdd, Nat.reduceSub, Nat.reduceMul, Nat.reduceLT, Nat.reduceLeDiff, Nat.reduceBEq, Int.reduceEq, Int.reduceLT, Int.reduceLE, Int.reduceAdd, Int.reduceSub, Int.reduceNeg, Int.reduceToNat]
        · rw [if_neg (fun hh => c3 hh.2)]
          have c3' := eq_true (show minV l ≤ 0 by omega)
          simp -implicitDefEqProofs only [hL, lnsV, ints, dInts_map, hne, hl6, c2', c3', c6, toks, dToks_map, hvl, hk1, hk2, nmV, hn, sizV, Option.getD_some, Option.isSome_some, Option.getD_none, Option.isSome_none, on_gcall, off_gcall, flat_gcall, wpC_seq_xreg, wpC_xreg, wpXR_nil, wpXR_own, wpXR_flu, xeOK, xe, argTops, openArgs, Orc.ppre_cons, Orc.pr_cons, Orc.ppre_econs, Orc.pr_econs, Orc.ppre_fcons, Orc.pr_fcons, Orc.ppre_gcons, Orc.pr_gcons, List.head?_cons, List.headD_cons, XE.val, XE.heap, efO, shutArgs, xfoot, footO, V.tops, V.top1, clashOne, noClash, Orc.flat_fcons, Orc.pre_fcons, Orc.v_fcons, Orc.hp_fcons, Orc.qpre_fcons, Orc.qv_fcons, Orc.fpre_fcons, Orc.fes_fcons, Orc.flat_gcons, Orc.pre_gcons, Orc.v_gcons, Orc.hp_gcons, Orc.qpre_gcons, Orc.qv_gcons, Orc.fpre_gcons, Orc.fes_gcons, GSum.pre, GSum.v, GSum.hp, Orc.fpre_cons, Orc.fes_cons, Orc.fpre_econs, Orc.fes_econs, FSum.pre, FSum.v, FSum.hp, fres, O.calls, List.flatMap_cons, List.flatMap_nil, List.contains_cons, List.contains_nil, Bool.not_true, Bool.not_false, Heap.freeze, List.mapIdx_cons, List.mapIdx_nil, List.elem_cons, List.elem_nil, fluP, fluV, evF, bne_iff_ne, ne_eq, Option.some.injEq, go_sem, reduceCtorEq, reduceIte, Nat.reduceEqDiff, Nat.reduceAdd, Nat.reduceSub, Nat.reduceMul, Nat.reduceLT, Nat.reduceLeDiff, Nat.reduceBEq, Int.reduceEq, Int.reduceLT, Int.reduceLE, Int.reduceAdd, Int.reduceSub, Int.reduceNeg, Int.reduceToNat]
      · rw [if_neg (fun hh => c2 hh.1)]
        have c2' := eq_true (show (2 : Int) < ((kpT v).length : Int) by omega)
        simp -implicitDefEqProofs only [hL, lnsV, ints, dInts_map, hne, hl6, c2', c6, toks, dToks_map, hvl, hk1, hk2, nmV, hn, sizV, Option.getD_some, Option.isSome_some, Option.getD_none, Option.isSome_none, on_gcall, off_gcall, flat_gcall, wpC_seq_xreg, wpC_xreg, wpXR_nil, wpXR_own, wpXR_flu, xeOK, xe, argTops, openArgs, Orc.ppre_cons, Orc.pr_cons, Orc.ppre_econs, Orc.pr_econs, Orc.ppre_fcons, Orc.pr_fcons, Orc.ppre_gcons, Orc.pr_gcons, List.head?_cons, List.headD_cons, XE.val, XE.heap, efO, shutArgs, xfoot, footO, V.tops, V.top1, clashOne, noClash, Orc.flat_fcons, Orc.pre_fcons, Orc.v_fcons, Orc.hp_fcons, Orc.qpre_fcons, Orc.qv_fcons, Orc.fpre_fcons, Orc.fes_fcons, Orc.flat_gcons, Orc.pre_gcons, Orc.v_gcons, Orc.hp_gcons, Orc.qpre_gcons, Orc.qv_gcons, Orc.fpre_gcons, Orc.fes_gcons, GSum.pre, GSum.v, GSum.hp, Orc.fpre_cons, Orc.fes_cons, Orc.fpre_econs, Orc.fes_econs, FSum.pre, FSum.v, FSum.hp, fres, O.calls, List.flatMap_cons, List.flatMap_nil, List.contains_cons, List.contains_nil, Bool.not_true, Bool.not_false, Heap.freeze, List.mapIdx_cons, List.mapIdx_nil, List.elem_cons, List.elem_nil, fluP, fluV, evF, bne_iff_ne, ne_eq, Option.some.injEq, go_sem, reduceCtorEq, reduceIte, Nat.reduceEqDiff, Nat.reduceAdd, Nat.reduceSub, Nat.reduceMul, Nat.reduceLT, Nat.reduceLeDiff, Nat.reduceBEq, Int.reduceEq, Int.reduceLT, Int.reduceLE, Int.reduceAdd, Int.reduceSub, Int.reduceNeg, Int.reduceToNat]
def sumSiz : Sum Tryz.prog := ⟨6, fun args => args = [toks (dToks (args.getD 0 .any))] ∧ txtOK (dToks (args.getD 0 .any)), fun args => sizV (sizO (kpT (dToks (args.getD 0 .any)))), fun args h => by
  have := size_ok (dToks (args.getD 0 .any)) h.2; rwa [← h.1] at this, false⟩
theorem sumSiz_f : sumSiz.f = 6 := rfl
theorem sumSiz_D (args : List V) : sumSiz.D args = (args = [toks (dToks (args.getD 0 .any))] ∧ txtOK (dToks (args.getD 0 .any))) := rfl
theorem sumSiz_flat : sumSiz.flat = false := rfl
theorem sumSiz_r (args : List V) : sumSiz.r args = sizV (sizO (kpT (dToks (args.getD 0 .any)))) := rfl
attribute [go_sem] sumSiz_f sumSiz_D sumSiz_flat sumSiz_r
end Go.Proofs.YtilinnmancfjgaaGreatDoor
