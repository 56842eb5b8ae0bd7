/- Layer 19: the law of a step. -/
import Derived.Test.YteifbbinfipdlaaK19u
import Derived.Test.YteifbbinfipdlaaK19n
namespace Go.Proofs.Yteifbbinfipdlaa
open Go.Sx
set_option linter.unusedSimpArgs false
set_option linter.unusedVariables false
set_option maxHeartbeats 8000000
set_option maxRecDepth 100000

theorem same19_ok (a b : List Cnt) (hl : a.length ≤ 1000000) : PCall Try.prog 14 [cnts a, cnts b] (vb (decide (a = b))) := by
  refine PCall.of (Orc.cons sumGiven19 (Orc.nil _)) c14_ok (by simp [c14]) fun w0 own0 => ?_
  by_cases hn : a.length = b.length
  · have hn1 := eq_true (show (a.length : Int) = (b.length : Int) by omega)
    simp -implicitDefEqProofs only [c14, cnts, hn1, hl, dCnts_map, on_gcall, off_gcall, flat_gcall, go_sem, reduceCtorEq, reduceIte, Nat.reduceEqDiff, Nat.reduceAdd, Nat.reduceSub, Nat.reduceMul, Nat.reduceLT, Nat.reduceLeDiff, Nat.reduceBEq, Int.reduceEq, Int.reduceLT, Int.reduceLE, Int.reduceAdd, Int.reduceSub, Int.reduceNeg, Int.reduceToNat]
    refine SemC.lp (α := AtS) (fun x => [(0, .slc 3 (a.map Cnt.enc)), (1, .slc 3 (b.map Cnt.enc)), (13, .slc 3 (a.map Cnt.enc)), (14, vi a.length), (15, vi x.k)]) (fun x => ⟨[], x.clk⟩)
      (fun x => x.k ≤ b.length ∧ ∀ i, i < x.k → a.getD i .zero = b.getD i .zero) (fun x => b.length - x.k) ⟨0, 0⟩ ⟨Nat.zero_le _, fun i hi => by simp at hi⟩ (St.cut ?_ ?_ ?_) fun x hx => ?_
    · simp [Agrees, upd_at, initE_at]
    · simp
    · rfl
    obtain ⟨j, clk⟩ := x
    obtain ⟨h1, h2⟩ := hx
    simp only at h1 h2
    by_cases hj : j = b.length
    · have hab : a = b := by
        apply List.ext_getElem? ; intro i
        by_cases hi : i < b.length
        · have := h2 i (by omega)
          rw [List.getD_eq_getElem?_getD, List.getD_eq_getElem?_getD, List.getElem?_eq_getElem (by omega), List.getElem?_eq_getElem hi] at this
          rw [List.getElem?_eq_getElem (by omega), List.getElem?_eq_getElem hi]
          simpa using this
        · rw [List.getElem?_eq_none (by omega), List.getElem?_eq_none (by omega)]
      have hd := decide_eq_true hab
      have hj1 := eq_false (show ¬ (j : Int) < (a.length : Int) by omega)
      simp -implicitDefEqProofs only [hj1, hd, on_gcall, off_gcall, flat_gcall, go_sem, reduceCtorEq, reduceIte, Nat.reduceEqDiff, Nat.reduceAdd, Nat.reduceSub, Nat.reduceMul, Nat.reduceLT, Nat.reduceLeDiff, Nat.reduceBEq, Int.reduceEq, Int.reduceLT, Int.reduceLE, Int.reduceAdd, Int.reduceSub, Int.reduceNeg, Int.reduceToNat]
    have j1 : (j : Int) < (b.length : Int) := by omega
    have j2 : (j : Int) < (a.length : Int) := by omega
    have j0 : (0 : Int) ≤ (j : Int) := by omega
    have hga := getD_cnts a j
    have hgb := getD_cnts b j
    have hne : a.getD j .zero ≠ b.getD j .zero → decide (a = b) = false := fun h => decide_eq_false fun e => h (by rw [e])
    have heq : a.getD j .zero = b.getD j .zero → ∀ i, i < j + 1 → a.getD i .zero = b.getD i .zero := fun h i hi => by
      by_cases e : i = j
      · rw [e]; exact h
      · exact h2 i (by omega)
    generalize a.getD j .zero = x at *
    generalize b.getD j .zero = y at *
    obtain ⟨xn, xv, xm⟩ := x
    obtain ⟨yn, yv, ym⟩ := y
    simp -implicitDefEqProofs only [j0, j1, j2, hga, hgb, Cnt.enc, on_gcall, off_gcall, flat_gcall, go_sem, reduceCtorEq, reduceIte, Nat.reduceEqDiff, Nat.reduceAdd, Nat.reduceSub, Nat.reduceMul, Nat.reduceLT, Nat.reduceLeDiff, Nat.reduceBEq, Int.reduceEq, Int.reduceLT, Int.reduceLE, Int.reduceAdd, Int.reduceSub, Int.reduceNeg, Int.reduceToNat]
    refine ⟨rfl, fun h => (hne fun e => ?_).symm, fun h => ⟨by omega, ⟨j + 1, _⟩, ⟨by dsimp only; omega, heq ?_⟩, by dsimp only; omega, by dsimp only; omega, rfl⟩⟩
    · injection e with e1 e2 e3
      rcases h with h | h | h
      · exact h e1
      · exact h e2
      · exact h e3
    · rw [h.1, h.2.1, h.2.2]
  · have e : decide (a = b) = false := by rw [decide_eq_false_iff_not]; intro h; exact hn (by rw [h])
    have e1 := eq_false (show ¬ (a.length : Int) = (b.length : Int) by omega)
    simp -implicitDefEqProofs only [c14, cnts, e, e1, on_gcall, off_gcall, flat_gcall, go_sem, reduceCtorEq, reduceIte, Nat.reduceEqDiff, Nat.reduceAdd, Nat.reduceSub, Nat.reduceMul, Nat.reduceLT, Nat.reduceLeDiff, Nat.reduceBEq, Int.reduceEq, Int.reduceLT, Int.reduceLE, Int.reduceAdd, Int.reduceSub, Int.reduceNeg, Int.reduceToNat]
def sumSame19 : Sum Try.prog := ⟨14, fun args => args = [cnts (dCnts (args.getD 0 .any)), cnts (dCnts (args.getD 1 .any))] ∧ ((dCnts (args.getD 0 .any))).length ≤ 1000000, fun args => vb (decide ((dCnts (args.getD 0 .any)) = (dCnts (args.getD 1 .any)))), fun args h => by
  have := same19_ok (dCnts (args.getD 0 .any)) (dCnts (args.getD 1 .any)) h.2; rwa [← h.1] at this, true⟩
theorem sumSame19_f : sumSame19.f = 14 := rfl
theorem sumSame19_D (args : List V) : sumSame19.D args = (args = [cnts (dCnts (args.getD 0 .any)), cnts (dCnts (args.getD 1 .any))] ∧ ((dCnts (args.getD 0 .any))).length ≤ 1000000) := rfl
theorem sumSame19_flat : sumSame19.flat = true := rfl
theorem sumSame19_r (args : List V) : sumSame19.r args = vb (decide ((dCnts (args.getD 0 .any)) = (dCnts (args.getD 1 .any)))) := rfl
attribute [go_sem] sumSame19_f sumSame19_D sumSame19_flat sumSame19_r
def sumStepR : Sum Try.prog := ⟨15, fun args => args = [cnts (dCnts (args.getD 0 .any)), .agg (Doc.enc (dDoc (args.getD 1 .any))), vsts (dVSts (args.getD 2 .any)), vsts (dVSts (args.getD 3 .any)), vsts (dVSts (args.getD 4 .any)), vi ((args.getD 5 .any).int)] ∧ okL (dDoc (args.getD 1 .any)) ∧ 0 ≤ ((args.getD 5 .any).int) ∧ ((args.getD 5 .any).int) < ((dDoc (args.getD 1 .any))).l.length ∧ ((dCnts (args.getD 0 .any))).length ≤ 20000 ∧ (okS (dVSts (args.getD 2 .any)) ∧ ((dVSts (args.getD 2 .any))).length ≤ 10000) ∧ (okS (dVSts (args.getD 3 .any)) ∧ ((dVSts (args.getD 3 .any))).length ≤ 10000) ∧ (okS (dVSts (args.getD 4 .any)) ∧ ((dVSts (args.getD 4 .any))).length ≤ 10000), fun args => cnts (chgA (fun _ b => stopI b) (dDoc (args.getD 1 .any)) ((args.getD 5 .any).int) (chgA addI (dDoc (args.getD 1 .any)) ((args.getD 5 .any).int) (rstA (dDoc (args.getD 1 .any)) ((args.getD 5 .any).int) (keepC (dDoc (args.getD 1 .any)) ((args.getD 5 .any).int) (dCnts (args.getD 0 .any))) (dVSts (args.getD 2 .any))) (dVSts (args.getD 3 .any))) (dVSts (args.getD 4 .any))), fun args h => by
  have := stepR_ok (dDoc (args.getD 1 .any)) ((args.getD 5 .any).int) (dCnts (args.getD 0 .any)) (dVSts (args.getD 2 .any)) (dVSts (args.getD 3 .any)) (dVSts (args.getD 4 .any)) h.2.1 h.2.2.1 h.2.2.2.1 h.2.2.2.2.1 h.2.2.2.2.2.1 h.2.2.2.2.2.2.1 h.2.2.2.2.2.2.2; rwa [← h.1] at this, false⟩
theorem sumStepR_f : sumStepR.f = 15 := rfl
theorem sumStepR_D (args : List V) : sumStepR.D args = (args = [cnts (dCnts (args.getD 0 .any)), .agg (Doc.enc (dDoc (args.getD 1 .any))), vsts (dVSts (args.getD 2 .any)), vsts (dVSts (args.getD 3 .any)), vsts (dVSts (args.getD 4 .any)), vi ((args.getD 5 .any).int)] ∧ okL (dDoc (args.getD 1 .any)) ∧ 0 ≤ ((args.getD 5 .any).int) ∧ ((args.getD 5 .any).int) < ((dDoc (args.getD 1 .any))).l.length ∧ ((dCnts (args.getD 0 .any))).length ≤ 20000 ∧ (okS (dVSts (args.getD 2 .any)) ∧ ((dVSts (args.getD 2 .any))).length ≤ 10000) ∧ (okS (dVSts (args.getD 3 .any)) ∧ ((dVSts (args.getD 3 .any))).length ≤ 10000) ∧ (okS (dVSts (args.getD 4 .any)) ∧ ((dVSts (args.getD 4 .any))).length ≤ 10000)) := rfl
theorem sumStepR_flat : sumStepR.flat = false := rfl
theorem sumStepR_r (args : List V) : sumStepR.r args = cnts (chgA (fun _ b => stopI b) (dDoc (args.getD 1 .any)) ((args.getD 5 .any).int) (chgA addI (dDoc (args.getD 1 .any)) ((args.getD 5 .any).int) (rstA (dDoc (args.getD 1 .any)) ((args.getD 5 .any).int) (keepC (dDoc (args.getD 1 .any)) ((args.getD 5 .any).int) (dCnts (args.getD 0 .any))) (dVSts (args.getD 2 .any))) (dVSts (args.getD 3 .any))) (dVSts (args.getD 4 .any))) := rfl
attribute [go_sem] sumStepR_f sumStepR_D sumStepR_flat sumStepR_r
theorem prp_of {xs : List V} (hl : xs.length = 8) (h : ∀ i c, propC[i]? = some c → CellOK c (xs.getD i .any)) : ∃ p : Prp, xs = p.enc ∧ okX p.st ∧ okS p.r ∧ okS p.i ∧ okS p.s := by
  have a0 := h 0 _ rfl
  have a1 := h 1 _ rfl
  have a2 := h 2 _ rfl
  have a3 := h 3 _ rfl
  have a4 := h 4 _ rfl
  have a5 := h 5 _ rfl
  have a6 := h 6 _ rfl
  have a7 := h 7 _ rfl
  match xs, hl with
  | [b0, b1, b2, b3, b4, b5, b6, b7], _ =>
    simp only [List.getD_cons_zero, List.getD_cons_succ] at a0 a1 a2 a3 a4 a5 a6 a7
    obtain ⟨r, rfl, h3⟩ := vsts_of a3
    obtain ⟨i, rfl, h4⟩ := vsts_of a4
    obtain ⟨s, rfl, h5⟩ := vsts_of a5
    have h6 := okX_of a6
    cases a0; cases a1; cases a2; cases a7
    exact ⟨⟨_, _, _, r, i, s, b6, _⟩, rfl, h6, h3, h4, h5⟩
theorem countsStep_law (x : V) (hx : CellOK (.slc cntC) x) (ys : List V) (hyl : ys.length = 5) (hy : ∀ i c, docC[i]? = some c → CellOK c (ys.getD i .any)) (zs : List V) (hzl : zs.length = 8) (hz : ∀ i c, propC[i]? = some c → CellOK c (zs.getD i .any)) (w : V) (hw : CellOK (.int .i64) w) :
    PCall Try.prog 3 [x, .agg ys, .agg zs, w] (.c (.bool true)) := by
  obtain ⟨l, rfl⟩ := cnts_of hx
  obtain ⟨d, rfl⟩ := doc_of hyl hy
  obtain ⟨p, rfl, hp1, hp2, hp3, hp4⟩ := prp_of hzl hz
  obtain ⟨k, rfl⟩ : ∃ k : Int, w = vi k := by cases hw; exact ⟨_, rfl⟩
  refine PCall.of (Orc.cons sumAw19 (Orc.cons sumFew19 (Orc.cons sumStep (Orc.cons sumGiven (Orc.cons sumRightR (Orc.cons sumIsR (Orc.cons sumSame19 (Orc.cons sumGiven19 (Orc.cons sumStepR (Orc.nil _)))))))))) c3_ok (by simp [c3]) fun w0 own0 => ?_
  obtain ⟨pb, pa, pg, pr, pi, pss, pst, prun⟩ := p
  simp only at hp1 hp2 hp3 hp4
  have hps : ∀ q ∈ [(⟨pb, pa, pg, pr, pi, pss, pst, prun⟩ : Prp)], okX q.st ∧ okS q.r ∧ okS q.i ∧ okS q.s := fun q hq => by obtain rfl := List.mem_singleton.1 hq; exact ⟨hp1, hp2, hp3, hp4⟩
  have hxx : (∃ m es, pst = .slc m es) ∨ pst = vnil := by rcases hp1 with h | h; exact .inr h; exact .inl h
  have hdp : dPrps (.slc 8 [[vi pb, vi pa, vs pg, .slc 3 (pr.map VSt.enc), .slc 3 (pi.map VSt.enc), .slc 3 (pss.map VSt.enc), pst, vs prun]]) = [⟨pb, pa, pg, pr, pi, pss, pst, prun⟩] := dPrps_map 8 [⟨pb, pa, pg, pr, pi, pss, pst, prun⟩]
  rcases hxx with ⟨mm, ees, rfl⟩ | rfl
  · cases hF : few19 d [⟨pb, pa, pg, pr, pi, pss, (.slc mm ees), prun⟩]
    · simp -implicitDefEqProofs only [c3, Doc.enc, Prp.enc, vsts, cnts, prps, List.map_cons, List.map_nil, dDoc_mk, Doc.eta, hdp, dPrp_mk, dCnts_map, dVSts_map, mapO_cnts11, List.take_length, List.length_map, Nat.le_refl, hF, hps, on_gcall, off_gcall, flat_gcall, wpC_seq_areg, wpC_areg, wpFR_nil, wpFR_cons, fluP, fluV, evF, V.allK, V.isK, O.still, okP_none, vP_none, wpC_seq_xreg, wpC_xreg, wpXR_nil, wpXR_own, wpXR_flu, xeOK, xe, argTops, openArgs, Orc.ppre_cons, Orc.pr_cons, Orc.ppre_econs, Orc.pr_econs, Orc.ppre_fcons, Orc.pr_fcons, Orc.ppre_gcons, Orc.pr_gcons, List.head?_cons, List.headD_cons, XE.val, XE.heap, efO, shutArgs, xfoot, footO, V.tops, V.top1, clashOne, noClash, Orc.flat_fcons, Orc.pre_fcons, Orc.v_fcons, Orc.hp_fcons, Orc.qpre_fcons, Orc.qv_fcons, Orc.fpre_fcons, Orc.fes_fcons, Orc.flat_gcons, Orc.pre_gcons, Orc.v_gcons, Orc.hp_gcons, Orc.qpre_gcons, Orc.qv_gcons, Orc.fpre_gcons, Orc.fes_gcons, GSum.pre, GSum.v, GSum.hp, Orc.fpre_cons, Orc.fes_cons, Orc.fpre_econs, Orc.fes_econs, FSum.pre, FSum.v, FSum.hp, fres, O.calls, List.flatMap_cons, List.flatMap_nil, List.contains_cons, List.contains_nil, Bool.not_true, Bool.not_false, Heap.freeze, List.mapIdx_cons, List.mapIdx_nil, List.elem_cons, List.elem_nil, fluP, fluV, evF, bne_iff_ne, ne_eq, Option.some.injEq, go_sem, reduceCtorEq, reduceIte, Nat.reduceEqDiff, Nat.reduceAdd, Nat.reduceSub, Nat.reduceMul, Nat.reduceLT, Nat.reduceLeDiff, Nat.reduceBEq, Int.reduceEq, Int.reduceLT, Int.reduceLE, Int.reduceAdd, Int.reduceSub, Int.reduceNeg, Int.reduceToNat]
      exact fun q e => hps q (List.mem_singleton.2 e)
    by_cases hl : (20 : Int) < (l.length : Int)
    · have hl := eq_true hl
      simp -implicitDefEqProofs only [c3, Doc.enc, Prp.enc, vsts, cnts, prps, List.map_cons, List.map_nil, dDoc_mk, Doc.eta, hdp, dPrp_mk, dCnts_map, dVSts_map, mapO_cnts11, List.take_length, List.length_map, Nat.le_refl, hF, hl, hps, on_gcall, off_gcall, flat_gcall, wpC_seq_areg, wpC_areg, wpFR_nil, wpFR_cons, fluP, fluV, evF, V.allK, V.isK, O.still, okP_none, vP_none, wpC_seq_xreg, wpC_xreg, wpXR_nil, wpXR_own, wpXR_flu, xeOK, xe, argTops, openArgs, Orc.ppre_cons, Orc.pr_cons, Orc.ppre_econs, Orc.pr_econs, Orc.ppre_fcons, Orc.pr_fcons, Orc.ppre_gcons, Orc.pr_gcons, List.head?_cons, List.headD_cons, XE.val, XE.heap, efO, shutArgs, xfoot, footO, V.tops, V.top1, clashOne, noClash, Orc.flat_fcons, Orc.pre_fcons, Orc.v_fcons, Orc.hp_fcons, Orc.qpre_fcons, Orc.qv_fcons, Orc.fpre_fcons, Orc.fes_fcons, Orc.flat_gcons, Orc.pre_gcons, Orc.v_gcons, Orc.hp_gcons, Orc.qpre_gcons, Orc.qv_gcons, Orc.fpre_gcons, Orc.fes_gcons, GSum.pre, GSum.v, GSum.hp, Orc.fpre_cons, Orc.fes_cons, Orc.fpre_econs, Orc.fes_econs, FSum.pre, FSum.v, FSum.hp, fres, O.calls, List.flatMap_cons, List.flatMap_nil, List.contains_cons, List.contains_nil, Bool.not_true, Bool.not_false, Heap.freeze, List.mapIdx_cons, List.mapIdx_nil, List.elem_cons, List.elem_nil, fluP, fluV, evF, bne_iff_ne, ne_eq, Option.some.injEq, go_sem, reduceCtorEq, reduceIte, Nat.reduceEqDiff, Nat.reduceAdd, Nat.reduceSub, Nat.reduceMul, Nat.reduceLT, Nat.reduceLeDiff, Nat.reduceBEq, Int.reduceEq, Int.reduceLT, Int.reduceLE, Int.reduceAdd, Int.reduceSub, Int.reduceNeg, Int.reduceToNat]
      exact fun q e => hps q (List.mem_singleton.2 e)
    have hl20 : l.length ≤ 20 := by omega
    have hl := eq_false hl
    obtain ⟨f1, f2, f3⟩ := few19_ps hF hps
    obtain ⟨f3, r1, r2, r3⟩ := f3 _ (List.mem_singleton.2 rfl)
    have hd1 : d.l.length ≤ 1000 := by omega
    have hl2 : l.length ≤ 20000 := by omega
    have hl6 : l.length ≤ 1000000 := by omega
    by_cases hk : k ∈ inV d
    · have hth := hk
      rw [← decide_eq_true_eq (p := k ∈ inV d), thV_in] at hth
      unfold thV at hth
      rw [Bool.and_eq_true] at hth
      obtain ⟨hR, hT⟩ := hth
      obtain ⟨_, k0, k1, _⟩ := inV_mem hk
      have hok : okL d := ⟨rightB_ok hR, hd1⟩
      have hst : stepC d ⟨pb, pa, pg, pr, pi, pss, (.slc mm ees), prun⟩ k l = chgA (fun _ b => stopI b) d k (chgA addI d k (rstA d k (keepC d k l) pr) pi) pss := by unfold stepC stepI; rw [if_pos hk]
      have q1 := f3.r; have q2 := f3.i; have q3 := f3.s
      simp only at q1 q2 q3 r1 r2 r3
      have hsl := stepC_len d ⟨pb, pa, pg, pr, pi, pss, (.slc mm ees), prun⟩ k l
      simp only at hsl
      have hs6 : (stepC d ⟨pb, pa, pg, pr, pi, pss, (.slc mm ees), prun⟩ k l).length ≤ 1000000 := by omega
      rw [hst] at hs6
      simp -implicitDefEqProofs only [c3, Doc.enc, Prp.enc, vsts, cnts, prps, List.map_cons, List.map_nil, dDoc_mk, Doc.eta, hdp, dPrp_mk, dCnts_map, dVSts_map, mapO_cnts11, List.take_length, List.length_map, Nat.le_refl, hF, hl, hd1, hl2, hl6, hR, hT, hok, k0, k1, hst, f3, q1, q2, q3, hs6, on_gcall, off_gcall, flat_gcall, wpC_seq_areg, wpC_areg, wpFR_nil, wpFR_cons, fluP, fluV, evF, V.allK, V.isK, O.still, okP_none, vP_none, wpC_seq_xreg, wpC_xreg, wpXR_nil, wpXR_own, wpXR_flu, xeOK, xe, argTops, openArgs, Orc.ppre_cons, Orc.pr_cons, Orc.ppre_econs, Orc.pr_econs, Orc.ppre_fcons, Orc.pr_fcons, Orc.ppre_gcons, Orc.pr_gcons, List.head?_cons, List.headD_cons, XE.val, XE.heap, efO, shutArgs, xfoot, footO, V.tops, V.top1, clashOne, noClash, Orc.flat_fcons, Orc.pre_fcons, Orc.v_fcons, Orc.hp_fcons, Orc.qpre_fcons, Orc.qv_fcons, Orc.fpre_fcons, Orc.fes_fcons, Orc.flat_gcons, Orc.pre_gcons, Orc.v_gcons, Orc.hp_gcons, Orc.qpre_gcons, Orc.qv_gcons, Orc.fpre_gcons, Orc.fes_gcons, GSum.pre, GSum.v, GSum.hp, Orc.fpre_cons, Orc.fes_cons, Orc.fpre_econs, Orc.fes_econs, FSum.pre, FSum.v, FSum.hp, fres, O.calls, List.flatMap_cons, List.flatMap_nil, List.contains_cons, List.contains_nil, Bool.not_true, Bool.not_false, Heap.freeze, List.mapIdx_cons, List.mapIdx_nil, List.elem_cons, List.elem_nil, fluP, fluV, evF, bne_iff_ne, ne_eq, Option.some.injEq, go_sem, reduceCtorEq, reduceIte, Nat.reduceEqDiff, Nat.reduceAdd, Nat.reduceSub, Nat.reduceMul, Nat.reduceLT, Nat.reduceLeDiff, Nat.reduceBEq, Int.reduceEq, Int.reduceLT, Int.reduceLE, Int.reduceAdd, Int.reduceSub, Int.reduceNeg, Int.reduceToNat]
      exact ⟨fun q e => hps q (List.mem_singleton.2 e), ⟨by omega, by omega⟩, by omega, by omega, by omega⟩
    · have hst : stepC d ⟨pb, pa, pg, pr, pi, pss, (.slc mm ees), prun⟩ k l = [] := by unfold stepC; rw [if_neg hk]
      cases hR : rightB d
      · simp -implicitDefEqProofs only [c3, Doc.enc, Prp.enc, vsts, cnts, prps, List.map_cons, List.map_nil, dDoc_mk, Doc.eta, hdp, dPrp_mk, dCnts_map, dVSts_map, mapO_cnts11, List.take_length, List.length_map, Nat.le_refl, hF, hl, hd1, hl2, hl6, hR, hst, f3, on_gcall, off_gcall, flat_gcall, wpC_seq_areg, wpC_areg, wpFR_nil, wpFR_cons, fluP, fluV, evF, V.allK, V.isK, O.still, okP_none, vP_none, wpC_seq_xreg, wpC_xreg, wpXR_nil, wpXR_own, wpXR_flu, xeOK, xe, argTops, openArgs, Orc.ppre_cons, Orc.pr_cons, Orc.ppre_econs, Orc.pr_econs, Orc.ppre_fcons, Orc.pr_fcons, Orc.ppre_gcons, Orc.pr_gcons, List.head?_cons, List.headD_cons, XE.val, XE.heap, efO, shutArgs, xfoot, footO, V.tops, V.top1, clashOne, noClash, Orc.flat_fcons, Orc.pre_fcons, Orc.v_fcons, Orc.hp_fcons, Orc.qpre_fcons, Orc.qv_fcons, Orc.fpre_fcons, Orc.fes_fcons, Orc.flat_gcons, Orc.pre_gcons, Orc.v_gcons, Orc.hp_gcons, Orc.qpre_gcons, Orc.qv_gcons, Orc.fpre_gcons, Orc.fes_gcons, GSum.pre, GSum.v, GSum.hp, Orc.fpre_cons, Orc.fes_cons, Orc.fpre_econs, Orc.fes_econs, FSum.pre, FSum.v, FSum.hp, fres, O.calls, List.flatMap_cons, List.flatMap_nil, List.contains_cons, List.contains_nil, Bool.not_true, Bool.not_false, Heap.freeze, List.mapIdx_cons, List.mapIdx_nil, List.elem_cons, List.elem_nil, fluP, fluV, evF, bne_iff_ne, ne_eq, Option.some.injEq, go_sem, reduceCtorEq, reduceIte, Nat.reduceEqDiff, Nat.reduceAdd, Nat.reduceSub, Nat.reduceMul, Nat.reduceLT, Nat.reduceLeDiff, Nat.reduceBEq, Int.reduceEq, Int.reduceLT, Int.reduceLE, Int.reduceAdd, Int.reduceSub, Int.reduceNeg, Int.reduceToNat]
        exact ⟨fun q e => hps q (List.mem_singleton.2 e), by omega, by omega⟩
      · have hT : thB d k = false := by
          cases h : thB d k with
          | false => rfl
          | true => exact absurd (by rw [← decide_eq_true_eq (p := k ∈ inV d), thV_in]; unfold thV; rw [hR, h]; rfl) hk
        have hok : okL d := ⟨rightB_ok hR, hd1⟩
        simp -implicitDefEqProofs only [c3, Doc.enc, Prp.enc, vsts, cnts, prps, List.map_cons, List.map_nil, dDoc_mk, Doc.eta, hdp, dPrp_mk, dCnts_map, dVSts_map, mapO_cnts11, List.take_length, List.length_map, Nat.le_refl, hF, hl, hd1, hl2, hl6, hR, hT, hok, hst, f3, on_gcall, off_gcall, flat_gcall, wpC_seq_areg, wpC_areg, wpFR_nil, wpFR_cons, fluP, fluV, evF, V.allK, V.isK, O.still, okP_none, vP_none, wpC_seq_xreg, wpC_xreg, wpXR_nil, wpXR_own, wpXR_flu, xeOK, xe, argTops, openArgs, Orc.ppre_cons, Orc.pr_cons, Orc.ppre_econs, Orc.pr_econs, Orc.ppre_fcons, Orc.pr_fcons, Orc.ppre_gcons, Orc.pr_gcons, List.head?_cons, List.headD_cons, XE.val, XE.heap, efO, shutArgs, xfoot, footO, V.tops, V.top1, clashOne, noClash, Orc.flat_fcons, Orc.pre_fcons, Orc.v_fcons, Orc.hp_fcons, Orc.qpre_fcons, Orc.qv_fcons, Orc.fpre_fcons, Orc.fes_fcons, Orc.flat_gcons, Orc.pre_gcons, Orc.v_gcons, Orc.hp_gcons, Orc.qpre_gcons, Orc.qv_gcons, Orc.fpre_gcons, Orc.fes_gcons, GSum.pre, GSum.v, GSum.hp, Orc.fpre_cons, Orc.fes_cons, Orc.fpre_econs, Orc.fes_econs, FSum.pre, FSum.v, FSum.hp, fres, O.calls, List.flatMap_cons, List.flatMap_nil, List.contains_cons, List.contains_nil, Bool.not_true, Bool.not_false, Heap.freeze, List.mapIdx_cons, List.mapIdx_nil, List.elem_cons, List.elem_nil, fluP, fluV, evF, bne_iff_ne, ne_eq, Option.some.injEq, go_sem, reduceCtorEq, reduceIte, Nat.reduceEqDiff, Nat.reduceAdd, Nat.reduceSub, Nat.reduceMul, Nat.reduceLT, Nat.reduceLeDiff, Nat.reduceBEq, Int.reduceEq, Int.reduceLT, Int.reduceLE, Int.reduceAdd, Int.reduceSub, Int.reduceNeg, Int.reduceToNat]
        exact ⟨fun q e => hps q (List.mem_singleton.2 e), by omega, by omega⟩
  · cases hF : few19 d [⟨pb, pa, pg, pr, pi, pss, vnil, prun⟩]
    · simp -implicitDefEqProofs only [c3, Doc.enc, Prp.enc, vsts, cnts, prps, List.map_cons, List.map_nil, dDoc_mk, Doc.eta, hdp, dPrp_mk, dCnts_map, dVSts_map, mapO_cnts11, List.take_length, List.length_map, Nat.le_refl, hF, hps, on_gcall, off_gcall, flat_gcall, wpC_seq_areg, wpC_areg, wpFR_nil, wpFR_cons, fluP, fluV, evF, V.allK, V.isK, O.still, okP_none, vP_none, wpC_seq_xreg, wpC_xreg, wpXR_nil, wpXR_own, wpXR_flu, xeOK, xe, argTops, openArgs, Orc.ppre_cons, Orc.pr_cons, Orc.ppre_econs, Orc.pr_econs, Orc.ppre_fcons, Orc.pr_fcons, Orc.ppre_gcons, Orc.pr_gcons, List.head?_cons, List.headD_cons, XE.val, XE.heap, efO, shutArgs, xfoot, footO, V.tops, V.top1, clashOne, noClash, Orc.flat_fcons, Orc.pre_fcons, Orc.v_fcons, Orc.hp_fcons, Orc.qpre_fcons, Orc.qv_fcons, Orc.fpre_fcons, Orc.fes_fcons, Orc.flat_gcons, Orc.pre_gcons, Orc.v_gcons, Orc.hp_gcons, Orc.qpre_gcons, Orc.qv_gcons, Orc.fpre_gcons, Orc.fes_gcons, GSum.pre, GSum.v, GSum.hp, Orc.fpre_cons, Orc.fes_cons, Orc.fpre_econs, Orc.fes_econs, FSum.pre, FSum.v, FSum.hp, fres, O.calls, List.flatMap_cons, List.flatMap_nil, List.contains_cons, List.contains_nil, Bool.not_true, Bool.not_false, Heap.freeze, List.mapIdx_cons, List.mapIdx_nil, List.elem_cons, List.elem_nil, fluP, fluV, evF, bne_iff_ne, ne_eq, Option.some.injEq, go_sem, reduceCtorEq, reduceIte, Nat.reduceEqDiff, Nat.reduceAdd, Nat.reduceSub, Nat.reduceMul, Nat.reduceLT, Nat.reduceLeDiff, Nat.reduceBEq, Int.reduceEq, Int.reduceLT, Int.reduceLE, Int.reduceAdd, Int.reduceSub, Int.reduceNeg, Int.reduceToNat]
      exact fun q e => hps q (List.mem_singleton.2 e)
    by_cases hl : (20 : Int) < (l.length : Int)
    · have hl := eq_true hl
      simp -implicitDefEqProofs only [c3, Doc.enc, Prp.enc, vsts, cnts, prps, List.map_cons, List.map_nil, dDoc_mk, Doc.eta, hdp, dPrp_mk, dCnts_map, dVSts_map, mapO_cnts11, List.take_length, List.length_map, Nat.le_refl, hF, hl, hps, on_gcall, off_gcall, flat_gcall, wpC_seq_areg, wpC_areg, wpFR_nil, wpFR_cons, fluP, fluV, evF, V.allK, V.isK, O.still, okP_none, vP_none, wpC_seq_xreg, wpC_xreg, wpXR_nil, wpXR_own, wpXR_flu, xeOK, xe, argTops, openArgs, Orc.ppre_cons, Orc.pr_cons, Orc.ppre_econs, Orc.pr_econs, Orc.ppre_fcons, Orc.pr_fcons, Orc.ppre_gcons, Orc.pr_gcons, List.head?_cons, List.headD_cons, XE.val, XE.heap, efO, shutArgs, xfoot, footO, V.tops, V.top1, clashOne, noClash, Orc.flat_fcons, Orc.pre_fcons, Orc.v_fcons, Orc.hp_fcons, Orc.qpre_fcons, Orc.qv_fcons, Orc.fpre_fcons, Orc.fes_fcons, Orc.flat_gcons, Orc.pre_gcons, Orc.v_gcons, Orc.hp_gcons, Orc.qpre_gcons, Orc.qv_gcons, Orc.fpre_gcons, Orc.fes_gcons, GSum.pre, GSum.v, GSum.hp, Orc.fpre_cons, Orc.fes_cons, Orc.fpre_econs, Orc.fes_econs, FSum.pre, FSum.v, FSum.hp, fres, O.calls, List.flatMap_cons, List.flatMap_nil, List.contains_cons, List.contains_nil, Bool.not_true, Bool.not_false, Heap.freeze, List.mapIdx_cons, List.mapIdx_nil, List.elem_cons, List.elem_nil, fluP, fluV, evF, bne_iff_ne, ne_eq, Option.some.injEq, go_sem, reduceCtorEq, reduceIte, Nat.reduceEqDiff, Nat.reduceAdd, Nat.reduceSub, Nat.reduceMul, Nat.reduceLT, Nat.reduceLeDiff, Nat.reduceBEq, Int.reduceEq, Int.reduceLT, Int.reduceLE, Int.reduceAdd, Int.reduceSub, Int.reduceNeg, Int.reduceToNat]
      exact fun q e => hps q (List.mem_singleton.2 e)
    have hl20 : l.length ≤ 20 := by omega
    have hl := eq_false hl
    obtain ⟨f1, f2, f3⟩ := few19_ps hF hps
    obtain ⟨f3, r1, r2, r3⟩ := f3 _ (List.mem_singleton.2 rfl)
    have hd1 : d.l.length ≤ 1000 := by omega
    have hl2 : l.length ≤ 20000 := by omega
    have hl6 : l.length ≤ 1000000 := by omega
    by_cases hk : k ∈ inV d
    · have hth := hk
      rw [← decide_eq_true_eq (p := k ∈ inV d), thV_in] at hth
      unfold thV at hth
      rw [Bool.and_eq_true] at hth
      obtain ⟨hR, hT⟩ := hth
      obtain ⟨_, k0, k1, _⟩ := inV_mem hk
      have hok : okL d := ⟨rightB_ok hR, hd1⟩
      have hst : stepC d ⟨pb, pa, pg, pr, pi, pss, vnil, prun⟩ k l = chgA (fun _ b => stopI b) d k (chgA addI d k (rstA d k (keepC d k l) pr) pi) pss := by unfold stepC stepI; rw [if_pos hk]
      have q1 := f3.r; have q2 := f3.i; have q3 := f3.s
      simp only at q1 q2 q3 r1 r2 r3
      have hsl := stepC_len d ⟨pb, pa, pg, pr, pi, pss, vnil, prun⟩ k l
      simp only at hsl
      have hs6 : (stepC d ⟨pb, pa, pg, pr, pi, pss, vnil, prun⟩ k l).length ≤ 1000000 := by omega
      rw [hst] at hs6
      simp -implicitDefEqProofs only [c3, Doc.enc, Prp.enc, vsts, cnts, prps, List.map_cons, List.map_nil, dDoc_mk, Doc.eta, hdp, dPrp_mk, dCnts_map, dVSts_map, mapO_cnts11, List.take_length, List.length_map, Nat.le_refl, hF, hl, hd1, hl2, hl6, hR, hT, hok, k0, k1, hst, f3, q1, q2, q3, hs6, on_gcall, off_gcall, flat_gcall, wpC_seq_areg, wpC_areg, wpFR_nil, wpFR_cons, fluP, fluV, evF, V.allK, V.isK, O.still, okP_none, vP_none, wpC_seq_xreg, wpC_xreg, wpXR_nil, wpXR_own, wpXR_flu, xeOK, xe, argTops, openArgs, Orc.ppre_cons, Orc.pr_cons, Orc.ppre_econs, Orc.pr_econs, Orc.ppre_fcons, Orc.pr_fcons, Orc.ppre_gcons, Orc.pr_gcons, List.head?_cons, List.headD_cons, XE.val, XE.heap, efO, shutArgs, xfoot, footO, V.tops, V.top1, clashOne, noClash, Orc.flat_fcons, Orc.pre_fcons, Orc.v_fcons, Orc.hp_fcons, Orc.qpre_fcons, Orc.qv_fcons, Orc.fpre_fcons, Orc.fes_fcons, Orc.flat_gcons, Orc.pre_gcons, Orc.v_gcons, Orc.hp_gcons, Orc.qpre_gcons, Orc.qv_gcons, Orc.fpre_gcons, Orc.fes_gcons, GSum.pre, GSum.v, GSum.hp, Orc.fpre_cons, Orc.fes_cons, Orc.fpre_econs, Orc.fes_econs, FSum.pre, FSum.v, FSum.hp, fres, O.calls, List.flatMap_cons, List.flatMap_nil, List.contains_cons, List.contains_nil, Bool.not_true, Bool.not_false, Heap.freeze, List.mapIdx_cons, List.mapIdx_nil, List.elem_cons, List.elem_nil, fluP, fluV, evF, bne_iff_ne, ne_eq, Option.some.injEq, go_sem, reduceCtorEq, reduceIte, Nat.reduceEqDiff, Nat.reduceAdd, Nat.reduceSub, Nat.reduceMul, Nat.reduceLT, Nat.reduceLeDiff, Nat.reduceBEq, Int.reduceEq, Int.reduceLT, Int.reduceLE, Int.reduceAdd, Int.reduceSub, Int.reduceNeg, Int.reduceToNat]
      exact ⟨fun q e => hps q (List.mem_singleton.2 e), ⟨by omega, by omega⟩, by omega, by omega, by omega⟩
    · have hst : stepC d ⟨pb, pa, pg, pr, pi, pss, vnil, prun⟩ k l = [] := by unfold stepC; rw [if_neg hk]
      cases hR : rightB d
      · simp -implicitDefEqProofs only [c3, Doc.enc, Prp.enc, vsts, cnts, prps, List.map_cons, List.map_nil, dDoc_mk, Doc.eta, hdp, dPrp_mk, dCnts_map, dVSts_map, mapO_cnts11, List.take_length, List.length_map, Nat.le_refl, hF, hl, hd1, hl2, hl6, hR, hst, f3, on_gcall, off_gcall, flat_gcall, wpC_seq_areg, wpC_areg, wpFR_nil, wpFR_cons, fluP, fluV, evF, V.allK, V.isK, O.still, okP_none, vP_none, wpC_seq_xreg, wpC_xreg, wpXR_nil, wpXR_own, wpXR_flu, xeOK, xe, argTops, openArgs, Orc.ppre_cons, Orc.pr_cons, Orc.ppre_econs, Orc.pr_econs, Orc.ppre_fcons, Orc.pr_fcons, Orc.ppre_gcons, Orc.pr_gcons, List.head?_cons, List.headD_cons, XE.val, XE.heap, efO, shutArgs, xfoot, footO, V.tops, V.top1, clashOne, noClash, Orc.flat_fcons, Orc.pre_fcons, Orc.v_fcons, Orc.hp_fcons, Orc.qpre_fcons, Orc.qv_fcons, Orc.fpre_fcons, Orc.fes_fcons, Orc.flat_gcons, Orc.pre_gcons, Orc.v_gcons, Orc.hp_gcons, Orc.qpre_gcons, Orc.qv_gcons, Orc.fpre_gcons, Orc.fes_gcons, GSum.pre, GSum.v, GSum.hp, Orc.fpre_cons, Orc.fes_cons, Orc.fpre_econs, Orc.fes_econs, FSum.pre, FSum.v, FSum.hp, fres, O.calls, List.flatMap_cons, List.flatMap_nil, List.contains_cons, List.contains_nil, Bool.not_true, Bool.not_false, Heap.freeze, List.mapIdx_cons, List.mapIdx_nil, List.elem_cons, List.elem_nil, fluP, fluV, evF, bne_iff_ne, ne_eq, Option.some.injEq, go_sem, reduceCtorEq, reduceIte, Nat.reduceEqDiff, Nat.reduceAdd, Nat.reduceSub, Nat.reduceMul, Nat.reduceLT, Nat.reduceLeDiff, Nat.reduceBEq, Int.reduceEq, Int.reduceLT, Int.reduceLE, Int.reduceAdd, Int.reduceSub, Int.reduceNeg, Int.reduceToNat]
        exact ⟨fun q e => hps q (List.mem_singleton.2 e), by omega, by omega⟩
      · have hT : thB d k = false := by
          cases h : thB d k with
          | false => rfl
          | true => exact absurd (by rw [← decide_eq_true_eq (p := k ∈ inV d), thV_in]; unfold thV; rw [hR, h]; rfl) hk
        have hok : okL d := ⟨rightB_ok hR, hd1⟩
        simp -implicitDefEqProofs only [c3, Doc.enc, Prp.enc, vsts, cnts, prps, List.map_cons, List.map_nil, dDoc_mk, Doc.eta, hdp, dPrp_mk, dCnts_map, dVSts_map, mapO_cnts11, List.take_length, List.length_map, Nat.le_refl, hF, hl, hd1, hl2, hl6, hR, hT, hok, hst, f3, on_gcall, off_gcall, flat_gcall, wpC_seq_areg, wpC_areg, wpFR_nil, wpFR_cons, fluP, fluV, evF, V.allK, V.isK, O.still, okP_none, vP_none, wpC_seq_xreg, wpC_xreg, wpXR_nil, wpXR_own, wpXR_flu, xeOK, xe, argTops, openArgs, Orc.ppre_cons, Orc.pr_cons, Orc.ppre_econs, Orc.pr_econs, Orc.ppre_fcons, Orc.pr_fcons, Orc.ppre_gcons, Orc.pr_gcons, List.head?_cons, List.headD_cons, XE.val, XE.heap, efO, shutArgs, xfoot, footO, V.tops, V.top1, clashOne, noClash, Orc.flat_fcons, Orc.pre_fcons, Orc.v_fcons, Orc.hp_fcons, Orc.qpre_fcons, Orc.qv_fcons, Orc.fpre_fcons, Orc.fes_fcons, Orc.flat_gcons, Orc.pre_gcons, Orc.v_gcons, Orc.hp_gcons, Orc.qpre_gcons, Orc.qv_gcons, Orc.fpre_gcons, Orc.fes_gcons, GSum.pre, GSum.v, GSum.hp, Orc.fpre_cons, Orc.fes_cons, Orc.fpre_econs, Orc.fes_econs, FSum.pre, FSum.v, FSum.hp, fres, O.calls, List.flatMap_cons, List.flatMap_nil, List.contains_cons, List.contains_nil, Bool.not_true, Bool.not_false, Heap.freeze, List.mapIdx_cons, List.mapIdx_nil, List.elem_cons, List.elem_nil, fluP, fluV, evF, bne_iff_ne, ne_eq, Option.some.injEq, go_sem, reduceCtorEq, reduceIte, Nat.reduceEqDiff, Nat.reduceAdd, Nat.reduceSub, Nat.reduceMul, Nat.reduceLT, Nat.reduceLeDiff, Nat.reduceBEq, Int.reduceEq, Int.reduceLT, Int.reduceLE, Int.reduceAdd, Int.reduceSub, Int.reduceNeg, Int.reduceToNat]
        exact ⟨fun q e => hps q (List.mem_singleton.2 e), by omega, by omega⟩
end Go.Proofs.Yteifbbinfipdlaa
