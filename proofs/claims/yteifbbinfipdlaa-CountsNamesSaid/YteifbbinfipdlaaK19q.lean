/- Layer 19: the law of the counters of other names. -/
import Derived.Test.YteifbbinfipdlaaK19p
import Derived.Test.YteifbbinfipdlaaK19n
namespace Go.Proofs.Yteifbbinfipdlaa
open Go.Sx
set_option linter.unusedSimpArgs false
set_option maxHeartbeats 8000000
set_option maxRecDepth 100000

structure NmS where
  k : Nat
  ver : Nat
  clk : Nat
theorem allS_num (d : Doc) (ps : List Prp) : ∀ (ks : List Int) (now : List Cnt), (allS d ps ks now).length = ks.length
  | [], _ => rfl
  | k :: ks, now => by simp only [allS, List.length_cons, allS_num d ps ks]
theorem allC_num (d : Doc) (ps : List Prp) : (allC d ps).length ≤ d.l.length := by
  have := inV_len d
  unfold allC
  split
  · rw [allS_num]; exact this
  · exact Nat.zero_le _
theorem countsNames_law (xs : List V) (hxl : xs.length = 5) (hx : ∀ i c, docC[i]? = some c → CellOK c (xs.getD i .any)) (y : V) (hy : CellOK (.slc propC) y) (z : V) (hz : CellOK .str z) : PCall Try.prog 5 [.agg xs, y, z] (.c (.bool true)) := by
  obtain ⟨d, rfl⟩ := doc_of hxl hx
  obtain ⟨ps, rfl, hps⟩ := prps_of hy
  obtain ⟨nm, rfl⟩ : ∃ nm : ByteArray, z = vs nm := by cases hz; exact ⟨_, rfl⟩
  refine PCall.of (Orc.cons sumAw19 (Orc.cons sumFew19 (Orc.cons sumAllC (Orc.cons sumSome (Orc.cons sumVals (Orc.nil _)))))) c5_ok (by simp [c5]) fun w0 own0 => ?_
  cases hF : few19 d ps
  · simp -implicitDefEqProofs only [c5, Doc.enc, prps, dDoc_mk, Doc.eta, dPrps_map, hF, hps, on_gcall, off_gcall, flat_gcall, go_sem, reduceCtorEq, reduceIte, Nat.reduceEqDiff, Nat.reduceAdd, Nat.reduceSub, Nat.reduceMul, Nat.reduceLT, Nat.reduceLeDiff, Nat.reduceBEq, Int.reduceEq, Int.reduceLT, Int.reduceLE, Int.reduceAdd, Int.reduceSub, Int.reduceNeg, Int.reduceToNat]
    try trivial
  obtain ⟨f1, f2, f3⟩ := few19_ps hF hps
  by_cases hn : (50 : Int) < (nm.size : Int)
  · have hn := eq_true hn
    simp -implicitDefEqProofs only [c5, Doc.enc, prps, dDoc_mk, Doc.eta, dPrps_map, hF, hn, hps, on_gcall, off_gcall, flat_gcall, go_sem, reduceCtorEq, reduceIte, Nat.reduceEqDiff, Nat.reduceAdd, Nat.reduceSub, Nat.reduceMul, Nat.reduceLT, Nat.reduceLeDiff, Nat.reduceBEq, Int.reduceEq, Int.reduceLT, Int.reduceLE, Int.reduceAdd, Int.reduceSub, Int.reduceNeg, Int.reduceToNat]
    try trivial
  have hn := eq_false hn
  have hd1 : d.l.length ≤ 1000 := by omega
  have hd2 : d.l.length ≤ 600 := by omega
  have hp6 : ps.length ≤ 1000000 := by omega
  simp -implicitDefEqProofs only [c5, Doc.enc, prps, css, ints, dDoc_mk, Doc.eta, dPrps_map, hF, hn, hps, hd1, hd2, f3, hp6, on_gcall, off_gcall, flat_gcall, go_sem, reduceCtorEq, reduceIte, Nat.reduceEqDiff, Nat.reduceAdd, Nat.reduceSub, Nat.reduceMul, Nat.reduceLT, Nat.reduceLeDiff, Nat.reduceBEq, Int.reduceEq, Int.reduceLT, Int.reduceLE, Int.reduceAdd, Int.reduceSub, Int.reduceNeg, Int.reduceToNat]
  refine ⟨hps, ?_⟩
  refine SemC.lp (α := NmS) (fun a => [(3, .pp d.enc), (5, .pp [vs nm]), (7, .fn 20 [.pp [vs nm]]), (1, .slc 8 (ps.map Prp.enc)), (8, .ref 2 a.ver 0 a.k), (28, .slc 8 (ps.map Prp.enc)), (29, vi ps.length), (30, vi a.k)])
    (fun a => ⟨[⟨0, 5, [d.enc], true, []⟩, ⟨1, 1, [[vs nm]], true, []⟩, ⟨a.ver, 8, ((ps.take a.k).map (lessP nm)).map Prp.enc, false, [vi 0, vi 0, vs ⟨#[]⟩, vnil, vnil, vnil, vnil, vs ⟨#[]⟩]⟩], a.clk⟩)
    (fun a => a.k ≤ ps.length) (fun a => ps.length - a.k) ⟨0, 2, 3⟩ (Nat.zero_le _)
    (St.seal1 3 (x := .pp d.enc) (by simp only [upd_at, Doc.enc]; rfl) (St.seal1 5 (x := .pp [vs nm]) (by simp only [upd_at]; rfl) (St.seal1 7 (x := .fn 20 [.pp [vs nm]]) (by simp only [upd_at]; rfl) (St.nil 8 8 [vi 0, vi 0, vs ⟨#[]⟩, vnil, vnil, vnil, vnil, vs ⟨#[]⟩] (by simp [upd_at]) (St.cut ?_ ?_ ?_))))) fun a ha => ?_
  · simp [Agrees, upd_at, ev_cons, initE_at, Heap.freeze]
  · simp [Heap.alloc, Heap.freeze, Doc.enc]
  · rfl
  obtain ⟨k, ver, clk⟩ := a
  simp only at ha
  by_cases hk : k = ps.length
  · subst hk
    rw [List.take_length]
    have hlp := lessP_okPs (nm := nm) f3
    have hmo := fun S h => mapO_prps (S := S) (h := h) (ps.map (lessP nm)) (fun p hp => (hlp p hp).1.st)
    have hll : (ps.map (lessP nm)).length ≤ 1000000 := by rw [List.length_map]; exact hp6
    have hlx : ps.length = (ps.map (lessP nm)).length := by rw [List.length_map]
    obtain ⟨hA1, hA2⟩ := allC_of d ps nm
    have hL0 := allC_num d ps
    have hL1 := fun n => allC_len f3 hd1 n
    have hL2 := fun n => allC_len hlp hd1 n
    generalize ps.map (lessP nm) = qs at *
    have hle := eq_true (show ps.length ≤ qs.length by omega)
    have htq : qs.take ps.length = qs := List.take_of_length_le (by omega)
    simp -implicitDefEqProofs only [Int.lt_irrefl, wpC_seq_areg, wpC_areg, wpFR_nil, wpFR_cons, fluP, fluV, evF, V.allK, V.isK, O.still, okP_none, vP_none, Doc.enc, prps, css, dDoc_mk, Doc.eta, dPrps_map, hd1, hd2, f3, hp6, hmo, hlp, hll, hle, htq, on_gcall, off_gcall, flat_gcall, wpC_seq_xreg, wpC_xreg, wpXR_nil, wpXR_own, wpXR_flu, xeOK, xe, argTops, openArgs, Orc.ppre_cons, Orc.pr_cons, Orc.ppre_econs, Orc.pr_econs, Orc.ppre_fcons, Orc.pr_fcons, Orc.ppre_gcons, Orc.pr_gcons, List.head?_cons, List.headD_cons, XE.val, XE.heap, efO, shutArgs, xfoot, footO, V.tops, V.top1, clashOne, noClash, Orc.flat_fcons, Orc.pre_fcons, Orc.v_fcons, Orc.hp_fcons, Orc.qpre_fcons, Orc.qv_fcons, Orc.fpre_fcons, Orc.fes_fcons, Orc.flat_gcons, Orc.pre_gcons, Orc.v_gcons, Orc.hp_gcons, Orc.qpre_gcons, Orc.qv_gcons, Orc.fpre_gcons, Orc.fes_gcons, GSum.pre, GSum.v, GSum.hp, Orc.fpre_cons, Orc.fes_cons, Orc.fpre_econs, Orc.fes_econs, FSum.pre, FSum.v, FSum.hp, fres, O.calls, List.flatMap_cons, List.flatMap_nil, List.contains_cons, List.contains_nil, Bool.not_true, Bool.not_false, Heap.freeze, List.mapIdx_cons, List.mapIdx_nil, List.elem_cons, List.elem_nil, fluP, fluV, evF, bne_iff_ne, ne_eq, Option.some.injEq, go_sem, reduceCtorEq, reduceIte, Nat.reduceEqDiff, Nat.reduceAdd, Nat.reduceSub, Nat.reduceMul, Nat.reduceLT, Nat.reduceLeDiff, Nat.reduceBEq, Int.reduceEq, Int.reduceLT, Int.reduceLE, Int.reduceAdd, Int.reduceSub, Int.reduceNeg, Int.reduceToNat]
    generalize allC d ps = L at *
    generalize allC d qs = M at *
    have hAi : (L.length : Int) = (M.length : Int) := by rw [hA1]
    refine ⟨fun h => h hAi, fun _ => ?_⟩
    refine SemC.lp (α := FwC) (fun a => [(5, .pp [vs nm]), (11, .slc 1 (L.map fun l => [.slc 3 (l.map Cnt.enc)])), (12, .slc 1 (M.map fun l => [.slc 3 (l.map Cnt.enc)])), (62, .slc 1 (L.map fun l => [.slc 3 (l.map Cnt.enc)])), (63, vi L.length), (64, vi a.k)]) (fun a => ⟨[], a.clk⟩)
      (fun a => a.k ≤ L.length) (fun a => L.length - a.k) ⟨0, clk⟩ (Nat.zero_le _) (St.cut ?_ ?_ ?_) fun a ha => ?_
    · simp [Agrees, upd_at, ev_cons]
    · simp
    · rfl
    obtain ⟨k, clk⟩ := a
    simp only at ha
    by_cases hk : k = L.length
    · subst hk
      simp -implicitDefEqProofs only [Int.lt_irrefl, on_gcall, off_gcall, flat_gcall, wpC_seq_xreg, wpC_xreg, wpXR_nil, wpXR_own, wpXR_flu, xeOK, xe, argTops, openArgs, Orc.ppre_cons, Orc.pr_cons, Orc.ppre_econs, Orc.pr_econs, Orc.ppre_fcons, Orc.pr_fcons, Orc.ppre_gcons, Orc.pr_gcons, List.head?_cons, List.headD_cons, XE.val, XE.heap, efO, shutArgs, xfoot, footO, V.tops, V.top1, clashOne, noClash, Orc.flat_fcons, Orc.pre_fcons, Orc.v_fcons, Orc.hp_fcons, Orc.qpre_fcons, Orc.qv_fcons, Orc.fpre_fcons, Orc.fes_fcons, Orc.flat_gcons, Orc.pre_gcons, Orc.v_gcons, Orc.hp_gcons, Orc.qpre_gcons, Orc.qv_gcons, Orc.fpre_gcons, Orc.fes_gcons, GSum.pre, GSum.v, GSum.hp, Orc.fpre_cons, Orc.fes_cons, Orc.fpre_econs, Orc.fes_econs, FSum.pre, FSum.v, FSum.hp, fres, O.calls, List.flatMap_cons, List.flatMap_nil, List.contains_cons, List.contains_nil, Bool.not_true, Bool.not_false, Heap.freeze, List.mapIdx_cons, List.mapIdx_nil, List.elem_cons, List.elem_nil, fluP, fluV, evF, bne_iff_ne, ne_eq, Option.some.injEq, go_sem, reduceCtorEq, reduceIte, Nat.reduceEqDiff, Nat.reduceAdd, Nat.reduceSub, Nat.reduceMul, Nat.reduceLT, Nat.reduceLeDiff, Nat.reduceBEq, Int.reduceEq, Int.reduceLT, Int.reduceLE, Int.reduceAdd, Int.reduceSub, Int.reduceNeg, Int.reduceToNat]
    have k1 : (k : Int) < (L.length : Int) := by omega
    have k2 : (k : Int) < (M.length : Int) := by omega
    have k0 : (0 : Int) ≤ (k : Int) := by omega
    have hg1 := fun z => getD_css L k z (by omega)
    have hg2 := fun z => getD_css M k z (by omega)
    have hv := vals_of (hA2 k)
    have hl0 := hL1 k
    have hl1 : (L.getD k []).length ≤ 1000000 := by omega
    have hl2 : (M.getD k []).length ≤ 1000000 := by have := hL2 k; omega
    obtain ⟨v1, v2⟩ := valsC_len (L.getD k []) nm
    generalize L.getD k [] = l1 at *
    generalize M.getD k [] = l2 at *
    simp -implicitDefEqProofs only [k0, k1, k2, hg1, hg2, hl1, hl2, hv, cnts, ints, dCnts_map, wpC_seq_areg, wpC_areg, wpFR_nil, wpFR_cons, fluP, fluV, evF, V.allK, V.isK, O.still, okP_none, vP_none, on_gcall, off_gcall, flat_gcall, wpC_seq_xreg, wpC_xreg, wpXR_nil, wpXR_own, wpXR_flu, xeOK, xe, argTops, openArgs, Orc.ppre_cons, Orc.pr_cons, Orc.ppre_econs, Orc.pr_econs, Orc.ppre_fcons, Orc.pr_fcons, Orc.ppre_gcons, Orc.pr_gcons, List.head?_cons, List.headD_cons, XE.val, XE.heap, efO, shutArgs, xfoot, footO, V.tops, V.top1, clashOne, noClash, Orc.flat_fcons, Orc.pre_fcons, Orc.v_fcons, Orc.hp_fcons, Orc.qpre_fcons, Orc.qv_fcons, Orc.fpre_fcons, Orc.fes_fcons, Orc.flat_gcons, Orc.pre_gcons, Orc.v_gcons, Orc.hp_gcons, Orc.qpre_gcons, Orc.qv_gcons, Orc.fpre_gcons, Orc.fes_gcons, GSum.pre, GSum.v, GSum.hp, Orc.fpre_cons, Orc.fes_cons, Orc.fpre_econs, Orc.fes_econs, FSum.pre, FSum.v, FSum.hp, fres, O.calls, List.flatMap_cons, List.flatMap_nil, List.contains_cons, List.contains_nil, Bool.not_true, Bool.not_false, Heap.freeze, List.mapIdx_cons, List.mapIdx_nil, List.elem_cons, List.elem_nil, fluP, fluV, evF, bne_iff_ne, ne_eq, Option.some.injEq, go_sem, reduceCtorEq, reduceIte, Nat.reduceEqDiff, Nat.reduceAdd, Nat.reduceSub, Nat.reduceMul, Nat.reduceLT, Nat.reduceLeDiff, Nat.reduceBEq, Int.reduceEq, Int.reduceLT, Int.reduceLE, Int.reduceAdd, Int.reduceSub, Int.reduceNeg, Int.reduceToNat]
    rw [← hv]
    generalize valsC l1 nm = w at *
    refine SemC.lp (α := FwC) (fun a => [(5, .pp [vs nm]), (11, .slc 1 (L.map fun l => [.slc 3 (l.map Cnt.enc)])), (12, .slc 1 (M.map fun l => [.slc 3 (l.map Cnt.enc)])), (62, .slc 1 (L.map fun l => [.slc 3 (l.map Cnt.enc)])), (63, vi L.length), (64, vi k), (14, .slc 1 (w.map fun n => [vi n])), (15, .slc 1 (w.map fun n => [vi n])), (85, vi w.length), (86, vi a.k)]) (fun a => ⟨[], a.clk⟩)
      (fun a => a.k ≤ w.length) (fun a => w.length - a.k) ⟨0, clk⟩ (Nat.zero_le _) (St.cut ?_ ?_ ?_) fun a ha => ?_
    · simp [Agrees, upd_at, ev_cons]
    · simp
    · rfl
    obtain ⟨i, clk⟩ := a
    simp only at ha
    by_cases hi : i = w.length
    · subst hi
      simp -implicitDefEqProofs only [Int.lt_irrefl, on_gcall, off_gcall, flat_gcall, wpC_seq_xreg, wpC_xreg, wpXR_nil, wpXR_own, wpXR_flu, xeOK, xe, argTops, openArgs, Orc.ppre_cons, Orc.pr_cons, Orc.ppre_econs, Orc.pr_econs, Orc.ppre_fcons, Orc.pr_fcons, Orc.ppre_gcons, Orc.pr_gcons, List.head?_cons, List.headD_cons, XE.val, XE.heap, efO, shutArgs, xfoot, footO, V.tops, V.top1, clashOne, noClash, Orc.flat_fcons, Orc.pre_fcons, Orc.v_fcons, Orc.hp_fcons, Orc.qpre_fcons, Orc.qv_fcons, Orc.fpre_fcons, Orc.fes_fcons, Orc.flat_gcons, Orc.pre_gcons, Orc.v_gcons, Orc.hp_gcons, Orc.qpre_gcons, Orc.qv_gcons, Orc.fpre_gcons, Orc.fes_gcons, GSum.pre, GSum.v, GSum.hp, Orc.fpre_cons, Orc.fes_cons, Orc.fpre_econs, Orc.fes_econs, FSum.pre, FSum.v, FSum.hp, fres, O.calls, List.flatMap_cons, List.flatMap_nil, List.contains_cons, List.contains_nil, Bool.not_true, Bool.not_false, Heap.freeze, List.mapIdx_cons, List.mapIdx_nil, List.elem_cons, List.elem_nil, fluP, fluV, evF, bne_iff_ne, ne_eq, Option.some.injEq, go_sem, reduceCtorEq, reduceIte, Nat.reduceEqDiff, Nat.reduceAdd, Nat.reduceSub, Nat.reduceMul, Nat.reduceLT, Nat.reduceLeDiff, Nat.reduceBEq, Int.reduceEq, Int.reduceLT, Int.reduceLE, Int.reduceAdd, Int.reduceSub, Int.reduceNeg, Int.reduceToNat]
      exact ⟨by omega, ⟨k + 1, clk⟩, by dsimp only; omega, by dsimp only; omega, by dsimp only; omega, rfl⟩
    have i1 : (i : Int) < (w.length : Int) := by omega
    have i0 : (0 : Int) ≤ (i : Int) := by omega
    simp -implicitDefEqProofs only [i0, i1, on_gcall, off_gcall, flat_gcall, wpC_seq_xreg, wpC_xreg, wpXR_nil, wpXR_own, wpXR_flu, xeOK, xe, argTops, openArgs, Orc.ppre_cons, Orc.pr_cons, Orc.ppre_econs, Orc.pr_econs, Orc.ppre_fcons, Orc.pr_fcons, Orc.ppre_gcons, Orc.pr_gcons, List.head?_cons, List.headD_cons, XE.val, XE.heap, efO, shutArgs, xfoot, footO, V.tops, V.top1, clashOne, noClash, Orc.flat_fcons, Orc.pre_fcons, Orc.v_fcons, Orc.hp_fcons, Orc.qpre_fcons, Orc.qv_fcons, Orc.fpre_fcons, Orc.fes_fcons, Orc.flat_gcons, Orc.pre_gcons, Orc.v_gcons, Orc.hp_gcons, Orc.qpre_gcons, Orc.qv_gcons, Orc.fpre_gcons, Orc.fes_gcons, GSum.pre, GSum.v, GSum.hp, Orc.fpre_cons, Orc.fes_cons, Orc.fpre_econs, Orc.fes_econs, FSum.pre, FSum.v, FSum.hp, fres, O.calls, List.flatMap_cons, List.flatMap_nil, List.contains_cons, List.contains_nil, Bool.not_true, Bool.not_false, Heap.freeze, List.mapIdx_cons, List.mapIdx_nil, List.elem_cons, List.elem_nil, fluP, fluV, evF, bne_iff_ne, ne_eq, Option.some.injEq, go_sem, reduceCtorEq, reduceIte, Nat.reduceEqDiff, Nat.reduceAdd, Nat.reduceSub, Nat.reduceMul, Nat.reduceLT, Nat.reduceLeDiff, Nat.reduceBEq, Int.reduceEq, Int.reduceLT, Int.reduceLE, Int.reduceAdd, Int.reduceSub, Int.reduceNeg, Int.reduceToNat]
    exact ⟨by omega, ⟨i + 1, clk⟩, by dsimp only; omega, by dsimp only; omega, by dsimp only; omega, rfl⟩
  have k1 : (k : Int) < (ps.length : Int) := by omega
  have k0 : (0 : Int) ≤ (k : Int) := by omega
  have hgp := fun z => getD_prps ps k z (by omega)
  have hp := f3 (ps.getD k .zero) (by rw [List.getD_eq_getElem?_getD, List.getElem?_eq_getElem (by omega)]; exact List.getElem_mem _)
  have htk : (ps.take (k + 1)).map (lessP nm) = (ps.take k).map (lessP nm) ++ [lessP nm (ps.getD k .zero)] := by
    rw [List.take_add_one, List.map_append, List.getD_eq_getElem?_getD, List.getElem?_eq_getElem (by omega)]; rfl
  generalize ps.getD k .zero = p at *
  obtain ⟨⟨⟨p1, p1'⟩, ⟨p2, p2'⟩, ⟨p3, p3'⟩, p4⟩, q1, q2, q3⟩ := hp
  obtain ⟨pb, pa, pg, pr, pi, pss, pst, prun⟩ := p
  simp only at p1 p2 p3 p4 q1 q2 q3
  have l1 : pr.length ≤ 1000000 := by omega
  have l2 : pi.length ≤ 1000000 := by omega
  have l3 : pss.length ≤ 1000000 := by omega
  have htl : (((ps.take k).map (lessP nm)).map Prp.enc).take k = ((ps.take k).map (lessP nm)).map Prp.enc := List.take_of_length_le (by simp; omega)
  have hxx : (∃ m es, pst = .slc m es) ∨ pst = vnil := by rcases p4 with h | h; exact .inr h; exact .inl h
  rcases hxx with ⟨mm, ees, rfl⟩ | rfl
  · simp -implicitDefEqProofs only [k0, k1, hgp, wpC_seq_areg, wpC_areg, wpFR_nil, wpFR_cons, fluP, fluV, evF, V.allK, V.isK, O.still, okP_none, vP_none, Prp.enc, vsts, dVSts_map, p1, p2, p3, l1, l2, l3, htl, on_gcall, off_gcall, flat_gcall, wpC_seq_xreg, wpC_xreg, wpXR_nil, wpXR_own, wpXR_flu, xeOK, xe, argTops, openArgs, Orc.ppre_cons, Orc.pr_cons, Orc.ppre_econs, Orc.pr_econs, Orc.ppre_fcons, Orc.pr_fcons, Orc.ppre_gcons, Orc.pr_gcons, List.head?_cons, List.headD_cons, XE.val, XE.heap, efO, shutArgs, xfoot, footO, V.tops, V.top1, clashOne, noClash, Orc.flat_fcons, Orc.pre_fcons, Orc.v_fcons, Orc.hp_fcons, Orc.qpre_fcons, Orc.qv_fcons, Orc.fpre_fcons, Orc.fes_fcons, Orc.flat_gcons, Orc.pre_gcons, Orc.v_gcons, Orc.hp_gcons, Orc.qpre_gcons, Orc.qv_gcons, Orc.fpre_gcons, Orc.fes_gcons, GSum.pre, GSum.v, GSum.hp, Orc.fpre_cons, Orc.fes_cons, Orc.fpre_econs, Orc.fes_econs, FSum.pre, FSum.v, FSum.hp, fres, O.calls, List.flatMap_cons, List.flatMap_nil, List.contains_cons, List.contains_nil, Bool.not_true, Bool.not_false, Heap.freeze, List.mapIdx_cons, List.mapIdx_nil, List.elem_cons, List.elem_nil, fluP, fluV, evF, bne_iff_ne, ne_eq, Option.some.injEq, go_sem, reduceCtorEq, reduceIte, Nat.reduceEqDiff, Nat.reduceAdd, Nat.reduceSub, Nat.reduceMul, Nat.reduceLT, Nat.reduceLeDiff, Nat.reduceBEq, Int.reduceEq, Int.reduceLT, Int.reduceLE, Int.reduceAdd, Int.reduceSub, Int.reduceNeg, Int.reduceToNat]
    exact ⟨⟨by rw [List.length_take]; omega, by omega, by omega⟩, by omega, ⟨k + 1, _, _⟩, by dsimp only; omega, by dsimp only; omega, ⟨⟨rfl, rfl⟩, by dsimp only; omega⟩, ⟨rfl, by dsimp only; rw [htk, List.map_append]; rfl⟩, rfl⟩
  · simp -implicitDefEqProofs only [k0, k1, hgp, wpC_seq_areg, wpC_areg, wpFR_nil, wpFR_cons, fluP, fluV, evF, V.allK, V.isK, O.still, okP_none, vP_none, Prp.enc, vsts, dVSts_map, p1, p2, p3, l1, l2, l3, htl, on_gcall, off_gcall, flat_gcall, wpC_seq_xreg, wpC_xreg, wpXR_nil, wpXR_own, wpXR_flu, xeOK, xe, argTops, openArgs, Orc.ppre_cons, Orc.pr_cons, Orc.ppre_econs, Orc.pr_econs, Orc.ppre_fcons, Orc.pr_fcons, Orc.ppre_gcons, Orc.pr_gcons, List.head?_cons, List.headD_cons, XE.val, XE.heap, efO, shutArgs, xfoot, footO, V.tops, V.top1, clashOne, noClash, Orc.flat_fcons, Orc.pre_fcons, Orc.v_fcons, Orc.hp_fcons, Orc.qpre_fcons, Orc.qv_fcons, Orc.fpre_fcons, Orc.fes_fcons, Orc.flat_gcons, Orc.pre_gcons, Orc.v_gcons, Orc.hp_gcons, Orc.qpre_gcons, Orc.qv_gcons, Orc.fpre_gcons, Orc.fes_gcons, GSum.pre, GSum.v, GSum.hp, Orc.fpre_cons, Orc.fes_cons, Orc.fpre_econs, Orc.fes_econs, FSum.pre, FSum.v, FSum.hp, fres, O.calls, List.flatMap_cons, List.flatMap_nil, List.contains_cons, List.contains_nil, Bool.not_true, Bool.not_false, Heap.freeze, List.mapIdx_cons, List.mapIdx_nil, List.elem_cons, List.elem_nil, fluP, fluV, evF, bne_iff_ne, ne_eq, Option.some.injEq, go_sem, reduceCtorEq, reduceIte, Nat.reduceEqDiff, Nat.reduceAdd, Nat.reduceSub, Nat.reduceMul, Nat.reduceLT, Nat.reduceLeDiff, Nat.reduceBEq, Int.reduceEq, Int.reduceLT, Int.reduceLE, Int.reduceAdd, Int.reduceSub, Int.reduceNeg, Int.reduceToNat]
    exact ⟨⟨by rw [List.length_take]; omega, by omega, by omega⟩, by omega, ⟨k + 1, _, _⟩, by dsimp only; omega, by dsimp only; omega, ⟨⟨rfl, rfl⟩, by dsimp only; omega⟩, ⟨rfl, by dsimp only; rw [htk, List.map_append]; rfl⟩, rfl⟩
end Go.Proofs.Yteifbbinfipdlaa
