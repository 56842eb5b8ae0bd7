/- Layer 19: the document's own step. -/
import Derived.Test.YteifbbinfipdlaaK19t
namespace Go.Proofs.Yteifbbinfipdlaa
open Go.Sx
set_option linter.unusedSimpArgs false
set_option linter.unusedVariables false
set_option maxHeartbeats 8000000
set_option maxRecDepth 100000

theorem keep_take {d : Doc} {k : Int} {l : List Cnt} {j : Nat} (h : j < l.length) : keepC d k (l.take (j + 1)) = if seenB d (l.getD j .zero) k = true then keepC d k (l.take j) ++ [l.getD j .zero] else keepC d k (l.take j) := by
  rw [take_cnt l j h]
  unfold keepC
  rw [List.filter_append]
  by_cases hs : seenB d (l.getD j .zero) k = true
  · rw [if_pos hs, List.filter_cons_of_pos (by simpa using hs)]; rfl
  · rw [if_neg hs, List.filter_cons_of_neg (by simpa using hs)]; simp
structure S19 where
  j : Nat
  l : List Cnt
  ver : Nat
  clk : Nat
theorem stepR_ok (d : Doc) (k : Int) (l : List Cnt) (r i s : List VSt) (hL : okL d) (h0 : 0 ≤ k) (h1 : k < d.l.length) (hl : l.length ≤ 20000) (hr : okS r ∧ r.length ≤ 10000) (hi : okS i ∧ i.length ≤ 10000) (hs : okS s ∧ s.length ≤ 10000) :
    PCall Try.prog 15 [cnts l, .agg d.enc, vsts r, vsts i, vsts s, vi k] (cnts (chgA (fun _ b => stopI b) d k (chgA addI d k (rstA d k (keepC d k l) r) i) s)) := by
  refine PCall.of (Orc.gcons sumMadeG (Orc.cons sumIn (Orc.cons sumAtR (Orc.cons sumAddR (Orc.cons sumStopR (Orc.nil _)))))) c15_ok (by simp [c15]) fun w0 own0 => ?_
  have hd6 : d.l.length ≤ 1000000 := by have := hL.2; omega
  simp -implicitDefEqProofs only [c15, cnts, vsts, Doc.enc, on_gcall, off_gcall, flat_gcall, GSum.pre, GSum.v, GSum.hp, wpC_seq_xreg, wpC_xreg, wpXR_nil, wpXR_own, wpXR_flu, xeOK, xe, argTops, openArgs, Orc.ppre_cons, Orc.pr_cons, Orc.ppre_econs, Orc.pr_econs, Orc.ppre_fcons, Orc.pr_fcons, Orc.ppre_gcons, Orc.pr_gcons, List.head?_cons, List.headD_cons, XE.val, XE.heap, efO, shutArgs, xfoot, footO, V.tops, V.top1, clashOne, noClash, Orc.flat_fcons, Orc.pre_fcons, Orc.v_fcons, Orc.hp_fcons, Orc.qpre_fcons, Orc.qv_fcons, Orc.fpre_fcons, Orc.fes_fcons, Orc.flat_gcons, Orc.pre_gcons, Orc.v_gcons, Orc.hp_gcons, Orc.qpre_gcons, Orc.qv_gcons, Orc.fpre_gcons, Orc.fes_gcons, GSum.pre, GSum.v, GSum.hp, Orc.fpre_cons, Orc.fes_cons, Orc.fpre_econs, Orc.fes_econs, FSum.pre, FSum.v, FSum.hp, fres, O.calls, List.flatMap_cons, List.flatMap_nil, List.contains_cons, List.contains_nil, Bool.not_true, Bool.not_false, Heap.freeze, List.mapIdx_cons, List.mapIdx_nil, List.elem_cons, List.elem_nil, fluP, fluV, evF, bne_iff_ne, ne_eq, Option.some.injEq, go_sem, reduceCtorEq, reduceIte, Nat.reduceEqDiff, Nat.reduceAdd, Nat.reduceSub, Nat.reduceMul, Nat.reduceLT, Nat.reduceLeDiff, Nat.reduceBEq, Int.reduceEq, Int.reduceLT, Int.reduceLE, Int.reduceAdd, Int.reduceSub, Int.reduceNeg, Int.reduceToNat]
  refine SemC.lp (α := S19) (fun a => [(0, .slc 3 (l.map Cnt.enc)), (2, .slc 3 (r.map VSt.enc)), (3, .slc 3 (i.map VSt.enc)), (4, .slc 3 (s.map VSt.enc)), (5, vi k), (7, .ptr 0 0 0 0), (13, .ref 1 a.ver 0 (keepC d k (l.take a.j)).length), (14, vi a.j)])
    (fun a => ⟨[⟨0, 5, [d.enc], false, []⟩, ⟨a.ver, 3, (keepC d k (l.take a.j)).map Cnt.enc, false, [vs ⟨#[]⟩, vi 0, vi 0]⟩], a.clk⟩) (fun a => a.j ≤ l.length) (fun a => l.length - a.j) ⟨0, [], 1, 2⟩ (Nat.zero_le _)
    (St.nil 13 3 [vs ⟨#[]⟩, vi 0, vi 0] (by simp [upd_at]) (St.cut ?_ ?_ ?_)) fun a ha => ?_
  · simp [Agrees, upd_at, initE_at, keepC]
  · simp [Heap.alloc, keepC, Doc.enc]
  · rfl
  obtain ⟨j, _, ver, clk⟩ := a
  simp only at ha
  have hkl := keepC_len d k (l.take j)
  have hkl2 : (l.take j).length ≤ j := by rw [List.length_take]; omega
  by_cases hj : j = l.length
  · subst hj
    rw [List.take_length]
    simp -implicitDefEqProofs only [Int.lt_irrefl, on_gcall, off_gcall, flat_gcall, GSum.pre, GSum.v, GSum.hp, wpC_seq_xreg, wpC_xreg, wpXR_nil, wpXR_own, wpXR_flu, xeOK, xe, argTops, openArgs, Orc.ppre_cons, Orc.pr_cons, Orc.ppre_econs, Orc.pr_econs, Orc.ppre_fcons, Orc.pr_fcons, Orc.ppre_gcons, Orc.pr_gcons, List.head?_cons, List.headD_cons, XE.val, XE.heap, efO, shutArgs, xfoot, footO, V.tops, V.top1, clashOne, noClash, Orc.flat_fcons, Orc.pre_fcons, Orc.v_fcons, Orc.hp_fcons, Orc.qpre_fcons, Orc.qv_fcons, Orc.fpre_fcons, Orc.fes_fcons, Orc.flat_gcons, Orc.pre_gcons, Orc.v_gcons, Orc.hp_gcons, Orc.qpre_gcons, Orc.qv_gcons, Orc.fpre_gcons, Orc.fes_gcons, GSum.pre, GSum.v, GSum.hp, Orc.fpre_cons, Orc.fes_cons, Orc.fpre_econs, Orc.fes_econs, FSum.pre, FSum.v, FSum.hp, fres, O.calls, List.flatMap_cons, List.flatMap_nil, List.contains_cons, List.contains_nil, Bool.not_true, Bool.not_false, Heap.freeze, List.mapIdx_cons, List.mapIdx_nil, List.elem_cons, List.elem_nil, fluP, fluV, evF, bne_iff_ne, ne_eq, Option.some.injEq, go_sem, reduceCtorEq, reduceIte, Nat.reduceEqDiff, Nat.reduceAdd, Nat.reduceSub, Nat.reduceMul, Nat.reduceLT, Nat.reduceLeDiff, Nat.reduceBEq, Int.reduceEq, Int.reduceLT, Int.reduceLE, Int.reduceAdd, Int.reduceSub, Int.reduceNeg, Int.reduceToNat]
    have hA1 : okMk d (keepC d k l) := keepC_mk (by omega)
    have hAl : (keepC d k l).length ≤ l.length := List.length_filter_le _ _
    generalize keepC d k l = l1 at *
    clear hkl hkl2 ha
    refine SemC.lq (α := S19) (fun a => [(2, .slc 3 (r.map VSt.enc)), (3, .slc 3 (i.map VSt.enc)), (4, .slc 3 (s.map VSt.enc)), (5, vi k), (7, .ptr 0 0 0 0), (13, .ref 1 a.ver 0 a.l.length), (16, vi a.j)])
      (fun a => ⟨[⟨0, 5, [d.enc], false, []⟩, ⟨a.ver, 3, a.l.map Cnt.enc, false, [vs ⟨#[]⟩, vi 0, vi 0]⟩], a.clk⟩)
      (fun a => a.j ≤ r.length ∧ rstA d k a.l (r.drop a.j) = rstA d k l1 r ∧ okMk d a.l ∧ a.l.length + (r.length - a.j) ≤ 30000) (fun a => r.length - a.j) ⟨0, l1, ver, clk⟩ ⟨Nat.zero_le _, rfl, hA1, by dsimp only; omega⟩ (St.cut ?_ ?_ ?_) fun a ha => ?_
    · simp [Agrees, upd_at, ev_cons]
    · simp [Doc.enc]
    · rfl
    obtain ⟨j, l2, ver, clk⟩ := a
    obtain ⟨a1, a2, a3, a4⟩ := ha
    simp only at a1 a2 a3 a4
    by_cases hj : j = r.length
    · subst hj
      rw [List.drop_length] at a2
      have a2 : l2 = rstA d k l1 r := a2
      rw [← a2]
      simp -implicitDefEqProofs only [Int.lt_irrefl, lqQ_normal, lqQ_exit, lqQ_ret, Doc.enc, on_gcall, off_gcall, flat_gcall, GSum.pre, GSum.v, GSum.hp, wpC_seq_xreg, wpC_xreg, wpXR_nil, wpXR_own, wpXR_flu, xeOK, xe, argTops, openArgs, Orc.ppre_cons, Orc.pr_cons, Orc.ppre_econs, Orc.pr_econs, Orc.ppre_fcons, Orc.pr_fcons, Orc.ppre_gcons, Orc.pr_gcons, List.head?_cons, List.headD_cons, XE.val, XE.heap, efO, shutArgs, xfoot, footO, V.tops, V.top1, clashOne, noClash, Orc.flat_fcons, Orc.pre_fcons, Orc.v_fcons, Orc.hp_fcons, Orc.qpre_fcons, Orc.qv_fcons, Orc.fpre_fcons, Orc.fes_fcons, Orc.flat_gcons, Orc.pre_gcons, Orc.v_gcons, Orc.hp_gcons, Orc.qpre_gcons, Orc.qv_gcons, Orc.fpre_gcons, Orc.fes_gcons, GSum.pre, GSum.v, GSum.hp, Orc.fpre_cons, Orc.fes_cons, Orc.fpre_econs, Orc.fes_econs, FSum.pre, FSum.v, FSum.hp, fres, O.calls, List.flatMap_cons, List.flatMap_nil, List.contains_cons, List.contains_nil, Bool.not_true, Bool.not_false, Heap.freeze, List.mapIdx_cons, List.mapIdx_nil, List.elem_cons, List.elem_nil, fluP, fluV, evF, bne_iff_ne, ne_eq, Option.some.injEq, go_sem, reduceCtorEq, reduceIte, Nat.reduceEqDiff, Nat.reduceAdd, Nat.reduceSub, Nat.reduceMul, Nat.reduceLT, Nat.reduceLeDiff, Nat.reduceBEq, Int.reduceEq, Int.reduceLT, Int.reduceLE, Int.reduceAdd, Int.reduceSub, Int.reduceNeg, Int.reduceToNat]
      refine SemC.lq (α := S19) (fun a => [(3, .slc 3 (i.map VSt.enc)), (4, .slc 3 (s.map VSt.enc)), (5, vi k), (7, .ptr 0 0 0 0), (13, .ref 1 a.ver 0 a.l.length), (17, vi a.j)])
        (fun a => ⟨[⟨0, 5, [d.enc], false, []⟩, ⟨a.ver, 3, a.l.map Cnt.enc, false, [vs ⟨#[]⟩, vi 0, vi 0]⟩], a.clk⟩)
        (fun a => a.j ≤ i.length ∧ chgA addI d k a.l (i.drop a.j) = chgA addI d k l2 i ∧ okMk d a.l ∧ a.l.length + (i.length - a.j) ≤ 50000) (fun a => i.length - a.j) ⟨0, l2, ver, clk⟩ ⟨Nat.zero_le _, rfl, a3, by dsimp only; omega⟩ (St.cut ?_ ?_ ?_) fun a ha => ?_
      · simp [Agrees, upd_at, ev_cons]
      · simp [Doc.enc]
      · rfl
      clear a1 a2 a3 a4
      obtain ⟨j, l3, ver, clk⟩ := a
      obtain ⟨a1, a2, a3, a4⟩ := ha
      simp only at a1 a2 a3 a4
      by_cases hj : j = i.length
      · subst hj
        rw [List.drop_length] at a2
        have a2 : l3 = chgA addI d k l2 i := a2
        rw [← a2]
        simp -implicitDefEqProofs only [Int.lt_irrefl, lqQ_normal, lqQ_exit, lqQ_ret, Doc.enc, on_gcall, off_gcall, flat_gcall, GSum.pre, GSum.v, GSum.hp, wpC_seq_xreg, wpC_xreg, wpXR_nil, wpXR_own, wpXR_flu, xeOK, xe, argTops, openArgs, Orc.ppre_cons, Orc.pr_cons, Orc.ppre_econs, Orc.pr_econs, Orc.ppre_fcons, Orc.pr_fcons, Orc.ppre_gcons, Orc.pr_gcons, List.head?_cons, List.headD_cons, XE.val, XE.heap, efO, shutArgs, xfoot, footO, V.tops, V.top1, clashOne, noClash, Orc.flat_fcons, Orc.pre_fcons, Orc.v_fcons, Orc.hp_fcons, Orc.qpre_fcons, Orc.qv_fcons, Orc.fpre_fcons, Orc.fes_fcons, Orc.flat_gcons, Orc.pre_gcons, Orc.v_gcons, Orc.hp_gcons, Orc.qpre_gcons, Orc.qv_gcons, Orc.fpre_gcons, Orc.fes_gcons, GSum.pre, GSum.v, GSum.hp, Orc.fpre_cons, Orc.fes_cons, Orc.fpre_econs, Orc.fes_econs, FSum.pre, FSum.v, FSum.hp, fres, O.calls, List.flatMap_cons, List.flatMap_nil, List.contains_cons, List.contains_nil, Bool.not_true, Bool.not_false, Heap.freeze, List.mapIdx_cons, List.mapIdx_nil, List.elem_cons, List.elem_nil, fluP, fluV, evF, bne_iff_ne, ne_eq, Option.some.injEq, go_sem, reduceCtorEq, reduceIte, Nat.reduceEqDiff, Nat.reduceAdd, Nat.reduceSub, Nat.reduceMul, Nat.reduceLT, Nat.reduceLeDiff, Nat.reduceBEq, Int.reduceEq, Int.reduceLT, Int.reduceLE, Int.reduceAdd, Int.reduceSub, Int.reduceNeg, Int.reduceToNat]
        refine SemC.lq (α := S19) (fun a => [(4, .slc 3 (s.map VSt.enc)), (5, vi k), (7, .ptr 0 0 0 0), (13, .ref 1 a.ver 0 a.l.length), (20, vi a.j)])
          (fun a => ⟨[⟨0, 5, [d.enc], false, []⟩, ⟨a.ver, 3, a.l.map Cnt.enc, false, [vs ⟨#[]⟩, vi 0, vi 0]⟩], a.clk⟩)
          (fun a => a.j ≤ s.length ∧ chgA (fun _ b => stopI b) d k a.l (s.drop a.j) = chgA (fun _ b => stopI b) d k l3 s ∧ okMk d a.l ∧ a.l.length + (s.length - a.j) ≤ 70000) (fun a => s.length - a.j) ⟨0, l3, ver, clk⟩ ⟨Nat.zero_le _, rfl, a3, by dsimp only; omega⟩ (St.cut ?_ ?_ ?_) fun a ha => ?_
        · simp [Agrees, upd_at, ev_cons]
        · simp [Doc.enc]
        · rfl
        clear a1 a2 a3 a4
        obtain ⟨j, l4, ver, clk⟩ := a
        obtain ⟨a1, a2, a3, a4⟩ := ha
        simp only at a1 a2 a3 a4
        by_cases hj : j = s.length
        · subst hj
          rw [List.drop_length] at a2
          have a2 : l4 = chgA (fun _ b => stopI b) d k l3 s := a2
          rw [← a2]
          simp -implicitDefEqProofs only [Int.lt_irrefl, List.length_map, List.take_length, Nat.le_refl, mapO_cnts11, cnts, lqQ_normal, lqQ_exit, lqQ_ret, Doc.enc, on_gcall, off_gcall, flat_gcall, GSum.pre, GSum.v, GSum.hp, wpC_seq_xreg, wpC_xreg, wpXR_nil, wpXR_own, wpXR_flu, xeOK, xe, argTops, openArgs, Orc.ppre_cons, Orc.pr_cons, Orc.ppre_econs, Orc.pr_econs, Orc.ppre_fcons, Orc.pr_fcons, Orc.ppre_gcons, Orc.pr_gcons, List.head?_cons, List.headD_cons, XE.val, XE.heap, efO, shutArgs, xfoot, footO, V.tops, V.top1, clashOne, noClash, Orc.flat_fcons, Orc.pre_fcons, Orc.v_fcons, Orc.hp_fcons, Orc.qpre_fcons, Orc.qv_fcons, Orc.fpre_fcons, Orc.fes_fcons, Orc.flat_gcons, Orc.pre_gcons, Orc.v_gcons, Orc.hp_gcons, Orc.qpre_gcons, Orc.qv_gcons, Orc.fpre_gcons, Orc.fes_gcons, GSum.pre, GSum.v, GSum.hp, Orc.fpre_cons, Orc.fes_cons, Orc.fpre_econs, Orc.fes_econs, FSum.pre, FSum.v, FSum.hp, fres, O.calls, List.flatMap_cons, List.flatMap_nil, List.contains_cons, List.contains_nil, Bool.not_true, Bool.not_false, Heap.freeze, List.mapIdx_cons, List.mapIdx_nil, List.elem_cons, List.elem_nil, fluP, fluV, evF, bne_iff_ne, ne_eq, Option.some.injEq, go_sem, reduceCtorEq, reduceIte, Nat.reduceEqDiff, Nat.reduceAdd, Nat.reduceSub, Nat.reduceMul, Nat.reduceLT, Nat.reduceLeDiff, Nat.reduceBEq, Int.reduceEq, Int.reduceLT, Int.reduceLE, Int.reduceAdd, Int.reduceSub, Int.reduceNeg, Int.reduceToNat]
        have j1 : (j : Int) < (s.length : Int) := by omega
        have j0 : (0 : Int) ≤ (j : Int) := by omega
        have hsj := fun z => getD_vsts s j z (by omega)
        have hdj : s.drop j = s.getD j .zero :: s.drop (j + 1) := by
          rw [List.drop_eq_getElem_cons (by omega), List.getD_eq_getElem?_getD, List.getElem?_eq_getElem (by omega)]; rfl
        rw [hdj] at a2
        have hxs : okX (s.getD j .zero).x := hs.1 _ (by rw [List.getD_eq_getElem?_getD, List.getElem?_eq_getElem (by omega)]; exact List.getElem_mem _)
        generalize s.getD j .zero = x at *
        obtain ⟨nm, n, x⟩ := x
        simp only at hxs
        have hxx : (∃ m es, x = .slc m es) ∨ x = vnil := by rcases hxs with h | h; exact .inr h; exact .inl h
        obtain ⟨b1, b2⟩ := chg1_mk (F := (fun _ b => stopI b)) (s := ⟨nm, n, x⟩) a3 h0 h1
        have fin : ∃ b : Nat × List Cnt, (b.1 ≤ s.length ∧ chgA (fun _ b => stopI b) d k b.2 (s.drop b.1) = chgA (fun _ b => stopI b) d k l3 s ∧ okMk d b.2 ∧ b.2.length + (s.length - b.1) ≤ 70000) ∧ s.length - b.1 < s.length - j ∧ b.1 = j + 1 ∧ b.2 = chg1 (fun _ b => stopI b) d k l4 ⟨nm, n, x⟩ :=
          ⟨(j + 1, chg1 (fun _ b => stopI b) d k l4 ⟨nm, n, x⟩), ⟨by dsimp only; omega, a2, b1, by dsimp only; omega⟩, by dsimp only; omega, rfl, rfl⟩
        obtain ⟨⟨bj, bl⟩, f1, f2, f3, f4⟩ := fin
        simp only at f1 f2 f3 f4
        obtain ⟨aa, ha1, ha2⟩ := chgL_at d k l4 nm
        have hl5 : l4.length ≤ 100000 := by omega
        have hl6 : l4.length ≤ 1000000 := by omega
        have htl : (l4.map Cnt.enc).take l4.length = l4.map Cnt.enc := List.take_of_length_le (by simp)
        by_cases hneg : lastC l4 nm < 0
        · have hcl : chgL d k l4 nm = rstC d k l4 nm 0 := by unfold chgL; rw [if_pos hneg]
          have hrl := (rstC_mk (d := d) (k := k) (l := l4) (nm := nm) (n := 0) a3 h0 h1).2
          have hc1 : chg1 (fun _ b => stopI b) d k l4 ⟨nm, n, x⟩ = (rstC d k l4 nm 0).set aa ⟨((rstC d k l4 nm 0).getD aa .zero).name, (fun _ b => stopI b) ((rstC d k l4 nm 0).getD aa .zero).n n, ((rstC d k l4 nm 0).getD aa .zero).maker⟩ := by
            unfold chg1; rw [ha1, hcl, Int.toNat_natCast]
          rw [hcl] at ha1 ha2
          generalize hq : rstC d k l4 nm 0 = lq at *
          have hg := getD_cnts lq aa
          have a0' : (0 : Int) ≤ (aa : Int) := by omega
          have a1' : (aa : Int) < (lq.length : Int) := by omega
          have hq6 : lq.length ≤ 1000000 := by omega
          have htq : (lq.map Cnt.enc).take lq.length = lq.map Cnt.enc := List.take_of_length_le (by simp)
          have hneg := eq_true hneg
          generalize lq.getD aa .zero = c at *
          obtain ⟨cn, cv, cm⟩ := c
          rcases hxx with ⟨m, es, rfl⟩ | rfl
          · simp -implicitDefEqProofs only [j0, j1, hsj, hl5, hl6, htl, hneg, hq, hq6, htq, ha1, a0', a1', hg, a3, h0, h1, VSt.enc, Cnt.enc, Doc.enc, cnts, dCnts_map, dDoc_mk, Doc.eta, mapO_cnts11, List.length_map, Nat.le_refl, List.take_length, lqQ_normal, lqQ_exit, lqQ_ret, wpC_seq_areg, wpC_areg, wpFR_nil, wpFR_cons, fluP, fluV, evF, V.allK, V.isK, O.still, okP_none, vP_none, on_gcall, off_gcall, flat_gcall, GSum.pre, GSum.v, GSum.hp, wpC_seq_xreg, wpC_xreg, wpXR_nil, wpXR_own, wpXR_flu, xeOK, xe, argTops, openArgs, Orc.ppre_cons, Orc.pr_cons, Orc.ppre_econs, Orc.pr_econs, Orc.ppre_fcons, Orc.pr_fcons, Orc.ppre_gcons, Orc.pr_gcons, List.head?_cons, List.headD_cons, XE.val, XE.heap, efO, shutArgs, xfoot, footO, V.tops, V.top1, clashOne, noClash, Orc.flat_fcons, Orc.pre_fcons, Orc.v_fcons, Orc.hp_fcons, Orc.qpre_fcons, Orc.qv_fcons, Orc.fpre_fcons, Orc.fes_fcons, Orc.flat_gcons, Orc.pre_gcons, Orc.v_gcons, Orc.hp_gcons, Orc.qpre_gcons, Orc.qv_gcons, Orc.fpre_gcons, Orc.fes_gcons, GSum.pre, GSum.v, GSum.hp, Orc.fpre_cons, Orc.fes_cons, Orc.fpre_econs, Orc.fes_econs, FSum.pre, FSum.v, FSum.hp, fres, O.calls, List.flatMap_cons, List.flatMap_nil, List.contains_cons, List.contains_nil, Bool.not_true, Bool.not_false, Heap.freeze, List.mapIdx_cons, List.mapIdx_nil, List.elem_cons, List.elem_nil, fluP, fluV, evF, bne_iff_ne, ne_eq, Option.some.injEq, go_sem, reduceCtorEq, reduceIte, Nat.reduceEqDiff, Nat.reduceAdd, Nat.reduceSub, Nat.reduceMul, Nat.reduceLT, Nat.reduceLeDiff, Nat.reduceBEq, Int.reduceEq, Int.reduceLT, Int.reduceLE, Int.reduceAdd, Int.reduceSub, Int.reduceNeg, Int.reduceToNat]
            refine ⟨ha2, by omega, ⟨bj, bl, clk + 2, clk + 3⟩, f1, f2, St.shiftT 13 1 3 2 (B := ⟨clk + 1, 3, (lq.map Cnt.enc).set aa [vs cn, vi (stopI n), vi cm], false, [vs ⟨#[]⟩, vi 0, vi 0]⟩) (v := clk + 1) (off := 0) (n := lq.length) rfl ?_ rfl (by decide) (by decide) (by dsimp only [List.length_cons, List.length_nil]; decide) (St.cut ?_ ?_ ?_)⟩
            · simp [upd_at]
            · rw [f4, hc1, f3]; simp [Agrees, upd_at, ev_cons]
            · dsimp only; rw [f4, hc1, List.map_set]; rfl
            · rfl
          · simp -implicitDefEqProofs only [j0, j1, hsj, hl5, hl6, htl, hneg, hq, hq6, htq, ha1, a0', a1', hg, a3, h0, h1, VSt.enc, Cnt.enc, Doc.enc, cnts, dCnts_map, dDoc_mk, Doc.eta, mapO_cnts11, List.length_map, Nat.le_refl, List.take_length, lqQ_normal, lqQ_exit, lqQ_ret, wpC_seq_areg, wpC_areg, wpFR_nil, wpFR_cons, fluP, fluV, evF, V.allK, V.isK, O.still, okP_none, vP_none, on_gcall, off_gcall, flat_gcall, GSum.pre, GSum.v, GSum.hp, wpC_seq_xreg, wpC_xreg, wpXR_nil, wpXR_own, wpXR_flu, xeOK, xe, argTops, openArgs, Orc.ppre_cons, Orc.pr_cons, Orc.ppre_econs, Orc.pr_econs, Orc.ppre_fcons, Orc.pr_fcons, Orc.ppre_gcons, Orc.pr_gcons, List.head?_cons, List.headD_cons, XE.val, XE.heap, efO, shutArgs, xfoot, footO, V.tops, V.top1, clashOne, noClash, Orc.flat_fcons, Orc.pre_fcons, Orc.v_fcons, Orc.hp_fcons, Orc.qpre_fcons, Orc.qv_fcons, Orc.fpre_fcons, Orc.fes_fcons, Orc.flat_gcons, Orc.pre_gcons, Orc.v_gcons, Orc.hp_gcons, Orc.qpre_gcons, Orc.qv_gcons, Orc.fpre_gcons, Orc.fes_gcons, GSum.pre, GSum.v, GSum.hp, Orc.fpre_cons, Orc.fes_cons, Orc.fpre_econs, Orc.fes_econs, FSum.pre, FSum.v, FSum.hp, fres, O.calls, List.flatMap_cons, List.flatMap_nil, List.contains_cons, List.contains_nil, Bool.not_true, Bool.not_false, Heap.freeze, List.mapIdx_cons, List.mapIdx_nil, List.elem_cons, List.elem_nil, fluP, fluV, evF, bne_iff_ne, ne_eq, Option.some.injEq, go_sem, reduceCtorEq, reduceIte, Nat.reduceEqDiff, Nat.reduceAdd, Nat.reduceSub, Nat.reduceMul, Nat.reduceLT, Nat.reduceLeDiff, Nat.reduceBEq, Int.reduceEq, Int.reduceLT, Int.reduceLE, Int.reduceAdd, Int.reduceSub, Int.reduceNeg, Int.reduceToNat]
            refine ⟨ha2, by omega, ⟨bj, bl, clk + 2, clk + 3⟩, f1, f2, St.shiftT 13 1 3 2 (B := ⟨clk + 1, 3, (lq.map Cnt.enc).set aa [vs cn, vi (stopI n), vi cm], false, [vs ⟨#[]⟩, vi 0, vi 0]⟩) (v := clk + 1) (off := 0) (n := lq.length) rfl ?_ rfl (by decide) (by decide) (by dsimp only [List.length_cons, List.length_nil]; decide) (St.cut ?_ ?_ ?_)⟩
            · simp [upd_at]
            · rw [f4, hc1, f3]; simp [Agrees, upd_at, ev_cons]
            · dsimp only; rw [f4, hc1, List.map_set]; rfl
            · rfl
        · have hcl : chgL d k l4 nm = l4 := by unfold chgL; rw [if_neg hneg]
          have hc1 : chg1 (fun _ b => stopI b) d k l4 ⟨nm, n, x⟩ = l4.set aa ⟨(l4.getD aa .zero).name, (fun _ b => stopI b) (l4.getD aa .zero).n n, (l4.getD aa .zero).maker⟩ := by
            unfold chg1; rw [ha1, hcl, Int.toNat_natCast]
          rw [hcl] at ha1 ha2
          have hg := getD_cnts l4 aa
          have a0' : (0 : Int) ≤ (aa : Int) := by omega
          have a1' : (aa : Int) < (l4.length : Int) := by omega
          have hneg := eq_false (show ¬ (aa : Int) < 0 by omega)
          generalize l4.getD aa .zero = c at *
          obtain ⟨cn, cv, cm⟩ := c
          rcases hxx with ⟨m, es, rfl⟩ | rfl
          · simp -implicitDefEqProofs only [j0, j1, hsj, hl5, hl6, htl, hneg, ha1, a0', a1', hg, a3, h0, h1, VSt.enc, Cnt.enc, Doc.enc, cnts, dCnts_map, dDoc_mk, Doc.eta, mapO_cnts11, List.length_map, Nat.le_refl, List.take_length, lqQ_normal, lqQ_exit, lqQ_ret, wpC_seq_areg, wpC_areg, wpFR_nil, wpFR_cons, fluP, fluV, evF, V.allK, V.isK, O.still, okP_none, vP_none, on_gcall, off_gcall, flat_gcall, GSum.pre, GSum.v, GSum.hp, wpC_seq_xreg, wpC_xreg, wpXR_nil, wpXR_own, wpXR_flu, xeOK, xe, argTops, openArgs, Orc.ppre_cons, Orc.pr_cons, Orc.ppre_econs, Orc.pr_econs, Orc.ppre_fcons, Orc.pr_fcons, Orc.ppre_gcons, Orc.pr_gcons, List.head?_cons, List.headD_cons, XE.val, XE.heap, efO, shutArgs, xfoot, footO, V.tops, V.top1, clashOne, noClash, Orc.flat_fcons, Orc.pre_fcons, Orc.v_fcons, Orc.hp_fcons, Orc.qpre_fcons, Orc.qv_fcons, Orc.fpre_fcons, Orc.fes_fcons, Orc.flat_gcons, Orc.pre_gcons, Orc.v_gcons, Orc.hp_gcons, Orc.qpre_gcons, Orc.qv_gcons, Orc.fpre_gcons, Orc.fes_gcons, GSum.pre, GSum.v, GSum.hp, Orc.fpre_cons, Orc.fes_cons, Orc.fpre_econs, Orc.fes_econs, FSum.pre, FSum.v, FSum.hp, fres, O.calls, List.flatMap_cons, List.flatMap_nil, List.contains_cons, List.contains_nil, Bool.not_true, Bool.not_false, Heap.freeze, List.mapIdx_cons, List.mapIdx_nil, List.elem_cons, List.elem_nil, fluP, fluV, evF, bne_iff_ne, ne_eq, Option.some.injEq, go_sem, reduceCtorEq, reduceIte, Nat.reduceEqDiff, Nat.reduceAdd, Nat.reduceSub, Nat.reduceMul, Nat.reduceLT, Nat.reduceLeDiff, Nat.reduceBEq, Int.reduceEq, Int.reduceLT, Int.reduceLE, Int.reduceAdd, Int.reduceSub, Int.reduceNeg, Int.reduceToNat]
            refine ⟨ha2, by omega, ⟨bj, bl, ver, clk + 1⟩, f1, f2, St.cut ?_ ?_ ?_⟩
            · rw [f4, hc1, f3]; simp [Agrees, upd_at, ev_cons]
            · dsimp only; rw [f4, hc1, List.map_set]; rfl
            · rfl
          · simp -implicitDefEqProofs only [j0, j1, hsj, hl5, hl6, htl, hneg, ha1, a0', a1', hg, a3, h0, h1, VSt.enc, Cnt.enc, Doc.enc, cnts, dCnts_map, dDoc_mk, Doc.eta, mapO_cnts11, List.length_map, Nat.le_refl, List.take_length, lqQ_normal, lqQ_exit, lqQ_ret, wpC_seq_areg, wpC_areg, wpFR_nil, wpFR_cons, fluP, fluV, evF, V.allK, V.isK, O.still, okP_none, vP_none, on_gcall, off_gcall, flat_gcall, GSum.pre, GSum.v, GSum.hp, wpC_seq_xreg, wpC_xreg, wpXR_nil, wpXR_own, wpXR_flu, xeOK, xe, argTops, openArgs, Orc.ppre_cons, Orc.pr_cons, Orc.ppre_econs, Orc.pr_econs, Orc.ppre_fcons, Orc.pr_fcons, Orc.ppre_gcons, Orc.pr_gcons, List.head?_cons, List.headD_cons, XE.val, XE.heap, efO, shutArgs, xfoot, footO, V.tops, V.top1, clashOne, noClash, Orc.flat_fcons, Orc.pre_fcons, Orc.v_fcons, Orc.hp_fcons, Orc.qpre_fcons, Orc.qv_fcons, Orc.fpre_fcons, Orc.fes_fcons, Orc.flat_gcons, Orc.pre_gcons, Orc.v_gcons, Orc.hp_gcons, Orc.qpre_gcons, Orc.qv_gcons, Orc.fpre_gcons, Orc.fes_gcons, GSum.pre, GSum.v, GSum.hp, Orc.fpre_cons, Orc.fes_cons, Orc.fpre_econs, Orc.fes_econs, FSum.pre, FSum.v, FSum.hp, fres, O.calls, List.flatMap_cons, List.flatMap_nil, List.contains_cons, List.contains_nil, Bool.not_true, Bool.not_false, Heap.freeze, List.mapIdx_cons, List.mapIdx_nil, List.elem_cons, List.elem_nil, fluP, fluV, evF, bne_iff_ne, ne_eq, Option.some.injEq, go_sem, reduceCtorEq, reduceIte, Nat.reduceEqDiff, Nat.reduceAdd, Nat.reduceSub, Nat.reduceMul, Nat.reduceLT, Nat.reduceLeDiff, Nat.reduceBEq, Int.reduceEq, Int.reduceLT, Int.reduceLE, Int.reduceAdd, Int.reduceSub, Int.reduceNeg, Int.reduceToNat]
            refine ⟨ha2, by omega, ⟨bj, bl, ver, clk + 1⟩, f1, f2, St.cut ?_ ?_ ?_⟩
            · rw [f4, hc1, f3]; simp [Agrees, upd_at, ev_cons]
            · dsimp only; rw [f4, hc1, List.map_set]; rfl
            · rfl
      have j1 : (j : Int) < (i.length : Int) := by omega
      have j0 : (0 : Int) ≤ (j : Int) := by omega
      have hsj := fun z => getD_vsts i j z (by omega)
      have hdj : i.drop j = i.getD j .zero :: i.drop (j + 1) := by
        rw [List.drop_eq_getElem_cons (by omega), List.getD_eq_getElem?_getD, List.getElem?_eq_getElem (by omega)]; rfl
      rw [hdj] at a2
      have hxs : okX (i.getD j .zero).x := hi.1 _ (by rw [List.getD_eq_getElem?_getD, List.getElem?_eq_getElem (by omega)]; exact List.getElem_mem _)
      generalize i.getD j .zero = x at *
      obtain ⟨nm, n, x⟩ := x
      simp only at hxs
      have hxx : (∃ m es, x = .slc m es) ∨ x = vnil := by rcases hxs with h | h; exact .inr h; exact .inl h
      obtain ⟨b1, b2⟩ := chg1_mk (F := addI) (s := ⟨nm, n, x⟩) a3 h0 h1
      have fin : ∃ b : Nat × List Cnt, (b.1 ≤ i.length ∧ chgA addI d k b.2 (i.drop b.1) = chgA addI d k l2 i ∧ okMk d b.2 ∧ b.2.length + (i.length - b.1) ≤ 50000) ∧ i.length - b.1 < i.length - j ∧ b.1 = j + 1 ∧ b.2 = chg1 addI d k l3 ⟨nm, n, x⟩ :=
        ⟨(j + 1, chg1 addI d k l3 ⟨nm, n, x⟩), ⟨by dsimp only; omega, a2, b1, by dsimp only; omega⟩, by dsimp only; omega, rfl, rfl⟩
      obtain ⟨⟨bj, bl⟩, f1, f2, f3, f4⟩ := fin
      simp only at f1 f2 f3 f4
      obtain ⟨aa, ha1, ha2⟩ := chgL_at d k l3 nm
      have hl5 : l3.length ≤ 100000 := by omega
      have hl6 : l3.length ≤ 1000000 := by omega
      have htl : (l3.map Cnt.enc).take l3.length = l3.map Cnt.enc := List.take_of_length_le (by simp)
      by_cases hneg : lastC l3 nm < 0
      · have hcl : chgL d k l3 nm = rstC d k l3 nm 0 := by unfold chgL; rw [if_pos hneg]
        have hrl := (rstC_mk (d := d) (k := k) (l := l3) (nm := nm) (n := 0) a3 h0 h1).2
        have hc1 : chg1 addI d k l3 ⟨nm, n, x⟩ = (rstC d k l3 nm 0).set aa ⟨((rstC d k l3 nm 0).getD aa .zero).name, addI ((rstC d k l3 nm 0).getD aa .zero).n n, ((rstC d k l3 nm 0).getD aa .zero).maker⟩ := by
          unfold chg1; rw [ha1, hcl, Int.toNat_natCast]
        rw [hcl] at ha1 ha2
        generalize hq : rstC d k l3 nm 0 = lq at *
        have hg := getD_cnts lq aa
        have a0' : (0 : Int) ≤ (aa : Int) := by omega
        have a1' : (aa : Int) < (lq.length : Int) := by omega
        have hq6 : lq.length ≤ 1000000 := by omega
        have htq : (lq.map Cnt.enc).take lq.length = lq.map Cnt.enc := List.take_of_length_le (by simp)
        have hneg := eq_true hneg
        generalize lq.getD aa .zero = c at *
        obtain ⟨cn, cv, cm⟩ := c
        rcases hxx with ⟨m, es, rfl⟩ | rfl
        · simp -implicitDefEqProofs only [j0, j1, hsj, hl5, hl6, htl, hneg, hq, hq6, htq, ha1, a0', a1', hg, a3, h0, h1, VSt.enc, Cnt.enc, Doc.enc, cnts, dCnts_map, dDoc_mk, Doc.eta, mapO_cnts11, List.length_map, Nat.le_refl, List.take_length, lqQ_normal, lqQ_exit, lqQ_ret, wpC_seq_areg, wpC_areg, wpFR_nil, wpFR_cons, fluP, fluV, evF, V.allK, V.isK, O.still, okP_none, vP_none, on_gcall, off_gcall, flat_gcall, GSum.pre, GSum.v, GSum.hp, wpC_seq_xreg, wpC_xreg, wpXR_nil, wpXR_own, wpXR_flu, xeOK, xe, argTops, openArgs, Orc.ppre_cons, Orc.pr_cons, Orc.ppre_econs, Orc.pr_econs, Orc.ppre_fcons, Orc.pr_fcons, Orc.ppre_gcons, Orc.pr_gcons, List.head?_cons, List.headD_cons, XE.val, XE.heap, efO, shutArgs, xfoot, footO, V.tops, V.top1, clashOne, noClash, Orc.flat_fcons, Orc.pre_fcons, Orc.v_fcons, Orc.hp_fcons, Orc.qpre_fcons, Orc.qv_fcons, Orc.fpre_fcons, Orc.fes_fcons, Orc.flat_gcons, Orc.pre_gcons, Orc.v_gcons, Orc.hp_gcons, Orc.qpre_gcons, Orc.qv_gcons, Orc.fpre_gcons, Orc.fes_gcons, GSum.pre, GSum.v, GSum.hp, Orc.fpre_cons, Orc.fes_cons, Orc.fpre_econs, Orc.fes_econs, FSum.pre, FSum.v, FSum.hp, fres, O.calls, List.flatMap_cons, List.flatMap_nil, List.contains_cons, List.contains_nil, Bool.not_true, Bool.not_false, Heap.freeze, List.mapIdx_cons, List.mapIdx_nil, List.elem_cons, List.elem_nil, fluP, fluV, evF, bne_iff_ne, ne_eq, Option.some.injEq, go_sem, reduceCtorEq, reduceIte, Nat.reduceEqDiff, Nat.reduceAdd, Nat.reduceSub, Nat.reduceMul, Nat.reduceLT, Nat.reduceLeDiff, Nat.reduceBEq, Int.reduceEq, Int.reduceLT, Int.reduceLE, Int.reduceAdd, Int.reduceSub, Int.reduceNeg, Int.reduceToNat]
          refine ⟨ha2, ha2, by omega, ⟨bj, bl, clk + 2, clk + 3⟩, f1, f2, St.shiftT 13 1 3 2 (B := ⟨clk + 1, 3, (lq.map Cnt.enc).set aa [vs cn, vi (addI cv n), vi cm], false, [vs ⟨#[]⟩, vi 0, vi 0]⟩) (v := clk + 1) (off := 0) (n := lq.length) rfl ?_ rfl (by decide) (by decide) (by dsimp only [List.length_cons, List.length_nil]; decide) (St.cut ?_ ?_ ?_)⟩
          · simp [upd_at]
          · rw [f4, hc1, f3]; simp [Agrees, upd_at, ev_cons]
          · dsimp only; rw [f4, hc1, List.map_set]; rfl
          · rfl
        · simp -implicitDefEqProofs only [j0, j1, hsj, hl5, hl6, htl, hneg, hq, hq6, htq, ha1, a0', a1', hg, a3, h0, h1, VSt.enc, Cnt.enc, Doc.enc, cnts, dCnts_map, dDoc_mk, Doc.eta, mapO_cnts11, List.length_map, Nat.le_refl, List.take_length, lqQ_normal, lqQ_exit, lqQ_ret, wpC_seq_areg, wpC_areg, wpFR_nil, wpFR_cons, fluP, fluV, evF, V.allK, V.isK, O.still, okP_none, vP_none, on_gcall, off_gcall, flat_gcall, GSum.pre, GSum.v, GSum.hp, wpC_seq_xreg, wpC_xreg, wpXR_nil, wpXR_own, wpXR_flu, xeOK, xe, argTops, openArgs, Orc.ppre_cons, Orc.pr_cons, Orc.ppre_econs, Orc.pr_econs, Orc.ppre_fcons, Orc.pr_fcons, Orc.ppre_gcons, Orc.pr_gcons, List.head?_cons, List.headD_cons, XE.val, XE.heap, efO, shutArgs, xfoot, footO, V.tops, V.top1, clashOne, noClash, Orc.flat_fcons, Orc.pre_fcons, Orc.v_fcons, Orc.hp_fcons, Orc.qpre_fcons, Orc.qv_fcons, Orc.fpre_fcons, Orc.fes_fcons, Orc.flat_gcons, Orc.pre_gcons, Orc.v_gcons, Orc.hp_gcons, Orc.qpre_gcons, Orc.qv_gcons, Orc.fpre_gcons, Orc.fes_gcons, GSum.pre, GSum.v, GSum.hp, Orc.fpre_cons, Orc.fes_cons, Orc.fpre_econs, Orc.fes_econs, FSum.pre, FSum.v, FSum.hp, fres, O.calls, List.flatMap_cons, List.flatMap_nil, List.contains_cons, List.contains_nil, Bool.not_true, Bool.not_false, Heap.freeze, List.mapIdx_cons, List.mapIdx_nil, List.elem_cons, List.elem_nil, fluP, fluV, evF, bne_iff_ne, ne_eq, Option.some.injEq, go_sem, reduceCtorEq, reduceIte, Nat.reduceEqDiff, Nat.reduceAdd, Nat.reduceSub, Nat.reduceMul, Nat.reduceLT, Nat.reduceLeDiff, Nat.reduceBEq, Int.reduceEq, Int.reduceLT, Int.reduceLE, Int.reduceAdd, Int.reduceSub, Int.reduceNeg, Int.reduceToNat]
          refine ⟨ha2, ha2, by omega, ⟨bj, bl, clk + 2, clk + 3⟩, f1, f2, St.shiftT 13 1 3 2 (B := ⟨clk + 1, 3, (lq.map Cnt.enc).set aa [vs cn, vi (addI cv n), vi cm], false, [vs ⟨#[]⟩, vi 0, vi 0]⟩) (v := clk + 1) (off := 0) (n := lq.length) rfl ?_ rfl (by decide) (by decide) (by dsimp only [List.length_cons, List.length_nil]; decide) (St.cut ?_ ?_ ?_)⟩
          · simp [upd_at]
          · rw [f4, hc1, f3]; simp [Agrees, upd_at, ev_cons]
          · dsimp only; rw [f4, hc1, List.map_set]; rfl
          · rfl
      · have hcl : chgL d k l3 nm = l3 := by unfold chgL; rw [if_neg hneg]
        have hc1 : chg1 addI d k l3 ⟨nm, n, x⟩ = l3.set aa ⟨(l3.getD aa .zero).name, addI (l3.getD aa .zero).n n, (l3.getD aa .zero).maker⟩ := by
          unfold chg1; rw [ha1, hcl, Int.toNat_natCast]
        rw [hcl] at ha1 ha2
        have hg := getD_cnts l3 aa
        have a0' : (0 : Int) ≤ (aa : Int) := by omega
        have a1' : (aa : Int) < (l3.length : Int) := by omega
        have hneg := eq_false (show ¬ (aa : Int) < 0 by omega)
        generalize l3.getD aa .zero = c at *
        obtain ⟨cn, cv, cm⟩ := c
        rcases hxx with ⟨m, es, rfl⟩ | rfl
        · simp -implicitDefEqProofs only [j0, j1, hsj, hl5, hl6, htl, hneg, ha1, a0', a1', hg, a3, h0, h1, VSt.enc, Cnt.enc, Doc.enc, cnts, dCnts_map, dDoc_mk, Doc.eta, mapO_cnts11, List.length_map, Nat.le_refl, List.take_length, lqQ_normal, lqQ_exit, lqQ_ret, wpC_seq_areg, wpC_areg, wpFR_nil, wpFR_cons, fluP, fluV, evF, V.allK, V.isK, O.still, okP_none, vP_none, on_gcall, off_gcall, flat_gcall, GSum.pre, GSum.v, GSum.hp, wpC_seq_xreg, wpC_xreg, wpXR_nil, wpXR_own, wpXR_flu, xeOK, xe, argTops, openArgs, Orc.ppre_cons, Orc.pr_cons, Orc.ppre_econs, Orc.pr_econs, Orc.ppre_fcons, Orc.pr_fcons, Orc.ppre_gcons, Orc.pr_gcons, List.head?_cons, List.headD_cons, XE.val, XE.heap, efO, shutArgs, xfoot, footO, V.tops, V.top1, clashOne, noClash, Orc.flat_fcons, Orc.pre_fcons, Orc.v_fcons, Orc.hp_fcons, Orc.qpre_fcons, Orc.qv_fcons, Orc.fpre_fcons, Orc.fes_fcons, Orc.flat_gcons, Orc.pre_gcons, Orc.v_gcons, Orc.hp_gcons, Orc.qpre_gcons, Orc.qv_gcons, Orc.fpre_gcons, Orc.fes_gcons, GSum.pre, GSum.v, GSum.hp, Orc.fpre_cons, Orc.fes_cons, Orc.fpre_econs, Orc.fes_econs, FSum.pre, FSum.v, FSum.hp, fres, O.calls, List.flatMap_cons, List.flatMap_nil, List.contains_cons, List.contains_nil, Bool.not_true, Bool.not_false, Heap.freeze, List.mapIdx_cons, List.mapIdx_nil, List.elem_cons, List.elem_nil, fluP, fluV, evF, bne_iff_ne, ne_eq, Option.some.injEq, go_sem, reduceCtorEq, reduceIte, Nat.reduceEqDiff, Nat.reduceAdd, Nat.reduceSub, Nat.reduceMul, Nat.reduceLT, Nat.reduceLeDiff, Nat.reduceBEq, Int.reduceEq, Int.reduceLT, Int.reduceLE, Int.reduceAdd, Int.reduceSub, Int.reduceNeg, Int.reduceToNat]
          refine ⟨ha2, ha2, by omega, ⟨bj, bl, ver, clk + 1⟩, f1, f2, St.cut ?_ ?_ ?_⟩
          · rw [f4, hc1, f3]; simp [Agrees, upd_at, ev_cons]
          · dsimp only; rw [f4, hc1, List.map_set]; rfl
          · rfl
        · simp -implicitDefEqProofs only [j0, j1, hsj, hl5, hl6, htl, hneg, ha1, a0', a1', hg, a3, h0, h1, VSt.enc, Cnt.enc, Doc.enc, cnts, dCnts_map, dDoc_mk, Doc.eta, mapO_cnts11, List.length_map, Nat.le_refl, List.take_length, lqQ_normal, lqQ_exit, lqQ_ret, wpC_seq_areg, wpC_areg, wpFR_nil, wpFR_cons, fluP, fluV, evF, V.allK, V.isK, O.still, okP_none, vP_none, on_gcall, off_gcall, flat_gcall, GSum.pre, GSum.v, GSum.hp, wpC_seq_xreg, wpC_xreg, wpXR_nil, wpXR_own, wpXR_flu, xeOK, xe, argTops, openArgs, Orc.ppre_cons, Orc.pr_cons, Orc.ppre_econs, Orc.pr_econs, Orc.ppre_fcons, Orc.pr_fcons, Orc.ppre_gcons, Orc.pr_gcons, List.head?_cons, List.headD_cons, XE.val, XE.heap, efO, shutArgs, xfoot, footO, V.tops, V.top1, clashOne, noClash, Orc.flat_fcons, Orc.pre_fcons, Orc.v_fcons, Orc.hp_fcons, Orc.qpre_fcons, Orc.qv_fcons, Orc.fpre_fcons, Orc.fes_fcons, Orc.flat_gcons, Orc.pre_gcons, Orc.v_gcons, Orc.hp_gcons, Orc.qpre_gcons, Orc.qv_gcons, Orc.fpre_gcons, Orc.fes_gcons, GSum.pre, GSum.v, GSum.hp, Orc.fpre_cons, Orc.fes_cons, Orc.fpre_econs, Orc.fes_econs, FSum.pre, FSum.v, FSum.hp, fres, O.calls, List.flatMap_cons, List.flatMap_nil, List.contains_cons, List.contains_nil, Bool.not_true, Bool.not_false, Heap.freeze, List.mapIdx_cons, List.mapIdx_nil, List.elem_cons, List.elem_nil, fluP, fluV, evF, bne_iff_ne, ne_eq, Option.some.injEq, go_sem, reduceCtorEq, reduceIte, Nat.reduceEqDiff, Nat.reduceAdd, Nat.reduceSub, Nat.reduceMul, Nat.reduceLT, Nat.reduceLeDiff, Nat.reduceBEq, Int.reduceEq, Int.reduceLT, Int.reduceLE, Int.reduceAdd, Int.reduceSub, Int.reduceNeg, Int.reduceToNat]
          refine ⟨ha2, ha2, by omega, ⟨bj, bl, ver, clk + 1⟩, f1, f2, St.cut ?_ ?_ ?_⟩
          · rw [f4, hc1, f3]; simp [Agrees, upd_at, ev_cons]
          · dsimp only; rw [f4, hc1, List.map_set]; rfl
          · rfl
    have j1 : (j : Int) < (r.length : Int) := by omega
    have j0 : (0 : Int) ≤ (j : Int) := by omega
    have hsj := fun z => getD_vsts r j z (by omega)
    have hdj : r.drop j = r.getD j .zero :: r.drop (j + 1) := by
      rw [List.drop_eq_getElem_cons (by omega), List.getD_eq_getElem?_getD, List.getElem?_eq_getElem (by omega)]; rfl
    rw [hdj] at a2
    generalize r.getD j .zero = x at *
    obtain ⟨nm, n, x⟩ := x
    have a2 : rstA d k (rstC d k l2 nm n) (r.drop (j + 1)) = rstA d k l1 r := a2
    obtain ⟨b1, b2⟩ := rstC_mk (d := d) (k := k) (l := l2) (nm := nm) (n := n) a3 h0 h1
    have hl2 : l2.length ≤ 100000 := by omega
    have ht2 : (l2.map Cnt.enc).take l2.length = l2.map Cnt.enc := List.take_of_length_le (by simp)
    have hmc := mapO_cnts11 
    simp -implicitDefEqProofs only [j0, j1, hsj, hl2, ht2, a3, h0, h1, VSt.enc, Doc.enc, cnts, dCnts_map, dDoc_mk, Doc.eta, mapO_cnts11, List.length_map, Nat.le_refl, List.take_length, lqQ_normal, lqQ_exit, lqQ_ret, on_gcall, off_gcall, flat_gcall, GSum.pre, GSum.v, GSum.hp, wpC_seq_xreg, wpC_xreg, wpXR_nil, wpXR_own, wpXR_flu, xeOK, xe, argTops, openArgs, Orc.ppre_cons, Orc.pr_cons, Orc.ppre_econs, Orc.pr_econs, Orc.ppre_fcons, Orc.pr_fcons, Orc.ppre_gcons, Orc.pr_gcons, List.head?_cons, List.headD_cons, XE.val, XE.heap, efO, shutArgs, xfoot, footO, V.tops, V.top1, clashOne, noClash, Orc.flat_fcons, Orc.pre_fcons, Orc.v_fcons, Orc.hp_fcons, Orc.qpre_fcons, Orc.qv_fcons, Orc.fpre_fcons, Orc.fes_fcons, Orc.flat_gcons, Orc.pre_gcons, Orc.v_gcons, Orc.hp_gcons, Orc.qpre_gcons, Orc.qv_gcons, Orc.fpre_gcons, Orc.fes_gcons, GSum.pre, GSum.v, GSum.hp, Orc.fpre_cons, Orc.fes_cons, Orc.fpre_econs, Orc.fes_econs, FSum.pre, FSum.v, FSum.hp, fres, O.calls, List.flatMap_cons, List.flatMap_nil, List.contains_cons, List.contains_nil, Bool.not_true, Bool.not_false, Heap.freeze, List.mapIdx_cons, List.mapIdx_nil, List.elem_cons, List.elem_nil, fluP, fluV, evF, bne_iff_ne, ne_eq, Option.some.injEq, go_sem, reduceCtorEq, reduceIte, Nat.reduceEqDiff, Nat.reduceAdd, Nat.reduceSub, Nat.reduceMul, Nat.reduceLT, Nat.reduceLeDiff, Nat.reduceBEq, Int.reduceEq, Int.reduceLT, Int.reduceLE, Int.reduceAdd, Int.reduceSub, Int.reduceNeg, Int.reduceToNat]
    refine ⟨by omega, ⟨j + 1, rstC d k l2 nm n, clk + 1, clk + 2⟩, ⟨by dsimp only; omega, a2, b1, by dsimp only; omega⟩, by dsimp only; omega, St.shiftT 13 1 2 2 (B := ⟨clk, 3, (rstC d k l2 nm n).map Cnt.enc, false, [vs ⟨#[]⟩, vi 0, vi 0]⟩) (v := clk) (off := 0) (n := (rstC d k l2 nm n).length) rfl ?_ rfl (by decide) (by decide) (by dsimp only [List.length_cons, List.length_nil]; decide) (St.cut ?_ ?_ ?_)⟩
    · simp [upd_at]
    · simp [Agrees, upd_at, ev_cons]
    · rfl
    · rfl
  have j1 : (j : Int) < (l.length : Int) := by omega
  have j0 : (0 : Int) ≤ (j : Int) := by omega
  have hg := getD_cnts l j
  have hst := keep_take (d := d) (k := k) (l := l) (j := j) (by omega)
  have hseen := kpR_seen hL h0 h1 (l.getD j .zero)
  generalize l.getD j .zero = c at *
  obtain ⟨cn, cv, cm⟩ := c
  have htt : (keepC d k (l.take j)).take (keepC d k (l.take j)).length = keepC d k (l.take j) := List.take_length
  rw [← hseen] at hst
  unfold kpR at hst
  simp only at hst
  by_cases c0 : cm = 0
  · subst c0
    rw [if_pos (by simp)] at hst
    generalize keepC d k (l.take j) = o at *
    simp -implicitDefEqProofs only [j0, j1, hg, Cnt.enc, List.length_map, List.take_length, Nat.le_refl, htt, on_gcall, off_gcall, flat_gcall, GSum.pre, GSum.v, GSum.hp, wpC_seq_xreg, wpC_xreg, wpXR_nil, wpXR_own, wpXR_flu, xeOK, xe, argTops, openArgs, Orc.ppre_cons, Orc.pr_cons, Orc.ppre_econs, Orc.pr_econs, Orc.ppre_fcons, Orc.pr_fcons, Orc.ppre_gcons, Orc.pr_gcons, List.head?_cons, List.headD_cons, XE.val, XE.heap, efO, shutArgs, xfoot, footO, V.tops, V.top1, clashOne, noClash, Orc.flat_fcons, Orc.pre_fcons, Orc.v_fcons, Orc.hp_fcons, Orc.qpre_fcons, Orc.qv_fcons, Orc.fpre_fcons, Orc.fes_fcons, Orc.flat_gcons, Orc.pre_gcons, Orc.v_gcons, Orc.hp_gcons, Orc.qpre_gcons, Orc.qv_gcons, Orc.fpre_gcons, Orc.fes_gcons, GSum.pre, GSum.v, GSum.hp, Orc.fpre_cons, Orc.fes_cons, Orc.fpre_econs, Orc.fes_econs, FSum.pre, FSum.v, FSum.hp, fres, O.calls, List.flatMap_cons, List.flatMap_nil, List.contains_cons, List.contains_nil, Bool.not_true, Bool.not_false, Heap.freeze, List.mapIdx_cons, List.mapIdx_nil, List.elem_cons, List.elem_nil, fluP, fluV, evF, bne_iff_ne, ne_eq, Option.some.injEq, go_sem, reduceCtorEq, reduceIte, Nat.reduceEqDiff, Nat.reduceAdd, Nat.reduceSub, Nat.reduceMul, Nat.reduceLT, Nat.reduceLeDiff, Nat.reduceBEq, Int.reduceEq, Int.reduceLT, Int.reduceLE, Int.reduceAdd, Int.reduceSub, Int.reduceNeg, Int.reduceToNat]
    exact ⟨⟨by omega, by omega⟩, by omega, ⟨j + 1, [], _, _⟩, by dsimp only; omega, by dsimp only; omega, ⟨⟨rfl, by dsimp only; rw [hst]; simp⟩, by dsimp only; omega⟩, ⟨rfl, by dsimp only; rw [hst]; simp [Cnt.enc]⟩, rfl⟩
  have c0' := eq_false c0
  by_cases c1 : cm < 0
  · have hcn : ¬ 0 < cm := by omega
    rw [decide_eq_false c0, decide_eq_false hcn, if_neg (by simp)] at hst
    have hcn := eq_false hcn
    simp -implicitDefEqProofs only [j0, j1, hg, c0', hcn, Cnt.enc, on_gcall, off_gcall, flat_gcall, GSum.pre, GSum.v, GSum.hp, wpC_seq_xreg, wpC_xreg, wpXR_nil, wpXR_own, wpXR_flu, xeOK, xe, argTops, openArgs, Orc.ppre_cons, Orc.pr_cons, Orc.ppre_econs, Orc.pr_econs, Orc.ppre_fcons, Orc.pr_fcons, Orc.ppre_gcons, Orc.pr_gcons, List.head?_cons, List.headD_cons, XE.val, XE.heap, efO, shutArgs, xfoot, footO, V.tops, V.top1, clashOne, noClash, Orc.flat_fcons, Orc.pre_fcons, Orc.v_fcons, Orc.hp_fcons, Orc.qpre_fcons, Orc.qv_fcons, Orc.fpre_fcons, Orc.fes_fcons, Orc.flat_gcons, Orc.pre_gcons, Orc.v_gcons, Orc.hp_gcons, Orc.qpre_gcons, Orc.qv_gcons, Orc.fpre_gcons, Orc.fes_gcons, GSum.pre, GSum.v, GSum.hp, Orc.fpre_cons, Orc.fes_cons, Orc.fpre_econs, Orc.fes_econs, FSum.pre, FSum.v, FSum.hp, fres, O.calls, List.flatMap_cons, List.flatMap_nil, List.contains_cons, List.contains_nil, Bool.not_true, Bool.not_false, Heap.freeze, List.mapIdx_cons, List.mapIdx_nil, List.elem_cons, List.elem_nil, fluP, fluV, evF, bne_iff_ne, ne_eq, Option.some.injEq, go_sem, reduceCtorEq, reduceIte, Nat.reduceEqDiff, Nat.reduceAdd, Nat.reduceSub, Nat.reduceMul, Nat.reduceLT, Nat.reduceLeDiff, Nat.reduceBEq, Int.reduceEq, Int.reduceLT, Int.reduceLE, Int.reduceAdd, Int.reduceSub, Int.reduceNeg, Int.reduceToNat]
    exact ⟨by omega, ⟨j + 1, [], ver, clk⟩, by dsimp only; omega, by dsimp only; omega, ⟨⟨rfl, by dsimp only; rw [hst]⟩, by dsimp only; omega⟩, ⟨rfl, by dsimp only; rw [hst]⟩, rfl⟩
  have c2 : 0 < cm := by omega
  rw [decide_eq_false c0, decide_eq_true c2, Bool.false_or, Bool.true_and] at hst
  have c2' := eq_true c2
  by_cases c3 : cm < (d.l.length : Int)
  · rw [decide_eq_true c3, Bool.true_and] at hst
    have c3' := eq_true c3
    have hgn := fun z => getD_nodes19 d.l cm.toNat (by omega) z
    have hp : (d.l.getD cm.toNat .zero).parent = par d.l cm.toNat := rfl
    have hm := (standR_pos (by omega)).1 (hL.1.doc.2 cm.toNat (by omega))
    have m0 := eq_true hm.2.1
    have mm : (0 : Int) ≤ cm := by omega
    generalize par d.l cm.toNat = p at *
    cases hin : inN d.l k p
    · rw [hin, if_neg (by decide)] at hst
      simp -implicitDefEqProofs only [j0, j1, hg, c0', c2', c3', mm, hgn, hp, m0, h1, hd6, hin, nodes, dNodes_map, Doc.enc, Cnt.enc, Node.enc, on_gcall, off_gcall, flat_gcall, GSum.pre, GSum.v, GSum.hp, wpC_seq_xreg, wpC_xreg, wpXR_nil, wpXR_own, wpXR_flu, xeOK, xe, argTops, openArgs, Orc.ppre_cons, Orc.pr_cons, Orc.ppre_econs, Orc.pr_econs, Orc.ppre_fcons, Orc.pr_fcons, Orc.ppre_gcons, Orc.pr_gcons, List.head?_cons, List.headD_cons, XE.val, XE.heap, efO, shutArgs, xfoot, footO, V.tops, V.top1, clashOne, noClash, Orc.flat_fcons, Orc.pre_fcons, Orc.v_fcons, Orc.hp_fcons, Orc.qpre_fcons, Orc.qv_fcons, Orc.fpre_fcons, Orc.fes_fcons, Orc.flat_gcons, Orc.pre_gcons, Orc.v_gcons, Orc.hp_gcons, Orc.qpre_gcons, Orc.qv_gcons, Orc.fpre_gcons, Orc.fes_gcons, GSum.pre, GSum.v, GSum.hp, Orc.fpre_cons, Orc.fes_cons, Orc.fpre_econs, Orc.fes_econs, FSum.pre, FSum.v, FSum.hp, fres, O.calls, List.flatMap_cons, List.flatMap_nil, List.contains_cons, List.contains_nil, Bool.not_true, Bool.not_false, Heap.freeze, List.mapIdx_cons, List.mapIdx_nil, List.elem_cons, List.elem_nil, fluP, fluV, evF, bne_iff_ne, ne_eq, Option.some.injEq, go_sem, reduceCtorEq, reduceIte, Nat.reduceEqDiff, Nat.reduceAdd, Nat.reduceSub, Nat.reduceMul, Nat.reduceLT, Nat.reduceLeDiff, Nat.reduceBEq, Int.reduceEq, Int.reduceLT, Int.reduceLE, Int.reduceAdd, Int.reduceSub, Int.reduceNeg, Int.reduceToNat]
      exact ⟨by omega, ⟨j + 1, [], ver, clk⟩, by dsimp only; omega, by dsimp only; omega, ⟨⟨rfl, by dsimp only; rw [hst]⟩, by dsimp only; omega⟩, ⟨rfl, by dsimp only; rw [hst]⟩, rfl⟩
    · rw [hin, if_pos rfl] at hst
      generalize keepC d k (l.take j) = o at *
      simp -implicitDefEqProofs only [j0, j1, hg, c0', c2', c3', mm, hgn, hp, m0, h1, hd6, hin, nodes, dNodes_map, Doc.enc, Cnt.enc, Node.enc, List.length_map, List.take_length, Nat.le_refl, htt, on_gcall, off_gcall, flat_gcall, GSum.pre, GSum.v, GSum.hp, wpC_seq_xreg, wpC_xreg, wpXR_nil, wpXR_own, wpXR_flu, xeOK, xe, argTops, openArgs, Orc.ppre_cons, Orc.pr_cons, Orc.ppre_econs, Orc.pr_econs, Orc.ppre_fcons, Orc.pr_fcons, Orc.ppre_gcons, Orc.pr_gcons, List.head?_cons, List.headD_cons, XE.val, XE.heap, efO, shutArgs, xfoot, footO, V.tops, V.top1, clashOne, noClash, Orc.flat_fcons, Orc.pre_fcons, Orc.v_fcons, Orc.hp_fcons, Orc.qpre_fcons, Orc.qv_fcons, Orc.fpre_fcons, Orc.fes_fcons, Orc.flat_gcons, Orc.pre_gcons, Orc.v_gcons, Orc.hp_gcons, Orc.qpre_gcons, Orc.qv_gcons, Orc.fpre_gcons, Orc.fes_gcons, GSum.pre, GSum.v, GSum.hp, Orc.fpre_cons, Orc.fes_cons, Orc.fpre_econs, Orc.fes_econs, FSum.pre, FSum.v, FSum.hp, fres, O.calls, List.flatMap_cons, List.flatMap_nil, List.contains_cons, List.contains_nil, Bool.not_true, Bool.not_false, Heap.freeze, List.mapIdx_cons, List.mapIdx_nil, List.elem_cons, List.elem_nil, fluP, fluV, evF, bne_iff_ne, ne_eq, Option.some.injEq, go_sem, reduceCtorEq, reduceIte, Nat.reduceEqDiff, Nat.reduceAdd, Nat.reduceSub, Nat.reduceMul, Nat.reduceLT, Nat.reduceLeDiff, Nat.reduceBEq, Int.reduceEq, Int.reduceLT, Int.reduceLE, Int.reduceAdd, Int.reduceSub, Int.reduceNeg, Int.reduceToNat]
      exact ⟨⟨by omega, by omega⟩, by omega, ⟨j + 1, [], _, _⟩, by dsimp only; omega, by dsimp only; omega, ⟨⟨rfl, by dsimp only; rw [hst]; simp⟩, by dsimp only; omega⟩, ⟨rfl, by dsimp only; rw [hst]; simp [Cnt.enc]⟩, rfl⟩
  · rw [decide_eq_false c3, if_neg (by simp)] at hst
    have c3' := eq_false c3
    simp -implicitDefEqProofs only [j0, j1, hg, c0', c2', c3', Doc.enc, Cnt.enc, on_gcall, off_gcall, flat_gcall, GSum.pre, GSum.v, GSum.hp, wpC_seq_xreg, wpC_xreg, wpXR_nil, wpXR_own, wpXR_flu, xeOK, xe, argTops, openArgs, Orc.ppre_cons, Orc.pr_cons, Orc.ppre_econs, Orc.pr_econs, Orc.ppre_fcons, Orc.pr_fcons, Orc.ppre_gcons, Orc.pr_gcons, List.head?_cons, List.headD_cons, XE.val, XE.heap, efO, shutArgs, xfoot, footO, V.tops, V.top1, clashOne, noClash, Orc.flat_fcons, Orc.pre_fcons, Orc.v_fcons, Orc.hp_fcons, Orc.qpre_fcons, Orc.qv_fcons, Orc.fpre_fcons, Orc.fes_fcons, Orc.flat_gcons, Orc.pre_gcons, Orc.v_gcons, Orc.hp_gcons, Orc.qpre_gcons, Orc.qv_gcons, Orc.fpre_gcons, Orc.fes_gcons, GSum.pre, GSum.v, GSum.hp, Orc.fpre_cons, Orc.fes_cons, Orc.fpre_econs, Orc.fes_econs, FSum.pre, FSum.v, FSum.hp, fres, O.calls, List.flatMap_cons, List.flatMap_nil, List.contains_cons, List.contains_nil, Bool.not_true, Bool.not_false, Heap.freeze, List.mapIdx_cons, List.mapIdx_nil, List.elem_cons, List.elem_nil, fluP, fluV, evF, bne_iff_ne, ne_eq, Option.some.injEq, go_sem, reduceCtorEq, reduceIte, Nat.reduceEqDiff, Nat.reduceAdd, Nat.reduceSub, Nat.reduceMul, Nat.reduceLT, Nat.reduceLeDiff, Nat.reduceBEq, Int.reduceEq, Int.reduceLT, Int.reduceLE, Int.reduceAdd, Int.reduceSub, Int.reduceNeg, Int.reduceToNat]
    exact ⟨by omega, ⟨j + 1, [], ver, clk⟩, by dsimp only; omega, by dsimp only; omega, ⟨⟨rfl, by dsimp only; rw [hst]⟩, by dsimp only; omega⟩, ⟨rfl, by dsimp only; rw [hst]⟩, rfl⟩
end Go.Proofs.Yteifbbinfipdlaa
