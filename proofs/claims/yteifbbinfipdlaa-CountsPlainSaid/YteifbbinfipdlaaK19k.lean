/- Layer 19: the counters behind all nodes. -/
import Derived.Test.YteifbbinfipdlaaK19j
namespace Go.Proofs.Yteifbbinfipdlaa
open Go.Sx
set_option linter.unusedVariables false
set_option linter.unusedSimpArgs false
set_option maxHeartbeats 8000000
set_option maxRecDepth 20000

theorem St.nilW {cx : Cx} {st : List (Nat × V)} {hp : Heap} {e : Nat → V} {h : Heap} (d sz : Nat) (hd : e d = vnil) (s : St cx st hp (upd e d (.slc sz [])) h) : St cx st hp e h :=
  St.of (fun g a w R => ⟨g, R.size, fun i => by
    have hi := R.tm i
    by_cases h : i = d
    · subst h
      simp only [upd, if_true]
      rw [hd] at hi
      rw [hi.inv_c]
      exact .p _ _ (.slc none 0 0 sz [] 0 0 (fun _ _ => undef) rfl (Nat.le_refl _) (by simp) (by simp) (by simp) (by simp))
    · simp only [upd, if_neg h]; exact hi, R.defers, R.heap⟩) s
def Prp.zero : Prp := ⟨0, 0, ⟨#[]⟩, [], [], [], vnil, ⟨#[]⟩⟩
def prps (l : List Prp) : V := .slc 8 (l.map Prp.enc)
def dPrpL (e : List V) : Prp := ⟨(e.getD 0 .any).int, (e.getD 1 .any).int, (e.getD 2 .any).str, dVSts (e.getD 3 .any), dVSts (e.getD 4 .any), dVSts (e.getD 5 .any), e.getD 6 .any, (e.getD 7 .any).str⟩
def dPrp (v : V) : Prp := dPrpL v.cs
theorem dPrpL_enc (p : Prp) : dPrpL p.enc = p := by
  obtain ⟨b, a, pg, r, i, s, st, run⟩ := p
  simp only [dPrpL, Prp.enc, vsts, List.getD_cons_zero, List.getD_cons_succ, dVSts_map]; rfl
theorem dPrp_mk (b a : Int) (pg : ByteArray) (r i s : List VSt) (st : V) (run : ByteArray) : dPrp (.agg [.c (.int .i64 b), .c (.int .i64 a), .c (.string pg), .slc 3 (r.map VSt.enc), .slc 3 (i.map VSt.enc), .slc 3 (s.map VSt.enc), st, .c (.string run)]) = ⟨b, a, pg, r, i, s, st, run⟩ := dPrpL_enc ⟨b, a, pg, r, i, s, st, run⟩
theorem getD_prps (l : List Prp) (i : Nat) (z : List V) (h : i < l.length) : (l.map Prp.enc).getD i z = (l.getD i .zero).enc := by
  simp [List.getD_eq_getElem?_getD, h]
def sumStep : Sum Try.prog := ⟨10, fun args => args = [cnts (dCnts (args.getD 0 .any)), .agg (Doc.enc (dDoc (args.getD 1 .any))), .agg (Prp.enc (dPrp (args.getD 2 .any))), vi ((args.getD 3 .any).int)] ∧ ((dDoc (args.getD 1 .any))).l.length ≤ 1000 ∧ okPr (dPrp (args.getD 2 .any)) ∧ ((dCnts (args.getD 0 .any))).length ≤ 20000, fun args => cnts (stepC (dDoc (args.getD 1 .any)) (dPrp (args.getD 2 .any)) ((args.getD 3 .any).int) (dCnts (args.getD 0 .any))), fun args h => by
  have := step_ok (dDoc (args.getD 1 .any)) (dPrp (args.getD 2 .any)) ((args.getD 3 .any).int) (dCnts (args.getD 0 .any)) h.2.1 h.2.2.1 h.2.2.2; rwa [← h.1] at this, false⟩
theorem sumStep_f : sumStep.f = 10 := rfl
theorem sumStep_D (args : List V) : sumStep.D args = (args = [cnts (dCnts (args.getD 0 .any)), .agg (Doc.enc (dDoc (args.getD 1 .any))), .agg (Prp.enc (dPrp (args.getD 2 .any))), vi ((args.getD 3 .any).int)] ∧ ((dDoc (args.getD 1 .any))).l.length ≤ 1000 ∧ okPr (dPrp (args.getD 2 .any)) ∧ ((dCnts (args.getD 0 .any))).length ≤ 20000) := rfl
theorem sumStep_flat : sumStep.flat = false := rfl
theorem sumStep_r (args : List V) : sumStep.r args = cnts (stepC (dDoc (args.getD 1 .any)) (dPrp (args.getD 2 .any)) ((args.getD 3 .any).int) (dCnts (args.getD 0 .any))) := rfl
attribute [go_sem] sumStep_f sumStep_D sumStep_flat sumStep_r
def allS (d : Doc) (ps : List Prp) : List Int → List Cnt → List (List Cnt)
  | [], _ => []
  | k :: ks, now => stepC d (ps.getD k.toNat .zero) k now :: allS d ps ks (stepC d (ps.getD k.toNat .zero) k now)
def allC (d : Doc) (ps : List Prp) : List (List Cnt) := if ps.length = d.l.length then allS d ps (inV d) [] else []
def css (L : List (List Cnt)) : V := .slc 1 (L.map fun l => [.slc 3 (l.map Cnt.enc)])
theorem mapO_css (S : Nat → Bool) (h : Heap) : ∀ L : List (List Cnt), mapO (mapO (res S h 11)) (L.map fun l => [V.slc 3 (l.map Cnt.enc)]) = some (L.map fun l => [V.slc 3 (l.map Cnt.enc)])
  | [] => rfl
  | s :: l => by simp only [List.map_cons, mapO, mapO_css S h l]; rfl
def okPs (ps : List Prp) : Prop := ∀ p ∈ ps, okPr p ∧ p.r.length ≤ 10 ∧ p.i.length ≤ 10 ∧ p.s.length ≤ 10
theorem rstC_len (d : Doc) (k : Int) (l : List Cnt) (nm : ByteArray) (n : Int) : (rstC d k l nm n).length ≤ l.length + 1 := by
  unfold rstC; split <;> simp
theorem chgA_len (F : Int → Int → Int) (d : Doc) (k : Int) : ∀ (ss : List VSt) (l : List Cnt), (chgA F d k l ss).length ≤ l.length + ss.length
  | [], l => by simp [chgA]
  | s :: ss, l => by
    have h1 := chgA_len F d k ss (chg1 F d k l s)
    have h2 : (chg1 F d k l s).length ≤ l.length + 1 := by
      unfold chg1 chgL
      rw [List.length_set]
      split
      · exact rstC_len _ _ _ _ _
      · omega
    have h3 : chgA F d k l (s :: ss) = chgA F d k (chg1 F d k l s) ss := rfl
    rw [h3, List.length_cons]; omega
theorem stepC_len (d : Doc) (p : Prp) (k : Int) (l : List Cnt) : (stepC d p k l).length ≤ l.length + (p.r.length + (p.i.length + p.s.length)) := by
  unfold stepC
  split
  · unfold stepI
    have h1 := keepC_len d k l
    have h2 := len_rst d k p.r (keepC d k l)
    have h3 := chgA_len addI d k p.i (rstA d k (keepC d k l) p.r)
    have h4 := chgA_len (fun _ b => stopI b) d k p.s (chgA addI d k (rstA d k (keepC d k l) p.r) p.i)
    omega
  · simp
structure AlS where
  j : Nat
  now : List Cnt
  out : List (List Cnt)
  ver : Nat
  clk : Nat
theorem all_ok (d : Doc) (ps : List Prp) (hd : d.l.length ≤ 600) (hps : okPs ps) (hpl : ps.length ≤ 1000000) : PCall Try.prog 21 [.agg d.enc, prps ps] (css (allC d ps)) := by
  by_cases hlen : (ps.length : Int) = (d.l.length : Int)
  · have hlen' : ps.length = d.l.length := by omega
    have hA : allC d ps = allS d ps (inV d) [] := by unfold allC; rw [if_pos hlen']
    rw [hA]
    generalize hR : allS d ps (inV d) [] = R
    refine PCall.of (Orc.cons sumInA (Orc.cons sumStep (Orc.cons sumCloneC (Orc.nil _)))) c21_ok (by simp [c21]) fun w0 own0 => ?_
    have hd1 : d.l.length ≤ 1000 := by omega
    have hil := inV_len d
    have hlenT := eq_true hlen
    simp only [c21, prps, Doc.enc, dDoc_mk, Doc.eta, ints, hlenT, hd1, on_gcall, off_gcall, flat_gcall, wpC_seq_xreg, wpC_xreg, wpXR_nil, wpXR_own, wpXR_flu, xeOK, xe, argTops, openArgs, Orc.ppre_cons, Orc.pr_cons, Orc.ppre_econs, Orc.pr_econs, Orc.ppre_fcons, Orc.pr_fcons, Orc.ppre_gcons, Orc.pr_gcons, List.head?_cons, List.headD_cons, XE.val, XE.heap, efO, shutArgs, xfoot, footO, V.tops, V.top1, clashOne, noClash, Orc.flat_fcons, Orc.pre_fcons, Orc.v_fcons, Orc.hp_fcons, Orc.qpre_fcons, Orc.qv_fcons, Orc.fpre_fcons, Orc.fes_fcons, Orc.flat_gcons, Orc.pre_gcons, Orc.v_gcons, Orc.hp_gcons, Orc.qpre_gcons, Orc.qv_gcons, Orc.fpre_gcons, Orc.fes_gcons, GSum.pre, GSum.v, GSum.hp, Orc.fpre_cons, Orc.fes_cons, Orc.fpre_econs, Orc.fes_econs, FSum.pre, FSum.v, FSum.hp, fres, O.calls, List.flatMap_cons, List.flatMap_nil, List.contains_cons, List.contains_nil, Bool.not_true, Bool.not_false, Heap.freeze, List.mapIdx_cons, List.mapIdx_nil, List.elem_cons, List.elem_nil, fluP, fluV, evF, bne_iff_ne, ne_eq, Option.some.injEq, go_sem, reduceCtorEq, reduceIte, Nat.reduceEqDiff, Nat.reduceAdd, Nat.reduceSub, Nat.reduceMul, Nat.reduceLT, Nat.reduceLeDiff, Nat.reduceBEq, Int.reduceEq, Int.reduceLT, Int.reduceLE, Int.reduceAdd, Int.reduceSub, Int.reduceNeg, Int.reduceToNat]
    refine SemC.lp (α := AlS) (fun a => [(1, .slc 8 (ps.map Prp.enc)), (2, .ptr 0 0 0 0), (5, .ref 1 a.ver 0 a.out.length), (6, .slc 3 (a.now.map Cnt.enc)), (16, .slc 1 ((inV d).map fun n => [vi n])), (17, vi (inV d).length), (18, vi a.j)])
      (fun a => ⟨[⟨0, 5, [d.enc], false, []⟩, ⟨a.ver, 1, a.out.map fun l => [.slc 3 (l.map Cnt.enc)], false, [vnil]⟩], a.clk⟩)
      (fun a => a.j ≤ (inV d).length ∧ a.out ++ allS d ps ((inV d).drop a.j) a.now = R ∧ a.now.length ≤ 30 * a.j ∧ a.out.length = a.j) (fun a => (inV d).length - a.j) ⟨0, [], [], 1, 2⟩
      ⟨Nat.zero_le _, by simpa using hR, by simp, rfl⟩ (St.nil 5 1 [vnil] (by simp [upd_at]) (St.nilW 6 3 (by simp [upd_at]) (St.cut ?_ ?_ ?_))) fun a ha => ?_
    · simp [Agrees, upd_at, initE_at]
    · simp [Heap.alloc, Doc.enc]
    · rfl
    obtain ⟨j, now, out, ver, clk⟩ := a
    obtain ⟨g1, g2, g3, g4⟩ := ha
    simp only at g1 g2 g3 g4
    by_cases hj : j = (inV d).length
    · subst hj
      rw [List.drop_length] at g2
      simp only [allS, List.append_nil] at g2
      subst g2
      simp only [Int.lt_irrefl, css, Doc.enc, mapO_css, List.take_length, List.length_map, Nat.le_refl, on_gcall, off_gcall, flat_gcall, wpC_seq_xreg, wpC_xreg, wpXR_nil, wpXR_own, wpXR_flu, xeOK, xe, argTops, openArgs, Orc.ppre_cons, Orc.pr_cons, Orc.ppre_econs, Orc.pr_econs, Orc.ppre_fcons, Orc.pr_fcons, Orc.ppre_gcons, Orc.pr_gcons, List.head?_cons, List.headD_cons, XE.val, XE.heap, efO, shutArgs, xfoot, footO, V.tops, V.top1, clashOne, noClash, Orc.flat_fcons, Orc.pre_fcons, Orc.v_fcons, Orc.hp_fcons, Orc.qpre_fcons, Orc.qv_fcons, Orc.fpre_fcons, Orc.fes_fcons, Orc.flat_gcons, Orc.pre_gcons, Orc.v_gcons, Orc.hp_gcons, Orc.qpre_gcons, Orc.qv_gcons, Orc.fpre_gcons, Orc.fes_gcons, GSum.pre, GSum.v, GSum.hp, Orc.fpre_cons, Orc.fes_cons, Orc.fpre_econs, Orc.fes_econs, FSum.pre, FSum.v, FSum.hp, fres, O.calls, List.flatMap_cons, List.flatMap_nil, List.contains_cons, List.contains_nil, Bool.not_true, Bool.not_false, Heap.freeze, List.mapIdx_cons, List.mapIdx_nil, List.elem_cons, List.elem_nil, fluP, fluV, evF, bne_iff_ne, ne_eq, Option.some.injEq, go_sem, reduceCtorEq, reduceIte, Nat.reduceEqDiff, Nat.reduceAdd, Nat.reduceSub, Nat.reduceMul, Nat.reduceLT, Nat.reduceLeDiff, Nat.reduceBEq, Int.reduceEq, Int.reduceLT, Int.reduceLE, Int.reduceAdd, Int.reduceSub, Int.reduceNeg, Int.reduceToNat]
    · have j1 : (j : Int) < ((inV d).length : Int) := by omega
      have j0 : (0 : Int) ≤ (j : Int) := by omega
      have hk : (inV d).getD j 0 ∈ inV d := by rw [List.getD_eq_getElem?_getD, List.getElem?_eq_getElem (by omega)]; exact List.getElem_mem _
      have hdj : (inV d).drop j = (inV d).getD j 0 :: (inV d).drop (j + 1) := by
        rw [List.drop_eq_getElem_cons (by omega), List.getD_eq_getElem?_getD, List.getElem?_eq_getElem (by omega)]; rfl
      rw [hdj] at g2
      simp only [allS] at g2
      obtain ⟨_, k0, k1, _⟩ := inV_mem hk
      generalize hkk : (inV d).getD j 0 = k at *
      have hgp := fun z => getD_prps ps k.toNat z (by omega)
      have kl : k < (ps.length : Int) := by omega
      have hp := hps (ps.getD k.toNat .zero) (by rw [List.getD_eq_getElem?_getD, List.getElem?_eq_getElem (by omega)]; exact List.getElem_mem _)
      generalize ps.getD k.toNat .zero = p at *
      obtain ⟨hp1, hp2, hp3, hp4⟩ := hp
      have hnl : now.length ≤ 20000 := by omega
      have hsl := stepC_len d p k now
      have hsl6 : (stepC d p k now).length ≤ 1000000 := by omega
      have hot : out.take out.length = out := List.take_length
      have hs30 : (stepC d p k now).length ≤ 30 * (j + 1) := by omega
      obtain ⟨pb, pa, pg, pr, pi, pss, pst, prun⟩ := p
      have hxx : (∃ m es, pst = .slc m es) ∨ pst = vnil := by rcases hp1.st with h | h; exact .inr h; exact .inl h
      simp only at hsl
      simp only at hp2 hp3 hp4
      rcases hxx with ⟨mm, ees, rfl⟩ | rfl
      · simp only [j0, j1, hkk, k0, kl, hgp, hp1, hnl, hsl6, hot, hd1, Doc.enc, Prp.enc, vsts, cnts, dDoc_mk, Doc.eta, dPrp_mk, dCnts_map, on_gcall, off_gcall, flat_gcall, wpC_seq_xreg, wpC_xreg, wpXR_nil, wpXR_own, wpXR_flu, xeOK, xe, argTops, openArgs, Orc.ppre_cons, Orc.pr_cons, Orc.ppre_econs, Orc.pr_econs, Orc.ppre_fcons, Orc.pr_fcons, Orc.ppre_gcons, Orc.pr_gcons, List.head?_cons, List.headD_cons, XE.val, XE.heap, efO, shutArgs, xfoot, footO, V.tops, V.top1, clashOne, noClash, Orc.flat_fcons, Orc.pre_fcons, Orc.v_fcons, Orc.hp_fcons, Orc.qpre_fcons, Orc.qv_fcons, Orc.fpre_fcons, Orc.fes_fcons, Orc.flat_gcons, Orc.pre_gcons, Orc.v_gcons, Orc.hp_gcons, Orc.qpre_gcons, Orc.qv_gcons, Orc.fpre_gcons, Orc.fes_gcons, GSum.pre, GSum.v, GSum.hp, Orc.fpre_cons, Orc.fes_cons, Orc.fpre_econs, Orc.fes_econs, FSum.pre, FSum.v, FSum.hp, fres, O.calls, List.flatMap_cons, List.flatMap_nil, List.contains_cons, List.contains_nil, Bool.not_true, Bool.not_false, Heap.freeze, List.mapIdx_cons, List.mapIdx_nil, List.elem_cons, List.elem_nil, fluP, fluV, evF, bne_iff_ne, ne_eq, Option.some.injEq, go_sem, reduceCtorEq, reduceIte, Nat.reduceEqDiff, Nat.reduceAdd, Nat.reduceSub, Nat.reduceMul, Nat.reduceLT, Nat.reduceLeDiff, Nat.reduceBEq, Int.reduceEq, Int.reduceLT, Int.reduceLE, Int.reduceAdd, Int.reduceSub, Int.reduceNeg, Int.reduceToNat]
        exact ⟨⟨Nat.le_refl _, by omega, by omega⟩, by omega, ⟨j + 1, _, out ++ [_], _, _⟩, ⟨by dsimp only; omega, by rw [List.append_assoc]; exact g2, hs30, by simp; omega⟩, by dsimp only; omega, ⟨⟨rfl, by simp⟩, rfl, by dsimp only; omega⟩, ⟨rfl, by simp⟩, rfl⟩
      · simp only [j0, j1, hkk, k0, kl, hgp, hp1, hnl, hsl6, hot, hd1, Doc.enc, Prp.enc, vsts, cnts, dDoc_mk, Doc.eta, dPrp_mk, dCnts_map, on_gcall, off_gcall, flat_gcall, wpC_seq_xreg, wpC_xreg, wpXR_nil, wpXR_own, wpXR_flu, xeOK, xe, argTops, openArgs, Orc.ppre_cons, Orc.pr_cons, Orc.ppre_econs, Orc.pr_econs, Orc.ppre_fcons, Orc.pr_fcons, Orc.ppre_gcons, Orc.pr_gcons, List.head?_cons, List.headD_cons, XE.val, XE.heap, efO, shutArgs, xfoot, footO, V.tops, V.top1, clashOne, noClash, Orc.flat_fcons, Orc.pre_fcons, Orc.v_fcons, Orc.hp_fcons, Orc.qpre_fcons, Orc.qv_fcons, Orc.fpre_fcons, Orc.fes_fcons, Orc.flat_gcons, Orc.pre_gcons, Orc.v_gcons, Orc.hp_gcons, Orc.qpre_gcons, Orc.qv_gcons, Orc.fpre_gcons, Orc.fes_gcons, GSum.pre, GSum.v, GSum.hp, Orc.fpre_cons, Orc.fes_cons, Orc.fpre_econs, Orc.fes_econs, FSum.pre, FSum.v, FSum.hp, fres, O.calls, List.flatMap_cons, List.flatMap_nil, List.contains_cons, List.contains_nil, Bool.not_true, Bool.not_false, Heap.freeze, List.mapIdx_cons, List.mapIdx_nil, List.elem_cons, List.elem_nil, fluP, fluV, evF, bne_iff_ne, ne_eq, Option.some.injEq, go_sem, reduceCtorEq, reduceIte, Nat.reduceEqDiff, Nat.reduceAdd, Nat.reduceSub, Nat.reduceMul, Nat.reduceLT, Nat.reduceLeDiff, Nat.reduceBEq, Int.reduceEq, Int.reduceLT, Int.reduceLE, Int.reduceAdd, Int.reduceSub, Int.reduceNeg, Int.reduceToNat]
        exact ⟨⟨Nat.le_refl _, by omega, by omega⟩, by omega, ⟨j + 1, _, out ++ [_], _, _⟩, ⟨by dsimp only; omega, by rw [List.append_assoc]; exact g2, hs30, by simp; omega⟩, by dsimp only; omega, ⟨⟨rfl, by simp⟩, rfl, by dsimp only; omega⟩, ⟨rfl, by simp⟩, rfl⟩
  · have hA : allC d ps = [] := by unfold allC; rw [if_neg (by omega)]
    rw [hA]
    refine PCall.rsub (r := vnil) ?_ fun F w v h => PRep.nilC 1 h
    refine PCall.of (Orc.cons sumInA (Orc.cons sumStep (Orc.cons sumCloneC (Orc.nil _)))) c21_ok (by simp [c21]) fun w0 own0 => ?_
    have hlen := eq_false hlen
    simp only [c21, prps, Doc.enc, hlen, on_gcall, off_gcall, flat_gcall, wpC_seq_xreg, wpC_xreg, wpXR_nil, wpXR_own, wpXR_flu, xeOK, xe, argTops, openArgs, Orc.ppre_cons, Orc.pr_cons, Orc.ppre_econs, Orc.pr_econs, Orc.ppre_fcons, Orc.pr_fcons, Orc.ppre_gcons, Orc.pr_gcons, List.head?_cons, List.headD_cons, XE.val, XE.heap, efO, shutArgs, xfoot, footO, V.tops, V.top1, clashOne, noClash, Orc.flat_fcons, Orc.pre_fcons, Orc.v_fcons, Orc.hp_fcons, Orc.qpre_fcons, Orc.qv_fcons, Orc.fpre_fcons, Orc.fes_fcons, Orc.flat_gcons, Orc.pre_gcons, Orc.v_gcons, Orc.hp_gcons, Orc.qpre_gcons, Orc.qv_gcons, Orc.fpre_gcons, Orc.fes_gcons, GSum.pre, GSum.v, GSum.hp, Orc.fpre_cons, Orc.fes_cons, Orc.fpre_econs, Orc.fes_econs, FSum.pre, FSum.v, FSum.hp, fres, O.calls, List.flatMap_cons, List.flatMap_nil, List.contains_cons, List.contains_nil, Bool.not_true, Bool.not_false, Heap.freeze, List.mapIdx_cons, List.mapIdx_nil, List.elem_cons, List.elem_nil, fluP, fluV, evF, bne_iff_ne, ne_eq, Option.some.injEq, go_sem, reduceCtorEq, reduceIte, Nat.reduceEqDiff, Nat.reduceAdd, Nat.reduceSub, Nat.reduceMul, Nat.reduceLT, Nat.reduceLeDiff, Nat.reduceBEq, Int.reduceEq, Int.reduceLT, Int.reduceLE, Int.reduceAdd, Int.reduceSub, Int.reduceNeg, Int.reduceToNat]
end Go.Proofs.Yteifbbinfipdlaa
