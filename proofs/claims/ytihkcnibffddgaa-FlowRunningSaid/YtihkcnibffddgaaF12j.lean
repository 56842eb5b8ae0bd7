/- The laws of flows: what stands in a running element. -/
import Derived.Test.YtihkcnibffddgaaCe
import Derived.Test.YtihkcnibffddgaaF12i
import Derived.Test.YtihkcnibffddgaaF12c
namespace Go.Proofs.Ytihkcnibffddgaa
open Go.Sx
set_option linter.unusedSimpArgs false
set_option maxHeartbeats 4000000
set_option maxRecDepth 20000

structure RnS where
  k : Nat
  v2 : Nat
  v3 : Nat
  clk : Nat
def rnH (d : Doc) (fz : Bool) (a : RnS) : Heap := ⟨[⟨0, 5, [d.enc], fz, []⟩, ⟨1, 5, [[.slc 6 (d.l.map Node.enc), .slc 1 (d.run.map fun b => [vb b]), .ref 2 a.v2 0 a.k, .ref 3 a.v3 0 a.k, .slc 1 (d.page.map fun s => [vs s])]], fz, []⟩,
  ⟨a.v2, 1, (onlyN d d.bef a.k).map fun n => [vi n], fz, [vi 0]⟩, ⟨a.v3, 1, (onlyN d d.aft a.k).map fun n => [vi n], fz, [vi 0]⟩], a.clk⟩
theorem flowRunning_law (x : List V) (hl : x.length = 5) (h : ∀ i c, docC[i]? = some c → CellOK c (x.getD i .any)) : PCall Try.prog 5 [.agg x] (.c (.bool true)) := by
  obtain ⟨d, rfl⟩ := doc_of hl h
  refine PCall.of (Orc.cons sumFew12 (Orc.cons sumAwake12 (Orc.cons sumGiven (Orc.cons sumRightR (Orc.cons sumInA (Orc.cons sumAhd (Orc.cons sumIsR (Orc.cons sumSame (Orc.nil _))))))))) c5_ok (by simp [c5]) fun w0 own0 => ?_
  by_cases hf : few12 d = true
  · have hn := few12_len hf
    have hl : d.l.length ≤ 1000 := by omega
    by_cases hr : rightB d = true
    · have hok : okL d := ⟨rightB_ok hr, hl⟩
      have hinv : inV d = inL d := by unfold inV; rw [if_pos hr]
      have hil := inL_len d
      have hbl : d.bef.length = d.l.length := hok.1.len.2.1
      have hal : d.aft.length = d.l.length := hok.1.len.2.2.1
      have g1 := onlyN_len d d.bef
      have g2 := onlyN_len d d.aft
      have g3 : ∀ n, (onlyN d d.bef n).take n = onlyN d d.bef n := fun n => List.take_of_length_le (by rw [g1]; omega)
      have g4 : ∀ n, (onlyN d d.aft n).take n = onlyN d d.aft n := fun n => List.take_of_length_le (by rw [g2]; omega)
      have g5 : inV ⟨d.l, d.run, onlyN d d.bef d.l.length, onlyN d d.aft d.l.length, d.page⟩ = inL d := onlyD_in hr
      have g6 : (inL d).length ≤ 1000000 := by omega
      simp only [c5, Doc.enc, dDoc_mk, Doc.eta, hf, hl, hr, hinv, ints, on_gcall, off_gcall, flat_gcall, sumFew12_f, sumFew12_D, sumFew12_flat, sumFew12_r, sumAwake12_f, sumAwake12_D, sumAwake12_flat, sumAwake12_r, sumGiven_f, sumGiven_D, sumGiven_flat, sumGiven_r, sumRightR_f, sumRightR_D, sumRightR_flat, sumRightR_r, sumInA_f, sumInA_D, sumInA_flat, sumInA_r, sumAhd_f, sumAhd_D, sumAhd_flat, sumAhd_r, sumIsR_f, sumIsR_D, sumIsR_flat, sumIsR_r, sumSame_f, sumSame_D, sumSame_flat, sumSame_r, go_sem, reduceCtorEq, reduceIte, Nat.reduceEqDiff, Nat.reduceAdd, Nat.reduceSub, Nat.reduceMul, Nat.reduceLT, Nat.reduceLeDiff, Nat.reduceBEq, Int.reduceEq, Int.reduceLT, Int.reduceLE, Int.reduceAdd, Int.reduceSub, Int.reduceNeg, Int.reduceToNat]
      refine SemC.lp (α := RnS) (fun a => [(1, .ptr 0 0 0 0), (3, .ptr 1 1 0 0), (28, vi d.l.length), (29, vi a.k)]) (rnH d false)
        (fun a => a.k ≤ d.l.length) (fun a => d.l.length - a.k) ⟨0, 2, 3, 4⟩ (Nat.zero_le _)
        (St.cell 1 0 2 1 [vi 0] rfl rfl (St.cell 1 0 3 1 [vi 0] rfl rfl (St.cut ?_ ?_ ?_))) fun a ha => ?_
      · simp [Agrees, upd_at, initE_at]
      · simp [rnH, Heap.alloc, Doc.enc, onlyN]
      · rfl
      obtain ⟨k, v2, v3, clk⟩ := a
      simp only at ha
      by_cases hk : k = d.l.length
      · subst hk
        simp only [rnH, Doc.enc, Int.lt_irrefl, hl, dDoc_mk, Doc.eta, hinv, g1, g2, g3, g4, g5, g6, Nat.le_refl, ints, sumFew12_f, sumFew12_D, sumFew12_flat, sumFew12_r, sumAwake12_f, sumAwake12_D, sumAwake12_flat, sumAwake12_r, sumGiven_f, sumGiven_D, sumGiven_flat, sumGiven_r, sumRightR_f, sumRightR_D, sumRightR_flat, sumRightR_r, sumInA_f, sumInA_D, sumInA_flat, sumInA_r, sumAhd_f, sumAhd_D, sumAhd_flat, sumAhd_r, sumIsR_f, sumIsR_D, sumIsR_flat, sumIsR_r, sumSame_f, sumSame_D, sumSame_flat, sumSame_r, go_sem, wpR_gcall, reduceCtorEq, reduceIte, Nat.reduceEqDiff, Nat.reduceAdd, Nat.reduceSub, Nat.reduceMul, Nat.reduceLT, Nat.reduceLeDiff, Nat.reduceBEq, Int.reduceEq, Int.reduceLT, Int.reduceLE, Int.reduceAdd, Int.reduceSub, Int.reduceNeg, Int.reduceToNat]
        refine SemC.lp (α := Nat) (fun i => [(1, .ptr 0 0 0 0), (3, .ptr 1 1 0 0), (61, .slc 1 ((inL d).map fun n => [vi n])), (62, vi (inL d).length), (63, vi i)]) (fun _ => rnH d true ⟨d.l.length, v2, v3, clk⟩)
          (fun i => i ≤ (inL d).length) (fun i => (inL d).length - i) 0 (Nat.zero_le _) (St.freeze (St.cut ?_ ?_ ?_)) fun i hi => ?_
        · simp [Agrees, upd_at, ev_cons]
        · simp [rnH, Heap.freeze, Doc.enc]
        · rfl
        by_cases he : i = (inL d).length
        · subst he
          simp only [rnH, Doc.enc, Int.lt_irrefl, hl, dDoc_mk, Doc.eta, hinv, g1, g2, g3, g4, g5, g6, Nat.le_refl, ints, sumFew12_f, sumFew12_D, sumFew12_flat, sumFew12_r, sumAwake12_f, sumAwake12_D, sumAwake12_flat, sumAwake12_r, sumGiven_f, sumGiven_D, sumGiven_flat, sumGiven_r, sumRightR_f, sumRightR_D, sumRightR_flat, sumRightR_r, sumInA_f, sumInA_D, sumInA_flat, sumInA_r, sumAhd_f, sumAhd_D, sumAhd_flat, sumAhd_r, sumIsR_f, sumIsR_D, sumIsR_flat, sumIsR_r, sumSame_f, sumSame_D, sumSame_flat, sumSame_r, go_sem, wpR_gcall, reduceCtorEq, reduceIte, Nat.reduceEqDiff, Nat.reduceAdd, Nat.reduceSub, Nat.reduceMul, Nat.reduceLT, Nat.reduceLeDiff, Nat.reduceBEq, Int.reduceEq, Int.reduceLT, Int.reduceLE, Int.reduceAdd, Int.reduceSub, Int.reduceNeg, Int.reduceToNat]
          rfl
        · have e1 : (i : Int) < ((inL d).length : Int) := by omega
          obtain ⟨_, m, q1, q2, q3⟩ := inV_at (d := d) (i := i) (by rw [hinv]; omega)
          rw [hinv] at q1
          have g7 : ahdV ⟨d.l, d.run, onlyN d d.bef d.l.length, onlyN d d.aft d.l.length, d.page⟩ m = ahdV d m := onlyD_ahd hr q2 q3
          simp only [rnH, Doc.enc, e1, q1, g7, hl, dDoc_mk, Doc.eta, hinv, g1, g2, g3, g4, g5, g6, Nat.le_refl, ints, sumFew12_f, sumFew12_D, sumFew12_flat, sumFew12_r, sumAwake12_f, sumAwake12_D, sumAwake12_flat, sumAwake12_r, sumGiven_f, sumGiven_D, sumGiven_flat, sumGiven_r, sumRightR_f, sumRightR_D, sumRightR_flat, sumRightR_r, sumInA_f, sumInA_D, sumInA_flat, sumInA_r, sumAhd_f, sumAhd_D, sumAhd_flat, sumAhd_r, sumIsR_f, sumIsR_D, sumIsR_flat, sumIsR_r, sumSame_f, sumSame_D, sumSame_flat, sumSame_r, go_sem, wpR_gcall, reduceCtorEq, reduceIte, Nat.reduceEqDiff, Nat.reduceAdd, Nat.reduceSub, Nat.reduceMul, Nat.reduceLT, Nat.reduceLeDiff, Nat.reduceBEq, Int.reduceEq, Int.reduceLT, Int.reduceLE, Int.reduceAdd, Int.reduceSub, Int.reduceNeg, Int.reduceToNat]
          exact ⟨by omega, by omega, i + 1, by omega, by omega, by omega⟩
      · have e1 : (k : Int) < (d.l.length : Int) := by omega
        have e0 : (0 : Int) ≤ (k : Int) := by omega
        have hth := thB_at (d := d) (k := k) (by omega)
        cases hi : isN d k with
        | true =>
          simp only [rnH, Doc.enc, e0, e1, hbl, hal, hth, hi, hok, hl, dDoc_mk, Doc.eta, hinv, g1, g2, g3, g4, Nat.le_refl, ints, sumFew12_f, sumFew12_D, sumFew12_flat, sumFew12_r, sumAwake12_f, sumAwake12_D, sumAwake12_flat, sumAwake12_r, sumGiven_f, sumGiven_D, sumGiven_flat, sumGiven_r, sumRightR_f, sumRightR_D, sumRightR_flat, sumRightR_r, sumInA_f, sumInA_D, sumInA_flat, sumInA_r, sumAhd_f, sumAhd_D, sumAhd_flat, sumAhd_r, sumIsR_f, sumIsR_D, sumIsR_flat, sumIsR_r, sumSame_f, sumSame_D, sumSame_flat, sumSame_r, wpC_seq_xreg, wpC_xreg, wpXR_nil, wpXR_own, wpXR_flu, xeOK, xe, XE.val, XE.heap, efO, shutArgs, xfoot, footO, V.tops, V.top1, clashOne, noClash, Orc.flat_fcons, Orc.pre_fcons, Orc.v_fcons, Orc.hp_fcons, Orc.qpre_fcons, Orc.qv_fcons, Orc.fpre_fcons, Orc.fes_fcons, Orc.flat_gcons, Orc.pre_gcons, Orc.v_gcons, Orc.hp_gcons, Orc.qpre_gcons, Orc.qv_gcons, Orc.fpre_gcons, Orc.fes_gcons, GSum.pre, GSum.v, GSum.hp, Orc.fpre_cons, Orc.fes_cons, Orc.fpre_econs, Orc.fes_econs, FSum.pre, FSum.v, FSum.hp, fres, O.calls, List.flatMap_cons, List.flatMap_nil, List.contains_cons, List.contains_nil, Bool.not_true, Bool.not_false, Heap.freeze, List.mapIdx_cons, List.mapIdx_nil, List.elem_cons, List.elem_nil, fluP, fluV, evF, bne_iff_ne, ne_eq, Option.some.injEq, go_sem, wpR_gcall, reduceCtorEq, reduceIte, Nat.reduceEqDiff, Nat.reduceAdd, Nat.reduceSub, Nat.reduceMul, Nat.reduceLT, Nat.reduceLeDiff, Nat.reduceBEq, Int.reduceEq, Int.reduceLT, Int.reduceLE, Int.reduceAdd, Int.reduceSub, Int.reduceNeg, Int.reduceToNat]
          refine ⟨⟨by omega, by omega⟩, ⟨by omega, by omega⟩, by omega, ⟨k + 1, clk, clk + 1, clk + 1 + 1 + 12⟩, by dsimp only; omega, by dsimp only; omega, by dsimp only; omega, ⟨⟨⟨rfl, rfl⟩, rfl, rfl⟩, ⟨rfl, ?_⟩, rfl, ?_⟩, rfl⟩
          · simp [onlyN, hi]
          · simp [onlyN, hi]
        | false =>
          simp only [rnH, Doc.enc, e0, e1, hbl, hal, hth, hi, hok, hl, dDoc_mk, Doc.eta, hinv, g1, g2, g3, g4, Nat.le_refl, ints, sumFew12_f, sumFew12_D, sumFew12_flat, sumFew12_r, sumAwake12_f, sumAwake12_D, sumAwake12_flat, sumAwake12_r, sumGiven_f, sumGiven_D, sumGiven_flat, sumGiven_r, sumRightR_f, sumRightR_D, sumRightR_flat, sumRightR_r, sumInA_f, sumInA_D, sumInA_flat, sumInA_r, sumAhd_f, sumAhd_D, sumAhd_flat, sumAhd_r, sumIsR_f, sumIsR_D, sumIsR_flat, sumIsR_r, sumSame_f, sumSame_D, sumSame_flat, sumSame_r, wpC_seq_xreg, wpC_xreg, wpXR_nil, wpXR_own, wpXR_flu, xeOK, xe, XE.val, XE.heap, efO, shutArgs, xfoot, footO, V.tops, V.top1, clashOne, noClash, Orc.flat_fcons, Orc.pre_fcons, Orc.v_fcons, Orc.hp_fcons, Orc.qpre_fcons, Orc.qv_fcons, Orc.fpre_fcons, Orc.fes_fcons, Orc.flat_gcons, Orc.pre_gcons, Orc.v_gcons, Orc.hp_gcons, Orc.qpre_gcons, Orc.qv_gcons, Orc.fpre_gcons, Orc.fes_gcons, GSum.pre, GSum.v, GSum.hp, Orc.fpre_cons, Orc.fes_cons, Orc.fpre_econs, Orc.fes_econs, FSum.pre, FSum.v, FSum.hp, fres, O.calls, List.flatMap_cons, List.flatMap_nil, List.contains_cons, List.contains_nil, Bool.not_true, Bool.not_false, Heap.freeze, List.mapIdx_cons, List.mapIdx_nil, List.elem_cons, List.elem_nil, fluP, fluV, evF, bne_iff_ne, ne_eq, Option.some.injEq, go_sem, wpR_gcall, reduceCtorEq, reduceIte, Nat.reduceEqDiff, Nat.reduceAdd, Nat.reduceSub, Nat.reduceMul, Nat.reduceLT, Nat.reduceLeDiff, Nat.reduceBEq, Int.reduceEq, Int.reduceLT, Int.reduceLE, Int.reduceAdd, Int.reduceSub, Int.reduceNeg, Int.reduceToNat]
          refine ⟨⟨by omega, by omega⟩, ⟨by omega, by omega⟩, by omega, ⟨k + 1, clk, clk + 1, clk + 1 + 1 + 12⟩, by dsimp only; omega, by dsimp only; omega, by dsimp only; omega, ⟨⟨⟨rfl, rfl⟩, rfl, rfl⟩, ⟨rfl, ?_⟩, rfl, ?_⟩, rfl⟩
          · simp [onlyN, hi]
          · simp [onlyN, hi]
    · simp only [c5, Doc.enc, dDoc_mk, Doc.eta, hf, hl, hr, ints, on_gcall, off_gcall, flat_gcall, sumFew12_f, sumFew12_D, sumFew12_flat, sumFew12_r, sumAwake12_f, sumAwake12_D, sumAwake12_flat, sumAwake12_r, sumGiven_f, sumGiven_D, sumGiven_flat, sumGiven_r, sumRightR_f, sumRightR_D, sumRightR_flat, sumRightR_r, sumInA_f, sumInA_D, sumInA_flat, sumInA_r, sumAhd_f, sumAhd_D, sumAhd_flat, sumAhd_r, sumIsR_f, sumIsR_D, sumIsR_flat, sumIsR_r, sumSame_f, sumSame_D, sumSame_flat, sumSame_r, go_sem, reduceCtorEq, reduceIte, Nat.reduceEqDiff, Nat.reduceAdd, Nat.reduceSub, Nat.reduceMul, Nat.reduceLT, Nat.reduceLeDiff, Nat.reduceBEq, Int.reduceEq, Int.reduceLT, Int.reduceLE, Int.reduceAdd, Int.reduceSub, Int.reduceNeg, Int.reduceToNat]
  · simp only [c5, Doc.enc, dDoc_mk, Doc.eta, hf, on_gcall, off_gcall, flat_gcall, sumFew12_f, sumFew12_D, sumFew12_flat, sumFew12_r, sumAwake12_f, sumAwake12_D, sumAwake12_flat, sumAwake12_r, sumGiven_f, sumGiven_D, sumGiven_flat, sumGiven_r, sumRightR_f, sumRightR_D, sumRightR_flat, sumRightR_r, sumInA_f, sumInA_D, sumInA_flat, sumInA_r, sumAhd_f, sumAhd_D, sumAhd_flat, sumAhd_r, sumIsR_f, sumIsR_D, sumIsR_flat, sumIsR_r, sumSame_f, sumSame_D, sumSame_flat, sumSame_r, go_sem, reduceCtorEq, reduceIte, Nat.reduceEqDiff, Nat.reduceAdd, Nat.reduceSub, Nat.reduceMul, Nat.reduceLT, Nat.reduceLeDiff, Nat.reduceBEq, Int.reduceEq, Int.reduceLT, Int.reduceLE, Int.reduceAdd, Int.reduceSub, Int.reduceNeg, Int.reduceToNat]
end Go.Proofs.Ytihkcnibffddgaa
