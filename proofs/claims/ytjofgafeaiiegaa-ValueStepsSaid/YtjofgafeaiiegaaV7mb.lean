/- Layer 7: an item, by the document. -/
import Derived.Test.YtjofgafeaiiegaaV7ma
import Derived.Test.YtjofgafeaiiegaaGc
namespace Go.Proofs.Ytjofgafeaiiegaa
open Go.Sx
set_option linter.unusedSimpArgs false
set_option maxHeartbeats 4000000
set_option maxRecDepth 20000

theorem itemR_ok (p : Pa) (h : okP7 p) (h' : okT p.al) : PCall Try.prog 59 [.agg p.enc] (itR (itemW p)) := by
  obtain ⟨S⟩ := atS_ex
  refine PCall.of (Orc.cons S.S (Orc.cons sumArgsR (Orc.cons sumNmR (Orc.cons sumLwR (Orc.cons sumStyR (Orc.nil _)))))) c59_ok (by simp [c59]) fun w0 own0 => ?_
  have h1 := h'.1
  have hb : c59.body = .seq c59.body.hd (.seq c59.body.tl.hd (.seq c59.body.tl.tl.hd (.seq c59.body.tl.tl.tl.hd (.seq c59.body.tl.tl.tl.tl.hd (.seq c59.body.tl.tl.tl.tl.tl.hd (.seq c59.body.tl.tl.tl.tl.tl.tl.hd (.seq c59.body.tl.tl.tl.tl.tl.tl.tl.hd (.seq c59.body.tl.tl.tl.tl.tl.tl.tl.tl.hd (.seq c59.body.tl.tl.tl.tl.tl.tl.tl.tl.tl.hd (tlI)))))))))) := rfl
  rw [hb]
  have T1 := @tail_st1 S p
  have T2 := @tail_st2 S p
  have T3 := @tail_ch1 S p
  obtain ⟨S, s1, s2, sD, sr⟩ := S
  have hQ : ∀ R, (retQ c59.rs fun v h => res (fun _ => true) h 12 v = some (itR R)) = QI R := fun R => rfl
  generalize tlI = rest at *
  unfold itemW
  by_cases k6 : p.t.kind = 6
  · have k6t := eq_true k6
    rw [if_pos k6]
    simp only [c59, C.hd, C.tl, Pa.enc, k6t, itR, Itm.enc, res11_agg, on_gcall, off_gcall, flat_gcall, wpC_seq_xreg, wpC_xreg, wpXR_nil, wpXR_own, wpXR_flu, xeOK, xe, argTops, openArgs, Orc.ppre_cons, Orc.pr_cons, Orc.ppre_econs, Orc.pr_econs, Orc.ppre_fcons, Orc.pr_fcons, Orc.ppre_gcons, Orc.pr_gcons, List.head?_cons, List.headD_cons, XE.val, XE.heap, efO, shutArgs, xfoot, footO, V.tops, V.top1, clashOne, noClash, Orc.flat_fcons, Orc.pre_fcons, Orc.v_fcons, Orc.hp_fcons, Orc.qpre_fcons, Orc.qv_fcons, Orc.fpre_fcons, Orc.fes_fcons, Orc.flat_gcons, Orc.pre_gcons, Orc.v_gcons, Orc.hp_gcons, Orc.qpre_gcons, Orc.qv_gcons, Orc.fpre_gcons, Orc.fes_gcons, GSum.pre, GSum.v, GSum.hp, Orc.fpre_cons, Orc.fes_cons, Orc.fpre_econs, Orc.fes_econs, FSum.pre, FSum.v, FSum.hp, fres, O.calls, List.flatMap_cons, List.flatMap_nil, List.contains_cons, List.contains_nil, Bool.not_true, Bool.not_false, Heap.freeze, List.mapIdx_cons, List.mapIdx_nil, List.elem_cons, List.elem_nil, fluP, fluV, evF, bne_iff_ne, ne_eq, Option.some.injEq, s1, s2, go_sem, reduceCtorEq, reduceIte, Nat.reduceEqDiff, Nat.reduceAdd, Nat.reduceSub, Nat.reduceMul, Nat.reduceLT, Nat.reduceLeDiff, Nat.reduceBEq, Int.reduceEq, Int.reduceLT, Int.reduceLE, Int.reduceAdd, Int.reduceSub, Int.reduceNeg, Int.reduceToNat]
  rw [if_neg k6]
  have k6f := eq_false k6
  cases hb : argsB p with
  | false =>
    rw [if_neg (by simp)]
    have hL := argsW_false hb
    simp only [c59, C.hd, C.tl, Pa.enc, k6f, hL, h, h', dPa_mk, Pa.eta', itR, Itm.enc, Itm.zero, res11_agg, on_gcall, off_gcall, flat_gcall, wpC_seq_xreg, wpC_xreg, wpXR_nil, wpXR_own, wpXR_flu, xeOK, xe, argTops, openArgs, Orc.ppre_cons, Orc.pr_cons, Orc.ppre_econs, Orc.pr_econs, Orc.ppre_fcons, Orc.pr_fcons, Orc.ppre_gcons, Orc.pr_gcons, List.head?_cons, List.headD_cons, XE.val, XE.heap, efO, shutArgs, xfoot, footO, V.tops, V.top1, clashOne, noClash, Orc.flat_fcons, Orc.pre_fcons, Orc.v_fcons, Orc.hp_fcons, Orc.qpre_fcons, Orc.qv_fcons, Orc.fpre_fcons, Orc.fes_fcons, Orc.flat_gcons, Orc.pre_gcons, Orc.v_gcons, Orc.hp_gcons, Orc.qpre_gcons, Orc.qv_gcons, Orc.fpre_gcons, Orc.fes_gcons, GSum.pre, GSum.v, GSum.hp, Orc.fpre_cons, Orc.fes_cons, Orc.fpre_econs, Orc.fes_econs, FSum.pre, FSum.v, FSum.hp, fres, O.calls, List.flatMap_cons, List.flatMap_nil, List.contains_cons, List.contains_nil, Bool.not_true, Bool.not_false, Heap.freeze, List.mapIdx_cons, List.mapIdx_nil, List.elem_cons, List.elem_nil, fluP, fluV, evF, bne_iff_ne, ne_eq, Option.some.injEq, s1, s2, go_sem, reduceCtorEq, reduceIte, Nat.reduceEqDiff, Nat.reduceAdd, Nat.reduceSub, Nat.reduceMul, Nat.reduceLT, Nat.reduceLeDiff, Nat.reduceBEq, Int.reduceEq, Int.reduceLT, Int.reduceLE, Int.reduceAdd, Int.reduceSub, Int.reduceNeg, Int.reduceToNat]
    omega
  | true =>
    have hV := argsW_true hb
    have hK := okL_args h'
    obtain ⟨a, l, hal⟩ := argsA_ne hb
    rw [hal] at hV hK
    simp only [pas, List.map_cons] at hV
    obtain ⟨ka, kl⟩ := okL_tail hK
    have h0l : (0 : Int) < ((l.length + 1 : Nat) : Int) := by omega
    by_cases k3 : p.t.kind = 3
    · rw [if_pos ⟨k3, rfl⟩, hal]
      have k3t := eq_true k3
      dsimp only
      obtain ⟨w, hw0⟩ : ∃ w, lowP p = w := ⟨_, rfl⟩
      rw [hw0]
      cases hn : namedB a with
      | false =>
        simp only [Bool.false_eq_true, if_false]
        simp only [c59, C.hd, C.tl, Pa.enc, k3t, k6f, hV, h, h', hw0, ka, dPa_mk, dItm_mk, Pa.eta', Itm.eta', itR, Itm.enc, Itm.zero, pas, res11_agg, List.map_cons, List.map_nil, hn, h0l,  on_gcall, off_gcall, flat_gcall, wpC_seq_xreg, wpC_xreg, wpXR_nil, wpXR_own, wpXR_flu, xeOK, xe, argTops, openArgs, Orc.ppre_cons, Orc.pr_cons, Orc.ppre_econs, Orc.pr_econs, Orc.ppre_fcons, Orc.pr_fcons, Orc.ppre_gcons, Orc.pr_gcons, List.head?_cons, List.headD_cons, XE.val, XE.heap, efO, shutArgs, xfoot, footO, V.tops, V.top1, clashOne, noClash, Orc.flat_fcons, Orc.pre_fcons, Orc.v_fcons, Orc.hp_fcons, Orc.qpre_fcons, Orc.qv_fcons, Orc.fpre_fcons, Orc.fes_fcons, Orc.flat_gcons, Orc.pre_gcons, Orc.v_gcons, Orc.hp_gcons, Orc.qpre_gcons, Orc.qv_gcons, Orc.fpre_gcons, Orc.fes_gcons, GSum.pre, GSum.v, GSum.hp, Orc.fpre_cons, Orc.fes_cons, Orc.fpre_econs, Orc.fes_econs, FSum.pre, FSum.v, FSum.hp, fres, O.calls, List.flatMap_cons, List.flatMap_nil, List.contains_cons, List.contains_nil, Bool.not_true, Bool.not_false, Heap.freeze, List.mapIdx_cons, List.mapIdx_nil, List.elem_cons, List.elem_nil, fluP, fluV, evF, bne_iff_ne, ne_eq, Option.some.injEq, s1, s2, go_sem, reduceCtorEq, reduceIte, Nat.reduceEqDiff, Nat.reduceAdd, Nat.reduceSub, Nat.reduceMul, Nat.reduceLT, Nat.reduceLeDiff, Nat.reduceBEq, Int.reduceEq, Int.reduceLT, Int.reduceLE, Int.reduceAdd, Int.reduceSub, Int.reduceNeg, Int.reduceToNat]
      | true =>
        simp only [if_true]
        unfold wordCounter wordCounters wordString wordElement wordAttr
        by_cases c0 : w = ⟨#[97, 116, 116, 114]⟩
        · have d0 := eq_true c0
          rw [if_pos c0]
          cases l with
          | nil =>
            rw [if_pos rfl]
            simp only [c59, C.hd, C.tl, Pa.enc, k3t, k6f, hV, h, h', hw0, ka, dPa_mk, dItm_mk, Pa.eta', Itm.eta', itR, Itm.enc, Itm.zero, pas, res11_agg, List.map_cons, List.map_nil, d0, hn, h0l,  on_gcall, off_gcall, flat_gcall, wpC_seq_xreg, wpC_xreg, wpXR_nil, wpXR_own, wpXR_flu, xeOK, xe, argTops, openArgs, Orc.ppre_cons, Orc.pr_cons, Orc.ppre_econs, Orc.pr_econs, Orc.ppre_fcons, Orc.pr_fcons, Orc.ppre_gcons, Orc.pr_gcons, List.head?_cons, List.headD_cons, XE.val, XE.heap, efO, shutArgs, xfoot, footO, V.tops, V.top1, clashOne, noClash, Orc.flat_fcons, Orc.pre_fcons, Orc.v_fcons, Orc.hp_fcons, Orc.qpre_fcons, Orc.qv_fcons, Orc.fpre_fcons, Orc.fes_fcons, Orc.flat_gcons, Orc.pre_gcons, Orc.v_gcons, Orc.hp_gcons, Orc.qpre_gcons, Orc.qv_gcons, Orc.fpre_gcons, Orc.fes_gcons, GSum.pre, GSum.v, GSum.hp, Orc.fpre_cons, Orc.fes_cons, Orc.fpre_econs, Orc.fes_econs, FSum.pre, FSum.v, FSum.hp, fres, O.calls, List.flatMap_cons, List.flatMap_nil, List.contains_cons, List.contains_nil, Bool.not_true, Bool.not_false, Heap.freeze, List.mapIdx_cons, List.mapIdx_nil, List.elem_cons, List.elem_nil, fluP, fluV, evF, bne_iff_ne, ne_eq, Option.some.injEq, s1, s2, go_sem, reduceCtorEq, reduceIte, Nat.reduceEqDiff, Nat.reduceAdd, Nat.reduceSub, Nat.reduceMul, Nat.reduceLT, Nat.reduceLeDiff, Nat.reduceBEq, Int.reduceEq, Int.reduceLT, Int.reduceLE, Int.reduceAdd, Int.reduceSub, Int.reduceNeg, Int.reduceToNat]
          | cons q r =>
            rw [if_neg (by simp)]
            have hg0 : (0 : Int) < ((r.length + 1 + 1 : Nat) : Int) := by omega
            have hg1 : (1 : Int) < ((r.length + 1 + 1 : Nat) : Int) := by omega
            simp only [c59, C.hd, C.tl, Pa.enc, k3t, k6f, hV, h, h', hw0, ka, dPa_mk, dItm_mk, Pa.eta', Itm.eta', itR, Itm.enc, Itm.zero, pas, res11_agg, List.map_cons, List.map_nil, d0, hn, h0l, hg0, hg1,  on_gcall, off_gcall, flat_gcall, wpC_seq_xreg, wpC_xreg, wpXR_nil, wpXR_own, wpXR_flu, xeOK, xe, argTops, openArgs, Orc.ppre_cons, Orc.pr_cons, Orc.ppre_econs, Orc.pr_econs, Orc.ppre_fcons, Orc.pr_fcons, Orc.ppre_gcons, Orc.pr_gcons, List.head?_cons, List.headD_cons, XE.val, XE.heap, efO, shutArgs, xfoot, footO, V.tops, V.top1, clashOne, noClash, Orc.flat_fcons, Orc.pre_fcons, Orc.v_fcons, Orc.hp_fcons, Orc.qpre_fcons, Orc.qv_fcons, Orc.fpre_fcons, Orc.fes_fcons, Orc.flat_gcons, Orc.pre_gcons, Orc.v_gcons, Orc.hp_gcons, Orc.qpre_gcons, Orc.qv_gcons, Orc.fpre_gcons, Orc.fes_gcons, GSum.pre, GSum.v, GSum.hp, Orc.fpre_cons, Orc.fes_cons, Orc.fpre_econs, Orc.fes_econs, FSum.pre, FSum.v, FSum.hp, fres, O.calls, List.flatMap_cons, List.flatMap_nil, List.contains_cons, List.contains_nil, Bool.not_true, Bool.not_false, Heap.freeze, List.mapIdx_cons, List.mapIdx_nil, List.elem_cons, List.elem_nil, fluP, fluV, evF, bne_iff_ne, ne_eq, Option.some.injEq, s1, s2, go_sem, reduceCtorEq, reduceIte, Nat.reduceEqDiff, Nat.reduceAdd, Nat.reduceSub, Nat.reduceMul, Nat.reduceLT, Nat.reduceLeDiff, Nat.reduceBEq, Int.reduceEq, Int.reduceLT, Int.reduceLE, Int.reduceAdd, Int.reduceSub, Int.reduceNeg, Int.reduceToNat]
        by_cases c1 : w = ⟨#[99, 111, 117, 110, 116, 101, 114, 115]⟩
        · have d1 := eq_true c1
          rw [if_neg c0, if_pos c1]
          cases l with
          | nil =>
            simp only [c59, C.hd, C.tl, Pa.enc, k3t, k6f, hV, h, h', hw0, ka, dPa_mk, dItm_mk, Pa.eta', Itm.eta', itR, Itm.enc, Itm.zero, pas, res11_agg, List.map_cons, List.map_nil, c0, d1, hn, h0l,  on_gcall, off_gcall, flat_gcall, wpC_seq_xreg, wpC_xreg, wpXR_nil, wpXR_own, wpXR_flu, xeOK, xe, argTops, openArgs, Orc.ppre_cons, Orc.pr_cons, Orc.ppre_econs, Orc.pr_econs, Orc.ppre_fcons, Orc.pr_fcons, Orc.ppre_gcons, Orc.pr_gcons, List.head?_cons, List.headD_cons, XE.val, XE.heap, efO, shutArgs, xfoot, footO, V.tops, V.top1, clashOne, noClash, Orc.flat_fcons, Orc.pre_fcons, Orc.v_fcons, Orc.hp_fcons, Orc.qpre_fcons, Orc.qv_fcons, Orc.fpre_fcons, Orc.fes_fcons, Orc.flat_gcons, Orc.pre_gcons, Orc.v_gcons, Orc.hp_gcons, Orc.qpre_gcons, Orc.qv_gcons, Orc.fpre_gcons, Orc.fes_gcons, GSum.pre, GSum.v, GSum.hp, Orc.fpre_cons, Orc.fes_cons, Orc.fpre_econs, Orc.fes_econs, FSum.pre, FSum.v, FSum.hp, fres, O.calls, List.flatMap_cons, List.flatMap_nil, List.contains_cons, List.contains_nil, Bool.not_true, Bool.not_false, Heap.freeze, List.mapIdx_cons, List.mapIdx_nil, List.elem_cons, List.elem_nil, fluP, fluV, evF, bne_iff_ne, ne_eq, Option.some.injEq, s1, s2, go_sem, reduceCtorEq, reduceIte, Nat.reduceEqDiff, Nat.reduceAdd, Nat.reduceSub, Nat.reduceMul, Nat.reduceLT, Nat.reduceLeDiff, Nat.reduceBEq, Int.reduceEq, Int.reduceLT, Int.reduceLE, Int.reduceAdd, Int.reduceSub, Int.reduceNeg, Int.reduceToNat]
          | cons q r =>
            dsimp only
            obtain ⟨kq, kr⟩ := okL_tail kl
            have hl0 : (0 : Int) < ((r.length + 1 + 1 : Nat) : Int) := by omega
            have hl2 : ¬ (((r.length + 1 + 1 : Nat) : Int) < 2) := by omega
            have hl3 : (1 : Int) < ((r.length + 1 + 1 : Nat) : Int) := by omega
            by_cases k6q : q.t.kind = 6
            · have k6qt := eq_true k6q
              rw [if_pos k6q]
              have T := T2 a q r kr 3 q.t.text a.t.text (by simp)
              unfold hpI at T
              simp only [Pa.enc, Itm.enc, Itm.zero] at T
              rw [hQ]
              simp only [c59, C.hd, C.tl, Pa.enc, k3t, k6f, hV, h, h', hw0, ka, dPa_mk, dItm_mk, Pa.eta', Itm.eta', itR, Itm.enc, Itm.zero, pas, res11_agg, List.map_cons, List.map_nil, c0, d1, hn, h0l, k6qt, hl0, hl2, hl3,  on_gcall, off_gcall, flat_gcall, wpC_seq_xreg, wpC_xreg, wpXR_nil, wpXR_own, wpXR_flu, xeOK, xe, argTops, openArgs, Orc.ppre_cons, Orc.pr_cons, Orc.ppre_econs, Orc.pr_econs, Orc.ppre_fcons, Orc.pr_fcons, Orc.ppre_gcons, Orc.pr_gcons, List.head?_cons, List.headD_cons, XE.val, XE.heap, efO, shutArgs, xfoot, footO, V.tops, V.top1, clashOne, noClash, Orc.flat_fcons, Orc.pre_fcons, Orc.v_fcons, Orc.hp_fcons, Orc.qpre_fcons, Orc.qv_fcons, Orc.fpre_fcons, Orc.fes_fcons, Orc.flat_gcons, Orc.pre_gcons, Orc.v_gcons, Orc.hp_gcons, Orc.qpre_gcons, Orc.qv_gcons, Orc.fpre_gcons, Orc.fes_gcons, GSum.pre, GSum.v, GSum.hp, Orc.fpre_cons, Orc.fes_cons, Orc.fpre_econs, Orc.fes_econs, FSum.pre, FSum.v, FSum.hp, fres, O.calls, List.flatMap_cons, List.flatMap_nil, List.contains_cons, List.contains_nil, Bool.not_true, Bool.not_false, Heap.freeze, List.mapIdx_cons, List.mapIdx_nil, List.elem_cons, List.elem_nil, fluP, fluV, evF, bne_iff_ne, ne_eq, Option.some.injEq, s1, s2, go_sem, reduceCtorEq, reduceIte, Nat.reduceEqDiff, Nat.reduceAdd, Nat.reduceSub, Nat.reduceMul, Nat.reduceLT, Nat.reduceLeDiff, Nat.reduceBEq, Int.reduceEq, Int.reduceLT, Int.reduceLE, Int.reduceAdd, Int.reduceSub, Int.reduceNeg, Int.reduceToNat]
              exact T _ _ _ _ _ ⟨by simp [upd_at, ev_cons], by simp [upd_at, ev_cons], by simp [upd_at, ev_cons, Pa.enc], by simp [upd_at, ev_cons], by simp [upd_at, ev_cons]⟩
            · have k6qt := eq_false k6q
              rw [if_neg k6q]
              simp only [c59, C.hd, C.tl, Pa.enc, k3t, k6f, hV, h, h', hw0, ka, dPa_mk, dItm_mk, Pa.eta', Itm.eta', itR, Itm.enc, Itm.zero, pas, res11_agg, List.map_cons, List.map_nil, c0, d1, hn, h0l, k6qt, hl0, hl2, hl3,  on_gcall, off_gcall, flat_gcall, wpC_seq_xreg, wpC_xreg, wpXR_nil, wpXR_own, wpXR_flu, xeOK, xe, argTops, openArgs, Orc.ppre_cons, Orc.pr_cons, Orc.ppre_econs, Orc.pr_econs, Orc.ppre_fcons, Orc.pr_fcons, Orc.ppre_gcons, Orc.pr_gcons, List.head?_cons, List.headD_cons, XE.val, XE.heap, efO, shutArgs, xfoot, footO, V.tops, V.top1, clashOne, noClash, Orc.flat_fcons, Orc.pre_fcons, Orc.v_fcons, Orc.hp_fcons, Orc.qpre_fcons, Orc.qv_fcons, Orc.fpre_fcons, Orc.fes_fcons, Orc.flat_gcons, Orc.pre_gcons, Orc.v_gcons, Orc.hp_gcons, Orc.qpre_gcons, Orc.qv_gcons, Orc.fpre_gcons, Orc.fes_gcons, GSum.pre, GSum.v, GSum.hp, Orc.fpre_cons, Orc.fes_cons, Orc.fpre_econs, Orc.fes_econs, FSum.pre, FSum.v, FSum.hp, fres, O.calls, List.flatMap_cons, List.flatMap_nil, List.contains_cons, List.contains_nil, Bool.not_true, Bool.not_false, Heap.freeze, List.mapIdx_cons, List.mapIdx_nil, List.elem_cons, List.elem_nil, fluP, fluV, evF, bne_iff_ne, ne_eq, Option.some.injEq, s1, s2, go_sem, reduceCtorEq, reduceIte, Nat.reduceEqDiff, Nat.reduceAdd, Nat.reduceSub, Nat.reduceMul, Nat.reduceLT, Nat.reduceLeDiff, Nat.reduceBEq, Int.reduceEq, Int.reduceLT, Int.reduceLE, Int.reduceAdd, Int.reduceSub, Int.reduceNeg, Int.reduceToNat]
        by_cases c2 : w = ⟨#[99, 111, 117, 110, 116, 101, 114]⟩
        · have d2 := eq_true c2
          rw [if_neg c0, if_neg c1, if_pos c2]
          have T := T1 a l kl 2 ⟨#[]⟩ a.t.text (by simp)
          unfold hpI at T
          simp only [Pa.enc, Itm.enc, Itm.zero] at T
          rw [hQ]
          simp only [c59, C.hd, C.tl, Pa.enc, k3t, k6f, hV, h, h', hw0, ka, dPa_mk, dItm_mk, Pa.eta', Itm.eta', itR, Itm.enc, Itm.zero, pas, res11_agg, List.map_cons, List.map_nil, c0, c1, d2, hn, h0l,  on_gcall, off_gcall, flat_gcall, wpC_seq_xreg, wpC_xreg, wpXR_nil, wpXR_own, wpXR_flu, xeOK, xe, argTops, openArgs, Orc.ppre_cons, Orc.pr_cons, Orc.ppre_econs, Orc.pr_econs, Orc.ppre_fcons, Orc.pr_fcons, Orc.ppre_gcons, Orc.pr_gcons, List.head?_cons, List.headD_cons, XE.val, XE.heap, efO, shutArgs, xfoot, footO, V.tops, V.top1, clashOne, noClash, Orc.flat_fcons, Orc.pre_fcons, Orc.v_fcons, Orc.hp_fcons, Orc.qpre_fcons, Orc.qv_fcons, Orc.fpre_fcons, Orc.fes_fcons, Orc.flat_gcons, Orc.pre_gcons, Orc.v_gcons, Orc.hp_gcons, Orc.qpre_gcons, Orc.qv_gcons, Orc.fpre_gcons, Orc.fes_gcons, GSum.pre, GSum.v, GSum.hp, Orc.fpre_cons, Orc.fes_cons, Orc.fpre_econs, Orc.fes_econs, FSum.pre, FSum.v, FSum.hp, fres, O.calls, List.flatMap_cons, List.flatMap_nil, List.contains_cons, List.contains_nil, Bool.not_true, Bool.not_false, Heap.freeze, List.mapIdx_cons, List.mapIdx_nil, List.elem_cons, List.elem_nil, fluP, fluV, evF, bne_iff_ne, ne_eq, Option.some.injEq, s1, s2, go_sem, reduceCtorEq, reduceIte, Nat.reduceEqDiff, Nat.reduceAdd, Nat.reduceSub, Nat.reduceMul, Nat.reduceLT, Nat.reduceLeDiff, Nat.reduceBEq, Int.reduceEq, Int.reduceLT, Int.reduceLE, Int.reduceAdd, Int.reduceSub, Int.reduceNeg, Int.reduceToNat]
          exact T _ _ _ _ _ ⟨by simp [upd_at, ev_cons], by simp [upd_at, ev_cons], by simp [upd_at, ev_cons, Pa.enc], by simp [upd_at, ev_cons], by simp [upd_at, ev_cons]⟩
        by_cases c3 : w = ⟨#[115, 116, 114, 105, 110, 103]⟩
        · have d3 := eq_true c3
          rw [if_neg c0, if_neg c1, if_neg c2, if_pos c3]
          have T := T3 a l kl 4 ⟨#[]⟩ a.t.text (by simp)
          unfold hpI at T
          simp only [Pa.enc, Itm.enc, Itm.zero] at T
          rw [hQ]
          simp only [c59, C.hd, C.tl, Pa.enc, k3t, k6f, hV, h, h', hw0, ka, dPa_mk, dItm_mk, Pa.eta', Itm.eta', itR, Itm.enc, Itm.zero, pas, res11_agg, List.map_cons, List.map_nil, c0, c1, c2, d3, hn, h0l,  on_gcall, off_gcall, flat_gcall, wpC_seq_xreg, wpC_xreg, wpXR_nil, wpXR_own, wpXR_flu, xeOK, xe, argTops, openArgs, Orc.ppre_cons, Orc.pr_cons, Orc.ppre_econs, Orc.pr_econs, Orc.ppre_fcons, Orc.pr_fcons, Orc.ppre_gcons, Orc.pr_gcons, List.head?_cons, List.headD_cons, XE.val, XE.heap, efO, shutArgs, xfoot, footO, V.tops, V.top1, clashOne, noClash, Orc.flat_fcons, Orc.pre_fcons, Orc.v_fcons, Orc.hp_fcons, Orc.qpre_fcons, Orc.qv_fcons, Orc.fpre_fcons, Orc.fes_fcons, Orc.flat_gcons, Orc.pre_gcons, Orc.v_gcons, Orc.hp_gcons, Orc.qpre_gcons, Orc.qv_gcons, Orc.fpre_gcons, Orc.fes_gcons, GSum.pre, GSum.v, GSum.hp, Orc.fpre_cons, Orc.fes_cons, Orc.fpre_econs, Orc.fes_econs, FSum.pre, FSum.v, FSum.hp, fres, O.calls, List.flatMap_cons, List.flatMap_nil, List.contains_cons, List.contains_nil, Bool.not_true, Bool.not_false, Heap.freeze, List.mapIdx_cons, List.mapIdx_nil, List.elem_cons, List.elem_nil, fluP, fluV, evF, bne_iff_ne, ne_eq, Option.some.injEq, s1, s2, go_sem, reduceCtorEq, reduceIte, Nat.reduceEqDiff, Nat.reduceAdd, Nat.reduceSub, Nat.reduceMul, Nat.reduceLT, Nat.reduceLeDiff, Nat.reduceBEq, Int.reduceEq, Int.reduceLT, Int.reduceLE, Int.reduceAdd, Int.reduceSub, Int.reduceNeg, Int.reduceToNat]
          exact T _ _ _ _ _ ⟨by simp [upd_at, ev_cons], by simp [upd_at, ev_cons], by simp [upd_at, ev_cons, Pa.enc], by simp [upd_at, ev_cons], by simp [upd_at, ev_cons]⟩
        by_cases c4 : w = ⟨#[101, 108, 101, 109, 101, 110, 116]⟩
        · have d4 := eq_true c4
          rw [if_neg c0, if_neg c1, if_neg c2, if_neg c3, if_pos c4]
          have T := T3 a l kl 5 ⟨#[]⟩ a.t.text (by simp)
          unfold hpI at T
          simp only [Pa.enc, Itm.enc, Itm.zero] at T
          rw [hQ]
          simp only [c59, C.hd, C.tl, Pa.enc, k3t, k6f, hV, h, h', hw0, ka, dPa_mk, dItm_mk, Pa.eta', Itm.eta', itR, Itm.enc, Itm.zero, pas, res11_agg, List.map_cons, List.map_nil, c0, c1, c2, c3, d4, hn, h0l,  on_gcall, off_gcall, flat_gcall, wpC_seq_xreg, wpC_xreg, wpXR_nil, wpXR_own, wpXR_flu, xeOK, xe, argTops, openArgs, Orc.ppre_cons, Orc.pr_cons, Orc.ppre_econs, Orc.pr_econs, Orc.ppre_fcons, Orc.pr_fcons, Orc.ppre_gcons, Orc.pr_gcons, List.head?_cons, List.headD_cons, XE.val, XE.heap, efO, shutArgs, xfoot, footO, V.tops, V.top1, clashOne, noClash, Orc.flat_fcons, Orc.pre_fcons, Orc.v_fcons, Orc.hp_fcons, Orc.qpre_fcons, Orc.qv_fcons, Orc.fpre_fcons, Orc.fes_fcons, Orc.flat_gcons, Orc.pre_gcons, Orc.v_gcons, Orc.hp_gcons, Orc.qpre_gcons, Orc.qv_gcons, Orc.fpre_gcons, Orc.fes_gcons, GSum.pre, GSum.v, GSum.hp, Orc.fpre_cons, Orc.fes_cons, Orc.fpre_econs, Orc.fes_econs, FSum.pre, FSum.v, FSum.hp, fres, O.calls, List.flatMap_cons, List.flatMap_nil, List.contains_cons, List.contains_nil, Bool.not_true, Bool.not_false, Heap.freeze, List.mapIdx_cons, List.mapIdx_nil, List.elem_cons, List.elem_nil, fluP, fluV, evF, bne_iff_ne, ne_eq, Option.some.injEq, s1, s2, go_sem, reduceCtorEq, reduceIte, Nat.reduceEqDiff, Nat.reduceAdd, Nat.reduceSub, Nat.reduceMul, Nat.reduceLT, Nat.reduceLeDiff, Nat.reduceBEq, Int.reduceEq, Int.reduceLT, Int.reduceLE, Int.reduceAdd, Int.reduceSub, Int.reduceNeg, Int.reduceToNat]
          exact T _ _ _ _ _ ⟨by simp [upd_at, ev_cons], by simp [upd_at, ev_cons], by simp [upd_at, ev_cons, Pa.enc], by simp [upd_at, ev_cons], by simp [upd_at, ev_cons]⟩
        rw [if_neg c0, if_neg c1, if_neg c2, if_neg c3, if_neg c4]
        simp only [c59, C.hd, C.tl, Pa.enc, k3t, k6f, hV, h, h', hw0, ka, dPa_mk, dItm_mk, Pa.eta', Itm.eta', itR, Itm.enc, Itm.zero, pas, res11_agg, List.map_cons, List.map_nil, c0, c1, c2, c3, c4, hn, h0l,  on_gcall, off_gcall, flat_gcall, wpC_seq_xreg, wpC_xreg, wpXR_nil, wpXR_own, wpXR_flu, xeOK, xe, argTops, openArgs, Orc.ppre_cons, Orc.pr_cons, Orc.ppre_econs, Orc.pr_econs, Orc.ppre_fcons, Orc.pr_fcons, Orc.ppre_gcons, Orc.pr_gcons, List.head?_cons, List.headD_cons, XE.val, XE.heap, efO, shutArgs, xfoot, footO, V.tops, V.top1, clashOne, noClash, Orc.flat_fcons, Orc.pre_fcons, Orc.v_fcons, Orc.hp_fcons, Orc.qpre_fcons, Orc.qv_fcons, Orc.fpre_fcons, Orc.fes_fcons, Orc.flat_gcons, Orc.pre_gcons, Orc.v_gcons, Orc.hp_gcons, Orc.qpre_gcons, Orc.qv_gcons, Orc.fpre_gcons, Orc.fes_gcons, GSum.pre, GSum.v, GSum.hp, Orc.fpre_cons, Orc.fes_cons, Orc.fpre_econs, Orc.fes_econs, FSum.pre, FSum.v, FSum.hp, fres, O.calls, List.flatMap_cons, List.flatMap_nil, List.contains_cons, List.contains_nil, Bool.not_true, Bool.not_false, Heap.freeze, List.mapIdx_cons, List.mapIdx_nil, List.elem_cons, List.elem_nil, fluP, fluV, evF, bne_iff_ne, ne_eq, Option.some.injEq, s1, s2, go_sem, reduceCtorEq, reduceIte, Nat.reduceEqDiff, Nat.reduceAdd, Nat.reduceSub, Nat.reduceMul, Nat.reduceLT, Nat.reduceLeDiff, Nat.reduceBEq, Int.reduceEq, Int.reduceLT, Int.reduceLE, Int.reduceAdd, Int.reduceSub, Int.reduceNeg, Int.reduceToNat]
    · rw [if_neg (fun hh => k3 hh.1)]
      have k3t := eq_false k3
      simp only [c59, C.hd, C.tl, Pa.enc, k6f, k3t, hV, h, h', dPa_mk, Pa.eta', itR, Itm.enc, Itm.zero, res11_agg, on_gcall, off_gcall, flat_gcall, wpC_seq_xreg, wpC_xreg, wpXR_nil, wpXR_own, wpXR_flu, xeOK, xe, argTops, openArgs, Orc.ppre_cons, Orc.pr_cons, Orc.ppre_econs, Orc.pr_econs, Orc.ppre_fcons, Orc.pr_fcons, Orc.ppre_gcons, Orc.pr_gcons, List.head?_cons, List.headD_cons, XE.val, XE.heap, efO, shutArgs, xfoot, footO, V.tops, V.top1, clashOne, noClash, Orc.flat_fcons, Orc.pre_fcons, Orc.v_fcons, Orc.hp_fcons, Orc.qpre_fcons, Orc.qv_fcons, Orc.fpre_fcons, Orc.fes_fcons, Orc.flat_gcons, Orc.pre_gcons, Orc.v_gcons, Orc.hp_gcons, Orc.qpre_gcons, Orc.qv_gcons, Orc.fpre_gcons, Orc.fes_gcons, GSum.pre, GSum.v, GSum.hp, Orc.fpre_cons, Orc.fes_cons, Orc.fpre_econs, Orc.fes_econs, FSum.pre, FSum.v, FSum.hp, fres, O.calls, List.flatMap_cons, List.flatMap_nil, List.contains_cons, List.contains_nil, Bool.not_true, Bool.not_false, Heap.freeze, List.mapIdx_cons, List.mapIdx_nil, List.elem_cons, List.elem_nil, fluP, fluV, evF, bne_iff_ne, ne_eq, Option.some.injEq, s1, s2, go_sem, reduceCtorEq, reduceIte, Nat.reduceEqDiff, Nat.reduceAdd, Nat.reduceSub, Nat.reduceMul, Nat.reduceLT, Nat.reduceLeDiff, Nat.reduceBEq, Int.reduceEq, Int.reduceLT, Int.reduceLE, Int.reduceAdd, Int.reduceSub, Int.reduceNeg, Int.reduceToNat]
end Go.Proofs.Ytjofgafeaiiegaa
