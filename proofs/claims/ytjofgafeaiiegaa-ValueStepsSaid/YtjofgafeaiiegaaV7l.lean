/- Layer 7: an item. -/
import Derived.Test.YtjofgafeaiiegaaV7k
import Derived.Test.YtjofgafeaiiegaaGc
namespace Go.Proofs.Ytjofgafeaiiegaa
open Go.Sx
set_option linter.unusedSimpArgs false
set_option maxHeartbeats 4000000
set_option maxRecDepth 20000

def itemV (p : Pa) : Itm × Bool :=
  if p.t.kind = 6 then (⟨1, p.t.text, ⟨#[]⟩, 0, 0⟩, true)
  else if p.t.kind = 3 ∧ argsB p = true then
    match argsA p with
    | [] => (.zero, false)
    | a :: l =>
      if namedB a = true then
        if lowP p = wordCounter then stV ⟨2, ⟨#[]⟩, a.t.text, 0, 0⟩ l
        else if lowP p = wordCounters then
          (match l with
          | [] => (.zero, false)
          | q :: r => if q.t.kind = 6 then stV ⟨3, q.t.text, a.t.text, 0, 0⟩ r else (.zero, false))
        else if lowP p = wordString then chV ⟨4, ⟨#[]⟩, a.t.text, 0, 0⟩ l
        else if lowP p = wordElement then chV ⟨5, ⟨#[]⟩, a.t.text, 0, 0⟩ l
        else if lowP p = wordAttr then (⟨6, ⟨#[]⟩, a.t.text, 0, 0⟩, decide (l = []))
        else (.zero, false)
      else (.zero, false)
  else (.zero, false)
theorem argsA_ne {p : Pa} (h : argsB p = true) : ∃ a l, argsA p = a :: l := by
  unfold argsB at h
  unfold argsA
  simp only [Bool.and_eq_true, decide_eq_true_eq] at h
  match hL : pl p.al with
  | [] => rw [hL] at h; simp at h
  | a :: l => exact ⟨a, evn 1 l, rfl⟩
theorem argsV_true {p : Pa} (h : argsB p = true) : argsV p = .tup [pas (argsA p), vb true] := by
  have : altB 0 (pl p.al) = true := by unfold argsB at h; simp only [Bool.and_eq_true] at h; exact h.2
  unfold argsV argsA
  rw [if_pos this, h]
theorem okL_args {p : Pa} (h : okT p.al) : okL (argsA p) := by
  refine ⟨?_, fun q hq => (pl_mem h q (evn_mem _ _ q hq)).1⟩
  have h1 := evn_len (pl p.al) 0
  have h2 := pl_len p.al
  have h3 := h.1
  unfold argsA; omega
theorem okL_tail {a : Pa} {l : List Pa} (h : okL (a :: l)) : okP7 a ∧ okL l := ⟨h.2 a (by simp), by have := h.1; simp at this; exact ⟨by omega, fun q hq => h.2 q (by simp [hq])⟩⟩
theorem item_ok (p : Pa) (h : okP7 p) (h' : okT p.al) : PCall Try.prog 56 [.agg p.enc] (itR (itemV p)) := by
  refine PCall.of (Orc.cons sumArgs (Orc.cons sumNm (Orc.cons sumLwP (Orc.cons sumStd (Orc.cons sumCho (Orc.nil _)))))) c56_ok (by simp [c56]) fun w0 own0 => ?_
  have h1 := h'.1
  unfold itemV
  by_cases k6 : p.t.kind = 6
  · simp only [c56, Pa.enc, k6, itR, Itm.enc, res11_agg, wpC_seq_xreg, wpC_xreg, wpXR_nil, wpXR_own, wpXR_flu, xeOK, xe, argTops, openArgs, Orc.ppre_cons, Orc.pr_cons, Orc.ppre_econs, Orc.pr_econs, Orc.ppre_fcons, Orc.pr_fcons, Orc.ppre_gcons, Orc.pr_gcons, List.head?_cons, List.headD_cons, XE.val, XE.heap, efO, shutArgs, xfoot, footO, V.tops, V.top1, clashOne, noClash, Orc.flat_fcons, Orc.pre_fcons, Orc.v_fcons, Orc.hp_fcons, Orc.qpre_fcons, Orc.qv_fcons, Orc.fpre_fcons, Orc.fes_fcons, Orc.flat_gcons, Orc.pre_gcons, Orc.v_gcons, Orc.hp_gcons, Orc.qpre_gcons, Orc.qv_gcons, Orc.fpre_gcons, Orc.fes_gcons, GSum.pre, GSum.v, GSum.hp, Orc.fpre_cons, Orc.fes_cons, Orc.fpre_econs, Orc.fes_econs, FSum.pre, FSum.v, FSum.hp, fres, O.calls, List.flatMap_cons, List.flatMap_nil, List.contains_cons, List.contains_nil, Bool.not_true, Bool.not_false, Heap.freeze, List.mapIdx_cons, List.mapIdx_nil, List.elem_cons, List.elem_nil, fluP, fluV, evF, bne_iff_ne, ne_eq, Option.some.injEq, go_sem, wpR_gcall, reduceCtorEq, reduceIte, Nat.reduceEqDiff, Nat.reduceAdd, Nat.reduceSub, Nat.reduceMul, Nat.reduceLT, Nat.reduceLeDiff, Nat.reduceBEq, Int.reduceEq, Int.reduceLT, Int.reduceLE, Int.reduceAdd, Int.reduceSub, Int.reduceNeg, Int.reduceToNat]
  rw [if_neg k6]
  cases hb : argsB p with
  | false =>
    rw [if_neg (by simp)]
    obtain ⟨L, hL⟩ : ∃ L, argsV p = .tup [.slc 4 L, vb false] := ⟨_, by unfold argsV; rw [hb]; rfl⟩
    simp only [c56, Pa.enc, k6, hL, h, h', dPa_mk, Pa.eta', itR, Itm.enc, Itm.zero, res11_agg, on_gcall, off_gcall, flat_gcall, wpC_seq_xreg, wpC_xreg, wpXR_nil, wpXR_own, wpXR_flu, xeOK, xe, argTops, openArgs, Orc.ppre_cons, Orc.pr_cons, Orc.ppre_econs, Orc.pr_econs, Orc.ppre_fcons, Orc.pr_fcons, Orc.ppre_gcons, Orc.pr_gcons, List.head?_cons, List.headD_cons, XE.val, XE.heap, efO, shutArgs, xfoot, footO, V.tops, V.top1, clashOne, noClash, Orc.flat_fcons, Orc.pre_fcons, Orc.v_fcons, Orc.hp_fcons, Orc.qpre_fcons, Orc.qv_fcons, Orc.fpre_fcons, Orc.fes_fcons, Orc.flat_gcons, Orc.pre_gcons, Orc.v_gcons, Orc.hp_gcons, Orc.qpre_gcons, Orc.qv_gcons, Orc.fpre_gcons, Orc.fes_gcons, GSum.pre, GSum.v, GSum.hp, Orc.fpre_cons, Orc.fes_cons, Orc.fpre_econs, Orc.fes_econs, FSum.pre, FSum.v, FSum.hp, fres, O.calls, List.flatMap_cons, List.flatMap_nil, List.contains_cons, List.contains_nil, Bool.not_true, Bool.not_false, Heap.freeze, List.mapIdx_cons, List.mapIdx_nil, List.elem_cons, List.elem_nil, fluP, fluV, evF, bne_iff_ne, ne_eq, Option.some.injEq, go_sem, reduceCtorEq, reduceIte, Nat.reduceEqDiff, Nat.reduceAdd, Nat.reduceSub, Nat.reduceMul, Nat.reduceLT, Nat.reduceLeDiff, Nat.reduceBEq, Int.reduceEq, Int.reduceLT, Int.reduceLE, Int.reduceAdd, Int.reduceSub, Int.reduceNeg, Int.reduceToNat]
    omega
  | true =>
    by_cases k3 : p.t.kind = 3
    · rw [if_pos ⟨k3, rfl⟩]
      have hV := argsV_true hb
      have hK := okL_args h'
      obtain ⟨a, l, hal⟩ := argsA_ne hb
      rw [hal] at hV hK
      obtain ⟨ka, kl⟩ := okL_tail hK
      rw [hal]
      dsimp only
      have h3 : okP7 ⟨⟨3, p.t.text, p.t.n⟩, p.al⟩ := h
      have e3 : (⟨⟨3, p.t.text, p.t.n⟩, p.al⟩ : Pa) = p := by rw [← k3]
      have hV' : argsV ⟨⟨3, p.t.text, p.t.n⟩, p.al⟩ = .tup [.slc 4 (a.enc :: l.map Pa.enc), vb true] := by rw [e3]; exact hV
      have h'3 : okT p.al := h'
      have h6 : ¬ ((3 : Int) = 6) := by omega
      have hla : decide (((l.length + 1 : Nat) : Int) = 1) = decide (l = []) := by
        cases l with
        | nil => rfl
        | cons q r => simp; omega
      have h1l : (1 : Int) ≤ ((l.length + 1 : Nat) : Int) := by omega
      have htk : l.take (l.length + 1 - 1) = l := List.take_of_length_le (by omega)
      have h0l : (0 : Int) < ((l.length + 1 : Nat) : Int) := by omega
      obtain ⟨w, hw0⟩ : ∃ w, lowP p = w := ⟨_, rfl⟩
      have hw : lowP ⟨⟨3, p.t.text, p.t.n⟩, p.al⟩ = w := by rw [e3]; exact hw0
      rw [hw0]
      cases hn : namedB a with
      | false =>
        simp only [Bool.false_eq_true, if_false]
        simp only [c56, Pa.enc, k3, h6, hV', h3, h'3, hw, h0l, h1l, htk, Int.le_refl, ka, dPa_mk, dItm_mk, dPas_map, Pa.eta', Itm.eta', itR, Itm.enc, Itm.zero, pas, res11_agg, List.map_cons, hn, on_gcall, off_gcall, flat_gcall, wpC_seq_xreg, wpC_xreg, wpXR_nil, wpXR_own, wpXR_flu, xeOK, xe, argTops, openArgs, Orc.ppre_cons, Orc.pr_cons, Orc.ppre_econs, Orc.pr_econs, Orc.ppre_fcons, Orc.pr_fcons, Orc.ppre_gcons, Orc.pr_gcons, List.head?_cons, List.headD_cons, XE.val, XE.heap, efO, shutArgs, xfoot, footO, V.tops, V.top1, clashOne, noClash, Orc.flat_fcons, Orc.pre_fcons, Orc.v_fcons, Orc.hp_fcons, Orc.qpre_fcons, Orc.qv_fcons, Orc.fpre_fcons, Orc.fes_fcons, Orc.flat_gcons, Orc.pre_gcons, Orc.v_gcons, Orc.hp_gcons, Orc.qpre_gcons, Orc.qv_gcons, Orc.fpre_gcons, Orc.fes_gcons, GSum.pre, GSum.v, GSum.hp, Orc.fpre_cons, Orc.fes_cons, Orc.fpre_econs, Orc.fes_econs, FSum.pre, FSum.v, FSum.hp, fres, O.calls, List.flatMap_cons, List.flatMap_nil, List.contains_cons, List.contains_nil, Bool.not_true, Bool.not_false, Heap.freeze, List.mapIdx_cons, List.mapIdx_nil, List.elem_cons, List.elem_nil, fluP, fluV, evF, bne_iff_ne, ne_eq, Option.some.injEq, go_sem, reduceCtorEq, reduceIte, Nat.reduceEqDiff, Nat.reduceAdd, Nat.reduceSub, Nat.reduceMul, Nat.reduceLT, Nat.reduceLeDiff, Nat.reduceBEq, Int.reduceEq, Int.reduceLT, Int.reduceLE, Int.reduceAdd, Int.reduceSub, Int.reduceNeg, Int.reduceToNat]
      | true =>
        simp only [if_true]
        unfold wordCounter wordCounters wordString wordElement wordAttr
        by_cases c0 : w = ⟨#[99, 111, 117, 110, 116, 101, 114]⟩
        · have d0 := eq_true c0
          rw [if_pos c0]
          simp only [c56, Pa.enc, k3, h6, hV', h3, h'3, hw, h0l, h1l, htk, Int.le_refl, ka, dPa_mk, dItm_mk, dPas_map, Pa.eta', Itm.eta', itR, Itm.enc, Itm.zero, pas, res11_agg, List.map_cons, d0, hn, kl,  on_gcall, off_gcall, flat_gcall, wpC_seq_xreg, wpC_xreg, wpXR_nil, wpXR_own, wpXR_flu, xeOK, xe, argTops, openArgs, Orc.ppre_cons, Orc.pr_cons, Orc.ppre_econs, Orc.pr_econs, Orc.ppre_fcons, Orc.pr_fcons, Orc.ppre_gcons, Orc.pr_gcons, List.head?_cons, List.headD_cons, XE.val, XE.heap, efO, shutArgs, xfoot, footO, V.tops, V.top1, clashOne, noClash, Orc.flat_fcons, Orc.pre_fcons, Orc.v_fcons, Orc.hp_fcons, Orc.qpre_fcons, Orc.qv_fcons, Orc.fpre_fcons, Orc.fes_fcons, Orc.flat_gcons, Orc.pre_gcons, Orc.v_gcons, Orc.hp_gcons, Orc.qpre_gcons, Orc.qv_gcons, Orc.fpre_gcons, Orc.fes_gcons, GSum.pre, GSum.v, GSum.hp, Orc.fpre_cons, Orc.fes_cons, Orc.fpre_econs, Orc.fes_econs, FSum.pre, FSum.v, FSum.hp, fres, O.calls, List.flatMap_cons, List.flatMap_nil, List.contains_cons, List.contains_nil, Bool.not_true, Bool.not_false, Heap.freeze, List.mapIdx_cons, List.mapIdx_nil, List.elem_cons, List.elem_nil, fluP, fluV, evF, bne_iff_ne, ne_eq, Option.some.injEq, go_sem, reduceCtorEq, reduceIte, Nat.reduceEqDiff, Nat.reduceAdd, Nat.reduceSub, Nat.reduceMul, Nat.reduceLT, Nat.reduceLeDiff, Nat.reduceBEq, Int.reduceEq, Int.reduceLT, Int.reduceLE, Int.reduceAdd, Int.reduceSub, Int.reduceNeg, Int.reduceToNat]
        by_cases c1 : w = ⟨#[99, 111, 117, 110, 116, 101, 114, 115]⟩
        · have d1 := eq_true c1
          rw [if_neg c0, if_pos c1]
          cases l with
          | nil =>
            simp only [c56, Pa.enc, k3, h6, hV', h3, h'3, hw, h0l, h1l, htk, Int.le_refl, ka, dPa_mk, dItm_mk, dPas_map, Pa.eta', Itm.eta', itR, Itm.enc, Itm.zero, pas, res11_agg, List.map_cons, c0, d1, hn,  on_gcall, off_gcall, flat_gcall, wpC_seq_xreg, wpC_xreg, wpXR_nil, wpXR_own, wpXR_flu, xeOK, xe, argTops, openArgs, Orc.ppre_cons, Orc.pr_cons, Orc.ppre_econs, Orc.pr_econs, Orc.ppre_fcons, Orc.pr_fcons, Orc.ppre_gcons, Orc.pr_gcons, List.head?_cons, List.headD_cons, XE.val, XE.heap, efO, shutArgs, xfoot, footO, V.tops, V.top1, clashOne, noClash, Orc.flat_fcons, Orc.pre_fcons, Orc.v_fcons, Orc.hp_fcons, Orc.qpre_fcons, Orc.qv_fcons, Orc.fpre_fcons, Orc.fes_fcons, Orc.flat_gcons, Orc.pre_gcons, Orc.v_gcons, Orc.hp_gcons, Orc.qpre_gcons, Orc.qv_gcons, Orc.fpre_gcons, Orc.fes_gcons, GSum.pre, GSum.v, GSum.hp, Orc.fpre_cons, Orc.fes_cons, Orc.fpre_econs, Orc.fes_econs, FSum.pre, FSum.v, FSum.hp, fres, O.calls, List.flatMap_cons, List.flatMap_nil, List.contains_cons, List.contains_nil, Bool.not_true, Bool.not_false, Heap.freeze, List.mapIdx_cons, List.mapIdx_nil, List.elem_cons, List.elem_nil, fluP, fluV, evF, bne_iff_ne, ne_eq, Option.some.injEq, go_sem, reduceCtorEq, reduceIte, Nat.reduceEqDiff, Nat.reduceAdd, Nat.reduceSub, Nat.reduceMul, Nat.reduceLT, Nat.reduceLeDiff, Nat.reduceBEq, Int.reduceEq, Int.reduceLT, Int.reduceLE, Int.reduceAdd, Int.reduceSub, Int.reduceNeg, Int.reduceToNat]
          | cons q r =>
            dsimp only
            obtain ⟨kq, kr⟩ := okL_tail kl
            have htk2 : r.take (r.length + 1 + 1 - 2) = r := List.take_of_length_le (by omega)
            have hl0 : (0 : Int) < ((r.length + 1 + 1 : Nat) : Int) := by omega
            have hl2 : ¬ (((r.length + 1 + 1 : Nat) : Int) < 2) := by omega
            have hl3 : (1 : Int) < ((r.length + 1 + 1 : Nat) : Int) := by omega
            have hl4 : (2 : Int) ≤ ((r.length + 1 + 1 : Nat) : Int) := by omega
            by_cases k6q : q.t.kind = 6
            · rw [if_pos k6q]
              simp only [c56, Pa.enc, k3, h6, hV', h3, h'3, hw, h0l, h1l, htk, Int.le_refl, ka, dPa_mk, dItm_mk, dPas_map, Pa.eta', Itm.eta', itR, Itm.enc, Itm.zero, pas, res11_agg, List.map_cons, c0, d1, hn, k6q, kr, kq, hl0, hl2, hl3, hl4, htk2,  on_gcall, off_gcall, flat_gcall, wpC_seq_xreg, wpC_xreg, wpXR_nil, wpXR_own, wpXR_flu, xeOK, xe, argTops, openArgs, Orc.ppre_cons, Orc.pr_cons, Orc.ppre_econs, Orc.pr_econs, Orc.ppre_fcons, Orc.pr_fcons, Orc.ppre_gcons, Orc.pr_gcons, List.head?_cons, List.headD_cons, XE.val, XE.heap, efO, shutArgs, xfoot, footO, V.tops, V.top1, clashOne, noClash, Orc.flat_fcons, Orc.pre_fcons, Orc.v_fcons, Orc.hp_fcons, Orc.qpre_fcons, Orc.qv_fcons, Orc.fpre_fcons, Orc.fes_fcons, Orc.flat_gcons, Orc.pre_gcons, Orc.v_gcons, Orc.hp_gcons, Orc.qpre_gcons, Orc.qv_gcons, Orc.fpre_gcons, Orc.fes_gcons, GSum.pre, GSum.v, GSum.hp, Orc.fpre_cons, Orc.fes_cons, Orc.fpre_econs, Orc.fes_econs, FSum.pre, FSum.v, FSum.hp, fres, O.calls, List.flatMap_cons, List.flatMap_nil, List.contains_cons, List.contains_nil, Bool.not_true, Bool.not_false, Heap.freeze, List.mapIdx_cons, List.mapIdx_nil, List.elem_cons, List.elem_nil, fluP, fluV, evF, bne_iff_ne, ne_eq, Option.some.injEq, go_sem, reduceCtorEq, reduceIte, Nat.reduceEqDiff, Nat.reduceAdd, Nat.reduceSub, Nat.reduceMul, Nat.reduceLT, Nat.reduceLeDiff, Nat.reduceBEq, Int.reduceEq, Int.reduceLT, Int.reduceLE, Int.reduceAdd, Int.reduceSub, Int.reduceNeg, Int.reduceToNat]
            · rw [if_neg k6q]
              simp only [c56, Pa.enc, k3, h6, hV', h3, h'3, hw, h0l, h1l, htk, Int.le_refl, ka, dPa_mk, dItm_mk, dPas_map, Pa.eta', Itm.eta', itR, Itm.enc, Itm.zero, pas, res11_agg, List.map_cons, c0, d1, hn, k6q, kr, kq, hl0, hl2, hl3, hl4, htk2,  on_gcall, off_gcall, flat_gcall, wpC_seq_xreg, wpC_xreg, wpXR_nil, wpXR_own, wpXR_flu, xeOK, xe, argTops, openArgs, Orc.ppre_cons, Orc.pr_cons, Orc.ppre_econs, Orc.pr_econs, Orc.ppre_fcons, Orc.pr_fcons, Orc.ppre_gcons, Orc.pr_gcons, List.head?_cons, List.headD_cons, XE.val, XE.heap, efO, shutArgs, xfoot, footO, V.tops, V.top1, clashOne, noClash, Orc.flat_fcons, Orc.pre_fcons, Orc.v_fcons, Orc.hp_fcons, Orc.qpre_fcons, Orc.qv_fcons, Orc.fpre_fcons, Orc.fes_fcons, Orc.flat_gcons, Orc.pre_gcons, Orc.v_gcons, Orc.hp_gcons, Orc.qpre_gcons, Orc.qv_gcons, Orc.fpre_gcons, Orc.fes_gcons, GSum.pre, GSum.v, GSum.hp, Orc.fpre_cons, Orc.fes_cons, Orc.fpre_econs, Orc.fes_econs, FSum.pre, FSum.v, FSum.hp, fres, O.calls, List.flatMap_cons, List.flatMap_nil, List.contains_cons, List.contains_nil, Bool.not_true, Bool.not_false, Heap.freeze, List.mapIdx_cons, List.mapIdx_nil, List.elem_cons, List.elem_nil, fluP, fluV, evF, bne_iff_ne, ne_eq, Option.some.injEq, go_sem, reduceCtorEq, reduceIte, Nat.reduceEqDiff, Nat.reduceAdd, Nat.reduceSub, Nat.reduceMul, Nat.reduceLT, Nat.reduceLeDiff, Nat.reduceBEq, Int.reduceEq, Int.reduceLT, Int.reduceLE, Int.reduceAdd, Int.reduceSub, Int.reduceNeg, Int.reduceToNat]
        by_cases c2 : w = ⟨#[115, 116, 114, 105, 110, 103]⟩
        · have d2 := eq_true c2
          rw [if_neg c0, if_neg c1, if_pos c2]
          simp only [c56, Pa.enc, k3, h6, hV', h3, h'3, hw, h0l, h1l, htk, Int.le_refl, ka, dPa_mk, dItm_mk, dPas_map, Pa.eta', Itm.eta', itR, Itm.enc, Itm.zero, pas, res11_agg, List.map_cons, c0, c1, d2, hn, kl,  on_gcall, off_gcall, flat_gcall, wpC_seq_xreg, wpC_xreg, wpXR_nil, wpXR_own, wpXR_flu, xeOK, xe, argTops, openArgs, Orc.ppre_cons, Orc.pr_cons, Orc.ppre_econs, Orc.pr_econs, Orc.ppre_fcons, Orc.pr_fcons, Orc.ppre_gcons, Orc.pr_gcons, List.head?_cons, List.headD_cons, XE.val, XE.heap, efO, shutArgs, xfoot, footO, V.tops, V.top1, clashOne, noClash, Orc.flat_fcons, Orc.pre_fcons, Orc.v_fcons, Orc.hp_fcons, Orc.qpre_fcons, Orc.qv_fcons, Orc.fpre_fcons, Orc.fes_fcons, Orc.flat_gcons, Orc.pre_gcons, Orc.v_gcons, Orc.hp_gcons, Orc.qpre_gcons, Orc.qv_gcons, Orc.fpre_gcons, Orc.fes_gcons, GSum.pre, GSum.v, GSum.hp, Orc.fpre_cons, Orc.fes_cons, Orc.fpre_econs, Orc.fes_econs, FSum.pre, FSum.v, FSum.hp, fres, O.calls, List.flatMap_cons, List.flatMap_nil, List.contains_cons, List.contains_nil, Bool.not_true, Bool.not_false, Heap.freeze, List.mapIdx_cons, List.mapIdx_nil, List.elem_cons, List.elem_nil, fluP, fluV, evF, bne_iff_ne, ne_eq, Option.some.injEq, go_sem, reduceCtorEq, reduceIte, Nat.reduceEqDiff, Nat.reduceAdd, Nat.reduceSub, Nat.reduceMul, Nat.reduceLT, Nat.reduceLeDiff, Nat.reduceBEq, Int.reduceEq, Int.reduceLT, Int.reduceLE, Int.reduceAdd, Int.reduceSub, Int.reduceNeg, Int.reduceToNat]
        by_cases c3 : w = ⟨#[101, 108, 101, 109, 101, 110, 116]⟩
        · have d3 := eq_true c3
          rw [if_neg c0, if_neg c1, if_neg c2, if_pos c3]
          simp only [c56, Pa.enc, k3, h6, hV', h3, h'3, hw, h0l, h1l, htk, Int.le_refl, ka, dPa_mk, dItm_mk, dPas_map, Pa.eta', Itm.eta', itR, Itm.enc, Itm.zero, pas, res11_agg, List.map_cons, c0, c1, c2, d3, hn, kl,  on_gcall, off_gcall, flat_gcall, wpC_seq_xreg, wpC_xreg, wpXR_nil, wpXR_own, wpXR_flu, xeOK, xe, argTops, openArgs, Orc.ppre_cons, Orc.pr_cons, Orc.ppre_econs, Orc.pr_econs, Orc.ppre_fcons, Orc.pr_fcons, Orc.ppre_gcons, Orc.pr_gcons, List.head?_cons, List.headD_cons, XE.val, XE.heap, efO, shutArgs, xfoot, footO, V.tops, V.top1, clashOne, noClash, Orc.flat_fcons, Orc.pre_fcons, Orc.v_fcons, Orc.hp_fcons, Orc.qpre_fcons, Orc.qv_fcons, Orc.fpre_fcons, Orc.fes_fcons, Orc.flat_gcons, Orc.pre_gcons, Orc.v_gcons, Orc.hp_gcons, Orc.qpre_gcons, Orc.qv_gcons, Orc.fpre_gcons, Orc.fes_gcons, GSum.pre, GSum.v, GSum.hp, Orc.fpre_cons, Orc.fes_cons, Orc.fpre_econs, Orc.fes_econs, FSum.pre, FSum.v, FSum.hp, fres, O.calls, List.flatMap_cons, List.flatMap_nil, List.contains_cons, List.contains_nil, Bool.not_true, Bool.not_false, Heap.freeze, List.mapIdx_cons, List.mapIdx_nil, List.elem_cons, List.elem_nil, fluP, fluV, evF, bne_iff_ne, ne_eq, Option.some.injEq, go_sem, reduceCtorEq, reduceIte, Nat.reduceEqDiff, Nat.reduceAdd, Nat.reduceSub, Nat.reduceMul, Nat.reduceLT, Nat.reduceLeDiff, Nat.reduceBEq, Int.reduceEq, Int.reduceLT, Int.reduceLE, Int.reduceAdd, Int.reduceSub, Int.reduceNeg, Int.reduceToNat]
        by_cases c4 : w = ⟨#[97, 116, 116, 114]⟩
        · have d4 := eq_true c4
          rw [if_neg c0, if_neg c1, if_neg c2, if_neg c3, if_pos c4]
          simp only [c56, Pa.enc, k3, h6, hV', h3, h'3, hw, h0l, h1l, htk, Int.le_refl, ka, dPa_mk, dItm_mk, dPas_map, Pa.eta', Itm.eta', itR, Itm.enc, Itm.zero, pas, res11_agg, List.map_cons, c0, c1, c2, c3, d4, hn, kl, hla,  on_gcall, off_gcall, flat_gcall, wpC_seq_xreg, wpC_xreg, wpXR_nil, wpXR_own, wpXR_flu, xeOK, xe, argTops, openArgs, Orc.ppre_cons, Orc.pr_cons, Orc.ppre_econs, Orc.pr_econs, Orc.ppre_fcons, Orc.pr_fcons, Orc.ppre_gcons, Orc.pr_gcons, List.head?_cons, List.headD_cons, XE.val, XE.heap, efO, shutArgs, xfoot, footO, V.tops, V.top1, clashOne, noClash, Orc.flat_fcons, Orc.pre_fcons, Orc.v_fcons, Orc.hp_fcons, Orc.qpre_fcons, Orc.qv_fcons, Orc.fpre_fcons, Orc.fes_fcons, Orc.flat_gcons, Orc.pre_gcons, Orc.v_gcons, Orc.hp_gcons, Orc.qpre_gcons, Orc.qv_gcons, Orc.fpre_gcons, Orc.fes_gcons, GSum.pre, GSum.v, GSum.hp, Orc.fpre_cons, Orc.fes_cons, Orc.fpre_econs, Orc.fes_econs, FSum.pre, FSum.v, FSum.hp, fres, O.calls, List.flatMap_cons, List.flatMap_nil, List.contains_cons, List.contains_nil, Bool.not_true, Bool.not_false, Heap.freeze, List.mapIdx_cons, List.mapIdx_nil, List.elem_cons, List.elem_nil, fluP, fluV, evF, bne_iff_ne, ne_eq, Option.some.injEq, go_sem, reduceCtorEq, reduceIte, Nat.reduceEqDiff, Nat.reduceAdd, Nat.reduceSub, Nat.reduceMul, Nat.reduceLT, Nat.reduceLeDiff, Nat.reduceBEq, Int.reduceEq, Int.reduceLT, Int.reduceLE, Int.reduceAdd, Int.reduceSub, Int.reduceNeg, Int.reduceToNat]
        rw [if_neg c0, if_neg c1, if_neg c2, if_neg c3, if_neg c4]
        simp only [c56, Pa.enc, k3, h6, hV', h3, h'3, hw, h0l, h1l, htk, Int.le_refl, ka, dPa_mk, dItm_mk, dPas_map, Pa.eta', Itm.eta', itR, Itm.enc, Itm.zero, pas, res11_agg, List.map_cons, c0, c1, c2, c3, c4, hn,  on_gcall, off_gcall, flat_gcall, wpC_seq_xreg, wpC_xreg, wpXR_nil, wpXR_own, wpXR_flu, xeOK, xe, argTops, openArgs, Orc.ppre_cons, Orc.pr_cons, Orc.ppre_econs, Orc.pr_econs, Orc.ppre_fcons, Orc.pr_fcons, Orc.ppre_gcons, Orc.pr_gcons, List.head?_cons, List.headD_cons, XE.val, XE.heap, efO, shutArgs, xfoot, footO, V.tops, V.top1, clashOne, noClash, Orc.flat_fcons, Orc.pre_fcons, Orc.v_fcons, Orc.hp_fcons, Orc.qpre_fcons, Orc.qv_fcons, Orc.fpre_fcons, Orc.fes_fcons, Orc.flat_gcons, Orc.pre_gcons, Orc.v_gcons, Orc.hp_gcons, Orc.qpre_gcons, Orc.qv_gcons, Orc.fpre_gcons, Orc.fes_gcons, GSum.pre, GSum.v, GSum.hp, Orc.fpre_cons, Orc.fes_cons, Orc.fpre_econs, Orc.fes_econs, FSum.pre, FSum.v, FSum.hp, fres, O.calls, List.flatMap_cons, List.flatMap_nil, List.contains_cons, List.contains_nil, Bool.not_true, Bool.not_false, Heap.freeze, List.mapIdx_cons, List.mapIdx_nil, List.elem_cons, List.elem_nil, fluP, fluV, evF, bne_iff_ne, ne_eq, Option.some.injEq, go_sem, reduceCtorEq, reduceIte, Nat.reduceEqDiff, Nat.reduceAdd, Nat.reduceSub, Nat.reduceMul, Nat.reduceLT, Nat.reduceLeDiff, Nat.reduceBEq, Int.reduceEq, Int.reduceLT, Int.reduceLE, Int.reduceAdd, Int.reduceSub, Int.reduceNeg, Int.reduceToNat]
    · rw [if_neg (fun hh => k3 hh.1)]
      obtain ⟨a, l, hal⟩ := argsA_ne hb
      have hV := argsV_true hb
      rw [hal] at hV
      simp only [pas, List.map_cons] at hV
      simp only [c56, Pa.enc, k6, k3, hV, h, h', dPa_mk, Pa.eta', itR, Itm.enc, Itm.zero, res11_agg, on_gcall, off_gcall, flat_gcall, wpC_seq_xreg, wpC_xreg, wpXR_nil, wpXR_own, wpXR_flu, xeOK, xe, argTops, openArgs, Orc.ppre_cons, Orc.pr_cons, Orc.ppre_econs, Orc.pr_econs, Orc.ppre_fcons, Orc.pr_fcons, Orc.ppre_gcons, Orc.pr_gcons, List.head?_cons, List.headD_cons, XE.val, XE.heap, efO, shutArgs, xfoot, footO, V.tops, V.top1, clashOne, noClash, Orc.flat_fcons, Orc.pre_fcons, Orc.v_fcons, Orc.hp_fcons, Orc.qpre_fcons, Orc.qv_fcons, Orc.fpre_fcons, Orc.fes_fcons, Orc.flat_gcons, Orc.pre_gcons, Orc.v_gcons, Orc.hp_gcons, Orc.qpre_gcons, Orc.qv_gcons, Orc.fpre_gcons, Orc.fes_gcons, GSum.pre, GSum.v, GSum.hp, Orc.fpre_cons, Orc.fes_cons, Orc.fpre_econs, Orc.fes_econs, FSum.pre, FSum.v, FSum.hp, fres, O.calls, List.flatMap_cons, List.flatMap_nil, List.contains_cons, List.contains_nil, Bool.not_true, Bool.not_false, Heap.freeze, List.mapIdx_cons, List.mapIdx_nil, List.elem_cons, List.elem_nil, fluP, fluV, evF, bne_iff_ne, ne_eq, Option.some.injEq, go_sem, reduceCtorEq, reduceIte, Nat.reduceEqDiff, Nat.reduceAdd, Nat.reduceSub, Nat.reduceMul, Nat.reduceLT, Nat.reduceLeDiff, Nat.reduceBEq, Int.reduceEq, Int.reduceLT, Int.reduceLE, Int.reduceAdd, Int.reduceSub, Int.reduceNeg, Int.reduceToNat]
end Go.Proofs.Ytjofgafeaiiegaa
