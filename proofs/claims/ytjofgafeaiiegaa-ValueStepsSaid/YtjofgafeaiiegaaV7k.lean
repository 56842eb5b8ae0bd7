/- Layer 7: items of content lists. -/
import Derived.Test.YtjofgafeaiiegaaV7j
import Derived.Test.YtjofgafeaiiegaaGc
namespace Go.Proofs.Ytjofgafeaiiegaa
open Go.Sx
set_option linter.unusedSimpArgs false
set_option maxHeartbeats 4000000
set_option maxRecDepth 20000

theorem ix_any (L : List ByteArray) (u : ByteArray) (h : L.length ≤ 1000000) : ∃ S : Sum Try.prog, S.f = 72 ∧ S.flat = true ∧ S.D [.slc 1 (L.map fun s => [vs s]), .c (.string u)] ∧ S.r [.slc 1 (L.map fun s => [vs s]), .c (.string u)] = vi (ixS L u) :=
  ⟨⟨72, fun args => args = [strs L, vs u], fun _ => vi (ixS L u), fun args h' => by rw [h']; exact ixS_ok L u h, true⟩, rfl, rfl, rfl, rfl⟩
theorem which_ok (s : ByteArray) (h : s.size ≤ 1000000) : PCall Try.prog 85 [vs s] (vi (whN s)) := by
  unfold whN
  generalize hs : lowB s = u
  obtain ⟨S, s1, s2, s3, s4⟩ := ix_any (⟨#[]⟩ :: whs) u (by decide)
  refine PCall.of (Orc.cons S (Orc.cons sumLow (Orc.nil _))) c85_ok (by simp [c85]) fun w0 own0 => ?_
  generalize ixS (⟨#[]⟩ :: whs) u = r at *
  simp only [whs, List.map_cons, List.map_nil] at s3 s4
  simp only [c85, h, hs, s1, s2, s3, s4, go_sem, wpR_gcall, reduceCtorEq, reduceIte, Nat.reduceEqDiff, Nat.reduceAdd, Nat.reduceSub, Nat.reduceMul, Nat.reduceLT, Nat.reduceLeDiff, Nat.reduceBEq, Int.reduceEq, Int.reduceLT, Int.reduceLE, Int.reduceAdd, Int.reduceSub, Int.reduceNeg, Int.reduceToNat]
def sumWh : Sum Try.prog := ⟨85, fun args => args = [vs ((args.getD 0 .any).str)] ∧ (((args.getD 0 .any).str)).size ≤ 1000000, fun args => vi (whN ((args.getD 0 .any).str)), fun args h => by
  have := which_ok ((args.getD 0 .any).str) h.2; rwa [← h.1] at this, true⟩
theorem sumWh_f : sumWh.f = 85 := rfl
theorem sumWh_D (args : List V) : sumWh.D args = (args = [vs ((args.getD 0 .any).str)] ∧ (((args.getD 0 .any).str)).size ≤ 1000000) := rfl
theorem sumWh_flat : sumWh.flat = true := rfl
theorem sumWh_r (args : List V) : sumWh.r args = vi (whN ((args.getD 0 .any).str)) := rfl
attribute [go_sem] sumWh_f sumWh_D sumWh_flat sumWh_r
def itR (x : Itm × Bool) : V := .tup [.agg x.1.enc, vb x.2]
def okL (l : List Pa) : Prop := l.length ≤ 1000001 ∧ ∀ q ∈ l, okP7 q
theorem res11_agg (S : Nat → Bool) (h : Heap) (cs : List V) : res S h 11 (.agg cs) = (mapO (res S h 10) cs).map .agg := rfl
theorem styled_ok (x : Itm) (l : List Pa) (h : okL l) : PCall Try.prog 66 [.agg x.enc, pas l] (itR (stV x l)) := by
  refine PCall.of (Orc.cons sumSty (Orc.nil _)) c66_ok (by simp [c66]) fun w0 own0 => ?_
  match l, h with
  | [], h =>
    simp only [c66, Itm.enc, pas, stV, itR, res11_agg, wpC_seq_xreg, wpC_xreg, wpXR_nil, wpXR_own, wpXR_flu, xeOK, xe, argTops, openArgs, Orc.ppre_cons, Orc.pr_cons, Orc.ppre_econs, Orc.pr_econs, Orc.ppre_fcons, Orc.pr_fcons, Orc.ppre_gcons, Orc.pr_gcons, List.head?_cons, List.headD_cons, XE.val, XE.heap, efO, shutArgs, xfoot, footO, V.tops, V.top1, clashOne, noClash, Orc.flat_fcons, Orc.pre_fcons, Orc.v_fcons, Orc.hp_fcons, Orc.qpre_fcons, Orc.qv_fcons, Orc.fpre_fcons, Orc.fes_fcons, Orc.flat_gcons, Orc.pre_gcons, Orc.v_gcons, Orc.hp_gcons, Orc.qpre_gcons, Orc.qv_gcons, Orc.fpre_gcons, Orc.fes_gcons, GSum.pre, GSum.v, GSum.hp, Orc.fpre_cons, Orc.fes_cons, Orc.fpre_econs, Orc.fes_econs, FSum.pre, FSum.v, FSum.hp, fres, O.calls, List.flatMap_cons, List.flatMap_nil, List.contains_cons, List.contains_nil, Bool.not_true, Bool.not_false, Heap.freeze, List.mapIdx_cons, List.mapIdx_nil, List.elem_cons, List.elem_nil, fluP, fluV, evF, bne_iff_ne, ne_eq, Option.some.injEq, go_sem, wpR_gcall, reduceCtorEq, reduceIte, Nat.reduceEqDiff, Nat.reduceAdd, Nat.reduceSub, Nat.reduceMul, Nat.reduceLT, Nat.reduceLeDiff, Nat.reduceBEq, Int.reduceEq, Int.reduceLT, Int.reduceLE, Int.reduceAdd, Int.reduceSub, Int.reduceNeg, Int.reduceToNat]
  | q :: [], h =>
    have hq : q.t.text.size ≤ 1000000 := h.2 q (by simp)
    simp only [c66, Itm.enc, pas, Pa.enc, stV, itR, hq, res11_agg, wpC_seq_xreg, wpC_xreg, wpXR_nil, wpXR_own, wpXR_flu, xeOK, xe, argTops, openArgs, Orc.ppre_cons, Orc.pr_cons, Orc.ppre_econs, Orc.pr_econs, Orc.ppre_fcons, Orc.pr_fcons, Orc.ppre_gcons, Orc.pr_gcons, List.head?_cons, List.headD_cons, XE.val, XE.heap, efO, shutArgs, xfoot, footO, V.tops, V.top1, clashOne, noClash, Orc.flat_fcons, Orc.pre_fcons, Orc.v_fcons, Orc.hp_fcons, Orc.qpre_fcons, Orc.qv_fcons, Orc.fpre_fcons, Orc.fes_fcons, Orc.flat_gcons, Orc.pre_gcons, Orc.v_gcons, Orc.hp_gcons, Orc.qpre_gcons, Orc.qv_gcons, Orc.fpre_gcons, Orc.fes_gcons, GSum.pre, GSum.v, GSum.hp, Orc.fpre_cons, Orc.fes_cons, Orc.fpre_econs, Orc.fes_econs, FSum.pre, FSum.v, FSum.hp, fres, O.calls, List.flatMap_cons, List.flatMap_nil, List.contains_cons, List.contains_nil, Bool.not_true, Bool.not_false, Heap.freeze, List.mapIdx_cons, List.mapIdx_nil, List.elem_cons, List.elem_nil, fluP, fluV, evF, bne_iff_ne, ne_eq, Option.some.injEq, go_sem, wpR_gcall, reduceCtorEq, reduceIte, Nat.reduceEqDiff, Nat.reduceAdd, Nat.reduceSub, Nat.reduceMul, Nat.reduceLT, Nat.reduceLeDiff, Nat.reduceBEq, Int.reduceEq, Int.reduceLT, Int.reduceLE, Int.reduceAdd, Int.reduceSub, Int.reduceNeg, Int.reduceToNat]
  | q :: q2 :: r, h =>
    have hq : q.t.text.size ≤ 1000000 := h.2 q (by simp)
    have hne' : ¬ (((r.length + 1 + 1 : Nat) : Int) = 1) := by omega
    have hn0 : ¬ (((r.length + 1 + 1 : Nat) : Int) = 0) := by omega
    have hnp : (0 : Int) < ((r.length + 1 + 1 : Nat) : Int) := by omega
    simp only [c66, Itm.enc, pas, Pa.enc, stV, itR, hq, hne', hn0, hnp, res11_agg, wpC_seq_xreg, wpC_xreg, wpXR_nil, wpXR_own, wpXR_flu, xeOK, xe, argTops, openArgs, Orc.ppre_cons, Orc.pr_cons, Orc.ppre_econs, Orc.pr_econs, Orc.ppre_fcons, Orc.pr_fcons, Orc.ppre_gcons, Orc.pr_gcons, List.head?_cons, List.headD_cons, XE.val, XE.heap, efO, shutArgs, xfoot, footO, V.tops, V.top1, clashOne, noClash, Orc.flat_fcons, Orc.pre_fcons, Orc.v_fcons, Orc.hp_fcons, Orc.qpre_fcons, Orc.qv_fcons, Orc.fpre_fcons, Orc.fes_fcons, Orc.flat_gcons, Orc.pre_gcons, Orc.v_gcons, Orc.hp_gcons, Orc.qpre_gcons, Orc.qv_gcons, Orc.fpre_gcons, Orc.fes_gcons, GSum.pre, GSum.v, GSum.hp, Orc.fpre_cons, Orc.fes_cons, Orc.fpre_econs, Orc.fes_econs, FSum.pre, FSum.v, FSum.hp, fres, O.calls, List.flatMap_cons, List.flatMap_nil, List.contains_cons, List.contains_nil, Bool.not_true, Bool.not_false, Heap.freeze, List.mapIdx_cons, List.mapIdx_nil, List.elem_cons, List.elem_nil, fluP, fluV, evF, bne_iff_ne, ne_eq, Option.some.injEq, go_sem, wpR_gcall, reduceCtorEq, reduceIte, Nat.reduceEqDiff, Nat.reduceAdd, Nat.reduceSub, Nat.reduceMul, Nat.reduceLT, Nat.reduceLeDiff, Nat.reduceBEq, Int.reduceEq, Int.reduceLT, Int.reduceLE, Int.reduceAdd, Int.reduceSub, Int.reduceNeg, Int.reduceToNat]
theorem chosen_ok (x : Itm) (l : List Pa) (h : okL l) : PCall Try.prog 67 [.agg x.enc, pas l] (itR (chV x l)) := by
  refine PCall.of (Orc.cons sumWh (Orc.nil _)) c67_ok (by simp [c67]) fun w0 own0 => ?_
  match l, h with
  | [], h =>
    simp only [c67, Itm.enc, pas, chV, itR, res11_agg, wpC_seq_xreg, wpC_xreg, wpXR_nil, wpXR_own, wpXR_flu, xeOK, xe, argTops, openArgs, Orc.ppre_cons, Orc.pr_cons, Orc.ppre_econs, Orc.pr_econs, Orc.ppre_fcons, Orc.pr_fcons, Orc.ppre_gcons, Orc.pr_gcons, List.head?_cons, List.headD_cons, XE.val, XE.heap, efO, shutArgs, xfoot, footO, V.tops, V.top1, clashOne, noClash, Orc.flat_fcons, Orc.pre_fcons, Orc.v_fcons, Orc.hp_fcons, Orc.qpre_fcons, Orc.qv_fcons, Orc.fpre_fcons, Orc.fes_fcons, Orc.flat_gcons, Orc.pre_gcons, Orc.v_gcons, Orc.hp_gcons, Orc.qpre_gcons, Orc.qv_gcons, Orc.fpre_gcons, Orc.fes_gcons, GSum.pre, GSum.v, GSum.hp, Orc.fpre_cons, Orc.fes_cons, Orc.fpre_econs, Orc.fes_econs, FSum.pre, FSum.v, FSum.hp, fres, O.calls, List.flatMap_cons, List.flatMap_nil, List.contains_cons, List.contains_nil, Bool.not_true, Bool.not_false, Heap.freeze, List.mapIdx_cons, List.mapIdx_nil, List.elem_cons, List.elem_nil, fluP, fluV, evF, bne_iff_ne, ne_eq, Option.some.injEq, go_sem, wpR_gcall, reduceCtorEq, reduceIte, Nat.reduceEqDiff, Nat.reduceAdd, Nat.reduceSub, Nat.reduceMul, Nat.reduceLT, Nat.reduceLeDiff, Nat.reduceBEq, Int.reduceEq, Int.reduceLT, Int.reduceLE, Int.reduceAdd, Int.reduceSub, Int.reduceNeg, Int.reduceToNat]
  | q :: [], h =>
    have hq : q.t.text.size ≤ 1000000 := h.2 q (by simp)
    simp only [c67, Itm.enc, pas, Pa.enc, chV, itR, hq, res11_agg, wpC_seq_xreg, wpC_xreg, wpXR_nil, wpXR_own, wpXR_flu, xeOK, xe, argTops, openArgs, Orc.ppre_cons, Orc.pr_cons, Orc.ppre_econs, Orc.pr_econs, Orc.ppre_fcons, Orc.pr_fcons, Orc.ppre_gcons, Orc.pr_gcons, List.head?_cons, List.headD_cons, XE.val, XE.heap, efO, shutArgs, xfoot, footO, V.tops, V.top1, clashOne, noClash, Orc.flat_fcons, Orc.pre_fcons, Orc.v_fcons, Orc.hp_fcons, Orc.qpre_fcons, Orc.qv_fcons, Orc.fpre_fcons, Orc.fes_fcons, Orc.flat_gcons, Orc.pre_gcons, Orc.v_gcons, Orc.hp_gcons, Orc.qpre_gcons, Orc.qv_gcons, Orc.fpre_gcons, Orc.fes_gcons, GSum.pre, GSum.v, GSum.hp, Orc.fpre_cons, Orc.fes_cons, Orc.fpre_econs, Orc.fes_econs, FSum.pre, FSum.v, FSum.hp, fres, O.calls, List.flatMap_cons, List.flatMap_nil, List.contains_cons, List.contains_nil, Bool.not_true, Bool.not_false, Heap.freeze, List.mapIdx_cons, List.mapIdx_nil, List.elem_cons, List.elem_nil, fluP, fluV, evF, bne_iff_ne, ne_eq, Option.some.injEq, go_sem, wpR_gcall, reduceCtorEq, reduceIte, Nat.reduceEqDiff, Nat.reduceAdd, Nat.reduceSub, Nat.reduceMul, Nat.reduceLT, Nat.reduceLeDiff, Nat.reduceBEq, Int.reduceEq, Int.reduceLT, Int.reduceLE, Int.reduceAdd, Int.reduceSub, Int.reduceNeg, Int.reduceToNat]
  | q :: q2 :: r, h =>
    have hq : q.t.text.size ≤ 1000000 := h.2 q (by simp)
    have hne' : ¬ (((r.length + 1 + 1 : Nat) : Int) = 1) := by omega
    have hn0 : ¬ (((r.length + 1 + 1 : Nat) : Int) = 0) := by omega
    have hnp : (0 : Int) < ((r.length + 1 + 1 : Nat) : Int) := by omega
    simp only [c67, Itm.enc, pas, Pa.enc, chV, itR, hq, hne', hn0, hnp, res11_agg, wpC_seq_xreg, wpC_xreg, wpXR_nil, wpXR_own, wpXR_flu, xeOK, xe, argTops, openArgs, Orc.ppre_cons, Orc.pr_cons, Orc.ppre_econs, Orc.pr_econs, Orc.ppre_fcons, Orc.pr_fcons, Orc.ppre_gcons, Orc.pr_gcons, List.head?_cons, List.headD_cons, XE.val, XE.heap, efO, shutArgs, xfoot, footO, V.tops, V.top1, clashOne, noClash, Orc.flat_fcons, Orc.pre_fcons, Orc.v_fcons, Orc.hp_fcons, Orc.qpre_fcons, Orc.qv_fcons, Orc.fpre_fcons, Orc.fes_fcons, Orc.flat_gcons, Orc.pre_gcons, Orc.v_gcons, Orc.hp_gcons, Orc.qpre_gcons, Orc.qv_gcons, Orc.fpre_gcons, Orc.fes_gcons, GSum.pre, GSum.v, GSum.hp, Orc.fpre_cons, Orc.fes_cons, Orc.fpre_econs, Orc.fes_econs, FSum.pre, FSum.v, FSum.hp, fres, O.calls, List.flatMap_cons, List.flatMap_nil, List.contains_cons, List.contains_nil, Bool.not_true, Bool.not_false, Heap.freeze, List.mapIdx_cons, List.mapIdx_nil, List.elem_cons, List.elem_nil, fluP, fluV, evF, bne_iff_ne, ne_eq, Option.some.injEq, go_sem, wpR_gcall, reduceCtorEq, reduceIte, Nat.reduceEqDiff, Nat.reduceAdd, Nat.reduceSub, Nat.reduceMul, Nat.reduceLT, Nat.reduceLeDiff, Nat.reduceBEq, Int.reduceEq, Int.reduceLT, Int.reduceLE, Int.reduceAdd, Int.reduceSub, Int.reduceNeg, Int.reduceToNat]
def sumStd : Sum Try.prog := ⟨66, fun args => args = [.agg (Itm.enc (dItm (args.getD 0 .any))), pas (dPas (args.getD 1 .any))] ∧ okL (dPas (args.getD 1 .any)), fun args => itR (stV (dItm (args.getD 0 .any)) (dPas (args.getD 1 .any))), fun args h => by
  have := styled_ok (dItm (args.getD 0 .any)) (dPas (args.getD 1 .any)) h.2; rwa [← h.1] at this, false⟩
theorem sumStd_f : sumStd.f = 66 := rfl
theorem sumStd_D (args : List V) : sumStd.D args = (args = [.agg (Itm.enc (dItm (args.getD 0 .any))), pas (dPas (args.getD 1 .any))] ∧ okL (dPas (args.getD 1 .any))) := rfl
theorem sumStd_flat : sumStd.flat = false := rfl
theorem sumStd_r (args : List V) : sumStd.r args = itR (stV (dItm (args.getD 0 .any)) (dPas (args.getD 1 .any))) := rfl
attribute [go_sem] sumStd_f sumStd_D sumStd_flat sumStd_r
def sumCho : Sum Try.prog := ⟨67, fun args => args = [.agg (Itm.enc (dItm (args.getD 0 .any))), pas (dPas (args.getD 1 .any))] ∧ okL (dPas (args.getD 1 .any)), fun args => itR (chV (dItm (args.getD 0 .any)) (dPas (args.getD 1 .any))), fun args h => by
  have := chosen_ok (dItm (args.getD 0 .any)) (dPas (args.getD 1 .any)) h.2; rwa [← h.1] at this, false⟩
theorem sumCho_f : sumCho.f = 67 := rfl
theorem sumCho_D (args : List V) : sumCho.D args = (args = [.agg (Itm.enc (dItm (args.getD 0 .any))), pas (dPas (args.getD 1 .any))] ∧ okL (dPas (args.getD 1 .any))) := rfl
theorem sumCho_flat : sumCho.flat = false := rfl
theorem sumCho_r (args : List V) : sumCho.r args = itR (chV (dItm (args.getD 0 .any)) (dPas (args.getD 1 .any))) := rfl
attribute [go_sem] sumCho_f sumCho_D sumCho_flat sumCho_r
end Go.Proofs.Ytjofgafeaiiegaa
