/- Layer 17: the size that names are. -/
import Derived.Test.YtilinnmancfjgaaGreatDoorX17b
import Derived.Test.YtilinnmancfjgaaGreatDoorLo
namespace Go.Proofs.YtilinnmancfjgaaGreatDoor
open Go.Sx
set_option linter.unusedSimpArgs false
set_option linter.unusedVariables false
set_option maxHeartbeats 8000000
set_option maxRecDepth 100000

def kPo : ByteArray := ⟨#[112, 111, 114, 116, 114, 97, 105, 116]⟩
def kLa : ByteArray := ⟨#[108, 97, 110, 100, 115, 99, 97, 112, 101]⟩
def kAu : ByteArray := ⟨#[97, 117, 116, 111]⟩
def look3 (s : ByteArray) : Option (Int × Int) := if kA4 = s then some (793700, 1122519) else if kA5 = s then some (559370, 793700) else if kLt = s then some (816000, 1056000) else none
structure Nm where
  w : Int
  h : Int
  p : Nat
  t : Nat
  tn : Bool
/-- Names, one behind the other, up to the first one that is none. -/
def nmF (n1 : Bool) : List Tok → Nm → Nm × Bool
  | [], s => (s, true)
  | x :: r, s =>
    if x.kind = 2 then
      match look3 (lowB x.text) with
      | some z => nmF n1 r ⟨z.1, z.2, s.p + 1, s.t, s.tn⟩
      | none =>
        if lowB x.text = kPo ∨ lowB x.text = kLa then nmF n1 r ⟨s.w, s.h, s.p, s.t + 1, decide (lowB x.text = kLa)⟩
        else if lowB x.text = kAu ∧ n1 = false then nmF n1 r s else (s, false)
    else (s, false)
def nmR (v : List Tok) : (Int × Int) × Bool :=
  match nmF (decide (1 < v.length)) v ⟨793700, 1122519, 0, 0, false⟩ with
  | (s, true) => (if s.tn = true then (s.h, s.w) else (s.w, s.h), decide (0 < v.length ∧ s.p ≤ 1 ∧ s.t ≤ 1))
  | (s, false) => ((s.w, s.h), false)
def nmV (o : (Int × Int) × Bool) : V := .tup [.agg [vi o.1.1, vi o.1.2], vb o.2]
theorem mget3 (s : ByteArray) : mget [.string kA4, .string kA5, .string kLt] [.agg [vi 793700, vi 1122519], .agg [vi 559370, vi 793700], .agg [vi 816000, vi 1056000]] (.string s) = (look3 s).map fun z => .agg [vi z.1, vi z.2] := by
  unfold look3
  by_cases h1 : kA4 = s
  · simp [mget, simpleEq, h1]
  by_cases h2 : kA5 = s
  · simp [mget, simpleEq, h1, h2]
  by_cases h3 : kLt = s
  · simp [mget, simpleEq, h1, h2, h3]
  · simp [mget, simpleEq, h1, h2, h3]
theorem res11_aggN (S : Nat → Bool) (h : Heap) (cs : List V) : res S h 11 (.agg cs) = (mapO (res S h 10) cs).map .agg := rfl
theorem nm_dec (n p t : Nat) : (decide ((0 : Int) < (n : Int)) && decide ((p : Int) ≤ 1) && decide ((t : Int) ≤ 1)) = decide (0 < n ∧ p ≤ 1 ∧ t ≤ 1) := by
  rw [Bool.eq_iff_iff]; simp only [Bool.and_eq_true, decide_eq_true_eq]; omega
structure NmS where
  k : Nat
  s : Nm
  clk : Nat
def txtOK (v : List Tok) : Prop := v.length ≤ 1000000 ∧ ∀ t ∈ v, t.text.size ≤ 1000000
theorem named17_ok (v : List Tok) (hv : txtOK v) : PCall Tryz.prog 12 [toks v] (nmV (nmR v)) := by
  obtain ⟨hl, ht⟩ := hv
  unfold nmR
  generalize hR : nmF (decide (1 < v.length)) v ⟨793700, 1122519, 0, 0, false⟩ = R
  refine PCall.of (Orc.cons sumPps (Orc.cons sumLow (Orc.nil _))) c12_ok (by simp [c12]) fun w0 own0 => ?_
  have hm : look3 ⟨#[97, 52]⟩ = some (793700, 1122519) := rfl
  simp -implicitDefEqProofs only [c12, toks, pps, mget3, hm, Option.map_some, Option.getD_some, on_gcall, off_gcall, flat_gcall, wpC_seq_xreg, wpC_xreg, wpXR_nil, wpXR_own, wpXR_flu, xeOK, xe, argTops, openArgs, Orc.ppre_cons, Orc.pr_cons, Orc.ppre_econs, Orc.pr_econs, Orc.ppre_fcons, Orc.pr_fcons, Orc.ppre_gcons, Orc.pr_gcons, List.head?_cons, List.headD_cons, XE.val, XE.heap, efO, shutArgs, xfoot, footO, V.tops, V.top1, clashOne, noClash, Orc.flat_fcons, Orc.pre_fcons, Orc.v_fcons, Orc.hp_fcons, Orc.qpre_fcons, Orc.qv_fcons, Orc.fpre_fcons, Orc.fes_fcons, Orc.flat_gcons, Orc.pre_gcons, Orc.v_gcons, Orc.hp_gcons, Orc.qpre_gcons, Orc.qv_gcons, Orc.fpre_gcons, Orc.fes_gcons, GSum.pre, GSum.v, GSum.hp, Orc.fpre_cons, Orc.fes_cons, Orc.fpre_econs, Orc.fes_econs, FSum.pre, FSum.v, FSum.hp, fres, O.calls, List.flatMap_cons, List.flatMap_nil, List.contains_cons, List.contains_nil, Bool.not_true, Bool.not_false, Heap.freeze, List.mapIdx_cons, List.mapIdx_nil, List.elem_cons, List.elem_nil, fluP, fluV, evF, bne_iff_ne, ne_eq, Option.some.injEq, go_sem, reduceCtorEq, reduceIte, Nat.reduceEqDiff, Nat.reduceAdd, Nat.reduceSub, Nat.reduceMul, Nat.reduceLT, Nat.reduceLeDiff, Nat.reduceBEq, Int.reduceEq, Int.reduceLT, Int.reduceLE, Int.reduceAdd, Int.reduceSub, Int.reduceNeg, Int.reduceToNat]
  refine SemC.lp (α := NmS) (fun x => [(0, .slc 3 (v.map Tok.enc)), (2, .ptr 0 0 0 0), (4, .ptr 1 1 0 0), (5, vi x.s.p), (6, vi x.s.t), (7, vb x.s.tn), (15, .slc 3 (v.map Tok.enc)), (16, vi v.length), (17, vi x.k)])
    (fun x => ⟨[⟨0, 2, [[vi 0, vi 0]], false, []⟩, ⟨1, 2, [[vi x.s.w, vi x.s.h]], false, []⟩], x.clk⟩)
    (fun x => x.k ≤ v.length ∧ x.s.p ≤ x.k ∧ x.s.t ≤ x.k ∧ nmF (decide (1 < v.length)) (v.drop x.k) x.s = R) (fun x => v.length - x.k) ⟨0, ⟨793700, 1122519, 0, 0, false⟩, 2⟩ ⟨Nat.zero_le _, Nat.le_refl _, Nat.le_refl _, hR⟩ (St.cut ?_ ?_ ?_) fun x hx => ?_
  · simp [Agrees, upd_at, initE_at]
  · simp
  · rfl
  clear hR
  obtain ⟨k, ⟨w, h, p, t, tn⟩, clk⟩ := x
  obtain ⟨h1, h2, h3, h4⟩ := hx
  simp only at h1 h2 h3 h4
  by_cases he : k = v.length
  · subst he
    rw [List.drop_length] at h4
    simp only [nmF] at h4
    subst h4
    cases tn with
    | true =>
      simp -implicitDefEqProofs only [Int.lt_irrefl, nmV, res11_aggN, nm_dec, if_true, Bool.false_eq_true, if_false, toks, pps, mget3, Option.getD_some, on_gcall, off_gcall, flat_gcall, wpC_seq_xreg, wpC_xreg, wpXR_nil, wpXR_own, wpXR_flu, xeOK, xe, argTops, openArgs, Orc.ppre_cons, Orc.pr_cons, Orc.ppre_econs, Orc.pr_econs, Orc.ppre_fcons, Orc.pr_fcons, Orc.ppre_gcons, Orc.pr_gcons, List.head?_cons, List.headD_cons, XE.val, XE.heap, efO, shutArgs, xfoot, footO, V.tops, V.top1, clashOne, noClash, Orc.flat_fcons, Orc.pre_fcons, Orc.v_fcons, Orc.hp_fcons, Orc.qpre_fcons, Orc.qv_fcons, Orc.fpre_fcons, Orc.fes_fcons, Orc.flat_gcons, Orc.pre_gcons, Orc.v_gcons, Orc.hp_gcons, Orc.qpre_gcons, Orc.qv_gcons, Orc.fpre_gcons, Orc.fes_gcons, GSum.pre, GSum.v, GSum.hp, Orc.fpre_cons, Orc.fes_cons, Orc.fpre_econs, Orc.fes_econs, FSum.pre, FSum.v, FSum.hp, fres, O.calls, List.flatMap_cons, List.flatMap_nil, List.contains_cons, List.contains_nil, Bool.not_true, Bool.not_false, Heap.freeze, List.mapIdx_cons, List.mapIdx_nil, List.elem_cons, List.elem_nil, fluP, fluV, evF, bne_iff_ne, ne_eq, Option.some.injEq, go_sem, reduceCtorEq, reduceIte, Nat.reduceEqDiff, Nat.reduceAdd, Nat.reduceSub, Nat.reduceMul, Nat.reduceLT, Nat.reduceLeDiff, Nat.reduceBEq, Int.reduceEq, Int.reduceLT, Int.reduceLE, Int.reduceAdd, Int.reduceSub, Int.reduceNeg, Int.reduceToNat]
    | false =>
      simp -implicitDefEqProofs only [Int.lt_irrefl, nmV, res11_aggN, nm_dec, if_true, Bool.false_eq_true, if_false, toks, pps, mget3, Option.getD_some, on_gcall, off_gcall, flat_gcall, wpC_seq_xreg, wpC_xreg, wpXR_nil, wpXR_own, wpXR_flu, xeOK, xe, argTops, openArgs, Orc.ppre_cons, Orc.pr_cons, Orc.ppre_econs, Orc.pr_econs, Orc.ppre_fcons, Orc.pr_fcons, Orc.ppre_gcons, Orc.pr_gcons, List.head?_cons, List.headD_cons, XE.val, XE.heap, efO, shutArgs, xfoot, footO, V.tops, V.top1, clashOne, noClash, Orc.flat_fcons, Orc.pre_fcons, Orc.v_fcons, Orc.hp_fcons, Orc.qpre_fcons, Orc.qv_fcons, Orc.fpre_fcons, Orc.fes_fcons, Orc.flat_gcons, Orc.pre_gcons, Orc.v_gcons, Orc.hp_gcons, Orc.qpre_gcons, Orc.qv_gcons, Orc.fpre_gcons, Orc.fes_gcons, GSum.pre, GSum.v, GSum.hp, Orc.fpre_cons, Orc.fes_cons, Orc.fpre_econs, Orc.fes_econs, FSum.pre, FSum.v, FSum.hp, fres, O.calls, List.flatMap_cons, List.flatMap_nil, List.contains_cons, List.contains_nil, Bool.not_true, Bool.not_false, Heap.freeze, List.mapIdx_cons, List.mapIdx_nil, List.elem_cons, List.elem_nil, fluP, fluV, evF, bne_iff_ne, ne_eq, Option.some.injEq, go_sem, reduceCtorEq, reduceIte, Nat.reduceEqDiff, Nat.reduceAdd, Nat.reduceSub, Nat.reduceMul, Nat.reduceLT, Nat.reduceLeDiff, Nat.reduceBEq, Int.reduceEq, Int.reduceLT, Int.reduceLE, Int.reduceAdd, Int.reduceSub, Int.reduceNeg, Int.reduceToNat]
  have f1 : (k : Int) < (v.length : Int) := by omega
  have f0 : (0 : Int) ≤ (k : Int) := by omega
  have hg := getD_tokC v k
  have htx := ht (v.getD k .zero) (by rw [List.getD_eq_getElem?_getD, List.getElem?_eq_getElem (by omega)]; exact List.getElem_mem _)
  have hdr : v.drop k = v.getD k .zero :: v.drop (k + 1) := by rw [List.drop_eq_getElem_cons (by omega), List.getD_eq_getElem?_getD, List.getElem?_eq_getElem (by omega)]; rfl
  rw [hdr] at h4
  simp only [nmF] at h4
  clear hdr ht
  generalize v.getD k .zero = x at *
  cases hlk : look3 (lowB x.text) with
  | some z =>
    obtain ⟨z1, z2⟩ := z
    by_cases c1 : x.kind = 2
    · rw [if_pos c1, hlk] at h4
      simp only at h4
      have c1 := eq_true c1
      simp -implicitDefEqProofs only [f0, f1, hg, htx, c1, hlk, Option.map_some, Option.isSome_some, Tok.enc, toks, pps, mget3, Option.getD_some, on_gcall, off_gcall, flat_gcall, wpC_seq_xreg, wpC_xreg, wpXR_nil, wpXR_own, wpXR_flu, xeOK, xe, argTops, openArgs, Orc.ppre_cons, Orc.pr_cons, Orc.ppre_econs, Orc.pr_econs, Orc.ppre_fcons, Orc.pr_fcons, Orc.ppre_gcons, Orc.pr_gcons, List.head?_cons, List.headD_cons, XE.val, XE.heap, efO, shutArgs, xfoot, footO, V.tops, V.top1, clashOne, noClash, Orc.flat_fcons, Orc.pre_fcons, Orc.v_fcons, Orc.hp_fcons, Orc.qpre_fcons, Orc.qv_fcons, Orc.fpre_fcons, Orc.fes_fcons, Orc.flat_gcons, Orc.pre_gcons, Orc.v_gcons, Orc.hp_gcons, Orc.qpre_gcons, Orc.qv_gcons, Orc.fpre_gcons, Orc.fes_gcons, GSum.pre, GSum.v, GSum.hp, Orc.fpre_cons, Orc.fes_cons, Orc.fpre_econs, Orc.fes_econs, FSum.pre, FSum.v, FSum.hp, fres, O.calls, List.flatMap_cons, List.flatMap_nil, List.contains_cons, List.contains_nil, Bool.not_true, Bool.not_false, Heap.freeze, List.mapIdx_cons, List.mapIdx_nil, List.elem_cons, List.elem_nil, fluP, fluV, evF, bne_iff_ne, ne_eq, Option.some.injEq, go_sem, reduceCtorEq, reduceIte, Nat.reduceEqDiff, Nat.reduceAdd, Nat.reduceSub, Nat.reduceMul, Nat.reduceLT, Nat.reduceLeDiff, Nat.reduceBEq, Int.reduceEq, Int.reduceLT, Int.reduceLE, Int.reduceAdd, Int.reduceSub, Int.reduceNeg, Int.reduceToNat]
      exact ⟨by omega, by omega, ⟨k + 1, ⟨z1, z2, p + 1, t, tn⟩, _⟩, ⟨by dsimp only; omega, by dsimp only; omega, by dsimp only; omega, h4⟩, by dsimp only; omega, ⟨by dsimp only; omega, rfl, rfl, by dsimp only; omega⟩, ⟨rfl, rfl⟩, rfl⟩
    · rw [if_neg c1] at h4
      subst h4
      have c1 := eq_false c1
      simp -implicitDefEqProofs only [f0, f1, hg, htx, c1, hlk, Option.map_some, Option.isSome_some, Tok.enc, nmV, res11_aggN, toks, pps, mget3, Option.getD_some, on_gcall, off_gcall, flat_gcall, wpC_seq_xreg, wpC_xreg, wpXR_nil, wpXR_own, wpXR_flu, xeOK, xe, argTops, openArgs, Orc.ppre_cons, Orc.pr_cons, Orc.ppre_econs, Orc.pr_econs, Orc.ppre_fcons, Orc.pr_fcons, Orc.ppre_gcons, Orc.pr_gcons, List.head?_cons, List.headD_cons, XE.val, XE.heap, efO, shutArgs, xfoot, footO, V.tops, V.top1, clashOne, noClash, Orc.flat_fcons, Orc.pre_fcons, Orc.v_fcons, Orc.hp_fcons, Orc.qpre_fcons, Orc.qv_fcons, Orc.fpre_fcons, Orc.fes_fcons, Orc.flat_gcons, Orc.pre_gcons, Orc.v_gcons, Orc.hp_gcons, Orc.qpre_gcons, Orc.qv_gcons, Orc.fpre_gcons, Orc.fes_gcons, GSum.pre, GSum.v, GSum.hp, Orc.fpre_cons, Orc.fes_cons, Orc.fpre_econs, Orc.fes_econs, FSum.pre, FSum.v, FSum.hp, fres, O.calls, List.flatMap_cons, List.flatMap_nil, List.contains_cons, List.contains_nil, Bool.not_true, Bool.not_false, Heap.freeze, List.mapIdx_cons, List.mapIdx_nil, List.elem_cons, List.elem_nil, fluP, fluV, evF, bne_iff_ne, ne_eq, Option.some.injEq, go_sem, reduceCtorEq, reduceIte, Nat.reduceEqDiff, Nat.reduceAdd, Nat.reduceSub, Nat.reduceMul, Nat.reduceLT, Nat.reduceLeDiff, Nat.reduceBEq, Int.reduceEq, Int.reduceLT, Int.reduceLE, Int.reduceAdd, Int.reduceSub, Int.reduceNeg, Int.reduceToNat]
  | none =>
    by_cases c1 : x.kind = 2
    case neg =>
      rw [if_neg c1] at h4
      subst h4
      have c1 := eq_false c1
      simp -implicitDefEqProofs only [f0, f1, hg, htx, c1, hlk, Option.map_none, Option.getD_none, Option.isSome_none, Tok.enc, nmV, res11_aggN, List.toList_toArray, toks, pps, mget3, Option.getD_some, on_gcall, off_gcall, flat_gcall, wpC_seq_xreg, wpC_xreg, wpXR_nil, wpXR_own, wpXR_flu, xeOK, xe, argTops, openArgs, Orc.ppre_cons, Orc.pr_cons, Orc.ppre_econs, Orc.pr_econs, Orc.ppre_fcons, Orc.pr_fcons, Orc.ppre_gcons, Orc.pr_gcons, List.head?_cons, List.headD_cons, XE.val, XE.heap, efO, shutArgs, xfoot, footO, V.tops, V.top1, clashOne, noClash, Orc.flat_fcons, Orc.pre_fcons, Orc.v_fcons, Orc.hp_fcons, Orc.qpre_fcons, Orc.qv_fcons, Orc.fpre_fcons, Orc.fes_fcons, Orc.flat_gcons, Orc.pre_gcons, Orc.v_gcons, Orc.hp_gcons, Orc.qpre_gcons, Orc.qv_gcons, Orc.fpre_gcons, Orc.fes_gcons, GSum.pre, GSum.v, GSum.hp, Orc.fpre_cons, Orc.fes_cons, Orc.fpre_econs, Orc.fes_econs, FSum.pre, FSum.v, FSum.hp, fres, O.calls, List.flatMap_cons, List.flatMap_nil, List.contains_cons, List.contains_nil, Bool.not_true, Bool.not_false, Heap.freeze, List.mapIdx_cons, List.mapIdx_nil, List.elem_cons, List.elem_nil, fluP, fluV, evF, bne_iff_ne, ne_eq, Option.some.injEq, go_sem, reduceCtorEq, reduceIte, Nat.reduceEqDiff, Nat.reduceAdd, Nat.reduceSub, Nat.reduceMul, Nat.reduceLT, Nat.reduceLeDiff, Nat.reduceBEq, Int.reduceEq, Int.reduceLT, Int.reduceLE, Int.reduceAdd, Int.reduceSub, Int.reduceNeg, Int.reduceToNat]
    rw [if_pos c1, hlk] at h4
    simp only at h4
    have c1 := eq_true c1
    by_cases po : lowB x.text = kPo
    · rw [if_pos (.inl po)] at h4
      have hla : ¬ lowB x.text = kLa := by rw [po]; decide
      rw [decide_eq_false hla] at h4
      have la' := eq_false (show ¬ lowB x.text = ⟨#[108, 97, 110, 100, 115, 99, 97, 112, 101]⟩ from hla)
      have po' := eq_true (show lowB x.text = ⟨#[112, 111, 114, 116, 114, 97, 105, 116]⟩ from po)
      simp -implicitDefEqProofs only [f0, f1, hg, htx, c1, hlk, po', la', Option.map_none, Option.getD_none, Option.isSome_none, Tok.enc, List.toList_toArray, toks, pps, mget3, Option.getD_some, on_gcall, off_gcall, flat_gcall, wpC_seq_xreg, wpC_xreg, wpXR_nil, wpXR_own, wpXR_flu, xeOK, xe, argTops, openArgs, Orc.ppre_cons, Orc.pr_cons, Orc.ppre_econs, Orc.pr_econs, Orc.ppre_fcons, Orc.pr_fcons, Orc.ppre_gcons, Orc.pr_gcons, List.head?_cons, List.headD_cons, XE.val, XE.heap, efO, shutArgs, xfoot, footO, V.tops, V.top1, clashOne, noClash, Orc.flat_fcons, Orc.pre_fcons, Orc.v_fcons, Orc.hp_fcons, Orc.qpre_fcons, Orc.qv_fcons, Orc.fpre_fcons, Orc.fes_fcons, Orc.flat_gcons, Orc.pre_gcons, Orc.v_gcons, Orc.hp_gcons, Orc.qpre_gcons, Orc.qv_gcons, Orc.fpre_gcons, Orc.fes_gcons, GSum.pre, GSum.v, GSum.hp, Orc.fpre_cons, Orc.fes_cons, Orc.fpre_econs, Orc.fes_econs, FSum.pre, FSum.v, FSum.hp, fres, O.calls, List.flatMap_cons, List.flatMap_nil, List.contains_cons, List.contains_nil, Bool.not_true, Bool.not_false, Heap.freeze, List.mapIdx_cons, List.mapIdx_nil, List.elem_cons, List.elem_nil, fluP, fluV, evF, bne_iff_ne, ne_eq, Option.some.injEq, go_sem, reduceCtorEq, reduceIte, Nat.reduceEqDiff, Nat.reduceAdd, Nat.reduceSub, Nat.reduceMul, Nat.reduceLT, Nat.reduceLeDiff, Nat.reduceBEq, Int.reduceEq, Int.reduceLT, Int.reduceLE, Int.reduceAdd, Int.reduceSub, Int.reduceNeg, Int.reduceToNat]
      exact ⟨by omega, by omega, ⟨k + 1, ⟨w, h, p, t + 1, false⟩, _⟩, ⟨by dsimp only; omega, by dsimp only; omega, by dsimp only; omega, h4⟩, by dsimp only; omega, ⟨rfl, by dsimp only; omega, rfl, by dsimp only; omega⟩, ⟨rfl, rfl⟩, rfl⟩
    have po' := eq_false (show ¬ lowB x.text = ⟨#[112, 111, 114, 116, 114, 97, 105, 116]⟩ from po)
    by_cases la : lowB x.text = kLa
    · rw [if_pos (.inr la), decide_eq_true la] at h4
      have la' := eq_true (show lowB x.text = ⟨#[108, 97, 110, 100, 115, 99, 97, 112, 101]⟩ from la)
      simp -implicitDefEqProofs only [f0, f1, hg, htx, c1, hlk, po', la', Option.map_none, Option.getD_none, Option.isSome_none, Tok.enc, List.toList_toArray, toks, pps, mget3, Option.getD_some, on_gcall, off_gcall, flat_gcall, wpC_seq_xreg, wpC_xreg, wpXR_nil, wpXR_own, wpXR_flu, xeOK, xe, argTops, openArgs, Orc.ppre_cons, Orc.pr_cons, Orc.ppre_econs, Orc.pr_econs, Orc.ppre_fcons, Orc.pr_fcons, Orc.ppre_gcons, Orc.pr_gcons, List.head?_cons, List.headD_cons, XE.val, XE.heap, efO, shutArgs, xfoot, footO, V.tops, V.top1, clashOne, noClash, Orc.flat_fcons, Orc.pre_fcons, Orc.v_fcons, Orc.hp_fcons, Orc.qpre_fcons, Orc.qv_fcons, Orc.fpre_fcons, Orc.fes_fcons, Orc.flat_gcons, Orc.pre_gcons, Orc.v_gcons, Orc.hp_gcons, Orc.qpre_gcons, Orc.qv_gcons, Orc.fpre_gcons, Orc.fes_gcons, GSum.pre, GSum.v, GSum.hp, Orc.fpre_cons, Orc.fes_cons, Orc.fpre_econs, Orc.fes_econs, FSum.pre, FSum.v, FSum.hp, fres, O.calls, List.flatMap_cons, List.flatMap_nil, List.contains_cons, List.contains_nil, Bool.not_true, Bool.not_false, Heap.freeze, List.mapIdx_cons, List.mapIdx_nil, List.elem_cons, List.elem_nil, fluP, fluV, evF, bne_iff_ne, ne_eq, Option.some.injEq, go_sem, reduceCtorEq, reduceIte, Nat.reduceEqDiff, Nat.reduceAdd, Nat.reduceSub, Nat.reduceMul, Nat.reduceLT, Nat.reduceLeDiff, Nat.reduceBEq, Int.reduceEq, Int.reduceLT, Int.reduceLE, Int.reduceAdd, Int.reduceSub, Int.reduceNeg, Int.reduceToNat]
      exact ⟨by omega, by omega, ⟨k + 1, ⟨w, h, p, t + 1, true⟩, _⟩, ⟨by dsimp only; omega, by dsimp only; omega, by dsimp only; omega, h4⟩, by dsimp only; omega, ⟨rfl, by dsimp only; omega, rfl, by dsimp only; omega⟩, ⟨rfl, rfl⟩, rfl⟩
    have la' := eq_false (show ¬ lowB x.text = ⟨#[108, 97, 110, 100, 115, 99, 97, 112, 101]⟩ from la)
    rw [if_neg (by rintro (h | h); exact po h; exact la h)] at h4
    by_cases au : lowB x.text = kAu
    · have au' := eq_true (show lowB x.text = ⟨#[97, 117, 116, 111]⟩ from au)
      by_cases ln : 1 < v.length
      · rw [if_neg (by rw [decide_eq_true ln]; simp)] at h4
        subst h4
        have ln := eq_true (show (1 : Int) < (v.length : Int) by omega)
        simp -implicitDefEqProofs only [f0, f1, hg, htx, c1, hlk, po', la', au', ln, Option.map_none, Option.getD_none, Option.isSome_none, Tok.enc, nmV, res11_aggN, List.toList_toArray, toks, pps, mget3, Option.getD_some, on_gcall, off_gcall, flat_gcall, wpC_seq_xreg, wpC_xreg, wpXR_nil, wpXR_own, wpXR_flu, xeOK, xe, argTops, openArgs, Orc.ppre_cons, Orc.pr_cons, Orc.ppre_econs, Orc.pr_econs, Orc.ppre_fcons, Orc.pr_fcons, Orc.ppre_gcons, Orc.pr_gcons, List.head?_cons, List.headD_cons, XE.val, XE.heap, efO, shutArgs, xfoot, footO, V.tops, V.top1, clashOne, noClash, Orc.flat_fcons, Orc.pre_fcons, Orc.v_fcons, Orc.hp_fcons, Orc.qpre_fcons, Orc.qv_fcons, Orc.fpre_fcons, Orc.fes_fcons, Orc.flat_gcons, Orc.pre_gcons, Orc.v_gcons, Orc.hp_gcons, Orc.qpre_gcons, Orc.qv_gcons, Orc.fpre_gcons, Orc.fes_gcons, GSum.pre, GSum.v, GSum.hp, Orc.fpre_cons, Orc.fes_cons, Orc.fpre_econs, Orc.fes_econs, FSum.pre, FSum.v, FSum.hp, fres, O.calls, List.flatMap_cons, List.flatMap_nil, List.contains_cons, List.contains_nil, Bool.not_true, Bool.not_false, Heap.freeze, List.mapIdx_cons, List.mapIdx_nil, List.elem_cons, List.elem_nil, fluP, fluV, evF, bne_iff_ne, ne_eq, Option.some.injEq, go_sem, reduceCtorEq, reduceIte, Nat.reduceEqDiff, Nat.reduceAdd, Nat.reduceSub, Nat.reduceMul, Nat.reduceLT, Nat.reduceLeDiff, Nat.reduceBEq, Int.reduceEq, Int.reduceLT, Int.reduceLE, Int.reduceAdd, Int.reduceSub, Int.reduceNeg, Int.reduceToNat]
      · rw [if_pos ⟨au, decide_eq_false ln⟩] at h4
        have ln := eq_false (show ¬ (1 : Int) < (v.length : Int) by omega)
        simp -implicitDefEqProofs only [f0, f1, hg, htx, c1, hlk, po', la', au', ln, Option.map_none, Option.getD_none, Option.isSome_none, Tok.enc, List.toList_toArray, toks, pps, mget3, Option.getD_some, on_gcall, off_gcall, flat_gcall, wpC_seq_xreg, wpC_xreg, wpXR_nil, wpXR_own, wpXR_flu, xeOK, xe, argTops, openArgs, Orc.ppre_cons, Orc.pr_cons, Orc.ppre_econs, Orc.pr_econs, Orc.ppre_fcons, Orc.pr_fcons, Orc.ppre_gcons, Orc.pr_gcons, List.head?_cons, List.headD_cons, XE.val, XE.heap, efO, shutArgs, xfoot, footO, V.tops, V.top1, clashOne, noClash, Orc.flat_fcons, Orc.pre_fcons, Orc.v_fcons, Orc.hp_fcons, Orc.qpre_fcons, Orc.qv_fcons, Orc.fpre_fcons, Orc.fes_fcons, Orc.flat_gcons, Orc.pre_gcons, Orc.v_gcons, Orc.hp_gcons, Orc.qpre_gcons, Orc.qv_gcons, Orc.fpre_gcons, Orc.fes_gcons, GSum.pre, GSum.v, GSum.hp, Orc.fpre_cons, Orc.fes_cons, Orc.fpre_econs, Orc.fes_econs, FSum.pre, FSum.v, FSum.hp, fres, O.calls, List.flatMap_cons, List.flatMap_nil, List.contains_cons, List.contains_nil, Bool.not_true, Bool.not_false, Heap.freeze, List.mapIdx_cons, List.mapIdx_nil, List.elem_cons, List.elem_nil, fluP, fluV, evF, bne_iff_ne, ne_eq, Option.some.injEq, go_sem, reduceCtorEq, reduceIte, Nat.reduceEqDiff, Nat.reduceAdd, Nat.reduceSub, Nat.reduceMul, Nat.reduceLT, Nat.reduceLeDiff, Nat.reduceBEq, Int.reduceEq, Int.reduceLT, Int.reduceLE, Int.reduceAdd, Int.reduceSub, Int.reduceNeg, Int.reduceToNat]
        exact ⟨by omega, ⟨k + 1, ⟨w, h, p, t, tn⟩, _⟩, ⟨by dsimp only; omega, by dsimp only; omega, by dsimp only; omega, h4⟩, by dsimp only; omega, ⟨rfl, rfl, rfl, by dsimp only; omega⟩, ⟨rfl, rfl⟩, rfl⟩
    · have au' := eq_false (show ¬ lowB x.text = ⟨#[97, 117, 116, 111]⟩ from au)
      rw [if_neg (fun hh => au hh.1)] at h4
      subst h4
      simp -implicitDefEqProofs only [f0, f1, hg, htx, c1, hlk, po', la', au', Option.map_none, Option.getD_none, Option.isSome_none, Tok.enc, nmV, res11_aggN, List.toList_toArray, toks, pps, mget3, Option.getD_some, on_gcall, off_gcall, flat_gcall, wpC_seq_xreg, wpC_xreg, wpXR_nil, wpXR_own, wpXR_flu, xeOK, xe, argTops, openArgs, Orc.ppre_cons, Orc.pr_cons, Orc.ppre_econs, Orc.pr_econs, Orc.ppre_fcons, Orc.pr_fcons, Orc.ppre_gcons, Orc.pr_gcons, List.head?_cons, List.headD_cons, XE.val, XE.heap, efO, shutArgs, xfoot, footO, V.tops, V.top1, clashOne, noClash, Orc.flat_fcons, Orc.pre_fcons, Orc.v_fcons, Orc.hp_fcons, Orc.qpre_fcons, Orc.qv_fcons, Orc.fpre_fcons, Orc.fes_fcons, Orc.flat_gcons, Orc.pre_gcons, Orc.v_gcons, Orc.hp_gcons, Orc.qpre_gcons, Orc.qv_gcons, Orc.fpre_gcons, Orc.fes_gcons, GSum.pre, GSum.v, GSum.hp, Orc.fpre_cons, Orc.fes_cons, Orc.fpre_econs, Orc.fes_econs, FSum.pre, FSum.v, FSum.hp, fres, O.calls, List.flatMap_cons, List.flatMap_nil, List.contains_cons, List.contains_nil, Bool.not_true, Bool.not_false, Heap.freeze, List.mapIdx_cons, List.mapIdx_nil, List.elem_cons, List.elem_nil, fluP, fluV, evF, bne_iff_ne, ne_eq, Option.some.injEq, go_sem, reduceCtorEq, reduceIte, Nat.reduceEqDiff, Nat.reduceAdd, Nat.reduceSub, Nat.reduceMul, Nat.reduceLT, Nat.reduceLeDiff, Nat.reduceBEq, Int.reduceEq, Int.reduceLT, Int.reduceLE, Int.reduceAdd, Int.reduceSub, Int.reduceNeg, Int.reduceToNat]
def sumNam17 : Sum Tryz.prog := ⟨12, fun args => args = [toks (dToks (args.getD 0 .any))] ∧ txtOK (dToks (args.getD 0 .any)), fun args => nmV (nmR (dToks (args.getD 0 .any))), fun args h => by
  have := named17_ok (dToks (args.getD 0 .any)) h.2; rwa [← h.1] at this, false⟩
theorem sumNam17_f : sumNam17.f = 12 := rfl
theorem sumNam17_D (args : List V) : sumNam17.D args = (args = [toks (dToks (args.getD 0 .any))] ∧ txtOK (dToks (args.getD 0 .any))) := rfl
theorem sumNam17_flat : sumNam17.flat = false := rfl
theorem sumNam17_r (args : List V) : sumNam17.r args = nmV (nmR (dToks (args.getD 0 .any))) := rfl
attribute [go_sem] sumNam17_f sumNam17_D sumNam17_flat sumNam17_r
end Go.Proofs.YtilinnmancfjgaaGreatDoor
