/- Layer 7: an item, by the document: its end. -/
import Derived.Test.YtjofgafeaiiegaaV7l
import Derived.Test.YtjofgafeaiiegaaGc
namespace Go.Proofs.Ytjofgafeaiiegaa
open Go.Sx
set_option linter.unusedSimpArgs false
set_option maxHeartbeats 4000000
set_option maxRecDepth 20000

def stW (x : Itm) : List Pa → Itm × Bool
  | [] => (x, decide (0 ≤ x.style))
  | [q] => if q.t.kind = 2 then (⟨x.kind, x.text, x.name, styN q.t.text, x.which⟩, decide (0 ≤ styN q.t.text)) else (.zero, false)
  | _ :: _ :: _ => (.zero, false)
def chW (x : Itm) : List Pa → Itm × Bool
  | [] => (⟨x.kind, x.text, x.name, x.style, 1⟩, true)
  | [q] => if q.t.kind = 2 then (⟨x.kind, x.text, x.name, x.style, whR q.t.text⟩, decide (0 < whR q.t.text)) else (.zero, false)
  | _ :: _ :: _ => (.zero, false)
def itemW (p : Pa) : Itm × Bool :=
  if p.t.kind = 6 then (⟨1, p.t.text, ⟨#[]⟩, 0, 0⟩, true)
  else if p.t.kind = 3 ∧ argsB p = true then
    match argsA p with
    | [] => (.zero, false)
    | a :: l =>
      if namedB a = true then
        if lowP p = wordAttr then (if l = [] then (⟨6, ⟨#[]⟩, a.t.text, 0, 0⟩, true) else (.zero, false))
        else if lowP p = wordCounters then
          (match l with
          | [] => (.zero, false)
          | q :: r => if q.t.kind = 6 then stW ⟨3, q.t.text, a.t.text, 0, 0⟩ r else (.zero, false))
        else if lowP p = wordCounter then stW ⟨2, ⟨#[]⟩, a.t.text, 0, 0⟩ l
        else if lowP p = wordString then chW ⟨4, ⟨#[]⟩, a.t.text, 0, 0⟩ l
        else if lowP p = wordElement then chW ⟨5, ⟨#[]⟩, a.t.text, 0, 0⟩ l
        else (.zero, false)
      else (.zero, false)
  else (.zero, false)
theorem argsW_true {p : Pa} (h : argsB p = true) : argsW p = .tup [pas (argsA p), vb true] := by
  unfold argsW argsA
  rw [if_pos h, h]
theorem argsW_false {p : Pa} (h : argsB p = false) : argsW p = .tup [.slc 4 [], vb false] := by
  unfold argsW
  rw [if_neg (by simp [h]), h]; rfl
structure AtS where
  S : Sum Try.prog
  hf : S.f = 42
  hfl : S.flat = true
  hD : ∀ u, S.D [.slc 1 [[.c (.string ⟨#[102, 105, 114, 115, 116]⟩)], [.c (.string ⟨#[115, 116, 97, 114, 116]⟩)], [.c (.string ⟨#[108, 97, 115, 116]⟩)], [.c (.string ⟨#[102, 105, 114, 115, 116, 45, 101, 120, 99, 101, 112, 116]⟩)]], .c (.string u)]
  hr : ∀ u, S.r [.slc 1 [[.c (.string ⟨#[102, 105, 114, 115, 116]⟩)], [.c (.string ⟨#[115, 116, 97, 114, 116]⟩)], [.c (.string ⟨#[108, 97, 115, 116]⟩)], [.c (.string ⟨#[102, 105, 114, 115, 116, 45, 101, 120, 99, 101, 112, 116]⟩)]], .c (.string u)] = vi (ixS whs u)
theorem atS_ex : Nonempty AtS := ⟨⟨⟨42, fun args => ∃ u, args = [strs whs, vs u], fun args => vi (ixS whs (args.getD 1 .any).str), fun args h' => by
  obtain ⟨u, rfl⟩ := h'
  exact atR_ok whs u (by decide), true⟩, rfl, rfl, fun u => ⟨u, rfl⟩, fun u => rfl⟩⟩
theorem ixS_rng (l : List ByteArray) (x : ByteArray) : -1 ≤ ixS l x ∧ ixS l x ≤ l.length := by
  unfold ixS
  rcases fst_spec (fun i => decide (x = l.getD i ⟨#[]⟩)) (l.length - 0) 0 with ⟨h1, _⟩ | ⟨m, h1, _, h3, _⟩ <;> omega
def tlI : C := c59.body.tl.tl.tl.tl.tl.tl.tl.tl.tl.tl
structure TlE (e : Nat → V) (M : List Pa) (n : Int) (v : Nat) : Prop where
  a : e 2 = .ptr 1 1 0 0
  b : e 4 = .ptr 2 2 0 0
  c : e 5 = .slc 4 (M.map Pa.enc)
  d : e 7 = .ptr 3 v 0 0
  f : e 9 = vi n
def hpI (p : Pa) (x : Itm) (v clk : Nat) : Heap := ⟨[⟨0, 4, [p.enc], false, []⟩, ⟨1, 5, [Itm.zero.enc], false, []⟩, ⟨2, 5, [Itm.zero.enc], false, []⟩, ⟨v, 5, [x.enc], false, []⟩], clk⟩
def QI (R : Itm × Bool) : Post := retQ c59.rs fun v h => res (fun _ => true) h 12 v = some (itR R)
theorem tail_st1 (S : AtS) (p : Pa) (q1 : Pa) (l : List Pa) (kl : okL l) (kd : Int) (tx nx : ByteArray) (hk4 : (4 ≤ kd) = False) (v clk : Nat) (w0 : World) (own0 : Sx.Own) (e : Nat → V) (he : TlE e (q1 :: l) 1 v) :
    wpC ⟨Try.prog, Orc.cons S.S (Orc.cons sumArgsR (Orc.cons sumNmR (Orc.cons sumLwR (Orc.cons sumStyR (Orc.nil _))))), c59.n, w0, own0⟩ tlI (QI (stW ⟨kd, tx, nx, 0, 0⟩ l)) e (hpI p ⟨kd, tx, nx, 0, 0⟩ v clk) := by
  obtain ⟨a, b, c, d, f⟩ := he
  obtain ⟨S, s1, s2, sD, sr⟩ := S
  match l, kl with
  | [], kl =>
    simp only [stW]
    simp only [c59, tlI, QI, hpI, C.tl, a, b, c, d, f, Pa.enc, dPa_mk, Pa.eta', Itm.eta', itR, Itm.enc, Itm.zero, res11_agg, List.map_cons, List.map_nil, hk4,  on_gcall, off_gcall, flat_gcall, wpC_seq_xreg, wpC_xreg, wpXR_nil, wpXR_own, wpXR_flu, xeOK, xe, argTops, openArgs, Orc.ppre_cons, Orc.pr_cons, Orc.ppre_econs, Orc.pr_econs, Orc.ppre_fcons, Orc.pr_fcons, Orc.ppre_gcons, Orc.pr_gcons, List.head?_cons, List.headD_cons, XE.val, XE.heap, efO, shutArgs, xfoot, footO, V.tops, V.top1, clashOne, noClash, Orc.flat_fcons, Orc.pre_fcons, Orc.v_fcons, Orc.hp_fcons, Orc.qpre_fcons, Orc.qv_fcons, Orc.fpre_fcons, Orc.fes_fcons, Orc.flat_gcons, Orc.pre_gcons, Orc.v_gcons, Orc.hp_gcons, Orc.qpre_gcons, Orc.qv_gcons, Orc.fpre_gcons, Orc.fes_gcons, GSum.pre, GSum.v, GSum.hp, Orc.fpre_cons, Orc.fes_cons, Orc.fpre_econs, Orc.fes_econs, FSum.pre, FSum.v, FSum.hp, fres, O.calls, List.flatMap_cons, List.flatMap_nil, List.contains_cons, List.contains_nil, Bool.not_true, Bool.not_false, Heap.freeze, List.mapIdx_cons, List.mapIdx_nil, List.elem_cons, List.elem_nil, fluP, fluV, evF, bne_iff_ne, ne_eq, Option.some.injEq, s1, s2, go_sem, reduceCtorEq, reduceIte, Nat.reduceEqDiff, Nat.reduceAdd, Nat.reduceSub, Nat.reduceMul, Nat.reduceLT, Nat.reduceLeDiff, Nat.reduceBEq, Int.reduceEq, Int.reduceLT, Int.reduceLE, Int.reduceAdd, Int.reduceSub, Int.reduceNeg, Int.reduceToNat]
  | [y], kl =>
    have kb : okP7 y := (okL_tail kl).1
    have kb' : y.t.text.size ≤ 1000000 := kb
    simp only [stW]
    by_cases kb2 : y.t.kind = 2
    · rw [if_pos kb2]
      have kb2t := eq_true kb2
      have kb4 : lowP y = lowB y.t.text := rfl
      simp only [c59, tlI, QI, hpI, C.tl, a, b, c, d, f, Pa.enc, dPa_mk, Pa.eta', Itm.eta', itR, Itm.enc, Itm.zero, res11_agg, List.map_cons, List.map_nil, hk4, kb2t, kb, kb', kb4, sD, sr, whR,  on_gcall, off_gcall, flat_gcall, wpC_seq_xreg, wpC_xreg, wpXR_nil, wpXR_own, wpXR_flu, xeOK, xe, argTops, openArgs, Orc.ppre_cons, Orc.pr_cons, Orc.ppre_econs, Orc.pr_econs, Orc.ppre_fcons, Orc.pr_fcons, Orc.ppre_gcons, Orc.pr_gcons, List.head?_cons, List.headD_cons, XE.val, XE.heap, efO, shutArgs, xfoot, footO, V.tops, V.top1, clashOne, noClash, Orc.flat_fcons, Orc.pre_fcons, Orc.v_fcons, Orc.hp_fcons, Orc.qpre_fcons, Orc.qv_fcons, Orc.fpre_fcons, Orc.fes_fcons, Orc.flat_gcons, Orc.pre_gcons, Orc.v_gcons, Orc.hp_gcons, Orc.qpre_gcons, Orc.qv_gcons, Orc.fpre_gcons, Orc.fes_gcons, GSum.pre, GSum.v, GSum.hp, Orc.fpre_cons, Orc.fes_cons, Orc.fpre_econs, Orc.fes_econs, FSum.pre, FSum.v, FSum.hp, fres, O.calls, List.flatMap_cons, List.flatMap_nil, List.contains_cons, List.contains_nil, Bool.not_true, Bool.not_false, Heap.freeze, List.mapIdx_cons, List.mapIdx_nil, List.elem_cons, List.elem_nil, fluP, fluV, evF, bne_iff_ne, ne_eq, Option.some.injEq, s1, s2, go_sem, reduceCtorEq, reduceIte, Nat.reduceEqDiff, Nat.reduceAdd, Nat.reduceSub, Nat.reduceMul, Nat.reduceLT, Nat.reduceLeDiff, Nat.reduceBEq, Int.reduceEq, Int.reduceLT, Int.reduceLE, Int.reduceAdd, Int.reduceSub, Int.reduceNeg, Int.reduceToNat]
      all_goals (have hix := ixS_rng whs (lowB y.t.text); have hwl : whs.length = 4 := rfl; exact ⟨by omega, rfl⟩)
    · rw [if_neg kb2]
      have kb2t := eq_false kb2
      simp only [c59, tlI, QI, hpI, C.tl, a, b, c, d, f, Pa.enc, dPa_mk, Pa.eta', Itm.eta', itR, Itm.enc, Itm.zero, res11_agg, List.map_cons, List.map_nil, hk4, kb2t, kb, kb',  on_gcall, off_gcall, flat_gcall, wpC_seq_xreg, wpC_xreg, wpXR_nil, wpXR_own, wpXR_flu, xeOK, xe, argTops, openArgs, Orc.ppre_cons, Orc.pr_cons, Orc.ppre_econs, Orc.pr_econs, Orc.ppre_fcons, Orc.pr_fcons, Orc.ppre_gcons, Orc.pr_gcons, List.head?_cons, List.headD_cons, XE.val, XE.heap, efO, shutArgs, xfoot, footO, V.tops, V.top1, clashOne, noClash, Orc.flat_fcons, Orc.pre_fcons, Orc.v_fcons, Orc.hp_fcons, Orc.qpre_fcons, Orc.qv_fcons, Orc.fpre_fcons, Orc.fes_fcons, Orc.flat_gcons, Orc.pre_gcons, Orc.v_gcons, Orc.hp_gcons, Orc.qpre_gcons, Orc.qv_gcons, Orc.fpre_gcons, Orc.fes_gcons, GSum.pre, GSum.v, GSum.hp, Orc.fpre_cons, Orc.fes_cons, Orc.fpre_econs, Orc.fes_econs, FSum.pre, FSum.v, FSum.hp, fres, O.calls, List.flatMap_cons, List.flatMap_nil, List.contains_cons, List.contains_nil, Bool.not_true, Bool.not_false, Heap.freeze, List.mapIdx_cons, List.mapIdx_nil, List.elem_cons, List.elem_nil, fluP, fluV, evF, bne_iff_ne, ne_eq, Option.some.injEq, s1, s2, go_sem, reduceCtorEq, reduceIte, Nat.reduceEqDiff, Nat.reduceAdd, Nat.reduceSub, Nat.reduceMul, Nat.reduceLT, Nat.reduceLeDiff, Nat.reduceBEq, Int.reduceEq, Int.reduceLT, Int.reduceLE, Int.reduceAdd, Int.reduceSub, Int.reduceNeg, Int.reduceToNat]
  | y :: y2 :: r, kl =>
    have hgt : (2 : Int) < ((r.length + 1 + 1 + 1 : Nat) : Int) := by omega
    simp only [stW]
    simp only [c59, tlI, QI, hpI, C.tl, a, b, c, d, f, Pa.enc, dPa_mk, Pa.eta', Itm.eta', itR, Itm.enc, Itm.zero, res11_agg, List.map_cons, List.map_nil, hk4, hgt,  on_gcall, off_gcall, flat_gcall, wpC_seq_xreg, wpC_xreg, wpXR_nil, wpXR_own, wpXR_flu, xeOK, xe, argTops, openArgs, Orc.ppre_cons, Orc.pr_cons, Orc.ppre_econs, Orc.pr_econs, Orc.ppre_fcons, Orc.pr_fcons, Orc.ppre_gcons, Orc.pr_gcons, List.head?_cons, List.headD_cons, XE.val, XE.heap, efO, shutArgs, xfoot, footO, V.tops, V.top1, clashOne, noClash, Orc.flat_fcons, Orc.pre_fcons, Orc.v_fcons, Orc.hp_fcons, Orc.qpre_fcons, Orc.qv_fcons, Orc.fpre_fcons, Orc.fes_fcons, Orc.flat_gcons, Orc.pre_gcons, Orc.v_gcons, Orc.hp_gcons, Orc.qpre_gcons, Orc.qv_gcons, Orc.fpre_gcons, Orc.fes_gcons, GSum.pre, GSum.v, GSum.hp, Orc.fpre_cons, Orc.fes_cons, Orc.fpre_econs, Orc.fes_econs, FSum.pre, FSum.v, FSum.hp, fres, O.calls, List.flatMap_cons, List.flatMap_nil, List.contains_cons, List.contains_nil, Bool.not_true, Bool.not_false, Heap.freeze, List.mapIdx_cons, List.mapIdx_nil, List.elem_cons, List.elem_nil, fluP, fluV, evF, bne_iff_ne, ne_eq, Option.some.injEq, s1, s2, go_sem, reduceCtorEq, reduceIte, Nat.reduceEqDiff, Nat.reduceAdd, Nat.reduceSub, Nat.reduceMul, Nat.reduceLT, Nat.reduceLeDiff, Nat.reduceBEq, Int.reduceEq, Int.reduceLT, Int.reduceLE, Int.reduceAdd, Int.reduceSub, Int.reduceNeg, Int.reduceToNat]
theorem tail_st2 (S : AtS) (p : Pa) (q1 q2 : Pa) (l : List Pa) (kl : okL l) (kd : Int) (tx nx : ByteArray) (hk4 : (4 ≤ kd) = False) (v clk : Nat) (w0 : World) (own0 : Sx.Own) (e : Nat → V) (he : TlE e (q1 :: q2 :: l) 2 v) :
    wpC ⟨Try.prog, Orc.cons S.S (Orc.cons sumArgsR (Orc.cons sumNmR (Orc.cons sumLwR (Orc.cons sumStyR (Orc.nil _))))), c59.n, w0, own0⟩ tlI (QI (stW ⟨kd, tx, nx, 0, 0⟩ l)) e (hpI p ⟨kd, tx, nx, 0, 0⟩ v clk) := by
  obtain ⟨a, b, c, d, f⟩ := he
  obtain ⟨S, s1, s2, sD, sr⟩ := S
  match l, kl with
  | [], kl =>
    simp only [stW]
    simp only [c59, tlI, QI, hpI, C.tl, a, b, c, d, f, Pa.enc, dPa_mk, Pa.eta', Itm.eta', itR, Itm.enc, Itm.zero, res11_agg, List.map_cons, List.map_nil, hk4,  on_gcall, off_gcall, flat_gcall, wpC_seq_xreg, wpC_xreg, wpXR_nil, wpXR_own, wpXR_flu, xeOK, xe, argTops, openArgs, Orc.ppre_cons, Orc.pr_cons, Orc.ppre_econs, Orc.pr_econs, Orc.ppre_fcons, Orc.pr_fcons, Orc.ppre_gcons, Orc.pr_gcons, List.head?_cons, List.headD_cons, XE.val, XE.heap, efO, shutArgs, xfoot, footO, V.tops, V.top1, clashOne, noClash, Orc.flat_fcons, Orc.pre_fcons, Orc.v_fcons, Orc.hp_fcons, Orc.qpre_fcons, Orc.qv_fcons, Orc.fpre_fcons, Orc.fes_fcons, Orc.flat_gcons, Orc.pre_gcons, Orc.v_gcons, Orc.hp_gcons, Orc.qpre_gcons, Orc.qv_gcons, Orc.fpre_gcons, Orc.fes_gcons, GSum.pre, GSum.v, GSum.hp, Orc.fpre_cons, Orc.fes_cons, Orc.fpre_econs, Orc.fes_econs, FSum.pre, FSum.v, FSum.hp, fres, O.calls, List.flatMap_cons, List.flatMap_nil, List.contains_cons, List.contains_nil, Bool.not_true, Bool.not_false, Heap.freeze, List.mapIdx_cons, List.mapIdx_nil, List.elem_cons, List.elem_nil, fluP, fluV, evF, bne_iff_ne, ne_eq, Option.some.injEq, s1, s2, go_sem, reduceCtorEq, reduceIte, Nat.reduceEqDiff, Nat.reduceAdd, Nat.reduceSub, Nat.reduceMul, Nat.reduceLT, Nat.reduceLeDiff, Nat.reduceBEq, Int.reduceEq, Int.reduceLT, Int.reduceLE, Int.reduceAdd, Int.reduceSub, Int.reduceNeg, Int.reduceToNat]
  | [y], kl =>
    have kb : okP7 y := (okL_tail kl).1
    have kb' : y.t.text.size ≤ 1000000 := kb
    simp only [stW]
    by_cases kb2 : y.t.kind = 2
    · rw [if_pos kb2]
      have kb2t := eq_true kb2
      have kb4 : lowP y = lowB y.t.text := rfl
      simp only [c59, tlI, QI, hpI, C.tl, a, b, c, d, f, Pa.enc, dPa_mk, Pa.eta', Itm.eta', itR, Itm.enc, Itm.zero, res11_agg, List.map_cons, List.map_nil, hk4, kb2t, kb, kb', kb4, sD, sr, whR,  on_gcall, off_gcall, flat_gcall, wpC_seq_xreg, wpC_xreg, wpXR_nil, wpXR_own, wpXR_flu, xeOK, xe, argTops, openArgs, Orc.ppre_cons, Orc.pr_cons, Orc.ppre_econs, Orc.pr_econs, Orc.ppre_fcons, Orc.pr_fcons, Orc.ppre_gcons, Orc.pr_gcons, List.head?_cons, List.headD_cons, XE.val, XE.heap, efO, shutArgs, xfoot, footO, V.tops, V.top1, clashOne, noClash, Orc.flat_fcons, Orc.pre_fcons, Orc.v_fcons, Orc.hp_fcons, Orc.qpre_fcons, Orc.qv_fcons, Orc.fpre_fcons, Orc.fes_fcons, Orc.flat_gcons, Orc.pre_gcons, Orc.v_gcons, Orc.hp_gcons, Orc.qpre_gcons, Orc.qv_gcons, Orc.fpre_gcons, Orc.fes_gcons, GSum.pre, GSum.v, GSum.hp, Orc.fpre_cons, Orc.fes_cons, Orc.fpre_econs, Orc.fes_econs, FSum.pre, FSum.v, FSum.hp, fres, O.calls, List.flatMap_cons, List.flatMap_nil, List.contains_cons, List.contains_nil, Bool.not_true, Bool.not_false, Heap.freeze, List.mapIdx_cons, List.mapIdx_nil, List.elem_cons, List.elem_nil, fluP, fluV, evF, bne_iff_ne, ne_eq, Option.some.injEq, s1, s2, go_sem, reduceCtorEq, reduceIte, Nat.reduceEqDiff, Nat.reduceAdd, Nat.reduceSub, Nat.reduceMul, Nat.reduceLT, Nat.reduceLeDiff, Nat.reduceBEq, Int.reduceEq, Int.reduceLT, Int.reduceLE, Int.reduceAdd, Int.reduceSub, Int.reduceNeg, Int.reduceToNat]
      all_goals (have hix := ixS_rng whs (lowB y.t.text); have hwl : whs.length = 4 := rfl; exact ⟨by omega, rfl⟩)
    · rw [if_neg kb2]
      have kb2t := eq_false kb2
      simp only [c59, tlI, QI, hpI, C.tl, a, b, c, d, f, Pa.enc, dPa_mk, Pa.eta', Itm.eta', itR, Itm.enc, Itm.zero, res11_agg, List.map_cons, List.map_nil, hk4, kb2t, kb, kb',  on_gcall, off_gcall, flat_gcall, wpC_seq_xreg, wpC_xreg, wpXR_nil, wpXR_own, wpXR_flu, xeOK, xe, argTops, openArgs, Orc.ppre_cons, Orc.pr_cons, Orc.ppre_econs, Orc.pr_econs, Orc.ppre_fcons, Orc.pr_fcons, Orc.ppre_gcons, Orc.pr_gcons, List.head?_cons, List.headD_cons, XE.val, XE.heap, efO, shutArgs, xfoot, footO, V.tops, V.top1, clashOne, noClash, Orc.flat_fcons, Orc.pre_fcons, Orc.v_fcons, Orc.hp_fcons, Orc.qpre_fcons, Orc.qv_fcons, Orc.fpre_fcons, Orc.fes_fcons, Orc.flat_gcons, Orc.pre_gcons, Orc.v_gcons, Orc.hp_gcons, Orc.qpre_gcons, Orc.qv_gcons, Orc.fpre_gcons, Orc.fes_gcons, GSum.pre, GSum.v, GSum.hp, Orc.fpre_cons, Orc.fes_cons, Orc.fpre_econs, Orc.fes_econs, FSum.pre, FSum.v, FSum.hp, fres, O.calls, List.flatMap_cons, List.flatMap_nil, List.contains_cons, List.contains_nil, Bool.not_true, Bool.not_false, Heap.freeze, List.mapIdx_cons, List.mapIdx_nil, List.elem_cons, List.elem_nil, fluP, fluV, evF, bne_iff_ne, ne_eq, Option.some.injEq, s1, s2, go_sem, reduceCtorEq, reduceIte, Nat.reduceEqDiff, Nat.reduceAdd, Nat.reduceSub, Nat.reduceMul, Nat.reduceLT, Nat.reduceLeDiff, Nat.reduceBEq, Int.reduceEq, Int.reduceLT, Int.reduceLE, Int.reduceAdd, Int.reduceSub, Int.reduceNeg, Int.reduceToNat]
  | y :: y2 :: r, kl =>
    have hgt : (3 : Int) < ((r.length + 1 + 1 + 1 + 1 : Nat) : Int) := by omega
    simp only [stW]
    simp only [c59, tlI, QI, hpI, C.tl, a, b, c, d, f, Pa.enc, dPa_mk, Pa.eta', Itm.eta', itR, Itm.enc, Itm.zero, res11_agg, List.map_cons, List.map_nil, hk4, hgt,  on_gcall, off_gcall, flat_gcall, wpC_seq_xreg, wpC_xreg, wpXR_nil, wpXR_own, wpXR_flu, xeOK, xe, argTops, openArgs, Orc.ppre_cons, Orc.pr_cons, Orc.ppre_econs, Orc.pr_econs, Orc.ppre_fcons, Orc.pr_fcons, Orc.ppre_gcons, Orc.pr_gcons, List.head?_cons, List.headD_cons, XE.val, XE.heap, efO, shutArgs, xfoot, footO, V.tops, V.top1, clashOne, noClash, Orc.flat_fcons, Orc.pre_fcons, Orc.v_fcons, Orc.hp_fcons, Orc.qpre_fcons, Orc.qv_fcons, Orc.fpre_fcons, Orc.fes_fcons, Orc.flat_gcons, Orc.pre_gcons, Orc.v_gcons, Orc.hp_gcons, Orc.qpre_gcons, Orc.qv_gcons, Orc.fpre_gcons, Orc.fes_gcons, GSum.pre, GSum.v, GSum.hp, Orc.fpre_cons, Orc.fes_cons, Orc.fpre_econs, Orc.fes_econs, FSum.pre, FSum.v, FSum.hp, fres, O.calls, List.flatMap_cons, List.flatMap_nil, List.contains_cons, List.contains_nil, Bool.not_true, Bool.not_false, Heap.freeze, List.mapIdx_cons, List.mapIdx_nil, List.elem_cons, List.elem_nil, fluP, fluV, evF, bne_iff_ne, ne_eq, Option.some.injEq, s1, s2, go_sem, reduceCtorEq, reduceIte, Nat.reduceEqDiff, Nat.reduceAdd, Nat.reduceSub, Nat.reduceMul, Nat.reduceLT, Nat.reduceLeDiff, Nat.reduceBEq, Int.reduceEq, Int.reduceLT, Int.reduceLE, Int.reduceAdd, Int.reduceSub, Int.reduceNeg, Int.reduceToNat]
theorem tail_ch1 (S : AtS) (p : Pa) (q1 : Pa) (l : List Pa) (kl : okL l) (kd : Int) (tx nx : ByteArray) (hk4 : (4 ≤ kd) = True) (v clk : Nat) (w0 : World) (own0 : Sx.Own) (e : Nat → V) (he : TlE e (q1 :: l) 1 v) :
    wpC ⟨Try.prog, Orc.cons S.S (Orc.cons sumArgsR (Orc.cons sumNmR (Orc.cons sumLwR (Orc.cons sumStyR (Orc.nil _))))), c59.n, w0, own0⟩ tlI (QI (chW ⟨kd, tx, nx, 0, 0⟩ l)) e (hpI p ⟨kd, tx, nx, 0, 0⟩ v clk) := by
  obtain ⟨a, b, c, d, f⟩ := he
  obtain ⟨S, s1, s2, sD, sr⟩ := S
  match l, kl with
  | [], kl =>
    simp only [chW]
    simp only [c59, tlI, QI, hpI, C.tl, a, b, c, d, f, Pa.enc, dPa_mk, Pa.eta', Itm.eta', itR, Itm.enc, Itm.zero, res11_agg, List.map_cons, List.map_nil, hk4,  on_gcall, off_gcall, flat_gcall, wpC_seq_xreg, wpC_xreg, wpXR_nil, wpXR_own, wpXR_flu, xeOK, xe, argTops, openArgs, Orc.ppre_cons, Orc.pr_cons, Orc.ppre_econs, Orc.pr_econs, Orc.ppre_fcons, Orc.pr_fcons, Orc.ppre_gcons, Orc.pr_gcons, List.head?_cons, List.headD_cons, XE.val, XE.heap, efO, shutArgs, xfoot, footO, V.tops, V.top1, clashOne, noClash, Orc.flat_fcons, Orc.pre_fcons, Orc.v_fcons, Orc.hp_fcons, Orc.qpre_fcons, Orc.qv_fcons, Orc.fpre_fcons, Orc.fes_fcons, Orc.flat_gcons, Orc.pre_gcons, Orc.v_gcons, Orc.hp_gcons, Orc.qpre_gcons, Orc.qv_gcons, Orc.fpre_gcons, Orc.fes_gcons, GSum.pre, GSum.v, GSum.hp, Orc.fpre_cons, Orc.fes_cons, Orc.fpre_econs, Orc.fes_econs, FSum.pre, FSum.v, FSum.hp, fres, O.calls, List.flatMap_cons, List.flatMap_nil, List.contains_cons, List.contains_nil, Bool.not_true, Bool.not_false, Heap.freeze, List.mapIdx_cons, List.mapIdx_nil, List.elem_cons, List.elem_nil, fluP, fluV, evF, bne_iff_ne, ne_eq, Option.some.injEq, s1, s2, go_sem, reduceCtorEq, reduceIte, Nat.reduceEqDiff, Nat.reduceAdd, Nat.reduceSub, Nat.reduceMul, Nat.reduceLT, Nat.reduceLeDiff, Nat.reduceBEq, Int.reduceEq, Int.reduceLT, Int.reduceLE, Int.reduceAdd, Int.reduceSub, Int.reduceNeg, Int.reduceToNat]
  | [y], kl =>
    have kb : okP7 y := (okL_tail kl).1
    have kb' : y.t.text.size ≤ 1000000 := kb
    simp only [chW]
    by_cases kb2 : y.t.kind = 2
    · rw [if_pos kb2]
      have kb2t := eq_true kb2
      have kb4 : lowP y = lowB y.t.text := rfl
      simp only [c59, tlI, QI, hpI, C.tl, a, b, c, d, f, Pa.enc, dPa_mk, Pa.eta', Itm.eta', itR, Itm.enc, Itm.zero, res11_agg, List.map_cons, List.map_nil, hk4, kb2t, kb, kb', kb4, sD, sr, whR,  on_gcall, off_gcall, flat_gcall, wpC_seq_xreg, wpC_xreg, wpXR_nil, wpXR_own, wpXR_flu, xeOK, xe, argTops, openArgs, Orc.ppre_cons, Orc.pr_cons, Orc.ppre_econs, Orc.pr_econs, Orc.ppre_fcons, Orc.pr_fcons, Orc.ppre_gcons, Orc.pr_gcons, List.head?_cons, List.headD_cons, XE.val, XE.heap, efO, shutArgs, xfoot, footO, V.tops, V.top1, clashOne, noClash, Orc.flat_fcons, Orc.pre_fcons, Orc.v_fcons, Orc.hp_fcons, Orc.qpre_fcons, Orc.qv_fcons, Orc.fpre_fcons, Orc.fes_fcons, Orc.flat_gcons, Orc.pre_gcons, Orc.v_gcons, Orc.hp_gcons, Orc.qpre_gcons, Orc.qv_gcons, Orc.fpre_gcons, Orc.fes_gcons, GSum.pre, GSum.v, GSum.hp, Orc.fpre_cons, Orc.fes_cons, Orc.fpre_econs, Orc.fes_econs, FSum.pre, FSum.v, FSum.hp, fres, O.calls, List.flatMap_cons, List.flatMap_nil, List.contains_cons, List.contains_nil, Bool.not_true, Bool.not_false, Heap.freeze, List.mapIdx_cons, List.mapIdx_nil, List.elem_cons, List.elem_nil, fluP, fluV, evF, bne_iff_ne, ne_eq, Option.some.injEq, s1, s2, go_sem, reduceCtorEq, reduceIte, Nat.reduceEqDiff, Nat.reduceAdd, Nat.reduceSub, Nat.reduceMul, Nat.reduceLT, Nat.reduceLeDiff, Nat.reduceBEq, Int.reduceEq, Int.reduceLT, Int.reduceLE, Int.reduceAdd, Int.reduceSub, Int.reduceNeg, Int.reduceToNat]
      all_goals (have hix := ixS_rng whs (lowB y.t.text); have hwl : whs.length = 4 := rfl; exact ⟨by omega, rfl⟩)
    · rw [if_neg kb2]
      have kb2t := eq_false kb2
      simp only [c59, tlI, QI, hpI, C.tl, a, b, c, d, f, Pa.enc, dPa_mk, Pa.eta', Itm.eta', itR, Itm.enc, Itm.zero, res11_agg, List.map_cons, List.map_nil, hk4, kb2t, kb, kb',  on_gcall, off_gcall, flat_gcall, wpC_seq_xreg, wpC_xreg, wpXR_nil, wpXR_own, wpXR_flu, xeOK, xe, argTops, openArgs, Orc.ppre_cons, Orc.pr_cons, Orc.ppre_econs, Orc.pr_econs, Orc.ppre_fcons, Orc.pr_fcons, Orc.ppre_gcons, Orc.pr_gcons, List.head?_cons, List.headD_cons, XE.val, XE.heap, efO, shutArgs, xfoot, footO, V.tops, V.top1, clashOne, noClash, Orc.flat_fcons, Orc.pre_fcons, Orc.v_fcons, Orc.hp_fcons, Orc.qpre_fcons, Orc.qv_fcons, Orc.fpre_fcons, Orc.fes_fcons, Orc.flat_gcons, Orc.pre_gcons, Orc.v_gcons, Orc.hp_gcons, Orc.qpre_gcons, Orc.qv_gcons, Orc.fpre_gcons, Orc.fes_gcons, GSum.pre, GSum.v, GSum.hp, Orc.fpre_cons, Orc.fes_cons, Orc.fpre_econs, Orc.fes_econs, FSum.pre, FSum.v, FSum.hp, fres, O.calls, List.flatMap_cons, List.flatMap_nil, List.contains_cons, List.contains_nil, Bool.not_true, Bool.not_false, Heap.freeze, List.mapIdx_cons, List.mapIdx_nil, List.elem_cons, List.elem_nil, fluP, fluV, evF, bne_iff_ne, ne_eq, Option.some.injEq, s1, s2, go_sem, reduceCtorEq, reduceIte, Nat.reduceEqDiff, Nat.reduceAdd, Nat.reduceSub, Nat.reduceMul, Nat.reduceLT, Nat.reduceLeDiff, Nat.reduceBEq, Int.reduceEq, Int.reduceLT, Int.reduceLE, Int.reduceAdd, Int.reduceSub, Int.reduceNeg, Int.reduceToNat]
  | y :: y2 :: r, kl =>
    have hgt : (2 : Int) < ((r.length + 1 + 1 + 1 : Nat) : Int) := by omega
    simp only [chW]
    simp only [c59, tlI, QI, hpI, C.tl, a, b, c, d, f, Pa.enc, dPa_mk, Pa.eta', Itm.eta', itR, Itm.enc, Itm.zero, res11_agg, List.map_cons, List.map_nil, hk4, hgt,  on_gcall, off_gcall, flat_gcall, wpC_seq_xreg, wpC_xreg, wpXR_nil, wpXR_own, wpXR_flu, xeOK, xe, argTops, openArgs, Orc.ppre_cons, Orc.pr_cons, Orc.ppre_econs, Orc.pr_econs, Orc.ppre_fcons, Orc.pr_fcons, Orc.ppre_gcons, Orc.pr_gcons, List.head?_cons, List.headD_cons, XE.val, XE.heap, efO, shutArgs, xfoot, footO, V.tops, V.top1, clashOne, noClash, Orc.flat_fcons, Orc.pre_fcons, Orc.v_fcons, Orc.hp_fcons, Orc.qpre_fcons, Orc.qv_fcons, Orc.fpre_fcons, Orc.fes_fcons, Orc.flat_gcons, Orc.pre_gcons, Orc.v_gcons, Orc.hp_gcons, Orc.qpre_gcons, Orc.qv_gcons, Orc.fpre_gcons, Orc.fes_gcons, GSum.pre, GSum.v, GSum.hp, Orc.fpre_cons, Orc.fes_cons, Orc.fpre_econs, Orc.fes_econs, FSum.pre, FSum.v, FSum.hp, fres, O.calls, List.flatMap_cons, List.flatMap_nil, List.contains_cons, List.contains_nil, Bool.not_true, Bool.not_false, Heap.freeze, List.mapIdx_cons, List.mapIdx_nil, List.elem_cons, List.elem_nil, fluP, fluV, evF, bne_iff_ne, ne_eq, Option.some.injEq, s1, s2, go_sem, reduceCtorEq, reduceIte, Nat.reduceEqDiff, Nat.reduceAdd, Nat.reduceSub, Nat.reduceMul, Nat.reduceLT, Nat.reduceLeDiff, Nat.reduceBEq, Int.reduceEq, Int.reduceLT, Int.reduceLE, Int.reduceAdd, Int.reduceSub, Int.reduceNeg, Int.reduceToNat]
end Go.Proofs.Ytjofgafeaiiegaa
