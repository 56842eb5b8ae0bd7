/- Layer 8: simple selectors, selectors and lists in any tokens. -/
import Derived.Test.YtlcblcjpebabkaaC8j
import Derived.Test.YtlcblcjpebabkaaC8g
import Derived.Test.YtlcblcjpebabkaaC8c
section
namespace Go.Proofs.Ytlcblcjpebabkaa
open Go.Sx
set_option linter.unusedSimpArgs false
set_option linter.unusedVariables false
set_option maxHeartbeats 8000000
set_option maxRecDepth 100000

theorem dlm_kind {v : List Tok} {k : Nat} {w : ByteArray} (h : (v.getD k .zero).kind ≠ 11) : dlm v k w = false := decide_eq_false fun hh => h hh.2.1
end Go.Proofs.Ytlcblcjpebabkaa
end
section
namespace Go.Proofs.Ytlcblcjpebabkaa
open Go.Sx
set_option linter.unusedSimpArgs false
set_option linter.unusedVariables false
set_option maxHeartbeats 8000000
set_option maxRecDepth 100000

def tOp : Tok := ⟨12, ⟨#[91]⟩, 0⟩
def tCl : Tok := ⟨13, ⟨#[93]⟩, 0⟩
def tDl (w : ByteArray) : Tok := ⟨11, w, 0⟩
def tId (w : ByteArray) : Tok := ⟨2, w, 0⟩
def wrt (s : Smp) : List Tok :=
  if s.kind = 1 then [tDl ⟨#[42]⟩] else if s.kind = 3 then [⟨5, s.text, 0⟩] else if s.kind = 4 then [tDl ⟨#[46]⟩, tId s.text]
  else if s.kind = 5 then [tOp, tId s.text, tCl] else if s.kind = 6 then [tOp, tId s.text, tDl ⟨#[61]⟩, ⟨6, s.val, 0⟩, tCl] else [tId s.text]
theorem written_ok (s : Smp) : PCall Try.prog 32 [.agg s.enc] (toks (wrt s)) := by
  refine PCall.of (Orc.nil _) c32_ok (by simp [c32]) fun w0 own0 => ?_
  obtain ⟨k, t, v⟩ := s
  unfold wrt
  simp only
  by_cases h1 : k = 1
  · rw [if_pos h1]; have h1 := eq_true h1
    simp -implicitDefEqProofs only [c32, Smp.enc, toks, h1, tOp, tCl, tDl, tId, Tok.enc, List.map_cons, List.map_nil, on_gcall, off_gcall, flat_gcall, wpC_seq_xreg, wpC_xreg, wpXR_nil, wpXR_own, wpXR_flu, xeOK, xe, argTops, openArgs, Orc.ppre_cons, Orc.pr_cons, Orc.ppre_econs, Orc.pr_econs, Orc.ppre_fcons, Orc.pr_fcons, Orc.ppre_gcons, Orc.pr_gcons, List.head?_cons, List.headD_cons, XE.val, XE.heap, efO, shutArgs, xfoot, footO, V.tops, V.top1, clashOne, noClash, Orc.flat_fcons, Orc.pre_fcons, Orc.v_fcons, Orc.hp_fcons, Orc.qpre_fcons, Orc.qv_fcons, Orc.fpre_fcons, Orc.fes_fcons, Orc.flat_gcons, Orc.pre_gcons, Orc.v_gcons, Orc.hp_gcons, Orc.qpre_gcons, Orc.qv_gcons, Orc.fpre_gcons, Orc.fes_gcons, GSum.pre, GSum.v, GSum.hp, Orc.fpre_cons, Orc.fes_cons, Orc.fpre_econs, Orc.fes_econs, FSum.pre, FSum.v, FSum.hp, fres, O.calls, List.flatMap_cons, List.flatMap_nil, List.contains_cons, List.contains_nil, Bool.not_true, Bool.not_false, Heap.freeze, List.mapIdx_cons, List.mapIdx_nil, List.elem_cons, List.elem_nil, fluP, fluV, evF, bne_iff_ne, ne_eq, Option.some.injEq, go_sem, reduceCtorEq, reduceIte, Nat.reduceEqDiff, Nat.reduceAdd, Nat.reduceSub, Nat.reduceMul, Nat.reduceLT, Nat.reduceLeDiff, Nat.reduceBEq, Int.reduceEq, Int.reduceLT, Int.reduceLE, Int.reduceAdd, Int.reduceSub, Int.reduceNeg, Int.reduceToNat]
  rw [if_neg h1]
  by_cases h3 : k = 3
  · rw [if_pos h3]; have h1 := eq_false h1; have h3 := eq_true h3
    simp -implicitDefEqProofs only [c32, Smp.enc, toks, h1, h3, tOp, tCl, tDl, tId, Tok.enc, List.map_cons, List.map_nil, on_gcall, off_gcall, flat_gcall, wpC_seq_xreg, wpC_xreg, wpXR_nil, wpXR_own, wpXR_flu, xeOK, xe, argTops, openArgs, Orc.ppre_cons, Orc.pr_cons, Orc.ppre_econs, Orc.pr_econs, Orc.ppre_fcons, Orc.pr_fcons, Orc.ppre_gcons, Orc.pr_gcons, List.head?_cons, List.headD_cons, XE.val, XE.heap, efO, shutArgs, xfoot, footO, V.tops, V.top1, clashOne, noClash, Orc.flat_fcons, Orc.pre_fcons, Orc.v_fcons, Orc.hp_fcons, Orc.qpre_fcons, Orc.qv_fcons, Orc.fpre_fcons, Orc.fes_fcons, Orc.flat_gcons, Orc.pre_gcons, Orc.v_gcons, Orc.hp_gcons, Orc.qpre_gcons, Orc.qv_gcons, Orc.fpre_gcons, Orc.fes_gcons, GSum.pre, GSum.v, GSum.hp, Orc.fpre_cons, Orc.fes_cons, Orc.fpre_econs, Orc.fes_econs, FSum.pre, FSum.v, FSum.hp, fres, O.calls, List.flatMap_cons, List.flatMap_nil, List.contains_cons, List.contains_nil, Bool.not_true, Bool.not_false, Heap.freeze, List.mapIdx_cons, List.mapIdx_nil, List.elem_cons, List.elem_nil, fluP, fluV, evF, bne_iff_ne, ne_eq, Option.some.injEq, go_sem, reduceCtorEq, reduceIte, Nat.reduceEqDiff, Nat.reduceAdd, Nat.reduceSub, Nat.reduceMul, Nat.reduceLT, Nat.reduceLeDiff, Nat.reduceBEq, Int.reduceEq, Int.reduceLT, Int.reduceLE, Int.reduceAdd, Int.reduceSub, Int.reduceNeg, Int.reduceToNat]
  rw [if_neg h3]
  by_cases h4 : k = 4
  · rw [if_pos h4]; have h1 := eq_false h1; have h3 := eq_false h3; have h4 := eq_true h4
    simp -implicitDefEqProofs only [c32, Smp.enc, toks, h1, h3, h4, tOp, tCl, tDl, tId, Tok.enc, List.map_cons, List.map_nil, on_gcall, off_gcall, flat_gcall, wpC_seq_xreg, wpC_xreg, wpXR_nil, wpXR_own, wpXR_flu, xeOK, xe, argTops, openArgs, Orc.ppre_cons, Orc.pr_cons, Orc.ppre_econs, Orc.pr_econs, Orc.ppre_fcons, Orc.pr_fcons, Orc.ppre_gcons, Orc.pr_gcons, List.head?_cons, List.headD_cons, XE.val, XE.heap, efO, shutArgs, xfoot, footO, V.tops, V.top1, clashOne, noClash, Orc.flat_fcons, Orc.pre_fcons, Orc.v_fcons, Orc.hp_fcons, Orc.qpre_fcons, Orc.qv_fcons, Orc.fpre_fcons, Orc.fes_fcons, Orc.flat_gcons, Orc.pre_gcons, Orc.v_gcons, Orc.hp_gcons, Orc.qpre_gcons, Orc.qv_gcons, Orc.fpre_gcons, Orc.fes_gcons, GSum.pre, GSum.v, GSum.hp, Orc.fpre_cons, Orc.fes_cons, Orc.fpre_econs, Orc.fes_econs, FSum.pre, FSum.v, FSum.hp, fres, O.calls, List.flatMap_cons, List.flatMap_nil, List.contains_cons, List.contains_nil, Bool.not_true, Bool.not_false, Heap.freeze, List.mapIdx_cons, List.mapIdx_nil, List.elem_cons, List.elem_nil, fluP, fluV, evF, bne_iff_ne, ne_eq, Option.some.injEq, go_sem, reduceCtorEq, reduceIte, Nat.reduceEqDiff, Nat.reduceAdd, Nat.reduceSub, Nat.reduceMul, Nat.reduceLT, Nat.reduceLeDiff, Nat.reduceBEq, Int.reduceEq, Int.reduceLT, Int.reduceLE, Int.reduceAdd, Int.reduceSub, Int.reduceNeg, Int.reduceToNat]
  rw [if_neg h4]
  by_cases h5 : k = 5
  · rw [if_pos h5]; have h1 := eq_false h1; have h3 := eq_false h3; have h4 := eq_false h4; have h5 := eq_true h5
    simp -implicitDefEqProofs only [c32, Smp.enc, toks, h1, h3, h4, h5, tOp, tCl, tDl, tId, Tok.enc, List.map_cons, List.map_nil, on_gcall, off_gcall, flat_gcall, wpC_seq_xreg, wpC_xreg, wpXR_nil, wpXR_own, wpXR_flu, xeOK, xe, argTops, openArgs, Orc.ppre_cons, Orc.pr_cons, Orc.ppre_econs, Orc.pr_econs, Orc.ppre_fcons, Orc.pr_fcons, Orc.ppre_gcons, Orc.pr_gcons, List.head?_cons, List.headD_cons, XE.val, XE.heap, efO, shutArgs, xfoot, footO, V.tops, V.top1, clashOne, noClash, Orc.flat_fcons, Orc.pre_fcons, Orc.v_fcons, Orc.hp_fcons, Orc.qpre_fcons, Orc.qv_fcons, Orc.fpre_fcons, Orc.fes_fcons, Orc.flat_gcons, Orc.pre_gcons, Orc.v_gcons, Orc.hp_gcons, Orc.qpre_gcons, Orc.qv_gcons, Orc.fpre_gcons, Orc.fes_gcons, GSum.pre, GSum.v, GSum.hp, Orc.fpre_cons, Orc.fes_cons, Orc.fpre_econs, Orc.fes_econs, FSum.pre, FSum.v, FSum.hp, fres, O.calls, List.flatMap_cons, List.flatMap_nil, List.contains_cons, List.contains_nil, Bool.not_true, Bool.not_false, Heap.freeze, List.mapIdx_cons, List.mapIdx_nil, List.elem_cons, List.elem_nil, fluP, fluV, evF, bne_iff_ne, ne_eq, Option.some.injEq, go_sem, reduceCtorEq, reduceIte, Nat.reduceEqDiff, Nat.reduceAdd, Nat.reduceSub, Nat.reduceMul, Nat.reduceLT, Nat.reduceLeDiff, Nat.reduceBEq, Int.reduceEq, Int.reduceLT, Int.reduceLE, Int.reduceAdd, Int.reduceSub, Int.reduceNeg, Int.reduceToNat]
  rw [if_neg h5]
  by_cases h6 : k = 6
  · rw [if_pos h6]; have h1 := eq_false h1; have h3 := eq_false h3; have h4 := eq_false h4; have h5 := eq_false h5; have h6 := eq_true h6
    simp -implicitDefEqProofs only [c32, Smp.enc, toks, h1, h3, h4, h5, h6, tOp, tCl, tDl, tId, Tok.enc, List.map_cons, List.map_nil, on_gcall, off_gcall, flat_gcall, wpC_seq_xreg, wpC_xreg, wpXR_nil, wpXR_own, wpXR_flu, xeOK, xe, argTops, openArgs, Orc.ppre_cons, Orc.pr_cons, Orc.ppre_econs, Orc.pr_econs, Orc.ppre_fcons, Orc.pr_fcons, Orc.ppre_gcons, Orc.pr_gcons, List.head?_cons, List.headD_cons, XE.val, XE.heap, efO, shutArgs, xfoot, footO, V.tops, V.top1, clashOne, noClash, Orc.flat_fcons, Orc.pre_fcons, Orc.v_fcons, Orc.hp_fcons, Orc.qpre_fcons, Orc.qv_fcons, Orc.fpre_fcons, Orc.fes_fcons, Orc.flat_gcons, Orc.pre_gcons, Orc.v_gcons, Orc.hp_gcons, Orc.qpre_gcons, Orc.qv_gcons, Orc.fpre_gcons, Orc.fes_gcons, GSum.pre, GSum.v, GSum.hp, Orc.fpre_cons, Orc.fes_cons, Orc.fpre_econs, Orc.fes_econs, FSum.pre, FSum.v, FSum.hp, fres, O.calls, List.flatMap_cons, List.flatMap_nil, List.contains_cons, List.contains_nil, Bool.not_true, Bool.not_false, Heap.freeze, List.mapIdx_cons, List.mapIdx_nil, List.elem_cons, List.elem_nil, fluP, fluV, evF, bne_iff_ne, ne_eq, Option.some.injEq, go_sem, reduceCtorEq, reduceIte, Nat.reduceEqDiff, Nat.reduceAdd, Nat.reduceSub, Nat.reduceMul, Nat.reduceLT, Nat.reduceLeDiff, Nat.reduceBEq, Int.reduceEq, Int.reduceLT, Int.reduceLE, Int.reduceAdd, Int.reduceSub, Int.reduceNeg, Int.reduceToNat]
  rw [if_neg h6]
  have h1 := eq_false h1; have h3 := eq_false h3; have h4 := eq_false h4; have h5 := eq_false h5; have h6 := eq_false h6
  simp -implicitDefEqProofs only [c32, Smp.enc, toks, h1, h3, h4, h5, h6, tOp, tCl, tDl, tId, Tok.enc, List.map_cons, List.map_nil, on_gcall, off_gcall, flat_gcall, wpC_seq_xreg, wpC_xreg, wpXR_nil, wpXR_own, wpXR_flu, xeOK, xe, argTops, openArgs, Orc.ppre_cons, Orc.pr_cons, Orc.ppre_econs, Orc.pr_econs, Orc.ppre_fcons, Orc.pr_fcons, Orc.ppre_gcons, Orc.pr_gcons, List.head?_cons, List.headD_cons, XE.val, XE.heap, efO, shutArgs, xfoot, footO, V.tops, V.top1, clashOne, noClash, Orc.flat_fcons, Orc.pre_fcons, Orc.v_fcons, Orc.hp_fcons, Orc.qpre_fcons, Orc.qv_fcons, Orc.fpre_fcons, Orc.fes_fcons, Orc.flat_gcons, Orc.pre_gcons, Orc.v_gcons, Orc.hp_gcons, Orc.qpre_gcons, Orc.qv_gcons, Orc.fpre_gcons, Orc.fes_gcons, GSum.pre, GSum.v, GSum.hp, Orc.fpre_cons, Orc.fes_cons, Orc.fpre_econs, Orc.fes_econs, FSum.pre, FSum.v, FSum.hp, fres, O.calls, List.flatMap_cons, List.flatMap_nil, List.contains_cons, List.contains_nil, Bool.not_true, Bool.not_false, Heap.freeze, List.mapIdx_cons, List.mapIdx_nil, List.elem_cons, List.elem_nil, fluP, fluV, evF, bne_iff_ne, ne_eq, Option.some.injEq, go_sem, reduceCtorEq, reduceIte, Nat.reduceEqDiff, Nat.reduceAdd, Nat.reduceSub, Nat.reduceMul, Nat.reduceLT, Nat.reduceLeDiff, Nat.reduceBEq, Int.reduceEq, Int.reduceLT, Int.reduceLE, Int.reduceAdd, Int.reduceSub, Int.reduceNeg, Int.reduceToNat]
def sumWrt : Sum Try.prog := ⟨32, fun args => args = [.agg (Smp.enc (dSmpV (args.getD 0 .any)))], fun args => toks (wrt (dSmpV (args.getD 0 .any))), fun args h => by
  have := written_ok (dSmpV (args.getD 0 .any)); rwa [← h] at this, false⟩
theorem sumWrt_f : sumWrt.f = 32 := rfl
theorem sumWrt_D (args : List V) : sumWrt.D args = (args = [.agg (Smp.enc (dSmpV (args.getD 0 .any)))]) := rfl
theorem sumWrt_flat : sumWrt.flat = false := rfl
theorem sumWrt_r (args : List V) : sumWrt.r args = toks (wrt (dSmpV (args.getD 0 .any))) := rfl
attribute [go_sem] sumWrt_f sumWrt_D sumWrt_flat sumWrt_r
def lkT (n : Int) : List Tok := if n = 1 then [spT] else if n = 2 then [tDl ⟨#[62]⟩] else []
def prC (c : Cmp) : List Tok := lkT c.link ++ c.l.flatMap wrt
def prS (s : Sel) : List Tok := s.flatMap prC
def prT : Nat → List Sel → List Tok
  | _, [] => []
  | n, s :: l => (if 0 < n then [commaT] else []) ++ (prS s ++ prT (n + 1) l)
def prO (l : List Sel) : List Tok := if rgtL l = true then prT 0 l else []
structure PrS8 where
  n : Nat
  out : List Tok
  ver : Nat
  clk : Nat
def lks : List Tok := [.zero, spT, tDl ⟨#[62]⟩]
def bLk : Blk := ⟨0, 3, lks.map Tok.enc, false, [vi 0, vs ⟨#[]⟩, vi 0]⟩
def bTk (ver : Nat) (l : List Tok) : Blk := ⟨ver, 3, l.map Tok.enc, false, [vi 0, vs ⟨#[]⟩, vi 0]⟩
def c20o : C := c20.body.tl.tl.tl.tl.hd.tl.inn.inn
def c20m : C := (c20o /- 20 -/).tl.tl.hd.inn.tl.tl.tl.inn.inn
def c20i : C := (c20m /- 20 -/).tl.tl.hd.inn.tl.tl.tl.inn.inn
theorem lks1 : (lks.map Tok.enc).getD 1 [.c (.int .i64 0), .c (.string ⟨#[]⟩), .c (.int .i64 0)] = spT.enc := rfl
theorem lks2 : (lks.map Tok.enc).getD 2 [.c (.int .i64 0), .c (.string ⟨#[]⟩), .c (.int .i64 0)] = (tDl ⟨#[62]⟩).enc := rfl
theorem lks_len : lks.length = 3 := rfl
theorem prt_in (l : List Sel) (s : Sel) (c : Cmp) (n m : Nat) (W out : List Tok) (hc : c.l.length ≤ 1000000) (hW : W.length ≤ 1000000) (ho : out ++ c.l.flatMap wrt = W) (w0 : World) (own0 : Sx.Own) (Q : Post) (e : Nat → V) (h : Heap) (ver clk : Nat) (B6 B8 : Blk) (ex : List Blk)
    (hh : h = ⟨bLk :: bTk ver out :: B6 :: B8 :: ex, clk⟩)
    (t3 : e 3 = .ref 1 ver 0 out.length) (t4 : e 4 = .ref 0 0 0 3) (t18 : e 18 = .slc 1 (l.map selE)) (t19 : e 19 = vi l.length) (t20 : e 20 = vi n) (t32 : e 32 = .slc 2 (s.map Cmp.enc)) (t33 : e 33 = vi s.length) (t34 : e 34 = vi m) (t50 : e 50 = .slc 3 (c.l.map Smp.enc)) (t51 : e 51 = vi c.l.length) (t52 : e 52 = vi (0 : Nat))
    (hQ : ∀ (e' : Nat → V) (ver' clk' : Nat), e' 3 = .ref 1 ver' 0 W.length → e' 4 = .ref 0 0 0 3 → e' 18 = .slc 1 (l.map selE) → e' 19 = vi l.length → e' 20 = vi n → e' 32 = .slc 2 (s.map Cmp.enc) → e' 33 = vi s.length → e' 34 = vi m →
      Q (.exit 4) e' ⟨[bLk, bTk ver' W, B6, B8], clk'⟩) :
    SemC ⟨Try.prog, (Orc.cons sumRgtL (Orc.cons sumWrt (Orc.nil _))), 64, w0, own0⟩ (.loop (c20i /- 20 -/)) Q e h := by
  subst hh
  refine SemC.lp (α := PrS8) (fun x => [(3, .ref 1 x.ver 0 x.out.length), (4, .ref 0 0 0 3), (18, .slc 1 (l.map selE)), (19, vi l.length), (20, vi n), (32, .slc 2 (s.map Cmp.enc)), (33, vi s.length), (34, vi m), (50, .slc 3 (c.l.map Smp.enc)), (51, vi c.l.length), (52, vi x.n)])
    (fun x => ⟨[bLk, bTk x.ver x.out, B6, B8], x.clk⟩)
    (fun x => x.n ≤ c.l.length ∧ x.out ++ (c.l.drop x.n).flatMap wrt = W) (fun x => c.l.length - x.n) ⟨0, out, ver, clk⟩ ⟨Nat.zero_le _, ho⟩ (St.cut ⟨t3, t4, t18, t19, t20, t32, t33, t34, t50, t51, t52, trivial⟩ rfl rfl) fun x hx => ?_
  obtain ⟨j, o, ver', clk'⟩ := x
  obtain ⟨h1, h2⟩ := hx
  simp only at h1 h2
  by_cases he : j = c.l.length
  · subst he
    rw [List.drop_length] at h2
    simp only [List.flatMap_nil, List.append_nil] at h2
    subst h2
    simp only [c20i, c20m, c20o, c20, C.tl, C.hd, C.inn, Int.lt_irrefl, go_sem, wpR_gcall, reduceCtorEq, reduceIte, Nat.reduceEqDiff, Nat.reduceAdd, Nat.reduceSub, Nat.reduceMul, Nat.reduceLT, Nat.reduceLeDiff, Nat.reduceBEq, Int.reduceEq, Int.reduceLT, Int.reduceLE, Int.reduceAdd, Int.reduceSub, Int.reduceNeg, Int.reduceToNat]
    exact hQ _ _ _ (by simp [upd_at, ev_cons]) (by simp [upd_at, ev_cons]) (by simp [upd_at, ev_cons]) (by simp [upd_at, ev_cons]) (by simp [upd_at, ev_cons]) (by simp [upd_at, ev_cons]) (by simp [upd_at, ev_cons]) (by simp [upd_at, ev_cons])
  · have g1 : (j : Int) < (c.l.length : Int) := by omega
    have g0 : (0 : Int) ≤ (j : Int) := by omega
    have hg := getD_smps c.l j
    rw [drop_g c.l j default (by omega), List.flatMap_cons] at h2
    have hlen := congrArg List.length h2
    simp only [List.length_append] at hlen
    generalize c.l.getD j default = u at *
    obtain ⟨uk, ut, uv⟩ := u
    have hS : dSmpV (.agg [.c (.int .i64 uk), .c (.string ut), .c (.string uv)]) = ⟨uk, ut, uv⟩ := rfl
    have hje : o.map Tok.enc ++ (wrt ⟨uk, ut, uv⟩).map Tok.enc = (o ++ wrt ⟨uk, ut, uv⟩).map Tok.enc := by simp
    have b1 := eq_true (show o.length ≤ o.length from Nat.le_refl _)
    simp -implicitDefEqProofs only [c20i, c20m, c20o, c20, C.tl, C.hd, C.inn, g0, g1, hg, bLk, bTk, Smp.enc, hS, hje, toks, List.take_length, wpC_seq_xreg, wpC_xreg, wpXR_nil, wpXR_own, wpXR_flu, xeOK, xe, argTops, openArgs, Orc.ppre_cons, Orc.pr_cons, Orc.ppre_econs, Orc.pr_econs, Orc.ppre_fcons, Orc.pr_fcons, Orc.ppre_gcons, Orc.pr_gcons, List.head?_cons, List.headD_cons, XE.val, XE.heap, efO, shutArgs, xfoot, footO, V.tops, V.top1, clashOne, noClash, Orc.flat_fcons, Orc.pre_fcons, Orc.v_fcons, Orc.hp_fcons, Orc.qpre_fcons, Orc.qv_fcons, Orc.fpre_fcons, Orc.fes_fcons, Orc.flat_gcons, Orc.pre_gcons, Orc.v_gcons, Orc.hp_gcons, Orc.qpre_gcons, Orc.qv_gcons, Orc.fpre_gcons, Orc.fes_gcons, GSum.pre, GSum.v, GSum.hp, Orc.fpre_cons, Orc.fes_cons, Orc.fpre_econs, Orc.fes_econs, FSum.pre, FSum.v, FSum.hp, fres, O.calls, List.flatMap_cons, List.flatMap_nil, List.contains_cons, List.contains_nil, Bool.not_true, Bool.not_false, Heap.freeze, List.mapIdx_cons, List.mapIdx_nil, List.elem_cons, List.elem_nil, fluP, fluV, evF, bne_iff_ne, ne_eq, Option.some.injEq, go_sem, wpR_gcall, reduceCtorEq, reduceIte, Nat.reduceEqDiff, Nat.reduceAdd, Nat.reduceSub, Nat.reduceMul, Nat.reduceLT, Nat.reduceLeDiff, Nat.reduceBEq, Int.reduceEq, Int.reduceLT, Int.reduceLE, Int.reduceAdd, Int.reduceSub, Int.reduceNeg, Int.reduceToNat]
    refine ⟨⟨Nat.le_refl _, by omega, by omega⟩, by omega, ⟨j + 1, o ++ wrt ⟨uk, ut, uv⟩, _, _⟩, ⟨by dsimp only; omega, by rw [← h2]; simp⟩, by dsimp only; omega, ⟨⟨rfl, by simp⟩, by dsimp only; omega⟩, ⟨rfl, by simp⟩, rfl⟩
theorem lkT1 : lkT 1 = [spT] := rfl
theorem lkT2 : lkT 2 = [tDl ⟨#[62]⟩] := rfl
theorem lkT0 : lkT 0 = [] := rfl
theorem prt_mid (l : List Sel) (s : Sel) (n : Nat) (W out : List Tok) (hs : okC s) (hr : ∀ i, i < s.length → 0 ≤ (s.getD i default).link ∧ (s.getD i default).link ≤ 2) (hW : W.length ≤ 1000000) (ho : out ++ prS s = W) (w0 : World) (own0 : Sx.Own) (Q : Post) (e : Nat → V) (h : Heap) (ver clk : Nat) (B6 : Blk) (ex : List Blk)
    (hh : h = ⟨bLk :: bTk ver out :: B6 :: ex, clk⟩)
    (t3 : e 3 = .ref 1 ver 0 out.length) (t4 : e 4 = .ref 0 0 0 3) (t18 : e 18 = .slc 1 (l.map selE)) (t19 : e 19 = vi l.length) (t20 : e 20 = vi n) (t32 : e 32 = .slc 2 (s.map Cmp.enc)) (t33 : e 33 = vi s.length) (t34 : e 34 = vi (0 : Nat))
    (hQ : ∀ (e' : Nat → V) (ver' clk' : Nat), e' 3 = .ref 1 ver' 0 W.length → e' 4 = .ref 0 0 0 3 → e' 18 = .slc 1 (l.map selE) → e' 19 = vi l.length → e' 20 = vi n →
      Q (.exit 2) e' ⟨[bLk, bTk ver' W, B6], clk'⟩) :
    SemC ⟨Try.prog, (Orc.cons sumRgtL (Orc.cons sumWrt (Orc.nil _))), 64, w0, own0⟩ (.loop (c20m /- 20 -/)) Q e h := by
  subst hh
  obtain ⟨hs1, hs2⟩ := hs
  refine SemC.lp (α := PrS8) (fun x => [(3, .ref 1 x.ver 0 x.out.length), (4, .ref 0 0 0 3), (18, .slc 1 (l.map selE)), (19, vi l.length), (20, vi n), (32, .slc 2 (s.map Cmp.enc)), (33, vi s.length), (34, vi x.n)])
    (fun x => ⟨[bLk, bTk x.ver x.out, B6], x.clk⟩)
    (fun x => x.n ≤ s.length ∧ x.out ++ (s.drop x.n).flatMap prC = W) (fun x => s.length - x.n) ⟨0, out, ver, clk⟩ ⟨Nat.zero_le _, ho⟩ (St.cut ⟨t3, t4, t18, t19, t20, t32, t33, t34, trivial⟩ rfl rfl) fun x hx => ?_
  obtain ⟨j, o, ver', clk'⟩ := x
  obtain ⟨h1, h2⟩ := hx
  simp only at h1 h2
  by_cases he : j = s.length
  · subst he
    rw [List.drop_length] at h2
    simp only [List.flatMap_nil, List.append_nil] at h2
    subst h2
    simp only [c20m, c20o, c20, C.tl, C.hd, C.inn, Int.lt_irrefl, go_sem, wpR_gcall, reduceCtorEq, reduceIte, Nat.reduceEqDiff, Nat.reduceAdd, Nat.reduceSub, Nat.reduceMul, Nat.reduceLT, Nat.reduceLeDiff, Nat.reduceBEq, Int.reduceEq, Int.reduceLT, Int.reduceLE, Int.reduceAdd, Int.reduceSub, Int.reduceNeg, Int.reduceToNat]
    exact hQ _ _ _ (by simp [upd_at, ev_cons]) (by simp [upd_at, ev_cons]) (by simp [upd_at, ev_cons]) (by simp [upd_at, ev_cons]) (by simp [upd_at, ev_cons])
  · have g1 : (j : Int) < (s.length : Int) := by omega
    have g0 : (0 : Int) ≤ (j : Int) := by omega
    have hlt : j < s.length := by omega
    have hg := getD_cmps s j [.c (.int .i64 0), .c (.slice none 0 0)] hlt
    have hc := hs2 j hlt
    obtain ⟨r1, r2⟩ := hr j hlt
    rw [drop_g s j default (by omega), List.flatMap_cons] at h2
    generalize s.getD j default = c at *
    have hn : c.link = 0 ∨ c.link = 1 ∨ c.link = 2 := by omega
    have hlen := congrArg List.length h2
    rw [show prC c = lkT c.link ++ c.l.flatMap wrt from rfl] at h2 hlen
    simp only [List.length_append] at hlen
    rcases hn with hn | hn | hn
    · rw [hn, lkT0, List.nil_append] at h2
      simp -implicitDefEqProofs only [c20m, c20o, c20, C.tl, C.hd, C.inn, g0, g1, hg, bLk, bTk, Cmp.enc, hn, toks, List.take_length, Int.lt_irrefl, wpC_seq_xreg, wpC_xreg, wpXR_nil, wpXR_own, wpXR_flu, xeOK, xe, argTops, openArgs, Orc.ppre_cons, Orc.pr_cons, Orc.ppre_econs, Orc.pr_econs, Orc.ppre_fcons, Orc.pr_fcons, Orc.ppre_gcons, Orc.pr_gcons, List.head?_cons, List.headD_cons, XE.val, XE.heap, efO, shutArgs, xfoot, footO, V.tops, V.top1, clashOne, noClash, Orc.flat_fcons, Orc.pre_fcons, Orc.v_fcons, Orc.hp_fcons, Orc.qpre_fcons, Orc.qv_fcons, Orc.fpre_fcons, Orc.fes_fcons, Orc.flat_gcons, Orc.pre_gcons, Orc.v_gcons, Orc.hp_gcons, Orc.qpre_gcons, Orc.qv_gcons, Orc.fpre_gcons, Orc.fes_gcons, GSum.pre, GSum.v, GSum.hp, Orc.fpre_cons, Orc.fes_cons, Orc.fpre_econs, Orc.fes_econs, FSum.pre, FSum.v, FSum.hp, fres, O.calls, List.flatMap_cons, List.flatMap_nil, List.contains_cons, List.contains_nil, Bool.not_true, Bool.not_false, Heap.freeze, List.mapIdx_cons, List.mapIdx_nil, List.elem_cons, List.elem_nil, fluP, fluV, evF, bne_iff_ne, ne_eq, Option.some.injEq, go_sem, wpR_gcall, reduceCtorEq, reduceIte, Nat.reduceEqDiff, Nat.reduceAdd, Nat.reduceSub, Nat.reduceMul, Nat.reduceLT, Nat.reduceLeDiff, Nat.reduceBEq, Int.reduceEq, Int.reduceLT, Int.reduceLE, Int.reduceAdd, Int.reduceSub, Int.reduceNeg, Int.reduceToNat]
      refine prt_in l s c n j (o ++ c.l.flatMap wrt) o hc (by simp only [List.length_append]; omega) rfl w0 own0 _ _ _ _ _ _ _ _ rfl (by simp [upd_at, ev_cons]) (by simp [upd_at, ev_cons]) (by simp [upd_at, ev_cons]) (by simp [upd_at, ev_cons]) (by simp [upd_at, ev_cons]) (by simp [upd_at, ev_cons]) (by simp [upd_at, ev_cons]) (by simp [upd_at, ev_cons]) (by simp [upd_at, ev_cons]) (by simp [upd_at, ev_cons]) (by simp [upd_at, ev_cons]) (fun e' ver2 clk2 t3 t4 t18 t19 t20 t32 t33 t34 => ?_)
      simp only [t3, t4, t18, t19, t20, t32, t33, t34, go_sem, wpR_gcall, reduceCtorEq, reduceIte, Nat.reduceEqDiff, Nat.reduceAdd, Nat.reduceSub, Nat.reduceMul, Nat.reduceLT, Nat.reduceLeDiff, Nat.reduceBEq, Int.reduceEq, Int.reduceLT, Int.reduceLE, Int.reduceAdd, Int.reduceSub, Int.reduceNeg, Int.reduceToNat]
      exact ⟨by omega, ⟨j + 1, o ++ c.l.flatMap wrt, _, _⟩, ⟨by dsimp only; omega, by rw [← h2]; simp⟩, by dsimp only; omega, ⟨⟨rfl, rfl⟩, by dsimp only; omega⟩, ⟨rfl, rfl⟩, rfl⟩
    · rw [hn, lkT1] at h2
      rw [hn, lkT1] at hlen
      have hje : o.map Tok.enc ++ [[.c (.int .i64 1), .c (.string ⟨#[]⟩), .c (.int .i64 0)]] = (o ++ [spT]).map Tok.enc := by simp [Tok.enc, spT, tDl]
      simp -implicitDefEqProofs only [c20m, c20o, c20, C.tl, C.hd, C.inn, g0, g1, hg, bLk, bTk, Cmp.enc, hn, toks, lks1, lks_len, List.length_map, Tok.enc, spT, tDl, hje, List.take_length, wpC_seq_xreg, wpC_xreg, wpXR_nil, wpXR_own, wpXR_flu, xeOK, xe, argTops, openArgs, Orc.ppre_cons, Orc.pr_cons, Orc.ppre_econs, Orc.pr_econs, Orc.ppre_fcons, Orc.pr_fcons, Orc.ppre_gcons, Orc.pr_gcons, List.head?_cons, List.headD_cons, XE.val, XE.heap, efO, shutArgs, xfoot, footO, V.tops, V.top1, clashOne, noClash, Orc.flat_fcons, Orc.pre_fcons, Orc.v_fcons, Orc.hp_fcons, Orc.qpre_fcons, Orc.qv_fcons, Orc.fpre_fcons, Orc.fes_fcons, Orc.flat_gcons, Orc.pre_gcons, Orc.v_gcons, Orc.hp_gcons, Orc.qpre_gcons, Orc.qv_gcons, Orc.fpre_gcons, Orc.fes_gcons, GSum.pre, GSum.v, GSum.hp, Orc.fpre_cons, Orc.fes_cons, Orc.fpre_econs, Orc.fes_econs, FSum.pre, FSum.v, FSum.hp, fres, O.calls, List.flatMap_cons, List.flatMap_nil, List.contains_cons, List.contains_nil, Bool.not_true, Bool.not_false, Heap.freeze, List.mapIdx_cons, List.mapIdx_nil, List.elem_cons, List.elem_nil, fluP, fluV, evF, bne_iff_ne, ne_eq, Option.some.injEq, go_sem, wpR_gcall, reduceCtorEq, reduceIte, Nat.reduceEqDiff, Nat.reduceAdd, Nat.reduceSub, Nat.reduceMul, Nat.reduceLT, Nat.reduceLeDiff, Nat.reduceBEq, Int.reduceEq, Int.reduceLT, Int.reduceLE, Int.reduceAdd, Int.reduceSub, Int.reduceNeg, Int.reduceToNat]
      refine ⟨⟨Nat.le_refl _, by omega, by omega⟩, prt_in l s c n j (o ++ [spT] ++ c.l.flatMap wrt) (o ++ [spT]) hc (by simp only [List.length_append] at hlen ⊢; omega) rfl w0 own0 _ _ _ _ _ _ _ _ rfl (by simp [upd_at, ev_cons]) (by simp [upd_at, ev_cons]) (by simp [upd_at, ev_cons]) (by simp [upd_at, ev_cons]) (by simp [upd_at, ev_cons]) (by simp [upd_at, ev_cons]) (by simp [upd_at, ev_cons]) (by simp [upd_at, ev_cons]) (by simp [upd_at, ev_cons]) (by simp [upd_at, ev_cons]) (by simp [upd_at, ev_cons]) (fun e' ver2 clk2 t3 t4 t18 t19 t20 t32 t33 t34 => ?_)⟩
      simp only [t3, t4, t18, t19, t20, t32, t33, t34, go_sem, wpR_gcall, reduceCtorEq, reduceIte, Nat.reduceEqDiff, Nat.reduceAdd, Nat.reduceSub, Nat.reduceMul, Nat.reduceLT, Nat.reduceLeDiff, Nat.reduceBEq, Int.reduceEq, Int.reduceLT, Int.reduceLE, Int.reduceAdd, Int.reduceSub, Int.reduceNeg, Int.reduceToNat]
      exact ⟨by omega, ⟨j + 1, o ++ [spT] ++ c.l.flatMap wrt, _, _⟩, ⟨by dsimp only; omega, by rw [← h2]; simp⟩, by dsimp only; omega, ⟨⟨rfl, rfl⟩, by dsimp only; omega⟩, ⟨rfl, rfl⟩, rfl⟩
    · rw [hn, lkT2] at h2
      rw [hn, lkT2] at hlen
      have hje : o.map Tok.enc ++ [[.c (.int .i64 11), .c (.string ⟨#[62]⟩), .c (.int .i64 0)]] = (o ++ [tDl ⟨#[62]⟩]).map Tok.enc := by simp [Tok.enc, spT, tDl]
      simp -implicitDefEqProofs only [c20m, c20o, c20, C.tl, C.hd, C.inn, g0, g1, hg, bLk, bTk, Cmp.enc, hn, toks, lks2, lks_len, List.length_map, Tok.enc, spT, tDl, hje, List.take_length, wpC_seq_xreg, wpC_xreg, wpXR_nil, wpXR_own, wpXR_flu, xeOK, xe, argTops, openArgs, Orc.ppre_cons, Orc.pr_cons, Orc.ppre_econs, Orc.pr_econs, Orc.ppre_fcons, Orc.pr_fcons, Orc.ppre_gcons, Orc.pr_gcons, List.head?_cons, List.headD_cons, XE.val, XE.heap, efO, shutArgs, xfoot, footO, V.tops, V.top1, clashOne, noClash, Orc.flat_fcons, Orc.pre_fcons, Orc.v_fcons, Orc.hp_fcons, Orc.qpre_fcons, Orc.qv_fcons, Orc.fpre_fcons, Orc.fes_fcons, Orc.flat_gcons, Orc.pre_gcons, Orc.v_gcons, Orc.hp_gcons, Orc.qpre_gcons, Orc.qv_gcons, Orc.fpre_gcons, Orc.fes_gcons, GSum.pre, GSum.v, GSum.hp, Orc.fpre_cons, Orc.fes_cons, Orc.fpre_econs, Orc.fes_econs, FSum.pre, FSum.v, FSum.hp, fres, O.calls, List.flatMap_cons, List.flatMap_nil, List.contains_cons, List.contains_nil, Bool.not_true, Bool.not_false, Heap.freeze, List.mapIdx_cons, List.mapIdx_nil, List.elem_cons, List.elem_nil, fluP, fluV, evF, bne_iff_ne, ne_eq, Option.some.injEq, go_sem, wpR_gcall, reduceCtorEq, reduceIte, Nat.reduceEqDiff, Nat.reduceAdd, Nat.reduceSub, Nat.reduceMul, Nat.reduceLT, Nat.reduceLeDiff, Nat.reduceBEq, Int.reduceEq, Int.reduceLT, Int.reduceLE, Int.reduceAdd, Int.reduceSub, Int.reduceNeg, Int.reduceToNat]
      refine ⟨⟨Nat.le_refl _, by omega, by omega⟩, prt_in l s c n j (o ++ [tDl ⟨#[62]⟩] ++ c.l.flatMap wrt) (o ++ [tDl ⟨#[62]⟩]) hc (by simp only [List.length_append] at hlen ⊢; omega) rfl w0 own0 _ _ _ _ _ _ _ _ rfl (by simp [upd_at, ev_cons]) (by simp [upd_at, ev_cons]) (by simp [upd_at, ev_cons]) (by simp [upd_at, ev_cons]) (by simp [upd_at, ev_cons]) (by simp [upd_at, ev_cons]) (by simp [upd_at, ev_cons]) (by simp [upd_at, ev_cons]) (by simp [upd_at, ev_cons]) (by simp [upd_at, ev_cons]) (by simp [upd_at, ev_cons]) (fun e' ver2 clk2 t3 t4 t18 t19 t20 t32 t33 t34 => ?_)⟩
      simp only [t3, t4, t18, t19, t20, t32, t33, t34, go_sem, wpR_gcall, reduceCtorEq, reduceIte, Nat.reduceEqDiff, Nat.reduceAdd, Nat.reduceSub, Nat.reduceMul, Nat.reduceLT, Nat.reduceLeDiff, Nat.reduceBEq, Int.reduceEq, Int.reduceLT, Int.reduceLE, Int.reduceAdd, Int.reduceSub, Int.reduceNeg, Int.reduceToNat]
      exact ⟨by omega, ⟨j + 1, o ++ [tDl ⟨#[62]⟩] ++ c.l.flatMap wrt, _, _⟩, ⟨by dsimp only; omega, by rw [← h2]; simp⟩, by dsimp only; omega, ⟨⟨rfl, rfl⟩, by dsimp only; omega⟩, ⟨rfl, rfl⟩, rfl⟩
theorem print_ok (l : List Sel) (hl : okM l) (hb : (prO l).length ≤ 1000000) : PCall Try.prog 20 [sels l] (toks (prO l)) := by
  cases hR : rgtL l with
  | false =>
    have e : prO l = [] := by unfold prO; rw [hR]; rfl
    rw [e]
    refine PCall.rsub (r := vnil) ?_ fun F w v h => PRep.nilS 3 h
    refine PCall.of (Orc.cons sumRgtL (Orc.cons sumWrt (Orc.nil _))) c20_ok (by simp [c20]) fun w0 own0 => ?_
    simp -implicitDefEqProofs only [c20, sels, dSels_map, hl, hR, on_gcall, off_gcall, flat_gcall, go_sem, reduceCtorEq, reduceIte, Nat.reduceEqDiff, Nat.reduceAdd, Nat.reduceSub, Nat.reduceMul, Nat.reduceLT, Nat.reduceLeDiff, Nat.reduceBEq, Int.reduceEq, Int.reduceLT, Int.reduceLE, Int.reduceAdd, Int.reduceSub, Int.reduceNeg, Int.reduceToNat]
  | true =>
    have e : prO l = prT 0 l := by unfold prO; rw [hR]; rfl
    rw [e] at hb ⊢
    generalize hT : prT 0 l = T at *
    refine PCall.of (Orc.cons sumRgtL (Orc.cons sumWrt (Orc.nil _))) c20_ok (by simp [c20]) fun w0 own0 => ?_
    simp -implicitDefEqProofs only [c20, sels, dSels_map, hl, hR, on_gcall, off_gcall, flat_gcall, wpC_seq_xreg, wpC_xreg, wpXR_nil, wpXR_own, wpXR_flu, xeOK, xe, argTops, openArgs, Orc.ppre_cons, Orc.pr_cons, Orc.ppre_econs, Orc.pr_econs, Orc.ppre_fcons, Orc.pr_fcons, Orc.ppre_gcons, Orc.pr_gcons, List.head?_cons, List.headD_cons, XE.val, XE.heap, efO, shutArgs, xfoot, footO, V.tops, V.top1, clashOne, noClash, Orc.flat_fcons, Orc.pre_fcons, Orc.v_fcons, Orc.hp_fcons, Orc.qpre_fcons, Orc.qv_fcons, Orc.fpre_fcons, Orc.fes_fcons, Orc.flat_gcons, Orc.pre_gcons, Orc.v_gcons, Orc.hp_gcons, Orc.qpre_gcons, Orc.qv_gcons, Orc.fpre_gcons, Orc.fes_gcons, GSum.pre, GSum.v, GSum.hp, Orc.fpre_cons, Orc.fes_cons, Orc.fpre_econs, Orc.fes_econs, FSum.pre, FSum.v, FSum.hp, fres, O.calls, List.flatMap_cons, List.flatMap_nil, List.contains_cons, List.contains_nil, Bool.not_true, Bool.not_false, Heap.freeze, List.mapIdx_cons, List.mapIdx_nil, List.elem_cons, List.elem_nil, fluP, fluV, evF, bne_iff_ne, ne_eq, Option.some.injEq, go_sem, reduceCtorEq, reduceIte, Nat.reduceEqDiff, Nat.reduceAdd, Nat.reduceSub, Nat.reduceMul, Nat.reduceLT, Nat.reduceLeDiff, Nat.reduceBEq, Int.reduceEq, Int.reduceLT, Int.reduceLE, Int.reduceAdd, Int.reduceSub, Int.reduceNeg, Int.reduceToNat]
    simp only [okM] at hl
    obtain ⟨hl1, hl2⟩ := hl
    have hR' := hR
    unfold rgtL at hR'
    rw [decide_eq_true_eq] at hR'
    have hRs := hR'.2
    clear hR hR' e
    refine SemC.lp (α := PrS8) (fun x => [(3, .ref 1 x.ver 0 x.out.length), (4, .ref 0 0 0 3), (18, .slc 1 (l.map selE)), (19, vi l.length), (20, vi x.n)])
      (fun x => ⟨[⟨0, 3, lks.map Tok.enc, false, [vi 0, vs ⟨#[]⟩, vi 0]⟩, ⟨x.ver, 3, x.out.map Tok.enc, false, [vi 0, vs ⟨#[]⟩, vi 0]⟩], x.clk⟩)
      (fun x => x.n ≤ l.length ∧ x.out ++ prT x.n (l.drop x.n) = T) (fun x => l.length - x.n) ⟨0, [], 1, 2⟩ ⟨Nat.zero_le _, hT⟩ (St.nil 3 3 [vi 0, vs ⟨#[]⟩, vi 0] (by simp [upd_at]) (St.cut ?_ ?_ ?_)) fun x hx => ?_
    · simp [Agrees, upd_at, initE_at]
    · simp [Heap.alloc, lks, Tok.enc, Tok.zero, spT, tDl]
    · rfl
    obtain ⟨n, out, ver, clk⟩ := x
    obtain ⟨h1, h2⟩ := hx
    simp only at h1 h2
    by_cases he : n = l.length
    · subst he
      rw [List.drop_length] at h2
      simp only [prT, List.append_nil] at h2
      subst h2
      simp -implicitDefEqProofs only [Int.lt_irrefl, List.take_length, Nat.le_refl, toks, mapO_toks11, on_gcall, off_gcall, flat_gcall, wpC_seq_xreg, wpC_xreg, wpXR_nil, wpXR_own, wpXR_flu, xeOK, xe, argTops, openArgs, Orc.ppre_cons, Orc.pr_cons, Orc.ppre_econs, Orc.pr_econs, Orc.ppre_fcons, Orc.pr_fcons, Orc.ppre_gcons, Orc.pr_gcons, List.head?_cons, List.headD_cons, XE.val, XE.heap, efO, shutArgs, xfoot, footO, V.tops, V.top1, clashOne, noClash, Orc.flat_fcons, Orc.pre_fcons, Orc.v_fcons, Orc.hp_fcons, Orc.qpre_fcons, Orc.qv_fcons, Orc.fpre_fcons, Orc.fes_fcons, Orc.flat_gcons, Orc.pre_gcons, Orc.v_gcons, Orc.hp_gcons, Orc.qpre_gcons, Orc.qv_gcons, Orc.fpre_gcons, Orc.fes_gcons, GSum.pre, GSum.v, GSum.hp, Orc.fpre_cons, Orc.fes_cons, Orc.fpre_econs, Orc.fes_econs, FSum.pre, FSum.v, FSum.hp, fres, O.calls, List.flatMap_cons, List.flatMap_nil, List.contains_cons, List.contains_nil, Bool.not_true, Bool.not_false, Heap.freeze, List.mapIdx_cons, List.mapIdx_nil, List.elem_cons, List.elem_nil, fluP, fluV, evF, bne_iff_ne, ne_eq, Option.some.injEq, go_sem, reduceCtorEq, reduceIte, Nat.reduceEqDiff, Nat.reduceAdd, Nat.reduceSub, Nat.reduceMul, Nat.reduceLT, Nat.reduceLeDiff, Nat.reduceBEq, Int.reduceEq, Int.reduceLT, Int.reduceLE, Int.reduceAdd, Int.reduceSub, Int.reduceNeg, Int.reduceToNat]
    have e1 : (n : Int) < (l.length : Int) := by omega
    have e0 : (0 : Int) ≤ (n : Int) := by omega
    have hlt : n < l.length := by omega
    have hg := getD_sels l n [.c (.slice none 0 0)] hlt
    obtain ⟨hs1, hs2⟩ := hl2 n hlt
    have hrs := hRs n hlt
    have hd : l.drop n = l.getD n [] :: l.drop (n + 1) := drop_g l n [] hlt
    rw [hd] at h2
    simp only [prT] at h2
    generalize l.getD n [] = s at *
    have hlen := congrArg List.length h2
    have hls : ∀ i, i < s.length → 0 ≤ (s.getD i default).link ∧ (s.getD i default).link ≤ 2 := fun i hi => by
      unfold rgtS at hrs; rw [decide_eq_true_eq] at hrs
      have := hrs.2.2 i hi
      unfold rgtC at this; rw [decide_eq_true_eq] at this
      exact ⟨this.2.1, this.2.2.1⟩
    by_cases hn : (0 : Int) < (n : Int)
    · rw [if_pos (by omega)] at h2 hlen
      simp only [List.length_append] at hlen
      have hje : out.map Tok.enc ++ [[.c (.int .i64 16), .c (.string ⟨#[]⟩), .c (.int .i64 0)]] = (out ++ [commaT]).map Tok.enc := by simp [Tok.enc, commaT]
      simp -implicitDefEqProofs only [e0, e1, hn, hg, selE, toks, hje, List.take_length, on_gcall, off_gcall, flat_gcall, wpC_seq_xreg, wpC_xreg, wpXR_nil, wpXR_own, wpXR_flu, xeOK, xe, argTops, openArgs, Orc.ppre_cons, Orc.pr_cons, Orc.ppre_econs, Orc.pr_econs, Orc.ppre_fcons, Orc.pr_fcons, Orc.ppre_gcons, Orc.pr_gcons, List.head?_cons, List.headD_cons, XE.val, XE.heap, efO, shutArgs, xfoot, footO, V.tops, V.top1, clashOne, noClash, Orc.flat_fcons, Orc.pre_fcons, Orc.v_fcons, Orc.hp_fcons, Orc.qpre_fcons, Orc.qv_fcons, Orc.fpre_fcons, Orc.fes_fcons, Orc.flat_gcons, Orc.pre_gcons, Orc.v_gcons, Orc.hp_gcons, Orc.qpre_gcons, Orc.qv_gcons, Orc.fpre_gcons, Orc.fes_gcons, GSum.pre, GSum.v, GSum.hp, Orc.fpre_cons, Orc.fes_cons, Orc.fpre_econs, Orc.fes_econs, FSum.pre, FSum.v, FSum.hp, fres, O.calls, List.flatMap_cons, List.flatMap_nil, List.contains_cons, List.contains_nil, Bool.not_true, Bool.not_false, Heap.freeze, List.mapIdx_cons, List.mapIdx_nil, List.elem_cons, List.elem_nil, fluP, fluV, evF, bne_iff_ne, ne_eq, Option.some.injEq, go_sem, reduceCtorEq, reduceIte, Nat.reduceEqDiff, Nat.reduceAdd, Nat.reduceSub, Nat.reduceMul, Nat.reduceLT, Nat.reduceLeDiff, Nat.reduceBEq, Int.reduceEq, Int.reduceLT, Int.reduceLE, Int.reduceAdd, Int.reduceSub, Int.reduceNeg, Int.reduceToNat]
      refine ⟨⟨Nat.le_refl _, by omega, by omega⟩, prt_mid l s n (out ++ [commaT] ++ prS s) (out ++ [commaT]) ⟨hs1, hs2⟩ hls (by simp only [List.length_append] at hlen ⊢; omega) rfl w0 own0 _ _ _ _ _ _ _ rfl (by simp [upd_at, ev_cons]) (by simp [upd_at, ev_cons]) (by simp [upd_at, ev_cons]) (by simp [upd_at, ev_cons]) (by simp [upd_at, ev_cons]) (by simp [upd_at, ev_cons]) (by simp [upd_at, ev_cons]) (by simp [upd_at, ev_cons]) (fun e' ver2 clk2 t3 t4 t18 t19 t20 => ?_)⟩
      simp only [t3, t4, t18, t19, t20, go_sem, wpR_gcall, reduceCtorEq, reduceIte, Nat.reduceEqDiff, Nat.reduceAdd, Nat.reduceSub, Nat.reduceMul, Nat.reduceLT, Nat.reduceLeDiff, Nat.reduceBEq, Int.reduceEq, Int.reduceLT, Int.reduceLE, Int.reduceAdd, Int.reduceSub, Int.reduceNeg, Int.reduceToNat]
      exact ⟨by omega, ⟨n + 1, out ++ [commaT] ++ prS s, _, _⟩, ⟨by dsimp only; omega, by rw [← h2]; simp⟩, by dsimp only; omega, ⟨⟨rfl, rfl⟩, by dsimp only; omega⟩, ⟨rfl, rfl⟩, rfl⟩
    · rw [if_neg (by omega), List.nil_append] at h2 hlen
      have hn := eq_false hn
      simp only [List.length_append] at hlen
      simp -implicitDefEqProofs only [e0, e1, hn, hg, selE, toks, on_gcall, off_gcall, flat_gcall, wpC_seq_xreg, wpC_xreg, wpXR_nil, wpXR_own, wpXR_flu, xeOK, xe, argTops, openArgs, Orc.ppre_cons, Orc.pr_cons, Orc.ppre_econs, Orc.pr_econs, Orc.ppre_fcons, Orc.pr_fcons, Orc.ppre_gcons, Orc.pr_gcons, List.head?_cons, List.headD_cons, XE.val, XE.heap, efO, shutArgs, xfoot, footO, V.tops, V.top1, clashOne, noClash, Orc.flat_fcons, Orc.pre_fcons, Orc.v_fcons, Orc.hp_fcons, Orc.qpre_fcons, Orc.qv_fcons, Orc.fpre_fcons, Orc.fes_fcons, Orc.flat_gcons, Orc.pre_gcons, Orc.v_gcons, Orc.hp_gcons, Orc.qpre_gcons, Orc.qv_gcons, Orc.fpre_gcons, Orc.fes_gcons, GSum.pre, GSum.v, GSum.hp, Orc.fpre_cons, Orc.fes_cons, Orc.fpre_econs, Orc.fes_econs, FSum.pre, FSum.v, FSum.hp, fres, O.calls, List.flatMap_cons, List.flatMap_nil, List.contains_cons, List.contains_nil, Bool.not_true, Bool.not_false, Heap.freeze, List.mapIdx_cons, List.mapIdx_nil, List.elem_cons, List.elem_nil, fluP, fluV, evF, bne_iff_ne, ne_eq, Option.some.injEq, go_sem, reduceCtorEq, reduceIte, Nat.reduceEqDiff, Nat.reduceAdd, Nat.reduceSub, Nat.reduceMul, Nat.reduceLT, Nat.reduceLeDiff, Nat.reduceBEq, Int.reduceEq, Int.reduceLT, Int.reduceLE, Int.reduceAdd, Int.reduceSub, Int.reduceNeg, Int.reduceToNat]
      refine prt_mid l s n (out ++ prS s) out ⟨hs1, hs2⟩ hls (by simp only [List.length_append] at hlen ⊢; omega) rfl w0 own0 _ _ _ _ _ _ _ rfl (by simp [upd_at, ev_cons]) (by simp [upd_at, ev_cons]) (by simp [upd_at, ev_cons]) (by simp [upd_at, ev_cons]) (by simp [upd_at, ev_cons]) (by simp [upd_at, ev_cons]) (by simp [upd_at, ev_cons]) (by simp [upd_at, ev_cons]) (fun e' ver2 clk2 t3 t4 t18 t19 t20 => ?_)
      simp only [t3, t4, t18, t19, t20, go_sem, wpR_gcall, reduceCtorEq, reduceIte, Nat.reduceEqDiff, Nat.reduceAdd, Nat.reduceSub, Nat.reduceMul, Nat.reduceLT, Nat.reduceLeDiff, Nat.reduceBEq, Int.reduceEq, Int.reduceLT, Int.reduceLE, Int.reduceAdd, Int.reduceSub, Int.reduceNeg, Int.reduceToNat]
      exact ⟨by omega, ⟨n + 1, out ++ prS s, _, _⟩, ⟨by dsimp only; omega, by rw [← h2]; simp⟩, by dsimp only; omega, ⟨⟨rfl, rfl⟩, by dsimp only; omega⟩, ⟨rfl, rfl⟩, rfl⟩
def sumPrt : Sum Try.prog := ⟨20, fun args => args = [sels (dSels (args.getD 0 .any))] ∧ okM (dSels (args.getD 0 .any)) ∧ (prO (dSels (args.getD 0 .any))).length ≤ 1000000, fun args => toks (prO (dSels (args.getD 0 .any))), fun args h => by
  have := print_ok (dSels (args.getD 0 .any)) h.2.1 h.2.2; rwa [← h.1] at this, false⟩
theorem sumPrt_f : sumPrt.f = 20 := rfl
theorem sumPrt_D (args : List V) : sumPrt.D args = (args = [sels (dSels (args.getD 0 .any))] ∧ okM (dSels (args.getD 0 .any)) ∧ (prO (dSels (args.getD 0 .any))).length ≤ 1000000) := rfl
theorem sumPrt_flat : sumPrt.flat = false := rfl
theorem sumPrt_r (args : List V) : sumPrt.r args = toks (prO (dSels (args.getD 0 .any))) := rfl
attribute [go_sem] sumPrt_f sumPrt_D sumPrt_flat sumPrt_r
end Go.Proofs.Ytlcblcjpebabkaa
end
