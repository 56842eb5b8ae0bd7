/- Layer 7: the law of two content lists. -/
import Derived.Test.YtjofgafeaiiegaaV7x
namespace Go.Proofs.Ytjofgafeaiiegaa
open Go.Sx
set_option linter.unusedSimpArgs false
set_option maxHeartbeats 8000000
set_option maxRecDepth 20000

theorem itL_app (own : Bool) : ∀ (a b : List Pa), itL own (a ++ b) = match itL own a with | none => none | some x => (itL own b).map (x ++ ·)
  | [], b => by simp only [List.nil_append, itL]; cases itL own b <;> rfl
  | p :: a, b => by
    simp only [List.cons_append, itL, itL_app own a b]
    cases itO own p with
    | none => rfl
    | some x =>
      simp only
      cases itL own a with
      | none => rfl
      | some y => simp only [Option.map_some]; cases itL own b <;> rfl
/-- What a content list that is one, and no 'none', is made of. -/
theorem ct_is {l : List Tok} (h : (ctO l).is = true) (h' : (ctO l).none = false) : ptB l = true ∧ pl l ≠ [] ∧ itL false (pl l) = some (ctO l).l ∧ (ctO l).l ≠ [] := by
  unfold ctO at h h' ⊢
  by_cases hb : ptB l = true
  · rw [if_pos hb] at h h' ⊢
    by_cases hn : isNN (pl l) = true
    · rw [if_pos hn] at h'; cases h'
    · rw [if_neg hn] at h h' ⊢
      match hI : itL false (pl l) with
      | none => rw [hI] at h; cases h
      | some [] => rw [hI] at h; cases h
      | some (x :: xs) =>
        simp only
        refine ⟨hb, fun hz => ?_, trivial, by simp⟩
        rw [hz] at hI
        simp [itL] at hI
  · rw [if_neg hb] at h; cases h
theorem itO_comma (own : Bool) (t : Tok) (h : t.kind = 16) : itO own ⟨t, []⟩ = none := by
  unfold itO itX
  have h1 : ownB own ⟨t, []⟩ = false := by
    unfold ownB
    rw [decide_eq_false (show ¬ (⟨t, []⟩ : Pa).t.kind = 3 by show ¬ t.kind = 3; omega), Bool.and_false, Bool.false_and, Bool.false_and]
  rw [h1, if_neg (by simp)]
  unfold itemV
  rw [if_neg (show ¬ (⟨t, []⟩ : Pa).t.kind = 6 by show ¬ t.kind = 6; omega), if_neg (fun hh => absurd hh.1 (show ¬ t.kind = 3 by omega))]; rfl
theorem isNN_two {a b : List Pa} (ha : a ≠ []) (hb : b ≠ []) : isNN (a ++ b) = false := by
  match a, b, ha, hb with
  | [p], q :: r, _, _ => rfl
  | p :: p2 :: a, b, _, _ => rfl
def spZ : Tok := ⟨1, ⟨#[]⟩, 0⟩
def cmZ : Tok := ⟨16, ⟨#[]⟩, 0⟩
theorem ct_join {a b : List Tok} (ha : (ctO a).is = true) (ha' : (ctO a).none = false) (hb : (ctO b).is = true) (hb' : (ctO b).none = false) :
    ctO (a ++ [spZ] ++ b) = ⟨(ctO a).l ++ (ctO b).l, false, true⟩ ∧ (ctO (a ++ [cmZ] ++ b)).is = false := by
  obtain ⟨a1, a2, a3, a4⟩ := ct_is ha ha'
  obtain ⟨b1, b2, b3, b4⟩ := ct_is hb hb'
  obtain ⟨s1, s2, s3⟩ := pl_cons (t := spZ) (b := b) (by decide) (by decide) b1
  obtain ⟨c1, c2, c3⟩ := pl_cons (t := cmZ) (b := b) (by decide) (by decide) b1
  obtain ⟨u1, u2, _⟩ := pl_append a1 s3
  obtain ⟨v1, v2, _⟩ := pl_append a1 c3
  have e1 : a ++ [spZ] ++ b = a ++ spZ :: b := by simp
  have e2 : a ++ [cmZ] ++ b = a ++ cmZ :: b := by simp
  have u2 := u2 s1
  have v2 := v2 c1
  rw [s2, if_pos (by decide), List.nil_append] at u2
  rw [c2, if_neg (by decide)] at v2
  rw [e1, e2]
  clear ha ha' hb hb'
  generalize (ctO a).l = A at *
  generalize (ctO b).l = B at *
  constructor
  · unfold ctO
    rw [if_pos (u1.trans s1), u2, isNN_two a2 b2, if_neg (by simp), itL_app, a3, b3]
    simp only [Option.map_some]
    match A, a4 with
    | x :: A, _ => rfl
  · unfold ctO
    rw [if_pos (v1.trans c1), v2, isNN_two a2 (by simp), if_neg (by simp), itL_app, a3]
    simp only [List.cons_append, List.nil_append, itL, itO_comma false cmZ rfl, Option.map_none]
theorem ctO_len2 (l : List Tok) (h : l.length ≤ 1000) : (ctO l).l.length ≤ 1001 := by have := ctO_len l; omega
theorem okT_join {a b : List Tok} {t : Tok} (ha : okT a) (hb : okT b) (h1 : a.length ≤ 40) (h2 : b.length ≤ 40) (ht : t.text.size ≤ 1000000) : okT (a ++ [t] ++ b) := by
  refine ⟨by simp; omega, fun s hs => ?_⟩
  simp only [List.mem_append, List.mem_singleton] at hs
  rcases hs with (hs | hs) | hs
  · exact ha.2 s hs
  · subst hs; exact ht
  · exact hb.2 s hs
theorem valueLists_law (x : V) (h : CellOK (.slc tokC) x) (y : V) (h' : CellOK (.slc tokC) y) : PCall Try.prog 4 [x, y] (.c (.bool true)) := by
  obtain ⟨a, rfl⟩ := toks_of h
  obtain ⟨b, rfl⟩ := toks_of h'
  refine PCall.of (Orc.cons sumFew (Orc.cons sumAw7 (Orc.cons sumCt (Orc.cons sumIeq (Orc.nil _))))) c4_ok (by simp [c4]) fun w0 own0 => ?_
  have hbd : c4.body = .seq c4.body.hd (.seq c4.body.tl.hd c4.body.tl.tl) := rfl
  by_cases g1 : (40 : Int) < (a.length : Int)
  · have g1 := eq_true g1
    rw [hbd]
    generalize c4.body.tl.tl = rest
    simp only [c4, C.hd, C.tl, toks, dToks_map, g1, on_gcall, off_gcall, flat_gcall, sumFew_f, sumFew_D, sumFew_flat, sumFew_r, go_sem, reduceCtorEq, reduceIte, Nat.reduceEqDiff, Nat.reduceAdd, Nat.reduceSub, Nat.reduceMul, Nat.reduceLT, Nat.reduceLeDiff, Nat.reduceBEq, Int.reduceEq, Int.reduceLT, Int.reduceLE, Int.reduceAdd, Int.reduceSub, Int.reduceNeg, Int.reduceToNat]
  by_cases g2 : (40 : Int) < (b.length : Int)
  · have g1 := eq_false g1; have g2 := eq_true g2
    rw [hbd]
    generalize c4.body.tl.tl = rest
    simp only [c4, C.hd, C.tl, toks, dToks_map, g1, g2, on_gcall, off_gcall, flat_gcall, sumFew_f, sumFew_D, sumFew_flat, sumFew_r, go_sem, reduceCtorEq, reduceIte, Nat.reduceEqDiff, Nat.reduceAdd, Nat.reduceSub, Nat.reduceMul, Nat.reduceLT, Nat.reduceLeDiff, Nat.reduceBEq, Int.reduceEq, Int.reduceLT, Int.reduceLE, Int.reduceAdd, Int.reduceSub, Int.reduceNeg, Int.reduceToNat]
  have hal : a.length ≤ 40 := by omega
  have hbl : b.length ≤ 40 := by omega
  have g1 := eq_false g1; have g2 := eq_false g2
  cases g3 : few a with
  | false =>
    rw [hbd]
    generalize c4.body.tl.tl = rest
    simp only [c4, C.hd, C.tl, toks, dToks_map, g1, g2, g3, on_gcall, off_gcall, flat_gcall, sumFew_f, sumFew_D, sumFew_flat, sumFew_r, go_sem, reduceCtorEq, reduceIte, Nat.reduceEqDiff, Nat.reduceAdd, Nat.reduceSub, Nat.reduceMul, Nat.reduceLT, Nat.reduceLeDiff, Nat.reduceBEq, Int.reduceEq, Int.reduceLT, Int.reduceLE, Int.reduceAdd, Int.reduceSub, Int.reduceNeg, Int.reduceToNat]
  | true =>
  cases g4 : few b with
  | false =>
    rw [hbd]
    generalize c4.body.tl.tl = rest
    simp only [c4, C.hd, C.tl, toks, dToks_map, g1, g2, g3, g4, on_gcall, off_gcall, flat_gcall, sumFew_f, sumFew_D, sumFew_flat, sumFew_r, go_sem, reduceCtorEq, reduceIte, Nat.reduceEqDiff, Nat.reduceAdd, Nat.reduceSub, Nat.reduceMul, Nat.reduceLT, Nat.reduceLeDiff, Nat.reduceBEq, Int.reduceEq, Int.reduceLT, Int.reduceLE, Int.reduceAdd, Int.reduceSub, Int.reduceNeg, Int.reduceToNat]
  | true =>
  have hTa := few_okT g3
  have hTb := few_okT g4
  have hs : okT (a ++ [spZ] ++ b) := okT_join hTa hTb hal hbl (by decide)
  have hc : okT (a ++ [cmZ] ++ b) := okT_join hTa hTb hal hbl (by decide)
  have hjoin := @ct_join a b
  have hla := ctO_len2 a (by omega)
  have hlb := ctO_len2 b (by omega)
  have hz0s : a.map Tok.enc ++ [[V.c (.int .i64 1), V.c (.string ⟨#[]⟩), V.c (.int .i64 0)]] = (a ++ [spZ]).map Tok.enc := by simp [Tok.enc, spZ]
  have tz1s : (a ++ [spZ]).take (a.length + 1) = a ++ [spZ] := List.take_of_length_le (by simp)
  have lz1s : (a ++ [spZ]).length = a.length + 1 := by simp
  have hz1s : (a ++ [spZ]).map Tok.enc ++ b.map Tok.enc = (a ++ [spZ] ++ b).map Tok.enc := by simp
  have lz2s : (a ++ [spZ] ++ b).length = a.length + 1 + b.length := by simp; omega
  have tz2s : (a ++ [spZ] ++ b).take (a.length + 1 + b.length) = a ++ [spZ] ++ b := List.take_of_length_le (by omega)
  have hz0c : a.map Tok.enc ++ [[V.c (.int .i64 16), V.c (.string ⟨#[]⟩), V.c (.int .i64 0)]] = (a ++ [cmZ]).map Tok.enc := by simp [Tok.enc, cmZ]
  have tz1c : (a ++ [cmZ]).take (a.length + 1) = a ++ [cmZ] := List.take_of_length_le (by simp)
  have lz1c : (a ++ [cmZ]).length = a.length + 1 := by simp
  have hz1c : (a ++ [cmZ]).map Tok.enc ++ b.map Tok.enc = (a ++ [cmZ] ++ b).map Tok.enc := by simp
  have lz2c : (a ++ [cmZ] ++ b).length = a.length + 1 + b.length := by simp; omega
  have tz2c : (a ++ [cmZ] ++ b).take (a.length + 1 + b.length) = a ++ [cmZ] ++ b := List.take_of_length_le (by omega)
  have u0 := eq_true (show a.length ≤ 1099511627776 by omega)
  have u1 := eq_true (show a.length ≤ 1099511627775 by omega)
  have u2 := eq_true (show a.length * 32 ≤ 140737488355328 by omega)
  have u3 := eq_true (show a.length + 1 ≤ 1099511627776 by omega)
  have u4 := eq_true (show a.length + 1 ≤ 1099511627775 by omega)
  have u5 := eq_true (show (a.length + 1) * 32 ≤ 140737488355328 by omega)
  have u6 := eq_true (show a.length + 1 + b.length ≤ 1099511627776 by omega)
  have u7 := eq_true (show a.length + 1 + b.length ≤ 1099511627775 by omega)
  have u8 := eq_true (show (a.length + 1 + b.length) * 32 ≤ 140737488355328 by omega)
  generalize hcA : ctO a = A at *
  generalize hcB : ctO b = B at *
  obtain ⟨A, An, Ai⟩ := A
  obtain ⟨B, Bn, Bi⟩ := B
  simp only at hjoin hla hlb
  by_cases hq : (Ai = true ∧ An = false) ∧ (Bi = true ∧ Bn = false)
  · obtain ⟨⟨rfl, rfl⟩, rfl, rfl⟩ := hq
    obtain ⟨j1, j2⟩ := hjoin rfl rfl rfl rfl
    clear hjoin
    have hAB : (A ++ B).length ≤ 2000000 := by simp; omega
    generalize hX : ctO (a ++ [cmZ] ++ b) = X at *
    obtain ⟨X, Xn, Xi⟩ := X
    simp only at j2
    subst j2
    have hAj : A.map Itm.enc ++ B.map Itm.enc = (A ++ B).map Itm.enc := by simp
    have lAB : (A ++ B).length = A.length + B.length := by simp
    have tAB : (A ++ B).take (A.length + B.length) = A ++ B := List.take_of_length_le (by omega)
    rw [lAB] at hAB
    have w0 := eq_true (show A.length ≤ 1099511627776 by omega); have w1 := eq_true (show A.length * 56 ≤ 140737488355328 by omega)
    have w2 := eq_true (show A.length + B.length ≤ 1099511627776 by omega); have w3 := eq_true (show (A.length + B.length) * 56 ≤ 140737488355328 by omega)
    simp -implicitDefEqProofs only [c4, toks, dToks_map, g1, g2, g3, g4, hTa, hTb, hcA, hcB, ctV, itms, dItms_map, List.take_length, Nat.le_refl, hs, hc, j1, hX, hAj, lAB, tAB, hAB, w0, w1, w2, w3, mapO_itms11, mapO_itms10, hz0s, tz1s, lz1s, hz1s, lz2s, tz2s, hz0c, tz1c, lz1c, hz1c, lz2c, tz2c, u0, u1, u2, u3, u4, u5, u6, u7, u8, on_gcall, off_gcall, flat_gcall, wpC_seq_xreg, wpC_xreg, wpXR_nil, wpXR_own, wpXR_flu, xeOK, xe, argTops, openArgs, Orc.ppre_cons, Orc.pr_cons, Orc.ppre_econs, Orc.pr_econs, Orc.ppre_fcons, Orc.pr_fcons, Orc.ppre_gcons, Orc.pr_gcons, List.head?_cons, List.headD_cons, XE.val, XE.heap, efO, shutArgs, xfoot, footO, V.tops, V.top1, clashOne, noClash, Orc.flat_fcons, Orc.pre_fcons, Orc.v_fcons, Orc.hp_fcons, Orc.qpre_fcons, Orc.qv_fcons, Orc.fpre_fcons, Orc.fes_fcons, Orc.flat_gcons, Orc.pre_gcons, Orc.v_gcons, Orc.hp_gcons, Orc.qpre_gcons, Orc.qv_gcons, Orc.fpre_gcons, Orc.fes_gcons, GSum.pre, GSum.v, GSum.hp, Orc.fpre_cons, Orc.fes_cons, Orc.fpre_econs, Orc.fes_econs, FSum.pre, FSum.v, FSum.hp, fres, O.calls, List.flatMap_cons, List.flatMap_nil, List.contains_cons, List.contains_nil, Bool.not_true, Bool.not_false, Heap.freeze, List.mapIdx_cons, List.mapIdx_nil, List.elem_cons, List.elem_nil, fluP, fluV, evF, bne_iff_ne, ne_eq, Option.some.injEq, sumFew_f, sumFew_D, sumFew_flat, sumFew_r, go_sem, reduceCtorEq, reduceIte, Nat.reduceEqDiff, Nat.reduceAdd, Nat.reduceSub, Nat.reduceMul, Nat.reduceLT, Nat.reduceLeDiff, Nat.reduceBEq, Int.reduceEq, Int.reduceLT, Int.reduceLE, Int.reduceAdd, Int.reduceSub, Int.reduceNeg, Int.reduceToNat]
  · have hbd2 : c4.body.tl.tl = .seq c4.body.tl.tl.hd (.seq c4.body.tl.tl.tl.hd (.seq c4.body.tl.tl.tl.tl.hd c4.body.tl.tl.tl.tl.tl)) := rfl
    rw [hbd, hbd2]
    generalize c4.body.tl.tl.tl.tl.tl = rest
    cases Ai <;> cases An <;> cases Bi <;> cases Bn <;> first | exact absurd ⟨⟨rfl, rfl⟩, rfl, rfl⟩ hq | simp -implicitDefEqProofs only [C.hd, C.tl, c4, toks, dToks_map, g1, g2, g3, g4, hTa, hTb, hcA, hcB, ctV, itms, dItms_map, List.take_length, Nat.le_refl, on_gcall, off_gcall, flat_gcall, sumFew_f, sumFew_D, sumFew_flat, sumFew_r, go_sem, reduceCtorEq, reduceIte, Nat.reduceEqDiff, Nat.reduceAdd, Nat.reduceSub, Nat.reduceMul, Nat.reduceLT, Nat.reduceLeDiff, Nat.reduceBEq, Int.reduceEq, Int.reduceLT, Int.reduceLE, Int.reduceAdd, Int.reduceSub, Int.reduceNeg, Int.reduceToNat]
end Go.Proofs.Ytjofgafeaiiegaa
