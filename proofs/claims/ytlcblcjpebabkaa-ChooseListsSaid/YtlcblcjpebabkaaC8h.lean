/- Layer 8: the law of lists of selectors. -/
import Derived.Test.YtlcblcjpebabkaaC8g
import Derived.Test.YtlcblcjpebabkaaC8a
namespace Go.Proofs.Ytlcblcjpebabkaa
open Go.Sx
set_option linter.unusedSimpArgs false
set_option maxHeartbeats 8000000
set_option maxRecDepth 100000

abbrev tokC : List Cell := [.int .i64, .str, .int .i64]
theorem toks_of {x : V} (h : CellOK (.slc tokC) x) : ∃ l : List Tok, x = toks l := by
  cases h with
  | slc cs ess hl h h2 =>
    refine ⟨ess.map dTokL, ?_⟩
    unfold toks
    have e : (ess.map dTokL).map Tok.enc = ess := by
      rw [List.map_map]
      conv => rhs; rw [← List.map_id ess]
      apply List.map_congr_left
      intro es hes
      have hlen := h es hes
      have a0 := h2 es hes 0 _ rfl
      have a1 := h2 es hes 1 _ rfl
      have a2 := h2 es hes 2 _ rfl
      match es, hlen with
      | [a, b, c], _ =>
        simp only [List.getD_cons_zero, List.getD_cons_succ] at a0 a1 a2
        cases a0; cases a1; cases a2
        rfl
    rw [e]
    rfl
def ParQ (l : List Tok) : Prop := PCall Try.prog 15 [toks l] (psV8 (psC l))
theorem parQ_ok {l : List Tok} (h : ParQ l) : PCall Try.prog 15 [toks l] (psV8 (psC l)) := h
def sumPar8 : Sum Try.prog := ⟨15, fun args => args = [toks (dToks (args.getD 0 .any))] ∧ ParQ (dToks (args.getD 0 .any)), fun args => psV8 (psC (dToks (args.getD 0 .any))), fun args h => by
  have := parQ_ok h.2; rwa [← h.1] at this, false⟩
theorem sumPar8_f : sumPar8.f = 15 := rfl
theorem sumPar8_D (args : List V) : sumPar8.D args = (args = [toks (dToks (args.getD 0 .any))] ∧ ParQ (dToks (args.getD 0 .any))) := rfl
theorem sumPar8_flat : sumPar8.flat = false := rfl
theorem sumPar8_r (args : List V) : sumPar8.r args = psV8 (psC (dToks (args.getD 0 .any))) := rfl
attribute [go_sem] sumPar8_f sumPar8_D sumPar8_flat sumPar8_r
theorem parQ_free {a : List Tok} (h : freeK a) (hl : a.length ≤ 1000) : ParQ a :=
  parse8N_ok a (by omega) (deep_nk (free_nk h)) fun q hq => by
    rw [splL_no (free_nk h) (free_16 h)] at hq
    obtain rfl := List.mem_singleton.1 hq
    exact fun t ht => h t (List.mem_of_mem_take (List.mem_of_mem_drop ht))
theorem parQ_join {a b : List Tok} (ha : freeK a) (hb : freeK b) (hl : a.length ≤ 1000) (hl' : b.length ≤ 1000) : ParQ (joinT a b) :=
  parse8N_ok _ (by unfold joinT; simp; omega) (deep_nk (join_nk ha hb)) fun q hq => by
    rw [splL_join ha hb] at hq
    obtain ⟨e1, e2⟩ := join_parts a b
    rcases List.mem_cons.1 hq with rfl | hq
    · simp only [Int.toNat_natCast]
      rw [show ((0 : Int).toNat) = 0 from rfl, e1]; exact ha
    · obtain rfl := List.mem_singleton.1 hq
      simp only [Int.toNat_natCast]
      rw [e2]; exact hb
theorem pad_len (a : List Tok) : (pad a).length = a.length + 2 := by unfold pad; simp
theorem okM1 {s : Sel} (h : okC s) : okM [s] := ⟨by simp, fun i hi => by
  match i, hi with
  | 0, _ => exact h⟩
theorem okM2 {s t : Sel} (h : okC s) (h' : okC t) : okM [s, t] := ⟨by simp, fun i hi => by
  match i, hi with
  | 0, _ => exact h
  | 1, _ => exact h'⟩
theorem okM0 : okM [] := ⟨by simp, fun i hi => by cases hi⟩
theorem free_app {a b : List Tok} (h : freeK (a ++ b)) : freeK a ∧ freeK b := ⟨fun t ht => h t (by simp [ht]), fun t ht => h t (by simp [ht])⟩
theorem freeK_of {l : List Tok} (h : ∀ i, i < l.length → ¬ barK (l.getD i .zero)) : freeK l := fun t ht => by
  obtain ⟨i, hi, rfl⟩ := List.mem_iff_getElem.1 ht
  have := h i hi
  rwa [List.getD_eq_getElem?_getD, List.getElem?_eq_getElem hi] at this
theorem mapO_selE (S : Nat → Bool) (h : Heap) (s : Sel) : mapO (res S h 11) (selE s) = some (selE s) := rfl
structure LiS8 where
  k : Nat
  clk : Nat
theorem chooseLists_law (x : V) (hx : CellOK (.slc tokC) x) (y : V) (hy : CellOK (.slc tokC) y) : PCall Try.prog 5 [x, y] (.c (.bool true)) := by
  obtain ⟨a, rfl⟩ := toks_of hx
  obtain ⟨b, rfl⟩ := toks_of hy
  refine PCall.of (Orc.cons sumFew (Orc.cons sumAwake8 (Orc.cons sumPar8 (Orc.cons sumSame (Orc.nil _))))) c5_ok (by simp [c5]) fun w0 own0 => ?_
  have hb : c5.body = .seq c5.body.hd (.seq c5.body.tl.hd c5.body.tl.tl) := rfl
  by_cases g1 : (40 : Int) < (a.length : Int)
  · have g1 := eq_true g1
    rw [hb]
    generalize c5.body.tl.tl = rest
    simp only [c5, C.hd, C.tl, toks, dToks_map, g1, on_gcall, off_gcall, flat_gcall, sumFew_f, sumFew_D, sumFew_flat, sumFew_r, go_sem, reduceCtorEq, reduceIte, Nat.reduceEqDiff, Nat.reduceAdd, Nat.reduceSub, Nat.reduceMul, Nat.reduceLT, Nat.reduceLeDiff, Nat.reduceBEq, Int.reduceEq, Int.reduceLT, Int.reduceLE, Int.reduceAdd, Int.reduceSub, Int.reduceNeg, Int.reduceToNat]
  by_cases g2 : (40 : Int) < (b.length : Int)
  · have g1 := eq_false g1; have g2 := eq_true g2
    rw [hb]
    generalize c5.body.tl.tl = rest
    simp only [c5, C.hd, C.tl, toks, dToks_map, g1, g2, on_gcall, off_gcall, flat_gcall, sumFew_f, sumFew_D, sumFew_flat, sumFew_r, go_sem, reduceCtorEq, reduceIte, Nat.reduceEqDiff, Nat.reduceAdd, Nat.reduceSub, Nat.reduceMul, Nat.reduceLT, Nat.reduceLeDiff, Nat.reduceBEq, Int.reduceEq, Int.reduceLT, Int.reduceLE, Int.reduceAdd, Int.reduceSub, Int.reduceNeg, Int.reduceToNat]
  have hal : a.length ≤ 40 := by omega
  have hbl : b.length ≤ 40 := by omega
  have g1 := eq_false g1; have g2 := eq_false g2
  cases fa : few a with
  | false =>
    rw [hb]
    generalize c5.body.tl.tl = rest
    simp only [c5, C.hd, C.tl, toks, dToks_map, g1, g2, fa, on_gcall, off_gcall, flat_gcall, sumFew_f, sumFew_D, sumFew_flat, sumFew_r, go_sem, reduceCtorEq, reduceIte, Nat.reduceEqDiff, Nat.reduceAdd, Nat.reduceSub, Nat.reduceMul, Nat.reduceLT, Nat.reduceLeDiff, Nat.reduceBEq, Int.reduceEq, Int.reduceLT, Int.reduceLE, Int.reduceAdd, Int.reduceSub, Int.reduceNeg, Int.reduceToNat]
  | true =>
  cases fb : few b with
  | false =>
    rw [hb]
    generalize c5.body.tl.tl = rest
    simp only [c5, C.hd, C.tl, toks, dToks_map, g1, g2, fa, fb, on_gcall, off_gcall, flat_gcall, sumFew_f, sumFew_D, sumFew_flat, sumFew_r, go_sem, reduceCtorEq, reduceIte, Nat.reduceEqDiff, Nat.reduceAdd, Nat.reduceSub, Nat.reduceMul, Nat.reduceLT, Nat.reduceLeDiff, Nat.reduceBEq, Int.reduceEq, Int.reduceLT, Int.reduceLE, Int.reduceAdd, Int.reduceSub, Int.reduceNeg, Int.reduceToNat]
  | true =>
  have hje : a.map Tok.enc ++ b.map Tok.enc = (a ++ b).map Tok.enc := by simp
  have m1 := eq_true (show a.length ≤ 1099511627776 by omega); have m2 := eq_true (show a.length * 32 ≤ 140737488355328 by omega)
  have m3 := eq_true (show a.length + b.length ≤ 1099511627776 by omega); have m4 := eq_true (show (a.length + b.length) * 32 ≤ 140737488355328 by omega)
  simp only [c5, toks, dToks_map, g1, g2, fa, fb, hje, m1, m2, m3, m4, List.take_length, Nat.le_refl, on_gcall, off_gcall, flat_gcall, sumFew_f, sumFew_D, sumFew_flat, sumFew_r, go_sem, reduceCtorEq, reduceIte, Nat.reduceEqDiff, Nat.reduceAdd, Nat.reduceSub, Nat.reduceMul, Nat.reduceLT, Nat.reduceLeDiff, Nat.reduceBEq, Int.reduceEq, Int.reduceLT, Int.reduceLE, Int.reduceAdd, Int.reduceSub, Int.reduceNeg, Int.reduceToNat]
  have hlen : (a ++ b).length = a.length + b.length := by simp
  generalize hc : a ++ b = c at *
  refine SemC.lp (α := LiS8) (fun x => [(0, .slc 3 (a.map Tok.enc)), (1, .slc 3 (b.map Tok.enc)), (40, .ref 0 2 0 (a.length + b.length)), (41, .c (.int .i64 ((a.length + b.length : Nat) : Int))), (42, vi x.k)])
    (fun x => ⟨[⟨2, 3, c.map Tok.enc, false, [vi 0, vs ⟨#[]⟩, vi 0]⟩], x.clk⟩)
    (fun x => x.k ≤ c.length ∧ ∀ i, i < x.k → ¬ barK (c.getD i .zero)) (fun x => c.length - x.k) ⟨0, 3⟩ ⟨Nat.zero_le _, fun i hi => by simp at hi⟩ (St.cut ?_ ?_ ?_) fun x hx => ?_
  · simp [Agrees, upd_at, initE_at]
  · simp [Heap.alloc]
  · rfl
  obtain ⟨k, clk⟩ := x
  obtain ⟨hk, hB⟩ := hx
  simp only at hk hB
  by_cases hkl : k = c.length
  · have hfr : freeK c := freeK_of (by rw [← hkl]; exact hB)
    rw [← hc] at hfr
    obtain ⟨ha, hb'⟩ := free_app hfr
    have e9 : ((k : Int) < ((a.length + b.length : Nat) : Int)) = False := eq_false (by omega)
    have pa := psC_free ha
    have pb := psC_free hb'
    have pz := psC_join ha hb'
    have pw := psC_join (pad_free ha) (pad_free hb')
    have qa := parQ_free ha (by omega)
    have qb := parQ_free hb' (by omega)
    have qz := parQ_join ha hb' (by omega) (by omega)
    have qw := parQ_join (pad_free ha) (pad_free hb') (by rw [pad_len]; omega) (by rw [pad_len]; omega)
    rw [oneS_pad, oneS_pad] at pw
    have sa := fun s => oneS_small (v := a) ha (by omega) (s := s)
    have sb := fun s => oneS_small (v := b) hb' (by omega) (s := s)
    generalize oneS a = oa at *
    generalize oneS b = ob at *
    have hz0 : a.map Tok.enc ++ [[V.c (.int .i64 16), V.c (.string ⟨#[]⟩), V.c (.int .i64 0)]] = (a ++ [commaT]).map Tok.enc := by simp [Tok.enc, commaT]
    have tz1 : (a ++ [commaT]).take (a.length + 1) = a ++ [commaT] := List.take_of_length_le (by simp)
    have lz1 : (a ++ [commaT]).length = a.length + 1 := by simp
    have hz1 : (a ++ [commaT]).map Tok.enc ++ b.map Tok.enc = (joinT a b).map Tok.enc := by simp [joinT]
    have lz2 : (joinT a b).length = a.length + 1 + b.length := by unfold joinT; simp; omega
    have tz2 : (joinT a b).take (a.length + 1 + b.length) = joinT a b := List.take_of_length_le (by omega)
    have hA : 1 + a.length = a.length + 1 := by omega
    have hw1 : [V.c (.int .i64 1), V.c (.string ⟨#[]⟩), V.c (.int .i64 0)] :: (a.map Tok.enc ++ [[V.c (.int .i64 1), V.c (.string ⟨#[]⟩), V.c (.int .i64 0)]]) = (pad a).map Tok.enc := by simp [Tok.enc, spT, pad]
    have lw1 : (pad a).length = a.length + 1 + 1 := pad_len a
    have tw1 : (pad a).take (a.length + 1 + 1) = pad a := List.take_of_length_le (by omega)
    have hw2 : (pad a).map Tok.enc ++ [[V.c (.int .i64 16), V.c (.string ⟨#[]⟩), V.c (.int .i64 0)], [V.c (.int .i64 1), V.c (.string ⟨#[]⟩), V.c (.int .i64 0)]] = (pad a ++ [commaT, spT]).map Tok.enc := by simp [Tok.enc, spT, commaT]
    have lw2 : (pad a ++ [commaT, spT]).length = a.length + 1 + 1 + 2 := by simp [pad_len]
    have tw2 : (pad a ++ [commaT, spT]).take (a.length + 1 + 1 + 2) = pad a ++ [commaT, spT] := List.take_of_length_le (by omega)
    have hw3 : (pad a ++ [commaT, spT]).map Tok.enc ++ b.map Tok.enc = (pad a ++ commaT :: spT :: b).map Tok.enc := by simp
    have lw3 : (pad a ++ commaT :: spT :: b).length = a.length + 1 + 1 + 2 + b.length := by simp [pad_len]; omega
    have tw3 : (pad a ++ commaT :: spT :: b).take (a.length + 1 + 1 + 2 + b.length) = pad a ++ commaT :: spT :: b := List.take_of_length_le (by omega)
    have hw4 : (pad a ++ commaT :: spT :: b).map Tok.enc ++ [[V.c (.int .i64 1), V.c (.string ⟨#[]⟩), V.c (.int .i64 0)]] = (joinT (pad a) (pad b)).map Tok.enc := by simp [Tok.enc, spT, pad, joinT]
    have lw4 : (joinT (pad a) (pad b)).length = a.length + 1 + 1 + 2 + b.length + 1 := by unfold joinT; simp [pad_len]; omega
    have tw4 : (joinT (pad a) (pad b)).take (a.length + 1 + 1 + 2 + b.length + 1) = joinT (pad a) (pad b) := List.take_of_length_le (by omega)
    have u0 := eq_true (show a.length ≤ 1099511627776 by omega)
    have u1 := eq_true (show a.length ≤ 1099511627775 by omega)
    have u2 := eq_true (show a.length * 32 ≤ 140737488355328 by omega)
    have u3 := eq_true (show a.length + 1 ≤ 1099511627776 by omega)
    have u4 := eq_true (show a.length + 1 ≤ 1099511627775 by omega)
    have u5 := eq_true (show (a.length + 1) * 32 ≤ 140737488355328 by omega)
    have u6 := eq_true (show a.length + 1 + b.length ≤ 1099511627776 by omega)
    have u7 := eq_true (show a.length + 1 + b.length ≤ 1099511627775 by omega)
    have u8 := eq_true (show (a.length + 1 + b.length) * 32 ≤ 140737488355328 by omega)
    have u9 := eq_true (show a.length + 1 + 1 ≤ 1099511627776 by omega)
    have u10 := eq_true (show a.length + 1 + 1 ≤ 1099511627775 by omega)
    have u11 := eq_true (show (a.length + 1 + 1) * 32 ≤ 140737488355328 by omega)
    have u12 := eq_true (show a.length + 1 + 1 + 2 ≤ 1099511627776 by omega)
    have u13 := eq_true (show a.length + 1 + 1 + 2 ≤ 1099511627775 by omega)
    have u14 := eq_true (show (a.length + 1 + 1 + 2) * 32 ≤ 140737488355328 by omega)
    have u15 := eq_true (show a.length + 1 + 1 + 2 + b.length ≤ 1099511627776 by omega)
    have u16 := eq_true (show a.length + 1 + 1 + 2 + b.length ≤ 1099511627775 by omega)
    have u17 := eq_true (show (a.length + 1 + 1 + 2 + b.length) * 32 ≤ 140737488355328 by omega)
    have u18 := eq_true (show a.length + 1 + 1 + 2 + b.length + 1 ≤ 1099511627776 by omega)
    have u19 := eq_true (show a.length + 1 + 1 + 2 + b.length + 1 ≤ 1099511627775 by omega)
    have u20 := eq_true (show (a.length + 1 + 1 + 2 + b.length + 1) * 32 ≤ 140737488355328 by omega)
    have d0 : dSels (.slc 1 []) = [] := rfl
    cases oa with
    | none =>
      cases ob with
      | none =>
        simp only at pz pw
        simp only [Option.map_none] at pa pb
        simp only [e9, qa, qb, qz, qw, pa, pb, pz, pw, psV8, sels, Option.getD_some, Option.getD_none, Option.isSome_some, Option.isSome_none, List.take_length, List.length_map, Nat.le_refl, toks, dToks_map, okM0, decide_true, hz0, tz1, lz1, hz1, lz2, tz2, hA, hw1, lw1, tw1, hw2, lw2, tw2, hw3, lw3, tw3, hw4, lw4, tw4, u0, u1, u2, u3, u4, u5, u6, u7, u8, u9, u10, u11, u12, u13, u14, u15, u16, u17, u18, u19, u20, d0, on_gcall, off_gcall, flat_gcall, wpC_seq_xreg, wpC_xreg, wpXR_nil, wpXR_own, wpXR_flu, xeOK, xe, argTops, openArgs, Orc.ppre_cons, Orc.pr_cons, Orc.ppre_econs, Orc.pr_econs, Orc.ppre_fcons, Orc.pr_fcons, Orc.ppre_gcons, Orc.pr_gcons, List.head?_cons, List.headD_cons, XE.val, XE.heap, efO, shutArgs, xfoot, footO, V.tops, V.top1, clashOne, noClash, Orc.flat_fcons, Orc.pre_fcons, Orc.v_fcons, Orc.hp_fcons, Orc.qpre_fcons, Orc.qv_fcons, Orc.fpre_fcons, Orc.fes_fcons, Orc.flat_gcons, Orc.pre_gcons, Orc.v_gcons, Orc.hp_gcons, Orc.qpre_gcons, Orc.qv_gcons, Orc.fpre_gcons, Orc.fes_gcons, GSum.pre, GSum.v, GSum.hp, Orc.fpre_cons, Orc.fes_cons, Orc.fpre_econs, Orc.fes_econs, FSum.pre, FSum.v, FSum.hp, fres, O.calls, List.flatMap_cons, List.flatMap_nil, List.contains_cons, List.contains_nil, Bool.not_true, Bool.not_false, Heap.freeze, List.mapIdx_cons, List.mapIdx_nil, List.elem_cons, List.elem_nil, fluP, fluV, evF, bne_iff_ne, ne_eq, Option.some.injEq, sumFew_f, sumFew_D, sumFew_flat, sumFew_r, go_sem, reduceCtorEq, reduceIte, Nat.reduceEqDiff, Nat.reduceAdd, Nat.reduceSub, Nat.reduceMul, Nat.reduceLT, Nat.reduceLeDiff, Nat.reduceBEq, Int.reduceEq, Int.reduceLT, Int.reduceLE, Int.reduceAdd, Int.reduceSub, Int.reduceNeg, Int.reduceToNat]
      | some t =>
        simp only at pz pw
        simp only [Option.map_none, Option.map_some] at pa pb
        simp only [e9, qa, qb, qz, qw, pa, pb, pz, pw, psV8, sels, Option.getD_some, Option.getD_none, Option.isSome_some, Option.isSome_none, List.take_length, List.length_map, Nat.le_refl, toks, dToks_map, okM0, decide_true, hz0, tz1, lz1, hz1, lz2, tz2, hA, hw1, lw1, tw1, hw2, lw2, tw2, hw3, lw3, tw3, hw4, lw4, tw4, u0, u1, u2, u3, u4, u5, u6, u7, u8, u9, u10, u11, u12, u13, u14, u15, u16, u17, u18, u19, u20, d0, on_gcall, off_gcall, flat_gcall, wpC_seq_xreg, wpC_xreg, wpXR_nil, wpXR_own, wpXR_flu, xeOK, xe, argTops, openArgs, Orc.ppre_cons, Orc.pr_cons, Orc.ppre_econs, Orc.pr_econs, Orc.ppre_fcons, Orc.pr_fcons, Orc.ppre_gcons, Orc.pr_gcons, List.head?_cons, List.headD_cons, XE.val, XE.heap, efO, shutArgs, xfoot, footO, V.tops, V.top1, clashOne, noClash, Orc.flat_fcons, Orc.pre_fcons, Orc.v_fcons, Orc.hp_fcons, Orc.qpre_fcons, Orc.qv_fcons, Orc.fpre_fcons, Orc.fes_fcons, Orc.flat_gcons, Orc.pre_gcons, Orc.v_gcons, Orc.hp_gcons, Orc.qpre_gcons, Orc.qv_gcons, Orc.fpre_gcons, Orc.fes_gcons, GSum.pre, GSum.v, GSum.hp, Orc.fpre_cons, Orc.fes_cons, Orc.fpre_econs, Orc.fes_econs, FSum.pre, FSum.v, FSum.hp, fres, O.calls, List.flatMap_cons, List.flatMap_nil, List.contains_cons, List.contains_nil, Bool.not_true, Bool.not_false, Heap.freeze, List.mapIdx_cons, List.mapIdx_nil, List.elem_cons, List.elem_nil, fluP, fluV, evF, bne_iff_ne, ne_eq, Option.some.injEq, sumFew_f, sumFew_D, sumFew_flat, sumFew_r, go_sem, reduceCtorEq, reduceIte, Nat.reduceEqDiff, Nat.reduceAdd, Nat.reduceSub, Nat.reduceMul, Nat.reduceLT, Nat.reduceLeDiff, Nat.reduceBEq, Int.reduceEq, Int.reduceLT, Int.reduceLE, Int.reduceAdd, Int.reduceSub, Int.reduceNeg, Int.reduceToNat]
    | some s =>
      have os := sa s rfl
      have o1 := okM1 os
      have ds : dSels (.slc 1 [selE s]) = [s] := dSels_map [s]
      cases ob with
      | none =>
        simp only at pz pw
        simp only [Option.map_none, Option.map_some] at pa pb
        simp only [e9, qa, qb, qz, qw, pa, pb, pz, pw, psV8, sels, Option.getD_some, Option.getD_none, Option.isSome_some, Option.isSome_none, List.take_length, List.length_map, Nat.le_refl, toks, dToks_map, okM0, decide_true, hz0, tz1, lz1, hz1, lz2, tz2, hA, hw1, lw1, tw1, hw2, lw2, tw2, hw3, lw3, tw3, hw4, lw4, tw4, u0, u1, u2, u3, u4, u5, u6, u7, u8, u9, u10, u11, u12, u13, u14, u15, u16, u17, u18, u19, u20, d0, on_gcall, off_gcall, flat_gcall, wpC_seq_xreg, wpC_xreg, wpXR_nil, wpXR_own, wpXR_flu, xeOK, xe, argTops, openArgs, Orc.ppre_cons, Orc.pr_cons, Orc.ppre_econs, Orc.pr_econs, Orc.ppre_fcons, Orc.pr_fcons, Orc.ppre_gcons, Orc.pr_gcons, List.head?_cons, List.headD_cons, XE.val, XE.heap, efO, shutArgs, xfoot, footO, V.tops, V.top1, clashOne, noClash, Orc.flat_fcons, Orc.pre_fcons, Orc.v_fcons, Orc.hp_fcons, Orc.qpre_fcons, Orc.qv_fcons, Orc.fpre_fcons, Orc.fes_fcons, Orc.flat_gcons, Orc.pre_gcons, Orc.v_gcons, Orc.hp_gcons, Orc.qpre_gcons, Orc.qv_gcons, Orc.fpre_gcons, Orc.fes_gcons, GSum.pre, GSum.v, GSum.hp, Orc.fpre_cons, Orc.fes_cons, Orc.fpre_econs, Orc.fes_econs, FSum.pre, FSum.v, FSum.hp, fres, O.calls, List.flatMap_cons, List.flatMap_nil, List.contains_cons, List.contains_nil, Bool.not_true, Bool.not_false, Heap.freeze, List.mapIdx_cons, List.mapIdx_nil, List.elem_cons, List.elem_nil, fluP, fluV, evF, bne_iff_ne, ne_eq, Option.some.injEq, sumFew_f, sumFew_D, sumFew_flat, sumFew_r, go_sem, reduceCtorEq, reduceIte, Nat.reduceEqDiff, Nat.reduceAdd, Nat.reduceSub, Nat.reduceMul, Nat.reduceLT, Nat.reduceLeDiff, Nat.reduceBEq, Int.reduceEq, Int.reduceLT, Int.reduceLE, Int.reduceAdd, Int.reduceSub, Int.reduceNeg, Int.reduceToNat]
      | some t =>
        have ot := sb t rfl
        have o2 := okM2 os ot
        have dd : dSels (.slc 1 [selE s, selE t]) = [s, t] := dSels_map [s, t]
        simp only at pz pw
        simp only [Option.map_some] at pa pb
        simp only [o1, o2, ds, dd, mapO_selE, e9, qa, qb, qz, qw, pa, pb, pz, pw, psV8, sels, Option.getD_some, Option.getD_none, Option.isSome_some, Option.isSome_none, List.take_length, List.length_map, Nat.le_refl, toks, dToks_map, okM0, decide_true, hz0, tz1, lz1, hz1, lz2, tz2, hA, hw1, lw1, tw1, hw2, lw2, tw2, hw3, lw3, tw3, hw4, lw4, tw4, u0, u1, u2, u3, u4, u5, u6, u7, u8, u9, u10, u11, u12, u13, u14, u15, u16, u17, u18, u19, u20, d0, on_gcall, off_gcall, flat_gcall, wpC_seq_xreg, wpC_xreg, wpXR_nil, wpXR_own, wpXR_flu, xeOK, xe, argTops, openArgs, Orc.ppre_cons, Orc.pr_cons, Orc.ppre_econs, Orc.pr_econs, Orc.ppre_fcons, Orc.pr_fcons, Orc.ppre_gcons, Orc.pr_gcons, List.head?_cons, List.headD_cons, XE.val, XE.heap, efO, shutArgs, xfoot, footO, V.tops, V.top1, clashOne, noClash, Orc.flat_fcons, Orc.pre_fcons, Orc.v_fcons, Orc.hp_fcons, Orc.qpre_fcons, Orc.qv_fcons, Orc.fpre_fcons, Orc.fes_fcons, Orc.flat_gcons, Orc.pre_gcons, Orc.v_gcons, Orc.hp_gcons, Orc.qpre_gcons, Orc.qv_gcons, Orc.fpre_gcons, Orc.fes_gcons, GSum.pre, GSum.v, GSum.hp, Orc.fpre_cons, Orc.fes_cons, Orc.fpre_econs, Orc.fes_econs, FSum.pre, FSum.v, FSum.hp, fres, O.calls, List.flatMap_cons, List.flatMap_nil, List.contains_cons, List.contains_nil, Bool.not_true, Bool.not_false, Heap.freeze, List.mapIdx_cons, List.mapIdx_nil, List.elem_cons, List.elem_nil, fluP, fluV, evF, bne_iff_ne, ne_eq, Option.some.injEq, sumFew_f, sumFew_D, sumFew_flat, sumFew_r, go_sem, reduceCtorEq, reduceIte, Nat.reduceEqDiff, Nat.reduceAdd, Nat.reduceSub, Nat.reduceMul, Nat.reduceLT, Nat.reduceLeDiff, Nat.reduceBEq, Int.reduceEq, Int.reduceLT, Int.reduceLE, Int.reduceAdd, Int.reduceSub, Int.reduceNeg, Int.reduceToNat]
  have e9 : ((k : Int) < ((a.length + b.length : Nat) : Int)) = True := eq_true (by omega)
  have e0 : (0 : Int) ≤ (k : Int) := by omega
  have e2 : (k : Int) < (c.length : Int) := by omega
  have hg := getD_tokC c k
  have hnx : ¬ barK (c.getD k .zero) → ∀ i, i < k + 1 → ¬ barK (c.getD i .zero) := fun hb i hi => by
    by_cases h : i = k
    · subst h; exact hb
    · exact hB i (by omega)
  generalize c.getD k .zero = t at *
  by_cases k16 : t.kind = 16
  · have k16 := eq_true k16
    simp only [e0, e2, e9, hg, k16, Tok.enc, toks, on_gcall, off_gcall, flat_gcall, sumFew_f, sumFew_D, sumFew_flat, sumFew_r, go_sem, reduceCtorEq, reduceIte, Nat.reduceEqDiff, Nat.reduceAdd, Nat.reduceSub, Nat.reduceMul, Nat.reduceLT, Nat.reduceLeDiff, Nat.reduceBEq, Int.reduceEq, Int.reduceLT, Int.reduceLE, Int.reduceAdd, Int.reduceSub, Int.reduceNeg, Int.reduceToNat]
    omega
  by_cases k3 : t.kind = 3
  · have k16 := eq_false k16; have k3 := eq_true k3
    simp only [e0, e2, e9, hg, k16, k3, Tok.enc, toks, on_gcall, off_gcall, flat_gcall, sumFew_f, sumFew_D, sumFew_flat, sumFew_r, go_sem, reduceCtorEq, reduceIte, Nat.reduceEqDiff, Nat.reduceAdd, Nat.reduceSub, Nat.reduceMul, Nat.reduceLT, Nat.reduceLeDiff, Nat.reduceBEq, Int.reduceEq, Int.reduceLT, Int.reduceLE, Int.reduceAdd, Int.reduceSub, Int.reduceNeg, Int.reduceToNat]
    omega
  by_cases k12 : t.kind = 12
  · have k16 := eq_false k16; have k3 := eq_false k3; have k12 := eq_true k12
    simp only [e0, e2, e9, hg, k16, k3, k12, Tok.enc, toks, on_gcall, off_gcall, flat_gcall, sumFew_f, sumFew_D, sumFew_flat, sumFew_r, go_sem, reduceCtorEq, reduceIte, Nat.reduceEqDiff, Nat.reduceAdd, Nat.reduceSub, Nat.reduceMul, Nat.reduceLT, Nat.reduceLeDiff, Nat.reduceBEq, Int.reduceEq, Int.reduceLT, Int.reduceLE, Int.reduceAdd, Int.reduceSub, Int.reduceNeg, Int.reduceToNat]
    omega
  by_cases k13 : t.kind = 13
  · have k16 := eq_false k16; have k3 := eq_false k3; have k12 := eq_false k12; have k13 := eq_true k13
    simp only [e0, e2, e9, hg, k16, k3, k12, k13, Tok.enc, toks, on_gcall, off_gcall, flat_gcall, sumFew_f, sumFew_D, sumFew_flat, sumFew_r, go_sem, reduceCtorEq, reduceIte, Nat.reduceEqDiff, Nat.reduceAdd, Nat.reduceSub, Nat.reduceMul, Nat.reduceLT, Nat.reduceLeDiff, Nat.reduceBEq, Int.reduceEq, Int.reduceLT, Int.reduceLE, Int.reduceAdd, Int.reduceSub, Int.reduceNeg, Int.reduceToNat]
    omega
  have hbar : ¬ barK t := by unfold barK; omega
  have hnx := hnx hbar
  have k16 := eq_false k16; have k3 := eq_false k3; have k12 := eq_false k12; have k13 := eq_false k13
  simp only [e0, e2, e9, hg, k16, k3, k12, k13, Tok.enc, toks, on_gcall, off_gcall, flat_gcall, sumFew_f, sumFew_D, sumFew_flat, sumFew_r, go_sem, reduceCtorEq, reduceIte, Nat.reduceEqDiff, Nat.reduceAdd, Nat.reduceSub, Nat.reduceMul, Nat.reduceLT, Nat.reduceLeDiff, Nat.reduceBEq, Int.reduceEq, Int.reduceLT, Int.reduceLE, Int.reduceAdd, Int.reduceSub, Int.reduceNeg, Int.reduceToNat]
  exact ⟨by omega, by omega, ⟨k + 1, _⟩, ⟨by dsimp only; omega, hnx⟩, by dsimp only; omega, by dsimp only; omega, rfl⟩
end Go.Proofs.Ytlcblcjpebabkaa
