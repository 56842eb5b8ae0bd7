/- Layer 5: the first law. -/
import Derived.Test.YtdpmcckoodeofaaL5f
import Derived.Test.YtdpmcckoodeofaaL5g
import Derived.Test.YtdpmcckoodeofaaCe
namespace Go.Proofs.Ytdpmcckoodeofaa
open Go.Sx
set_option linter.unusedSimpArgs false
set_option maxHeartbeats 4000000
set_option maxRecDepth 20000

theorem PCall.rsub {P : Program} {f : FuncId} {args : List V} {r r' : V} (h : PCall P f args r) (hs : ∀ F w v, PRep F w v r → PRep F w v r') : PCall P f args r' := by
  refine ⟨h.1, fun F w cargs hF hc hv => (h.2 F w cargs hF hc hv).mono fun e w' he => ?_⟩
  obtain ⟨cv, h1, h2, h3⟩ := he
  exact ⟨cv, h1, h2, hs _ _ _ h3⟩
theorem PRep.nil {F : Nat → Prop} {w : World} {v : Value} (sz : Nat) (h : PRep F w v vnil) : PRep F w v (.slc sz []) := by
  cases h
  exact .slc none 0 0 sz [] 0 0 (fun _ _ => undef) rfl (Nat.le_refl _) (by simp) (by simp) (by simp) (by simp)
def endsA (l : List Tok) : List Int := if deep l then [] else endsTo l l.length
def errn (l : List Tok) : Int := if deep l then 3 else 0
theorem endsR_sub (l : List Tok) (F : Nat → Prop) (w : World) (v : Value) (h : PRep F w v (endsR l)) : PRep F w v (.tup [ints (endsA l), vi (errn l)]) := by
  unfold endsR at h
  unfold endsA errn
  cases hd : deep l with
  | false => simpa [hd] using h
  | true =>
    simp only [hd, cond_true] at h
    simp only [if_true]
    cases h with
    | tup cs xs hl h =>
      refine .tup cs _ hl fun i hi => ?_
      have := h i hi
      match i, hi with
      | 0, _ => exact PRep.nil 1 this
      | 1, _ => exact this
      | n + 2, hi => exact absurd hi (by simp)
theorem nestEnds_ok' (l : List Tok) (hl : l.length ≤ 1000000) : PCall Try.prog 11 [toks l] (.tup [ints (endsA l), vi (errn l)]) := by
  have := nestEnds_ok l hl
  rw [nEnds_eq] at this
  exact PCall.rsub this (endsR_sub l)
theorem refEnds_ok' (l : List Tok) (hl : l.length ≤ 1000000) : PCall Try.prog 12 [toks l] (.tup [ints (endsA l), vi (errn l)]) := PCall.rsub (refEnds_ok l hl) (endsR_sub l)

def endsD (args : List V) : Prop := args = [toks (dToks (args.getD 0 .any))] ∧ (dToks (args.getD 0 .any)).length ≤ 1000000
def endsV (args : List V) : V := .tup [ints (endsA (dToks (args.getD 0 .any))), vi (errn (dToks (args.getD 0 .any)))]
def sumE1 : Sum Try.prog := ⟨11, endsD, endsV, fun args h => by have := nestEnds_ok' _ h.2; rwa [← h.1] at this, false⟩
theorem sumE1_f : sumE1.f = 11 := rfl
theorem sumE1_D (args : List V) : sumE1.D args = endsD args := rfl
theorem sumE1_flat : sumE1.flat = false := rfl
theorem sumE1_r (args : List V) : sumE1.r args = endsV args := rfl
def sumE2 : Sum Try.prog := ⟨12, endsD, endsV, fun args h => by have := refEnds_ok' _ h.2; rwa [← h.1] at this, false⟩
theorem sumE2_f : sumE2.f = 12 := rfl
theorem sumE2_D (args : List V) : sumE2.D args = endsD args := rfl
theorem sumE2_flat : sumE2.flat = false := rfl
theorem sumE2_r (args : List V) : sumE2.r args = endsV args := rfl
def sumFew : Sum Try.prog := ⟨9, fun args => args = [toks (dToks (args.getD 0 .any))], fun args => vb (few (dToks (args.getD 0 .any))), fun args h => by have := few_ok (dToks (args.getD 0 .any)); rwa [← h] at this, true⟩
theorem sumFew_f : sumFew.f = 9 := rfl
theorem sumFew_D (args : List V) : sumFew.D args = (args = [toks (dToks (args.getD 0 .any))]) := rfl
theorem sumFew_flat : sumFew.flat = true := rfl
theorem sumFew_r (args : List V) : sumFew.r args = vb (few (dToks (args.getD 0 .any))) := rfl
def sumAwake : Sum Try.prog := ⟨10, fun args => args = [], fun _ => vb true, fun args h => by rw [h]; exact awake_ok, true⟩
theorem sumAwake_f : sumAwake.f = 10 := rfl
theorem sumAwake_D (args : List V) : sumAwake.D args = (args = []) := rfl
theorem sumAwake_flat : sumAwake.flat = true := rfl
theorem sumAwake_r (args : List V) : sumAwake.r args = vb true := rfl
def sumSame : Sum Try.prog := ⟨13, fun args => args = [ints (dInts (args.getD 0 .any)), ints (dInts (args.getD 1 .any))] ∧ (dInts (args.getD 0 .any)).length ≤ 1000000, fun args => vb (decide (dInts (args.getD 0 .any) = dInts (args.getD 1 .any))), fun args h => by
  have := same_ok _ (dInts (args.getD 1 .any)) h.2; rwa [← h.1] at this, true⟩
theorem sumSame_f : sumSame.f = 13 := rfl
theorem sumSame_D (args : List V) : sumSame.D args = (args = [ints (dInts (args.getD 0 .any)), ints (dInts (args.getD 1 .any))] ∧ (dInts (args.getD 0 .any)).length ≤ 1000000) := rfl
theorem sumSame_flat : sumSame.flat = true := rfl
theorem sumSame_r (args : List V) : sumSame.r args = vb (decide (dInts (args.getD 0 .any) = dInts (args.getD 1 .any))) := rfl

abbrev tokC : List Cell := [.int .i64, .str, .int .i64]
theorem toks_of {x : V} (h : CellOK (.slc tokC) x) : ∃ l : List Tok, x = toks l := by
  cases h with
  | slc cs ess hl h h2 =>
    refine ⟨ess.map dTokL, ?_⟩
    unfold toks
    have e : (ess.map dTokL).map Tok.enc = ess := by
      rw [List.map_map]
      conv => rhs; rw [← List.map_id ess]
      apply List.map_congr_left
      intro es hes
      have hlen := h es hes
      have a0 := h2 es hes 0 _ rfl
      have a1 := h2 es hes 1 _ rfl
      have a2 := h2 es hes 2 _ rfl
      match es, hlen with
      | [a, b, c], _ =>
        simp only [List.getD_cons_zero, List.getD_cons_succ] at a0 a1 a2
        cases a0; cases a1; cases a2
        rfl
    rw [e]
    rfl
theorem nestEnds_law (x : V) (h : CellOK (.slc tokC) x) : PCall Try.prog 3 [x] (.c (.bool true)) := by
  obtain ⟨l, rfl⟩ := toks_of h
  refine PCall.of (Orc.cons sumFew (Orc.cons sumAwake (Orc.cons sumE1 (Orc.cons sumE2 (Orc.cons sumSame (Orc.nil _)))))) c3_ok (by simp [c3]) fun w0 own0 => ?_
  simp only [c3, ints, toks, Heap.freeze, List.mapIdx_cons, List.mapIdx_nil, endsD, endsV, sumFew_f, sumFew_D, sumFew_flat, sumFew_r, sumAwake_f, sumAwake_D, sumAwake_flat, sumAwake_r, sumE1_f, sumE1_D, sumE1_flat, sumE1_r, sumE2_f, sumE2_D, sumE2_flat, sumE2_r, sumSame_f, sumSame_D, sumSame_flat, sumSame_r, wpC_seq_reg, wpC_reg, wpC_seq_treg, wpC_treg, wpC_seq_qreg, wpC_qreg, wpC_skip, wpC_ret, wpC_exit, wpC_goto, wpC_label, wpC_loop, wpC_scope, wpC_block, wpC_seq_skip, wpC_seq_ret, wpC_seq_exit, wpC_seq_goto, wpC_seq_label, wpC_seq_loop, wpC_seq_scope, wpC_seq_block, wpC_seq_seq, wpC_seq_cond, wpC_cond, seqP_normal, seqP_exit, seqP_goto, seqP_ret, blkP_normal, blkP_exit, blkP_goto, blkP_ret, seqQ_normal, seqQ_exit, seqQ_goto, seqQ_ret, jumpQ_goto, jumpQ_normal, jumpQ_exit, jumpQ_ret, retQ_ret, retQ_normal, wpR_nil, wpR_pick, wpR_gpick, wpR_call, wpR_callv, wpR_gcall, wpR_gcallv, wpQR_nil, wpQR_pick, wpQR_gpick, wpQR_call, wpQR_callv, wpQR_gcall, wpQR_gcallv, putE_some, putE_none, upd_at, val_t, val_k, val_f, uval_t, uval_k, uval_f, un_c, un_agg, un_tup, un_slc, un_pp, un_ref, un_ptr, un_fn, un_gd, gok_c, gok_agg, gok_tup, gok_slc, gok_pp, gok_ref, gok_ptr, gok_fn, gok_gd, okP_pick, vP_pick, asB_c, asI_c, enB_c, enB_gd, initE_at, evP, evE, okE, O.xs, goks, binV, arith, Heap.idxOK, V.idx, ldA, Heap.cells, V.off, Heap.isPtr, V.cut, V.slen, Heap.cutOK, optI, cellsOf, setPart, Heap.isOne, Heap.view, Heap.alloc, Heap.put, V.isAgg, retV, rvV, rvOK, List.all_cons, List.all_nil, Bool.and_true, Bool.true_and, List.length_map, List.getD_cons_zero, List.getD_cons_succ, List.getD_nil, if_true, if_false, List.map_cons, List.map_nil, Bool.cond_true_left, Bool.cond_false_right, Bool.and_eq_true, Bool.or_eq_true, decide_eq_true_eq, true_and, and_true, forall_const, List.length_cons, List.length_nil, Option.getD_none, Option.getD_some, beq_self_eq_true, Bool.or_eq_false_iff, decide_eq_false_iff_not, reduceCtorEq, Bool.and_self, ite_true, ite_false, Bool.not_true, Bool.not_false, List.drop_zero, List.take_succ_cons, List.take_zero, List.drop_succ_cons, List.nil_append, List.append_nil, List.cons_append, Option.isSome_none, Option.isSome_some, Option.map_none, Option.map_some, Bool.cond_true, Bool.cond_false, cond_true, cond_false, Bool.false_eq_true, reduceIte, Nat.reduceEqDiff, Nat.reduceAdd, Nat.reduceSub, Nat.reduceMul, Nat.reduceLT, Nat.reduceLeDiff, Nat.reduceBEq, Int.reduceEq, Int.reduceLT, Int.reduceLE, Int.reduceAdd, Int.reduceSub, Int.reduceNeg, false_and, and_false, or_true, true_or, or_false, false_or, not_true_eq_false, not_false_eq_true, implies_true, false_implies, Bool.true_beq, Bool.false_beq, Bool.and_false, Bool.false_and, Bool.or_true, Bool.or_false, Bool.true_or, Bool.false_or, eq_self, imp_self, beq_true, beq_false, Bool.not_eq_true, Bool.not_eq_false, Bool.not_eq_true', Bool.not_eq_false', Bool.not_not, Int.cast_ofNat_Int, Int.reduceToNat, Int.toNat_zero, Int.toNat_one, decide_true, decide_false, bne_self_eq_false, Bool.bne_false, Bool.bne_true, Bool.false_bne, Bool.true_bne, Orc.flat_cons, preQ_normal, preQ_ret, cond_bb, Option.toList_none, Option.toList_some, Nat.zero_add, List.cons.injEq, Blk.mk.injEq, V.ref.injEq, Heap.mk.injEq, take_mapn, bsAt_nil, bsAt_cons, range1, range2, range3, range4, Tok.eta, List.nodup_cons, List.nodup_nil, List.mem_cons, List.not_mem_nil, Agrees_nil, Agrees_cons, dsize, res_c, res_slc, res_pp, res_agg, res_tup, res_fn, res11_c, res11_slc, res11_pp, res10_c, res9_c, res_ref, res11_ref, res_ptr, res11_ptr, mapO_ints11, mapO_ints10, mapO_toks11, mapO_toks10, take_mapl, inR_iff, vi_inj, vs_inj, vb_inj, V.int_c, V.str_c, V.cs_agg, V.cs_pp, V.es_slc, dTok_enc, dTok_mk, dInts_map, dToks_map, dInts_nil, dInts_vnil, getD_ints, getD_toks, Option.some.injEq, Int.toNat_natCast, Option.isSome_map, Orc.pre_cons, Orc.v_cons, Orc.hp_cons, Orc.qpre_cons, Orc.qv_cons, Sum.pre, Sum.v, Sum.hp, V.isC, V.toC, V.isFn, V.fnId, V.caps, argsOf, mapO, lpQ_normal, lpQ_exit, lpQ_goto, lpQ_ret, jpQ_normal, jpQ_exit, jpQ_goto, jpQ_ret, ev_cons, ev_nil, Heap.blk, Heap.cur, Value.oneCell', Bool.and_eq_false_iff, Bool.or_eq_false_iff, List.getElem?_cons_zero, List.getElem?_cons_succ, List.getElem?_nil, List.set_cons_zero, List.set_cons_succ, List.set_nil, Option.getD_some, wpR_mov, wpR_gmov, wpQR_mov, wpQR_gmov, wpR_build, wpR_gbuild, wpQR_build, wpQR_gbuild, wpR_load, wpR_gload, wpQR_load, wpQR_gload, wpR_chk, wpR_gchk, wpQR_chk, wpQR_gchk, wpR_bin, wpR_gbin, wpQR_bin, wpQR_gbin, wpR_eqb, wpR_geqb, wpQR_eqb, wpQR_geqb, wpR_eqc, wpR_geqc, wpQR_eqc, wpQR_geqc, wpR_eqn, wpR_geqn, wpQR_eqn, wpQR_geqn, wpR_un, wpR_gun, wpQR_un, wpQR_gun, wpR_cvi, wpR_gcvi, wpQR_cvi, wpQR_gcvi, wpR_cvs, wpR_gcvs, wpQR_cvs, wpQR_gcvs, wpR_mkfn, wpR_gmkfn, wpQR_mkfn, wpQR_gmkfn, wpR_slice, wpR_gslice, wpQR_slice, wpQR_gslice, wpR_sliceS, wpR_gsliceS, wpQR_sliceS, wpQR_gsliceS, wpR_fieldAddr, wpR_gfieldAddr, wpQR_fieldAddr, wpQR_gfieldAddr, wpR_field, wpR_gfield, wpQR_field, wpQR_gfield, wpR_idxAddr, wpR_gidxAddr, wpQR_idxAddr, wpQR_gidxAddr, wpR_idxAddrA, wpR_gidxAddrA, wpQR_idxAddrA, wpQR_gidxAddrA, wpR_idxS, wpR_gidxS, wpQR_idxS, wpQR_gidxS, wpR_idxA, wpR_gidxA, wpQR_idxA, wpQR_gidxA, wpR_extract, wpR_gextract, wpQR_extract, wpQR_gextract, wpR_len, wpR_glen, wpQR_len, wpQR_glen, wpR_lenS, wpR_glenS, wpQR_lenS, wpQR_glenS, wpR_mm, wpR_gmm, wpQR_mm, wpQR_gmm, wpR_box, wpR_gbox, wpR_bslice, wpR_gbslice, wpR_mkslice, wpR_gmkslice, wpR_append, wpR_gappend, wpR_store, wpR_gstore]
  intro hf
  have h1 : l.length ≤ 100 := by simp only [few, decide_eq_true_eq] at hf; exact hf.1
  have h2 : (endsA l).length ≤ l.length := by
    unfold endsA
    split
    · simp
    · rw [endsTo_len]; exact Nat.le_refl _
  omega
end Go.Proofs.Ytdpmcckoodeofaa
