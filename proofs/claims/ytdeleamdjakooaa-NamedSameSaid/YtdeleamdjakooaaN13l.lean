/- Names: what the document fixes. -/
import Derived.Test.YtdeleamdjakooaaN13k
namespace Go.Proofs.Ytdeleamdjakooaa
open Go.Sx
set_option linter.unusedSimpArgs false
set_option maxHeartbeats 4000000
set_option maxRecDepth 20000

def awD : Doc := ⟨[⟨-1, ⟨#[104, 116, 109, 108]⟩, ⟨#[]⟩, [], [], ⟨#[]⟩⟩, ⟨0, ⟨#[100, 105, 118]⟩, ⟨#[]⟩, [], [], ⟨#[]⟩⟩, ⟨1, ⟨#[112]⟩, ⟨#[]⟩, [], [], ⟨#[]⟩⟩, ⟨0, ⟨#[112]⟩, ⟨#[]⟩, [], [], ⟨#[]⟩⟩], [false, false, false, false], [0, 0, 0, 0], [0, 0, 0, 0], [⟨#[]⟩, ⟨#[97]⟩, ⟨#[]⟩, ⟨#[]⟩]⟩
def awDV : V := .agg [.slc 6 [[vi (-1), vs ⟨#[104, 116, 109, 108]⟩, vs ⟨#[]⟩, vnil, vnil, vs ⟨#[]⟩], [vi 0, vs ⟨#[100, 105, 118]⟩, vs ⟨#[]⟩, vnil, vnil, vs ⟨#[]⟩], [vi 1, vs ⟨#[112]⟩, vs ⟨#[]⟩, vnil, vnil, vs ⟨#[]⟩], [vi 0, vs ⟨#[112]⟩, vs ⟨#[]⟩, vnil, vnil, vs ⟨#[]⟩]], .slc 1 [[vb false], [vb false], [vb false], [vb false]], .slc 1 [[vi 0], [vi 0], [vi 0], [vi 0]], .slc 1 [[vi 0], [vi 0], [vi 0], [vi 0]], .slc 1 [[vs ⟨#[]⟩], [vs ⟨#[97]⟩], [vs ⟨#[]⟩], [vs ⟨#[]⟩]]]
theorem awDSub : Sub 3 awDV (.agg awD.enc) := by
  simp [Sub, F2, awDV, awD, Doc.enc, Node.enc]
theorem PCall.awd {f : FuncId} {args : List V} {r : V} (h : PCall Try.prog f (.agg awD.enc :: args) r) : PCall Try.prog f (awDV :: args) r := by
  refine PCall.asub 3 h ⟨awDSub, ?_⟩
  have : ∀ l : List V, F2 (Sub 3) l l := by
    intro l
    induction l with
    | nil => trivial
    | cons a l ih => exact ⟨Sub.rfl 3 a, ih⟩
  exact this args
theorem awDLen : awD.l.length ≤ 1000 := by decide
theorem sumAd1E : usedV awD 2 = ⟨#[97]⟩ := by kernel_rfl
def sumAd1 : Sum Try.prog := ⟨14, fun args => args = [awDV, vi 2], fun _ => vs ⟨#[97]⟩, fun args h => by
  have := PCall.awd (used_ok awD 2 awDLen); rw [sumAd1E] at this; rw [h]; exact this, true⟩
theorem sumAd1_f : sumAd1.f = 14 := rfl
theorem sumAd1_D (args : List V) : sumAd1.D args = (args = [awDV, vi 2]) := rfl
theorem sumAd1_flat : sumAd1.flat = true := rfl
theorem sumAd1_r (args : List V) : sumAd1.r args = vs ⟨#[97]⟩ := rfl
theorem awc3 : chV13 awD 3 = true := by kernel_rfl
theorem awc2 : chV13 awD 2 = false := by kernel_rfl
def sumAd2 : Sum Try.prog := ⟨17, fun args => args = [awDV, vi 3] ∨ args = [awDV, vi 2], fun args => vb (decide ((args.getD 1 .any).int = 3)), fun args h => by
  rcases h with h | h
  · have := PCall.awd (changes_ok awD 3 awDLen); rw [awc3] at this; rw [h]; simpa [V.int] using this
  · have := PCall.awd (changes_ok awD 2 awDLen); rw [awc2] at this; rw [h]; simpa [V.int] using this, true⟩
theorem sumAd2_f : sumAd2.f = 17 := rfl
theorem sumAd2_D (args : List V) : sumAd2.D args = (args = [awDV, vi 3] ∨ args = [awDV, vi 2]) := rfl
theorem sumAd2_flat : sumAd2.flat = true := rfl
theorem sumAd2_r (args : List V) : sumAd2.r args = vb (decide ((args.getD 1 .any).int = 3)) := rfl
theorem sumAd3E : nmF awD 0 = ⟨#[97]⟩ := by kernel_rfl
def sumAd3 : Sum Try.prog := ⟨15, fun args => args = [awDV, vi 0], fun _ => vs ⟨#[97]⟩, fun args h => by
  have := PCall.awd (Begins_ok awD 0 awDLen); rw [sumAd3E] at this; rw [h]; exact this, true⟩
theorem sumAd3_f : sumAd3.f = 15 := rfl
theorem sumAd3_D (args : List V) : sumAd3.D args = (args = [awDV, vi 0]) := rfl
theorem sumAd3_flat : sumAd3.flat = true := rfl
theorem sumAd3_r (args : List V) : sumAd3.r args = vs ⟨#[97]⟩ := rfl
theorem sumAd4E : nmL awD 0 = ⟨#[]⟩ := by kernel_rfl
def sumAd4 : Sum Try.prog := ⟨16, fun args => args = [awDV, vi 0], fun _ => vs ⟨#[]⟩, fun args h => by
  have := PCall.awd (Ends_ok awD 0 awDLen); rw [sumAd4E] at this; rw [h]; exact this, true⟩
theorem sumAd4_f : sumAd4.f = 16 := rfl
theorem sumAd4_D (args : List V) : sumAd4.D args = (args = [awDV, vi 0]) := rfl
theorem sumAd4_flat : sumAd4.flat = true := rfl
theorem sumAd4_r (args : List V) : sumAd4.r args = vs ⟨#[]⟩ := rfl
theorem rep4 {α : Type} (x : α) : List.replicate 4 x = [x, x, x, x] := rfl
theorem awake13_ok : PCall Try.prog 10 [] (vb true) := by
  refine PCall.of (Orc.cons sumAd1 (Orc.cons sumAd2 (Orc.cons sumAd3 (Orc.cons sumAd4 (Orc.nil _))))) c10_ok (by simp [c10]) fun w0 own0 => ?_
  simp (maxSteps := 2000000) only [c10, awDV, wpC_seq_breg, wpFB_cons, wpFB_nil, fluP, fluV, evF, V.allK, V.isK, O.still, okP_none, vP_none, boxH, boxE, boxOK, rep4, Heap.freeze, List.mapIdx_cons, List.mapIdx_nil, sumAd1_f, sumAd1_D, sumAd1_flat, sumAd1_r, sumAd2_f, sumAd2_D, sumAd2_flat, sumAd2_r, sumAd3_f, sumAd3_D, sumAd3_flat, sumAd3_r, sumAd4_f, sumAd4_D, sumAd4_flat, sumAd4_r, wpC_seq_reg, wpC_reg, wpC_seq_treg, wpC_treg, wpC_seq_qreg, wpC_qreg, wpC_skip, wpC_ret, wpC_exit, wpC_goto, wpC_label, wpC_loop, wpC_scope, wpC_block, wpC_seq_skip, wpC_seq_ret, wpC_seq_exit, wpC_seq_goto, wpC_seq_label, wpC_seq_loop, wpC_seq_scope, wpC_seq_block, wpC_seq_seq, wpC_seq_cond, wpC_cond, seqP_normal, seqP_exit, seqP_goto, seqP_ret, blkP_normal, blkP_exit, blkP_goto, blkP_ret, seqQ_normal, seqQ_exit, seqQ_goto, seqQ_ret, jumpQ_goto, jumpQ_normal, jumpQ_exit, jumpQ_ret, retQ_ret, retQ_normal, wpR_nil, wpR_pick, wpR_gpick, wpR_call, wpR_callv, wpR_gcall, wpR_gcallv, wpQR_nil, wpQR_pick, wpQR_gpick, wpQR_call, wpQR_callv, wpQR_gcall, wpQR_gcallv, putE_some, putE_none, upd_at, val_t, val_k, val_f, uval_t, uval_k, uval_f, un_c, un_agg, un_tup, un_slc, un_pp, un_ref, un_ptr, un_fn, un_gd, gok_c, gok_agg, gok_tup, gok_slc, gok_pp, gok_ref, gok_ptr, gok_fn, gok_gd, okP_pick, vP_pick, asB_c, asI_c, enB_c, enB_gd, initE_at, evP, evE, okE, O.xs, goks, binV, arith, Heap.idxOK, V.idx, ldA, Heap.cells, V.off, Heap.isPtr, V.cut, V.slen, Heap.cutOK, optI, cellsOf, setPart, Heap.isOne, Heap.view, Heap.alloc, Heap.put, V.isAgg, retV, rvV, rvOK, List.all_cons, List.all_nil, Bool.and_true, Bool.true_and, List.length_map, List.getD_cons_zero, List.getD_cons_succ, List.getD_nil, if_true, if_false, List.map_cons, List.map_nil, Bool.cond_true_left, Bool.cond_false_right, Bool.and_eq_true, Bool.or_eq_true, decide_eq_true_eq, true_and, and_true, forall_const, List.length_cons, List.length_nil, Option.getD_none, Option.getD_some, beq_self_eq_true, Bool.or_eq_false_iff, decide_eq_false_iff_not, reduceCtorEq, Bool.and_self, ite_true, ite_false, Bool.not_true, Bool.not_false, List.drop_zero, List.take_succ_cons, List.take_zero, List.drop_succ_cons, List.nil_append, List.append_nil, List.cons_append, Option.isSome_none, Option.isSome_some, Option.map_none, Option.map_some, Bool.cond_true, Bool.cond_false, cond_true, cond_false, Bool.false_eq_true, reduceIte, Nat.reduceEqDiff, Nat.reduceAdd, Nat.reduceSub, Nat.reduceMul, Nat.reduceLT, Nat.reduceLeDiff, Nat.reduceBEq, Int.reduceEq, Int.reduceLT, Int.reduceLE, Int.reduceAdd, Int.reduceSub, Int.reduceNeg, false_and, and_false, or_true, true_or, or_false, false_or, not_true_eq_false, not_false_eq_true, implies_true, false_implies, Bool.true_beq, Bool.false_beq, Bool.and_false, Bool.false_and, Bool.or_true, Bool.or_false, Bool.true_or, Bool.false_or, eq_self, imp_self, beq_true, beq_false, Bool.not_eq_true, Bool.not_eq_false, Bool.not_eq_true', Bool.not_eq_false', Bool.not_not, Int.cast_ofNat_Int, Int.reduceToNat, Int.toNat_zero, Int.toNat_one, decide_true, decide_false, bne_self_eq_false, Bool.bne_false, Bool.bne_true, Bool.false_bne, Bool.true_bne, Orc.flat_cons, preQ_normal, preQ_ret, cond_bb, Option.toList_none, Option.toList_some, Nat.zero_add, List.cons.injEq, Blk.mk.injEq, V.ref.injEq, Heap.mk.injEq, take_mapn, bsAt_nil, bsAt_cons, range1, range2, range3, range4, Tok.eta, List.nodup_cons, List.nodup_nil, List.mem_cons, List.not_mem_nil, Agrees_nil, Agrees_cons, dsize, res_c, res_slc, res_pp, res_agg, res_tup, res_fn, res11_c, res11_slc, res11_pp, res10_c, res9_c, res_ref, res11_ref, res_ptr, res11_ptr, mapO_ints11, mapO_ints10, mapO_toks11, mapO_toks10, take_mapl, inR_iff, vi_inj, vs_inj, vb_inj, V.int_c, V.str_c, V.cs_agg, V.cs_pp, V.es_slc, dTok_enc, dTok_mk, dInts_map, dToks_map, dInts_nil, dInts_vnil, getD_ints, getD_toks, Option.some.injEq, Int.toNat_natCast, Option.isSome_map, Orc.pre_cons, Orc.v_cons, Orc.hp_cons, Orc.qpre_cons, Orc.qv_cons, Sum.pre, Sum.v, Sum.hp, V.isC, V.toC, V.isFn, V.fnId, V.caps, argsOf, mapO, lpQ_normal, lpQ_exit, lpQ_goto, lpQ_ret, jpQ_normal, jpQ_exit, jpQ_goto, jpQ_ret, ev_cons, ev_nil, Heap.blk, Heap.cur, Value.oneCell', Bool.and_eq_false_iff, Bool.or_eq_false_iff, List.getElem?_cons_zero, List.getElem?_cons_succ, List.getElem?_nil, List.set_cons_zero, List.set_cons_succ, List.set_nil, Option.getD_some, wpR_mov, wpR_gmov, wpQR_mov, wpQR_gmov, wpR_build, wpR_gbuild, wpQR_build, wpQR_gbuild, wpR_load, wpR_gload, wpQR_load, wpQR_gload, wpR_chk, wpR_gchk, wpQR_chk, wpQR_gchk, wpR_bin, wpR_gbin, wpQR_bin, wpQR_gbin, wpR_eqb, wpR_geqb, wpQR_eqb, wpQR_geqb, wpR_eqc, wpR_geqc, wpQR_eqc, wpQR_geqc, wpR_eqn, wpR_geqn, wpQR_eqn, wpQR_geqn, wpR_un, wpR_gun, wpQR_un, wpQR_gun, wpR_cvi, wpR_gcvi, wpQR_cvi, wpQR_gcvi, wpR_cvs, wpR_gcvs, wpQR_cvs, wpQR_gcvs, wpR_mkfn, wpR_gmkfn, wpQR_mkfn, wpQR_gmkfn, wpR_slice, wpR_gslice, wpQR_slice, wpQR_gslice, wpR_sliceS, wpR_gsliceS, wpQR_sliceS, wpQR_gsliceS, wpR_fieldAddr, wpR_gfieldAddr, wpQR_fieldAddr, wpQR_gfieldAddr, wpR_field, wpR_gfield, wpQR_field, wpQR_gfield, wpR_idxAddr, wpR_gidxAddr, wpQR_idxAddr, wpQR_gidxAddr, wpR_idxAddrA, wpR_gidxAddrA, wpQR_idxAddrA, wpQR_gidxAddrA, wpR_idxS, wpR_gidxS, wpQR_idxS, wpQR_gidxS, wpR_idxA, wpR_gidxA, wpQR_idxA, wpQR_gidxA, wpR_extract, wpR_gextract, wpQR_extract, wpQR_gextract, wpR_len, wpR_glen, wpQR_len, wpQR_glen, wpR_lenS, wpR_glenS, wpQR_lenS, wpQR_glenS, wpR_mm, wpR_gmm, wpQR_mm, wpQR_gmm, wpR_box, wpR_gbox, wpR_bslice, wpR_gbslice, wpR_mkslice, wpR_gmkslice, wpR_append, wpR_gappend, wpR_store, wpR_gstore, wpR_clr, wpR_gclr]
  decide
def sumAwake13 : Sum Try.prog := ⟨10, fun args => args = [], fun args => vb true, fun args h => by
  have := awake13_ok; rwa [← h] at this, true⟩
theorem sumAwake13_f : sumAwake13.f = 10 := rfl
theorem sumAwake13_D (args : List V) : sumAwake13.D args = (args = []) := rfl
theorem sumAwake13_flat : sumAwake13.flat = true := rfl
theorem sumAwake13_r (args : List V) : sumAwake13.r args = vb true := rfl
end Go.Proofs.Ytdeleamdjakooaa
