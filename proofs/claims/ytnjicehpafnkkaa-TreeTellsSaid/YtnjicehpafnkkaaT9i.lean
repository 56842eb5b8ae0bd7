/- Layer 9: the text in a p. -/
import Derived.Test.YtnjicehpafnkkaaT9h
namespace Go.Proofs.Ytnjicehpafnkkaa
open Go.Sx
set_option linter.unusedSimpArgs false
set_option maxHeartbeats 4000000
set_option maxRecDepth 20000

def awL : List Node := [⟨-1, ⟨#[114, 111, 111, 116]⟩, ⟨#[]⟩, [], [], ⟨#[]⟩⟩, ⟨0, ⟨#[112]⟩, ⟨#[]⟩, [⟨#[97]⟩], [(⟨#[120]⟩, ⟨#[121]⟩)], ⟨#[]⟩⟩, ⟨1, ⟨#[]⟩, ⟨#[]⟩, [], [], ⟨#[116]⟩⟩]
def awV : V := .slc 6 [[vi (-1), vs ⟨#[114, 111, 111, 116]⟩, vs ⟨#[]⟩, vnil, vnil, vs ⟨#[]⟩], [vi 0, vs ⟨#[112]⟩, vs ⟨#[]⟩, .slc 1 [[vs ⟨#[97]⟩]], .slc 2 [[vs ⟨#[120]⟩, vs ⟨#[121]⟩]], vs ⟨#[]⟩], [vi 1, vs ⟨#[]⟩, vs ⟨#[]⟩, vnil, vnil, vs ⟨#[116]⟩]]
theorem awSub : Sub 2 awV (nodes awL) := by
  simp [Sub, F2, awV, nodes, awL, Node.enc]
theorem PCall.aw {f : FuncId} {args : List V} {r : V} (h : PCall Try.prog f (nodes awL :: args) r) : PCall Try.prog f (awV :: args) r := by
  refine PCall.asub 2 h ⟨awSub, ?_⟩
  have : ∀ l : List V, F2 (Sub 2) l l := by
    intro l
    induction l with
    | nil => trivial
    | cons a l ih => exact ⟨Sub.rfl 2 a, ih⟩
  exact this args
theorem awDoc : badR awL = -1 := by kernel_rfl
theorem awDocB : docB awL = true := by unfold docB; rw [awDoc]; decide
theorem awChk : chkOf awL (badT awL) = .tup [vi 0, vi 0] := by rw [bad_eq, awDoc]; rfl
theorem awEnd : endV awL 1 = 3 := by kernel_rfl
theorem awTxt : txtV awL 0 = ⟨#[116]⟩ := by kernel_rfl
theorem awKids : kidsV awL 1 true = [2] := by kernel_rfl
theorem awLen : awL.length ≤ 1000 := by decide
theorem awTextD : textD awL := by
  refine ⟨awLen, ?_⟩
  decide
def sumAwChk : Sum Try.prog := ⟨11, fun args => args = [awV], fun _ => .tup [vi 0, vi 0], fun args h => by rw [h, ← awChk]; exact PCall.aw (chkT_ok awL awLen), false⟩
theorem sumAwChk_f : sumAwChk.f = 11 := rfl
theorem sumAwChk_D (args : List V) : sumAwChk.D args = (args = [awV]) := rfl
theorem sumAwChk_flat : sumAwChk.flat = false := rfl
theorem sumAwChk_r (args : List V) : sumAwChk.r args = .tup [vi 0, vi 0] := rfl
def sumAwEnd : Sum Try.prog := ⟨17, fun args => args = [awV, vi 1], fun _ => vi 3, fun args h => by rw [h, ← awEnd]; exact PCall.aw (end_ok awL 1 awLen), true⟩
theorem sumAwEnd_f : sumAwEnd.f = 17 := rfl
theorem sumAwEnd_D (args : List V) : sumAwEnd.D args = (args = [awV, vi 1]) := rfl
theorem sumAwEnd_flat : sumAwEnd.flat = true := rfl
theorem sumAwEnd_r (args : List V) : sumAwEnd.r args = vi 3 := rfl
def sumAwTxt : Sum Try.prog := ⟨19, fun args => args = [awV, vi 0], fun _ => vs ⟨#[116]⟩, fun args h => by rw [h, ← awTxt]; exact PCall.aw (txtT_ok awL 0 awTextD), true⟩
theorem sumAwTxt_f : sumAwTxt.f = 19 := rfl
theorem sumAwTxt_D (args : List V) : sumAwTxt.D args = (args = [awV, vi 0]) := rfl
theorem sumAwTxt_flat : sumAwTxt.flat = true := rfl
theorem sumAwTxt_r (args : List V) : sumAwTxt.r args = vs ⟨#[116]⟩ := rfl
def sumAwKids : Sum Try.prog := ⟨18, fun args => args = [awV, vi 1], fun _ => .slc 1 [[vi 2]], fun args h => by
  have := PCall.aw (children_ok awL 1 awLen); rw [awKids] at this; rw [h]; exact this, false⟩
theorem sumAwKids_f : sumAwKids.f = 18 := rfl
theorem sumAwKids_D (args : List V) : sumAwKids.D args = (args = [awV, vi 1]) := rfl
theorem sumAwKids_flat : sumAwKids.flat = false := rfl
theorem sumAwKids_r (args : List V) : sumAwKids.r args = .slc 1 [[vi 2]] := rfl
abbrev awN : V := .agg [vi 0, vs ⟨#[112]⟩, vs ⟨#[]⟩, .slc 1 [[vs ⟨#[97]⟩]], .slc 2 [[vs ⟨#[120]⟩, vs ⟨#[121]⟩]], vs ⟨#[]⟩]
theorem awAttr : attrV ⟨#[120]⟩ [(⟨#[120]⟩, ⟨#[121]⟩)] = ⟨#[121]⟩ := by simp [attrV]
theorem awCls : hasS [⟨#[97]⟩] ⟨#[97]⟩ = true := by rw [hasS_iff]; simp
def sumAwCls : Sum Try.prog := ⟨15, fun args => args = [awN, vs ⟨#[97]⟩], fun _ => vb true, fun args h => by
  have := clsT_ok ⟨0, ⟨#[112]⟩, ⟨#[]⟩, [⟨#[97]⟩], [(⟨#[120]⟩, ⟨#[121]⟩)], ⟨#[]⟩⟩ ⟨#[97]⟩ (by decide); rw [awCls] at this; rw [h]; exact this, true⟩
theorem sumAwCls_f : sumAwCls.f = 15 := rfl
theorem sumAwCls_D (args : List V) : sumAwCls.D args = (args = [awN, vs ⟨#[97]⟩]) := rfl
theorem sumAwCls_flat : sumAwCls.flat = true := rfl
theorem sumAwCls_r (args : List V) : sumAwCls.r args = vb true := rfl
def sumAwAttr : Sum Try.prog := ⟨13, fun args => args = [awN, vs ⟨#[120]⟩], fun _ => vs ⟨#[121]⟩, fun args h => by
  have := attrT_ok ⟨0, ⟨#[112]⟩, ⟨#[]⟩, [⟨#[97]⟩], [(⟨#[120]⟩, ⟨#[121]⟩)], ⟨#[]⟩⟩ ⟨#[120]⟩ (by decide); rw [awAttr] at this; rw [h]; exact this, true⟩
theorem sumAwAttr_f : sumAwAttr.f = 13 := rfl
theorem sumAwAttr_D (args : List V) : sumAwAttr.D args = (args = [awN, vs ⟨#[120]⟩]) := rfl
theorem sumAwAttr_flat : sumAwAttr.flat = true := rfl
theorem sumAwAttr_r (args : List V) : sumAwAttr.r args = vs ⟨#[121]⟩ := rfl
theorem awake9_ok : PCall Try.prog 10 [] (vb true) := by
  refine PCall.of (Orc.cons sumAwChk (Orc.cons sumAwEnd (Orc.cons sumAwTxt (Orc.cons sumAwKids (Orc.cons sumAwAttr (Orc.cons sumAwCls (Orc.nil _))))))) c10_ok (by simp [c10]) fun w0 own0 => ?_
  simp (maxSteps := 2000000) only [c10, awV, Heap.freeze, List.mapIdx_cons, List.mapIdx_nil, sumAwChk_f, sumAwChk_D, sumAwChk_flat, sumAwChk_r, sumAwEnd_f, sumAwEnd_D, sumAwEnd_flat, sumAwEnd_r, sumAwTxt_f, sumAwTxt_D, sumAwTxt_flat, sumAwTxt_r, sumAwKids_f, sumAwKids_D, sumAwKids_flat, sumAwKids_r, sumAwAttr_f, sumAwAttr_D, sumAwAttr_flat, sumAwAttr_r, sumAwCls_f, sumAwCls_D, sumAwCls_flat, sumAwCls_r, wpC_seq_reg, wpC_reg, wpC_seq_treg, wpC_treg, wpC_seq_qreg, wpC_qreg, wpC_skip, wpC_ret, wpC_exit, wpC_goto, wpC_label, wpC_loop, wpC_scope, wpC_block, wpC_seq_skip, wpC_seq_ret, wpC_seq_exit, wpC_seq_goto, wpC_seq_label, wpC_seq_loop, wpC_seq_scope, wpC_seq_block, wpC_seq_seq, wpC_seq_cond, wpC_cond, seqP_normal, seqP_exit, seqP_goto, seqP_ret, blkP_normal, blkP_exit, blkP_goto, blkP_ret, seqQ_normal, seqQ_exit, seqQ_goto, seqQ_ret, jumpQ_goto, jumpQ_normal, jumpQ_exit, jumpQ_ret, retQ_ret, retQ_normal, wpR_nil, wpR_pick, wpR_gpick, wpR_call, wpR_callv, wpR_gcall, wpR_gcallv, wpQR_nil, wpQR_pick, wpQR_gpick, wpQR_call, wpQR_callv, wpQR_gcall, wpQR_gcallv, putE_some, putE_none, upd_at, val_t, val_k, val_f, uval_t, uval_k, uval_f, un_c, un_agg, un_tup, un_slc, un_pp, un_ref, un_ptr, un_fn, un_gd, gok_c, gok_agg, gok_tup, gok_slc, gok_pp, gok_ref, gok_ptr, gok_fn, gok_gd, okP_pick, vP_pick, asB_c, asI_c, enB_c, enB_gd, initE_at, evP, evE, okE, O.xs, goks, binV, arith, Heap.idxOK, V.idx, ldA, Heap.cells, V.off, Heap.isPtr, V.cut, V.slen, Heap.cutOK, optI, cellsOf, setPart, Heap.isOne, Heap.view, Heap.alloc, Heap.put, V.isAgg, retV, rvV, rvOK, List.all_cons, List.all_nil, Bool.and_true, Bool.true_and, List.length_map, List.getD_cons_zero, List.getD_cons_succ, List.getD_nil, if_true, if_false, List.map_cons, List.map_nil, Bool.cond_true_left, Bool.cond_false_right, Bool.and_eq_true, Bool.or_eq_true, decide_eq_true_eq, true_and, and_true, forall_const, List.length_cons, List.length_nil, Option.getD_none, Option.getD_some, beq_self_eq_true, Bool.or_eq_false_iff, decide_eq_false_iff_not, reduceCtorEq, Bool.and_self, ite_true, ite_false, Bool.not_true, Bool.not_false, List.drop_zero, List.take_succ_cons, List.take_zero, List.drop_succ_cons, List.nil_append, List.append_nil, List.cons_append, Option.isSome_none, Option.isSome_some, Option.map_none, Option.map_some, Bool.cond_true, Bool.cond_false, cond_true, cond_false, Bool.false_eq_true, reduceIte, Nat.reduceEqDiff, Nat.reduceAdd, Nat.reduceSub, Nat.reduceMul, Nat.reduceLT, Nat.reduceLeDiff, Nat.reduceBEq, Int.reduceEq, Int.reduceLT, Int.reduceLE, Int.reduceAdd, Int.reduceSub, Int.reduceNeg, false_and, and_false, or_true, true_or, or_false, false_or, not_true_eq_false, not_false_eq_true, implies_true, false_implies, Bool.true_beq, Bool.false_beq, Bool.and_false, Bool.false_and, Bool.or_true, Bool.or_false, Bool.true_or, Bool.false_or, eq_self, imp_self, beq_true, beq_false, Bool.not_eq_true, Bool.not_eq_false, Bool.not_eq_true', Bool.not_eq_false', Bool.not_not, Int.cast_ofNat_Int, Int.reduceToNat, Int.toNat_zero, Int.toNat_one, decide_true, decide_false, bne_self_eq_false, Bool.bne_false, Bool.bne_true, Bool.false_bne, Bool.true_bne, Orc.flat_cons, preQ_normal, preQ_ret, cond_bb, Option.toList_none, Option.toList_some, Nat.zero_add, List.cons.injEq, Blk.mk.injEq, V.ref.injEq, Heap.mk.injEq, take_mapn, bsAt_nil, bsAt_cons, range1, range2, range3, range4, Tok.eta, List.nodup_cons, List.nodup_nil, List.mem_cons, List.not_mem_nil, Agrees_nil, Agrees_cons, dsize, res_c, res_slc, res_pp, res_agg, res_tup, res_fn, res11_c, res11_slc, res11_pp, res10_c, res9_c, res_ref, res11_ref, res_ptr, res11_ptr, mapO_ints11, mapO_ints10, mapO_toks11, mapO_toks10, take_mapl, inR_iff, vi_inj, vs_inj, vb_inj, V.int_c, V.str_c, V.cs_agg, V.cs_pp, V.es_slc, dTok_enc, dTok_mk, dInts_map, dToks_map, dInts_nil, dInts_vnil, getD_ints, getD_toks, Option.some.injEq, Int.toNat_natCast, Option.isSome_map, Orc.pre_cons, Orc.v_cons, Orc.hp_cons, Orc.qpre_cons, Orc.qv_cons, Sum.pre, Sum.v, Sum.hp, V.isC, V.toC, V.isFn, V.fnId, V.caps, argsOf, mapO, lpQ_normal, lpQ_exit, lpQ_goto, lpQ_ret, jpQ_normal, jpQ_exit, jpQ_goto, jpQ_ret, ev_cons, ev_nil, Heap.blk, Heap.cur, Value.oneCell', Bool.and_eq_false_iff, Bool.or_eq_false_iff, List.getElem?_cons_zero, List.getElem?_cons_succ, List.getElem?_nil, List.set_cons_zero, List.set_cons_succ, List.set_nil, Option.getD_some, wpR_mov, wpR_gmov, wpQR_mov, wpQR_gmov, wpR_build, wpR_gbuild, wpQR_build, wpQR_gbuild, wpR_load, wpR_gload, wpQR_load, wpQR_gload, wpR_chk, wpR_gchk, wpQR_chk, wpQR_gchk, wpR_bin, wpR_gbin, wpQR_bin, wpQR_gbin, wpR_eqb, wpR_geqb, wpQR_eqb, wpQR_geqb, wpR_eqc, wpR_geqc, wpQR_eqc, wpQR_geqc, wpR_eqn, wpR_geqn, wpQR_eqn, wpQR_geqn, wpR_un, wpR_gun, wpQR_un, wpQR_gun, wpR_cvi, wpR_gcvi, wpQR_cvi, wpQR_gcvi, wpR_cvs, wpR_gcvs, wpQR_cvs, wpQR_gcvs, wpR_mkfn, wpR_gmkfn, wpQR_mkfn, wpQR_gmkfn, wpR_slice, wpR_gslice, wpQR_slice, wpQR_gslice, wpR_sliceS, wpR_gsliceS, wpQR_sliceS, wpQR_gsliceS, wpR_fieldAddr, wpR_gfieldAddr, wpQR_fieldAddr, wpQR_gfieldAddr, wpR_field, wpR_gfield, wpQR_field, wpQR_gfield, wpR_idxAddr, wpR_gidxAddr, wpQR_idxAddr, wpQR_gidxAddr, wpR_idxAddrA, wpR_gidxAddrA, wpQR_idxAddrA, wpQR_gidxAddrA, wpR_idxS, wpR_gidxS, wpQR_idxS, wpQR_gidxS, wpR_idxA, wpR_gidxA, wpQR_idxA, wpQR_gidxA, wpR_extract, wpR_gextract, wpQR_extract, wpQR_gextract, wpR_len, wpR_glen, wpQR_len, wpQR_glen, wpR_lenS, wpR_glenS, wpQR_lenS, wpQR_glenS, wpR_mm, wpR_gmm, wpQR_mm, wpQR_gmm, wpR_box, wpR_gbox, wpR_bslice, wpR_gbslice, wpR_mkslice, wpR_gmkslice, wpR_append, wpR_gappend, wpR_store, wpR_gstore]
def sumAwake9 : Sum Try.prog := ⟨10, fun args => args = [], fun args => vb true, fun args h => by
  have := awake9_ok; rwa [← h] at this, true⟩
theorem sumAwake9_f : sumAwake9.f = 10 := rfl
theorem sumAwake9_D (args : List V) : sumAwake9.D args = (args = []) := rfl
theorem sumAwake9_flat : sumAwake9.flat = true := rfl
theorem sumAwake9_r (args : List V) : sumAwake9.r args = vb true := rfl
end Go.Proofs.Ytnjicehpafnkkaa
