/- Children in flow, siblings, points. -/
import Derived.Test.YtdeleamdjakooaaN13g
namespace Go.Proofs.Ytdeleamdjakooaa
open Go.Sx
set_option linter.unusedSimpArgs false
set_option maxHeartbeats 4000000
set_option maxRecDepth 20000

def delHp (d : Doc) (xs : List Int) (ver clk : Nat) : Heap := ⟨[⟨0, 5, [[.slc 6 (d.l.map Node.enc), .slc 1 (d.run.map fun b => [vb b]), .slc 1 (d.bef.map fun n => [vi n]), .slc 1 (d.aft.map fun n => [vi n]), .slc 1 (d.page.map fun s => [vs s])]], false, []⟩, ⟨ver, 1, xs.map fun n => [vi n], false, [vi 0]⟩], clk⟩
def delP (args : List V) (h : Heap) : Prop := ∃ (d : Doc) (xs : List Int) (ver clk : Nat), args = [.ref 1 ver 0 xs.length, .fn 46 [.ptr 0 0 0 0]] ∧ h = delHp d xs ver clk ∧ ixD d xs
def delX (h : Heap) : List Int := kp (dDocL ((h.blk 0).es.getD 0 [])) (dInts (.slc 1 (h.blk 1).es))
def delV (h : Heap) : V := .ref 1 (h.blk 1).ver 0 (delX h).length
def delH (h : Heap) : Heap := ⟨[h.blk 0, ⟨(h.blk 1).ver, 1, (delX h).map fun n => [vi n], false, [vi 0]⟩], h.clk⟩
theorem delX_at (d : Doc) (xs : List Int) (ver clk : Nat) : delX (delHp d xs ver clk) = kp d xs := by
  have e : dDocL d.enc = d := dDoc_enc d
  unfold Doc.enc at e
  simp only [delX, delHp, Heap.blk, List.getElem?_cons_zero, List.getElem?_cons_succ, Option.getD_some, List.getD_cons_zero]
  rw [e, dInts_map]
theorem delV_at (d : Doc) (xs : List Int) (ver clk : Nat) : delV (delHp d xs ver clk) = .ref 1 ver 0 (kp d xs).length := by
  unfold delV; rw [delX_at]; rfl
theorem delH_at (d : Doc) (xs : List Int) (ver clk : Nat) : delH (delHp d xs ver clk) = delHp d (kp d xs) ver clk := by
  unfold delH; rw [delX_at]; rfl
def sumDelE : ESum Try.prog := ⟨44, delP, fun _ h => delV h, fun _ h => delH h, fun args h hp => by
  obtain ⟨d, xs, ver, clk, rfl, rfl, h1⟩ := hp
  rw [delV_at, delH_at]; exact del_call d xs ver clk h1⟩
theorem kids_ok (d : Doc) (k : Nat) (h : okL d) (hk : k < d.l.length) : PCall Try.prog 37 [.agg d.enc, vi k] (ints (kids d k)) := by
  refine PCall.of (Orc.econs sumChildrenE (Orc.econs sumDelE (Orc.nil _))) c37_ok (by simp [c37]) fun w0 own0 => ?_
  have hp : ∀ B0, chP [.slc 6 (d.l.map Node.enc), .c (.int .i64 k)] ⟨[B0], 1⟩ [] := fun B0 => ⟨B0, d.l, k, rfl, rfl, h.2, h.1.doc, hk⟩
  have e1 : sumChildrenE.f = 45 := rfl
  have e2 : ∀ args h, sumChildrenE.pre args h = chP args h [] := fun _ _ => rfl
  have e3 : ∀ args h, sumChildrenE.v args h = chV args := fun _ _ => rfl
  have e4 : ∀ args h, sumChildrenE.hp args h = chH args h := fun _ _ => rfl
  have d1 : sumDelE.f = 44 := rfl
  have d2 : ∀ args h, sumDelE.pre args h = delP args h := fun _ _ => rfl
  have d3 : ∀ args h, sumDelE.v args h = delV h := fun _ _ => rfl
  have d4 : ∀ args h, sumDelE.hp args h = delH h := fun _ _ => rfl
  have hix : ixD d (kidsTo d.l k true d.l.length) := by
    refine ⟨by have := kids_len d.l k true d.l.length; have := h.2; omega, fun x hx => ?_⟩
    rw [kidsTo_sel] at hx
    obtain ⟨m, a, b, _⟩ := selTo_mem.1 hx
    have := h.run; omega
  have hdp : ∀ ver clk, delP [.ref 1 ver 0 (chM d.l k), .fn 46 [.ptr 0 0 0 0]] (delHp d (kidsTo d.l k true d.l.length) ver clk) := fun ver clk => ⟨d, _, ver, clk, rfl, rfl, hix⟩
  have hv := fun ver clk => delV_at d (kidsTo d.l k true d.l.length) ver clk
  have hh := fun ver clk => delH_at d (kidsTo d.l k true d.l.length) ver clk
  have hkp : kp d (kidsTo d.l k true d.l.length) = kids d k := kids_filter d k
  rw [hkp] at hv hh
  unfold delHp at hdp hv hh
  simp only [c37, Doc.enc, Orc.flat_econs, Orc.pre_econs, Orc.v_econs, Orc.hp_econs, Orc.qpre_econs, Orc.qv_econs, e1, e2, e3, e4, d1, d2, d3, d4, hp, hdp, hv, hh, chV_at', chH_at', ints, List.take_length, Nat.le_refl, wpC_seq_reg, wpC_reg, wpC_seq_treg, wpC_treg, wpC_seq_qreg, wpC_qreg, wpC_skip, wpC_ret, wpC_exit, wpC_goto, wpC_label, wpC_loop, wpC_scope, wpC_block, wpC_seq_skip, wpC_seq_ret, wpC_seq_exit, wpC_seq_goto, wpC_seq_label, wpC_seq_loop, wpC_seq_scope, wpC_seq_block, wpC_seq_seq, wpC_seq_cond, wpC_cond, seqP_normal, seqP_exit, seqP_goto, seqP_ret, blkP_normal, blkP_exit, blkP_goto, blkP_ret, seqQ_normal, seqQ_exit, seqQ_goto, seqQ_ret, jumpQ_goto, jumpQ_normal, jumpQ_exit, jumpQ_ret, retQ_ret, retQ_normal, wpR_nil, wpR_pick, wpR_gpick, wpR_call, wpR_callv, wpR_gcall, wpR_gcallv, wpQR_nil, wpQR_pick, wpQR_gpick, wpQR_call, wpQR_callv, wpQR_gcall, wpQR_gcallv, putE_some, putE_none, upd_at, val_t, val_k, val_f, uval_t, uval_k, uval_f, un_c, un_agg, un_tup, un_slc, un_pp, un_ref, un_ptr, un_fn, un_gd, gok_c, gok_agg, gok_tup, gok_slc, gok_pp, gok_ref, gok_ptr, gok_fn, gok_gd, okP_pick, vP_pick, asB_c, asI_c, enB_c, enB_gd, initE_at, evP, evE, okE, O.xs, goks, binV, arith, Heap.idxOK, V.idx, ldA, Heap.cells, V.off, Heap.isPtr, V.cut, V.slen, Heap.cutOK, optI, cellsOf, setPart, Heap.isOne, Heap.view, Heap.alloc, Heap.put, V.isAgg, retV, rvV, rvOK, List.all_cons, List.all_nil, Bool.and_true, Bool.true_and, List.length_map, List.getD_cons_zero, List.getD_cons_succ, List.getD_nil, if_true, if_false, List.map_cons, List.map_nil, Bool.cond_true_left, Bool.cond_false_right, Bool.and_eq_true, Bool.or_eq_true, decide_eq_true_eq, true_and, and_true, forall_const, List.length_cons, List.length_nil, Option.getD_none, Option.getD_some, beq_self_eq_true, Bool.or_eq_false_iff, decide_eq_false_iff_not, reduceCtorEq, Bool.and_self, ite_true, ite_false, Bool.not_true, Bool.not_false, List.drop_zero, List.take_succ_cons, List.take_zero, List.drop_succ_cons, List.nil_append, List.append_nil, List.cons_append, Option.isSome_none, Option.isSome_some, Option.map_none, Option.map_some, Bool.cond_true, Bool.cond_false, cond_true, cond_false, Bool.false_eq_true, reduceIte, Nat.reduceEqDiff, Nat.reduceAdd, Nat.reduceSub, Nat.reduceMul, Nat.reduceLT, Nat.reduceLeDiff, Nat.reduceBEq, Int.reduceEq, Int.reduceLT, Int.reduceLE, Int.reduceAdd, Int.reduceSub, Int.reduceNeg, false_and, and_false, or_true, true_or, or_false, false_or, not_true_eq_false, not_false_eq_true, implies_true, false_implies, Bool.true_beq, Bool.false_beq, Bool.and_false, Bool.false_and, Bool.or_true, Bool.or_false, Bool.true_or, Bool.false_or, eq_self, imp_self, beq_true, beq_false, Bool.not_eq_true, Bool.not_eq_false, Bool.not_eq_true', Bool.not_eq_false', Bool.not_not, Int.cast_ofNat_Int, Int.reduceToNat, Int.toNat_zero, Int.toNat_one, decide_true, decide_false, bne_self_eq_false, Bool.bne_false, Bool.bne_true, Bool.false_bne, Bool.true_bne, Orc.flat_cons, preQ_normal, preQ_ret, cond_bb, Option.toList_none, Option.toList_some, Nat.zero_add, List.cons.injEq, Blk.mk.injEq, V.ref.injEq, Heap.mk.injEq, take_mapn, bsAt_nil, bsAt_cons, range1, range2, range3, range4, Tok.eta, List.nodup_cons, List.nodup_nil, List.mem_cons, List.not_mem_nil, Agrees_nil, Agrees_cons, dsize, res_c, res_slc, res_pp, res_agg, res_tup, res_fn, res11_c, res11_slc, res11_pp, res10_c, res9_c, res_ref, res11_ref, res_ptr, res11_ptr, mapO_ints11, mapO_ints10, mapO_toks11, mapO_toks10, take_mapl, inR_iff, vi_inj, vs_inj, vb_inj, V.int_c, V.str_c, V.cs_agg, V.cs_pp, V.es_slc, dTok_enc, dTok_mk, dInts_map, dToks_map, dInts_nil, dInts_vnil, getD_ints, getD_toks, Option.some.injEq, Int.toNat_natCast, Option.isSome_map, Orc.pre_cons, Orc.v_cons, Orc.hp_cons, Orc.qpre_cons, Orc.qv_cons, Sum.pre, Sum.v, Sum.hp, V.isC, V.toC, V.isFn, V.fnId, V.caps, argsOf, mapO, lpQ_normal, lpQ_exit, lpQ_goto, lpQ_ret, jpQ_normal, jpQ_exit, jpQ_goto, jpQ_ret, ev_cons, ev_nil, Heap.blk, Heap.cur, Value.oneCell', Bool.and_eq_false_iff, Bool.or_eq_false_iff, List.getElem?_cons_zero, List.getElem?_cons_succ, List.getElem?_nil, List.set_cons_zero, List.set_cons_succ, List.set_nil, Option.getD_some, wpR_mov, wpR_gmov, wpQR_mov, wpQR_gmov, wpR_build, wpR_gbuild, wpQR_build, wpQR_gbuild, wpR_load, wpR_gload, wpQR_load, wpQR_gload, wpR_chk, wpR_gchk, wpQR_chk, wpQR_gchk, wpR_bin, wpR_gbin, wpQR_bin, wpQR_gbin, wpR_eqb, wpR_geqb, wpQR_eqb, wpQR_geqb, wpR_eqc, wpR_geqc, wpQR_eqc, wpQR_geqc, wpR_eqn, wpR_geqn, wpQR_eqn, wpQR_geqn, wpR_un, wpR_gun, wpQR_un, wpQR_gun, wpR_cvi, wpR_gcvi, wpQR_cvi, wpQR_gcvi, wpR_cvs, wpR_gcvs, wpQR_cvs, wpQR_gcvs, wpR_mkfn, wpR_gmkfn, wpQR_mkfn, wpQR_gmkfn, wpR_slice, wpR_gslice, wpQR_slice, wpQR_gslice, wpR_sliceS, wpR_gsliceS, wpQR_sliceS, wpQR_gsliceS, wpR_fieldAddr, wpR_gfieldAddr, wpQR_fieldAddr, wpQR_gfieldAddr, wpR_field, wpR_gfield, wpQR_field, wpQR_gfield, wpR_idxAddr, wpR_gidxAddr, wpQR_idxAddr, wpQR_gidxAddr, wpR_idxAddrA, wpR_gidxAddrA, wpQR_idxAddrA, wpQR_gidxAddrA, wpR_idxS, wpR_gidxS, wpQR_idxS, wpQR_gidxS, wpR_idxA, wpR_gidxA, wpQR_idxA, wpQR_gidxA, wpR_extract, wpR_gextract, wpQR_extract, wpQR_gextract, wpR_len, wpR_glen, wpQR_len, wpQR_glen, wpR_lenS, wpR_glenS, wpQR_lenS, wpQR_glenS, wpR_mm, wpR_gmm, wpQR_mm, wpQR_gmm, wpR_box, wpR_gbox, wpR_bslice, wpR_gbslice, wpR_mkslice, wpR_gmkslice, wpR_append, wpR_gappend, wpR_store, wpR_gstore, wpR_clr, wpR_gclr]
def sumKids : Sum Try.prog := ⟨37, fun args => args = [.agg (Doc.enc (dDoc (args.getD 0 .any))), vi ((args.getD 1 .any).int)] ∧ okL (dDoc (args.getD 0 .any)) ∧ 0 ≤ ((args.getD 1 .any).int) ∧ ((args.getD 1 .any).int) < ((dDoc (args.getD 0 .any))).l.length, fun args => ints (kids (dDoc (args.getD 0 .any)) (((args.getD 1 .any).int)).toNat), fun args h => by
  have := (by have h1 := h.2; have h2 := kids_ok (dDoc (args.getD 0 .any)) (((args.getD 1 .any).int)).toNat h1.1 (by have := h1.2.1; have := h1.2.2; omega); rw [Int.toNat_of_nonneg h1.2.1] at h2; exact h2 : PCall Try.prog 37 [.agg (Doc.enc (dDoc (args.getD 0 .any))), vi ((args.getD 1 .any).int)] (ints (kids (dDoc (args.getD 0 .any)) (((args.getD 1 .any).int)).toNat))); rwa [← h.1] at this, false⟩
theorem sumKids_f : sumKids.f = 37 := rfl
theorem sumKids_D (args : List V) : sumKids.D args = (args = [.agg (Doc.enc (dDoc (args.getD 0 .any))), vi ((args.getD 1 .any).int)] ∧ okL (dDoc (args.getD 0 .any)) ∧ 0 ≤ ((args.getD 1 .any).int) ∧ ((args.getD 1 .any).int) < ((dDoc (args.getD 0 .any))).l.length) := rfl
theorem sumKids_flat : sumKids.flat = false := rfl
theorem sumKids_r (args : List V) : sumKids.r args = ints (kids (dDoc (args.getD 0 .any)) (((args.getD 1 .any).int)).toNat) := rfl
end Go.Proofs.Ytdeleamdjakooaa
