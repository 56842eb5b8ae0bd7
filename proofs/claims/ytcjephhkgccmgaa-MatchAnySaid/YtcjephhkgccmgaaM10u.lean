/- The law of layer 10: any element, and one simple selector more. -/
import Derived.Test.YtcjephhkgccmgaaM10t
namespace Go.Sx
section
variable {cx : Cx} {e e' : Nat → V} {h h' : Heap} {a b c : C} {Q : Post}
theorem SemC.weak (hw : Weak cx e h e' h') (s : SemC cx c Q e' h') : SemC cx c Q e h := fun code hc g a w R =>
  let ⟨g', R'⟩ := hw g a w R
  s code hc g' a w R'
theorem SemC.sq (hw : wpC cx a (seqQ (fun e h => SemC cx b Q e h) Q) e h) : SemC cx (.seq a b) Q e h := by
  intro code hc g act w R
  have hcode : ∃ x' y', code = .seq x' y' ∧ compC cx.P cx.N x' = some a ∧ compC cx.P cx.N y' = some b := by
    cases code with
    | seq x' y' =>
      simp only [compC] at hc
      split at hc
      · rename_i u v hu hv
        simp only [Option.some.injEq, C.seq.injEq] at hc
        obtain ⟨rfl, rfl⟩ := hc
        exact ⟨x', y', rfl, hu, hv⟩
      · cases hc
    | region id ops draw => rcases compC_region hc with ⟨_, h⟩ | ⟨_, h⟩ | ⟨_, h⟩ | ⟨_, _, h⟩ | ⟨_, _, h⟩ | ⟨_, _, h⟩ | ⟨_, h⟩ <;> cases h
    | cond x y z => simp only [compC] at hc; split at hc <;> cases hc
    | rangeFunc f ps x y =>
      simp only [compC] at hc
      split at hc
      · split at hc <;> cases hc
      · cases hc
    | block id b => simp only [compC, Option.map_eq_some_iff] at hc; obtain ⟨_, _, hc⟩ := hc; cases hc
    | loop b => simp only [compC, Option.map_eq_some_iff] at hc; obtain ⟨_, _, hc⟩ := hc; cases hc
    | scope b => simp only [compC, Option.map_eq_some_iff] at hc; obtain ⟨_, _, hc⟩ := hc; cases hc
    | refuse => simp [compC] at hc
    | _ => simp only [compC, Option.some.injEq] at hc; cases hc
  obtain ⟨x', y', rfl, hx, hy⟩ := hcode
  refine wp_seq (wp_mono (wpC_ok _ hw x' hx g act w R) fun z a' w' hq => ?_)
  obtain ⟨g', e', h', R', q⟩ := hq
  cases z <;> simp only [seqQ] at q <;> simp only [Exit.then]
  · exact q y' hy g' a' w' R'
  all_goals exact ⟨g', e', h', R', q⟩
end
section
variable {P : Program} {N : Nat} {g g' : Gh} {e : Nat → V} {h h' : Heap} {w w' w0 : World} {own0 : Own} {a : Act}
theorem calls_ofS (T : Orc P) (hds : own0.ds = []) {f : FuncId} {fc : FnC} (hf : compF P f = some fc) {args : List V} (hn : args.length ≤ fc.n) {K : V → Heap → Prop} (hw : SemC ⟨P, T, fc.n, w0, own0⟩ fc.body (retQ fc.rs K) (initE args) h)
    {cargs : Array Value} (H : HRel g h w w0 own0) (hs : cargs.size = args.length) (hv : ∀ i, i < args.length → VRep g w (cargs.getD i undef) (args.getD i .any)) :
    Calls P f cargs w fun e w' => ∃ g' h' cv v, e = .returned cv ∧ HRel g' h' w' w0 own0 ∧ VRep g' w' cv v ∧ K v h' := by
  obtain ⟨_, fn, c, h1, h2, h3, h4, h5⟩ := compF_ok hf
  rw [h3] at hn hw
  refine callsIn_wide.1 (callsIn_of_wp_marks (n := 1) h1 h2 trivial (wpIn_wide.2 (wp_mono (hw c h4 g _ w (init_ok hds hn hs hv H)) fun x a' w' hq => ?_)))
  obtain ⟨g', e', h', R', q⟩ := hq
  have key : fc.rs.all (rvOK e' h') = true ∧ K (retV fc.rs e' h') h' → LeavesInM Fence.wide 1 P fn a'.tmps (fun e w' => ∃ g' h' cv v, e = .returned cv ∧ HRel g' h' w' w0 own0 ∧ VRep g' w' cv v ∧ K v h') a'.defers .returning w' := by
    rintro ⟨k1, k2⟩
    obtain ⟨m, hm, hd⟩ := R'.defers
    rw [hm, hds, List.append_nil]
    exact leaves_ok h5 k1 k2 R'.size R'.tm R'.heap hd
  cases x <;> simp only [retQ] at q <;> simp only [bodyPostM]
  · exact key q
  · exact key q

theorem PCall.ofS (T : Orc P) {f : FuncId} {fc : FnC} (hf : compF P f = some fc) {args : List V} {r : V} (hn : args.length ≤ fc.n)
    (hw : ∀ w0 own0, SemC ⟨P, T, fc.n, w0, own0⟩ fc.body (retQ fc.rs fun v h => res (fun _ => true) h 12 v = some r) (initE args) ⟨[], 0⟩) : PCall P f args r := by
  refine ⟨(compF_ok hf).1, fun F w cargs hF hs hv => ?_⟩
  have H : HRel ⟨F, [], fun _ _ => False⟩ ⟨[], 0⟩ w w ⟨fun _ => False, F, ⟨F, [], fun _ _ => False⟩, []⟩ := by
    refine ⟨fun _ _ h => h.elim, rfl, by simp, by simp, by simp, hF, by simp, Frm.refl _ _, fun b hb => .inl hb, Ext.refl _ _⟩
  refine (calls_ofS T rfl hf hn (hw w _) H hs fun i hi => .p _ _ (hv i hi)).mono fun e w' he => ?_
  obtain ⟨g', h', cv, v, rfl, H', hv', hr⟩ := he
  have hg : Grow w w' := ⟨H'.frm.os, H'.frm.tape, H'.frm.output, H'.frm.size, fun b hb => H'.frm.block b hb (by simp)⟩
  refine ⟨cv, rfl, hg, (res_ok H' 12 hv' hr).mono (fun b hb => ?_) (fun _ _ => rfl)⟩
  rcases hb with hb | ⟨j, I, hI, hIb, _⟩
  · rcases H'.fin b hb with h | h | h
    · exact .inl h
    · exact h.elim
    · exact .inr ⟨h, H'.Flt b hb⟩
  · rcases H'.own j I b hI hIb with h | h
    · exact h.elim
    · exact .inr ⟨h, H'.blt hI hIb⟩
end
end Go.Sx
namespace Go.Proofs.Ytcjephhkgccmgaa
open Go.Sx
set_option linter.unusedSimpArgs false
set_option maxHeartbeats 4000000
set_option maxRecDepth 20000

theorem morS_okC {s : Sel} {x : Smp} (h : okC s) (h0 : 0 < s.length) (hc : (s.getD (s.length - 1) default).l.length + 1 ≤ 1000000) : okC (morS s x) := by
  refine ⟨by rw [morS_len s x h0]; exact h.1, fun j hj => ?_⟩
  rw [morS_len s x h0] at hj
  by_cases hjl : j < s.length - 1
  · rw [morS_lt s x j hjl]; exact h.2 j (by omega)
  · have : j = s.length - 1 := by omega
    subst this
    rw [morS_last s x h0]
    simp only [List.length_append, List.length_cons, List.length_nil]
    omega
theorem shrt_20 {s : Sel} (h : shrt [s] = true) (i : Nat) (hi : i < s.length) : (s.getD i default).l.length ≤ 20 := by
  unfold shrt at h
  rw [Bool.and_eq_true] at h
  have h2 := h.2
  unfold few8 at h2
  rw [decide_eq_true_eq] at h2
  exact ((h2.2 0 (by simp)).2 i hi).1
theorem matchAny_law (x : V) (h : CellOK (.slc nodeC) x) (y : List V) (hl : y.length = 1) (h2 : ∀ i c, selC[i]? = some c → CellOK c (y.getD i .any)) (z : V) (h3 : CellOK .str z) : PCall Try.prog 7 [x, .agg y, z] (.c (.bool true)) := by
  obtain ⟨l, rfl⟩ := nodes_of h
  obtain ⟨s, rfl, hm⟩ := selL_of hl h2
  cases h3 with
  | str nm hnm =>
  refine PCall.ofS (Orc.cons sumFew9 (Orc.cons sumShort (Orc.cons sumAwake10 (Orc.cons sumChkR (Orc.cons sumRgtL (Orc.cons sumIsM (Orc.nil _))))))) c7_ok (by simp [c7]) fun w0 own0 => ?_
  have hds : dSels (.slc 1 [[.slc 2 (s.map Cmp.enc)]]) = [s] := dSels_map [s]
  have hb2 : 1 ≤ big := by decide
  have hrs : c7.rs = [.tmp 6] := rfl
  rw [hrs]
  refine SemC.sq ?_
  simp only [nodes, selE, sumFew9_f, sumFew9_D, sumFew9_flat, sumFew9_r, sumShort_f, sumShort_D, sumShort_flat, sumShort_r, sumAwake10_f, sumAwake10_D, sumAwake10_flat, sumAwake10_r, sumChkR_f, sumChkR_D, sumChkR_flat, sumChkR_r, sumRgtL_f, sumRgtL_D, sumRgtL_flat, sumRgtL_r, sumIsM_f, sumIsM_D, sumIsM_flat, sumIsM_r, go_sem, wpR_gcall, reduceCtorEq, reduceIte, Nat.reduceEqDiff, Nat.reduceAdd, Nat.reduceSub, Nat.reduceMul, Nat.reduceLT, Nat.reduceLeDiff, Nat.reduceBEq, Int.reduceEq, Int.reduceLT, Int.reduceLE, Int.reduceAdd, Int.reduceSub, Int.reduceNeg, Int.reduceToNat]
  refine SemC.sq ?_
  by_cases hf : few9 l = true ∧ shrt [s] = true ∧ ¬ (50 : Int) < (nm.size : Int) ∧ ¬ (s.length : Int) = 0
  · obtain ⟨hf1, hf2, hf3, hf4⟩ := hf
    obtain ⟨l1, l2⟩ := few9_okNs hf1
    have hs := shrt_one hf2
    have hM := okM_one hs
    have l3 : l.length ≤ 1000 := by omega
    simp only [nodes, selE, sels, dNodes_map, dSel_mk, hds, hf1, hf2, hf3, hf4, hb2, on_gcall, off_gcall, flat_gcall, sumFew9_f, sumFew9_D, sumFew9_flat, sumFew9_r, sumShort_f, sumShort_D, sumShort_flat, sumShort_r, sumAwake10_f, sumAwake10_D, sumAwake10_flat, sumAwake10_r, sumChkR_f, sumChkR_D, sumChkR_flat, sumChkR_r, sumRgtL_f, sumRgtL_D, sumRgtL_flat, sumRgtL_r, sumIsM_f, sumIsM_D, sumIsM_flat, sumIsM_r, go_sem, reduceCtorEq, reduceIte, Nat.reduceEqDiff, Nat.reduceAdd, Nat.reduceSub, Nat.reduceMul, Nat.reduceLT, Nat.reduceLeDiff, Nat.reduceBEq, Int.reduceEq, Int.reduceLT, Int.reduceLE, Int.reduceAdd, Int.reduceSub, Int.reduceNeg, Int.reduceToNat]
    refine SemC.sq ?_
    by_cases hD : docB l = true ∧ rgtL [s] = true
    · obtain ⟨hD, hr⟩ := hD
      have c0 : (if 0 ≤ badR l ∨ l.length = 0 then (5 : Int) else 0) = 0 := by
        unfold docB at hD; rw [decide_eq_true_eq] at hD; rw [if_neg]; omega
      have hs1 : s.length ≤ 1000000 := hs.1
      simp only [nodes, selE, sels, dNodes_map, dSel_mk, hds, hM, hr, l2, l3, chkOf, c0, on_gcall, off_gcall, flat_gcall, sumFew9_f, sumFew9_D, sumFew9_flat, sumFew9_r, sumShort_f, sumShort_D, sumShort_flat, sumShort_r, sumAwake10_f, sumAwake10_D, sumAwake10_flat, sumAwake10_r, sumChkR_f, sumChkR_D, sumChkR_flat, sumChkR_r, sumRgtL_f, sumRgtL_D, sumRgtL_flat, sumRgtL_r, sumIsM_f, sumIsM_D, sumIsM_flat, sumIsM_r, go_sem, reduceCtorEq, reduceIte, Nat.reduceEqDiff, Nat.reduceAdd, Nat.reduceSub, Nat.reduceMul, Nat.reduceLT, Nat.reduceLeDiff, Nat.reduceBEq, Int.reduceEq, Int.reduceLT, Int.reduceLE, Int.reduceAdd, Int.reduceSub, Int.reduceNeg, Int.reduceToNat]
      refine SemC.sq ?_
      simp only [sumFew9_f, sumFew9_D, sumFew9_flat, sumFew9_r, sumShort_f, sumShort_D, sumShort_flat, sumShort_r, sumAwake10_f, sumAwake10_D, sumAwake10_flat, sumAwake10_r, sumChkR_f, sumChkR_D, sumChkR_flat, sumChkR_r, sumRgtL_f, sumRgtL_D, sumRgtL_flat, sumRgtL_r, sumIsM_f, sumIsM_D, sumIsM_flat, sumIsM_r, go_sem, wpR_gcall, reduceCtorEq, reduceIte, Nat.reduceEqDiff, Nat.reduceAdd, Nat.reduceSub, Nat.reduceMul, Nat.reduceLT, Nat.reduceLeDiff, Nat.reduceBEq, Int.reduceEq, Int.reduceLT, Int.reduceLE, Int.reduceAdd, Int.reduceSub, Int.reduceNeg, Int.reduceToNat]
      refine SemC.sq ?_
      simp only [sumFew9_f, sumFew9_D, sumFew9_flat, sumFew9_r, sumShort_f, sumShort_D, sumShort_flat, sumShort_r, sumAwake10_f, sumAwake10_D, sumAwake10_flat, sumAwake10_r, sumChkR_f, sumChkR_D, sumChkR_flat, sumChkR_r, sumRgtL_f, sumRgtL_D, sumRgtL_flat, sumRgtL_r, sumIsM_f, sumIsM_D, sumIsM_flat, sumIsM_r, go_sem, wpR_gcall, reduceCtorEq, reduceIte, Nat.reduceEqDiff, Nat.reduceAdd, Nat.reduceSub, Nat.reduceMul, Nat.reduceLT, Nat.reduceLeDiff, Nat.reduceBEq, Int.reduceEq, Int.reduceLT, Int.reduceLE, Int.reduceAdd, Int.reduceSub, Int.reduceNeg, Int.reduceToNat]
      refine ⟨by omega, ?_⟩
      refine SemC.sq ?_
      have hend : 0 < s.length := by omega
      have hg := getD_cmps s (s.length - 1) [.c (.int .i64 0), .c (.slice none 0 0)] (by omega)
      have hcl := hs.2 (s.length - 1) (by omega)
      have z1 : (0 : Int) ≤ (s.length : Int) - 1 := by omega
      have z2 : (s.length : Int) - 1 < (s.length : Int) := by omega
      have z3 : ((s.length : Int) - 1).toNat = s.length - 1 := by omega
      generalize hc : s.getD (s.length - 1) default = c at *
      simp only [z1, z2, z3, hg, Cmp.enc, wpC_seq_xreg, wpC_xreg, wpXR_nil, wpXR_own, wpXR_flu, xeOK, xe, XE.val, XE.heap, efO, shutArgs, xfoot, footO, V.tops, V.top1, clashOne, noClash, Orc.flat_fcons, Orc.pre_fcons, Orc.v_fcons, Orc.hp_fcons, Orc.qpre_fcons, Orc.qv_fcons, Orc.fpre_fcons, Orc.fes_fcons, Orc.flat_gcons, Orc.pre_gcons, Orc.v_gcons, Orc.hp_gcons, Orc.qpre_gcons, Orc.qv_gcons, Orc.fpre_gcons, Orc.fes_gcons, GSum.pre, GSum.v, GSum.hp, Orc.fpre_cons, Orc.fes_cons, Orc.fpre_econs, Orc.fes_econs, FSum.pre, FSum.v, FSum.hp, fres, O.calls, List.flatMap_cons, List.flatMap_nil, List.contains_cons, List.contains_nil, Bool.not_true, Bool.not_false, Heap.freeze, List.mapIdx_cons, List.mapIdx_nil, List.elem_cons, List.elem_nil, fluP, fluV, evF, bne_iff_ne, ne_eq, Option.some.injEq, on_gcall, off_gcall, flat_gcall, sumFew9_f, sumFew9_D, sumFew9_flat, sumFew9_r, sumShort_f, sumShort_D, sumShort_flat, sumShort_r, sumAwake10_f, sumAwake10_D, sumAwake10_flat, sumAwake10_r, sumChkR_f, sumChkR_D, sumChkR_flat, sumChkR_r, sumRgtL_f, sumRgtL_D, sumRgtL_flat, sumRgtL_r, sumIsM_f, sumIsM_D, sumIsM_flat, sumIsM_r, go_sem, reduceCtorEq, reduceIte, Nat.reduceEqDiff, Nat.reduceAdd, Nat.reduceSub, Nat.reduceMul, Nat.reduceLT, Nat.reduceLeDiff, Nat.reduceBEq, Int.reduceEq, Int.reduceLT, Int.reduceLE, Int.reduceAdd, Int.reduceSub, Int.reduceNeg, Int.reduceToNat]
      have hsz : (⟨#[120]⟩ : ByteArray).size = 1 := rfl
      refine ⟨⟨by omega, by omega⟩, ⟨by omega, ?_⟩, ⟨by omega, by omega, by omega⟩, ?_⟩
      · have : (#[120] : Array UInt8).size = 1 := rfl
        omega
      have htc : c.l.take c.l.length = c.l := List.take_length
      rw [htc]
      generalize hnx : (⟨4, nm ++ ⟨#[120]⟩, ⟨#[]⟩⟩ : Smp) = nx at *
      have hen : c.l.map Smp.enc ++ [[V.c (.int .i64 4), V.c (.string (nm ++ ⟨#[120]⟩)), V.c (.string ⟨#[]⟩)]] = (c.l ++ [nx]).map Smp.enc := by rw [← hnx, List.map_append]; rfl
      rw [hen]
      have hlx : (c.l ++ [nx]).length = c.l.length + 1 := by simp
      refine SemC.weak (St.sealC (fun j => j == 6) 7 0 1 (y := .slc 3 ((c.l ++ [nx]).map Smp.enc)) rfl ?_ (St.cut (st := [(0, .slc 6 (l.map Node.enc)), (4, .ptr 0 0 0 0), (9, .ptr 5 5 0 0), (10, vi ((s.length : Int) - 1)), (11, .ptr 7 9 0 0)])
        (hp := ⟨[⟨0, 1, [[.slc 2 (s.map Cmp.enc)]], false, []⟩, ⟨1, 1, [[.slc 2 (s.map Cmp.enc)]], false, [vnil]⟩, ⟨2, 1, [[.slc 2 (s.map Cmp.enc)]], false, [vnil]⟩, ⟨3, 3, [[vi 1, vs ⟨#[]⟩, vs ⟨#[]⟩]], false, [vi 0, vs ⟨#[]⟩, vs ⟨#[]⟩]⟩,
          ⟨4, 2, [[vi 0, .ref 3 3 0 1]], false, [vi 0, vnil]⟩, ⟨5, 1, [[.ref 4 4 0 1]], false, []⟩, ⟨8, 3, (c.l ++ [nx]).map Smp.enc, true, [vi 0, vs ⟨#[]⟩, vs ⟨#[]⟩]⟩, ⟨9, 2, [[vi c.link, .slc 3 ((c.l ++ [nx]).map Smp.enc)]], false, []⟩], 32⟩) ?_ ?_ ?_)) ?_
      · simp only [List.getD_cons_zero, List.getD_cons_succ]
        rw [res11_ref]
        have ht3 : ((c.l ++ [nx]).map Smp.enc).take (c.l.length + 1) = (c.l ++ [nx]).map Smp.enc := List.take_of_length_le (by simp)
        simp only [Heap.cur, Heap.blk, List.getElem?_cons_succ, List.getElem?_cons_zero, Option.getD_some, List.length_map, hlx, List.drop_zero, ht3, beq_self_eq_true, Bool.and_self, Nat.zero_add, Nat.le_refl, decide_true, if_true, mapO_smp10, Option.map_some]
      · simp [Agrees, upd_at, initE_at]
      · rfl
      · rfl
      refine SemC.sq ?_
      have hsm1 : s.length - 1 ≤ s.length := by omega
      have z4 : (s.length : Int) - 1 ≤ (s.length : Int) := by omega
      have htl : (s.take (s.length - 1)).length = s.length - 1 := by rw [List.length_take]; omega
      have htt : (s.take (s.length - 1)).take (s.length - 1) = s.take (s.length - 1) := List.take_of_length_le (by omega)
      have hmo : (s.take (s.length - 1)).map Cmp.enc ++ [[V.c (.int .i64 c.link), V.slc 3 ((c.l ++ [nx]).map Smp.enc)]] = (morS s nx).map Cmp.enc := by
        unfold morS; rw [hc, List.map_append (f := Cmp.enc)]; rfl
      have hml := morS_len s nx (by omega)
      simp only [z1, z2, z3, z4, Nat.sub_zero, htl, htt, hmo, wpC_seq_xreg, wpC_xreg, wpXR_nil, wpXR_own, wpXR_flu, xeOK, xe, XE.val, XE.heap, efO, shutArgs, xfoot, footO, V.tops, V.top1, clashOne, noClash, Orc.flat_fcons, Orc.pre_fcons, Orc.v_fcons, Orc.hp_fcons, Orc.qpre_fcons, Orc.qv_fcons, Orc.fpre_fcons, Orc.fes_fcons, Orc.flat_gcons, Orc.pre_gcons, Orc.v_gcons, Orc.hp_gcons, Orc.qpre_gcons, Orc.qv_gcons, Orc.fpre_gcons, Orc.fes_gcons, GSum.pre, GSum.v, GSum.hp, Orc.fpre_cons, Orc.fes_cons, Orc.fpre_econs, Orc.fes_econs, FSum.pre, FSum.v, FSum.hp, fres, O.calls, List.flatMap_cons, List.flatMap_nil, List.contains_cons, List.contains_nil, Bool.not_true, Bool.not_false, Heap.freeze, List.mapIdx_cons, List.mapIdx_nil, List.elem_cons, List.elem_nil, fluP, fluV, evF, bne_iff_ne, ne_eq, Option.some.injEq, on_gcall, off_gcall, flat_gcall, sumFew9_f, sumFew9_D, sumFew9_flat, sumFew9_r, sumShort_f, sumShort_D, sumShort_flat, sumShort_r, sumAwake10_f, sumAwake10_D, sumAwake10_flat, sumAwake10_r, sumChkR_f, sumChkR_D, sumChkR_flat, sumChkR_r, sumRgtL_f, sumRgtL_D, sumRgtL_flat, sumRgtL_r, sumIsM_f, sumIsM_D, sumIsM_flat, sumIsM_r, go_sem, reduceCtorEq, reduceIte, Nat.reduceEqDiff, Nat.reduceAdd, Nat.reduceSub, Nat.reduceMul, Nat.reduceLT, Nat.reduceLeDiff, Nat.reduceBEq, Int.reduceEq, Int.reduceLT, Int.reduceLE, Int.reduceAdd, Int.reduceSub, Int.reduceNeg, Int.reduceToNat]
      refine ⟨⟨by omega, by omega⟩, ⟨by omega, by omega, by omega⟩, ?_⟩
      have hl1 : s.length - 1 + 1 = s.length := by omega
      rw [hl1]
      have hmm : ((morS s nx).map Cmp.enc).length = s.length := by rw [List.length_map, hml]
      have hmt : ((morS s nx).map Cmp.enc).take s.length = (morS s nx).map Cmp.enc := List.take_of_length_le (by omega)
      refine SemC.weak (St.sealC (fun j => j == 3) 4 0 1 (y := V.slc 3 [[vi 1, vs ⟨#[]⟩, vs ⟨#[]⟩]]) rfl ?_ (St.sealC (fun j => j == 4) 5 0 0 (y := V.slc 2 [[vi 0, V.slc 3 [[vi 1, vs ⟨#[]⟩, vs ⟨#[]⟩]]]]) rfl ?_ (St.sealC (fun j => j == 8) 9 0 0 (y := .slc 2 ((morS s nx).map Cmp.enc)) rfl ?_ (St.cut (st := [(0, .slc 6 (l.map Node.enc)), (4, .ptr 0 0 0 0), (9, .ptr 5 5 0 0), (12, .ptr 9 35 0 0)])
        (hp := ⟨[⟨0, 1, [[.slc 2 (s.map Cmp.enc)]], false, []⟩, ⟨1, 1, [[.slc 2 (s.map Cmp.enc)]], false, [vnil]⟩, ⟨2, 1, [[.slc 2 (s.map Cmp.enc)]], false, [vnil]⟩, ⟨3, 3, [[vi 1, vs ⟨#[]⟩, vs ⟨#[]⟩]], true, [vi 0, vs ⟨#[]⟩, vs ⟨#[]⟩]⟩,
          ⟨4, 2, [[vi 0, V.slc 3 [[vi 1, vs ⟨#[]⟩, vs ⟨#[]⟩]]]], true, [vi 0, vnil]⟩, ⟨5, 1, [[V.slc 2 [[vi 0, V.slc 3 [[vi 1, vs ⟨#[]⟩, vs ⟨#[]⟩]]]]]], false, []⟩, ⟨8, 3, (c.l ++ [nx]).map Smp.enc, true, [vi 0, vs ⟨#[]⟩, vs ⟨#[]⟩]⟩, ⟨9, 2, [[vi c.link, .slc 3 ((c.l ++ [nx]).map Smp.enc)]], false, []⟩,
          ⟨34, 2, (morS s nx).map Cmp.enc, true, [vi 0, vnil]⟩, ⟨35, 1, [[.slc 2 ((morS s nx).map Cmp.enc)]], false, []⟩], 48⟩) ?_ ?_ ?_)))) ?_
      · rfl
      · rfl
      · simp only [Heap.freeze, List.mapIdx_cons, List.mapIdx_nil, List.set_cons_succ, List.set_cons_zero, List.getD_cons_zero, List.getD_cons_succ]
        rw [res11_ref]
        simp only [Heap.cur, Heap.blk, List.getElem?_cons_succ, List.getElem?_cons_zero, Option.getD_some, hmm, List.drop_zero, hmt, beq_self_eq_true, Bool.and_self, Nat.zero_add, Nat.le_refl, decide_true, if_true, mapO_cmp10, Option.map_some]
      · simp [Agrees, upd_at, ev_cons]
      · rfl
      · rfl
      refine wpC_ok _ ?_
      simp only [sumFew9_f, sumFew9_D, sumFew9_flat, sumFew9_r, sumShort_f, sumShort_D, sumShort_flat, sumShort_r, sumAwake10_f, sumAwake10_D, sumAwake10_flat, sumAwake10_r, sumChkR_f, sumChkR_D, sumChkR_flat, sumChkR_r, sumRgtL_f, sumRgtL_D, sumRgtL_flat, sumRgtL_r, sumIsM_f, sumIsM_D, sumIsM_flat, sumIsM_r, go_sem, wpR_gcall, reduceCtorEq, reduceIte, Nat.reduceEqDiff, Nat.reduceAdd, Nat.reduceSub, Nat.reduceMul, Nat.reduceLT, Nat.reduceLeDiff, Nat.reduceBEq, Int.reduceEq, Int.reduceLT, Int.reduceLE, Int.reduceAdd, Int.reduceSub, Int.reduceNeg, Int.reduceToNat]
      refine SemC.lp (α := LpS) (fun a => [(0, .slc 6 (l.map Node.enc)), (4, .ptr 0 0 0 0), (9, .ptr 5 5 0 0), (12, .ptr 9 35 0 0), (89, .slc 6 (l.map Node.enc)), (90, vi l.length), (91, vi a.n)])
        (fun a => ⟨[⟨0, 1, [[.slc 2 (s.map Cmp.enc)]], false, []⟩, ⟨1, 1, [[.slc 2 (s.map Cmp.enc)]], false, [vnil]⟩, ⟨2, 1, [[.slc 2 (s.map Cmp.enc)]], false, [vnil]⟩, ⟨3, 3, [[vi 1, vs ⟨#[]⟩, vs ⟨#[]⟩]], true, [vi 0, vs ⟨#[]⟩, vs ⟨#[]⟩]⟩,
          ⟨4, 2, [[vi 0, V.slc 3 [[vi 1, vs ⟨#[]⟩, vs ⟨#[]⟩]]]], true, [vi 0, vnil]⟩, ⟨5, 1, [[V.slc 2 [[vi 0, V.slc 3 [[vi 1, vs ⟨#[]⟩, vs ⟨#[]⟩]]]]]], false, []⟩, ⟨8, 3, (c.l ++ [nx]).map Smp.enc, true, [vi 0, vs ⟨#[]⟩, vs ⟨#[]⟩]⟩, ⟨9, 2, [[vi c.link, .slc 3 ((c.l ++ [nx]).map Smp.enc)]], false, []⟩,
          ⟨34, 2, (morS s nx).map Cmp.enc, true, [vi 0, vnil]⟩, ⟨35, 1, [[.slc 2 ((morS s nx).map Cmp.enc)]], false, []⟩], a.clk⟩) (fun a => a.n ≤ l.length) (fun a => l.length - a.n) ⟨0, 48⟩ (Nat.zero_le _) (St.mk (by simp [Agrees, upd_at, ev_cons])) fun a ha => ?_
      obtain ⟨k, clk⟩ := a
      simp only at ha
      by_cases hk : k = l.length
      · subst hk
        simp only [Int.lt_irrefl, sumFew9_f, sumFew9_D, sumFew9_flat, sumFew9_r, sumShort_f, sumShort_D, sumShort_flat, sumShort_r, sumAwake10_f, sumAwake10_D, sumAwake10_flat, sumAwake10_r, sumChkR_f, sumChkR_D, sumChkR_flat, sumChkR_r, sumRgtL_f, sumRgtL_D, sumRgtL_flat, sumRgtL_r, sumIsM_f, sumIsM_D, sumIsM_flat, sumIsM_r, go_sem, wpR_gcall, reduceCtorEq, reduceIte, Nat.reduceEqDiff, Nat.reduceAdd, Nat.reduceSub, Nat.reduceMul, Nat.reduceLT, Nat.reduceLeDiff, Nat.reduceBEq, Int.reduceEq, Int.reduceLT, Int.reduceLE, Int.reduceAdd, Int.reduceSub, Int.reduceNeg, Int.reduceToNat]
      · have e1 : (k : Int) < (l.length : Int) := by omega
        have e0 : (0 : Int) ≤ (k : Int) := by omega
        have hkl : k < l.length := by omega
        have hgn := getD_nodes l k [.c (.int .i64 0), .c (.string ⟨#[]⟩), .c (.string ⟨#[]⟩), .c (.slice none 0 0), .c (.slice none 0 0), .c (.string ⟨#[]⟩)] hkl
        have hom : okC (morS s nx) := morS_okC hs (by omega) (by rw [hc]; have := shrt_20 hf2 (s.length - 1) (by omega); rw [hc] at this; omega)
        have hany := isM_any hD k hkl
        have hda : dSel (.agg [.slc 2 [[.c (.int .i64 0), .slc 3 [[.c (.int .i64 1), .c (.string ⟨#[]⟩), .c (.string ⟨#[]⟩)]]]]]) = anyS := rfl
        have hsa : V.slc 2 (anyS.map Cmp.enc) = .slc 2 [[.c (.int .i64 0), .slc 3 [[.c (.int .i64 1), .c (.string ⟨#[]⟩), .c (.string ⟨#[]⟩)]]]] := rfl
        have hoa : okC anyS := ⟨by decide, fun i hi => by
          have : i = 0 := by simp [anyS] at hi; omega
          subst this; decide⟩
        generalize hnd : l.getD k .zero = n at *
        have hmor : isM l k (morS s nx) = true → isM l k s = true := fun h => isM_mor hr h
        cases hi2 : isM l k (morS s nx) with
        | false =>
          simp only [nodes, selE, Node.enc, dNodes_map, dSel_mk, hda, hsa, hoa, hany, hi2, l2, l3, hs, hom, e0, e1, hgn, hmm, hmt, Nat.le_refl, mapO_cmp10, res11_c, res11_ref, res_agg, res_ref, on_gcall, off_gcall, flat_gcall, sumFew9_f, sumFew9_D, sumFew9_flat, sumFew9_r, sumShort_f, sumShort_D, sumShort_flat, sumShort_r, sumAwake10_f, sumAwake10_D, sumAwake10_flat, sumAwake10_r, sumChkR_f, sumChkR_D, sumChkR_flat, sumChkR_r, sumRgtL_f, sumRgtL_D, sumRgtL_flat, sumRgtL_r, sumIsM_f, sumIsM_D, sumIsM_flat, sumIsM_r, go_sem, reduceCtorEq, reduceIte, Nat.reduceEqDiff, Nat.reduceAdd, Nat.reduceSub, Nat.reduceMul, Nat.reduceLT, Nat.reduceLeDiff, Nat.reduceBEq, Int.reduceEq, Int.reduceLT, Int.reduceLE, Int.reduceAdd, Int.reduceSub, Int.reduceNeg, Int.reduceToNat]
          exact ⟨by omega, ⟨k + 1, clk + 1⟩, by dsimp only; omega, by dsimp only; omega, by dsimp only; omega, rfl⟩
        | true =>
          have hi := hmor hi2
          simp only [nodes, selE, Node.enc, dNodes_map, dSel_mk, hda, hsa, hoa, hany, hi2, hi, l2, l3, hs, hom, e0, e1, hgn, hmm, hmt, Nat.le_refl, mapO_cmp10, res11_c, res11_ref, res_agg, res_ref, on_gcall, off_gcall, flat_gcall, sumFew9_f, sumFew9_D, sumFew9_flat, sumFew9_r, sumShort_f, sumShort_D, sumShort_flat, sumShort_r, sumAwake10_f, sumAwake10_D, sumAwake10_flat, sumAwake10_r, sumChkR_f, sumChkR_D, sumChkR_flat, sumChkR_r, sumRgtL_f, sumRgtL_D, sumRgtL_flat, sumRgtL_r, sumIsM_f, sumIsM_D, sumIsM_flat, sumIsM_r, go_sem, reduceCtorEq, reduceIte, Nat.reduceEqDiff, Nat.reduceAdd, Nat.reduceSub, Nat.reduceMul, Nat.reduceLT, Nat.reduceLeDiff, Nat.reduceBEq, Int.reduceEq, Int.reduceLT, Int.reduceLE, Int.reduceAdd, Int.reduceSub, Int.reduceNeg, Int.reduceToNat]
          exact ⟨by omega, ⟨k + 1, clk + 1⟩, by dsimp only; omega, by dsimp only; omega, by dsimp only; omega, rfl⟩
    · by_cases hD2 : docB l = true
      · have hr : rgtL [s] = false := by
          cases hh : rgtL [s] with
          | false => rfl
          | true => exact absurd ⟨hD2, hh⟩ hD
        have c0 : (if 0 ≤ badR l ∨ l.length = 0 then (5 : Int) else 0) = 0 := by
          unfold docB at hD2; rw [decide_eq_true_eq] at hD2; rw [if_neg]; omega
        simp only [nodes, selE, sels, dNodes_map, dSel_mk, hds, hM, hr, l2, l3, chkOf, c0, on_gcall, off_gcall, flat_gcall, sumFew9_f, sumFew9_D, sumFew9_flat, sumFew9_r, sumShort_f, sumShort_D, sumShort_flat, sumShort_r, sumAwake10_f, sumAwake10_D, sumAwake10_flat, sumAwake10_r, sumChkR_f, sumChkR_D, sumChkR_flat, sumChkR_r, sumRgtL_f, sumRgtL_D, sumRgtL_flat, sumRgtL_r, sumIsM_f, sumIsM_D, sumIsM_flat, sumIsM_r, go_sem, reduceCtorEq, reduceIte, Nat.reduceEqDiff, Nat.reduceAdd, Nat.reduceSub, Nat.reduceMul, Nat.reduceLT, Nat.reduceLeDiff, Nat.reduceBEq, Int.reduceEq, Int.reduceLT, Int.reduceLE, Int.reduceAdd, Int.reduceSub, Int.reduceNeg, Int.reduceToNat]
      · have c0 : (if 0 ≤ badR l ∨ l.length = 0 then (5 : Int) else 0) = 5 := by
          unfold docB at hD2; rw [decide_eq_true_eq] at hD2; rw [if_pos]; omega
        simp only [nodes, selE, sels, dNodes_map, dSel_mk, hds, hM, l2, l3, chkOf, c0, on_gcall, off_gcall, flat_gcall, sumFew9_f, sumFew9_D, sumFew9_flat, sumFew9_r, sumShort_f, sumShort_D, sumShort_flat, sumShort_r, sumAwake10_f, sumAwake10_D, sumAwake10_flat, sumAwake10_r, sumChkR_f, sumChkR_D, sumChkR_flat, sumChkR_r, sumRgtL_f, sumRgtL_D, sumRgtL_flat, sumRgtL_r, sumIsM_f, sumIsM_D, sumIsM_flat, sumIsM_r, go_sem, reduceCtorEq, reduceIte, Nat.reduceEqDiff, Nat.reduceAdd, Nat.reduceSub, Nat.reduceMul, Nat.reduceLT, Nat.reduceLeDiff, Nat.reduceBEq, Int.reduceEq, Int.reduceLT, Int.reduceLE, Int.reduceAdd, Int.reduceSub, Int.reduceNeg, Int.reduceToNat]
  · cases hf1 : few9 l with
    | false => simp only [nodes, selE, sels, dNodes_map, dSel_mk, hds, hf1, on_gcall, off_gcall, flat_gcall, sumFew9_f, sumFew9_D, sumFew9_flat, sumFew9_r, sumShort_f, sumShort_D, sumShort_flat, sumShort_r, sumAwake10_f, sumAwake10_D, sumAwake10_flat, sumAwake10_r, sumChkR_f, sumChkR_D, sumChkR_flat, sumChkR_r, sumRgtL_f, sumRgtL_D, sumRgtL_flat, sumRgtL_r, sumIsM_f, sumIsM_D, sumIsM_flat, sumIsM_r, go_sem, reduceCtorEq, reduceIte, Nat.reduceEqDiff, Nat.reduceAdd, Nat.reduceSub, Nat.reduceMul, Nat.reduceLT, Nat.reduceLeDiff, Nat.reduceBEq, Int.reduceEq, Int.reduceLT, Int.reduceLE, Int.reduceAdd, Int.reduceSub, Int.reduceNeg, Int.reduceToNat]
    | true =>
      cases hf2 : shrt [s] with
      | false => simp only [nodes, selE, sels, dNodes_map, dSel_mk, hds, hf1, hf2, hb2, on_gcall, off_gcall, flat_gcall, sumFew9_f, sumFew9_D, sumFew9_flat, sumFew9_r, sumShort_f, sumShort_D, sumShort_flat, sumShort_r, sumAwake10_f, sumAwake10_D, sumAwake10_flat, sumAwake10_r, sumChkR_f, sumChkR_D, sumChkR_flat, sumChkR_r, sumRgtL_f, sumRgtL_D, sumRgtL_flat, sumRgtL_r, sumIsM_f, sumIsM_D, sumIsM_flat, sumIsM_r, go_sem, reduceCtorEq, reduceIte, Nat.reduceEqDiff, Nat.reduceAdd, Nat.reduceSub, Nat.reduceMul, Nat.reduceLT, Nat.reduceLeDiff, Nat.reduceBEq, Int.reduceEq, Int.reduceLT, Int.reduceLE, Int.reduceAdd, Int.reduceSub, Int.reduceNeg, Int.reduceToNat]
      | true =>
        by_cases hf3 : (50 : Int) < (nm.size : Int)
        · simp only [nodes, selE, sels, dNodes_map, dSel_mk, hds, hf1, hf2, hf3, hb2, on_gcall, off_gcall, flat_gcall, sumFew9_f, sumFew9_D, sumFew9_flat, sumFew9_r, sumShort_f, sumShort_D, sumShort_flat, sumShort_r, sumAwake10_f, sumAwake10_D, sumAwake10_flat, sumAwake10_r, sumChkR_f, sumChkR_D, sumChkR_flat, sumChkR_r, sumRgtL_f, sumRgtL_D, sumRgtL_flat, sumRgtL_r, sumIsM_f, sumIsM_D, sumIsM_flat, sumIsM_r, go_sem, reduceCtorEq, reduceIte, Nat.reduceEqDiff, Nat.reduceAdd, Nat.reduceSub, Nat.reduceMul, Nat.reduceLT, Nat.reduceLeDiff, Nat.reduceBEq, Int.reduceEq, Int.reduceLT, Int.reduceLE, Int.reduceAdd, Int.reduceSub, Int.reduceNeg, Int.reduceToNat]
        · have hf4 : (s.length : Int) = 0 := Classical.byContradiction fun hh => hf ⟨hf1, hf2, hf3, hh⟩
          simp only [nodes, selE, sels, dNodes_map, dSel_mk, hds, hf1, hf2, hf3, hf4, hb2, on_gcall, off_gcall, flat_gcall, sumFew9_f, sumFew9_D, sumFew9_flat, sumFew9_r, sumShort_f, sumShort_D, sumShort_flat, sumShort_r, sumAwake10_f, sumAwake10_D, sumAwake10_flat, sumAwake10_r, sumChkR_f, sumChkR_D, sumChkR_flat, sumChkR_r, sumRgtL_f, sumRgtL_D, sumRgtL_flat, sumRgtL_r, sumIsM_f, sumIsM_D, sumIsM_flat, sumIsM_r, go_sem, reduceCtorEq, reduceIte, Nat.reduceEqDiff, Nat.reduceAdd, Nat.reduceSub, Nat.reduceMul, Nat.reduceLT, Nat.reduceLeDiff, Nat.reduceBEq, Int.reduceEq, Int.reduceLT, Int.reduceLE, Int.reduceAdd, Int.reduceSub, Int.reduceNeg, Int.reduceToNat]
end Go.Proofs.Ytcjephhkgccmgaa
