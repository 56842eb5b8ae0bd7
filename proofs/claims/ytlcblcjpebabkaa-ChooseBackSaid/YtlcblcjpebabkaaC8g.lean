/- Layer 8: selectors, and lists of them, in tokens: the code. -/
import Derived.Test.YtlcblcjpebabkaaC8f
namespace Go.Proofs.Ytlcblcjpebabkaa
open Go.Sx
set_option linter.unusedSimpArgs false
set_option maxHeartbeats 8000000
set_option maxRecDepth 100000

theorem compI_ok {v : List Tok} {k : Int} (h0 : 0 ≤ k) (h1 : k ≤ v.length) (h : SmpD v) : PCall Try.prog 42 [toks v, ints (endsA v), vi k] (crV (cmpR v k.toNat)) := by
  have := compound_ok v h k.toNat (by omega); rwa [Int.toNat_of_nonneg h0] at this
def sumCmp8 : Sum Try.prog := ⟨42, fun args => args = [toks (dToks (args.getD 0 .any)), ints (endsA (dToks (args.getD 0 .any))), vi ((args.getD 2 .any).int)] ∧ 0 ≤ ((args.getD 2 .any).int) ∧ ((args.getD 2 .any).int) ≤ ((dToks (args.getD 0 .any))).length ∧ SmpD (dToks (args.getD 0 .any)), fun args => crV (cmpR (dToks (args.getD 0 .any)) (((args.getD 2 .any).int)).toNat), fun args h => by
  have := compI_ok h.2.1 h.2.2.1 h.2.2.2; rwa [← h.1] at this, false⟩
theorem sumCmp8_f : sumCmp8.f = 42 := rfl
theorem sumCmp8_D (args : List V) : sumCmp8.D args = (args = [toks (dToks (args.getD 0 .any)), ints (endsA (dToks (args.getD 0 .any))), vi ((args.getD 2 .any).int)] ∧ 0 ≤ ((args.getD 2 .any).int) ∧ ((args.getD 2 .any).int) ≤ ((dToks (args.getD 0 .any))).length ∧ SmpD (dToks (args.getD 0 .any))) := rfl
theorem sumCmp8_flat : sumCmp8.flat = false := rfl
theorem sumCmp8_r (args : List V) : sumCmp8.r args = crV (cmpR (dToks (args.getD 0 .any)) (((args.getD 2 .any).int)).toNat) := rfl
attribute [go_sem] sumCmp8_f sumCmp8_D sumCmp8_flat sumCmp8_r
theorem linkI_ok {v : List Tok} {k : Int} (h0 : 0 ≤ k) (h1 : k ≤ v.length) (hl : v.length ≤ 1000000) : PCall Try.prog 43 [toks v, vi k] (.tup [vi (lnkR v k.toNat).1, vi (lnkR v k.toNat).2]) := by
  have := link_ok v hl k.toNat (by omega); rwa [Int.toNat_of_nonneg h0] at this
def sumLnk8 : Sum Try.prog := ⟨43, fun args => args = [toks (dToks (args.getD 0 .any)), vi ((args.getD 1 .any).int)] ∧ 0 ≤ ((args.getD 1 .any).int) ∧ ((args.getD 1 .any).int) ≤ ((dToks (args.getD 0 .any))).length ∧ ((dToks (args.getD 0 .any))).length ≤ 1000000, fun args => .tup [vi (lnkR (dToks (args.getD 0 .any)) (((args.getD 1 .any).int)).toNat).1, vi (lnkR (dToks (args.getD 0 .any)) (((args.getD 1 .any).int)).toNat).2], fun args h => by
  have := linkI_ok h.2.1 h.2.2.1 h.2.2.2; rwa [← h.1] at this, false⟩
theorem sumLnk8_f : sumLnk8.f = 43 := rfl
theorem sumLnk8_D (args : List V) : sumLnk8.D args = (args = [toks (dToks (args.getD 0 .any)), vi ((args.getD 1 .any).int)] ∧ 0 ≤ ((args.getD 1 .any).int) ∧ ((args.getD 1 .any).int) ≤ ((dToks (args.getD 0 .any))).length ∧ ((dToks (args.getD 0 .any))).length ≤ 1000000) := rfl
theorem sumLnk8_flat : sumLnk8.flat = false := rfl
theorem sumLnk8_r (args : List V) : sumLnk8.r args = .tup [vi (lnkR (dToks (args.getD 0 .any)) (((args.getD 1 .any).int)).toNat).1, vi (lnkR (dToks (args.getD 0 .any)) (((args.getD 1 .any).int)).toNat).2] := rfl
attribute [go_sem] sumLnk8_f sumLnk8_D sumLnk8_flat sumLnk8_r
theorem mapO_cmp9 (S : Nat → Bool) (h : Heap) : ∀ l : List Cmp, mapO (mapO (res S h 9)) (l.map Cmp.enc) = some (l.map Cmp.enc)
  | [] => rfl
  | s :: l => by simp only [List.map_cons, mapO, mapO_cmp9 S h l, Cmp.enc]; rfl
def oneRV : Option Sel → V
  | none => .tup [.agg [vnil], vb false]
  | some s => .tup [.agg (selE s), vb true]
def oneV8 (o : Option Sel) : V := .tup [.agg (selE (o.getD [])), vb o.isSome]
theorem oneRV_sub (o : Option Sel) {f : FuncId} {args : List V} (h : PCall Try.prog f args (oneRV o)) : PCall Try.prog f args (oneV8 o) := by
  cases o with
  | some l => exact h
  | none =>
    refine PCall.rsub h fun F w v hp => ?_
    cases hp with
    | tup cs _ hl hx =>
      refine .tup cs _ hl fun i hi => ?_
      have := hx i hi
      match i, hi with
      | 0, _ =>
        have this : PRep F w (cs.getD 0 undef) (.agg [vnil]) := this
        show PRep F w (cs.getD 0 undef) (.agg [.slc 2 []])
        generalize cs.getD 0 undef = u at this
        cases this with
        | agg cs _ hl h1 hx =>
          refine .agg cs [.slc 2 []] hl h1 fun i hi => ?_
          have := hx i hi
          match i, hi with
          | 0, _ => exact PRep.nilS 2 this
      | 1, _ => exact this
structure OnS8 where
  k : Nat
  n : Int
  L : List Cmp
  f : Nat
  ver : Nat
  clk : Nat
/-- What `one` does with the tokens between the Spaces. -/
theorem one8_ok (v : List Tok) (hv : v.length ≤ 1000000) (hS : deep (trim v) = false → SmpD (trim v)) : PCall Try.prog 30 [toks v] (oneV8 (oneS v)) := by
  refine oneRV_sub _ ?_
  unfold oneS oneT8
  have htr := tr_rng v
  have htv : trV v = .tup [vi (trA v), vi (trB v)] := rfl
  have hcut : List.take (trB v - trA v) (List.drop (trA v) (v.map Tok.enc)) = (trim v).map Tok.enc := by unfold trim; rw [List.map_drop, List.map_take, List.drop_take]
  have hwl := trim_len v
  have b1 := eq_true (show ((trA v : Nat) : Int) ≤ ((trB v : Nat) : Int) by omega)
  have b2 := eq_true (show ((trB v : Nat) : Int) ≤ (v.length : Int) by omega)
  have b0 := eq_true (show (0 : Int) ≤ ((trA v : Nat) : Int) by omega)
  have hwl : (trim v).length ≤ 1000000 := by omega
  generalize trim v = w at *
  generalize trA v = ta at *
  generalize trB v = tb at *
  cases hd : deep w with
  | true =>
    rw [if_pos rfl]
    have he : errn w = 3 := by unfold errn; rw [if_pos hd]
    refine PCall.of (Orc.cons sumE1 (Orc.cons sumTrim (Orc.cons sumCmp8 (Orc.cons sumLnk8 (Orc.nil _))))) c30_ok (by simp [c30]) fun w0 own0 => ?_
    simp only [c30, toks, ints, endsD, endsV, dToks_map, dInts_map, hv, hwl, htv, hcut, b0, b1, b2, he, Int.toNat_natCast, on_gcall, off_gcall, flat_gcall, sumE1_f, sumE1_D, sumE1_flat, sumE1_r, go_sem, reduceCtorEq, reduceIte, Nat.reduceEqDiff, Nat.reduceAdd, Nat.reduceSub, Nat.reduceMul, Nat.reduceLT, Nat.reduceLeDiff, Nat.reduceBEq, Int.reduceEq, Int.reduceLT, Int.reduceLE, Int.reduceAdd, Int.reduceSub, Int.reduceNeg, Int.reduceToNat]
    refine SemC.lp (α := Nat) (fun x => [(2, .ptr 0 0 0 0), (7, vi 3)]) (fun x => ⟨[⟨0, 1, [[vnil]], false, []⟩, ⟨1, 1, [[vnil]], false, []⟩], 2⟩) (fun _ => True) (fun x => x) 0 trivial (St.cut ?_ ?_ ?_) fun x hx => ?_
    · simp [Agrees, upd_at, initE_at]
    · simp [Heap.alloc]
    · rfl
    simp only [oneRV, selE, res11_agg8, on_gcall, off_gcall, flat_gcall, wpC_seq_xreg, wpC_xreg, wpXR_nil, wpXR_own, wpXR_flu, xeOK, xe, argTops, openArgs, Orc.ppre_cons, Orc.pr_cons, Orc.ppre_econs, Orc.pr_econs, Orc.ppre_fcons, Orc.pr_fcons, Orc.ppre_gcons, Orc.pr_gcons, List.head?_cons, List.headD_cons, XE.val, XE.heap, efO, shutArgs, xfoot, footO, V.tops, V.top1, clashOne, noClash, Orc.flat_fcons, Orc.pre_fcons, Orc.v_fcons, Orc.hp_fcons, Orc.qpre_fcons, Orc.qv_fcons, Orc.fpre_fcons, Orc.fes_fcons, Orc.flat_gcons, Orc.pre_gcons, Orc.v_gcons, Orc.hp_gcons, Orc.qpre_gcons, Orc.qv_gcons, Orc.fpre_gcons, Orc.fes_gcons, GSum.pre, GSum.v, GSum.hp, Orc.fpre_cons, Orc.fes_cons, Orc.fpre_econs, Orc.fes_econs, FSum.pre, FSum.v, FSum.hp, fres, O.calls, List.flatMap_cons, List.flatMap_nil, List.contains_cons, List.contains_nil, Bool.not_true, Bool.not_false, Heap.freeze, List.mapIdx_cons, List.mapIdx_nil, List.elem_cons, List.elem_nil, fluP, fluV, evF, bne_iff_ne, ne_eq, Option.some.injEq, sumE1_f, sumE1_D, sumE1_flat, sumE1_r, go_sem, reduceCtorEq, reduceIte, Nat.reduceEqDiff, Nat.reduceAdd, Nat.reduceSub, Nat.reduceMul, Nat.reduceLT, Nat.reduceLeDiff, Nat.reduceBEq, Int.reduceEq, Int.reduceLT, Int.reduceLE, Int.reduceAdd, Int.reduceSub, Int.reduceNeg, Int.reduceToNat]
  | false =>
    rw [if_neg (by simp)]
    have he : errn w = 0 := by unfold errn; rw [hd]; rfl
    have hS := hS hd
    generalize hR : oneF w (w.length + 1) 0 0 [] = R
    refine PCall.of (Orc.cons sumE1 (Orc.cons sumTrim (Orc.cons sumCmp8 (Orc.cons sumLnk8 (Orc.nil _))))) c30_ok (by simp [c30]) fun w0 own0 => ?_
    simp only [c30, toks, ints, endsD, endsV, dToks_map, dInts_map, hv, hwl, htv, hcut, b0, b1, b2, he, Int.toNat_natCast, on_gcall, off_gcall, flat_gcall, sumE1_f, sumE1_D, sumE1_flat, sumE1_r, go_sem, reduceCtorEq, reduceIte, Nat.reduceEqDiff, Nat.reduceAdd, Nat.reduceSub, Nat.reduceMul, Nat.reduceLT, Nat.reduceLeDiff, Nat.reduceBEq, Int.reduceEq, Int.reduceLT, Int.reduceLE, Int.reduceAdd, Int.reduceSub, Int.reduceNeg, Int.reduceToNat]
    refine SemC.lp (α := OnS8) (fun x => [(0, .slc 3 (w.map Tok.enc)), (2, .ptr 0 0 0 0), (6, .slc 1 ((endsA w).map fun n => [vi n])), (7, vi 0), (8, .ptr 1 1 0 0), (9, vi x.n), (10, vi x.k)])
      (fun x => ⟨[⟨0, 1, [[vnil]], false, []⟩, ⟨1, 1, [[.ref 2 x.ver 0 x.L.length]], false, []⟩, ⟨x.ver, 2, x.L.map Cmp.enc, false, [vi 0, vnil]⟩], x.clk⟩)
      (fun x => x.k ≤ w.length ∧ x.L.length ≤ 64 ∧ w.length + 1 ≤ x.f + x.k ∧ oneF w x.f x.k x.n x.L = R) (fun x => w.length + 1 - x.k) ⟨0, 0, [], w.length + 1, 2, 3⟩
      ⟨Nat.zero_le _, by simp, by dsimp only; omega, hR⟩ (St.cell 1 0 0 2 [vi 0, vnil] rfl rfl (St.cut ?_ ?_ ?_)) fun x hx => ?_
    · simp [Agrees, upd_at, initE_at]
    · simp [Heap.alloc]
    · rfl
    obtain ⟨k, n, L, f, ver, clk⟩ := x
    obtain ⟨h1, h2, h3, h4⟩ := hx
    simp only at h1 h2 h3 h4
    obtain ⟨f, rfl⟩ : ∃ g, f = g + 1 := ⟨f - 1, by omega⟩
    have e0 : (0 : Int) ≤ (k : Int) := by omega
    have e1 : (k : Int) ≤ (w.length : Int) := by omega
    have htl : L.take L.length = L := List.take_length
    have hc := cmpR_rng hS.b k h1
    have hje : ∀ cl : List Smp, L.map Cmp.enc ++ [[.c (.int .i64 n), .slc 3 (cl.map Smp.enc)]] = (L ++ [(⟨n, cl⟩ : Cmp)]).map Cmp.enc := fun cl => by simp [Cmp.enc]
    have hT : ∀ cl : List Smp, List.take (L.length + 1) (L ++ [(⟨n, cl⟩ : Cmp)]) = L ++ [⟨n, cl⟩] := fun cl => List.take_of_length_le (by simp)
    simp only [oneF] at h4
    generalize hcr : cmpR w k = r at *
    obtain ⟨cl, to⟩ := r
    simp only at hc h4
    have e2 : (0 : Int) ≤ (to : Int) := by omega
    have e3 : (to : Int) ≤ (w.length : Int) := by omega
    have hlk := lnkR_rng (v := w) to hc.2.1
    generalize hlr : lnkR w to = q at *
    obtain ⟨m, k2⟩ := q
    simp only at hlk h4
    by_cases c1 : cl.length = 0
    · rw [if_pos (.inl c1)] at h4
      subst h4
      have c1' := eq_false (show ¬ (0 : Int) < (cl.length : Int) by omega)
      simp only [e0, e1, c1', hcr, hS, htl, crV, oneRV, selE, res11_agg8, res10_ref8, mapO_cmp9, hje, hT, toks, ints, dToks_map, dInts_map, Int.toNat_natCast, on_gcall, off_gcall, flat_gcall, wpC_seq_xreg, wpC_xreg, wpXR_nil, wpXR_own, wpXR_flu, xeOK, xe, argTops, openArgs, Orc.ppre_cons, Orc.pr_cons, Orc.ppre_econs, Orc.pr_econs, Orc.ppre_fcons, Orc.pr_fcons, Orc.ppre_gcons, Orc.pr_gcons, List.head?_cons, List.headD_cons, XE.val, XE.heap, efO, shutArgs, xfoot, footO, V.tops, V.top1, clashOne, noClash, Orc.flat_fcons, Orc.pre_fcons, Orc.v_fcons, Orc.hp_fcons, Orc.qpre_fcons, Orc.qv_fcons, Orc.fpre_fcons, Orc.fes_fcons, Orc.flat_gcons, Orc.pre_gcons, Orc.v_gcons, Orc.hp_gcons, Orc.qpre_gcons, Orc.qv_gcons, Orc.fpre_gcons, Orc.fes_gcons, GSum.pre, GSum.v, GSum.hp, Orc.fpre_cons, Orc.fes_cons, Orc.fpre_econs, Orc.fes_econs, FSum.pre, FSum.v, FSum.hp, fres, O.calls, List.flatMap_cons, List.flatMap_nil, List.contains_cons, List.contains_nil, Bool.not_true, Bool.not_false, Heap.freeze, List.mapIdx_cons, List.mapIdx_nil, List.elem_cons, List.elem_nil, fluP, fluV, evF, bne_iff_ne, ne_eq, Option.some.injEq, sumE1_f, sumE1_D, sumE1_flat, sumE1_r, go_sem, reduceCtorEq, reduceIte, Nat.reduceEqDiff, Nat.reduceAdd, Nat.reduceSub, Nat.reduceMul, Nat.reduceLT, Nat.reduceLeDiff, Nat.reduceBEq, Int.reduceEq, Int.reduceLT, Int.reduceLE, Int.reduceAdd, Int.reduceSub, Int.reduceNeg, Int.reduceToNat]
    have c1' := eq_true (show (0 : Int) < (cl.length : Int) by omega)
    by_cases c2 : L.length = 64
    · rw [if_pos (.inr c2)] at h4
      subst h4
      have c2' := eq_true (show (L.length : Int) = 64 by omega)
      simp only [e0, e1, c1', c2', hcr, hS, htl, crV, oneRV, selE, res11_agg8, res10_ref8, mapO_cmp9, hje, hT, toks, ints, dToks_map, dInts_map, Int.toNat_natCast, on_gcall, off_gcall, flat_gcall, wpC_seq_xreg, wpC_xreg, wpXR_nil, wpXR_own, wpXR_flu, xeOK, xe, argTops, openArgs, Orc.ppre_cons, Orc.pr_cons, Orc.ppre_econs, Orc.pr_econs, Orc.ppre_fcons, Orc.pr_fcons, Orc.ppre_gcons, Orc.pr_gcons, List.head?_cons, List.headD_cons, XE.val, XE.heap, efO, shutArgs, xfoot, footO, V.tops, V.top1, clashOne, noClash, Orc.flat_fcons, Orc.pre_fcons, Orc.v_fcons, Orc.hp_fcons, Orc.qpre_fcons, Orc.qv_fcons, Orc.fpre_fcons, Orc.fes_fcons, Orc.flat_gcons, Orc.pre_gcons, Orc.v_gcons, Orc.hp_gcons, Orc.qpre_gcons, Orc.qv_gcons, Orc.fpre_gcons, Orc.fes_gcons, GSum.pre, GSum.v, GSum.hp, Orc.fpre_cons, Orc.fes_cons, Orc.fpre_econs, Orc.fes_econs, FSum.pre, FSum.v, FSum.hp, fres, O.calls, List.flatMap_cons, List.flatMap_nil, List.contains_cons, List.contains_nil, Bool.not_true, Bool.not_false, Heap.freeze, List.mapIdx_cons, List.mapIdx_nil, List.elem_cons, List.elem_nil, fluP, fluV, evF, bne_iff_ne, ne_eq, Option.some.injEq, sumE1_f, sumE1_D, sumE1_flat, sumE1_r, go_sem, reduceCtorEq, reduceIte, Nat.reduceEqDiff, Nat.reduceAdd, Nat.reduceSub, Nat.reduceMul, Nat.reduceLT, Nat.reduceLeDiff, Nat.reduceBEq, Int.reduceEq, Int.reduceLT, Int.reduceLE, Int.reduceAdd, Int.reduceSub, Int.reduceNeg, Int.reduceToNat]
    rw [if_neg (by omega)] at h4
    have c2' := eq_false (show ¬ (L.length : Int) = 64 by omega)
    by_cases c3 : to = w.length
    · rw [if_pos c3] at h4
      subst h4
      have c3' := eq_true (show (to : Int) = (w.length : Int) by omega)
      simp only [e0, e1, c1', c2', c3', hcr, hS, htl, crV, oneRV, selE, res11_agg8, res10_ref8, mapO_cmp9, hje, hT, toks, ints, dToks_map, dInts_map, Int.toNat_natCast, on_gcall, off_gcall, flat_gcall, wpC_seq_xreg, wpC_xreg, wpXR_nil, wpXR_own, wpXR_flu, xeOK, xe, argTops, openArgs, Orc.ppre_cons, Orc.pr_cons, Orc.ppre_econs, Orc.pr_econs, Orc.ppre_fcons, Orc.pr_fcons, Orc.ppre_gcons, Orc.pr_gcons, List.head?_cons, List.headD_cons, XE.val, XE.heap, efO, shutArgs, xfoot, footO, V.tops, V.top1, clashOne, noClash, Orc.flat_fcons, Orc.pre_fcons, Orc.v_fcons, Orc.hp_fcons, Orc.qpre_fcons, Orc.qv_fcons, Orc.fpre_fcons, Orc.fes_fcons, Orc.flat_gcons, Orc.pre_gcons, Orc.v_gcons, Orc.hp_gcons, Orc.qpre_gcons, Orc.qv_gcons, Orc.fpre_gcons, Orc.fes_gcons, GSum.pre, GSum.v, GSum.hp, Orc.fpre_cons, Orc.fes_cons, Orc.fpre_econs, Orc.fes_econs, FSum.pre, FSum.v, FSum.hp, fres, O.calls, List.flatMap_cons, List.flatMap_nil, List.contains_cons, List.contains_nil, Bool.not_true, Bool.not_false, Heap.freeze, List.mapIdx_cons, List.mapIdx_nil, List.elem_cons, List.elem_nil, fluP, fluV, evF, bne_iff_ne, ne_eq, Option.some.injEq, sumE1_f, sumE1_D, sumE1_flat, sumE1_r, go_sem, reduceCtorEq, reduceIte, Nat.reduceEqDiff, Nat.reduceAdd, Nat.reduceSub, Nat.reduceMul, Nat.reduceLT, Nat.reduceLeDiff, Nat.reduceBEq, Int.reduceEq, Int.reduceLT, Int.reduceLE, Int.reduceAdd, Int.reduceSub, Int.reduceNeg, Int.reduceToNat]
      rw [if_pos (by simp)]
      exact ⟨⟨Nat.le_refl _, by omega, by omega⟩, rfl⟩
    rw [if_neg c3] at h4
    have c3' := eq_false (show ¬ (to : Int) = (w.length : Int) by omega)
    by_cases c4 : m = 0
    · rw [if_pos c4] at h4
      subst h4
      have c4' := eq_true c4
      simp only [e0, e1, e2, e3, hwl, hlr, c1', c2', c3', c4', hcr, hS, htl, crV, oneRV, selE, res11_agg8, res10_ref8, mapO_cmp9, hje, hT, toks, ints, dToks_map, dInts_map, Int.toNat_natCast, on_gcall, off_gcall, flat_gcall, wpC_seq_xreg, wpC_xreg, wpXR_nil, wpXR_own, wpXR_flu, xeOK, xe, argTops, openArgs, Orc.ppre_cons, Orc.pr_cons, Orc.ppre_econs, Orc.pr_econs, Orc.ppre_fcons, Orc.pr_fcons, Orc.ppre_gcons, Orc.pr_gcons, List.head?_cons, List.headD_cons, XE.val, XE.heap, efO, shutArgs, xfoot, footO, V.tops, V.top1, clashOne, noClash, Orc.flat_fcons, Orc.pre_fcons, Orc.v_fcons, Orc.hp_fcons, Orc.qpre_fcons, Orc.qv_fcons, Orc.fpre_fcons, Orc.fes_fcons, Orc.flat_gcons, Orc.pre_gcons, Orc.v_gcons, Orc.hp_gcons, Orc.qpre_gcons, Orc.qv_gcons, Orc.fpre_gcons, Orc.fes_gcons, GSum.pre, GSum.v, GSum.hp, Orc.fpre_cons, Orc.fes_cons, Orc.fpre_econs, Orc.fes_econs, FSum.pre, FSum.v, FSum.hp, fres, O.calls, List.flatMap_cons, List.flatMap_nil, List.contains_cons, List.contains_nil, Bool.not_true, Bool.not_false, Heap.freeze, List.mapIdx_cons, List.mapIdx_nil, List.elem_cons, List.elem_nil, fluP, fluV, evF, bne_iff_ne, ne_eq, Option.some.injEq, sumE1_f, sumE1_D, sumE1_flat, sumE1_r, go_sem, reduceCtorEq, reduceIte, Nat.reduceEqDiff, Nat.reduceAdd, Nat.reduceSub, Nat.reduceMul, Nat.reduceLT, Nat.reduceLeDiff, Nat.reduceBEq, Int.reduceEq, Int.reduceLT, Int.reduceLE, Int.reduceAdd, Int.reduceSub, Int.reduceNeg, Int.reduceToNat]
      exact ⟨Nat.le_refl _, by omega, by omega⟩
    rw [if_neg c4] at h4
    have c4' := eq_false c4
    simp only [e0, e1, e2, e3, hwl, hlr, c1', c2', c3', c4', hcr, hS, htl, crV, oneRV, selE, res11_agg8, res10_ref8, mapO_cmp9, hje, hT, toks, ints, dToks_map, dInts_map, Int.toNat_natCast, on_gcall, off_gcall, flat_gcall, wpC_seq_xreg, wpC_xreg, wpXR_nil, wpXR_own, wpXR_flu, xeOK, xe, argTops, openArgs, Orc.ppre_cons, Orc.pr_cons, Orc.ppre_econs, Orc.pr_econs, Orc.ppre_fcons, Orc.pr_fcons, Orc.ppre_gcons, Orc.pr_gcons, List.head?_cons, List.headD_cons, XE.val, XE.heap, efO, shutArgs, xfoot, footO, V.tops, V.top1, clashOne, noClash, Orc.flat_fcons, Orc.pre_fcons, Orc.v_fcons, Orc.hp_fcons, Orc.qpre_fcons, Orc.qv_fcons, Orc.fpre_fcons, Orc.fes_fcons, Orc.flat_gcons, Orc.pre_gcons, Orc.v_gcons, Orc.hp_gcons, Orc.qpre_gcons, Orc.qv_gcons, Orc.fpre_gcons, Orc.fes_gcons, GSum.pre, GSum.v, GSum.hp, Orc.fpre_cons, Orc.fes_cons, Orc.fpre_econs, Orc.fes_econs, FSum.pre, FSum.v, FSum.hp, fres, O.calls, List.flatMap_cons, List.flatMap_nil, List.contains_cons, List.contains_nil, Bool.not_true, Bool.not_false, Heap.freeze, List.mapIdx_cons, List.mapIdx_nil, List.elem_cons, List.elem_nil, fluP, fluV, evF, bne_iff_ne, ne_eq, Option.some.injEq, sumE1_f, sumE1_D, sumE1_flat, sumE1_r, go_sem, reduceCtorEq, reduceIte, Nat.reduceEqDiff, Nat.reduceAdd, Nat.reduceSub, Nat.reduceMul, Nat.reduceLT, Nat.reduceLeDiff, Nat.reduceBEq, Int.reduceEq, Int.reduceLT, Int.reduceLE, Int.reduceAdd, Int.reduceSub, Int.reduceNeg, Int.reduceToNat]
    have hm := hlk.2 c4
    exact ⟨⟨Nat.le_refl _, by omega, by omega⟩, ⟨k2, m, L ++ [⟨n, cl⟩], f, _, _⟩, ⟨hlk.1, by simp; omega, by dsimp only; omega, h4⟩, by dsimp only; omega, ⟨rfl, rfl⟩, ⟨⟨rfl, by simp⟩, rfl, rfl⟩, rfl⟩
def OneQ (v : List Tok) : Prop := PCall Try.prog 30 [toks v] (oneV8 (oneS v))
theorem oneQ_ok {v : List Tok} (h : OneQ v) : PCall Try.prog 30 [toks v] (oneV8 (oneS v)) := h
def sumOne8 : Sum Try.prog := ⟨30, fun args => args = [toks (dToks (args.getD 0 .any))] ∧ OneQ (dToks (args.getD 0 .any)), fun args => oneV8 (oneS (dToks (args.getD 0 .any))), fun args h => by
  have := oneQ_ok h.2; rwa [← h.1] at this, false⟩
theorem sumOne8_f : sumOne8.f = 30 := rfl
theorem sumOne8_D (args : List V) : sumOne8.D args = (args = [toks (dToks (args.getD 0 .any))] ∧ OneQ (dToks (args.getD 0 .any))) := rfl
theorem sumOne8_flat : sumOne8.flat = false := rfl
theorem sumOne8_r (args : List V) : sumOne8.r args = oneV8 (oneS (dToks (args.getD 0 .any))) := rfl
attribute [go_sem] sumOne8_f sumOne8_D sumOne8_flat sumOne8_r
def psRV8 : Option (List Sel) → V
  | none => .tup [vnil, vb false]
  | some xs => .tup [sels xs, vb true]
def psV8 (o : Option (List Sel)) : V := .tup [sels (o.getD []), vb o.isSome]
theorem psRV8_sub (o : Option (List Sel)) {f : FuncId} {args : List V} (h : PCall Try.prog f args (psRV8 o)) : PCall Try.prog f args (psV8 o) := by
  cases o with
  | some l => exact h
  | none =>
    refine PCall.rsub h fun F w v hp => ?_
    cases hp with
    | tup cs _ hl hx =>
      refine .tup cs _ hl fun i hi => ?_
      have := hx i hi
      match i, hi with
      | 0, _ => exact PRep.nilS 1 this
      | 1, _ => exact this
theorem rsK_rng (l : List Tok) : ∀ (ps : List Int) (b : Int), 0 ≤ b → b ≤ l.length → ps.Pairwise (· < ·) → (∀ p ∈ ps, b ≤ p ∧ p < l.length) → ∀ q ∈ rsK l 16 l.length b ps, 0 ≤ q.1 ∧ q.1 ≤ q.2 ∧ q.2 ≤ l.length
  | [], b, h0, h1, _, _, q, hq => by simp only [rsK, List.mem_singleton] at hq; subst hq; exact ⟨h0, h1, Int.le_refl _⟩
  | p :: ps, b, h0, h1, hw, hm, q, hq => by
    obtain ⟨hw1, hw2⟩ := List.pairwise_cons.1 hw
    have hp := hm p (by simp)
    simp only [rsK] at hq
    split at hq
    · rcases List.mem_cons.1 hq with rfl | hq
      · exact ⟨h0, hp.1, by dsimp only; omega⟩
      · exact rsK_rng l ps (p + 1) (by omega) (by omega) hw2 (fun x hx => ⟨by have := hw1 x hx; omega, (hm x (by simp [hx])).2⟩) q hq
    · exact rsK_rng l ps b h0 h1 hw2 (fun x hx => hm x (by simp [hx])) q hq
theorem rsK_len (l : List Tok) (to : Int) : ∀ (ps : List Int) (b : Int), (rsK l 16 to b ps).length ≤ ps.length + 1
  | [], b => by simp [rsK]
  | p :: ps, b => by
    simp only [rsK]
    split
    · have := rsK_len l to ps (p + 1); simp; omega
    · have := rsK_len l to ps b; simp; omega
theorem splL_rng {l : List Tok} (hd : deep l = false) : (splL l).length ≤ l.length + 1 ∧ ∀ q ∈ splL l, 0 ≤ q.1 ∧ q.1 ≤ q.2 ∧ q.2 ≤ l.length := by
  have hmem := plR_mem hd (l.length + 1) 0
  have hpw := plR_pw hd (l.length + 1) 0
  have hln := plR_len hd (l.length + 1) 0 (Nat.zero_le _)
  rw [show ((0 : Nat) : Int) = 0 from rfl] at hmem hpw hln
  rw [splL_eq hd]
  exact ⟨by have := rsK_len l l.length (plR (endsA l) l.length (l.length + 1) 0) 0; omega, rsK_rng l _ 0 (Int.le_refl _) (by omega) hpw hmem⟩
theorem prsC_drop (l : List Tok) (P : List (Int × Int)) (k : Nat) (h : k < P.length) : prsC l (P.drop k) = match oneS ((l.take (P.getD k (0, 0)).2.toNat).drop (P.getD k (0, 0)).1.toNat) with | none => none | some s => (prsC l (P.drop (k + 1))).map (s :: ·) := by
  rw [List.drop_eq_getElem_cons h, List.getD_eq_getElem?_getD, List.getElem?_eq_getElem h]; rfl
theorem getD_prs2' (l : List (Int × Int)) (i : Nat) : (l.map fun p => [vi p.1, vi p.2]).getD i [vi 0, vi 0] = [vi (l.getD i (0, 0)).1, vi (l.getD i (0, 0)).2] := by
  have : [vi 0, vi 0] = (fun p : Int × Int => [vi p.1, vi p.2]) (0, 0) := rfl
  rw [this]
  simp only [List.getD_eq_getElem?_getD, List.getElem?_map]
  cases l[i]? <;> rfl
theorem mapO_sel10 (S : Nat → Bool) (h : Heap) : ∀ l : List Sel, mapO (mapO (res S h 10)) (l.map selE) = some (l.map selE)
  | [] => rfl
  | s :: l => by simp only [List.map_cons, mapO, mapO_sel10 S h l, selE]; rfl
structure QrS8 where
  k : Nat
  out : List Sel
  ver : Nat
  clk : Nat
theorem parse8_ok (l : List Tok) (h1 : l.length ≤ 1000000) (hO : deep l = false → ∀ q ∈ splL l, OneQ ((l.take q.2.toNat).drop q.1.toNat)) : PCall Try.prog 15 [toks l] (psV8 (psC l)) := by
  refine psRV8_sub _ ?_
  unfold psC
  cases hd : deep l with
  | true =>
    rw [if_pos rfl]
    have he : errn l = 3 := by unfold errn; rw [if_pos hd]
    refine PCall.of (Orc.cons sumE1 (Orc.cons sumSplit (Orc.cons sumOne8 (Orc.nil _)))) c15_ok (by simp [c15]) fun w0 own0 => ?_
    simp only [c15, toks, ints, endsD, endsV, dToks_map, dInts_map, h1, he, psRV8, wpC_seq_xreg, wpC_xreg, wpXR_nil, wpXR_own, wpXR_flu, xeOK, xe, argTops, openArgs, Orc.ppre_cons, Orc.pr_cons, Orc.ppre_econs, Orc.pr_econs, Orc.ppre_fcons, Orc.pr_fcons, Orc.ppre_gcons, Orc.pr_gcons, List.head?_cons, List.headD_cons, XE.val, XE.heap, efO, shutArgs, xfoot, footO, V.tops, V.top1, clashOne, noClash, Orc.flat_fcons, Orc.pre_fcons, Orc.v_fcons, Orc.hp_fcons, Orc.qpre_fcons, Orc.qv_fcons, Orc.fpre_fcons, Orc.fes_fcons, Orc.flat_gcons, Orc.pre_gcons, Orc.v_gcons, Orc.hp_gcons, Orc.qpre_gcons, Orc.qv_gcons, Orc.fpre_gcons, Orc.fes_gcons, GSum.pre, GSum.v, GSum.hp, Orc.fpre_cons, Orc.fes_cons, Orc.fpre_econs, Orc.fes_econs, FSum.pre, FSum.v, FSum.hp, fres, O.calls, List.flatMap_cons, List.flatMap_nil, List.contains_cons, List.contains_nil, Bool.not_true, Bool.not_false, Heap.freeze, List.mapIdx_cons, List.mapIdx_nil, List.elem_cons, List.elem_nil, fluP, fluV, evF, bne_iff_ne, ne_eq, Option.some.injEq, on_gcall, off_gcall, flat_gcall, sumE1_f, sumE1_D, sumE1_flat, sumE1_r, sumSplit_f, sumSplit_D, sumSplit_flat, sumSplit_r, go_sem, reduceCtorEq, reduceIte, Nat.reduceEqDiff, Nat.reduceAdd, Nat.reduceSub, Nat.reduceMul, Nat.reduceLT, Nat.reduceLeDiff, Nat.reduceBEq, Int.reduceEq, Int.reduceLT, Int.reduceLE, Int.reduceAdd, Int.reduceSub, Int.reduceNeg, Int.reduceToNat]
  | false =>
    rw [if_neg (by simp)]
    have hO := hO hd
    have he : errn l = 0 := by unfold errn; rw [hd]; rfl
    have hsp := nsplit_eq hd
    obtain ⟨hPl, hPr⟩ := splL_rng hd
    have hfd : findD l (endsA l) := ⟨h1, fun i => by have := endsA_le l i; omega⟩
    generalize hP : splL l = P at *
    generalize hR : prsC l P = R
    refine PCall.of (Orc.cons sumE1 (Orc.cons sumSplit (Orc.cons sumOne8 (Orc.nil _)))) c15_ok (by simp [c15]) fun w0 own0 => ?_
    simp only [c15, toks, ints, endsD, endsV, dToks_map, dInts_map, h1, he, hfd, hsp, prs, wpC_seq_xreg, wpC_xreg, wpXR_nil, wpXR_own, wpXR_flu, xeOK, xe, argTops, openArgs, Orc.ppre_cons, Orc.pr_cons, Orc.ppre_econs, Orc.pr_econs, Orc.ppre_fcons, Orc.pr_fcons, Orc.ppre_gcons, Orc.pr_gcons, List.head?_cons, List.headD_cons, XE.val, XE.heap, efO, shutArgs, xfoot, footO, V.tops, V.top1, clashOne, noClash, Orc.flat_fcons, Orc.pre_fcons, Orc.v_fcons, Orc.hp_fcons, Orc.qpre_fcons, Orc.qv_fcons, Orc.fpre_fcons, Orc.fes_fcons, Orc.flat_gcons, Orc.pre_gcons, Orc.v_gcons, Orc.hp_gcons, Orc.qpre_gcons, Orc.qv_gcons, Orc.fpre_gcons, Orc.fes_gcons, GSum.pre, GSum.v, GSum.hp, Orc.fpre_cons, Orc.fes_cons, Orc.fpre_econs, Orc.fes_econs, FSum.pre, FSum.v, FSum.hp, fres, O.calls, List.flatMap_cons, List.flatMap_nil, List.contains_cons, List.contains_nil, Bool.not_true, Bool.not_false, Heap.freeze, List.mapIdx_cons, List.mapIdx_nil, List.elem_cons, List.elem_nil, fluP, fluV, evF, bne_iff_ne, ne_eq, Option.some.injEq, on_gcall, off_gcall, flat_gcall, sumE1_f, sumE1_D, sumE1_flat, sumE1_r, sumSplit_f, sumSplit_D, sumSplit_flat, sumSplit_r, go_sem, reduceCtorEq, reduceIte, Nat.reduceEqDiff, Nat.reduceAdd, Nat.reduceSub, Nat.reduceMul, Nat.reduceLT, Nat.reduceLeDiff, Nat.reduceBEq, Int.reduceEq, Int.reduceLT, Int.reduceLE, Int.reduceAdd, Int.reduceSub, Int.reduceNeg, Int.reduceToNat]
    refine SemC.lp (α := QrS8) (fun a => [(0, .slc 3 (l.map Tok.enc)), (6, .ref 0 a.ver 0 a.out.length), (22, .slc 2 (P.map fun p => [vi p.1, vi p.2])), (23, vi P.length), (24, vi a.k)])
      (fun a => ⟨[⟨a.ver, 1, a.out.map selE, false, [vnil]⟩], a.clk⟩) (fun a => a.k ≤ P.length ∧ a.out.length = a.k ∧ (prsC l (P.drop a.k)).map (a.out ++ ·) = R) (fun a => P.length - a.k) ⟨0, [], 0, 1⟩
      ⟨Nat.zero_le _, rfl, by rw [← hR]; simp only [List.drop_zero, List.nil_append]; cases prsC l P <;> rfl⟩ (St.nil 6 1 [vnil] (by simp [upd_at]) (St.cut ?_ ?_ ?_)) fun a ha => ?_
    · simp [Agrees, upd_at, initE_at]
    · simp [Heap.alloc]
    · rfl
    obtain ⟨k, out, ver, clk⟩ := a
    obtain ⟨h2, h3, h4⟩ := ha
    simp only at h2 h3 h4
    have hot : out.take out.length = out := List.take_length
    by_cases hk : k = P.length
    · subst hk
      rw [List.drop_length] at h4
      simp only [prsC, Option.map_some, List.append_nil] at h4
      subst h4
      simp only [Int.lt_irrefl, hot, psRV8, sels, mapO_sel10, Nat.le_refl, wpC_seq_xreg, wpC_xreg, wpXR_nil, wpXR_own, wpXR_flu, xeOK, xe, argTops, openArgs, Orc.ppre_cons, Orc.pr_cons, Orc.ppre_econs, Orc.pr_econs, Orc.ppre_fcons, Orc.pr_fcons, Orc.ppre_gcons, Orc.pr_gcons, List.head?_cons, List.headD_cons, XE.val, XE.heap, efO, shutArgs, xfoot, footO, V.tops, V.top1, clashOne, noClash, Orc.flat_fcons, Orc.pre_fcons, Orc.v_fcons, Orc.hp_fcons, Orc.qpre_fcons, Orc.qv_fcons, Orc.fpre_fcons, Orc.fes_fcons, Orc.flat_gcons, Orc.pre_gcons, Orc.v_gcons, Orc.hp_gcons, Orc.qpre_gcons, Orc.qv_gcons, Orc.fpre_gcons, Orc.fes_gcons, GSum.pre, GSum.v, GSum.hp, Orc.fpre_cons, Orc.fes_cons, Orc.fpre_econs, Orc.fes_econs, FSum.pre, FSum.v, FSum.hp, fres, O.calls, List.flatMap_cons, List.flatMap_nil, List.contains_cons, List.contains_nil, Bool.not_true, Bool.not_false, Heap.freeze, List.mapIdx_cons, List.mapIdx_nil, List.elem_cons, List.elem_nil, fluP, fluV, evF, bne_iff_ne, ne_eq, Option.some.injEq, on_gcall, off_gcall, flat_gcall, sumE1_f, sumE1_D, sumE1_flat, sumE1_r, sumSplit_f, sumSplit_D, sumSplit_flat, sumSplit_r, go_sem, reduceCtorEq, reduceIte, Nat.reduceEqDiff, Nat.reduceAdd, Nat.reduceSub, Nat.reduceMul, Nat.reduceLT, Nat.reduceLeDiff, Nat.reduceBEq, Int.reduceEq, Int.reduceLT, Int.reduceLE, Int.reduceAdd, Int.reduceSub, Int.reduceNeg, Int.reduceToNat]
    · have e1 : (k : Int) < (P.length : Int) := by omega
      have e0 : (0 : Int) ≤ (k : Int) := by omega
      have hlt : k < P.length := by omega
      rw [prsC_drop l P k hlt] at h4
      have hg := getD_prs2' P k
      have hmem : P.getD k (0, 0) ∈ P := by rw [List.getD_eq_getElem?_getD, List.getElem?_eq_getElem hlt]; exact List.getElem_mem _
      have hr := hPr _ hmem
      have hok := hO _ hmem
      clear hmem
      generalize P.getD k (0, 0) = p at *
      obtain ⟨a, b⟩ := p
      simp only at hr h4 hg hok
      obtain ⟨a, rfl⟩ : ∃ n : Nat, a = n := ⟨a.toNat, by omega⟩
      obtain ⟨b, rfl⟩ : ∃ n : Nat, b = n := ⟨b.toNat, by omega⟩
      obtain ⟨r1, r2, r3⟩ := hr
      have hcut : List.take (b - a) (List.drop a (l.map Tok.enc)) = ((l.take b).drop a).map Tok.enc := by rw [List.map_drop, List.map_take, List.drop_take]
      simp only [Int.toNat_natCast] at h4 hok
      generalize (l.take b).drop a = v at *
      cases ho : oneS v with
      | none =>
        rw [ho] at h4
        simp only [Option.map_none] at h4
        subst h4
        simp only [e0, e1, hg, r1, r2, r3, hcut, hok, ho, oneV8, selE, Option.getD_none, Option.isSome_none, psRV8, toks, dToks_map, wpC_seq_xreg, wpC_xreg, wpXR_nil, wpXR_own, wpXR_flu, xeOK, xe, argTops, openArgs, Orc.ppre_cons, Orc.pr_cons, Orc.ppre_econs, Orc.pr_econs, Orc.ppre_fcons, Orc.pr_fcons, Orc.ppre_gcons, Orc.pr_gcons, List.head?_cons, List.headD_cons, XE.val, XE.heap, efO, shutArgs, xfoot, footO, V.tops, V.top1, clashOne, noClash, Orc.flat_fcons, Orc.pre_fcons, Orc.v_fcons, Orc.hp_fcons, Orc.qpre_fcons, Orc.qv_fcons, Orc.fpre_fcons, Orc.fes_fcons, Orc.flat_gcons, Orc.pre_gcons, Orc.v_gcons, Orc.hp_gcons, Orc.qpre_gcons, Orc.qv_gcons, Orc.fpre_gcons, Orc.fes_gcons, GSum.pre, GSum.v, GSum.hp, Orc.fpre_cons, Orc.fes_cons, Orc.fpre_econs, Orc.fes_econs, FSum.pre, FSum.v, FSum.hp, fres, O.calls, List.flatMap_cons, List.flatMap_nil, List.contains_cons, List.contains_nil, Bool.not_true, Bool.not_false, Heap.freeze, List.mapIdx_cons, List.mapIdx_nil, List.elem_cons, List.elem_nil, fluP, fluV, evF, bne_iff_ne, ne_eq, Option.some.injEq, on_gcall, off_gcall, flat_gcall, sumE1_f, sumE1_D, sumE1_flat, sumE1_r, sumSplit_f, sumSplit_D, sumSplit_flat, sumSplit_r, go_sem, reduceCtorEq, reduceIte, Nat.reduceEqDiff, Nat.reduceAdd, Nat.reduceSub, Nat.reduceMul, Nat.reduceLT, Nat.reduceLeDiff, Nat.reduceBEq, Int.reduceEq, Int.reduceLT, Int.reduceLE, Int.reduceAdd, Int.reduceSub, Int.reduceNeg, Int.reduceToNat]
      | some s =>
        rw [ho] at h4
        simp only at h4
        simp only [e0, e1, hg, r1, r2, r3, hcut, hok, ho, hot, oneV8, selE, Option.getD_some, Option.isSome_some, toks, dToks_map, wpC_seq_xreg, wpC_xreg, wpXR_nil, wpXR_own, wpXR_flu, xeOK, xe, argTops, openArgs, Orc.ppre_cons, Orc.pr_cons, Orc.ppre_econs, Orc.pr_econs, Orc.ppre_fcons, Orc.pr_fcons, Orc.ppre_gcons, Orc.pr_gcons, List.head?_cons, List.headD_cons, XE.val, XE.heap, efO, shutArgs, xfoot, footO, V.tops, V.top1, clashOne, noClash, Orc.flat_fcons, Orc.pre_fcons, Orc.v_fcons, Orc.hp_fcons, Orc.qpre_fcons, Orc.qv_fcons, Orc.fpre_fcons, Orc.fes_fcons, Orc.flat_gcons, Orc.pre_gcons, Orc.v_gcons, Orc.hp_gcons, Orc.qpre_gcons, Orc.qv_gcons, Orc.fpre_gcons, Orc.fes_gcons, GSum.pre, GSum.v, GSum.hp, Orc.fpre_cons, Orc.fes_cons, Orc.fpre_econs, Orc.fes_econs, FSum.pre, FSum.v, FSum.hp, fres, O.calls, List.flatMap_cons, List.flatMap_nil, List.contains_cons, List.contains_nil, Bool.not_true, Bool.not_false, Heap.freeze, List.mapIdx_cons, List.mapIdx_nil, List.elem_cons, List.elem_nil, fluP, fluV, evF, bne_iff_ne, ne_eq, Option.some.injEq, on_gcall, off_gcall, flat_gcall, sumE1_f, sumE1_D, sumE1_flat, sumE1_r, sumSplit_f, sumSplit_D, sumSplit_flat, sumSplit_r, go_sem, reduceCtorEq, reduceIte, Nat.reduceEqDiff, Nat.reduceAdd, Nat.reduceSub, Nat.reduceMul, Nat.reduceLT, Nat.reduceLeDiff, Nat.reduceBEq, Int.reduceEq, Int.reduceLT, Int.reduceLE, Int.reduceAdd, Int.reduceSub, Int.reduceNeg, Int.reduceToNat]
        refine ⟨⟨Nat.le_refl _, by omega, by omega⟩, by omega, ⟨k + 1, out ++ [s], _, _⟩, ⟨by dsimp only; omega, by simp; omega, ?_⟩, by dsimp only; omega, ⟨⟨rfl, by simp⟩, by dsimp only; omega⟩, ⟨rfl, by simp [selE]⟩, rfl⟩
        rw [← h4]; cases prsC l (P.drop (k + 1)) <;> simp
end Go.Proofs.Ytlcblcjpebabkaa
