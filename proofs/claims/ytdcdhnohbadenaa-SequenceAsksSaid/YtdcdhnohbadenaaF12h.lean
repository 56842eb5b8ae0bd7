/- Flows: the break ahead of a node, by the document; the law of it. -/
import Derived.Test.YtdcdhnohbadenaaF12g
namespace Go.Proofs.Ytdcdhnohbadenaa
open Go.Sx
set_option linter.unusedSimpArgs false
set_option maxHeartbeats 4000000
set_option maxRecDepth 20000

def aftL (d : Doc) (k : Nat) : List Int := ((pth d wL k).reverse).map fun x => d.aft.getD x.toNat 0
def befL (d : Doc) (k : Nat) : List Int := (pth d wF k).map fun x => d.bef.getD x.toNat 0
theorem aftL_step {d : Doc} (h : okD d) {k : Nat} (hk : k < d.l.length) : aftL d k = if kids d k = [] then [d.aft.getD k 0] else aftL d (wL (kids d k)).toNat ++ [d.aft.getD k 0] := by
  unfold aftL
  rw [pth_step h (fun l hl => wL_mem hl) hk]
  split <;> simp
theorem befL_step {d : Doc} (h : okD d) {k : Nat} (hk : k < d.l.length) : befL d k = if kids d k = [] then [d.bef.getD k 0] else d.bef.getD k 0 :: befL d (wF (kids d k)).toNat := by
  unfold befL
  rw [pth_step h (fun l hl => wF_mem hl) hk]
  split <;> simp
theorem aftR_ok (d : Doc) (hok : okL d) : ∀ (m k : Nat), d.l.length - k ≤ m → k < d.l.length → isN d k = true → FCall Try.prog 51 [.agg d.enc, vi k] 1 [vi 0] ((aftL d k).map fun n => [vi n]) := by
  intro m
  induction m with
  | zero => intro k h1 h2; omega
  | succ m ih =>
    intro k hm hk hi
    let s : FSum Try.prog := ⟨51, fun args => ∃ j : Nat, args = [.agg d.enc, vi j] ∧ d.l.length - j ≤ m ∧ j < d.l.length ∧ isN d j = true, 1, [vi 0], fun args => (aftL d ((args.getD 1 .any).int.toNat)).map fun n => [vi n], fun args h => by
      obtain ⟨j, rfl, h1, h2, h3⟩ := h
      exact ih j h1 h2 h3⟩
    have s1 : s.f = 51 := rfl
    have s2 : ∀ args, s.D args = ∃ j : Nat, args = [.agg d.enc, vi j] ∧ d.l.length - j ≤ m ∧ j < d.l.length ∧ isN d j = true := fun _ => rfl
    have s3 : s.sz = 1 := rfl
    have s4 : s.d = [vi 0] := rfl
    have s5 : ∀ args, s.r args = (aftL d ((args.getD 1 .any).int.toNat)).map fun n => [vi n] := fun _ => rfl
    clear_value s
    refine FCall.of (Orc.fcons s (Orc.cons sumKidsR12 (Orc.nil _))) c51_ok [vi 0] (by simp [c51]) fun w0 own0 => ?_
    have hrk := rk_kids hok.1 hi
    have hkl := kidsL d k
    have hst := aftL_step hok.1 hk
    have hl := hok.2
    have hkd : kD d k := ⟨hok, by omega, by omega, by rw [Int.toNat_natCast]; exact hi⟩
    have hal : d.aft.length = d.l.length := hok.1.len.2.2.1
    have e1 : (k : Int) < (d.aft.length : Int) := by omega
    have e0 : (0 : Int) ≤ (k : Int) := by omega
    by_cases he : kids d k = []
    · rw [if_pos he] at hst
      simp only [c51, Doc.enc, dDoc_mk, Doc.eta, hkd, hrk, he, hst, e0, e1, ints, s1, sumKidsR12_f, sumKidsR12_D, sumKidsR12_flat, sumKidsR12_r, wpC_seq_xreg, wpC_xreg, wpXR_nil, wpXR_own, wpXR_flu, xeOK, xe, XE.val, XE.heap, efO, shutArgs, xfoot, footO, V.tops, V.top1, clashOne, noClash, Orc.flat_fcons, Orc.pre_fcons, Orc.v_fcons, Orc.hp_fcons, Orc.qpre_fcons, Orc.qv_fcons, Orc.fpre_fcons, Orc.fes_fcons, Orc.flat_gcons, Orc.pre_gcons, Orc.v_gcons, Orc.hp_gcons, Orc.qpre_gcons, Orc.qv_gcons, Orc.fpre_gcons, Orc.fes_gcons, GSum.pre, GSum.v, GSum.hp, Orc.fpre_cons, Orc.fes_cons, Orc.fpre_econs, Orc.fes_econs, FSum.pre, FSum.v, FSum.hp, fres, O.calls, List.flatMap_cons, List.flatMap_nil, List.contains_cons, List.contains_nil, Bool.not_true, Bool.not_false, Heap.freeze, List.mapIdx_cons, List.mapIdx_nil, List.elem_cons, List.elem_nil, fluP, fluV, evF, bne_iff_ne, ne_eq, Option.some.injEq, go_sem, wpR_gcall, reduceCtorEq, reduceIte, Nat.reduceEqDiff, Nat.reduceAdd, Nat.reduceSub, Nat.reduceMul, Nat.reduceLT, Nat.reduceLeDiff, Nat.reduceBEq, Int.reduceEq, Int.reduceLT, Int.reduceLE, Int.reduceAdd, Int.reduceSub, Int.reduceNeg, Int.reduceToNat]
    · rw [if_neg he] at hst
      have hp : (kids d k) ≠ [] := he
      have hp2 : 0 < (kids d k).length := List.length_pos_iff.2 he
      have hp3 : ¬ ((kids d k).length : Int) = 0 := by omega
      obtain ⟨j, a, b, c, _, q5⟩ := kids_mem hok.1 (wL_mem he)
      have q6 := kids_in hok.1 hi c q5
      have hw : (wL (kids d k)).toNat = j := by omega
      have ha : (kids d k).getD (((kids d k).length : Int) - 1).toNat 0 = (j : Int) := by rw [← a]; unfold wL; congr 1; omega
      rw [hw] at hst
      obtain ⟨l1, l2, l3, l4⟩ := pth_all hok.1 (w := wL) (fun l h => wL_mem h) _ j (Nat.le_refl _) c q6
      have hA : (aftL d j).length ≤ d.l.length := by unfold aftL; simp; omega
      have hsn : (aftL d j).map (fun n => [vi n]) ++ [[vi (d.aft.getD k 0)]] = (aftL d k).map fun n => [vi n] := by rw [hst]; simp
      have hAl : (aftL d k).length = (aftL d j).length + 1 := by rw [hst]; simp
      have htk : (aftL d k).take ((aftL d j).length + 1) = aftL d k := List.take_of_length_le (by omega)
      have g1 : -9223372036854775808 ≤ ((kids d k).length : Int) - 1 ∧ ((kids d k).length : Int) - 1 ≤ 9223372036854775807 := by omega
      have g2 : 0 ≤ ((kids d k).length : Int) - 1 ∧ ((kids d k).length : Int) - 1 < ((kids d k).length : Int) := by omega
      have g3 : ∃ i : Nat, (j : Int) = i ∧ d.l.length - i ≤ m ∧ i < d.l.length ∧ isN d i = true := ⟨j, rfl, by omega, c, q6⟩
      simp only [c51, Doc.enc, dDoc_mk, Doc.eta, hkd, hrk, he, hp3, e0, e1, ha, g1, g2, g3, hsn, hAl, htk, List.take_length, ints, s1, s2, s3, s4, s5, sumKidsR12_f, sumKidsR12_D, sumKidsR12_flat, sumKidsR12_r, wpC_seq_xreg, wpC_xreg, wpXR_nil, wpXR_own, wpXR_flu, xeOK, xe, XE.val, XE.heap, efO, shutArgs, xfoot, footO, V.tops, V.top1, clashOne, noClash, Orc.flat_fcons, Orc.pre_fcons, Orc.v_fcons, Orc.hp_fcons, Orc.qpre_fcons, Orc.qv_fcons, Orc.fpre_fcons, Orc.fes_fcons, Orc.flat_gcons, Orc.pre_gcons, Orc.v_gcons, Orc.hp_gcons, Orc.qpre_gcons, Orc.qv_gcons, Orc.fpre_gcons, Orc.fes_gcons, GSum.pre, GSum.v, GSum.hp, Orc.fpre_cons, Orc.fes_cons, Orc.fpre_econs, Orc.fes_econs, FSum.pre, FSum.v, FSum.hp, fres, O.calls, List.flatMap_cons, List.flatMap_nil, List.contains_cons, List.contains_nil, Bool.not_true, Bool.not_false, Heap.freeze, List.mapIdx_cons, List.mapIdx_nil, List.elem_cons, List.elem_nil, fluP, fluV, evF, bne_iff_ne, ne_eq, Option.some.injEq, go_sem, wpR_gcall, reduceCtorEq, reduceIte, Nat.reduceEqDiff, Nat.reduceAdd, Nat.reduceSub, Nat.reduceMul, Nat.reduceLT, Nat.reduceLeDiff, Nat.reduceBEq, Int.reduceEq, Int.reduceLT, Int.reduceLE, Int.reduceAdd, Int.reduceSub, Int.reduceNeg, Int.reduceToNat]
      exact ⟨⟨by omega, by omega, by omega⟩, if_pos (Nat.le_refl _)⟩
def sumAftR : FSum Try.prog := ⟨51, fun args => args = [.agg (Doc.enc (dDoc (args.getD 0 .any))), vi ((args.getD 1 .any).int)] ∧ kD (dDoc (args.getD 0 .any)) ((args.getD 1 .any).int), 1, [vi 0],
  fun args => (aftL (dDoc (args.getD 0 .any)) ((args.getD 1 .any).int.toNat)).map fun n => [vi n], fun args h => by
  obtain ⟨h0, h1⟩ := h
  have h2 := aftR_ok _ h1.1 _ ((args.getD 1 .any).int.toNat) (Nat.le_refl _) (by have := h1.2.1; have := h1.2.2.1; omega) h1.2.2.2
  rw [Int.toNat_of_nonneg h1.2.1, ← h0] at h2
  exact h2⟩
theorem sumAftR_f : sumAftR.f = 51 := rfl
theorem sumAftR_D (args : List V) : sumAftR.D args = (args = [.agg (Doc.enc (dDoc (args.getD 0 .any))), vi ((args.getD 1 .any).int)] ∧ kD (dDoc (args.getD 0 .any)) ((args.getD 1 .any).int)) := rfl
theorem sumAftR_sz : sumAftR.sz = 1 := rfl
theorem sumAftR_d : sumAftR.d = [vi 0] := rfl
theorem sumAftR_r (args : List V) : sumAftR.r args = (aftL (dDoc (args.getD 0 .any)) ((args.getD 1 .any).int.toNat)).map fun n => [vi n] := rfl
theorem befR_ok (d : Doc) (hok : okL d) : ∀ (m k : Nat), d.l.length - k ≤ m → k < d.l.length → isN d k = true → PCall Try.prog 53 [.agg d.enc, vi k] (ints (befL d k)) := by
  intro m
  induction m with
  | zero => intro k h1 h2; omega
  | succ m ih =>
    intro k hm hk hi
    let s : Sum Try.prog := ⟨53, fun args => ∃ j : Nat, args = [.agg d.enc, vi j] ∧ d.l.length - j ≤ m ∧ j < d.l.length ∧ isN d j = true, fun args => ints (befL d ((args.getD 1 .any).int.toNat)), fun args h => by
      obtain ⟨j, rfl, h1, h2, h3⟩ := h
      exact ih j h1 h2 h3, false⟩
    have s1 : s.f = 53 := rfl
    have s2 : ∀ args, s.D args = ∃ j : Nat, args = [.agg d.enc, vi j] ∧ d.l.length - j ≤ m ∧ j < d.l.length ∧ isN d j = true := fun _ => rfl
    have s3 : s.flat = false := rfl
    have s5 : ∀ args, s.r args = ints (befL d ((args.getD 1 .any).int.toNat)) := fun _ => rfl
    clear_value s
    refine PCall.of (Orc.cons s (Orc.cons sumKidsR12 (Orc.nil _))) c53_ok (by simp [c53]) fun w0 own0 => ?_
    have hrk := rk_kids hok.1 hi
    have hkl := kidsL d k
    have hst := befL_step hok.1 hk
    have hl := hok.2
    have hkd : kD d k := ⟨hok, by omega, by omega, by rw [Int.toNat_natCast]; exact hi⟩
    have hal : d.bef.length = d.l.length := hok.1.len.2.1
    have e1 : (k : Int) < (d.bef.length : Int) := by omega
    have e0 : (0 : Int) ≤ (k : Int) := by omega
    by_cases he : kids d k = []
    · rw [if_pos he] at hst
      simp only [c53, Doc.enc, dDoc_mk, Doc.eta, hkd, hrk, he, hst, e0, e1, ints, s1, sumKidsR12_f, sumKidsR12_D, sumKidsR12_flat, sumKidsR12_r, wpC_seq_xreg, wpC_xreg, wpXR_nil, wpXR_own, wpXR_flu, xeOK, xe, XE.val, XE.heap, efO, shutArgs, xfoot, footO, V.tops, V.top1, clashOne, noClash, Orc.flat_fcons, Orc.pre_fcons, Orc.v_fcons, Orc.hp_fcons, Orc.qpre_fcons, Orc.qv_fcons, Orc.fpre_fcons, Orc.fes_fcons, Orc.flat_gcons, Orc.pre_gcons, Orc.v_gcons, Orc.hp_gcons, Orc.qpre_gcons, Orc.qv_gcons, Orc.fpre_gcons, Orc.fes_gcons, GSum.pre, GSum.v, GSum.hp, Orc.fpre_cons, Orc.fes_cons, Orc.fpre_econs, Orc.fes_econs, FSum.pre, FSum.v, FSum.hp, fres, O.calls, List.flatMap_cons, List.flatMap_nil, List.contains_cons, List.contains_nil, Bool.not_true, Bool.not_false, Heap.freeze, List.mapIdx_cons, List.mapIdx_nil, List.elem_cons, List.elem_nil, fluP, fluV, evF, bne_iff_ne, ne_eq, Option.some.injEq, go_sem, wpR_gcall, reduceCtorEq, reduceIte, Nat.reduceEqDiff, Nat.reduceAdd, Nat.reduceSub, Nat.reduceMul, Nat.reduceLT, Nat.reduceLeDiff, Nat.reduceBEq, Int.reduceEq, Int.reduceLT, Int.reduceLE, Int.reduceAdd, Int.reduceSub, Int.reduceNeg, Int.reduceToNat]
    · rw [if_neg he] at hst
      have hp2 : 0 < (kids d k).length := List.length_pos_iff.2 he
      have hp3 : ¬ ((kids d k).length : Int) = 0 := by omega
      have hp4 : (0 : Int) < ((kids d k).length : Int) := by omega
      obtain ⟨j, a, b, c, _, q5⟩ := kids_mem hok.1 (wF_mem he)
      have q6 := kids_in hok.1 hi c q5
      have hw : (wF (kids d k)).toNat = j := by omega
      have ha : (kids d k).getD 0 0 = (j : Int) := a
      rw [hw] at hst
      obtain ⟨l1, l2, l3, l4⟩ := pth_all hok.1 (w := wF) (fun l h => wF_mem h) _ j (Nat.le_refl _) c q6
      have hA : (befL d j).length ≤ d.l.length := by unfold befL; simp; omega
      have g3 : ∃ i : Nat, (j : Int) = i ∧ d.l.length - i ≤ m ∧ i < d.l.length ∧ isN d i = true := ⟨j, rfl, by omega, c, q6⟩
      simp only [c53, Doc.enc, dDoc_mk, Doc.eta, hkd, hrk, he, hp3, hp4, e0, e1, ha, g3, hst, ints, s1, s2, s3, s5, sumKidsR12_f, sumKidsR12_D, sumKidsR12_flat, sumKidsR12_r, wpC_seq_xreg, wpC_xreg, wpXR_nil, wpXR_own, wpXR_flu, xeOK, xe, XE.val, XE.heap, efO, shutArgs, xfoot, footO, V.tops, V.top1, clashOne, noClash, Orc.flat_fcons, Orc.pre_fcons, Orc.v_fcons, Orc.hp_fcons, Orc.qpre_fcons, Orc.qv_fcons, Orc.fpre_fcons, Orc.fes_fcons, Orc.flat_gcons, Orc.pre_gcons, Orc.v_gcons, Orc.hp_gcons, Orc.qpre_gcons, Orc.qv_gcons, Orc.fpre_gcons, Orc.fes_gcons, GSum.pre, GSum.v, GSum.hp, Orc.fpre_cons, Orc.fes_cons, Orc.fpre_econs, Orc.fes_econs, FSum.pre, FSum.v, FSum.hp, fres, O.calls, List.flatMap_cons, List.flatMap_nil, List.contains_cons, List.contains_nil, Bool.not_true, Bool.not_false, Heap.freeze, List.mapIdx_cons, List.mapIdx_nil, List.elem_cons, List.elem_nil, fluP, fluV, evF, bne_iff_ne, ne_eq, Option.some.injEq, go_sem, wpR_gcall, reduceCtorEq, reduceIte, Nat.reduceEqDiff, Nat.reduceAdd, Nat.reduceSub, Nat.reduceMul, Nat.reduceLT, Nat.reduceLeDiff, Nat.reduceBEq, Int.reduceEq, Int.reduceLT, Int.reduceLE, Int.reduceAdd, Int.reduceSub, Int.reduceNeg, Int.reduceToNat]
      refine ⟨⟨by omega, by omega⟩, ?_⟩
      rw [if_pos (by omega), List.take_of_length_le (by simp; omega)]
      change Option.map (V.slc 1) (mapO (mapO _) ((d.bef.getD k 0 :: befL d j).map fun n => [vi n])) = _
      rw [mapO_ints11]; rfl
def sumBefR : Sum Try.prog := ⟨53, fun args => args = [.agg (Doc.enc (dDoc (args.getD 0 .any))), vi ((args.getD 1 .any).int)] ∧ kD (dDoc (args.getD 0 .any)) ((args.getD 1 .any).int), fun args => ints (befL (dDoc (args.getD 0 .any)) (((args.getD 1 .any).int)).toNat), fun args h => by
  have := (by have h1 := h.2; have h2 := befR_ok (dDoc (args.getD 0 .any)) h1.1 _ (((args.getD 1 .any).int)).toNat (Nat.le_refl _) (by have := h1.2.1; have := h1.2.2.1; omega) h1.2.2.2; rw [Int.toNat_of_nonneg h1.2.1] at h2; exact h2 : PCall Try.prog 53 [.agg (Doc.enc (dDoc (args.getD 0 .any))), vi ((args.getD 1 .any).int)] (ints (befL (dDoc (args.getD 0 .any)) (((args.getD 1 .any).int)).toNat))); rwa [← h.1] at this, false⟩
theorem sumBefR_f : sumBefR.f = 53 := rfl
theorem sumBefR_D (args : List V) : sumBefR.D args = (args = [.agg (Doc.enc (dDoc (args.getD 0 .any))), vi ((args.getD 1 .any).int)] ∧ kD (dDoc (args.getD 0 .any)) ((args.getD 1 .any).int)) := rfl
theorem sumBefR_flat : sumBefR.flat = false := rfl
theorem sumBefR_r (args : List V) : sumBefR.r args = ints (befL (dDoc (args.getD 0 .any)) (((args.getD 1 .any).int)).toNat) := rfl
theorem aheadR_ok (d : Doc) (m : Nat) (hok : okL d) (hm : m < d.l.length) (hi : isN d m = true) : PCall Try.prog 29 [.agg d.enc, vi m] (vi (joinT (brkA d m))) := by
  refine PCall.of (Orc.fcons sumAftR (Orc.cons sumBefR (Orc.cons sumOldR (Orc.cons sumJoinR (Orc.nil _))))) c29_ok (by simp [c29]) fun w0 own0 => ?_
  have hl := hok.2
  have hkd : kD d m := ⟨hok, by omega, by omega, by rw [Int.toNat_natCast]; exact hi⟩
  obtain ⟨f1, f2, f3, f4⟩ := pth_all hok.1 (w := wF) (fun l h => wF_mem h) _ m (Nat.le_refl _) hm hi
  have hB : (befL d m).length ≤ d.l.length := by unfold befL; simp; omega
  by_cases ho : 0 ≤ oldN d m
  · obtain ⟨o, o1, o2, o3, o4, o5⟩ := oldN_in hok.1 hm hi ho
    have hod : kD d o := ⟨hok, by omega, by omega, by rw [Int.toNat_natCast]; exact o4⟩
    have e0 : (0 : Int) ≤ (o : Int) := by omega
    obtain ⟨l1, l2, l3, l4⟩ := pth_all hok.1 (w := wL) (fun l h => wL_mem h) _ o (Nat.le_refl _) (by omega) o4
    have hA : (aftL d o).length ≤ d.l.length := by unfold aftL; simp; omega
    have hb : brkA d m = aftL d o ++ befL d m := by unfold brkA aftA; rw [if_pos ho, o1, Int.toNat_natCast]; rfl
    have hbl : (brkA d m).length = (aftL d o).length + (befL d m).length := by rw [hb]; simp
    have hbm : (brkA d m).map (fun n => [vi n]) = (aftL d o).map (fun n => [vi n]) ++ (befL d m).map fun n => [vi n] := by rw [hb]; simp
    have g1 : (aftL d o).length + (befL d m).length ≤ 1099511627776 := by omega
    have g2 : ((aftL d o).length + (befL d m).length) * 8 ≤ 140737488355328 := by omega
    have g3 : (brkA d m).take ((aftL d o).length + (befL d m).length) = brkA d m := List.take_of_length_le (by omega)
    have g4 : (brkA d m).length ≤ 1000000 := by omega
    simp only [c29, Doc.enc, dDoc_mk, Doc.eta, hkd, o1, hod, e0, ← hbm, g1, g2, g3, g4, hbl, Nat.le_refl, List.take_length, ints, sumAftR_f, sumAftR_D, sumAftR_sz, sumAftR_d, sumAftR_r, sumBefR_f, sumBefR_D, sumBefR_flat, sumBefR_r, sumOldR_f, sumOldR_D, sumOldR_flat, sumOldR_r, sumJoinR_f, sumJoinR_D, sumJoinR_flat, sumJoinR_r, wpC_seq_xreg, wpC_xreg, wpXR_nil, wpXR_own, wpXR_flu, xeOK, xe, XE.val, XE.heap, efO, shutArgs, xfoot, footO, V.tops, V.top1, clashOne, noClash, Orc.flat_fcons, Orc.pre_fcons, Orc.v_fcons, Orc.hp_fcons, Orc.qpre_fcons, Orc.qv_fcons, Orc.fpre_fcons, Orc.fes_fcons, Orc.flat_gcons, Orc.pre_gcons, Orc.v_gcons, Orc.hp_gcons, Orc.qpre_gcons, Orc.qv_gcons, Orc.fpre_gcons, Orc.fes_gcons, GSum.pre, GSum.v, GSum.hp, Orc.fpre_cons, Orc.fes_cons, Orc.fpre_econs, Orc.fes_econs, FSum.pre, FSum.v, FSum.hp, fres, O.calls, List.flatMap_cons, List.flatMap_nil, List.contains_cons, List.contains_nil, Bool.not_true, Bool.not_false, Heap.freeze, List.mapIdx_cons, List.mapIdx_nil, List.elem_cons, List.elem_nil, fluP, fluV, evF, bne_iff_ne, ne_eq, Option.some.injEq, go_sem, wpR_gcall, reduceCtorEq, reduceIte, Nat.reduceEqDiff, Nat.reduceAdd, Nat.reduceSub, Nat.reduceMul, Nat.reduceLT, Nat.reduceLeDiff, Nat.reduceBEq, Int.reduceEq, Int.reduceLT, Int.reduceLE, Int.reduceAdd, Int.reduceSub, Int.reduceNeg, Int.reduceToNat]
    omega
  · have hb : brkA d m = befL d m := by unfold brkA aftA; rw [if_neg ho]; rfl
    have g1 : (befL d m).length ≤ 1099511627776 := by omega
    have g2 : ((befL d m).length) * 8 ≤ 140737488355328 := by omega
    have g4 : (befL d m).length ≤ 1000000 := by omega
    simp only [c29, Doc.enc, dDoc_mk, Doc.eta, hkd, ho, hb, g1, g2, g4, Nat.le_refl, List.take_length, ints, sumAftR_f, sumAftR_D, sumAftR_sz, sumAftR_d, sumAftR_r, sumBefR_f, sumBefR_D, sumBefR_flat, sumBefR_r, sumOldR_f, sumOldR_D, sumOldR_flat, sumOldR_r, sumJoinR_f, sumJoinR_D, sumJoinR_flat, sumJoinR_r, wpC_seq_xreg, wpC_xreg, wpXR_nil, wpXR_own, wpXR_flu, xeOK, xe, XE.val, XE.heap, efO, shutArgs, xfoot, footO, V.tops, V.top1, clashOne, noClash, Orc.flat_fcons, Orc.pre_fcons, Orc.v_fcons, Orc.hp_fcons, Orc.qpre_fcons, Orc.qv_fcons, Orc.fpre_fcons, Orc.fes_fcons, Orc.flat_gcons, Orc.pre_gcons, Orc.v_gcons, Orc.hp_gcons, Orc.qpre_gcons, Orc.qv_gcons, Orc.fpre_gcons, Orc.fes_gcons, GSum.pre, GSum.v, GSum.hp, Orc.fpre_cons, Orc.fes_cons, Orc.fpre_econs, Orc.fes_econs, FSum.pre, FSum.v, FSum.hp, fres, O.calls, List.flatMap_cons, List.flatMap_nil, List.contains_cons, List.contains_nil, Bool.not_true, Bool.not_false, Heap.freeze, List.mapIdx_cons, List.mapIdx_nil, List.elem_cons, List.elem_nil, fluP, fluV, evF, bne_iff_ne, ne_eq, Option.some.injEq, go_sem, wpR_gcall, reduceCtorEq, reduceIte, Nat.reduceEqDiff, Nat.reduceAdd, Nat.reduceSub, Nat.reduceMul, Nat.reduceLT, Nat.reduceLeDiff, Nat.reduceBEq, Int.reduceEq, Int.reduceLT, Int.reduceLE, Int.reduceAdd, Int.reduceSub, Int.reduceNeg, Int.reduceToNat]
def sumAhdR : Sum Try.prog := ⟨29, fun args => args = [.agg (Doc.enc (dDoc (args.getD 0 .any))), vi ((args.getD 1 .any).int)] ∧ kD (dDoc (args.getD 0 .any)) ((args.getD 1 .any).int), fun args => vi (joinT (brkA (dDoc (args.getD 0 .any)) (((args.getD 1 .any).int)).toNat)), fun args h => by
  have := (by have h1 := h.2; have h2 := aheadR_ok (dDoc (args.getD 0 .any)) (((args.getD 1 .any).int)).toNat h1.1 (by have := h1.2.1; have := h1.2.2.1; omega) h1.2.2.2; rw [Int.toNat_of_nonneg h1.2.1] at h2; exact h2 : PCall Try.prog 29 [.agg (Doc.enc (dDoc (args.getD 0 .any))), vi ((args.getD 1 .any).int)] (vi (joinT (brkA (dDoc (args.getD 0 .any)) (((args.getD 1 .any).int)).toNat)))); rwa [← h.1] at this, true⟩
theorem sumAhdR_f : sumAhdR.f = 29 := rfl
theorem sumAhdR_D (args : List V) : sumAhdR.D args = (args = [.agg (Doc.enc (dDoc (args.getD 0 .any))), vi ((args.getD 1 .any).int)] ∧ kD (dDoc (args.getD 0 .any)) ((args.getD 1 .any).int)) := rfl
theorem sumAhdR_flat : sumAhdR.flat = true := rfl
theorem sumAhdR_r (args : List V) : sumAhdR.r args = vi (joinT (brkA (dDoc (args.getD 0 .any)) (((args.getD 1 .any).int)).toNat)) := rfl
end Go.Proofs.Ytdcdhnohbadenaa
