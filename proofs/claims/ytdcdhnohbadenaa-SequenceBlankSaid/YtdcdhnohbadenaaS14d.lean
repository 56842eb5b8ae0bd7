/- Segments, by the document. -/
import Derived.Test.YtdcdhnohbadenaaS14c
import Derived.Test.YtdcdhnohbadenaaF12h
namespace Go.Proofs.Ytdcdhnohbadenaa
open Go.Sx
set_option linter.unusedSimpArgs false
set_option maxHeartbeats 4000000
set_option maxRecDepth 20000

theorem inR_ok (d : Doc) (h : okL d) : PCall Try.prog 25 [.agg d.enc] (ints (inL d)) := by
  refine PCall.of (Orc.cons sumIsR (Orc.nil _)) c25_ok (by simp [c25]) fun w0 own0 => ?_
  have hl := h.2
  simp only [c25, Doc.enc, go_sem, wpR_gcall, reduceCtorEq, reduceIte, Nat.reduceEqDiff, Nat.reduceAdd, Nat.reduceSub, Nat.reduceMul, Nat.reduceLT, Nat.reduceLeDiff, Nat.reduceBEq, Int.reduceEq, Int.reduceLT, Int.reduceLE, Int.reduceAdd, Int.reduceSub, Int.reduceNeg, Int.reduceToNat]
  refine SemC.lp (α := KiS) (fun a => [(1, .ptr 0 0 0 0), (3, .ref 1 a.ver 0 (selTo (isN d) a.n).length), (4, vi a.n)])
    (fun a => ⟨[⟨0, 5, [d.enc], false, []⟩, ⟨a.ver, 1, (selTo (isN d) a.n).map fun n => [vi n], false, [vi 0]⟩], a.clk⟩)
    (fun a => a.n ≤ d.l.length) (fun a => d.l.length - a.n) ⟨0, 1, 2⟩ (by simp)
    (St.nil 3 1 [vi 0] (by simp [upd_at]) (St.cut ?_ ?_ ?_)) fun a ha => ?_
  · simp [Agrees, upd_at, initE_at, selTo]
  · simp [Heap.alloc, selTo, Doc.enc]
  · rfl
  obtain ⟨k, ver, clk⟩ := a
  simp only at ha
  have hlen := selTo_len (isN d) k
  by_cases hk : k = d.l.length
  · subst hk
    simp only [Doc.enc, Int.lt_irrefl, ints, inL, List.take_length, Nat.le_refl, go_sem, wpR_gcall, reduceCtorEq, reduceIte, Nat.reduceEqDiff, Nat.reduceAdd, Nat.reduceSub, Nat.reduceMul, Nat.reduceLT, Nat.reduceLeDiff, Nat.reduceBEq, Int.reduceEq, Int.reduceLT, Int.reduceLE, Int.reduceAdd, Int.reduceSub, Int.reduceNeg, Int.reduceToNat]
  · have e1 : (k : Int) < (d.l.length : Int) := by omega
    have hth := thB_at (d := d) (k := k) (by omega)
    cases hi : isN d k with
    | true =>
      have e2 : selTo (isN d) (k + 1) = selTo (isN d) k ++ [(k : Int)] := by simp only [selTo, hi, if_true]
      simp only [Doc.enc, dDoc_mk, Doc.eta, e1, h, hth, hi, List.take_length, Nat.le_refl, sumIsR_f, sumIsR_D, sumIsR_flat, sumIsR_r, go_sem, wpR_gcall, reduceCtorEq, reduceIte, Nat.reduceEqDiff, Nat.reduceAdd, Nat.reduceSub, Nat.reduceMul, Nat.reduceLT, Nat.reduceLeDiff, Nat.reduceBEq, Int.reduceEq, Int.reduceLT, Int.reduceLE, Int.reduceAdd, Int.reduceSub, Int.reduceNeg, Int.reduceToNat]
      exact ⟨by omega, by omega, ⟨k + 1, clk + 1, clk + 1 + 1⟩, by dsimp only; omega, by dsimp only; omega, ⟨⟨rfl, by dsimp only; rw [e2]; simp⟩, by dsimp only; omega⟩, ⟨rfl, by dsimp only; rw [e2]; simp⟩, rfl⟩
    | false =>
      have e2 : selTo (isN d) (k + 1) = selTo (isN d) k := by simp only [selTo, hi, Bool.false_eq_true, if_false]
      simp only [Doc.enc, dDoc_mk, Doc.eta, e1, h, hth, hi, List.take_length, Nat.le_refl, sumIsR_f, sumIsR_D, sumIsR_flat, sumIsR_r, go_sem, wpR_gcall, reduceCtorEq, reduceIte, Nat.reduceEqDiff, Nat.reduceAdd, Nat.reduceSub, Nat.reduceMul, Nat.reduceLT, Nat.reduceLeDiff, Nat.reduceBEq, Int.reduceEq, Int.reduceLT, Int.reduceLE, Int.reduceAdd, Int.reduceSub, Int.reduceNeg, Int.reduceToNat]
      exact ⟨by omega, ⟨k + 1, ver, clk⟩, by dsimp only; omega, by dsimp only; omega, ⟨⟨rfl, by dsimp only; rw [e2]⟩, by dsimp only; omega⟩, ⟨rfl, by dsimp only; rw [e2]⟩, rfl⟩
def sumInR : Sum Try.prog := ⟨25, fun args => args = [.agg (Doc.enc (dDoc (args.getD 0 .any)))] ∧ okL (dDoc (args.getD 0 .any)), fun args => ints (inL (dDoc (args.getD 0 .any))), fun args h => by
  have := inR_ok (dDoc (args.getD 0 .any)) h.2; rwa [← h.1] at this, false⟩
theorem sumInR_f : sumInR.f = 25 := rfl
theorem sumInR_D (args : List V) : sumInR.D args = (args = [.agg (Doc.enc (dDoc (args.getD 0 .any)))] ∧ okL (dDoc (args.getD 0 .any))) := rfl
theorem sumInR_flat : sumInR.flat = false := rfl
theorem sumInR_r (args : List V) : sumInR.r args = ints (inL (dDoc (args.getD 0 .any))) := rfl
def mustN (d : Doc) (k : Nat) : Int := if oldN d k < 0 then 0 else if 2 ≤ joinT (brkA d k) then 1 else if chgN d k = true then 2 else 0
theorem mustR_ok (d : Doc) (m : Nat) (hkd : kD d m) : PCall Try.prog 28 [.agg d.enc, vi m] (vi (mustN d m)) := by
  refine PCall.of (Orc.cons sumOldR (Orc.cons sumAhdR (Orc.cons sumRChanges (Orc.nil _)))) c28_ok (by simp [c28]) fun w0 own0 => ?_
  unfold mustN
  by_cases h1 : oldN d m < 0
  · rw [if_pos h1]
    simp only [c28, Doc.enc, dDoc_mk, Doc.eta, hkd, h1, sumOldR_f, sumOldR_D, sumOldR_flat, sumOldR_r, sumAhdR_f, sumAhdR_D, sumAhdR_flat, sumAhdR_r, sumRChanges_f, sumRChanges_D, sumRChanges_flat, sumRChanges_r, go_sem, wpR_gcall, reduceCtorEq, reduceIte, Nat.reduceEqDiff, Nat.reduceAdd, Nat.reduceSub, Nat.reduceMul, Nat.reduceLT, Nat.reduceLeDiff, Nat.reduceBEq, Int.reduceEq, Int.reduceLT, Int.reduceLE, Int.reduceAdd, Int.reduceSub, Int.reduceNeg, Int.reduceToNat]
  rw [if_neg h1]
  by_cases h2 : 2 ≤ joinT (brkA d m)
  · rw [if_pos h2]
    simp only [c28, Doc.enc, dDoc_mk, Doc.eta, hkd, h1, h2, sumOldR_f, sumOldR_D, sumOldR_flat, sumOldR_r, sumAhdR_f, sumAhdR_D, sumAhdR_flat, sumAhdR_r, sumRChanges_f, sumRChanges_D, sumRChanges_flat, sumRChanges_r, go_sem, wpR_gcall, reduceCtorEq, reduceIte, Nat.reduceEqDiff, Nat.reduceAdd, Nat.reduceSub, Nat.reduceMul, Nat.reduceLT, Nat.reduceLeDiff, Nat.reduceBEq, Int.reduceEq, Int.reduceLT, Int.reduceLE, Int.reduceAdd, Int.reduceSub, Int.reduceNeg, Int.reduceToNat]
  rw [if_neg h2]
  by_cases h3 : chgN d m = true
  · rw [if_pos h3]
    simp only [c28, Doc.enc, dDoc_mk, Doc.eta, hkd, h1, h2, h3, sumOldR_f, sumOldR_D, sumOldR_flat, sumOldR_r, sumAhdR_f, sumAhdR_D, sumAhdR_flat, sumAhdR_r, sumRChanges_f, sumRChanges_D, sumRChanges_flat, sumRChanges_r, go_sem, wpR_gcall, reduceCtorEq, reduceIte, Nat.reduceEqDiff, Nat.reduceAdd, Nat.reduceSub, Nat.reduceMul, Nat.reduceLT, Nat.reduceLeDiff, Nat.reduceBEq, Int.reduceEq, Int.reduceLT, Int.reduceLE, Int.reduceAdd, Int.reduceSub, Int.reduceNeg, Int.reduceToNat]
  · rw [if_neg h3]
    simp only [c28, Doc.enc, dDoc_mk, Doc.eta, hkd, h1, h2, h3, sumOldR_f, sumOldR_D, sumOldR_flat, sumOldR_r, sumAhdR_f, sumAhdR_D, sumAhdR_flat, sumAhdR_r, sumRChanges_f, sumRChanges_D, sumRChanges_flat, sumRChanges_r, go_sem, wpR_gcall, reduceCtorEq, reduceIte, Nat.reduceEqDiff, Nat.reduceAdd, Nat.reduceSub, Nat.reduceMul, Nat.reduceLT, Nat.reduceLeDiff, Nat.reduceBEq, Int.reduceEq, Int.reduceLT, Int.reduceLE, Int.reduceAdd, Int.reduceSub, Int.reduceNeg, Int.reduceToNat]
def sumMust : Sum Try.prog := ⟨28, fun args => args = [.agg (Doc.enc (dDoc (args.getD 0 .any))), vi ((args.getD 1 .any).int)] ∧ kD (dDoc (args.getD 0 .any)) ((args.getD 1 .any).int), fun args => vi (mustN (dDoc (args.getD 0 .any)) (((args.getD 1 .any).int)).toNat), fun args h => by
  have := (by have h1 := h.2; have h2 := mustR_ok (dDoc (args.getD 0 .any)) (((args.getD 1 .any).int)).toNat (by rw [Int.toNat_of_nonneg h1.2.1]; exact h1); rw [Int.toNat_of_nonneg h1.2.1] at h2; exact h2 : PCall Try.prog 28 [.agg (Doc.enc (dDoc (args.getD 0 .any))), vi ((args.getD 1 .any).int)] (vi (mustN (dDoc (args.getD 0 .any)) (((args.getD 1 .any).int)).toNat))); rwa [← h.1] at this, true⟩
theorem sumMust_f : sumMust.f = 28 := rfl
theorem sumMust_D (args : List V) : sumMust.D args = (args = [.agg (Doc.enc (dDoc (args.getD 0 .any))), vi ((args.getD 1 .any).int)] ∧ kD (dDoc (args.getD 0 .any)) ((args.getD 1 .any).int)) := rfl
theorem sumMust_flat : sumMust.flat = true := rfl
theorem sumMust_r (args : List V) : sumMust.r args = vi (mustN (dDoc (args.getD 0 .any)) (((args.getD 1 .any).int)).toNat) := rfl
/-- What must be, for a node in flow. -/
theorem must_frc {d : Doc} (hr : rightB d = true) {m : Nat} (hm : m < d.l.length) (hi : isN d m = true) : frcV d m = decide (mustN d m = 1) := by
  have e1 : ptV d m = decide (0 ≤ oldN d m) := by unfold ptV; rw [thV_at hr hm, hi, Int.toNat_natCast]; rfl
  have e2 : ahdV d m = joinT (brkA d m) := by unfold ahdV; rw [thV_at hr hm, if_pos hi, Int.toNat_natCast]
  have e3 := joinT_lo (brkA d m)
  unfold frcV mustN
  rw [e1, e2, Bool.eq_iff_iff]
  simp only [Bool.and_eq_true, decide_eq_true_eq]
  by_cases h1 : oldN d m < 0
  · rw [if_pos h1]; omega
  · rw [if_neg h1]
    by_cases h2 : 2 ≤ joinT (brkA d m)
    · rw [if_pos h2]; omega
    · rw [if_neg h2]; split <;> omega
theorem must_chg {d : Doc} (hr : rightB d = true) {m : Nat} (hm : m < d.l.length) (hi : isN d m = true) (hf : frcV d m = false) : chV13 d m = decide (mustN d m = 2) := by
  have e0 := must_frc hr hm hi
  rw [hf] at e0
  have e1 : chV13 d m = chgN d m := by unfold chV13; rw [thV_at hr hm, hi, Int.toNat_natCast]; rfl
  rw [e1]
  unfold mustN at e0 ⊢
  by_cases h1 : oldN d m < 0
  · rw [if_pos h1]
    have : chgN d m = false := by unfold chgN; simp [show ¬ (0 ≤ oldN d m) by omega]
    rw [this]; rfl
  · rw [if_neg h1] at e0 ⊢
    by_cases h2 : 2 ≤ joinT (brkA d m)
    · rw [if_pos h2] at e0; simp at e0
    · rw [if_neg h2]
      cases chgN d m <;> simp
end Go.Proofs.Ytdcdhnohbadenaa
