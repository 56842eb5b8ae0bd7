/- Names: by the document; where they change. -/
import Derived.Test.YtdcdhnohbadenaaN13j
namespace Go.Proofs.Ytdcdhnohbadenaa
open Go.Sx
set_option linter.unusedSimpArgs false
set_option maxHeartbeats 4000000
set_option maxRecDepth 20000

def sumRF (d : Doc) (k : Nat) (ih : ∀ m : Nat, k < m → m < d.l.length → isN d m = true → PCall Try.prog 30 [.agg d.enc, vi m] (vs (usedN d (dwN d wF m)))) : Sum Try.prog :=
  ⟨30, fun args => recD d (k + 1) d.l.length args ∧ isN d ((args.getD 1 .any).int).toNat = true, fun args => vs (usedN d (dwN d wF ((args.getD 1 .any).int).toNat)), fun args h => by
  obtain ⟨⟨h1, h2, h3⟩, h4⟩ := h
  have := ih ((args.getD 1 .any).int).toNat (by omega) (by omega) h4
  rw [Int.toNat_of_nonneg (by omega), ← h1] at this; exact this, true⟩
theorem nmRF_ok (d : Doc) (h : okL d) : ∀ (f k : Nat), d.l.length - k ≤ f → k < d.l.length → isN d k = true → PCall Try.prog 30 [.agg d.enc, vi k] (vs (usedN d (dwN d wF k))) := by
  intro f
  induction f with
  | zero => intro k h1 h2; omega
  | succ f ih =>
  intro k hf hk hi
  have ih' : ∀ m : Nat, k < m → m < d.l.length → isN d m = true → PCall Try.prog 30 [.agg d.enc, vi m] (vs (usedN d (dwN d wF m))) := fun m h1 h2 h3 => ih m (by omega) h2 h3
  refine PCall.of (Orc.cons (sumRF d k ih') (Orc.cons sumKidsR12 (Orc.cons sumUsedR (Orc.nil _)))) c30_ok (by simp [c30]) fun w0 own0 => ?_
  have s1 : (sumRF d k ih').f = 30 := rfl
  have s2 : ∀ args, (sumRF d k ih').D args = (recD d (k + 1) d.l.length args ∧ isN d ((args.getD 1 .any).int).toNat = true) := fun _ => rfl
  have s3 : (sumRF d k ih').flat = true := rfl
  have s4 : ∀ args, (sumRF d k ih').r args = vs (usedN d (dwN d wF ((args.getD 1 .any).int).toNat)) := fun _ => rfl
  have hst := dwN_step h.1 (w := wF) (fun l h => wF_mem h) hk
  have hl := h.2
  have hkd : kD d k := ⟨h, by omega, by omega, by rw [Int.toNat_natCast]; exact hi⟩
  have hkl : (k : Int) < (d.l.length : Int) := by omega
  have hk0 : (0 : Int) ≤ (k : Int) := by omega
  have hle := kidsL d k
  by_cases he : kids d k = []
  · rw [if_pos he] at hst
    simp only [c30, Doc.enc, dDoc_mk, Doc.eta, recD, hkd, he, h, hk0, hkl, hst, ints, s1, s2, s3, s4, sumKidsR12_f, sumKidsR12_D, sumKidsR12_flat, sumKidsR12_r, sumUsedR_f, sumUsedR_D, sumUsedR_flat, sumUsedR_r, go_sem, wpR_gcall, reduceCtorEq, reduceIte, Nat.reduceEqDiff, Nat.reduceAdd, Nat.reduceSub, Nat.reduceMul, Nat.reduceLT, Nat.reduceLeDiff, Nat.reduceBEq, Int.reduceEq, Int.reduceLT, Int.reduceLE, Int.reduceAdd, Int.reduceSub, Int.reduceNeg, Int.reduceToNat]
  · rw [if_neg he] at hst
    obtain ⟨j, q1, q2, q3, q4, q5⟩ := kids_mem h.1 (wF_mem he)
    have q6 := kids_in h.1 hi q3 q5
    have q7 : (wF (kids d k)).toNat = j := by omega
    rw [q7] at hst
    have hp : 0 < (kids d k).length := List.length_pos_iff.2 he
    have e1 : ¬ ((kids d k).length : Int) = 0 := by omega
    have e2 : (0 : Int) < ((kids d k).length : Int) := by omega
    have e3 : (((kids d k).length : Int) - 1).toNat = (kids d k).length - 1 := by omega
    unfold wF at q1
    have e4 : ((k : Int) + 1) ≤ (j : Int) := by omega
    have e5 : (j : Int) < (d.l.length : Int) := by omega
    simp only [c30, Doc.enc, dDoc_mk, Doc.eta, recD, hkd, he, h, hk0, hkl, hst, ints, e1, e2, e3, q1, q6, Int.natCast_add, Int.natCast_one, e4, e5, s1, s2, s3, s4, sumKidsR12_f, sumKidsR12_D, sumKidsR12_flat, sumKidsR12_r, sumUsedR_f, sumUsedR_D, sumUsedR_flat, sumUsedR_r, go_sem, wpR_gcall, reduceCtorEq, reduceIte, Nat.reduceEqDiff, Nat.reduceAdd, Nat.reduceSub, Nat.reduceMul, Nat.reduceLT, Nat.reduceLeDiff, Nat.reduceBEq, Int.reduceEq, Int.reduceLT, Int.reduceLE, Int.reduceAdd, Int.reduceSub, Int.reduceNeg, Int.reduceToNat]
def sumRBegins : Sum Try.prog := ⟨30, fun args => args = [.agg (Doc.enc (dDoc (args.getD 0 .any))), vi ((args.getD 1 .any).int)] ∧ kD (dDoc (args.getD 0 .any)) ((args.getD 1 .any).int), fun args => vs (usedN (dDoc (args.getD 0 .any)) (dwN (dDoc (args.getD 0 .any)) wF (((args.getD 1 .any).int)).toNat)), fun args h => by
  have := (by have h1 := h.2; have h2 := nmRF_ok (dDoc (args.getD 0 .any)) h1.1 _ (((args.getD 1 .any).int)).toNat (Nat.le_refl _) (by have := h1.2.1; have := h1.2.2.1; omega) h1.2.2.2; rw [Int.toNat_of_nonneg h1.2.1] at h2; exact h2 : PCall Try.prog 30 [.agg (Doc.enc (dDoc (args.getD 0 .any))), vi ((args.getD 1 .any).int)] (vs (usedN (dDoc (args.getD 0 .any)) (dwN (dDoc (args.getD 0 .any)) wF (((args.getD 1 .any).int)).toNat)))); rwa [← h.1] at this, true⟩
theorem sumRBegins_f : sumRBegins.f = 30 := rfl
theorem sumRBegins_D (args : List V) : sumRBegins.D args = (args = [.agg (Doc.enc (dDoc (args.getD 0 .any))), vi ((args.getD 1 .any).int)] ∧ kD (dDoc (args.getD 0 .any)) ((args.getD 1 .any).int)) := rfl
theorem sumRBegins_flat : sumRBegins.flat = true := rfl
theorem sumRBegins_r (args : List V) : sumRBegins.r args = vs (usedN (dDoc (args.getD 0 .any)) (dwN (dDoc (args.getD 0 .any)) wF (((args.getD 1 .any).int)).toNat)) := rfl
def sumRL (d : Doc) (k : Nat) (ih : ∀ m : Nat, k < m → m < d.l.length → isN d m = true → PCall Try.prog 70 [.agg d.enc, vi m] (vs (usedN d (dwN d wL m)))) : Sum Try.prog :=
  ⟨70, fun args => recD d (k + 1) d.l.length args ∧ isN d ((args.getD 1 .any).int).toNat = true, fun args => vs (usedN d (dwN d wL ((args.getD 1 .any).int).toNat)), fun args h => by
  obtain ⟨⟨h1, h2, h3⟩, h4⟩ := h
  have := ih ((args.getD 1 .any).int).toNat (by omega) (by omega) h4
  rw [Int.toNat_of_nonneg (by omega), ← h1] at this; exact this, true⟩
theorem nmRL_ok (d : Doc) (h : okL d) : ∀ (f k : Nat), d.l.length - k ≤ f → k < d.l.length → isN d k = true → PCall Try.prog 70 [.agg d.enc, vi k] (vs (usedN d (dwN d wL k))) := by
  intro f
  induction f with
  | zero => intro k h1 h2; omega
  | succ f ih =>
  intro k hf hk hi
  have ih' : ∀ m : Nat, k < m → m < d.l.length → isN d m = true → PCall Try.prog 70 [.agg d.enc, vi m] (vs (usedN d (dwN d wL m))) := fun m h1 h2 h3 => ih m (by omega) h2 h3
  refine PCall.of (Orc.cons (sumRL d k ih') (Orc.cons sumKidsR12 (Orc.cons sumUsedR (Orc.nil _)))) c70_ok (by simp [c70]) fun w0 own0 => ?_
  have s1 : (sumRL d k ih').f = 70 := rfl
  have s2 : ∀ args, (sumRL d k ih').D args = (recD d (k + 1) d.l.length args ∧ isN d ((args.getD 1 .any).int).toNat = true) := fun _ => rfl
  have s3 : (sumRL d k ih').flat = true := rfl
  have s4 : ∀ args, (sumRL d k ih').r args = vs (usedN d (dwN d wL ((args.getD 1 .any).int).toNat)) := fun _ => rfl
  have hst := dwN_step h.1 (w := wL) (fun l h => wL_mem h) hk
  have hl := h.2
  have hkd : kD d k := ⟨h, by omega, by omega, by rw [Int.toNat_natCast]; exact hi⟩
  have hkl : (k : Int) < (d.l.length : Int) := by omega
  have hk0 : (0 : Int) ≤ (k : Int) := by omega
  have hle := kidsL d k
  by_cases he : kids d k = []
  · rw [if_pos he] at hst
    simp only [c70, Doc.enc, dDoc_mk, Doc.eta, recD, hkd, he, h, hk0, hkl, hst, ints, s1, s2, s3, s4, sumKidsR12_f, sumKidsR12_D, sumKidsR12_flat, sumKidsR12_r, sumUsedR_f, sumUsedR_D, sumUsedR_flat, sumUsedR_r, go_sem, wpR_gcall, reduceCtorEq, reduceIte, Nat.reduceEqDiff, Nat.reduceAdd, Nat.reduceSub, Nat.reduceMul, Nat.reduceLT, Nat.reduceLeDiff, Nat.reduceBEq, Int.reduceEq, Int.reduceLT, Int.reduceLE, Int.reduceAdd, Int.reduceSub, Int.reduceNeg, Int.reduceToNat]
  · rw [if_neg he] at hst
    obtain ⟨j, q1, q2, q3, q4, q5⟩ := kids_mem h.1 (wL_mem he)
    have q6 := kids_in h.1 hi q3 q5
    have q7 : (wL (kids d k)).toNat = j := by omega
    rw [q7] at hst
    have hp : 0 < (kids d k).length := List.length_pos_iff.2 he
    have e1 : ¬ ((kids d k).length : Int) = 0 := by omega
    have e2 : (0 : Int) < ((kids d k).length : Int) := by omega
    have e3 : (((kids d k).length : Int) - 1).toNat = (kids d k).length - 1 := by omega
    unfold wL at q1
    have e4 : ((k : Int) + 1) ≤ (j : Int) := by omega
    have e5 : (j : Int) < (d.l.length : Int) := by omega
    simp only [c70, Doc.enc, dDoc_mk, Doc.eta, recD, hkd, he, h, hk0, hkl, hst, ints, e1, e2, e3, q1, q6, Int.natCast_add, Int.natCast_one, e4, e5, s1, s2, s3, s4, sumKidsR12_f, sumKidsR12_D, sumKidsR12_flat, sumKidsR12_r, sumUsedR_f, sumUsedR_D, sumUsedR_flat, sumUsedR_r, go_sem, wpR_gcall, reduceCtorEq, reduceIte, Nat.reduceEqDiff, Nat.reduceAdd, Nat.reduceSub, Nat.reduceMul, Nat.reduceLT, Nat.reduceLeDiff, Nat.reduceBEq, Int.reduceEq, Int.reduceLT, Int.reduceLE, Int.reduceAdd, Int.reduceSub, Int.reduceNeg, Int.reduceToNat]
    exact ⟨by omega, by omega⟩
def sumREnds : Sum Try.prog := ⟨70, fun args => args = [.agg (Doc.enc (dDoc (args.getD 0 .any))), vi ((args.getD 1 .any).int)] ∧ kD (dDoc (args.getD 0 .any)) ((args.getD 1 .any).int), fun args => vs (usedN (dDoc (args.getD 0 .any)) (dwN (dDoc (args.getD 0 .any)) wL (((args.getD 1 .any).int)).toNat)), fun args h => by
  have := (by have h1 := h.2; have h2 := nmRL_ok (dDoc (args.getD 0 .any)) h1.1 _ (((args.getD 1 .any).int)).toNat (Nat.le_refl _) (by have := h1.2.1; have := h1.2.2.1; omega) h1.2.2.2; rw [Int.toNat_of_nonneg h1.2.1] at h2; exact h2 : PCall Try.prog 70 [.agg (Doc.enc (dDoc (args.getD 0 .any))), vi ((args.getD 1 .any).int)] (vs (usedN (dDoc (args.getD 0 .any)) (dwN (dDoc (args.getD 0 .any)) wL (((args.getD 1 .any).int)).toNat)))); rwa [← h.1] at this, true⟩
theorem sumREnds_f : sumREnds.f = 70 := rfl
theorem sumREnds_D (args : List V) : sumREnds.D args = (args = [.agg (Doc.enc (dDoc (args.getD 0 .any))), vi ((args.getD 1 .any).int)] ∧ kD (dDoc (args.getD 0 .any)) ((args.getD 1 .any).int)) := rfl
theorem sumREnds_flat : sumREnds.flat = true := rfl
theorem sumREnds_r (args : List V) : sumREnds.r args = vs (usedN (dDoc (args.getD 0 .any)) (dwN (dDoc (args.getD 0 .any)) wL (((args.getD 1 .any).int)).toNat)) := rfl
theorem chgR_ok (d : Doc) (k : Nat) (hkd : kD d k) : PCall Try.prog 50 [.agg d.enc, vi k] (vb (chgN d k)) := by
  refine PCall.of (Orc.cons sumOldR (Orc.cons sumRBegins (Orc.cons sumREnds (Orc.nil _)))) c50_ok (by simp [c50]) fun w0 own0 => ?_
  obtain ⟨h, k1, k2, k3⟩ := id hkd
  rw [Int.toNat_natCast] at k3
  by_cases ho : 0 ≤ oldN d k
  · obtain ⟨m, q1, q2, q3, q4, q5⟩ := oldN_in h.1 (by omega) k3 ho
    have hm : kD d m := ⟨h, by omega, by omega, by rw [Int.toNat_natCast]; exact q4⟩
    have hm0 : (0 : Int) ≤ (m : Int) := by omega
    simp only [c50, Doc.enc, dDoc_mk, Doc.eta, hkd, q1, hm, hm0, chgN, begN, endsN, sumOldR_f, sumOldR_D, sumOldR_flat, sumOldR_r, sumRBegins_f, sumRBegins_D, sumRBegins_flat, sumRBegins_r, sumREnds_f, sumREnds_D, sumREnds_flat, sumREnds_r, go_sem, wpR_gcall, reduceCtorEq, reduceIte, Nat.reduceEqDiff, Nat.reduceAdd, Nat.reduceSub, Nat.reduceMul, Nat.reduceLT, Nat.reduceLeDiff, Nat.reduceBEq, Int.reduceEq, Int.reduceLT, Int.reduceLE, Int.reduceAdd, Int.reduceSub, Int.reduceNeg, Int.reduceToNat]
    simp
  · simp only [c50, Doc.enc, dDoc_mk, Doc.eta, hkd, ho, chgN, sumOldR_f, sumOldR_D, sumOldR_flat, sumOldR_r, sumRBegins_f, sumRBegins_D, sumRBegins_flat, sumRBegins_r, sumREnds_f, sumREnds_D, sumREnds_flat, sumREnds_r, go_sem, wpR_gcall, reduceCtorEq, reduceIte, Nat.reduceEqDiff, Nat.reduceAdd, Nat.reduceSub, Nat.reduceMul, Nat.reduceLT, Nat.reduceLeDiff, Nat.reduceBEq, Int.reduceEq, Int.reduceLT, Int.reduceLE, Int.reduceAdd, Int.reduceSub, Int.reduceNeg, Int.reduceToNat]
def sumRChanges : Sum Try.prog := ⟨50, fun args => args = [.agg (Doc.enc (dDoc (args.getD 0 .any))), vi ((args.getD 1 .any).int)] ∧ kD (dDoc (args.getD 0 .any)) ((args.getD 1 .any).int), fun args => vb (chgN (dDoc (args.getD 0 .any)) (((args.getD 1 .any).int)).toNat), fun args h => by
  have := (by have h1 := h.2; have h2 := chgR_ok (dDoc (args.getD 0 .any)) (((args.getD 1 .any).int)).toNat (by rw [Int.toNat_of_nonneg h1.2.1]; exact h1); rw [Int.toNat_of_nonneg h1.2.1] at h2; exact h2 : PCall Try.prog 50 [.agg (Doc.enc (dDoc (args.getD 0 .any))), vi ((args.getD 1 .any).int)] (vb (chgN (dDoc (args.getD 0 .any)) (((args.getD 1 .any).int)).toNat))); rwa [← h.1] at this, true⟩
theorem sumRChanges_f : sumRChanges.f = 50 := rfl
theorem sumRChanges_D (args : List V) : sumRChanges.D args = (args = [.agg (Doc.enc (dDoc (args.getD 0 .any))), vi ((args.getD 1 .any).int)] ∧ kD (dDoc (args.getD 0 .any)) ((args.getD 1 .any).int)) := rfl
theorem sumRChanges_flat : sumRChanges.flat = true := rfl
theorem sumRChanges_r (args : List V) : sumRChanges.r args = vb (chgN (dDoc (args.getD 0 .any)) (((args.getD 1 .any).int)).toNat) := rfl
def chV13 (d : Doc) (k : Int) : Bool := thV d k && chgN d k.toNat
theorem changes_ok (d : Doc) (k : Int) (hl : d.l.length ≤ 1000) : PCall Try.prog 46 [.agg d.enc, vi k] (vb (chV13 d k)) := by
  refine PCall.of (Orc.cons sumPoint (Orc.cons sumKidsA (Orc.cons sumBegins (Orc.cons sumEnds (Orc.cons sumIxI (Orc.nil _)))))) c46_ok (by simp [c46]) fun w0 own0 => ?_
  by_cases hp : ptV d k = true
  · have hp' := hp
    unfold ptV at hp'
    rw [Bool.and_eq_true, decide_eq_true_eq] at hp'
    obtain ⟨ht, ho⟩ := hp'
    obtain ⟨hok, m, rfl, hm, hi⟩ := thV_okL hl ht
    rw [Int.toNat_natCast] at ho
    have hrt : rightB d = true := by unfold thV at ht; rw [Bool.and_eq_true] at ht; exact ht.1
    obtain ⟨o, q1, q2, q3, q4, q5⟩ := oldN_in hok.1 hm hi ho
    have hu := hok.1.up q2 hm
    obtain ⟨p1, p2, p3, p4⟩ := older_plain hok.1 q2 hm hi
    have hz : 0 < (selTo (kidP d (up d m)) m).length := by
      rcases Nat.eq_zero_or_pos (selTo (kidP d (up d m)) m).length with e | e
      · have := p2 e; omega
      · exact e
    have hkd : kdV d (up d m) = kids d (up d m) := by
      unfold kdV; rw [Int.toNat_natCast, if_pos]; rw [thV_at hrt (by omega)]; exact isN_parent hok.1 q2 hm hi
    have hpar : (d.l.getD m .zero).parent = (up d m : Int) := hu.1
    have hle := kidsL d (up d m)
    have e1 : (((selTo (kidP d (up d m)) m).length : Int) - 1).toNat = (selTo (kidP d (up d m)) m).length - 1 := by omega
    have e2 : (kids d (up d m)).getD ((selTo (kidP d (up d m)) m).length - 1) 0 = (o : Int) := by rw [(p3 hz).1, q1]
    have e3 : (m : Int) < (d.l.length : Int) := by omega
    have b1 : nmF d m = begN d m := by unfold nmF begN; rw [if_pos ht, Int.toNat_natCast]
    have b2 : nmL d o = endsN d o := by unfold nmL endsN; rw [thV_at hrt (by omega), if_pos q4, Int.toNat_natCast]
    have b3 : chV13 d m = decide (begN d m ≠ endsN d o) := by
      unfold chV13 chgN; rw [ht, Int.toNat_natCast, q1, Int.toNat_natCast, Bool.true_and]; congr 1; simp only [eq_iff_iff]; exact ⟨fun hh => hh.2, fun hh => ⟨by omega, hh⟩⟩
    have e4 : (kids d (up d m)).length ≤ 1000000 := by omega
    rw [b3]
    simp only [c46, Doc.enc, dDoc_mk, Doc.eta, nodeAt, hpar, ints, hl, hp, hkd, p1, e1, e2, e3, e4, b1, b2, sumPoint_f, sumPoint_D, sumPoint_flat, sumPoint_r, sumKidsA_f, sumKidsA_D, sumKidsA_flat, sumKidsA_r, sumBegins_f, sumBegins_D, sumBegins_flat, sumBegins_r, sumEnds_f, sumEnds_D, sumEnds_flat, sumEnds_r, sumIxI_f, sumIxI_D, sumIxI_flat, sumIxI_r, go_sem, wpR_gcall, reduceCtorEq, reduceIte, Nat.reduceEqDiff, Nat.reduceAdd, Nat.reduceSub, Nat.reduceMul, Nat.reduceLT, Nat.reduceLeDiff, Nat.reduceBEq, Int.reduceEq, Int.reduceLT, Int.reduceLE, Int.reduceAdd, Int.reduceSub, Int.reduceNeg, Int.reduceToNat]
    exact ⟨by omega, by omega, by omega, by simp⟩
  · have e : chV13 d k = false := by
      unfold chV13 chgN; unfold ptV at hp
      cases ht : thV d k with
      | false => rfl
      | true =>
        rw [ht, Bool.true_and, decide_eq_true_eq] at hp
        rw [Bool.true_and, decide_eq_false_iff_not]; exact fun hh => hp hh.1
    simp only [c46, Doc.enc, dDoc_mk, Doc.eta, hl, hp, e, sumPoint_f, sumPoint_D, sumPoint_flat, sumPoint_r, sumKidsA_f, sumKidsA_D, sumKidsA_flat, sumKidsA_r, sumBegins_f, sumBegins_D, sumBegins_flat, sumBegins_r, sumEnds_f, sumEnds_D, sumEnds_flat, sumEnds_r, sumIxI_f, sumIxI_D, sumIxI_flat, sumIxI_r, go_sem, wpR_gcall, reduceCtorEq, reduceIte, Nat.reduceEqDiff, Nat.reduceAdd, Nat.reduceSub, Nat.reduceMul, Nat.reduceLT, Nat.reduceLeDiff, Nat.reduceBEq, Int.reduceEq, Int.reduceLT, Int.reduceLE, Int.reduceAdd, Int.reduceSub, Int.reduceNeg, Int.reduceToNat]
def sumChanges : Sum Try.prog := ⟨46, fun args => args = [.agg (Doc.enc (dDoc (args.getD 0 .any))), vi ((args.getD 1 .any).int)] ∧ ((dDoc (args.getD 0 .any))).l.length ≤ 1000, fun args => vb (chV13 (dDoc (args.getD 0 .any)) ((args.getD 1 .any).int)), fun args h => by
  have := changes_ok (dDoc (args.getD 0 .any)) ((args.getD 1 .any).int) h.2; rwa [← h.1] at this, true⟩
theorem sumChanges_f : sumChanges.f = 46 := rfl
theorem sumChanges_D (args : List V) : sumChanges.D args = (args = [.agg (Doc.enc (dDoc (args.getD 0 .any))), vi ((args.getD 1 .any).int)] ∧ ((dDoc (args.getD 0 .any))).l.length ≤ 1000) := rfl
theorem sumChanges_flat : sumChanges.flat = true := rfl
theorem sumChanges_r (args : List V) : sumChanges.r args = vb (chV13 (dDoc (args.getD 0 .any)) ((args.getD 1 .any).int)) := rfl
end Go.Proofs.Ytdcdhnohbadenaa
