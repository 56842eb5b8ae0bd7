/- Flows: all that is come to from a node; what several breaks come to. -/
import Derived.Test.YtdcdhnohbadenaaN13i
import Derived.Test.YtdcdhnohbadenaaBk
namespace Go.Proofs.Ytdcdhnohbadenaa
open Go.Sx
set_option linter.unusedSimpArgs false
set_option maxHeartbeats 4000000
set_option maxRecDepth 20000

def pthF (d : Doc) (w : List Int → Int) : Nat → Nat → List Int
  | 0, k => [(k : Int)]
  | f + 1, k => if kids d k = [] then [(k : Int)] else (k : Int) :: pthF d w f (w (kids d k)).toNat
def pth (d : Doc) (w : List Int → Int) (k : Nat) : List Int := pthF d w (d.l.length - k) k
theorem pthF_fuel {d : Doc} (h : okD d) {w : List Int → Int} (hw : ∀ l, l ≠ [] → w l ∈ l) : ∀ (m k f : Nat), d.l.length - k ≤ m → k < d.l.length → d.l.length - k ≤ f → pthF d w f k = pth d w k := by
  intro m
  induction m with
  | zero => intro k f h1 h2; omega
  | succ m ih =>
    intro k f h1 h2 h3
    obtain ⟨f, rfl⟩ : ∃ g, f = g + 1 := ⟨f - 1, by omega⟩
    obtain ⟨g, hg⟩ : ∃ g, d.l.length - k = g + 1 := ⟨d.l.length - k - 1, by omega⟩
    unfold pth
    rw [hg]
    simp only [pthF]
    by_cases he : kids d k = []
    · rw [if_pos he, if_pos he]
    · rw [if_neg he, if_neg he]
      obtain ⟨j, a, b, c, _⟩ := kids_mem h (hw _ he)
      have e : (w (kids d k)).toNat = j := by omega
      rw [e, ih j f (by omega) c (by omega), ih j g (by omega) c (by omega)]
theorem pth_step {d : Doc} (h : okD d) {w : List Int → Int} (hw : ∀ l, l ≠ [] → w l ∈ l) {k : Nat} (hk : k < d.l.length) : pth d w k = if kids d k = [] then [(k : Int)] else (k : Int) :: pth d w (w (kids d k)).toNat := by
  conv => lhs; unfold pth
  obtain ⟨g, hg⟩ : ∃ g, d.l.length - k = g + 1 := ⟨d.l.length - k - 1, by omega⟩
  rw [hg]
  simp only [pthF]
  by_cases he : kids d k = []
  · rw [if_pos he, if_pos he]
  · rw [if_neg he, if_neg he]
    obtain ⟨j, a, b, c, _⟩ := kids_mem h (hw _ he)
    have e : (w (kids d k)).toNat = j := by omega
    rw [e, pthF_fuel h hw g j g (by omega) c (by omega)]
theorem pth_all {d : Doc} (h : okD d) {w : List Int → Int} (hw : ∀ l, l ≠ [] → w l ∈ l) : ∀ (m k : Nat), d.l.length - k ≤ m → k < d.l.length → isN d k = true →
    (pth d w k).length ≤ d.l.length - k ∧ 0 < (pth d w k).length ∧ (pth d w k).getD 0 0 = k ∧ ∀ x ∈ pth d w k, ∃ j : Nat, x = j ∧ j < d.l.length ∧ isN d j = true := by
  intro m
  induction m with
  | zero => intro k h1 h2; omega
  | succ m ih =>
    intro k h1 h2 hi
    rw [pth_step h hw h2]
    by_cases he : kids d k = []
    · rw [if_pos he]
      refine ⟨by simp; omega, by simp, by simp, fun x hx => ⟨k, by simpa using hx, h2, hi⟩⟩
    · rw [if_neg he]
      obtain ⟨j, a, b, c, _, q5⟩ := kids_mem h (hw _ he)
      have e : (w (kids d k)).toNat = j := by omega
      have hj := kids_in h hi c q5
      obtain ⟨i1, i2, i3, i4⟩ := ih j (by omega) c hj
      rw [e]
      refine ⟨by simp; omega, by simp, by simp, fun x hx => ?_⟩
      rcases List.mem_cons.1 hx with rfl | hx
      · exact ⟨k, rfl, h2, hi⟩
      · exact i4 x hx
structure DnS where
  k : Nat
  pre : List Int
  ver : Nat
  clk : Nat
theorem wFa_ok (l : List Int) (h0 : l ≠ []) : PCall Try.prog 36 [ints l] (vi (wF l)) := by
  refine PCall.of (Orc.nil _) c36_ok (by simp [c36]) fun w0 own0 => ?_
  have := List.length_pos_iff.2 h0
  simp only [c36, ints, wF, go_sem, wpR_gcall, reduceCtorEq, reduceIte, Nat.reduceEqDiff, Nat.reduceAdd, Nat.reduceSub, Nat.reduceMul, Nat.reduceLT, Nat.reduceLeDiff, Nat.reduceBEq, Int.reduceEq, Int.reduceLT, Int.reduceLE, Int.reduceAdd, Int.reduceSub, Int.reduceNeg, Int.reduceToNat]
  omega
theorem wLa_ok (l : List Int) (h0 : l ≠ []) (hl : l.length ≤ 1000000) : PCall Try.prog 35 [ints l] (vi (wL l)) := by
  refine PCall.of (Orc.nil _) c35_ok (by simp [c35]) fun w0 own0 => ?_
  have := List.length_pos_iff.2 h0
  simp only [c35, ints, wL, go_sem, wpR_gcall, reduceCtorEq, reduceIte, Nat.reduceEqDiff, Nat.reduceAdd, Nat.reduceSub, Nat.reduceMul, Nat.reduceLT, Nat.reduceLeDiff, Nat.reduceBEq, Int.reduceEq, Int.reduceLT, Int.reduceLE, Int.reduceAdd, Int.reduceSub, Int.reduceNeg, Int.reduceToNat]
  refine ⟨by omega, by omega, ?_⟩
  rw [show ((l.length : Int) - 1).toNat = l.length - 1 by omega]
def sumWFa : Sum Try.prog := ⟨36, fun args => args = [ints (dInts (args.getD 0 .any))] ∧ (dInts (args.getD 0 .any)) ≠ [], fun args => vi (wF (dInts (args.getD 0 .any))), fun args h => by
  have := wFa_ok (dInts (args.getD 0 .any)) h.2; rwa [← h.1] at this, true⟩
theorem sumWFa_f : sumWFa.f = 36 := rfl
theorem sumWFa_D (args : List V) : sumWFa.D args = (args = [ints (dInts (args.getD 0 .any))] ∧ (dInts (args.getD 0 .any)) ≠ []) := rfl
theorem sumWFa_flat : sumWFa.flat = true := rfl
theorem sumWFa_r (args : List V) : sumWFa.r args = vi (wF (dInts (args.getD 0 .any))) := rfl
def sumWLa : Sum Try.prog := ⟨35, fun args => args = [ints (dInts (args.getD 0 .any))] ∧ (dInts (args.getD 0 .any)) ≠ [] ∧ ((dInts (args.getD 0 .any))).length ≤ 1000000, fun args => vi (wL (dInts (args.getD 0 .any))), fun args h => by
  have := wLa_ok (dInts (args.getD 0 .any)) h.2.1 h.2.2; rwa [← h.1] at this, true⟩
theorem sumWLa_f : sumWLa.f = 35 := rfl
theorem sumWLa_D (args : List V) : sumWLa.D args = (args = [ints (dInts (args.getD 0 .any))] ∧ (dInts (args.getD 0 .any)) ≠ [] ∧ ((dInts (args.getD 0 .any))).length ≤ 1000000) := rfl
theorem sumWLa_flat : sumWLa.flat = true := rfl
theorem sumWLa_r (args : List V) : sumWLa.r args = vi (wL (dInts (args.getD 0 .any))) := rfl
theorem fdownF_ok (d : Doc) (m : Nat) (hok : okL d) (hm : m < d.l.length) (hi : isN d m = true) : PCall Try.prog 34 [.agg d.enc, vi m, .fn 36 []] (ints (pth d wF m)) := by
  refine PCall.of (Orc.cons sumKids (Orc.cons sumWFa (Orc.nil _))) c34_ok (by simp [c34]) fun w0 own0 => ?_
  have hl := hok.2
  have e1 : (m : Int) < (d.l.length : Int) := by omega
  have e0 : (0 : Int) ≤ (m : Int) := by omega
  have hw : ∀ l, l ≠ [] → wF l ∈ l := fun l h => wF_mem h
  obtain ⟨p1, p2, p3, p4⟩ := pth_all hok.1 hw _ m (Nat.le_refl _) hm hi
  simp only [c34, Doc.enc, dDoc_mk, Doc.eta, hok, e0, e1, ints, sumKids_f, sumKids_D, sumKids_flat, sumKids_r, sumWFa_f, sumWFa_D, sumWFa_flat, sumWFa_r, go_sem, wpR_gcall, reduceCtorEq, reduceIte, Nat.reduceEqDiff, Nat.reduceAdd, Nat.reduceSub, Nat.reduceMul, Nat.reduceLT, Nat.reduceLeDiff, Nat.reduceBEq, Int.reduceEq, Int.reduceLT, Int.reduceLE, Int.reduceAdd, Int.reduceSub, Int.reduceNeg, Int.reduceToNat]
  refine SemC.lp (α := DnS) (fun a => [(1, vi a.k), (2, .fn 36 []), (3, .ptr 0 0 0 0), (7, .ref 1 a.ver 0 a.pre.length), (8, .slc 1 ((kids d a.k).map fun n => [vi n]))])
    (fun a => ⟨[⟨0, 5, [d.enc], false, []⟩, ⟨a.ver, 1, a.pre.map fun n => [vi n], false, [vi 0]⟩], a.clk⟩)
    (fun a => a.k < d.l.length ∧ isN d a.k = true ∧ a.pre ++ (pth d wF a.k).drop 1 = pth d wF m) (fun a => d.l.length - a.k) ⟨m, [(m : Int)], 1, 2⟩ ⟨hm, hi, ?_⟩
    (St.mk (by simp [Agrees, upd_at, initE_at, Doc.enc])) fun a ha => ?_
  · rw [pth_step hok.1 hw hm]; split <;> rfl
  obtain ⟨k, pre, ver, clk⟩ := a
  simp only at ha
  obtain ⟨h1, h2, h3⟩ := ha
  have hst := pth_step hok.1 hw h1
  have hpl : pre.length ≤ d.l.length := by have := congrArg List.length h3; rw [List.length_append] at this; omega
  have hkl := kidsL d k
  by_cases he : kids d k = []
  · rw [if_pos he] at hst
    rw [hst] at h3
    simp only [List.drop_succ_cons, List.drop_zero, List.append_nil] at h3
    simp only [Doc.enc, he, h3, List.take_length, Nat.le_refl, sumKids_f, sumKids_D, sumKids_flat, sumKids_r, sumWFa_f, sumWFa_D, sumWFa_flat, sumWFa_r, go_sem, wpR_gcall, reduceCtorEq, reduceIte, Nat.reduceEqDiff, Nat.reduceAdd, Nat.reduceSub, Nat.reduceMul, Nat.reduceLT, Nat.reduceLeDiff, Nat.reduceBEq, Int.reduceEq, Int.reduceLT, Int.reduceLE, Int.reduceAdd, Int.reduceSub, Int.reduceNeg, Int.reduceToNat]
  · rw [if_neg he] at hst
    obtain ⟨j, q1, q2, q3, q4, q5⟩ := kids_mem hok.1 (hw _ he)
    have hp : (0 : Int) < ((kids d k).length : Int) := by have := List.length_pos_iff.2 he; omega
    have q6 := kids_in hok.1 h2 q3 q5
    have q7 : (wF (kids d k)).toNat = j := by omega
    rw [q7] at hst
    have hle : (kids d k).length ≤ 1000000 := by omega
    have e3 : (j : Int) < (d.l.length : Int) := by omega
    have e4 : (0 : Int) ≤ (j : Int) := by omega
    simp only [Doc.enc, dDoc_mk, Doc.eta, hok, hp, q1, e3, e4, ints, he, hle, ne_eq, List.take_length, Nat.le_refl, sumKids_f, sumKids_D, sumKids_flat, sumKids_r, sumWFa_f, sumWFa_D, sumWFa_flat, sumWFa_r, go_sem, wpR_gcall, reduceCtorEq, reduceIte, Nat.reduceEqDiff, Nat.reduceAdd, Nat.reduceSub, Nat.reduceMul, Nat.reduceLT, Nat.reduceLeDiff, Nat.reduceBEq, Int.reduceEq, Int.reduceLT, Int.reduceLE, Int.reduceAdd, Int.reduceSub, Int.reduceNeg, Int.reduceToNat]
    refine ⟨by omega, ⟨j, pre ++ [(j : Int)], clk + 1, clk + 1 + 1⟩, ⟨q3, q6, ?_⟩, by dsimp only; omega, ⟨rfl, by dsimp only; simp, rfl⟩, ⟨rfl, by dsimp only; simp⟩, rfl⟩
    rw [← h3, hst]
    simp only [List.drop_succ_cons, List.drop_zero]
    have hj := pth_step hok.1 hw q3
    rw [List.append_assoc]; congr 1
    rw [hj]; split <;> rfl
def sumDnF : Sum Try.prog := ⟨34, fun args => args = [.agg (Doc.enc (dDoc (args.getD 0 .any))), vi ((args.getD 1 .any).int), .fn 36 []] ∧ kD (dDoc (args.getD 0 .any)) ((args.getD 1 .any).int), fun args => ints (pth (dDoc (args.getD 0 .any)) wF (((args.getD 1 .any).int)).toNat), fun args h => by
  have := (by have h1 := h.2; have h2 := fdownF_ok (dDoc (args.getD 0 .any)) (((args.getD 1 .any).int)).toNat h1.1 (by have := h1.2.1; have := h1.2.2.1; omega) h1.2.2.2; rw [Int.toNat_of_nonneg h1.2.1] at h2; exact h2 : PCall Try.prog 34 [.agg (Doc.enc (dDoc (args.getD 0 .any))), vi ((args.getD 1 .any).int), .fn 36 []] (ints (pth (dDoc (args.getD 0 .any)) wF (((args.getD 1 .any).int)).toNat))); rwa [← h.1] at this, false⟩
theorem sumDnF_f : sumDnF.f = 34 := rfl
theorem sumDnF_D (args : List V) : sumDnF.D args = (args = [.agg (Doc.enc (dDoc (args.getD 0 .any))), vi ((args.getD 1 .any).int), .fn 36 []] ∧ kD (dDoc (args.getD 0 .any)) ((args.getD 1 .any).int)) := rfl
theorem sumDnF_flat : sumDnF.flat = false := rfl
theorem sumDnF_r (args : List V) : sumDnF.r args = ints (pth (dDoc (args.getD 0 .any)) wF (((args.getD 1 .any).int)).toNat) := rfl
theorem fdownL_ok (d : Doc) (m : Nat) (hok : okL d) (hm : m < d.l.length) (hi : isN d m = true) : PCall Try.prog 34 [.agg d.enc, vi m, .fn 35 []] (ints (pth d wL m)) := by
  refine PCall.of (Orc.cons sumKids (Orc.cons sumWLa (Orc.nil _))) c34_ok (by simp [c34]) fun w0 own0 => ?_
  have hl := hok.2
  have e1 : (m : Int) < (d.l.length : Int) := by omega
  have e0 : (0 : Int) ≤ (m : Int) := by omega
  have hw : ∀ l, l ≠ [] → wL l ∈ l := fun l h => wL_mem h
  obtain ⟨p1, p2, p3, p4⟩ := pth_all hok.1 hw _ m (Nat.le_refl _) hm hi
  simp only [c34, Doc.enc, dDoc_mk, Doc.eta, hok, e0, e1, ints, sumKids_f, sumKids_D, sumKids_flat, sumKids_r, sumWLa_f, sumWLa_D, sumWLa_flat, sumWLa_r, go_sem, wpR_gcall, reduceCtorEq, reduceIte, Nat.reduceEqDiff, Nat.reduceAdd, Nat.reduceSub, Nat.reduceMul, Nat.reduceLT, Nat.reduceLeDiff, Nat.reduceBEq, Int.reduceEq, Int.reduceLT, Int.reduceLE, Int.reduceAdd, Int.reduceSub, Int.reduceNeg, Int.reduceToNat]
  refine SemC.lp (α := DnS) (fun a => [(1, vi a.k), (2, .fn 35 []), (3, .ptr 0 0 0 0), (7, .ref 1 a.ver 0 a.pre.length), (8, .slc 1 ((kids d a.k).map fun n => [vi n]))])
    (fun a => ⟨[⟨0, 5, [d.enc], false, []⟩, ⟨a.ver, 1, a.pre.map fun n => [vi n], false, [vi 0]⟩], a.clk⟩)
    (fun a => a.k < d.l.length ∧ isN d a.k = true ∧ a.pre ++ (pth d wL a.k).drop 1 = pth d wL m) (fun a => d.l.length - a.k) ⟨m, [(m : Int)], 1, 2⟩ ⟨hm, hi, ?_⟩
    (St.mk (by simp [Agrees, upd_at, initE_at, Doc.enc])) fun a ha => ?_
  · rw [pth_step hok.1 hw hm]; split <;> rfl
  obtain ⟨k, pre, ver, clk⟩ := a
  simp only at ha
  obtain ⟨h1, h2, h3⟩ := ha
  have hst := pth_step hok.1 hw h1
  have hpl : pre.length ≤ d.l.length := by have := congrArg List.length h3; rw [List.length_append] at this; omega
  have hkl := kidsL d k
  by_cases he : kids d k = []
  · rw [if_pos he] at hst
    rw [hst] at h3
    simp only [List.drop_succ_cons, List.drop_zero, List.append_nil] at h3
    simp only [Doc.enc, he, h3, List.take_length, Nat.le_refl, sumKids_f, sumKids_D, sumKids_flat, sumKids_r, sumWLa_f, sumWLa_D, sumWLa_flat, sumWLa_r, go_sem, wpR_gcall, reduceCtorEq, reduceIte, Nat.reduceEqDiff, Nat.reduceAdd, Nat.reduceSub, Nat.reduceMul, Nat.reduceLT, Nat.reduceLeDiff, Nat.reduceBEq, Int.reduceEq, Int.reduceLT, Int.reduceLE, Int.reduceAdd, Int.reduceSub, Int.reduceNeg, Int.reduceToNat]
  · rw [if_neg he] at hst
    obtain ⟨j, q1, q2, q3, q4, q5⟩ := kids_mem hok.1 (hw _ he)
    have hp : (0 : Int) < ((kids d k).length : Int) := by have := List.length_pos_iff.2 he; omega
    have q6 := kids_in hok.1 h2 q3 q5
    have q7 : (wL (kids d k)).toNat = j := by omega
    rw [q7] at hst
    have hle : (kids d k).length ≤ 1000000 := by omega
    have e3 : (j : Int) < (d.l.length : Int) := by omega
    have e4 : (0 : Int) ≤ (j : Int) := by omega
    simp only [Doc.enc, dDoc_mk, Doc.eta, hok, hp, q1, e3, e4, ints, he, hle, ne_eq, List.take_length, Nat.le_refl, sumKids_f, sumKids_D, sumKids_flat, sumKids_r, sumWLa_f, sumWLa_D, sumWLa_flat, sumWLa_r, go_sem, wpR_gcall, reduceCtorEq, reduceIte, Nat.reduceEqDiff, Nat.reduceAdd, Nat.reduceSub, Nat.reduceMul, Nat.reduceLT, Nat.reduceLeDiff, Nat.reduceBEq, Int.reduceEq, Int.reduceLT, Int.reduceLE, Int.reduceAdd, Int.reduceSub, Int.reduceNeg, Int.reduceToNat]
    refine ⟨by omega, ⟨j, pre ++ [(j : Int)], clk + 1, clk + 1 + 1⟩, ⟨q3, q6, ?_⟩, by dsimp only; omega, ⟨rfl, by dsimp only; simp, rfl⟩, ⟨rfl, by dsimp only; simp⟩, rfl⟩
    rw [← h3, hst]
    simp only [List.drop_succ_cons, List.drop_zero]
    have hj := pth_step hok.1 hw q3
    rw [List.append_assoc]; congr 1
    rw [hj]; split <;> rfl
def sumDnL : Sum Try.prog := ⟨34, fun args => args = [.agg (Doc.enc (dDoc (args.getD 0 .any))), vi ((args.getD 1 .any).int), .fn 35 []] ∧ kD (dDoc (args.getD 0 .any)) ((args.getD 1 .any).int), fun args => ints (pth (dDoc (args.getD 0 .any)) wL (((args.getD 1 .any).int)).toNat), fun args h => by
  have := (by have h1 := h.2; have h2 := fdownL_ok (dDoc (args.getD 0 .any)) (((args.getD 1 .any).int)).toNat h1.1 (by have := h1.2.1; have := h1.2.2.1; omega) h1.2.2.2; rw [Int.toNat_of_nonneg h1.2.1] at h2; exact h2 : PCall Try.prog 34 [.agg (Doc.enc (dDoc (args.getD 0 .any))), vi ((args.getD 1 .any).int), .fn 35 []] (ints (pth (dDoc (args.getD 0 .any)) wL (((args.getD 1 .any).int)).toNat))); rwa [← h.1] at this, false⟩
theorem sumDnL_f : sumDnL.f = 34 := rfl
theorem sumDnL_D (args : List V) : sumDnL.D args = (args = [.agg (Doc.enc (dDoc (args.getD 0 .any))), vi ((args.getD 1 .any).int), .fn 35 []] ∧ kD (dDoc (args.getD 0 .any)) ((args.getD 1 .any).int)) := rfl
theorem sumDnL_flat : sumDnL.flat = false := rfl
theorem sumDnL_r (args : List V) : sumDnL.r args = ints (pth (dDoc (args.getD 0 .any)) wL (((args.getD 1 .any).int)).toNat) := rfl
/-- Down by first children, or by last ones. -/
def sumDn : Sum Try.prog := ⟨34, fun args => (args = [.agg (Doc.enc (dDoc (args.getD 0 .any))), vi ((args.getD 1 .any).int), .fn 36 []] ∨ args = [.agg (Doc.enc (dDoc (args.getD 0 .any))), vi ((args.getD 1 .any).int), .fn 35 []]) ∧ kD (dDoc (args.getD 0 .any)) ((args.getD 1 .any).int),
  fun args => ints (pth (dDoc (args.getD 0 .any)) (if (args.getD 2 .any).fnId = 36 then wF else wL) ((args.getD 1 .any).int).toNat), fun args h => by
  obtain ⟨h1 | h1, h2⟩ := h
  · have e : (args.getD 2 .any).fnId = 36 := by rw [h1]; rfl
    rw [if_pos e]; exact sumDnF.ok args ⟨h1, h2⟩
  · have e : ¬ (args.getD 2 .any).fnId = 36 := by rw [h1]; simp [V.fnId]
    rw [if_neg e]; exact sumDnL.ok args ⟨h1, h2⟩, false⟩
theorem sumDn_f : sumDn.f = 34 := rfl
theorem sumDn_D (args : List V) : sumDn.D args = ((args = [.agg (Doc.enc (dDoc (args.getD 0 .any))), vi ((args.getD 1 .any).int), .fn 36 []] ∨ args = [.agg (Doc.enc (dDoc (args.getD 0 .any))), vi ((args.getD 1 .any).int), .fn 35 []]) ∧ kD (dDoc (args.getD 0 .any)) ((args.getD 1 .any).int)) := rfl
theorem sumDn_flat : sumDn.flat = false := rfl
theorem sumDn_r (args : List V) : sumDn.r args = ints (pth (dDoc (args.getD 0 .any)) (if (args.getD 2 .any).fnId = 36 then wF else wL) ((args.getD 1 .any).int).toNat) := rfl
theorem backw_ok (l : List Int) : PCall Try.prog 33 [ints l] (.fn 60 [.pp [ints l]]) := by
  refine PCall.of (Orc.nil _) c33_ok (by simp [c33]) fun w0 own0 => ?_
  simp only [c33, ints, res10_slc, go_sem, wpR_gcall, reduceCtorEq, reduceIte, Nat.reduceEqDiff, Nat.reduceAdd, Nat.reduceSub, Nat.reduceMul, Nat.reduceLT, Nat.reduceLeDiff, Nat.reduceBEq, Int.reduceEq, Int.reduceLT, Int.reduceLE, Int.reduceAdd, Int.reduceSub, Int.reduceNeg, Int.reduceToNat]
def sumBack : Sum Try.prog := ⟨33, fun args => args = [ints (dInts (args.getD 0 .any))], fun args => .fn 60 [.pp [ints (dInts (args.getD 0 .any))]], fun args h => by
  have := backw_ok (dInts (args.getD 0 .any))
  generalize ints (dInts (args.getD 0 .any)) = z at *
  subst h; exact this, false⟩
theorem sumBack_f : sumBack.f = 33 := rfl
theorem sumBack_D (args : List V) : sumBack.D args = (args = [ints (dInts (args.getD 0 .any))]) := rfl
theorem sumBack_flat : sumBack.flat = false := rfl
theorem sumBack_r (args : List V) : sumBack.r args = .fn 60 [.pp [ints (dInts (args.getD 0 .any))]] := rfl
/-- What several breaks come to. -/
def joinS (out n : Int) : Int := if n = 3 ∨ n = 4 then n else if (0 ≤ n ∧ n ≤ 4) ∧ out < 3 then max out n else out
def joinT (l : List Int) : Int := l.foldl joinS 0
theorem joinT_snoc (l : List Int) (x : Int) : joinT (l ++ [x]) = joinS (joinT l) x := by unfold joinT; rw [List.foldl_append]; rfl
theorem joinT_lo (l : List Int) : 0 ≤ joinT l ∧ joinT l ≤ 4 := by
  have : ∀ (l : List Int) (a : Int), 0 ≤ a ∧ a ≤ 4 → 0 ≤ l.foldl joinS a ∧ l.foldl joinS a ≤ 4 := by
    intro l
    induction l with
    | nil => intro a h; exact h
    | cons x l ih => intro a h; exact ih _ (by unfold joinS; split; omega; split <;> omega)
  exact this l 0 (by omega)
theorem join_ok (l : List Int) (hl : l.length ≤ 1000000) : PCall Try.prog 37 [ints l] (vi (joinT l)) := by
  refine PCall.of (Orc.cons sumPlain (Orc.nil _)) c37_ok (by simp [c37]) fun w0 own0 => ?_
  simp only [c37, ints, sumPlain_f, sumPlain_D, sumPlain_flat, sumPlain_r, go_sem, wpR_gcall, reduceCtorEq, reduceIte, Nat.reduceEqDiff, Nat.reduceAdd, Nat.reduceSub, Nat.reduceMul, Nat.reduceLT, Nat.reduceLeDiff, Nat.reduceBEq, Int.reduceEq, Int.reduceLT, Int.reduceLE, Int.reduceAdd, Int.reduceSub, Int.reduceNeg, Int.reduceToNat]
  refine SemC.lp (α := Nat) (fun k => [(3, vi (joinT (l.take k))), (6, .slc 1 (l.map fun n => [vi n])), (7, vi l.length), (8, vi k)]) (fun _ => ⟨[], 0⟩)
    (fun k => k ≤ l.length) (fun k => l.length - k) 0 (Nat.zero_le _) (St.mk (by simp [Agrees, upd_at, initE_at, joinT])) fun k hk => ?_
  by_cases hkl : k = l.length
  · subst hkl
    simp only [Int.lt_irrefl, List.take_length, go_sem, wpR_gcall, reduceCtorEq, reduceIte, Nat.reduceEqDiff, Nat.reduceAdd, Nat.reduceSub, Nat.reduceMul, Nat.reduceLT, Nat.reduceLeDiff, Nat.reduceBEq, Int.reduceEq, Int.reduceLT, Int.reduceLE, Int.reduceAdd, Int.reduceSub, Int.reduceNeg, Int.reduceToNat]
  · have e1 : (k : Int) < (l.length : Int) := by omega
    have e2 : l.take (k + 1) = l.take k ++ [l.getD k 0] := take_snoc l k (by omega)
    have e3 : joinT (l.take (k + 1)) = joinS (joinT (l.take k)) (l.getD k 0) := by rw [e2, joinT_snoc]
    simp only [e1, sumPlain_f, sumPlain_D, sumPlain_flat, sumPlain_r, go_sem, wpR_gcall, reduceCtorEq, reduceIte, Nat.reduceEqDiff, Nat.reduceAdd, Nat.reduceSub, Nat.reduceMul, Nat.reduceLT, Nat.reduceLeDiff, Nat.reduceBEq, Int.reduceEq, Int.reduceLT, Int.reduceLE, Int.reduceAdd, Int.reduceSub, Int.reduceNeg, Int.reduceToNat]
    unfold joinS at e3
    exact ⟨by omega, by omega, fun h => ⟨by omega, k + 1, by omega, by omega, by rw [e3, if_pos h], by omega⟩,
      fun h => ⟨fun h2 => ⟨by omega, k + 1, by omega, by omega, by rw [e3, if_neg (by omega), if_pos h2], by omega⟩, fun h2 => ⟨by omega, k + 1, by omega, by omega, by rw [e3, if_neg (by omega), if_neg (by omega)], by omega⟩⟩⟩
def sumJoin : Sum Try.prog := ⟨37, fun args => args = [ints (dInts (args.getD 0 .any))] ∧ ((dInts (args.getD 0 .any))).length ≤ 1000000, fun args => vi (joinT (dInts (args.getD 0 .any))), fun args h => by
  have := join_ok (dInts (args.getD 0 .any)) h.2; rwa [← h.1] at this, true⟩
theorem sumJoin_f : sumJoin.f = 37 := rfl
theorem sumJoin_D (args : List V) : sumJoin.D args = (args = [ints (dInts (args.getD 0 .any))] ∧ ((dInts (args.getD 0 .any))).length ≤ 1000000) := rfl
theorem sumJoin_flat : sumJoin.flat = true := rfl
theorem sumJoin_r (args : List V) : sumJoin.r args = vi (joinT (dInts (args.getD 0 .any))) := rfl
end Go.Proofs.Ytdcdhnohbadenaa
