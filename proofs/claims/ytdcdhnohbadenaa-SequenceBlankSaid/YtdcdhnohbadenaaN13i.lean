/- Children in flow of any node, siblings, points. -/
import Derived.Test.YtdcdhnohbadenaaN13h
namespace Go.Proofs.Ytdcdhnohbadenaa
open Go.Sx
set_option linter.unusedSimpArgs false
set_option maxHeartbeats 4000000
set_option maxRecDepth 20000

theorem thV_okL {d : Doc} {k : Int} (hl : d.l.length ≤ 1000) (h : thV d k = true) : okL d ∧ ∃ m : Nat, k = m ∧ m < d.l.length ∧ isN d m = true := by
  unfold thV at h; rw [Bool.and_eq_true, thB_iff] at h
  exact ⟨⟨rightB_ok h.1, hl⟩, h.2⟩
theorem thV_at {d : Doc} (hr : rightB d = true) {k : Nat} (hk : k < d.l.length) : thV d k = isN d k := by
  unfold thV; rw [hr, thB_at hk]; rfl
def kdV (d : Doc) (k : Int) : List Int := if thV d k = true then kids d k.toNat else []
theorem kidsL (d : Doc) (k : Nat) : (kids d k).length ≤ d.l.length := selTo_len _ _
theorem Kids_ok (d : Doc) (k : Int) (hl : d.l.length ≤ 1000) : PCall Try.prog 65 [.agg d.enc, vi k] (ints (kdV d k)) := by
  by_cases ht : thV d k = true
  · obtain ⟨hok, m, rfl, hm, hi⟩ := thV_okL hl ht
    refine PCall.of (Orc.cons sumThereT (Orc.cons sumKids (Orc.nil _))) c65_ok (by simp [c65]) fun w0 own0 => ?_
    simp only [c65, Doc.enc, dDoc_mk, Doc.eta, ints, hl, ht, kdV, hok, sumThereT_f, sumThereT_D, sumThereT_flat, sumThereT_r, sumKids_f, sumKids_D, sumKids_flat, sumKids_r, go_sem, wpR_gcall, reduceCtorEq, reduceIte, Nat.reduceEqDiff, Nat.reduceAdd, Nat.reduceSub, Nat.reduceMul, Nat.reduceLT, Nat.reduceLeDiff, Nat.reduceBEq, Int.reduceEq, Int.reduceLT, Int.reduceLE, Int.reduceAdd, Int.reduceSub, Int.reduceNeg, Int.reduceToNat]
    exact ⟨by omega, by omega⟩
  · refine PCall.rs 1 (r := vnil) ?_ (by unfold kdV; rw [if_neg ht]; simp [Sub, ints])
    refine PCall.of (Orc.cons sumThereT (Orc.cons sumKids (Orc.nil _))) c65_ok (by simp [c65]) fun w0 own0 => ?_
    simp only [c65, Doc.enc, dDoc_mk, Doc.eta, ints, hl, ht, sumThereT_f, sumThereT_D, sumThereT_flat, sumThereT_r, sumKids_f, sumKids_D, sumKids_flat, sumKids_r, go_sem, wpR_gcall, reduceCtorEq, reduceIte, Nat.reduceEqDiff, Nat.reduceAdd, Nat.reduceSub, Nat.reduceMul, Nat.reduceLT, Nat.reduceLeDiff, Nat.reduceBEq, Int.reduceEq, Int.reduceLT, Int.reduceLE, Int.reduceAdd, Int.reduceSub, Int.reduceNeg, Int.reduceToNat]
def sumKidsA : Sum Try.prog := ⟨65, fun args => args = [.agg (Doc.enc (dDoc (args.getD 0 .any))), vi ((args.getD 1 .any).int)] ∧ ((dDoc (args.getD 0 .any))).l.length ≤ 1000, fun args => ints (kdV (dDoc (args.getD 0 .any)) ((args.getD 1 .any).int)), fun args h => by
  have := Kids_ok (dDoc (args.getD 0 .any)) ((args.getD 1 .any).int) h.2; rwa [← h.1] at this, false⟩
theorem sumKidsA_f : sumKidsA.f = 65 := rfl
theorem sumKidsA_D (args : List V) : sumKidsA.D args = (args = [.agg (Doc.enc (dDoc (args.getD 0 .any))), vi ((args.getD 1 .any).int)] ∧ ((dDoc (args.getD 0 .any))).l.length ≤ 1000) := rfl
theorem sumKidsA_flat : sumKidsA.flat = false := rfl
theorem sumKidsA_r (args : List V) : sumKidsA.r args = ints (kdV (dDoc (args.getD 0 .any)) ((args.getD 1 .any).int)) := rfl
theorem older_plain {d : Doc} (h : okD d) {k : Nat} (h0 : 0 < k) (hk : k < d.l.length) (hi : isN d k = true) :
    ixI (kids d (up d k)) k = (selTo (kidP d (up d k)) k).length ∧ ((selTo (kidP d (up d k)) k).length = 0 → oldN d k = -1) ∧
    (0 < (selTo (kidP d (up d k)) k).length → (kids d (up d k)).getD ((selTo (kidP d (up d k)) k).length - 1) 0 = oldN d k ∧ 0 ≤ oldN d k) ∧ (selTo (kidP d (up d k)) k).length < (kids d (up d k)).length := by
  have hu := h.up h0 hk
  have hp : kidP d (up d k) k = true := by
    unfold kidP kidB; rw [isN_run h hk hi, hu.1]; simp
  have e : oldN d k = lastSel (kidP d (up d k)) k := by unfold oldN; rw [if_neg (by omega)]
  refine ⟨ix_sel hp hk, fun hz => ?_, fun hz => ?_, ?_⟩
  · rcases selTo_last (kidP d (up d k)) k with ⟨_, h2⟩ | ⟨m, a, _⟩
    · rw [e, h2]
    · omega
  · rcases selTo_last (kidP d (up d k)) k with ⟨a, _⟩ | ⟨m, a, b, c, _⟩
    · rw [a] at hz; simp at hz
    · unfold kids
      rw [getD_sel hp hk (by omega), b, e, c]; exact ⟨rfl, by omega⟩
  · obtain ⟨r, hr⟩ := selTo_app hp hk
    unfold kids; rw [hr]; simp
theorem older_ok (d : Doc) (k : Nat) (h : okL d) (hk : k < d.l.length) (hi : isN d k = true) : PCall Try.prog 32 [.agg d.enc, vi k] (vi (oldN d k)) := by
  refine PCall.of (Orc.cons sumKids (Orc.cons sumIxI (Orc.nil _))) c32_ok (by simp [c32]) fun w0 own0 => ?_
  have hl := h.2
  by_cases h0 : k = 0
  · subst h0
    simp only [c32, Doc.enc, go_sem, wpR_gcall, reduceCtorEq, reduceIte, Nat.reduceEqDiff, Nat.reduceAdd, Nat.reduceSub, Nat.reduceMul, Nat.reduceLT, Nat.reduceLeDiff, Nat.reduceBEq, Int.reduceEq, Int.reduceLT, Int.reduceLE, Int.reduceAdd, Int.reduceSub, Int.reduceNeg, Int.reduceToNat]
    rfl
  · have hu := h.1.up (by omega : 0 < k) hk
    obtain ⟨p1, p2, p3, p4⟩ := older_plain h.1 (by omega : 0 < k) hk hi
    have hkl := kidsL d (up d k)
    have hpar : (d.l.getD k .zero).parent = (up d k : Int) := hu.1
    have e1 : ¬ (k : Int) = 0 := by omega
    have e2 : (up d k : Int) < (d.l.length : Int) := by omega
    have e3 : (k : Int) < (d.l.length : Int) := by omega
    simp only [c32, Doc.enc, dDoc_mk, Doc.eta, nodeAt, hpar, ints, h, e1, e2, e3, p1, sumKids_f, sumKids_D, sumKids_flat, sumKids_r, sumIxI_f, sumIxI_D, sumIxI_flat, sumIxI_r, go_sem, wpR_gcall, reduceCtorEq, reduceIte, Nat.reduceEqDiff, Nat.reduceAdd, Nat.reduceSub, Nat.reduceMul, Nat.reduceLT, Nat.reduceLeDiff, Nat.reduceBEq, Int.reduceEq, Int.reduceLT, Int.reduceLE, Int.reduceAdd, Int.reduceSub, Int.reduceNeg, Int.reduceToNat]
    refine ⟨by omega, by omega, by omega, fun hz => (p2 (by omega)).symm, fun hz => ⟨by omega, by omega, ?_⟩⟩
    rw [show (((selTo (kidP d (up d k)) k).length : Int) - 1).toNat = (selTo (kidP d (up d k)) k).length - 1 by omega]
    exact (p3 (by omega)).1
def sumOlder : Sum Try.prog := ⟨32, fun args => args = [.agg (Doc.enc (dDoc (args.getD 0 .any))), vi ((args.getD 1 .any).int)] ∧ kD (dDoc (args.getD 0 .any)) ((args.getD 1 .any).int), fun args => vi (oldN (dDoc (args.getD 0 .any)) (((args.getD 1 .any).int)).toNat), fun args h => by
  have := (by have h1 := h.2; have h2 := older_ok (dDoc (args.getD 0 .any)) (((args.getD 1 .any).int)).toNat h1.1 (by have := h1.2.1; have := h1.2.2.1; omega) h1.2.2.2; rw [Int.toNat_of_nonneg h1.2.1] at h2; exact h2 : PCall Try.prog 32 [.agg (Doc.enc (dDoc (args.getD 0 .any))), vi ((args.getD 1 .any).int)] (vi (oldN (dDoc (args.getD 0 .any)) (((args.getD 1 .any).int)).toNat))); rwa [← h.1] at this, true⟩
theorem sumOlder_f : sumOlder.f = 32 := rfl
theorem sumOlder_D (args : List V) : sumOlder.D args = (args = [.agg (Doc.enc (dDoc (args.getD 0 .any))), vi ((args.getD 1 .any).int)] ∧ kD (dDoc (args.getD 0 .any)) ((args.getD 1 .any).int)) := rfl
theorem sumOlder_flat : sumOlder.flat = true := rfl
theorem sumOlder_r (args : List V) : sumOlder.r args = vi (oldN (dDoc (args.getD 0 .any)) (((args.getD 1 .any).int)).toNat) := rfl
def ptV (d : Doc) (k : Int) : Bool := thV d k && decide (0 ≤ oldN d k.toNat)
theorem point_ok (d : Doc) (k : Int) (hl : d.l.length ≤ 1000) : PCall Try.prog 63 [.agg d.enc, vi k] (vb (ptV d k)) := by
  refine PCall.of (Orc.cons sumThereT (Orc.cons sumOlder (Orc.nil _))) c63_ok (by simp [c63]) fun w0 own0 => ?_
  by_cases ht : thV d k = true
  · obtain ⟨hok, m, rfl, hm, hi⟩ := thV_okL hl ht
    have hkd : kD d m := ⟨hok, by omega, by omega, by rw [Int.toNat_natCast]; exact hi⟩
    simp only [c63, Doc.enc, dDoc_mk, Doc.eta, hl, ht, hkd, ptV, on_gcall, off_gcall, flat_gcall, sumThereT_f, sumThereT_D, sumThereT_flat, sumThereT_r, sumOlder_f, sumOlder_D, sumOlder_flat, sumOlder_r, go_sem, reduceCtorEq, reduceIte, Nat.reduceEqDiff, Nat.reduceAdd, Nat.reduceSub, Nat.reduceMul, Nat.reduceLT, Nat.reduceLeDiff, Nat.reduceBEq, Int.reduceEq, Int.reduceLT, Int.reduceLE, Int.reduceAdd, Int.reduceSub, Int.reduceNeg, Int.reduceToNat]
  · simp only [c63, Doc.enc, dDoc_mk, Doc.eta, hl, ht, ptV, on_gcall, off_gcall, flat_gcall, sumThereT_f, sumThereT_D, sumThereT_flat, sumThereT_r, sumOlder_f, sumOlder_D, sumOlder_flat, sumOlder_r, go_sem, reduceCtorEq, reduceIte, Nat.reduceEqDiff, Nat.reduceAdd, Nat.reduceSub, Nat.reduceMul, Nat.reduceLT, Nat.reduceLeDiff, Nat.reduceBEq, Int.reduceEq, Int.reduceLT, Int.reduceLE, Int.reduceAdd, Int.reduceSub, Int.reduceNeg, Int.reduceToNat]
def sumPoint : Sum Try.prog := ⟨63, fun args => args = [.agg (Doc.enc (dDoc (args.getD 0 .any))), vi ((args.getD 1 .any).int)] ∧ ((dDoc (args.getD 0 .any))).l.length ≤ 1000, fun args => vb (ptV (dDoc (args.getD 0 .any)) ((args.getD 1 .any).int)), fun args h => by
  have := point_ok (dDoc (args.getD 0 .any)) ((args.getD 1 .any).int) h.2; rwa [← h.1] at this, true⟩
theorem sumPoint_f : sumPoint.f = 63 := rfl
theorem sumPoint_D (args : List V) : sumPoint.D args = (args = [.agg (Doc.enc (dDoc (args.getD 0 .any))), vi ((args.getD 1 .any).int)] ∧ ((dDoc (args.getD 0 .any))).l.length ≤ 1000) := rfl
theorem sumPoint_flat : sumPoint.flat = true := rfl
theorem sumPoint_r (args : List V) : sumPoint.r args = vb (ptV (dDoc (args.getD 0 .any)) ((args.getD 1 .any).int)) := rfl
end Go.Proofs.Ytdcdhnohbadenaa
