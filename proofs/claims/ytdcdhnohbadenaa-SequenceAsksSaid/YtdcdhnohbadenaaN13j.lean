/- Names. -/
import Derived.Test.YtdcdhnohbadenaaN13i
namespace Go.Proofs.Ytdcdhnohbadenaa
open Go.Sx
set_option linter.unusedSimpArgs false
set_option maxHeartbeats 4000000
set_option maxRecDepth 20000

theorem thereN_ok (d : Doc) (k : Int) (hl : d.l.length ≤ 1000) : PCall Try.prog 77 [.agg d.enc, vi k] (vb (thV d k)) := by
  refine PCall.of (Orc.cons sumInA (Orc.cons sumConI (Orc.nil _))) c77_ok (by simp [c77]) fun w0 own0 => ?_
  have := inV_len d
  simp only [c77, Doc.enc, dDoc_mk, Doc.eta, ints, hl, thV_in, sumInA_f, sumInA_D, sumInA_flat, sumInA_r, sumConI_f, sumConI_D, sumConI_flat, sumConI_r, go_sem, wpR_gcall, reduceCtorEq, reduceIte, Nat.reduceEqDiff, Nat.reduceAdd, Nat.reduceSub, Nat.reduceMul, Nat.reduceLT, Nat.reduceLeDiff, Nat.reduceBEq, Int.reduceEq, Int.reduceLT, Int.reduceLE, Int.reduceAdd, Int.reduceSub, Int.reduceNeg, Int.reduceToNat]
  omega
def sumThereN : Sum Try.prog := ⟨77, fun args => args = [.agg (Doc.enc (dDoc (args.getD 0 .any))), vi ((args.getD 1 .any).int)] ∧ ((dDoc (args.getD 0 .any))).l.length ≤ 1000, fun args => vb (thV (dDoc (args.getD 0 .any)) ((args.getD 1 .any).int)), fun args h => by
  have := thereN_ok (dDoc (args.getD 0 .any)) ((args.getD 1 .any).int) h.2; rwa [← h.1] at this, true⟩
theorem sumThereN_f : sumThereN.f = 77 := rfl
theorem sumThereN_D (args : List V) : sumThereN.D args = (args = [.agg (Doc.enc (dDoc (args.getD 0 .any))), vi ((args.getD 1 .any).int)] ∧ ((dDoc (args.getD 0 .any))).l.length ≤ 1000) := rfl
theorem sumThereN_flat : sumThereN.flat = true := rfl
theorem sumThereN_r (args : List V) : sumThereN.r args = vb (thV (dDoc (args.getD 0 .any)) ((args.getD 1 .any).int)) := rfl
def usedV (d : Doc) (k : Int) : ByteArray := if thV d k = true then usedN d k.toNat else ⟨#[]⟩
theorem used_ok (d : Doc) (k : Int) (hl : d.l.length ≤ 1000) : PCall Try.prog 78 [.agg d.enc, vi k] (vs (usedV d k)) := by
  refine PCall.of (Orc.cons sumThereN (Orc.nil _)) c78_ok (by simp [c78]) fun w0 own0 => ?_
  simp only [c78, Doc.enc, go_sem, wpR_gcall, reduceCtorEq, reduceIte, Nat.reduceEqDiff, Nat.reduceAdd, Nat.reduceSub, Nat.reduceMul, Nat.reduceLT, Nat.reduceLeDiff, Nat.reduceBEq, Int.reduceEq, Int.reduceLT, Int.reduceLE, Int.reduceAdd, Int.reduceSub, Int.reduceNeg, Int.reduceToNat]
  refine SemC.lab (α := Nat) 0 (fun a => [(1, vi a), (2, .ptr 0 0 0 0)]) (fun _ => ⟨[⟨0, 5, [d.enc], false, []⟩], 1⟩)
    (fun a => thV d k = true ∧ a < d.l.length ∧ usedN d a = usedV d k) (fun a => a) rfl ?_ fun a ha => ?_
  · by_cases ht : thV d k = true
    · obtain ⟨hok, m, rfl, hm, hi⟩ := thV_okL hl ht
      simp only [Doc.enc, dDoc_mk, Doc.eta, hl, ht, sumThereN_f, sumThereN_D, sumThereN_flat, sumThereN_r, go_sem, wpR_gcall, reduceCtorEq, reduceIte, Nat.reduceEqDiff, Nat.reduceAdd, Nat.reduceSub, Nat.reduceMul, Nat.reduceLT, Nat.reduceLeDiff, Nat.reduceBEq, Int.reduceEq, Int.reduceLT, Int.reduceLE, Int.reduceAdd, Int.reduceSub, Int.reduceNeg, Int.reduceToNat]
      exact ⟨m, ⟨hm, by unfold usedV; rw [if_pos ht, Int.toNat_natCast]⟩, St.mk (by simp [Agrees, upd_at, initE_at, Doc.enc])⟩
    · have e : usedV d k = ⟨#[]⟩ := by unfold usedV; rw [if_neg ht]
      simp only [Doc.enc, dDoc_mk, Doc.eta, hl, ht, e, sumThereN_f, sumThereN_D, sumThereN_flat, sumThereN_r, go_sem, wpR_gcall, reduceCtorEq, reduceIte, Nat.reduceEqDiff, Nat.reduceAdd, Nat.reduceSub, Nat.reduceMul, Nat.reduceLT, Nat.reduceLeDiff, Nat.reduceBEq, Int.reduceEq, Int.reduceLT, Int.reduceLE, Int.reduceAdd, Int.reduceSub, Int.reduceNeg, Int.reduceToNat]
  · obtain ⟨ht, h1, h2⟩ := ha
    obtain ⟨hok, _⟩ := thV_okL hl ht
    have hst := usedN_step hok.1 h1
    have hpar : (d.l.getD a .zero).parent = par d.l a := rfl
    have hpg : d.page.getD a ⟨#[]⟩ = pageS d a := rfl
    simp only [Doc.enc, nodeAt, getD_strs, hpar, hpg, hok.page, go_sem, wpR_gcall, reduceCtorEq, reduceIte, Nat.reduceEqDiff, Nat.reduceAdd, Nat.reduceSub, Nat.reduceMul, Nat.reduceLT, Nat.reduceLeDiff, Nat.reduceBEq, Int.reduceEq, Int.reduceLT, Int.reduceLE, Int.reduceAdd, Int.reduceSub, Int.reduceNeg, Int.reduceToNat]
    refine ⟨by omega, fun h => ⟨by omega, up d a, ⟨ht, ?_, ?_⟩, ?_, ?_⟩, fun h => ⟨by omega, ?_⟩⟩
    · have := (hok.1.up (by omega : 0 < a) h1).2; omega
    · rw [← h2, hst, if_pos ⟨h.1, by omega⟩]
    · exact (hok.1.up (by omega : 0 < a) h1).2
    · exact (hok.1.up (by omega : 0 < a) h1).1
    · rw [← h2, hst, if_neg]; rintro ⟨a1, a2⟩
      rcases h with h | h
      · exact h a1
      · omega
def sumUsed : Sum Try.prog := ⟨78, fun args => args = [.agg (Doc.enc (dDoc (args.getD 0 .any))), vi ((args.getD 1 .any).int)] ∧ ((dDoc (args.getD 0 .any))).l.length ≤ 1000, fun args => vs (usedV (dDoc (args.getD 0 .any)) ((args.getD 1 .any).int)), fun args h => by
  have := used_ok (dDoc (args.getD 0 .any)) ((args.getD 1 .any).int) h.2; rwa [← h.1] at this, true⟩
theorem sumUsed_f : sumUsed.f = 78 := rfl
theorem sumUsed_D (args : List V) : sumUsed.D args = (args = [.agg (Doc.enc (dDoc (args.getD 0 .any))), vi ((args.getD 1 .any).int)] ∧ ((dDoc (args.getD 0 .any))).l.length ≤ 1000) := rfl
theorem sumUsed_flat : sumUsed.flat = true := rfl
theorem sumUsed_r (args : List V) : sumUsed.r args = vs (usedV (dDoc (args.getD 0 .any)) ((args.getD 1 .any).int)) := rfl
theorem wFc_ok (l : List Int) (h0 : l ≠ []) : PCall Try.prog 68 [ints l] (vi (wF l)) := by
  refine PCall.of (Orc.nil _) c68_ok (by simp [c68]) fun w0 own0 => ?_
  have := List.length_pos_iff.2 h0
  simp only [c68, ints, wF, go_sem, wpR_gcall, reduceCtorEq, reduceIte, Nat.reduceEqDiff, Nat.reduceAdd, Nat.reduceSub, Nat.reduceMul, Nat.reduceLT, Nat.reduceLeDiff, Nat.reduceBEq, Int.reduceEq, Int.reduceLT, Int.reduceLE, Int.reduceAdd, Int.reduceSub, Int.reduceNeg, Int.reduceToNat]
  omega
theorem wLc_ok (l : List Int) (h0 : l ≠ []) (hl : l.length ≤ 1000000) : PCall Try.prog 76 [ints l] (vi (wL l)) := by
  refine PCall.of (Orc.nil _) c76_ok (by simp [c76]) fun w0 own0 => ?_
  have := List.length_pos_iff.2 h0
  simp only [c76, ints, wL, go_sem, wpR_gcall, reduceCtorEq, reduceIte, Nat.reduceEqDiff, Nat.reduceAdd, Nat.reduceSub, Nat.reduceMul, Nat.reduceLT, Nat.reduceLeDiff, Nat.reduceBEq, Int.reduceEq, Int.reduceLT, Int.reduceLE, Int.reduceAdd, Int.reduceSub, Int.reduceNeg, Int.reduceToNat]
  refine ⟨by omega, by omega, ?_⟩
  rw [show ((l.length : Int) - 1).toNat = l.length - 1 by omega]
def sumWF : Sum Try.prog := ⟨68, fun args => args = [ints (dInts (args.getD 0 .any))] ∧ (dInts (args.getD 0 .any)) ≠ [], fun args => vi (wF (dInts (args.getD 0 .any))), fun args h => by
  have := wFc_ok (dInts (args.getD 0 .any)) h.2; rwa [← h.1] at this, true⟩
theorem sumWF_f : sumWF.f = 68 := rfl
theorem sumWF_D (args : List V) : sumWF.D args = (args = [ints (dInts (args.getD 0 .any))] ∧ (dInts (args.getD 0 .any)) ≠ []) := rfl
theorem sumWF_flat : sumWF.flat = true := rfl
theorem sumWF_r (args : List V) : sumWF.r args = vi (wF (dInts (args.getD 0 .any))) := rfl
def sumWL : Sum Try.prog := ⟨76, fun args => args = [ints (dInts (args.getD 0 .any))] ∧ (dInts (args.getD 0 .any)) ≠ [] ∧ ((dInts (args.getD 0 .any))).length ≤ 1000000, fun args => vi (wL (dInts (args.getD 0 .any))), fun args h => by
  have := wLc_ok (dInts (args.getD 0 .any)) h.2.1 h.2.2; rwa [← h.1] at this, true⟩
theorem sumWL_f : sumWL.f = 76 := rfl
theorem sumWL_D (args : List V) : sumWL.D args = (args = [ints (dInts (args.getD 0 .any))] ∧ (dInts (args.getD 0 .any)) ≠ [] ∧ ((dInts (args.getD 0 .any))).length ≤ 1000000) := rfl
theorem sumWL_flat : sumWL.flat = true := rfl
theorem sumWL_r (args : List V) : sumWL.r args = vi (wL (dInts (args.getD 0 .any))) := rfl
def nmF (d : Doc) (k : Int) : ByteArray := if thV d k = true then usedN d (dwN d wF k.toNat) else ⟨#[]⟩
theorem downF_ok (d : Doc) (k : Int) (hl : d.l.length ≤ 1000) : PCall Try.prog 67 [.agg d.enc, vi k, .fn 68 []] (vs (nmF d k)) := by
  refine PCall.of (Orc.cons sumThereN (Orc.cons sumKidsA (Orc.cons sumWF (Orc.cons sumUsed (Orc.nil _))))) c67_ok (by simp [c67]) fun w0 own0 => ?_
  by_cases ht : thV d k = true
  · obtain ⟨hok, m, rfl, hm, hi⟩ := thV_okL hl ht
    have hrt : rightB d = true := by unfold thV at ht; rw [Bool.and_eq_true] at ht; exact ht.1
    simp only [c67, Doc.enc, dDoc_mk, Doc.eta, hl, ht, ints, sumThereN_f, sumThereN_D, sumThereN_flat, sumThereN_r, sumKidsA_f, sumKidsA_D, sumKidsA_flat, sumKidsA_r, sumWF_f, sumWF_D, sumWF_flat, sumWF_r, sumUsed_f, sumUsed_D, sumUsed_flat, sumUsed_r, go_sem, wpR_gcall, reduceCtorEq, reduceIte, Nat.reduceEqDiff, Nat.reduceAdd, Nat.reduceSub, Nat.reduceMul, Nat.reduceLT, Nat.reduceLeDiff, Nat.reduceBEq, Int.reduceEq, Int.reduceLT, Int.reduceLE, Int.reduceAdd, Int.reduceSub, Int.reduceNeg, Int.reduceToNat]
    refine SemC.lp (α := Nat) (fun a => [(1, vi a), (2, .fn 68 []), (3, .ptr 0 0 0 0), (7, .slc 1 ((kdV d a).map fun n => [vi n]))]) (fun _ => ⟨[⟨0, 5, [d.enc], false, []⟩], 1⟩)
      (fun a => a < d.l.length ∧ isN d a = true ∧ dwN d wF a = dwN d wF m) (fun a => d.l.length - a) m ⟨hm, hi, rfl⟩ (St.mk (by simp [Agrees, upd_at, initE_at, Doc.enc])) fun a ha => ?_
    obtain ⟨h1, h2, h3⟩ := ha
    have hta : thV d a = true := by rw [thV_at hrt h1]; exact h2
    have hkd : kdV d a = kids d a := by unfold kdV; rw [if_pos hta, Int.toNat_natCast]
    have hst := dwN_step hok.1 (w := wF) (fun l h => wF_mem h) h1
    have hkl := kidsL d a
    by_cases he : kids d a = []
    · rw [if_pos he] at hst
      have hu : usedV d a = nmF d m := by
        unfold usedV nmF; rw [if_pos hta, if_pos ht, Int.toNat_natCast, Int.toNat_natCast, ← h3, hst]
      simp only [Doc.enc, dDoc_mk, Doc.eta, hkd, he, hl, hu, sumThereN_f, sumThereN_D, sumThereN_flat, sumThereN_r, sumKidsA_f, sumKidsA_D, sumKidsA_flat, sumKidsA_r, sumWF_f, sumWF_D, sumWF_flat, sumWF_r, sumUsed_f, sumUsed_D, sumUsed_flat, sumUsed_r, go_sem, wpR_gcall, reduceCtorEq, reduceIte, Nat.reduceEqDiff, Nat.reduceAdd, Nat.reduceSub, Nat.reduceMul, Nat.reduceLT, Nat.reduceLeDiff, Nat.reduceBEq, Int.reduceEq, Int.reduceLT, Int.reduceLE, Int.reduceAdd, Int.reduceSub, Int.reduceNeg, Int.reduceToNat]
    · rw [if_neg he] at hst
      obtain ⟨j, q1, q2, q3, q4, q5⟩ := kids_mem hok.1 (wF_mem he)
      have hp : (0 : Int) < ((kids d a).length : Int) := by have := List.length_pos_iff.2 he; omega
      have q6 := kids_in hok.1 h2 q3 q5
      have q7 : (wF (kids d a)).toNat = j := by omega
      rw [q7] at hst
      have hle : (kids d a).length ≤ 1000000 := by omega
      simp only [Doc.enc, dDoc_mk, Doc.eta, hkd, hp, hl, q1, ints, he, hle, ne_eq, sumThereN_f, sumThereN_D, sumThereN_flat, sumThereN_r, sumKidsA_f, sumKidsA_D, sumKidsA_flat, sumKidsA_r, sumWF_f, sumWF_D, sumWF_flat, sumWF_r, sumUsed_f, sumUsed_D, sumUsed_flat, sumUsed_r, go_sem, wpR_gcall, reduceCtorEq, reduceIte, Nat.reduceEqDiff, Nat.reduceAdd, Nat.reduceSub, Nat.reduceMul, Nat.reduceLT, Nat.reduceLeDiff, Nat.reduceBEq, Int.reduceEq, Int.reduceLT, Int.reduceLE, Int.reduceAdd, Int.reduceSub, Int.reduceNeg, Int.reduceToNat]
      exact ⟨j, ⟨q3, q6, by rw [← hst, h3]⟩, by omega, rfl, rfl⟩
  · have e : nmF d k = ⟨#[]⟩ := by unfold nmF; rw [if_neg ht]
    simp only [c67, Doc.enc, dDoc_mk, Doc.eta, hl, ht, e, ints, sumThereN_f, sumThereN_D, sumThereN_flat, sumThereN_r, sumKidsA_f, sumKidsA_D, sumKidsA_flat, sumKidsA_r, sumWF_f, sumWF_D, sumWF_flat, sumWF_r, sumUsed_f, sumUsed_D, sumUsed_flat, sumUsed_r, go_sem, wpR_gcall, reduceCtorEq, reduceIte, Nat.reduceEqDiff, Nat.reduceAdd, Nat.reduceSub, Nat.reduceMul, Nat.reduceLT, Nat.reduceLeDiff, Nat.reduceBEq, Int.reduceEq, Int.reduceLT, Int.reduceLE, Int.reduceAdd, Int.reduceSub, Int.reduceNeg, Int.reduceToNat]
def sumDownF : Sum Try.prog := ⟨67, fun args => args = [.agg (Doc.enc (dDoc (args.getD 0 .any))), vi ((args.getD 1 .any).int), .fn 68 []] ∧ ((dDoc (args.getD 0 .any))).l.length ≤ 1000, fun args => vs (nmF (dDoc (args.getD 0 .any)) ((args.getD 1 .any).int)), fun args h => by
  have := downF_ok (dDoc (args.getD 0 .any)) ((args.getD 1 .any).int) h.2; rwa [← h.1] at this, true⟩
theorem sumDownF_f : sumDownF.f = 67 := rfl
theorem sumDownF_D (args : List V) : sumDownF.D args = (args = [.agg (Doc.enc (dDoc (args.getD 0 .any))), vi ((args.getD 1 .any).int), .fn 68 []] ∧ ((dDoc (args.getD 0 .any))).l.length ≤ 1000) := rfl
theorem sumDownF_flat : sumDownF.flat = true := rfl
theorem sumDownF_r (args : List V) : sumDownF.r args = vs (nmF (dDoc (args.getD 0 .any)) ((args.getD 1 .any).int)) := rfl
theorem Begins_ok (d : Doc) (k : Int) (hl : d.l.length ≤ 1000) : PCall Try.prog 48 [.agg d.enc, vi k] (vs (nmF d k)) := by
  refine PCall.of (Orc.cons sumDownF (Orc.nil _)) c48_ok (by simp [c48]) fun w0 own0 => ?_
  simp only [c48, Doc.enc, dDoc_mk, Doc.eta, hl, sumDownF_f, sumDownF_D, sumDownF_flat, sumDownF_r, go_sem, wpR_gcall, reduceCtorEq, reduceIte, Nat.reduceEqDiff, Nat.reduceAdd, Nat.reduceSub, Nat.reduceMul, Nat.reduceLT, Nat.reduceLeDiff, Nat.reduceBEq, Int.reduceEq, Int.reduceLT, Int.reduceLE, Int.reduceAdd, Int.reduceSub, Int.reduceNeg, Int.reduceToNat]
def sumBegins : Sum Try.prog := ⟨48, fun args => args = [.agg (Doc.enc (dDoc (args.getD 0 .any))), vi ((args.getD 1 .any).int)] ∧ ((dDoc (args.getD 0 .any))).l.length ≤ 1000, fun args => vs (nmF (dDoc (args.getD 0 .any)) ((args.getD 1 .any).int)), fun args h => by
  have := Begins_ok (dDoc (args.getD 0 .any)) ((args.getD 1 .any).int) h.2; rwa [← h.1] at this, true⟩
theorem sumBegins_f : sumBegins.f = 48 := rfl
theorem sumBegins_D (args : List V) : sumBegins.D args = (args = [.agg (Doc.enc (dDoc (args.getD 0 .any))), vi ((args.getD 1 .any).int)] ∧ ((dDoc (args.getD 0 .any))).l.length ≤ 1000) := rfl
theorem sumBegins_flat : sumBegins.flat = true := rfl
theorem sumBegins_r (args : List V) : sumBegins.r args = vs (nmF (dDoc (args.getD 0 .any)) ((args.getD 1 .any).int)) := rfl
def nmL (d : Doc) (k : Int) : ByteArray := if thV d k = true then usedN d (dwN d wL k.toNat) else ⟨#[]⟩
theorem downL_ok (d : Doc) (k : Int) (hl : d.l.length ≤ 1000) : PCall Try.prog 67 [.agg d.enc, vi k, .fn 76 []] (vs (nmL d k)) := by
  refine PCall.of (Orc.cons sumThereN (Orc.cons sumKidsA (Orc.cons sumWL (Orc.cons sumUsed (Orc.nil _))))) c67_ok (by simp [c67]) fun w0 own0 => ?_
  by_cases ht : thV d k = true
  · obtain ⟨hok, m, rfl, hm, hi⟩ := thV_okL hl ht
    have hrt : rightB d = true := by unfold thV at ht; rw [Bool.and_eq_true] at ht; exact ht.1
    simp only [c67, Doc.enc, dDoc_mk, Doc.eta, hl, ht, ints, sumThereN_f, sumThereN_D, sumThereN_flat, sumThereN_r, sumKidsA_f, sumKidsA_D, sumKidsA_flat, sumKidsA_r, sumWL_f, sumWL_D, sumWL_flat, sumWL_r, sumUsed_f, sumUsed_D, sumUsed_flat, sumUsed_r, go_sem, wpR_gcall, reduceCtorEq, reduceIte, Nat.reduceEqDiff, Nat.reduceAdd, Nat.reduceSub, Nat.reduceMul, Nat.reduceLT, Nat.reduceLeDiff, Nat.reduceBEq, Int.reduceEq, Int.reduceLT, Int.reduceLE, Int.reduceAdd, Int.reduceSub, Int.reduceNeg, Int.reduceToNat]
    refine SemC.lp (α := Nat) (fun a => [(1, vi a), (2, .fn 76 []), (3, .ptr 0 0 0 0), (7, .slc 1 ((kdV d a).map fun n => [vi n]))]) (fun _ => ⟨[⟨0, 5, [d.enc], false, []⟩], 1⟩)
      (fun a => a < d.l.length ∧ isN d a = true ∧ dwN d wL a = dwN d wL m) (fun a => d.l.length - a) m ⟨hm, hi, rfl⟩ (St.mk (by simp [Agrees, upd_at, initE_at, Doc.enc])) fun a ha => ?_
    obtain ⟨h1, h2, h3⟩ := ha
    have hta : thV d a = true := by rw [thV_at hrt h1]; exact h2
    have hkd : kdV d a = kids d a := by unfold kdV; rw [if_pos hta, Int.toNat_natCast]
    have hst := dwN_step hok.1 (w := wL) (fun l h => wL_mem h) h1
    have hkl := kidsL d a
    by_cases he : kids d a = []
    · rw [if_pos he] at hst
      have hu : usedV d a = nmL d m := by
        unfold usedV nmL; rw [if_pos hta, if_pos ht, Int.toNat_natCast, Int.toNat_natCast, ← h3, hst]
      simp only [Doc.enc, dDoc_mk, Doc.eta, hkd, he, hl, hu, sumThereN_f, sumThereN_D, sumThereN_flat, sumThereN_r, sumKidsA_f, sumKidsA_D, sumKidsA_flat, sumKidsA_r, sumWL_f, sumWL_D, sumWL_flat, sumWL_r, sumUsed_f, sumUsed_D, sumUsed_flat, sumUsed_r, go_sem, wpR_gcall, reduceCtorEq, reduceIte, Nat.reduceEqDiff, Nat.reduceAdd, Nat.reduceSub, Nat.reduceMul, Nat.reduceLT, Nat.reduceLeDiff, Nat.reduceBEq, Int.reduceEq, Int.reduceLT, Int.reduceLE, Int.reduceAdd, Int.reduceSub, Int.reduceNeg, Int.reduceToNat]
    · rw [if_neg he] at hst
      obtain ⟨j, q1, q2, q3, q4, q5⟩ := kids_mem hok.1 (wL_mem he)
      have hp : (0 : Int) < ((kids d a).length : Int) := by have := List.length_pos_iff.2 he; omega
      have q6 := kids_in hok.1 h2 q3 q5
      have q7 : (wL (kids d a)).toNat = j := by omega
      rw [q7] at hst
      have hle : (kids d a).length ≤ 1000000 := by omega
      simp only [Doc.enc, dDoc_mk, Doc.eta, hkd, hp, hl, q1, ints, he, hle, ne_eq, sumThereN_f, sumThereN_D, sumThereN_flat, sumThereN_r, sumKidsA_f, sumKidsA_D, sumKidsA_flat, sumKidsA_r, sumWL_f, sumWL_D, sumWL_flat, sumWL_r, sumUsed_f, sumUsed_D, sumUsed_flat, sumUsed_r, go_sem, wpR_gcall, reduceCtorEq, reduceIte, Nat.reduceEqDiff, Nat.reduceAdd, Nat.reduceSub, Nat.reduceMul, Nat.reduceLT, Nat.reduceLeDiff, Nat.reduceBEq, Int.reduceEq, Int.reduceLT, Int.reduceLE, Int.reduceAdd, Int.reduceSub, Int.reduceNeg, Int.reduceToNat]
      exact ⟨j, ⟨q3, q6, by rw [← hst, h3]⟩, by omega, rfl, rfl⟩
  · have e : nmL d k = ⟨#[]⟩ := by unfold nmL; rw [if_neg ht]
    simp only [c67, Doc.enc, dDoc_mk, Doc.eta, hl, ht, e, ints, sumThereN_f, sumThereN_D, sumThereN_flat, sumThereN_r, sumKidsA_f, sumKidsA_D, sumKidsA_flat, sumKidsA_r, sumWL_f, sumWL_D, sumWL_flat, sumWL_r, sumUsed_f, sumUsed_D, sumUsed_flat, sumUsed_r, go_sem, wpR_gcall, reduceCtorEq, reduceIte, Nat.reduceEqDiff, Nat.reduceAdd, Nat.reduceSub, Nat.reduceMul, Nat.reduceLT, Nat.reduceLeDiff, Nat.reduceBEq, Int.reduceEq, Int.reduceLT, Int.reduceLE, Int.reduceAdd, Int.reduceSub, Int.reduceNeg, Int.reduceToNat]
def sumDownL : Sum Try.prog := ⟨67, fun args => args = [.agg (Doc.enc (dDoc (args.getD 0 .any))), vi ((args.getD 1 .any).int), .fn 76 []] ∧ ((dDoc (args.getD 0 .any))).l.length ≤ 1000, fun args => vs (nmL (dDoc (args.getD 0 .any)) ((args.getD 1 .any).int)), fun args h => by
  have := downL_ok (dDoc (args.getD 0 .any)) ((args.getD 1 .any).int) h.2; rwa [← h.1] at this, true⟩
theorem sumDownL_f : sumDownL.f = 67 := rfl
theorem sumDownL_D (args : List V) : sumDownL.D args = (args = [.agg (Doc.enc (dDoc (args.getD 0 .any))), vi ((args.getD 1 .any).int), .fn 76 []] ∧ ((dDoc (args.getD 0 .any))).l.length ≤ 1000) := rfl
theorem sumDownL_flat : sumDownL.flat = true := rfl
theorem sumDownL_r (args : List V) : sumDownL.r args = vs (nmL (dDoc (args.getD 0 .any)) ((args.getD 1 .any).int)) := rfl
theorem Ends_ok (d : Doc) (k : Int) (hl : d.l.length ≤ 1000) : PCall Try.prog 66 [.agg d.enc, vi k] (vs (nmL d k)) := by
  refine PCall.of (Orc.cons sumDownL (Orc.nil _)) c66_ok (by simp [c66]) fun w0 own0 => ?_
  simp only [c66, Doc.enc, dDoc_mk, Doc.eta, hl, sumDownL_f, sumDownL_D, sumDownL_flat, sumDownL_r, go_sem, wpR_gcall, reduceCtorEq, reduceIte, Nat.reduceEqDiff, Nat.reduceAdd, Nat.reduceSub, Nat.reduceMul, Nat.reduceLT, Nat.reduceLeDiff, Nat.reduceBEq, Int.reduceEq, Int.reduceLT, Int.reduceLE, Int.reduceAdd, Int.reduceSub, Int.reduceNeg, Int.reduceToNat]
def sumEnds : Sum Try.prog := ⟨66, fun args => args = [.agg (Doc.enc (dDoc (args.getD 0 .any))), vi ((args.getD 1 .any).int)] ∧ ((dDoc (args.getD 0 .any))).l.length ≤ 1000, fun args => vs (nmL (dDoc (args.getD 0 .any)) ((args.getD 1 .any).int)), fun args h => by
  have := Ends_ok (dDoc (args.getD 0 .any)) ((args.getD 1 .any).int) h.2; rwa [← h.1] at this, true⟩
theorem sumEnds_f : sumEnds.f = 66 := rfl
theorem sumEnds_D (args : List V) : sumEnds.D args = (args = [.agg (Doc.enc (dDoc (args.getD 0 .any))), vi ((args.getD 1 .any).int)] ∧ ((dDoc (args.getD 0 .any))).l.length ≤ 1000) := rfl
theorem sumEnds_flat : sumEnds.flat = true := rfl
theorem sumEnds_r (args : List V) : sumEnds.r args = vs (nmL (dDoc (args.getD 0 .any)) ((args.getD 1 .any).int)) := rfl
/-- The names, by the document. -/
def recD (d : Doc) (lo hi : Nat) (args : List V) : Prop := args = [.agg d.enc, vi ((args.getD 1 .any).int)] ∧ (lo : Int) ≤ (args.getD 1 .any).int ∧ (args.getD 1 .any).int < hi
def sumUR (d : Doc) (k : Nat) (ih : ∀ m : Nat, m < k → PCall Try.prog 55 [.agg d.enc, vi m] (vs (usedN d m))) : Sum Try.prog := ⟨55, recD d 0 k, fun args => vs (usedN d ((args.getD 1 .any).int).toNat), fun args h => by
  obtain ⟨h1, h2, h3⟩ := h
  have := ih ((args.getD 1 .any).int).toNat (by omega)
  rw [Int.toNat_of_nonneg (by omega), ← h1] at this; exact this, true⟩
theorem usedR_ok (d : Doc) (h : okL d) : ∀ k : Nat, k < d.l.length → PCall Try.prog 55 [.agg d.enc, vi k] (vs (usedN d k)) := by
  intro k
  induction k using Nat.strongRecOn with
  | ind k ih =>
  intro hk
  have ih' : ∀ m : Nat, m < k → PCall Try.prog 55 [.agg d.enc, vi m] (vs (usedN d m)) := fun m hm => ih m hm (by omega)
  refine PCall.of (Orc.cons (sumUR d k ih') (Orc.nil _)) c55_ok (by simp [c55]) fun w0 own0 => ?_
  have s1 : (sumUR d k ih').f = 55 := rfl
  have s2 : ∀ args, (sumUR d k ih').D args = recD d 0 k args := fun _ => rfl
  have s3 : (sumUR d k ih').flat = true := rfl
  have s4 : ∀ args, (sumUR d k ih').r args = vs (usedN d ((args.getD 1 .any).int).toNat) := fun _ => rfl
  have hst := usedN_step h.1 hk
  have hpar : (d.l.getD k .zero).parent = par d.l k := rfl
  have hpg : d.page.getD k ⟨#[]⟩ = pageS d k := rfl
  have hl := h.2
  by_cases h0 : pageS d k = ⟨#[]⟩ ∧ 0 < k
  · rw [if_pos h0] at hst
    have hu := h.1.up h0.2 hk
    have e1 : ¬ (k : Int) = 0 := by omega
    have e2 : (up d k : Int) < (k : Int) := by omega
    simp only [c55, Doc.enc, recD, nodeAt, getD_strs, hpar, hpg, h0.1, hu.1, e1, e2, hst, h.page, s1, s2, s3, s4, go_sem, wpR_gcall, reduceCtorEq, reduceIte, Nat.reduceEqDiff, Nat.reduceAdd, Nat.reduceSub, Nat.reduceMul, Nat.reduceLT, Nat.reduceLeDiff, Nat.reduceBEq, Int.reduceEq, Int.reduceLT, Int.reduceLE, Int.reduceAdd, Int.reduceSub, Int.reduceNeg, Int.reduceToNat]
    exact ⟨by omega, by omega, by omega⟩
  · rw [if_neg h0] at hst
    have e0 : ¬ pageS d k = ⟨#[]⟩ ∨ (k : Int) = 0 := by
      by_cases e : pageS d k = ⟨#[]⟩
      · exact .inr (by have : ¬ 0 < k := fun hh => h0 ⟨e, hh⟩; omega)
      · exact .inl e
    have hkl : (k : Int) < (d.l.length : Int) := by omega
    by_cases e : pageS d k = ⟨#[]⟩
    · have e1 : (k : Int) = 0 := e0.resolve_left (fun hh => hh e)
      have e2 : k = 0 := by omega
      subst e2
      simp only [c55, Doc.enc, recD, nodeAt, getD_strs, hpar, hpg, e, e1, hst, h.page, hkl, s1, s2, s3, s4, go_sem, wpR_gcall, reduceCtorEq, reduceIte, Nat.reduceEqDiff, Nat.reduceAdd, Nat.reduceSub, Nat.reduceMul, Nat.reduceLT, Nat.reduceLeDiff, Nat.reduceBEq, Int.reduceEq, Int.reduceLT, Int.reduceLE, Int.reduceAdd, Int.reduceSub, Int.reduceNeg, Int.reduceToNat]
      exact ⟨by omega, by omega⟩
    · simp only [c55, Doc.enc, recD, nodeAt, getD_strs, hpar, hpg, e, hst, h.page, hkl, s1, s2, s3, s4, go_sem, wpR_gcall, reduceCtorEq, reduceIte, Nat.reduceEqDiff, Nat.reduceAdd, Nat.reduceSub, Nat.reduceMul, Nat.reduceLT, Nat.reduceLeDiff, Nat.reduceBEq, Int.reduceEq, Int.reduceLT, Int.reduceLE, Int.reduceAdd, Int.reduceSub, Int.reduceNeg, Int.reduceToNat]
      omega
def sumUsedR : Sum Try.prog := ⟨55, fun args => args = [.agg (Doc.enc (dDoc (args.getD 0 .any))), vi ((args.getD 1 .any).int)] ∧ okL (dDoc (args.getD 0 .any)) ∧ 0 ≤ ((args.getD 1 .any).int) ∧ ((args.getD 1 .any).int) < ((dDoc (args.getD 0 .any))).l.length, fun args => vs (usedN (dDoc (args.getD 0 .any)) (((args.getD 1 .any).int)).toNat), fun args h => by
  have := (by have h1 := h.2; have h2 := usedR_ok (dDoc (args.getD 0 .any)) h1.1 (((args.getD 1 .any).int)).toNat (by have := h1.2.1; have := h1.2.2; omega); rw [Int.toNat_of_nonneg h1.2.1] at h2; exact h2 : PCall Try.prog 55 [.agg (Doc.enc (dDoc (args.getD 0 .any))), vi ((args.getD 1 .any).int)] (vs (usedN (dDoc (args.getD 0 .any)) (((args.getD 1 .any).int)).toNat))); rwa [← h.1] at this, true⟩
theorem sumUsedR_f : sumUsedR.f = 55 := rfl
theorem sumUsedR_D (args : List V) : sumUsedR.D args = (args = [.agg (Doc.enc (dDoc (args.getD 0 .any))), vi ((args.getD 1 .any).int)] ∧ okL (dDoc (args.getD 0 .any)) ∧ 0 ≤ ((args.getD 1 .any).int) ∧ ((args.getD 1 .any).int) < ((dDoc (args.getD 0 .any))).l.length) := rfl
theorem sumUsedR_flat : sumUsedR.flat = true := rfl
theorem sumUsedR_r (args : List V) : sumUsedR.r args = vs (usedN (dDoc (args.getD 0 .any)) (((args.getD 1 .any).int)).toNat) := rfl
end Go.Proofs.Ytdcdhnohbadenaa
