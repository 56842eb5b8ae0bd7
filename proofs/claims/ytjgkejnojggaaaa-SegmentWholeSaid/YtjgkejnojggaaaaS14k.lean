/- The laws of segments: as few as can be. -/
import Derived.Test.YtjgkejnojggaaaaS14j
namespace Go.Proofs.Ytjgkejnojggaaaa
open Go.Sx
set_option linter.unusedSimpArgs false
set_option maxHeartbeats 4000000
set_option maxRecDepth 20000

def sumWhole : Sum Try.prog := ⟨16, fun args => args = [.agg (Doc.enc (dDoc (args.getD 0 .any)))] ∧ ((dDoc (args.getD 0 .any))).l.length ≤ 1000, fun args => intss (whlV (dDoc (args.getD 0 .any))), fun args h => by
  have := whole_ok (dDoc (args.getD 0 .any)) h.2; rwa [← h.1] at this, false⟩
theorem sumWhole_f : sumWhole.f = 16 := rfl
theorem sumWhole_D (args : List V) : sumWhole.D args = (args = [.agg (Doc.enc (dDoc (args.getD 0 .any)))] ∧ ((dDoc (args.getD 0 .any))).l.length ≤ 1000) := rfl
theorem sumWhole_flat : sumWhole.flat = false := rfl
theorem sumWhole_r (args : List V) : sumWhole.r args = intss (whlV (dDoc (args.getD 0 .any))) := rfl
theorem frc_pt {d : Doc} {k : Int} (h : frcV d k = true) : ptV d k = true := by unfold frcV at h; rw [Bool.and_eq_true] at h; exact h.1
theorem chg_pt {d : Doc} {k : Int} (h : chV13 d k = true) : ptV d k = true := by
  unfold chV13 at h; rw [Bool.and_eq_true] at h
  unfold ptV; rw [h.1]
  have h2 := h.2
  unfold chgN at h2; rw [decide_eq_true_eq] at h2
  simp [h2.1]
theorem seg_le {l : List (List Int)} {s : List Int} (h : s ∈ l) : s.length ≤ l.flatten.length := by
  induction l with
  | nil => cases h
  | cons t l ih =>
    rw [List.flatten_cons, List.length_append]
    rcases List.mem_cons.1 h with rfl | h
    · omega
    · have := ih h; omega
theorem whlV_ok {d : Doc} (hl : d.l.length ≤ 1000) : okS (whlV d) ∧ (whlV d).length ≤ 1000 := by
  have hil : (inV d).length ≤ 1000 := by
    unfold inV; split
    · have := inL_len d; omega
    · simp
  have h1 := whl_len d (inV d) (inV d).length
  have h2 := (whl_flat d (inV d) (inV d).length (Nat.le_refl _)).1
  unfold whlV
  refine ⟨⟨by omega, fun t ht => ?_⟩, by omega⟩
  have := seg_le ht
  rw [h2, List.take_length] at this; omega
theorem whlV_chk {d : Doc} (hr : rightB d = true) (hl : d.l.length ≤ 1000) : chkS d (whlV d) = (0, 0) ∧ chkI d (whlV d) = (0, 0) := by
  obtain ⟨h1, h2⟩ := whl_flat d (inV d) (inV d).length (Nat.le_refl _)
  obtain ⟨h3, h4⟩ := whl_begin d (inV d) (inV d).length (Nat.le_refl _)
  rw [List.take_length] at h1
  have hp : prtS d (whlV d) = -1 := by
    unfold prtS whlV
    rw [prt_none d _ _ 0 0 (Nat.zero_le _), List.drop_zero]
    refine ⟨h1, h2, fun i hi => ?_⟩
    rcases h3 i hi with h | h | h
    · exact .inl (by omega)
    · exact .inr (frc_pt h)
    · exact .inr (chg_pt h)
  have ho1 : ovr (frcV d) 0 (whlV d) = -1 := (ovr_none _ _ _).2 fun s hs => (h4 s hs).1
  have ho2 : ovr (chV13 d) 0 (whlV d) = -1 := (ovr_none _ _ _).2 fun s hs => (h4 s hs).2
  have hI : chkI d (whlV d) = (0, 0) := by unfold chkI; rw [hp, ho1, ho2]; rfl
  refine ⟨?_, hI⟩
  unfold chkS
  rw [if_pos hr, if_neg (by have := (whlV_ok hl).2; omega)]
  exact hI
theorem sel_first (p : Nat → Bool) (h : p 0 = true) : ∀ n, ∃ r, selTo p (n + 1) = 0 :: r
  | 0 => ⟨[], by simp [selTo, h]⟩
  | n + 1 => by
    obtain ⟨r, hr⟩ := sel_first p h n
    conv => enter [1, r]; lhs; unfold selTo
    split
    · exact ⟨r ++ [((n + 1 : Nat) : Int)], by rw [hr]; rfl⟩
    · exact ⟨r, hr⟩
theorem inL_first {d : Doc} (h : okD d) : ∃ r, inL d = 0 :: r := by
  have hp := h.pos
  have h0 : isN d 0 = true := by rw [isN_step h hp, show runB d 0 = false from h.r0]; rfl
  obtain ⟨r, hr⟩ := sel_first (isN d) h0 (d.l.length - 1)
  exact ⟨r, by unfold inL; rw [show d.l.length = d.l.length - 1 + 1 by omega]; exact hr⟩
theorem whlV_head {d : Doc} (hr : rightB d = true) {i : Nat} (hi : i < (whlV d).length) : ∃ m : Nat, ((whlV d).getD i []).getD 0 0 = m ∧ m < d.l.length ∧ isN d m = true ∧ 0 < ((whlV d).getD i []).length ∧ (0 < mustN d m ↔ 0 < i) := by
  have hok := rightB_ok hr
  have hinv : inV d = inL d := by unfold inV; rw [if_pos hr]
  obtain ⟨h1, h2⟩ := whl_flat d (inV d) (inV d).length (Nat.le_refl _)
  obtain ⟨h3, h4⟩ := whl_begin d (inV d) (inV d).length (Nat.le_refl _)
  rw [List.take_length] at h1
  have hmem : (whlV d).getD i [] ∈ whlV d := by rw [List.getD_eq_getElem?_getD, List.getElem?_eq_getElem hi]; exact List.getElem_mem _
  have hne := h2 _ hmem
  have hpos := List.length_pos_iff.2 hne
  have hx : ((whlV d).getD i []).getD 0 0 ∈ (whlV d).getD i [] := by
    rw [List.getD_eq_getElem?_getD (l := (whlV d).getD i []), List.getElem?_eq_getElem hpos]; exact List.getElem_mem _
  have hin : ((whlV d).getD i []).getD 0 0 ∈ inL d := by rw [← hinv, ← h1]; exact List.mem_flatten.2 ⟨_, hmem, hx⟩
  obtain ⟨m, a, b, c⟩ := selTo_mem.1 hin
  refine ⟨m, a, b, c, hpos, ?_⟩
  by_cases h0 : i = 0
  · subst h0
    have hm0 : m = 0 := by
      obtain ⟨r, hr0⟩ := inL_first hok
      have e : (whlV d).flatten.getD 0 0 = ((whlV d).getD 0 []).getD 0 0 := by
        cases hw : whlV d with
        | nil => rw [hw] at hi; simp at hi
        | cons s t =>
          rw [hw] at hne hpos
          simp only [List.getD_cons_zero] at hne hpos ⊢
          cases s with
          | nil => exact absurd rfl hne
          | cons x s => rfl
      have : (whlV d).flatten = inL d := by rw [← hinv]; exact h1
      rw [this, hr0, a] at e
      simp at e; omega
    subst hm0
    have : mustN d 0 = 0 := by unfold mustN oldN; simp
    rw [this]; simp
  · have := h3 i hi
    have hm1 := must_frc hr b c
    have key : 0 < mustN d m := by
      rcases this with h | h | h
      · exact absurd h h0
      · rw [show ((whl d (inV d) (inV d).length).getD i []).getD 0 0 = (m : Int) from a, hm1, decide_eq_true_eq] at h; omega
      · rw [show ((whl d (inV d) (inV d).length).getD i []).getD 0 0 = (m : Int) from a] at h
        by_cases hf : frcV d m = true
        · rw [hm1, decide_eq_true_eq] at hf; omega
        · rw [must_chg hr b c (by simpa using hf), decide_eq_true_eq] at h; omega
    exact ⟨fun _ => by omega, fun _ => key⟩
theorem segmentWhole_law (x : List V) (hl : x.length = 5) (h : ∀ i c, docC[i]? = some c → CellOK c (x.getD i .any)) : PCall Try.prog 4 [.agg x] (.c (.bool true)) := by
  obtain ⟨d, rfl⟩ := doc_of hl h
  refine PCall.of (Orc.cons sumFew12 (Orc.cons sumAwake14 (Orc.cons sumWhole (Orc.cons sumSegChk (Orc.cons sumGiven (Orc.cons sumRightR (Orc.cons sumChkR14 (Orc.cons sumMust (Orc.nil _))))))))) c4_ok (by simp [c4]) fun w0 own0 => ?_
  by_cases hf : few12 d = true
  · have hn := few12_len hf
    have hl : d.l.length ≤ 1000 := by omega
    obtain ⟨hs, hwl⟩ := whlV_ok hl
    by_cases hr : rightB d = true
    · have hok : okL d := ⟨rightB_ok hr, hl⟩
      obtain ⟨e1, e2⟩ := whlV_chk hr hl
      simp only [c4, Doc.enc, dDoc_mk, Doc.eta, hf, hl, hr, hs, hok, e1, e2, dIntss_map, intss, on_gcall, off_gcall, flat_gcall, sumFew12_f, sumFew12_D, sumFew12_flat, sumFew12_r, sumAwake14_f, sumAwake14_D, sumAwake14_flat, sumAwake14_r, sumWhole_f, sumWhole_D, sumWhole_flat, sumWhole_r, sumSegChk_f, sumSegChk_D, sumSegChk_flat, sumSegChk_r, sumGiven_f, sumGiven_D, sumGiven_flat, sumGiven_r, sumRightR_f, sumRightR_D, sumRightR_flat, sumRightR_r, sumChkR14_f, sumChkR14_D, sumChkR14_flat, sumChkR14_r, sumMust_f, sumMust_D, sumMust_flat, sumMust_r, go_sem, reduceCtorEq, reduceIte, Nat.reduceEqDiff, Nat.reduceAdd, Nat.reduceSub, Nat.reduceMul, Nat.reduceLT, Nat.reduceLeDiff, Nat.reduceBEq, Int.reduceEq, Int.reduceLT, Int.reduceLE, Int.reduceAdd, Int.reduceSub, Int.reduceNeg, Int.reduceToNat]
      refine SemC.lp (α := Nat) (fun n => [(4, .ptr 1 1 0 0), (46, .slc 1 ((whlV d).map fun s => [.slc 1 (s.map fun n => [vi n])])), (47, vi (whlV d).length), (48, vi n)]) (fun _ => ⟨[⟨0, 5, [d.enc], false, []⟩, ⟨1, 5, [d.enc], false, []⟩], 2⟩)
        (fun n => n ≤ (whlV d).length) (fun n => (whlV d).length - n) 0 (Nat.zero_le _) (St.mk (by simp [Agrees, upd_at, initE_at, Doc.enc])) fun n hn => ?_
      by_cases he : n = (whlV d).length
      · subst he
        simp only [Doc.enc, Int.lt_irrefl, on_gcall, off_gcall, flat_gcall, sumFew12_f, sumFew12_D, sumFew12_flat, sumFew12_r, sumAwake14_f, sumAwake14_D, sumAwake14_flat, sumAwake14_r, sumWhole_f, sumWhole_D, sumWhole_flat, sumWhole_r, sumSegChk_f, sumSegChk_D, sumSegChk_flat, sumSegChk_r, sumGiven_f, sumGiven_D, sumGiven_flat, sumGiven_r, sumRightR_f, sumRightR_D, sumRightR_flat, sumRightR_r, sumChkR14_f, sumChkR14_D, sumChkR14_flat, sumChkR14_r, sumMust_f, sumMust_D, sumMust_flat, sumMust_r, go_sem, reduceCtorEq, reduceIte, Nat.reduceEqDiff, Nat.reduceAdd, Nat.reduceSub, Nat.reduceMul, Nat.reduceLT, Nat.reduceLeDiff, Nat.reduceBEq, Int.reduceEq, Int.reduceLT, Int.reduceLE, Int.reduceAdd, Int.reduceSub, Int.reduceNeg, Int.reduceToNat]
      · have e3 : (n : Int) < ((whlV d).length : Int) := by omega
        have e0 : (0 : Int) ≤ (n : Int) := by omega
        obtain ⟨m, q1, q2, q3, q4, q5⟩ := whlV_head hr (show n < (whlV d).length by omega)
        have hkd : kD d m := ⟨hok, by omega, by omega, by rw [Int.toNat_natCast]; exact q3⟩
        have hg := getD_intss (whlV d) n [vnil] (by omega)
        have q4' : (0 : Int) < (((whlV d).getD n []).length : Int) := by omega
        have q6 : (decide ((0 : Int) < (n : Int)) == decide (0 < mustN d m)) = true := by rw [beq_iff_eq, decide_eq_decide, q5]; omega
        simp only [Doc.enc, dDoc_mk, Doc.eta, e0, e3, hg, q1, q4', hkd, q6, on_gcall, off_gcall, flat_gcall, sumFew12_f, sumFew12_D, sumFew12_flat, sumFew12_r, sumAwake14_f, sumAwake14_D, sumAwake14_flat, sumAwake14_r, sumWhole_f, sumWhole_D, sumWhole_flat, sumWhole_r, sumSegChk_f, sumSegChk_D, sumSegChk_flat, sumSegChk_r, sumGiven_f, sumGiven_D, sumGiven_flat, sumGiven_r, sumRightR_f, sumRightR_D, sumRightR_flat, sumRightR_r, sumChkR14_f, sumChkR14_D, sumChkR14_flat, sumChkR14_r, sumMust_f, sumMust_D, sumMust_flat, sumMust_r, go_sem, reduceCtorEq, reduceIte, Nat.reduceEqDiff, Nat.reduceAdd, Nat.reduceSub, Nat.reduceMul, Nat.reduceLT, Nat.reduceLeDiff, Nat.reduceBEq, Int.reduceEq, Int.reduceLT, Int.reduceLE, Int.reduceAdd, Int.reduceSub, Int.reduceNeg, Int.reduceToNat]
        refine ⟨by omega, n + 1, by omega, by omega, by omega⟩
    · have e : whlV d = [] := by unfold whlV inV; rw [if_neg hr]; rfl
      simp only [c4, Doc.enc, dDoc_mk, Doc.eta, hf, hl, hr, e, dIntss_map, intss, on_gcall, off_gcall, flat_gcall, sumFew12_f, sumFew12_D, sumFew12_flat, sumFew12_r, sumAwake14_f, sumAwake14_D, sumAwake14_flat, sumAwake14_r, sumWhole_f, sumWhole_D, sumWhole_flat, sumWhole_r, sumSegChk_f, sumSegChk_D, sumSegChk_flat, sumSegChk_r, sumGiven_f, sumGiven_D, sumGiven_flat, sumGiven_r, sumRightR_f, sumRightR_D, sumRightR_flat, sumRightR_r, sumChkR14_f, sumChkR14_D, sumChkR14_flat, sumChkR14_r, sumMust_f, sumMust_D, sumMust_flat, sumMust_r, go_sem, reduceCtorEq, reduceIte, Nat.reduceEqDiff, Nat.reduceAdd, Nat.reduceSub, Nat.reduceMul, Nat.reduceLT, Nat.reduceLeDiff, Nat.reduceBEq, Int.reduceEq, Int.reduceLT, Int.reduceLE, Int.reduceAdd, Int.reduceSub, Int.reduceNeg, Int.reduceToNat]
  · simp only [c4, Doc.enc, dDoc_mk, Doc.eta, hf, dIntss_map, intss, on_gcall, off_gcall, flat_gcall, sumFew12_f, sumFew12_D, sumFew12_flat, sumFew12_r, sumAwake14_f, sumAwake14_D, sumAwake14_flat, sumAwake14_r, sumWhole_f, sumWhole_D, sumWhole_flat, sumWhole_r, sumSegChk_f, sumSegChk_D, sumSegChk_flat, sumSegChk_r, sumGiven_f, sumGiven_D, sumGiven_flat, sumGiven_r, sumRightR_f, sumRightR_D, sumRightR_flat, sumRightR_r, sumChkR14_f, sumChkR14_D, sumChkR14_flat, sumChkR14_r, sumMust_f, sumMust_D, sumMust_flat, sumMust_r, go_sem, reduceCtorEq, reduceIte, Nat.reduceEqDiff, Nat.reduceAdd, Nat.reduceSub, Nat.reduceMul, Nat.reduceLT, Nat.reduceLeDiff, Nat.reduceBEq, Int.reduceEq, Int.reduceLT, Int.reduceLE, Int.reduceAdd, Int.reduceSub, Int.reduceNeg, Int.reduceToNat]
end Go.Proofs.Ytjgkejnojggaaaa
