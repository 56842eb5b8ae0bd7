/- The laws of segments: whether a script may be; what is told of each. -/
import Derived.Test.YtjgkejnojggaaaaCe
import Derived.Test.YtjgkejnojggaaaaS14i
namespace Go.Proofs.Ytjgkejnojggaaaa
open Go.Sx
set_option linter.unusedSimpArgs false
set_option maxHeartbeats 4000000
set_option maxRecDepth 20000

def sumOwn14 : Sum Try.prog := ⟨11, fun args => args = [intss (dIntss (args.getD 0 .any))] ∧ okS (dIntss (args.getD 0 .any)), fun args => intss (dIntss (args.getD 0 .any)), fun args h => by
  have := own14_ok (dIntss (args.getD 0 .any)) h.2; rwa [← h.1] at this, false⟩
theorem sumOwn14_f : sumOwn14.f = 11 := rfl
theorem sumOwn14_D (args : List V) : sumOwn14.D args = (args = [intss (dIntss (args.getD 0 .any))] ∧ okS (dIntss (args.getD 0 .any))) := rfl
theorem sumOwn14_flat : sumOwn14.flat = false := rfl
theorem sumOwn14_r (args : List V) : sumOwn14.r args = intss (dIntss (args.getD 0 .any)) := rfl
def sumChkR14 : Sum Try.prog := ⟨14, fun args => args = [.agg (Doc.enc (dDoc (args.getD 0 .any))), intss (dIntss (args.getD 1 .any))] ∧ okL (dDoc (args.getD 0 .any)) ∧ rightB (dDoc (args.getD 0 .any)) = true ∧ okS (dIntss (args.getD 1 .any)), fun args => .tup [vi (chkI (dDoc (args.getD 0 .any)) (dIntss (args.getD 1 .any))).1, vi (chkI (dDoc (args.getD 0 .any)) (dIntss (args.getD 1 .any))).2], fun args h => by
  have := chkR14_ok (dDoc (args.getD 0 .any)) (dIntss (args.getD 1 .any)) h.2.1 h.2.2.1 h.2.2.2; rwa [← h.1] at this, false⟩
theorem sumChkR14_f : sumChkR14.f = 14 := rfl
theorem sumChkR14_D (args : List V) : sumChkR14.D args = (args = [.agg (Doc.enc (dDoc (args.getD 0 .any))), intss (dIntss (args.getD 1 .any))] ∧ okL (dDoc (args.getD 0 .any)) ∧ rightB (dDoc (args.getD 0 .any)) = true ∧ okS (dIntss (args.getD 1 .any))) := rfl
theorem sumChkR14_flat : sumChkR14.flat = false := rfl
theorem sumChkR14_r (args : List V) : sumChkR14.r args = .tup [vi (chkI (dDoc (args.getD 0 .any)) (dIntss (args.getD 1 .any))).1, vi (chkI (dDoc (args.getD 0 .any)) (dIntss (args.getD 1 .any))).2] := rfl
abbrev scC : Cell := .slc [.slc [.int .i64]]
theorem intss_of {x : V} (h : CellOK scC x) : ∃ l : List (List Int), x = intss l := by
  cases h with
  | slc cs ess hl h h2 =>
    refine ⟨ess.map fun e => dInts (e.getD 0 .any), ?_⟩
    unfold intss
    rw [List.map_map]
    congr 1
    conv => lhs; rw [← List.map_id ess]
    apply List.map_congr_left
    intro es hes
    have hlen := h es hes
    have a0 := h2 es hes 0 _ rfl
    match es, hlen with
    | [a], _ =>
      simp only [List.getD_cons_zero] at a0
      obtain ⟨l, rfl⟩ := ints_of' a0
      simp [dInts_map]
theorem segmentChecks_law (x : List V) (hl : x.length = 5) (h : ∀ i c, docC[i]? = some c → CellOK c (x.getD i .any)) (y : V) (h' : CellOK scC y) : PCall Try.prog 3 [.agg x, y] (.c (.bool true)) := by
  obtain ⟨d, rfl⟩ := doc_of hl h
  obtain ⟨sc, rfl⟩ := intss_of h'
  refine PCall.of (Orc.cons sumFew14 (Orc.cons sumAwake14 (Orc.cons sumSegChk (Orc.cons sumOwn14 (Orc.cons sumGiven (Orc.cons sumRightR (Orc.cons sumChkR14 (Orc.nil _)))))))) c3_ok (by simp [c3]) fun w0 own0 => ?_
  by_cases hf : few14 d sc = true
  · obtain ⟨f1, f2, f3⟩ := few14_ss hf
    have hs := few14_okS hf
    have hn := few12_len f1
    have hl : d.l.length ≤ 1000 := by omega
    by_cases hr : rightB d = true
    · have hok : okL d := ⟨rightB_ok hr, hl⟩
      have e : chkS d sc = chkI d sc := by unfold chkS; rw [if_pos hr, if_neg (by omega)]
      simp only [c3, Doc.enc, dDoc_mk, Doc.eta, hf, hl, hr, hs, hok, e, dIntss_map, intss, on_gcall, off_gcall, flat_gcall, sumFew14_f, sumFew14_D, sumFew14_flat, sumFew14_r, sumAwake14_f, sumAwake14_D, sumAwake14_flat, sumAwake14_r, sumSegChk_f, sumSegChk_D, sumSegChk_flat, sumSegChk_r, sumOwn14_f, sumOwn14_D, sumOwn14_flat, sumOwn14_r, sumGiven_f, sumGiven_D, sumGiven_flat, sumGiven_r, sumRightR_f, sumRightR_D, sumRightR_flat, sumRightR_r, sumChkR14_f, sumChkR14_D, sumChkR14_flat, sumChkR14_r, go_sem, reduceCtorEq, reduceIte, Nat.reduceEqDiff, Nat.reduceAdd, Nat.reduceSub, Nat.reduceMul, Nat.reduceLT, Nat.reduceLeDiff, Nat.reduceBEq, Int.reduceEq, Int.reduceLT, Int.reduceLE, Int.reduceAdd, Int.reduceSub, Int.reduceNeg, Int.reduceToNat]
    · have e : chkS d sc = (0, 1) := by unfold chkS; rw [if_neg hr]
      simp only [c3, Doc.enc, dDoc_mk, Doc.eta, hf, hl, hr, hs, e, dIntss_map, intss, on_gcall, off_gcall, flat_gcall, sumFew14_f, sumFew14_D, sumFew14_flat, sumFew14_r, sumAwake14_f, sumAwake14_D, sumAwake14_flat, sumAwake14_r, sumSegChk_f, sumSegChk_D, sumSegChk_flat, sumSegChk_r, sumOwn14_f, sumOwn14_D, sumOwn14_flat, sumOwn14_r, sumGiven_f, sumGiven_D, sumGiven_flat, sumGiven_r, sumRightR_f, sumRightR_D, sumRightR_flat, sumRightR_r, sumChkR14_f, sumChkR14_D, sumChkR14_flat, sumChkR14_r, go_sem, reduceCtorEq, reduceIte, Nat.reduceEqDiff, Nat.reduceAdd, Nat.reduceSub, Nat.reduceMul, Nat.reduceLT, Nat.reduceLeDiff, Nat.reduceBEq, Int.reduceEq, Int.reduceLT, Int.reduceLE, Int.reduceAdd, Int.reduceSub, Int.reduceNeg, Int.reduceToNat]
  · simp only [c3, Doc.enc, dDoc_mk, Doc.eta, hf, dIntss_map, intss, on_gcall, off_gcall, flat_gcall, sumFew14_f, sumFew14_D, sumFew14_flat, sumFew14_r, sumAwake14_f, sumAwake14_D, sumAwake14_flat, sumAwake14_r, sumSegChk_f, sumSegChk_D, sumSegChk_flat, sumSegChk_r, sumOwn14_f, sumOwn14_D, sumOwn14_flat, sumOwn14_r, sumGiven_f, sumGiven_D, sumGiven_flat, sumGiven_r, sumRightR_f, sumRightR_D, sumRightR_flat, sumRightR_r, sumChkR14_f, sumChkR14_D, sumChkR14_flat, sumChkR14_r, go_sem, reduceCtorEq, reduceIte, Nat.reduceEqDiff, Nat.reduceAdd, Nat.reduceSub, Nat.reduceMul, Nat.reduceLT, Nat.reduceLeDiff, Nat.reduceBEq, Int.reduceEq, Int.reduceLT, Int.reduceLE, Int.reduceAdd, Int.reduceSub, Int.reduceNeg, Int.reduceToNat]
theorem segmentTells_law (x : List V) (hl : x.length = 5) (h : ∀ i c, docC[i]? = some c → CellOK c (x.getD i .any)) (y : V) (h' : CellOK scC y) (z : V) (h'' : CellOK (.int .i64) z) : PCall Try.prog 7 [.agg x, y, z] (.c (.bool true)) := by
  obtain ⟨d, rfl⟩ := doc_of hl h
  obtain ⟨sc, rfl⟩ := intss_of h'
  cases h'' with
  | int _ n hn =>
  refine PCall.of (Orc.cons sumFew14 (Orc.cons sumAwake14 (Orc.cons sumBrkS (Orc.cons sumNmeS (Orc.cons sumGiven (Orc.cons sumRightR (Orc.cons sumChkR14 (Orc.cons sumAhdR (Orc.cons sumRBegins (Orc.nil _)))))))))) c7_ok (by simp [c7]) fun w0 own0 => ?_
  by_cases hf : few14 d sc = true
  · obtain ⟨f1, f2, f3⟩ := few14_ss hf
    have hs := few14_okS hf
    have hn := few12_len f1
    have hl : d.l.length ≤ 1000 := by omega
    have no : ¬ thrS d sc n = true → brkS d sc n = 0 ∧ nmeS d sc n = ⟨#[]⟩ := fun h => ⟨by unfold brkS; rw [if_neg h], by unfold nmeS; rw [if_neg h]⟩
    by_cases hr : rightB d = true
    · have hok : okL d := ⟨rightB_ok hr, hl⟩
      have e : chkS d sc = chkI d sc := by unfold chkS; rw [if_pos hr, if_neg (by omega)]
      by_cases h0 : 0 ≤ n
      · by_cases h1 : n < (sc.length : Int)
        · by_cases h2 : (chkI d sc).2 = 0
          · have ht : thrS d sc n = true := by unfold thrS; rw [decide_eq_true_eq, e]; exact ⟨h2, h0, h1⟩
            obtain ⟨_, i, m, rfl, q1, q2, q3, q4, q5⟩ := thr_head ht
            have hkd : kD d m := ⟨hok, by omega, by omega, by rw [Int.toNat_natCast]; exact q5⟩
            have e1 : brkS d sc i = joinT (brkA d m) := by
              unfold brkS ahdV; rw [if_pos ht, q3, thV_at hr q4, if_pos q5, Int.toNat_natCast]
            have e2 : nmeS d sc i = usedN d (dwN d wF m) := by
              unfold nmeS nmF; rw [if_pos ht, q3, thV_at hr q4, if_pos q5, Int.toNat_natCast]
            have hg := getD_intss sc i [vnil] q1
            have e3 : (0 : Int) < ((sc.getD i []).length : Int) := by omega
            unfold headS at q3
            rw [Int.toNat_natCast] at q3
            simp only [c7, Doc.enc, dDoc_mk, Doc.eta, hf, hl, hr, hs, hok, h0, h1, h2, hkd, hg, e1, e2, e3, q3, dIntss_map, intss, on_gcall, off_gcall, flat_gcall, sumFew14_f, sumFew14_D, sumFew14_flat, sumFew14_r, sumAwake14_f, sumAwake14_D, sumAwake14_flat, sumAwake14_r, sumBrkS_f, sumBrkS_D, sumBrkS_flat, sumBrkS_r, sumNmeS_f, sumNmeS_D, sumNmeS_flat, sumNmeS_r, sumGiven_f, sumGiven_D, sumGiven_flat, sumGiven_r, sumRightR_f, sumRightR_D, sumRightR_flat, sumRightR_r, sumChkR14_f, sumChkR14_D, sumChkR14_flat, sumChkR14_r, sumAhdR_f, sumAhdR_D, sumAhdR_flat, sumAhdR_r, sumRBegins_f, sumRBegins_D, sumRBegins_flat, sumRBegins_r, go_sem, reduceCtorEq, reduceIte, Nat.reduceEqDiff, Nat.reduceAdd, Nat.reduceSub, Nat.reduceMul, Nat.reduceLT, Nat.reduceLeDiff, Nat.reduceBEq, Int.reduceEq, Int.reduceLT, Int.reduceLE, Int.reduceAdd, Int.reduceSub, Int.reduceNeg, Int.reduceToNat]
          · obtain ⟨e1, e2⟩ := no (fun h => by unfold thrS at h; rw [decide_eq_true_eq, e] at h; exact h2 h.1)
            simp only [c7, Doc.enc, dDoc_mk, Doc.eta, hf, hl, hr, hs, hok, h0, h1, h2, e1, e2, dIntss_map, intss, on_gcall, off_gcall, flat_gcall, sumFew14_f, sumFew14_D, sumFew14_flat, sumFew14_r, sumAwake14_f, sumAwake14_D, sumAwake14_flat, sumAwake14_r, sumBrkS_f, sumBrkS_D, sumBrkS_flat, sumBrkS_r, sumNmeS_f, sumNmeS_D, sumNmeS_flat, sumNmeS_r, sumGiven_f, sumGiven_D, sumGiven_flat, sumGiven_r, sumRightR_f, sumRightR_D, sumRightR_flat, sumRightR_r, sumChkR14_f, sumChkR14_D, sumChkR14_flat, sumChkR14_r, sumAhdR_f, sumAhdR_D, sumAhdR_flat, sumAhdR_r, sumRBegins_f, sumRBegins_D, sumRBegins_flat, sumRBegins_r, go_sem, reduceCtorEq, reduceIte, Nat.reduceEqDiff, Nat.reduceAdd, Nat.reduceSub, Nat.reduceMul, Nat.reduceLT, Nat.reduceLeDiff, Nat.reduceBEq, Int.reduceEq, Int.reduceLT, Int.reduceLE, Int.reduceAdd, Int.reduceSub, Int.reduceNeg, Int.reduceToNat]
        · obtain ⟨e1, e2⟩ := no (fun h => by unfold thrS at h; rw [decide_eq_true_eq] at h; exact h1 h.2.2)
          simp only [c7, Doc.enc, dDoc_mk, Doc.eta, hf, hl, hr, hs, hok, h0, h1, e1, e2, dIntss_map, intss, on_gcall, off_gcall, flat_gcall, sumFew14_f, sumFew14_D, sumFew14_flat, sumFew14_r, sumAwake14_f, sumAwake14_D, sumAwake14_flat, sumAwake14_r, sumBrkS_f, sumBrkS_D, sumBrkS_flat, sumBrkS_r, sumNmeS_f, sumNmeS_D, sumNmeS_flat, sumNmeS_r, sumGiven_f, sumGiven_D, sumGiven_flat, sumGiven_r, sumRightR_f, sumRightR_D, sumRightR_flat, sumRightR_r, sumChkR14_f, sumChkR14_D, sumChkR14_flat, sumChkR14_r, sumAhdR_f, sumAhdR_D, sumAhdR_flat, sumAhdR_r, sumRBegins_f, sumRBegins_D, sumRBegins_flat, sumRBegins_r, go_sem, reduceCtorEq, reduceIte, Nat.reduceEqDiff, Nat.reduceAdd, Nat.reduceSub, Nat.reduceMul, Nat.reduceLT, Nat.reduceLeDiff, Nat.reduceBEq, Int.reduceEq, Int.reduceLT, Int.reduceLE, Int.reduceAdd, Int.reduceSub, Int.reduceNeg, Int.reduceToNat]
      · obtain ⟨e1, e2⟩ := no (fun h => by unfold thrS at h; rw [decide_eq_true_eq] at h; exact h0 h.2.1)
        simp only [c7, Doc.enc, dDoc_mk, Doc.eta, hf, hl, hr, hs, hok, h0, e1, e2, dIntss_map, intss, on_gcall, off_gcall, flat_gcall, sumFew14_f, sumFew14_D, sumFew14_flat, sumFew14_r, sumAwake14_f, sumAwake14_D, sumAwake14_flat, sumAwake14_r, sumBrkS_f, sumBrkS_D, sumBrkS_flat, sumBrkS_r, sumNmeS_f, sumNmeS_D, sumNmeS_flat, sumNmeS_r, sumGiven_f, sumGiven_D, sumGiven_flat, sumGiven_r, sumRightR_f, sumRightR_D, sumRightR_flat, sumRightR_r, sumChkR14_f, sumChkR14_D, sumChkR14_flat, sumChkR14_r, sumAhdR_f, sumAhdR_D, sumAhdR_flat, sumAhdR_r, sumRBegins_f, sumRBegins_D, sumRBegins_flat, sumRBegins_r, go_sem, reduceCtorEq, reduceIte, Nat.reduceEqDiff, Nat.reduceAdd, Nat.reduceSub, Nat.reduceMul, Nat.reduceLT, Nat.reduceLeDiff, Nat.reduceBEq, Int.reduceEq, Int.reduceLT, Int.reduceLE, Int.reduceAdd, Int.reduceSub, Int.reduceNeg, Int.reduceToNat]
    · obtain ⟨e1, e2⟩ := no (fun h => by unfold thrS chkS at h; rw [if_neg hr] at h; simp at h)
      simp only [c7, Doc.enc, dDoc_mk, Doc.eta, hf, hl, hr, hs, e1, e2, dIntss_map, intss, on_gcall, off_gcall, flat_gcall, sumFew14_f, sumFew14_D, sumFew14_flat, sumFew14_r, sumAwake14_f, sumAwake14_D, sumAwake14_flat, sumAwake14_r, sumBrkS_f, sumBrkS_D, sumBrkS_flat, sumBrkS_r, sumNmeS_f, sumNmeS_D, sumNmeS_flat, sumNmeS_r, sumGiven_f, sumGiven_D, sumGiven_flat, sumGiven_r, sumRightR_f, sumRightR_D, sumRightR_flat, sumRightR_r, sumChkR14_f, sumChkR14_D, sumChkR14_flat, sumChkR14_r, sumAhdR_f, sumAhdR_D, sumAhdR_flat, sumAhdR_r, sumRBegins_f, sumRBegins_D, sumRBegins_flat, sumRBegins_r, go_sem, reduceCtorEq, reduceIte, Nat.reduceEqDiff, Nat.reduceAdd, Nat.reduceSub, Nat.reduceMul, Nat.reduceLT, Nat.reduceLeDiff, Nat.reduceBEq, Int.reduceEq, Int.reduceLT, Int.reduceLE, Int.reduceAdd, Int.reduceSub, Int.reduceNeg, Int.reduceToNat]
  · simp only [c7, Doc.enc, dDoc_mk, Doc.eta, hf, dIntss_map, intss, on_gcall, off_gcall, flat_gcall, sumFew14_f, sumFew14_D, sumFew14_flat, sumFew14_r, sumAwake14_f, sumAwake14_D, sumAwake14_flat, sumAwake14_r, sumBrkS_f, sumBrkS_D, sumBrkS_flat, sumBrkS_r, sumNmeS_f, sumNmeS_D, sumNmeS_flat, sumNmeS_r, sumGiven_f, sumGiven_D, sumGiven_flat, sumGiven_r, sumRightR_f, sumRightR_D, sumRightR_flat, sumRightR_r, sumChkR14_f, sumChkR14_D, sumChkR14_flat, sumChkR14_r, sumAhdR_f, sumAhdR_D, sumAhdR_flat, sumAhdR_r, sumRBegins_f, sumRBegins_D, sumRBegins_flat, sumRBegins_r, go_sem, reduceCtorEq, reduceIte, Nat.reduceEqDiff, Nat.reduceAdd, Nat.reduceSub, Nat.reduceMul, Nat.reduceLT, Nat.reduceLeDiff, Nat.reduceBEq, Int.reduceEq, Int.reduceLT, Int.reduceLE, Int.reduceAdd, Int.reduceSub, Int.reduceNeg, Int.reduceToNat]
end Go.Proofs.Ytjgkejnojggaaaa
