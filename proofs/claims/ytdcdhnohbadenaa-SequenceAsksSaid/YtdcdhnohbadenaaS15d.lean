/- The laws of sequences: the pages. -/
import Derived.Test.YtdcdhnohbadenaaS15c
namespace Go.Proofs.Ytdcdhnohbadenaa
open Go.Sx
set_option linter.unusedSimpArgs false
set_option maxHeartbeats 4000000
set_option maxRecDepth 20000

theorem sequencePages_law (x : List V) (hl : x.length = 5) (h : ∀ i c, docC[i]? = some c → CellOK c (x.getD i .any)) (y : V) (h' : CellOK scC y) : PCall Try.prog 3 [.agg x, y] (.c (.bool true)) := by
  obtain ⟨d, rfl⟩ := doc_of hl h
  obtain ⟨sc, rfl⟩ := intss_of h'
  refine PCall.of (Orc.cons sumFew14 (Orc.cons sumAwake15 (Orc.cons sumPages (Orc.cons sumGiven (Orc.cons sumRightR (Orc.cons sumChkR14 (Orc.cons sumPgR (Orc.nil _)))))))) c3_ok (by simp [c3]) fun w0 own0 => ?_
  by_cases hf : few14 d sc = true
  · obtain ⟨f1, f2, f3⟩ := few14_ss hf
    have hs := few14_okS hf
    have hn := few12_len f1
    have hl : d.l.length ≤ 1000 := by omega
    have hs2 : sc.length ≤ 1000 := by omega
    by_cases hr : rightB d = true
    · have hok : okL d := ⟨rightB_ok hr, hl⟩
      have e : chkS d sc = chkI d sc := by unfold chkS; rw [if_pos hr, if_neg (by omega)]
      by_cases hc : (chkI d sc).2 = 0
      · have hc' : (chkS d sc).2 = 0 := by rw [e]; exact hc
        have hP : pagesR d sc = .tup [shs (pgL d sc sc.length), vi 0] := by unfold pagesR; rw [if_pos hc']
        simp only [c3, Doc.enc, dDoc_mk, Doc.eta, hf, hl, hr, hs, hs2, hok, hc, hc', hP, dIntss_map, intss, shs, on_gcall, off_gcall, flat_gcall, sumFew14_f, sumFew14_D, sumFew14_flat, sumFew14_r, sumAwake15_f, sumAwake15_D, sumAwake15_flat, sumAwake15_r, sumPages_f, sumPages_D, sumPages_flat, sumPages_r, sumGiven_f, sumGiven_D, sumGiven_flat, sumGiven_r, sumRightR_f, sumRightR_D, sumRightR_flat, sumRightR_r, sumChkR14_f, sumChkR14_D, sumChkR14_flat, sumChkR14_r, sumPgR_f, sumPgR_D, sumPgR_flat, sumPgR_r, go_sem, reduceCtorEq, reduceIte, Nat.reduceEqDiff, Nat.reduceAdd, Nat.reduceSub, Nat.reduceMul, Nat.reduceLT, Nat.reduceLeDiff, Nat.reduceBEq, Int.reduceEq, Int.reduceLT, Int.reduceLE, Int.reduceAdd, Int.reduceSub, Int.reduceNeg, Int.reduceToNat]
        refine SemC.lp (α := PgS) (fun b => [(5, .slc 6 ((pgL d sc sc.length).map Sh.enc)), (70, .slc 6 ((pgL d sc sc.length).map Sh.enc)), (71, vi (pgL d sc sc.length).length), (72, vi b.n)]) (fun b => ⟨[⟨0, 5, [d.enc], false, []⟩, ⟨1, 5, [d.enc], false, []⟩], b.clk⟩)
          (fun b => b.n ≤ (pgL d sc sc.length).length) (fun b => (pgL d sc sc.length).length - b.n) ⟨0, 0, 2⟩ (Nat.zero_le _) (St.mk (by simp [Agrees, upd_at, initE_at, Doc.enc])) fun b hb => ?_
        obtain ⟨i, ver, clk⟩ := b
        simp only at hb
        by_cases he : i = (pgL d sc sc.length).length
        · subst he
          simp only [Doc.enc, Int.lt_irrefl, on_gcall, off_gcall, flat_gcall, sumFew14_f, sumFew14_D, sumFew14_flat, sumFew14_r, sumAwake15_f, sumAwake15_D, sumAwake15_flat, sumAwake15_r, sumPages_f, sumPages_D, sumPages_flat, sumPages_r, sumGiven_f, sumGiven_D, sumGiven_flat, sumGiven_r, sumRightR_f, sumRightR_D, sumRightR_flat, sumRightR_r, sumChkR14_f, sumChkR14_D, sumChkR14_flat, sumChkR14_r, sumPgR_f, sumPgR_D, sumPgR_flat, sumPgR_r, go_sem, reduceCtorEq, reduceIte, Nat.reduceEqDiff, Nat.reduceAdd, Nat.reduceSub, Nat.reduceMul, Nat.reduceLT, Nat.reduceLeDiff, Nat.reduceBEq, Int.reduceEq, Int.reduceLT, Int.reduceLE, Int.reduceAdd, Int.reduceSub, Int.reduceNeg, Int.reduceToNat]
        · have e1 : (i : Int) < ((pgL d sc sc.length).length : Int) := by omega
          have e0 : (0 : Int) ≤ (i : Int) := by omega
          have hg := getD_shs (pgL d sc sc.length) i zSh (by omega)
          simp only [Doc.enc, e0, e1, hg, Sh.enc, on_gcall, off_gcall, flat_gcall, sumFew14_f, sumFew14_D, sumFew14_flat, sumFew14_r, sumAwake15_f, sumAwake15_D, sumAwake15_flat, sumAwake15_r, sumPages_f, sumPages_D, sumPages_flat, sumPages_r, sumGiven_f, sumGiven_D, sumGiven_flat, sumGiven_r, sumRightR_f, sumRightR_D, sumRightR_flat, sumRightR_r, sumChkR14_f, sumChkR14_D, sumChkR14_flat, sumChkR14_r, sumPgR_f, sumPgR_D, sumPgR_flat, sumPgR_r, go_sem, reduceCtorEq, reduceIte, Nat.reduceEqDiff, Nat.reduceAdd, Nat.reduceSub, Nat.reduceMul, Nat.reduceLT, Nat.reduceLeDiff, Nat.reduceBEq, Int.reduceEq, Int.reduceLT, Int.reduceLE, Int.reduceAdd, Int.reduceSub, Int.reduceNeg, Int.reduceToNat]
          have hpl := pgL_len d sc sc.length
          exact ⟨rfl, ⟨by omega, by omega⟩, ⟨i + 1, 0, clk + 1⟩, by dsimp only; omega, by dsimp only; omega, by dsimp only; omega, rfl⟩
      · have hc' : ¬ (chkS d sc).2 = 0 := by rw [e]; exact hc
        have hP : pagesR d sc = .tup [vnil, vi (chkI d sc).2] := by unfold pagesR; rw [if_neg hc', e]
        simp only [c3, Doc.enc, dDoc_mk, Doc.eta, hf, hl, hr, hs, hs2, hok, hc, hc', hP, dIntss_map, intss, shs, on_gcall, off_gcall, flat_gcall, sumFew14_f, sumFew14_D, sumFew14_flat, sumFew14_r, sumAwake15_f, sumAwake15_D, sumAwake15_flat, sumAwake15_r, sumPages_f, sumPages_D, sumPages_flat, sumPages_r, sumGiven_f, sumGiven_D, sumGiven_flat, sumGiven_r, sumRightR_f, sumRightR_D, sumRightR_flat, sumRightR_r, sumChkR14_f, sumChkR14_D, sumChkR14_flat, sumChkR14_r, sumPgR_f, sumPgR_D, sumPgR_flat, sumPgR_r, go_sem, reduceCtorEq, reduceIte, Nat.reduceEqDiff, Nat.reduceAdd, Nat.reduceSub, Nat.reduceMul, Nat.reduceLT, Nat.reduceLeDiff, Nat.reduceBEq, Int.reduceEq, Int.reduceLT, Int.reduceLE, Int.reduceAdd, Int.reduceSub, Int.reduceNeg, Int.reduceToNat]
    · have e : chkS d sc = (0, 1) := by unfold chkS; rw [if_neg hr]
      have hP : pagesR d sc = .tup [vnil, vi 1] := by unfold pagesR; rw [if_neg (by rw [e]; decide), e]
      simp only [c3, Doc.enc, dDoc_mk, Doc.eta, hf, hl, hr, hs, hs2, hP, dIntss_map, intss, shs, on_gcall, off_gcall, flat_gcall, sumFew14_f, sumFew14_D, sumFew14_flat, sumFew14_r, sumAwake15_f, sumAwake15_D, sumAwake15_flat, sumAwake15_r, sumPages_f, sumPages_D, sumPages_flat, sumPages_r, sumGiven_f, sumGiven_D, sumGiven_flat, sumGiven_r, sumRightR_f, sumRightR_D, sumRightR_flat, sumRightR_r, sumChkR14_f, sumChkR14_D, sumChkR14_flat, sumChkR14_r, sumPgR_f, sumPgR_D, sumPgR_flat, sumPgR_r, go_sem, reduceCtorEq, reduceIte, Nat.reduceEqDiff, Nat.reduceAdd, Nat.reduceSub, Nat.reduceMul, Nat.reduceLT, Nat.reduceLeDiff, Nat.reduceBEq, Int.reduceEq, Int.reduceLT, Int.reduceLE, Int.reduceAdd, Int.reduceSub, Int.reduceNeg, Int.reduceToNat]
  · simp only [c3, Doc.enc, dDoc_mk, Doc.eta, hf, dIntss_map, intss, on_gcall, off_gcall, flat_gcall, sumFew14_f, sumFew14_D, sumFew14_flat, sumFew14_r, sumAwake15_f, sumAwake15_D, sumAwake15_flat, sumAwake15_r, sumPages_f, sumPages_D, sumPages_flat, sumPages_r, sumGiven_f, sumGiven_D, sumGiven_flat, sumGiven_r, sumRightR_f, sumRightR_D, sumRightR_flat, sumRightR_r, sumChkR14_f, sumChkR14_D, sumChkR14_flat, sumChkR14_r, sumPgR_f, sumPgR_D, sumPgR_flat, sumPgR_r, go_sem, reduceCtorEq, reduceIte, Nat.reduceEqDiff, Nat.reduceAdd, Nat.reduceSub, Nat.reduceMul, Nat.reduceLT, Nat.reduceLeDiff, Nat.reduceBEq, Int.reduceEq, Int.reduceLT, Int.reduceLE, Int.reduceAdd, Int.reduceSub, Int.reduceNeg, Int.reduceToNat]
end Go.Proofs.Ytdcdhnohbadenaa
