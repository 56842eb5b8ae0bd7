/- The laws of sequences: blank sheets; what is asked for. -/
import Derived.Test.YtdcdhnohbadenaaS15f
namespace Go.Proofs.Ytdcdhnohbadenaa
open Go.Sx
set_option linter.unusedSimpArgs false
set_option maxHeartbeats 4000000
set_option maxRecDepth 20000

theorem sequenceBlank_law (x : List V) (hl : x.length = 5) (h : ∀ i c, docC[i]? = some c → CellOK c (x.getD i .any)) (y : V) (h' : CellOK scC y) : PCall Try.prog 4 [.agg x, y] (.c (.bool true)) := by
  obtain ⟨d, rfl⟩ := doc_of hl h
  obtain ⟨sc, rfl⟩ := intss_of h'
  refine PCall.of (Orc.cons sumFew14 (Orc.cons sumAwake15 (Orc.cons sumPages (Orc.cons sumAhd (Orc.nil _))))) c4_ok (by simp [c4]) fun w0 own0 => ?_
  by_cases hf : few14 d sc = true
  · obtain ⟨f1, f2, f3⟩ := few14_ss hf
    have hs := few14_okS hf
    have hn := few12_len f1
    have hl : d.l.length ≤ 1000 := by omega
    have hs2 : sc.length ≤ 1000 := by omega
    by_cases hc : (chkS d sc).2 = 0
    · have hP : pagesR d sc = .tup [shs (pgL d sc sc.length), vi 0] := by unfold pagesR; rw [if_pos hc]
      obtain ⟨hw, hnb⟩ := pgL_wf d sc sc.length
      obtain ⟨_, hcnt, hadj⟩ := pgL_ok d sc sc.length
      have hpl := pgL_len d sc sc.length
      have hlc := len_cnt (pgL d sc sc.length)
      rw [hnb] at hlc
      have hsh := fun i (hi : i < (pgL d sc sc.length).length) h0 => sheet_at hc hi h0
      simp only [c4, Doc.enc, hf, hs, hs2, hP, dDoc_mk, Doc.eta, hl, dIntss_map, intss, dShs_map, shs, on_gcall, off_gcall, flat_gcall, sumFew14_f, sumFew14_D, sumFew14_flat, sumFew14_r, sumAwake15_f, sumAwake15_D, sumAwake15_flat, sumAwake15_r, sumPages_f, sumPages_D, sumPages_flat, sumPages_r, sumAhd_f, sumAhd_D, sumAhd_flat, sumAhd_r, go_sem, reduceCtorEq, reduceIte, Nat.reduceEqDiff, Nat.reduceAdd, Nat.reduceSub, Nat.reduceMul, Nat.reduceLT, Nat.reduceLeDiff, Nat.reduceBEq, Int.reduceEq, Int.reduceLT, Int.reduceLE, Int.reduceAdd, Int.reduceSub, Int.reduceNeg, Int.reduceToNat]
      generalize hL : pgL d sc sc.length = L at *
      refine SemC.lp (α := PgS) (fun b => [(1, .slc 1 (sc.map fun s => [.slc 1 (s.map fun n => [vi n])])), (2, .ptr 0 0 0 0), (5, .slc 6 (L.map Sh.enc)), (30, .slc 6 (L.map Sh.enc)), (31, vi L.length), (32, vi b.n)]) (fun b => ⟨[⟨0, 5, [d.enc], false, []⟩], b.clk⟩)
        (fun b => b.n ≤ L.length) (fun b => L.length - b.n) ⟨0, 0, 1⟩ (Nat.zero_le _) (St.mk (by simp [Agrees, upd_at, initE_at, Doc.enc])) fun b hb => ?_
      obtain ⟨i, ver, clk⟩ := b
      simp only at hb
      by_cases he : i = L.length
      · subst he
        simp only [Doc.enc, Int.lt_irrefl, dDoc_mk, Doc.eta, hl, dIntss_map, intss, dShs_map, shs, on_gcall, off_gcall, flat_gcall, sumFew14_f, sumFew14_D, sumFew14_flat, sumFew14_r, sumAwake15_f, sumAwake15_D, sumAwake15_flat, sumAwake15_r, sumPages_f, sumPages_D, sumPages_flat, sumPages_r, sumAhd_f, sumAhd_D, sumAhd_flat, sumAhd_r, go_sem, reduceCtorEq, reduceIte, Nat.reduceEqDiff, Nat.reduceAdd, Nat.reduceSub, Nat.reduceMul, Nat.reduceLT, Nat.reduceLeDiff, Nat.reduceBEq, Int.reduceEq, Int.reduceLT, Int.reduceLE, Int.reduceAdd, Int.reduceSub, Int.reduceNeg, Int.reduceToNat]
      · have e1 : (i : Int) < (L.length : Int) := by omega
        have e0 : (0 : Int) ≤ (i : Int) := by omega
        have hg := getD_shs L i zSh (by omega)
        have hi : i < L.length := by omega
        obtain ⟨g1, g2, g3, g4, g5, g6⟩ := hw i hi
        by_cases hb0 : 0 ≤ (L.getD i default).seg
        · obtain ⟨k, s1, s2, s3, s4, s5, s6⟩ := hsh i hi hb0
          have hbl : (L.getD i default).blank = false := by rw [g4, decide_eq_false_iff_not]; omega
          have hgk := getD_intss sc k [vnil] s1
          have e2 : (0 : Int) ≤ (k : Int) := by omega
          have e3 : (k : Int) < (sc.length : Int) := by omega
          have e4 : (0 : Int) < ((sc.getD k []).length : Int) := by omega
          by_cases hz : i = 0
          · have e5 : ¬ (0 : Int) < (i : Int) := by omega
            by_cases b3 : brkS d sc k = 3
            · have hr := s6 b3
              simp only [Doc.enc, e0, e1, hg, Sh.enc, hbl, s2, s4, hgk, e2, e3, e4, e5, b3, hr, dDoc_mk, Doc.eta, hl, dIntss_map, intss, dShs_map, shs, on_gcall, off_gcall, flat_gcall, sumFew14_f, sumFew14_D, sumFew14_flat, sumFew14_r, sumAwake15_f, sumAwake15_D, sumAwake15_flat, sumAwake15_r, sumPages_f, sumPages_D, sumPages_flat, sumPages_r, sumAhd_f, sumAhd_D, sumAhd_flat, sumAhd_r, go_sem, reduceCtorEq, reduceIte, Nat.reduceEqDiff, Nat.reduceAdd, Nat.reduceSub, Nat.reduceMul, Nat.reduceLT, Nat.reduceLeDiff, Nat.reduceBEq, Int.reduceEq, Int.reduceLT, Int.reduceLE, Int.reduceAdd, Int.reduceSub, Int.reduceNeg, Int.reduceToNat]
              exact ⟨⟨by omega, by omega⟩, ⟨i + 1, 0, clk + 1⟩, by dsimp only; omega, by dsimp only; omega, by dsimp only; omega, rfl⟩
            · by_cases b4 : brkS d sc k = 4
              · have hr := s5 b4
                simp only [Doc.enc, e0, e1, hg, Sh.enc, hbl, s2, s4, hgk, e2, e3, e4, e5, b4, hr, dDoc_mk, Doc.eta, hl, dIntss_map, intss, dShs_map, shs, on_gcall, off_gcall, flat_gcall, sumFew14_f, sumFew14_D, sumFew14_flat, sumFew14_r, sumAwake15_f, sumAwake15_D, sumAwake15_flat, sumAwake15_r, sumPages_f, sumPages_D, sumPages_flat, sumPages_r, sumAhd_f, sumAhd_D, sumAhd_flat, sumAhd_r, go_sem, reduceCtorEq, reduceIte, Nat.reduceEqDiff, Nat.reduceAdd, Nat.reduceSub, Nat.reduceMul, Nat.reduceLT, Nat.reduceLeDiff, Nat.reduceBEq, Int.reduceEq, Int.reduceLT, Int.reduceLE, Int.reduceAdd, Int.reduceSub, Int.reduceNeg, Int.reduceToNat]
                exact ⟨⟨by omega, by omega⟩, ⟨i + 1, 0, clk + 1⟩, by dsimp only; omega, by dsimp only; omega, by dsimp only; omega, rfl⟩
              · skip
                simp only [Doc.enc, e0, e1, hg, Sh.enc, hbl, s2, s4, hgk, e2, e3, e4, e5, b3, b4, dDoc_mk, Doc.eta, hl, dIntss_map, intss, dShs_map, shs, on_gcall, off_gcall, flat_gcall, sumFew14_f, sumFew14_D, sumFew14_flat, sumFew14_r, sumAwake15_f, sumAwake15_D, sumAwake15_flat, sumAwake15_r, sumPages_f, sumPages_D, sumPages_flat, sumPages_r, sumAhd_f, sumAhd_D, sumAhd_flat, sumAhd_r, go_sem, reduceCtorEq, reduceIte, Nat.reduceEqDiff, Nat.reduceAdd, Nat.reduceSub, Nat.reduceMul, Nat.reduceLT, Nat.reduceLeDiff, Nat.reduceBEq, Int.reduceEq, Int.reduceLT, Int.reduceLE, Int.reduceAdd, Int.reduceSub, Int.reduceNeg, Int.reduceToNat]
                exact ⟨⟨by omega, by omega⟩, ⟨i + 1, 0, clk + 1⟩, by dsimp only; omega, by dsimp only; omega, by dsimp only; omega, rfl⟩
          · obtain ⟨j, hj⟩ : ∃ j, i = j + 1 := ⟨i - 1, by omega⟩
            have e5 : (0 : Int) < (i : Int) := by omega
            have e6 : (i : Int) - 1 = (j : Int) := by omega
            have e7 : (0 : Int) ≤ (j : Int) := by omega
            have e8 : (j : Int) < (L.length : Int) := by omega
            have hgj := getD_shs L j zSh (by omega)
            by_cases b3 : brkS d sc k = 3
            · have hr := s6 b3
              cases hbj : (L.getD j default).blank with
              | true =>
                simp only [Doc.enc, e0, e1, hg, Sh.enc, hbl, s2, s4, hgk, e2, e3, e4, e5, e6, e7, e8, hgj, hbj, b3, hr, dDoc_mk, Doc.eta, hl, dIntss_map, intss, dShs_map, shs, on_gcall, off_gcall, flat_gcall, sumFew14_f, sumFew14_D, sumFew14_flat, sumFew14_r, sumAwake15_f, sumAwake15_D, sumAwake15_flat, sumAwake15_r, sumPages_f, sumPages_D, sumPages_flat, sumPages_r, sumAhd_f, sumAhd_D, sumAhd_flat, sumAhd_r, go_sem, reduceCtorEq, reduceIte, Nat.reduceEqDiff, Nat.reduceAdd, Nat.reduceSub, Nat.reduceMul, Nat.reduceLT, Nat.reduceLeDiff, Nat.reduceBEq, Int.reduceEq, Int.reduceLT, Int.reduceLE, Int.reduceAdd, Int.reduceSub, Int.reduceNeg, Int.reduceToNat]
                exact ⟨⟨by omega, by omega⟩, ⟨by omega, by omega⟩, ⟨i + 1, 0, clk + 1⟩, by dsimp only; omega, by dsimp only; omega, by dsimp only; omega, rfl⟩
              | false =>
                simp only [Doc.enc, e0, e1, hg, Sh.enc, hbl, s2, s4, hgk, e2, e3, e4, e5, e6, e7, e8, hgj, hbj, b3, hr, dDoc_mk, Doc.eta, hl, dIntss_map, intss, dShs_map, shs, on_gcall, off_gcall, flat_gcall, sumFew14_f, sumFew14_D, sumFew14_flat, sumFew14_r, sumAwake15_f, sumAwake15_D, sumAwake15_flat, sumAwake15_r, sumPages_f, sumPages_D, sumPages_flat, sumPages_r, sumAhd_f, sumAhd_D, sumAhd_flat, sumAhd_r, go_sem, reduceCtorEq, reduceIte, Nat.reduceEqDiff, Nat.reduceAdd, Nat.reduceSub, Nat.reduceMul, Nat.reduceLT, Nat.reduceLeDiff, Nat.reduceBEq, Int.reduceEq, Int.reduceLT, Int.reduceLE, Int.reduceAdd, Int.reduceSub, Int.reduceNeg, Int.reduceToNat]
                exact ⟨⟨by omega, by omega⟩, ⟨by omega, by omega⟩, ⟨i + 1, 0, clk + 1⟩, by dsimp only; omega, by dsimp only; omega, by dsimp only; omega, rfl⟩
            · by_cases b4 : brkS d sc k = 4
              · have hr := s5 b4
                cases hbj : (L.getD j default).blank with
                | true =>
                  simp only [Doc.enc, e0, e1, hg, Sh.enc, hbl, s2, s4, hgk, e2, e3, e4, e5, e6, e7, e8, hgj, hbj, b4, hr, dDoc_mk, Doc.eta, hl, dIntss_map, intss, dShs_map, shs, on_gcall, off_gcall, flat_gcall, sumFew14_f, sumFew14_D, sumFew14_flat, sumFew14_r, sumAwake15_f, sumAwake15_D, sumAwake15_flat, sumAwake15_r, sumPages_f, sumPages_D, sumPages_flat, sumPages_r, sumAhd_f, sumAhd_D, sumAhd_flat, sumAhd_r, go_sem, reduceCtorEq, reduceIte, Nat.reduceEqDiff, Nat.reduceAdd, Nat.reduceSub, Nat.reduceMul, Nat.reduceLT, Nat.reduceLeDiff, Nat.reduceBEq, Int.reduceEq, Int.reduceLT, Int.reduceLE, Int.reduceAdd, Int.reduceSub, Int.reduceNeg, Int.reduceToNat]
                  exact ⟨⟨by omega, by omega⟩, ⟨by omega, by omega⟩, ⟨i + 1, 0, clk + 1⟩, by dsimp only; omega, by dsimp only; omega, by dsimp only; omega, rfl⟩
                | false =>
                  simp only [Doc.enc, e0, e1, hg, Sh.enc, hbl, s2, s4, hgk, e2, e3, e4, e5, e6, e7, e8, hgj, hbj, b4, hr, dDoc_mk, Doc.eta, hl, dIntss_map, intss, dShs_map, shs, on_gcall, off_gcall, flat_gcall, sumFew14_f, sumFew14_D, sumFew14_flat, sumFew14_r, sumAwake15_f, sumAwake15_D, sumAwake15_flat, sumAwake15_r, sumPages_f, sumPages_D, sumPages_flat, sumPages_r, sumAhd_f, sumAhd_D, sumAhd_flat, sumAhd_r, go_sem, reduceCtorEq, reduceIte, Nat.reduceEqDiff, Nat.reduceAdd, Nat.reduceSub, Nat.reduceMul, Nat.reduceLT, Nat.reduceLeDiff, Nat.reduceBEq, Int.reduceEq, Int.reduceLT, Int.reduceLE, Int.reduceAdd, Int.reduceSub, Int.reduceNeg, Int.reduceToNat]
                  exact ⟨⟨by omega, by omega⟩, ⟨by omega, by omega⟩, ⟨i + 1, 0, clk + 1⟩, by dsimp only; omega, by dsimp only; omega, by dsimp only; omega, rfl⟩
              · have hbj : (L.getD j default).blank = false := by
                  obtain ⟨_, _, _, p4, _, _⟩ := hw j (by omega)
                  rw [p4, decide_eq_false_iff_not]
                  intro hneg
                  obtain ⟨_, _, _, p5⟩ := hadj j (by omega) hneg
                  rw [← hj, s2] at p5
                  rcases p5 with p5 | p5
                  · exact b3 p5
                  · exact b4 p5
                simp only [Doc.enc, e0, e1, hg, Sh.enc, hbl, s2, s4, hgk, e2, e3, e4, e5, e6, e7, e8, hgj, hbj, b3, b4, dDoc_mk, Doc.eta, hl, dIntss_map, intss, dShs_map, shs, on_gcall, off_gcall, flat_gcall, sumFew14_f, sumFew14_D, sumFew14_flat, sumFew14_r, sumAwake15_f, sumAwake15_D, sumAwake15_flat, sumAwake15_r, sumPages_f, sumPages_D, sumPages_flat, sumPages_r, sumAhd_f, sumAhd_D, sumAhd_flat, sumAhd_r, go_sem, reduceCtorEq, reduceIte, Nat.reduceEqDiff, Nat.reduceAdd, Nat.reduceSub, Nat.reduceMul, Nat.reduceLT, Nat.reduceLeDiff, Nat.reduceBEq, Int.reduceEq, Int.reduceLT, Int.reduceLE, Int.reduceAdd, Int.reduceSub, Int.reduceNeg, Int.reduceToNat]
                exact ⟨⟨by omega, by omega⟩, ⟨by omega, by omega⟩, ⟨i + 1, 0, clk + 1⟩, by dsimp only; omega, by dsimp only; omega, by dsimp only; omega, rfl⟩
        · have hbl : (L.getD i default).blank = true := by rw [g4, decide_eq_true_eq]; omega
          obtain ⟨p1, p2, p3, _⟩ := hadj i hi (by omega)
          obtain ⟨_, _, _, p4, _, _⟩ := hw (i + 1) p1
          have hbl1 : (L.getD (i + 1) default).blank = false := by rw [p4, decide_eq_false_iff_not]; omega
          have hg1 := getD_shs L (i + 1) zSh p1
          have e2 : (0 : Int) ≤ (i : Int) + 1 := by omega
          have e3 : (i : Int) + 1 < (L.length : Int) := by omega
          have e4 : ¬ (i : Int) + 1 = (L.length : Int) := by omega
          have e5 : ((i : Int) + 1).toNat = i + 1 := by omega
          simp only [Doc.enc, e0, e1, hg, Sh.enc, hbl, e2, e3, e4, e5, hg1, hbl1, p3, dDoc_mk, Doc.eta, hl, dIntss_map, intss, dShs_map, shs, on_gcall, off_gcall, flat_gcall, sumFew14_f, sumFew14_D, sumFew14_flat, sumFew14_r, sumAwake15_f, sumAwake15_D, sumAwake15_flat, sumAwake15_r, sumPages_f, sumPages_D, sumPages_flat, sumPages_r, sumAhd_f, sumAhd_D, sumAhd_flat, sumAhd_r, go_sem, reduceCtorEq, reduceIte, Nat.reduceEqDiff, Nat.reduceAdd, Nat.reduceSub, Nat.reduceMul, Nat.reduceLT, Nat.reduceLeDiff, Nat.reduceBEq, Int.reduceEq, Int.reduceLT, Int.reduceLE, Int.reduceAdd, Int.reduceSub, Int.reduceNeg, Int.reduceToNat]
          exact ⟨⟨by omega, by omega⟩, ⟨by omega, by omega⟩, ⟨by omega, by omega⟩, ⟨by omega, by omega⟩, ⟨i + 1, 0, clk + 1⟩, by dsimp only; omega, by dsimp only; omega, by dsimp only; omega, rfl⟩
    · have hP : pagesR d sc = .tup [vnil, vi (chkS d sc).2] := by unfold pagesR; rw [if_neg hc]
      simp only [c4, Doc.enc, hf, hs, hs2, hc, hP, dDoc_mk, Doc.eta, hl, dIntss_map, intss, dShs_map, shs, on_gcall, off_gcall, flat_gcall, sumFew14_f, sumFew14_D, sumFew14_flat, sumFew14_r, sumAwake15_f, sumAwake15_D, sumAwake15_flat, sumAwake15_r, sumPages_f, sumPages_D, sumPages_flat, sumPages_r, sumAhd_f, sumAhd_D, sumAhd_flat, sumAhd_r, go_sem, reduceCtorEq, reduceIte, Nat.reduceEqDiff, Nat.reduceAdd, Nat.reduceSub, Nat.reduceMul, Nat.reduceLT, Nat.reduceLeDiff, Nat.reduceBEq, Int.reduceEq, Int.reduceLT, Int.reduceLE, Int.reduceAdd, Int.reduceSub, Int.reduceNeg, Int.reduceToNat]
  · simp only [c4, Doc.enc, hf, dDoc_mk, Doc.eta, dIntss_map, intss, dShs_map, shs, on_gcall, off_gcall, flat_gcall, sumFew14_f, sumFew14_D, sumFew14_flat, sumFew14_r, sumAwake15_f, sumAwake15_D, sumAwake15_flat, sumAwake15_r, sumPages_f, sumPages_D, sumPages_flat, sumPages_r, sumAhd_f, sumAhd_D, sumAhd_flat, sumAhd_r, go_sem, reduceCtorEq, reduceIte, Nat.reduceEqDiff, Nat.reduceAdd, Nat.reduceSub, Nat.reduceMul, Nat.reduceLT, Nat.reduceLeDiff, Nat.reduceBEq, Int.reduceEq, Int.reduceLT, Int.reduceLE, Int.reduceAdd, Int.reduceSub, Int.reduceNeg, Int.reduceToNat]
end Go.Proofs.Ytdcdhnohbadenaa
