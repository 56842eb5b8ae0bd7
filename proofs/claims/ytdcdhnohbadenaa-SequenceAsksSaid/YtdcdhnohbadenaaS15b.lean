/- The law's own Pages; the sheet of a segment. -/
import Derived.Test.YtdcdhnohbadenaaS15a
namespace Go.Proofs.Ytdcdhnohbadenaa
open Go.Sx
set_option linter.unusedSimpArgs false
set_option maxHeartbeats 4000000
set_option maxRecDepth 20000

theorem getD_shs (l : List Sh) (i : Nat) (d : List V) (h : i < l.length) : (l.map Sh.enc).getD i d = (l.getD i default).enc := by
  simp [List.getD_eq_getElem?_getD, h]
def sofA (n : Int) : List Sh → Int → Int
  | [], _ => -1
  | s :: l, k => if s.seg = n ∧ 0 ≤ n then k else sofA n l (k + 1)
def sof (l : List Sh) (n : Int) : Int := sofA n l 0
theorem of_ok (l : List Sh) (n : Int) (hl : l.length ≤ 100000) : PCall Try.prog 16 [shs l, vi n] (vi (sof l n)) := by
  refine PCall.of (Orc.nil _) c16_ok (by simp [c16]) fun w0 own0 => ?_
  simp only [c16, shs, go_sem, wpR_gcall, reduceCtorEq, reduceIte, Nat.reduceEqDiff, Nat.reduceAdd, Nat.reduceSub, Nat.reduceMul, Nat.reduceLT, Nat.reduceLeDiff, Nat.reduceBEq, Int.reduceEq, Int.reduceLT, Int.reduceLE, Int.reduceAdd, Int.reduceSub, Int.reduceNeg, Int.reduceToNat]
  refine SemC.lp (α := PgS) (fun a => [(1, vi n), (7, .slc 6 (l.map Sh.enc)), (8, vi l.length), (9, vi a.n)]) (fun a => ⟨[], a.clk⟩)
    (fun a => a.n ≤ l.length ∧ sof l n = sofA n (l.drop a.n) a.n) (fun a => l.length - a.n) ⟨0, 0, 0⟩ ⟨Nat.zero_le _, rfl⟩ (St.mk (by simp [Agrees, upd_at, initE_at])) fun a ha => ?_
  obtain ⟨k, ver, clk⟩ := a
  simp only at ha
  obtain ⟨h1, h2⟩ := ha
  by_cases he : k = l.length
  · subst he
    rw [List.drop_length] at h2
    simp only [Int.lt_irrefl, h2, sofA, go_sem, wpR_gcall, reduceCtorEq, reduceIte, Nat.reduceEqDiff, Nat.reduceAdd, Nat.reduceSub, Nat.reduceMul, Nat.reduceLT, Nat.reduceLeDiff, Nat.reduceBEq, Int.reduceEq, Int.reduceLT, Int.reduceLE, Int.reduceAdd, Int.reduceSub, Int.reduceNeg, Int.reduceToNat]
  · have e1 : (k : Int) < (l.length : Int) := by omega
    have e0 : (0 : Int) ≤ (k : Int) := by omega
    have hg := getD_shs l k zSh (by omega)
    rw [drop_cons' l k default (by omega)] at h2
    unfold sofA at h2
    by_cases h3 : (l.getD k default).seg = n
    · by_cases h4 : 0 ≤ n
      · rw [if_pos ⟨h3, h4⟩] at h2
        simp only [e0, e1, hg, Sh.enc, h2, h3, h4, go_sem, wpR_gcall, reduceCtorEq, reduceIte, Nat.reduceEqDiff, Nat.reduceAdd, Nat.reduceSub, Nat.reduceMul, Nat.reduceLT, Nat.reduceLeDiff, Nat.reduceBEq, Int.reduceEq, Int.reduceLT, Int.reduceLE, Int.reduceAdd, Int.reduceSub, Int.reduceNeg, Int.reduceToNat]
      · rw [if_neg (fun h => h4 h.2)] at h2
        simp only [e0, e1, hg, Sh.enc, h3, h4, go_sem, wpR_gcall, reduceCtorEq, reduceIte, Nat.reduceEqDiff, Nat.reduceAdd, Nat.reduceSub, Nat.reduceMul, Nat.reduceLT, Nat.reduceLeDiff, Nat.reduceBEq, Int.reduceEq, Int.reduceLT, Int.reduceLE, Int.reduceAdd, Int.reduceSub, Int.reduceNeg, Int.reduceToNat]
        refine ⟨by omega, ⟨k + 1, 0, clk + 1⟩, ⟨by dsimp only; omega, by dsimp only; rw [h2]; rfl⟩, by dsimp only; omega, by dsimp only; omega, rfl⟩
    · rw [if_neg (fun h => h3 h.1)] at h2
      simp only [e0, e1, hg, Sh.enc, h3, go_sem, wpR_gcall, reduceCtorEq, reduceIte, Nat.reduceEqDiff, Nat.reduceAdd, Nat.reduceSub, Nat.reduceMul, Nat.reduceLT, Nat.reduceLeDiff, Nat.reduceBEq, Int.reduceEq, Int.reduceLT, Int.reduceLE, Int.reduceAdd, Int.reduceSub, Int.reduceNeg, Int.reduceToNat]
      refine ⟨by omega, ⟨k + 1, 0, clk + 1⟩, ⟨by dsimp only; omega, by dsimp only; rw [h2]; rfl⟩, by dsimp only; omega, by dsimp only; omega, rfl⟩
def sumOf : Sum Try.prog := ⟨16, fun args => args = [shs (dShs (args.getD 0 .any)), vi ((args.getD 1 .any).int)] ∧ ((dShs (args.getD 0 .any))).length ≤ 100000, fun args => vi (sof (dShs (args.getD 0 .any)) ((args.getD 1 .any).int)), fun args h => by
  have := of_ok (dShs (args.getD 0 .any)) ((args.getD 1 .any).int) h.2; rwa [← h.1] at this, true⟩
theorem sumOf_f : sumOf.f = 16 := rfl
theorem sumOf_D (args : List V) : sumOf.D args = (args = [shs (dShs (args.getD 0 .any)), vi ((args.getD 1 .any).int)] ∧ ((dShs (args.getD 0 .any))).length ≤ 100000) := rfl
theorem sumOf_flat : sumOf.flat = true := rfl
theorem sumOf_r (args : List V) : sumOf.r args = vi (sof (dShs (args.getD 0 .any)) ((args.getD 1 .any).int)) := rfl
theorem pgR_ok (d : Doc) (sc : List (List Int)) (hl : d.l.length ≤ 1000) (hs : okS sc) (hs2 : sc.length ≤ 1000) (hc : (chkS d sc).2 = 0) : PCall Try.prog 13 [.agg d.enc, intss sc] (shs (pgL d sc sc.length)) := by
  refine PCall.of (Orc.cons sumAhdR (Orc.cons sumRBegins (Orc.nil _))) c13_ok (by simp [c13]) fun w0 own0 => ?_
  obtain ⟨hr, _⟩ := chk_zero hc
  have hok : okL d := ⟨rightB_ok hr, hl⟩
  simp only [c13, Doc.enc, intss, go_sem, wpR_gcall, reduceCtorEq, reduceIte, Nat.reduceEqDiff, Nat.reduceAdd, Nat.reduceSub, Nat.reduceMul, Nat.reduceLT, Nat.reduceLeDiff, Nat.reduceBEq, Int.reduceEq, Int.reduceLT, Int.reduceLE, Int.reduceAdd, Int.reduceSub, Int.reduceNeg, Int.reduceToNat]
  refine SemC.lp (α := PgS) (fun a => [(1, .slc 1 (sc.map fun s => [.slc 1 (s.map fun n => [vi n])])), (2, .ptr 0 0 0 0), (5, .ref 1 a.ver 0 (pgL d sc a.n).length), (6, vi ((pgL d sc a.n).length + 1)), (7, vi a.n)])
    (fun a => ⟨[⟨0, 5, [d.enc], false, []⟩, ⟨a.ver, 6, (pgL d sc a.n).map Sh.enc, false, zSh⟩], a.clk⟩) (fun a => a.n ≤ sc.length) (fun a => sc.length - a.n) ⟨0, 1, 2⟩ (Nat.zero_le _)
    (St.nil 5 6 zSh (by simp [upd_at]) (St.cut ?_ ?_ ?_)) fun a ha => ?_
  · simp [Agrees, upd_at, initE_at, pgL]
  · simp [Heap.alloc, pgL, Doc.enc]
  · rfl
  obtain ⟨n, ver, clk⟩ := a
  simp only at ha
  have hpl := pgL_len d sc n
  by_cases he : n = sc.length
  · subst he
    simp only [Doc.enc, Int.lt_irrefl, shs, List.take_length, Nat.le_refl, mapO_shs10, mapO_shs11, mapO_shs9, go_sem, wpR_gcall, reduceCtorEq, reduceIte, Nat.reduceEqDiff, Nat.reduceAdd, Nat.reduceSub, Nat.reduceMul, Nat.reduceLT, Nat.reduceLeDiff, Nat.reduceBEq, Int.reduceEq, Int.reduceLT, Int.reduceLE, Int.reduceAdd, Int.reduceSub, Int.reduceNeg, Int.reduceToNat]
  · have e1 : (n : Int) < (sc.length : Int) := by omega
    have e0 : (0 : Int) ≤ (n : Int) := by omega
    have ht : thrS d sc n = true := by unfold thrS; rw [decide_eq_true_eq]; exact ⟨hc, e0, e1⟩
    obtain ⟨_, i, m, hin, q1, q2, q3, q4, q5⟩ := thr_head ht
    obtain rfl : i = n := by omega
    have hkd : kD d m := ⟨hok, by omega, by omega, by rw [Int.toNat_natCast]; exact q5⟩
    have eb : joinT (brkA d m) = brkS d sc i := by
      unfold brkS ahdV; rw [if_pos ht, q3, thV_at hr q4, if_pos q5, Int.toNat_natCast]
    have en : usedN d (dwN d wF m) = nmeS d sc i := by
      unfold nmeS nmF; rw [if_pos ht, q3, thV_at hr q4, if_pos q5, Int.toNat_natCast]
    have hg := getD_intss sc i [vnil] q1
    have e3 : (0 : Int) < ((sc.getD i []).length : Int) := by omega
    unfold headS at q3
    rw [Int.toNat_natCast] at q3
    have hwd : wrgB (((pgL d sc i).length : Int) + 1) (brkS d sc i) = ((decide (brkS d sc i = 4) && !decide ((((pgL d sc i).length : Int) + 1) % 2 = 1)) || (decide (brkS d sc i = 3) && decide ((((pgL d sc i).length : Int) + 1) % 2 = 1))) := rfl
    have hst1 : wrgB (((pgL d sc i).length : Int) + 1) (brkS d sc i) = true → pgL d sc (i + 1) = addP (addP (pgL d sc i) (nmeS d sc i) (-1)) (nmeS d sc i) i := fun hw => by
      show addP (if wrgB (((pgL d sc i).length : Int) + 1) (brkS d sc i) = true then _ else _) _ _ = _
      rw [if_pos hw]
    have hst0 : wrgB (((pgL d sc i).length : Int) + 1) (brkS d sc i) = false → pgL d sc (i + 1) = addP (pgL d sc i) (nmeS d sc i) i := fun hw => by
      show addP (if wrgB (((pgL d sc i).length : Int) + 1) (brkS d sc i) = true then _ else _) _ _ = _
      rw [hw]; rfl
    have htm : (((pgL d sc i).length : Int) + 1).tmod 2 = (((pgL d sc i).length : Int) + 1) % 2 := Int.tmod_eq_emod_of_nonneg (by omega)
    have htm2 : (((pgL d sc i).length : Int) + 1 + 1).tmod 2 = (((pgL d sc i).length : Int) + 1 + 1) % 2 := Int.tmod_eq_emod_of_nonneg (by omega)
    have htk : ∀ (l : List Sh) (x : List V), (l.map Sh.enc ++ [x]).take (l.length + 1) = l.map Sh.enc ++ [x] := fun l x => List.take_of_length_le (by simp)
    by_cases hp : (((pgL d sc i).length : Int) + 1) % 2 = 1
    · by_cases h3 : brkS d sc i = 3
      · have hst := hst1 (by rw [hwd, hp, h3]; rfl)
        simp only [Doc.enc, dDoc_mk, Doc.eta, e0, e1, e3, hg, q3, hkd, eb, en, h3, hp, htm, List.take_length, Nat.le_refl, mapO_shs9, mapO_shs10, mapO_shs11, on_gcall, off_gcall, flat_gcall, sumAhdR_f, sumAhdR_D, sumAhdR_flat, sumAhdR_r, sumRBegins_f, sumRBegins_D, sumRBegins_flat, sumRBegins_r, go_sem, reduceCtorEq, reduceIte, Nat.reduceEqDiff, Nat.reduceAdd, Nat.reduceSub, Nat.reduceMul, Nat.reduceLT, Nat.reduceLeDiff, Nat.reduceBEq, Int.reduceEq, Int.reduceLT, Int.reduceLE, Int.reduceAdd, Int.reduceSub, Int.reduceNeg, Int.reduceToNat]
        have hlen : (pgL d sc (i + 1)).length = (pgL d sc i).length + 2 := by rw [hst]; simp [addP]
        repeat' apply And.intro
        all_goals first | decide | omega | (simp; done) | (simp; omega) | skip
        refine ⟨⟨i + 1, clk + 1 + 1 + 1, clk + 1 + 1 + 1 + 1⟩, ?_⟩
        dsimp only
        rw [hlen]
        refine ⟨by omega, by omega, ⟨⟨rfl, rfl⟩, by omega, by omega⟩, ⟨rfl, ?_⟩, rfl⟩
        rw [hst]
        simp [addP, mkSh, Sh.enc, htk, htm, htm2, hp]
      · have h3' : ¬ (decide (brkS d sc i = 3)) = true := by simpa using h3
        have hst := hst0 (by rw [hwd, hp]; simp [h3])
        by_cases h4 : brkS d sc i = 4
        · skip
          simp only [Doc.enc, dDoc_mk, Doc.eta, e0, e1, e3, hg, q3, hkd, eb, en, h4, hp, htm, List.take_length, Nat.le_refl, mapO_shs9, mapO_shs10, mapO_shs11, on_gcall, off_gcall, flat_gcall, sumAhdR_f, sumAhdR_D, sumAhdR_flat, sumAhdR_r, sumRBegins_f, sumRBegins_D, sumRBegins_flat, sumRBegins_r, go_sem, reduceCtorEq, reduceIte, Nat.reduceEqDiff, Nat.reduceAdd, Nat.reduceSub, Nat.reduceMul, Nat.reduceLT, Nat.reduceLeDiff, Nat.reduceBEq, Int.reduceEq, Int.reduceLT, Int.reduceLE, Int.reduceAdd, Int.reduceSub, Int.reduceNeg, Int.reduceToNat]
          have hlen : (pgL d sc (i + 1)).length = (pgL d sc i).length + 1 := by rw [hst]; simp [addP]
          repeat' apply And.intro
          all_goals first | decide | omega | (simp; done) | (simp; omega) | skip
          refine ⟨⟨i + 1, clk + 1, clk + 1 + 1⟩, ?_⟩
          dsimp only
          rw [hlen]
          refine ⟨by omega, by omega, ⟨⟨rfl, rfl⟩, by omega, by omega⟩, ⟨rfl, ?_⟩, rfl⟩
          rw [hst]
          simp [addP, mkSh, Sh.enc, htk, htm, htm2, hp]
        · skip
          simp only [Doc.enc, dDoc_mk, Doc.eta, e0, e1, e3, hg, q3, hkd, eb, en, h3, h4, hp, htm, List.take_length, Nat.le_refl, mapO_shs9, mapO_shs10, mapO_shs11, on_gcall, off_gcall, flat_gcall, sumAhdR_f, sumAhdR_D, sumAhdR_flat, sumAhdR_r, sumRBegins_f, sumRBegins_D, sumRBegins_flat, sumRBegins_r, go_sem, reduceCtorEq, reduceIte, Nat.reduceEqDiff, Nat.reduceAdd, Nat.reduceSub, Nat.reduceMul, Nat.reduceLT, Nat.reduceLeDiff, Nat.reduceBEq, Int.reduceEq, Int.reduceLT, Int.reduceLE, Int.reduceAdd, Int.reduceSub, Int.reduceNeg, Int.reduceToNat]
          have hlen : (pgL d sc (i + 1)).length = (pgL d sc i).length + 1 := by rw [hst]; simp [addP]
          repeat' apply And.intro
          all_goals first | decide | omega | (simp; done) | (simp; omega) | skip
          refine ⟨⟨i + 1, clk + 1, clk + 1 + 1⟩, ?_⟩
          dsimp only
          rw [hlen]
          refine ⟨by omega, by omega, ⟨⟨rfl, rfl⟩, by omega, by omega⟩, ⟨rfl, ?_⟩, rfl⟩
          rw [hst]
          simp [addP, mkSh, Sh.enc, htk, htm, htm2, hp]
    · have hp0 : (((pgL d sc i).length : Int) + 1) % 2 = 0 := by omega
      by_cases h4 : brkS d sc i = 4
      · have hst := hst1 (by rw [hwd, hp0, h4]; rfl)
        simp only [Doc.enc, dDoc_mk, Doc.eta, e0, e1, e3, hg, q3, hkd, eb, en, h4, hp0, htm, List.take_length, Nat.le_refl, mapO_shs9, mapO_shs10, mapO_shs11, on_gcall, off_gcall, flat_gcall, sumAhdR_f, sumAhdR_D, sumAhdR_flat, sumAhdR_r, sumRBegins_f, sumRBegins_D, sumRBegins_flat, sumRBegins_r, go_sem, reduceCtorEq, reduceIte, Nat.reduceEqDiff, Nat.reduceAdd, Nat.reduceSub, Nat.reduceMul, Nat.reduceLT, Nat.reduceLeDiff, Nat.reduceBEq, Int.reduceEq, Int.reduceLT, Int.reduceLE, Int.reduceAdd, Int.reduceSub, Int.reduceNeg, Int.reduceToNat]
        have hlen : (pgL d sc (i + 1)).length = (pgL d sc i).length + 2 := by rw [hst]; simp [addP]
        repeat' apply And.intro
        all_goals first | decide | omega | (simp; done) | (simp; omega) | skip
        refine ⟨⟨i + 1, clk + 1 + 1 + 1, clk + 1 + 1 + 1 + 1⟩, ?_⟩
        dsimp only
        rw [hlen]
        refine ⟨by omega, by omega, ⟨⟨rfl, rfl⟩, by omega, by omega⟩, ⟨rfl, ?_⟩, rfl⟩
        rw [hst]
        simp [addP, mkSh, Sh.enc, htk, htm, htm2, hp0]
      · have hst := hst0 (by rw [hwd, hp0]; simp [h4])
        by_cases h3 : brkS d sc i = 3
        · skip
          simp only [Doc.enc, dDoc_mk, Doc.eta, e0, e1, e3, hg, q3, hkd, eb, en, h3, hp0, htm, List.take_length, Nat.le_refl, mapO_shs9, mapO_shs10, mapO_shs11, on_gcall, off_gcall, flat_gcall, sumAhdR_f, sumAhdR_D, sumAhdR_flat, sumAhdR_r, sumRBegins_f, sumRBegins_D, sumRBegins_flat, sumRBegins_r, go_sem, reduceCtorEq, reduceIte, Nat.reduceEqDiff, Nat.reduceAdd, Nat.reduceSub, Nat.reduceMul, Nat.reduceLT, Nat.reduceLeDiff, Nat.reduceBEq, Int.reduceEq, Int.reduceLT, Int.reduceLE, Int.reduceAdd, Int.reduceSub, Int.reduceNeg, Int.reduceToNat]
          have hlen : (pgL d sc (i + 1)).length = (pgL d sc i).length + 1 := by rw [hst]; simp [addP]
          repeat' apply And.intro
          all_goals first | decide | omega | (simp; done) | (simp; omega) | skip
          refine ⟨⟨i + 1, clk + 1, clk + 1 + 1⟩, ?_⟩
          dsimp only
          rw [hlen]
          refine ⟨by omega, by omega, ⟨⟨rfl, rfl⟩, by omega, by omega⟩, ⟨rfl, ?_⟩, rfl⟩
          rw [hst]
          simp [addP, mkSh, Sh.enc, htk, htm, htm2, hp0]
        · skip
          simp only [Doc.enc, dDoc_mk, Doc.eta, e0, e1, e3, hg, q3, hkd, eb, en, h3, h4, hp0, htm, List.take_length, Nat.le_refl, mapO_shs9, mapO_shs10, mapO_shs11, on_gcall, off_gcall, flat_gcall, sumAhdR_f, sumAhdR_D, sumAhdR_flat, sumAhdR_r, sumRBegins_f, sumRBegins_D, sumRBegins_flat, sumRBegins_r, go_sem, reduceCtorEq, reduceIte, Nat.reduceEqDiff, Nat.reduceAdd, Nat.reduceSub, Nat.reduceMul, Nat.reduceLT, Nat.reduceLeDiff, Nat.reduceBEq, Int.reduceEq, Int.reduceLT, Int.reduceLE, Int.reduceAdd, Int.reduceSub, Int.reduceNeg, Int.reduceToNat]
          have hlen : (pgL d sc (i + 1)).length = (pgL d sc i).length + 1 := by rw [hst]; simp [addP]
          repeat' apply And.intro
          all_goals first | decide | omega | (simp; done) | (simp; omega) | skip
          refine ⟨⟨i + 1, clk + 1, clk + 1 + 1⟩, ?_⟩
          dsimp only
          rw [hlen]
          refine ⟨by omega, by omega, ⟨⟨rfl, rfl⟩, by omega, by omega⟩, ⟨rfl, ?_⟩, rfl⟩
          rw [hst]
          simp [addP, mkSh, Sh.enc, htk, htm, htm2, hp0]
end Go.Proofs.Ytdcdhnohbadenaa
