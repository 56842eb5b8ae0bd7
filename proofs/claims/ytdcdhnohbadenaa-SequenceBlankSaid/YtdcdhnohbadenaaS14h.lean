/- Segments: the break ahead of one, and the name that it begins with. -/
import Derived.Test.YtdcdhnohbadenaaS14f
namespace Go.Proofs.Ytdcdhnohbadenaa
open Go.Sx
set_option linter.unusedSimpArgs false
set_option maxHeartbeats 4000000
set_option maxRecDepth 20000

def sumSegChk : Sum Try.prog := ⟨18, fun args => args = [.agg (Doc.enc (dDoc (args.getD 0 .any))), intss (dIntss (args.getD 1 .any))] ∧ ((dDoc (args.getD 0 .any))).l.length ≤ 1000 ∧ okS (dIntss (args.getD 1 .any)), fun args => .tup [vi (chkS (dDoc (args.getD 0 .any)) (dIntss (args.getD 1 .any))).1, vi (chkS (dDoc (args.getD 0 .any)) (dIntss (args.getD 1 .any))).2], fun args h => by
  have := segChk_ok (dDoc (args.getD 0 .any)) (dIntss (args.getD 1 .any)) h.2.1 h.2.2; rwa [← h.1] at this, false⟩
theorem sumSegChk_f : sumSegChk.f = 18 := rfl
theorem sumSegChk_D (args : List V) : sumSegChk.D args = (args = [.agg (Doc.enc (dDoc (args.getD 0 .any))), intss (dIntss (args.getD 1 .any))] ∧ ((dDoc (args.getD 0 .any))).l.length ≤ 1000 ∧ okS (dIntss (args.getD 1 .any))) := rfl
theorem sumSegChk_flat : sumSegChk.flat = false := rfl
theorem sumSegChk_r (args : List V) : sumSegChk.r args = .tup [vi (chkS (dDoc (args.getD 0 .any)) (dIntss (args.getD 1 .any))).1, vi (chkS (dDoc (args.getD 0 .any)) (dIntss (args.getD 1 .any))).2] := rfl
def thrS (d : Doc) (sc : List (List Int)) (n : Int) : Bool := decide ((chkS d sc).2 = 0 ∧ 0 ≤ n ∧ n < sc.length)
theorem thrS_ok (d : Doc) (sc : List (List Int)) (n : Int) (hl : d.l.length ≤ 1000) (hs : okS sc) : PCall Try.prog 47 [.agg d.enc, intss sc, vi n] (vb (thrS d sc n)) := by
  refine PCall.of (Orc.cons sumSegChk (Orc.nil _)) c47_ok (by simp [c47]) fun w0 own0 => ?_
  unfold thrS
  by_cases h1 : (chkS d sc).2 = 0
  · by_cases h2 : 0 ≤ n
    · by_cases h3 : n < (sc.length : Int)
      · simp only [c47, Doc.enc, dDoc_mk, Doc.eta, hl, hs, dIntss_map, h1, h2, h3, intss, sumSegChk_f, sumSegChk_D, sumSegChk_flat, sumSegChk_r, go_sem, wpR_gcall, reduceCtorEq, reduceIte, Nat.reduceEqDiff, Nat.reduceAdd, Nat.reduceSub, Nat.reduceMul, Nat.reduceLT, Nat.reduceLeDiff, Nat.reduceBEq, Int.reduceEq, Int.reduceLT, Int.reduceLE, Int.reduceAdd, Int.reduceSub, Int.reduceNeg, Int.reduceToNat]
      · simp only [c47, Doc.enc, dDoc_mk, Doc.eta, hl, hs, dIntss_map, h1, h2, h3, intss, sumSegChk_f, sumSegChk_D, sumSegChk_flat, sumSegChk_r, go_sem, wpR_gcall, reduceCtorEq, reduceIte, Nat.reduceEqDiff, Nat.reduceAdd, Nat.reduceSub, Nat.reduceMul, Nat.reduceLT, Nat.reduceLeDiff, Nat.reduceBEq, Int.reduceEq, Int.reduceLT, Int.reduceLE, Int.reduceAdd, Int.reduceSub, Int.reduceNeg, Int.reduceToNat]
    · simp only [c47, Doc.enc, dDoc_mk, Doc.eta, hl, hs, dIntss_map, h1, h2, intss, sumSegChk_f, sumSegChk_D, sumSegChk_flat, sumSegChk_r, go_sem, wpR_gcall, reduceCtorEq, reduceIte, Nat.reduceEqDiff, Nat.reduceAdd, Nat.reduceSub, Nat.reduceMul, Nat.reduceLT, Nat.reduceLeDiff, Nat.reduceBEq, Int.reduceEq, Int.reduceLT, Int.reduceLE, Int.reduceAdd, Int.reduceSub, Int.reduceNeg, Int.reduceToNat]
  · simp only [c47, Doc.enc, dDoc_mk, Doc.eta, hl, hs, dIntss_map, h1, intss, sumSegChk_f, sumSegChk_D, sumSegChk_flat, sumSegChk_r, go_sem, wpR_gcall, reduceCtorEq, reduceIte, Nat.reduceEqDiff, Nat.reduceAdd, Nat.reduceSub, Nat.reduceMul, Nat.reduceLT, Nat.reduceLeDiff, Nat.reduceBEq, Int.reduceEq, Int.reduceLT, Int.reduceLE, Int.reduceAdd, Int.reduceSub, Int.reduceNeg, Int.reduceToNat]
def sumThrS : Sum Try.prog := ⟨47, fun args => args = [.agg (Doc.enc (dDoc (args.getD 0 .any))), intss (dIntss (args.getD 1 .any)), vi ((args.getD 2 .any).int)] ∧ ((dDoc (args.getD 0 .any))).l.length ≤ 1000 ∧ okS (dIntss (args.getD 1 .any)), fun args => vb (thrS (dDoc (args.getD 0 .any)) (dIntss (args.getD 1 .any)) ((args.getD 2 .any).int)), fun args h => by
  have := thrS_ok (dDoc (args.getD 0 .any)) (dIntss (args.getD 1 .any)) ((args.getD 2 .any).int) h.2.1 h.2.2; rwa [← h.1] at this, true⟩
theorem sumThrS_f : sumThrS.f = 47 := rfl
theorem sumThrS_D (args : List V) : sumThrS.D args = (args = [.agg (Doc.enc (dDoc (args.getD 0 .any))), intss (dIntss (args.getD 1 .any)), vi ((args.getD 2 .any).int)] ∧ ((dDoc (args.getD 0 .any))).l.length ≤ 1000 ∧ okS (dIntss (args.getD 1 .any))) := rfl
theorem sumThrS_flat : sumThrS.flat = true := rfl
theorem sumThrS_r (args : List V) : sumThrS.r args = vb (thrS (dDoc (args.getD 0 .any)) (dIntss (args.getD 1 .any)) ((args.getD 2 .any).int)) := rfl
def headS (sc : List (List Int)) (n : Int) : Int := (sc.getD n.toNat []).getD 0 0
/-- A script that may be: its parts are not empty, and in flow. -/
theorem chk_zero {d : Doc} {sc : List (List Int)} (h : (chkS d sc).2 = 0) : rightB d = true ∧ prtS d sc = -1 ∧ ovr (frcV d) 0 sc = -1 ∧ ovr (chV13 d) 0 sc = -1 ∧ sc.length ≤ 4096 := by
  unfold chkS at h
  split at h
  · rename_i hr
    split at h
    · simp at h
    · rename_i h4
      unfold chkI at h
      split at h
      · simp at h
      · rename_i h1
        split at h
        · simp at h
        · rename_i h2
          split at h
          · simp at h
          · rename_i h3
            refine ⟨hr, ?_, ?_, ?_, by omega⟩
            · unfold prtS at h1 ⊢; rcases prt_ge d (inV d) sc 0 0 with h | h; exact h; omega
            · rcases ovr_ge (frcV d) sc 0 with h | h; exact h; omega
            · rcases ovr_ge (chV13 d) sc 0 with h | h; exact h; omega
  · simp at h
theorem thr_head {d : Doc} {sc : List (List Int)} {n : Int} (h : thrS d sc n = true) : rightB d = true ∧ ∃ i m : Nat, n = i ∧ i < sc.length ∧ 0 < (sc.getD i []).length ∧ headS sc n = m ∧ m < d.l.length ∧ isN d m = true := by
  unfold thrS at h
  rw [decide_eq_true_eq] at h
  obtain ⟨h1, h2, h3⟩ := h
  obtain ⟨hr, hp, _⟩ := chk_zero h1
  obtain ⟨_, k2, k3⟩ := seg_in hr hp
  obtain ⟨i, rfl⟩ : ∃ i : Nat, n = i := ⟨n.toNat, by omega⟩
  have hmem : sc.getD i [] ∈ sc := by rw [List.getD_eq_getElem?_getD, List.getElem?_eq_getElem (by omega)]; exact List.getElem_mem _
  have hpos := List.length_pos_iff.2 (k2 _ hmem)
  obtain ⟨m, a, b, c⟩ := k3 _ hmem ((sc.getD i []).getD 0 0) (by rw [List.getD_eq_getElem?_getD (l := sc.getD i []), List.getElem?_eq_getElem hpos]; exact List.getElem_mem _)
  exact ⟨hr, i, m, rfl, by omega, hpos, by unfold headS; rw [Int.toNat_natCast]; exact a, b, c⟩
def brkS (d : Doc) (sc : List (List Int)) (n : Int) : Int := if thrS d sc n = true then ahdV d (headS sc n) else 0
def nmeS (d : Doc) (sc : List (List Int)) (n : Int) : ByteArray := if thrS d sc n = true then nmF d (headS sc n) else ⟨#[]⟩
theorem brkS_ok (d : Doc) (sc : List (List Int)) (n : Int) (hl : d.l.length ≤ 1000) (hs : okS sc) : PCall Try.prog 23 [.agg d.enc, intss sc, vi n] (vi (brkS d sc n)) := by
  refine PCall.of (Orc.cons sumThrS (Orc.cons sumAhd (Orc.nil _))) c23_ok (by simp [c23]) fun w0 own0 => ?_
  unfold brkS
  by_cases ht : thrS d sc n = true
  · obtain ⟨hr, i, m, rfl, q1, q2, q3, q4, q5⟩ := thr_head ht
    have e0 : (0 : Int) ≤ (i : Int) := by omega
    have e1 : (i : Int) < (sc.length : Int) := by omega
    have hg := getD_intss sc i [vnil] q1
    have e2 : (0 : Int) < ((sc.getD i []).length : Int) := by omega
    unfold headS at q3 ⊢
    rw [Int.toNat_natCast] at q3 ⊢
    simp only [c23, Doc.enc, dDoc_mk, Doc.eta, hl, hs, dIntss_map, ht, e0, e1, e2, hg, q3, intss, sumThrS_f, sumThrS_D, sumThrS_flat, sumThrS_r, sumAhd_f, sumAhd_D, sumAhd_flat, sumAhd_r, go_sem, wpR_gcall, reduceCtorEq, reduceIte, Nat.reduceEqDiff, Nat.reduceAdd, Nat.reduceSub, Nat.reduceMul, Nat.reduceLT, Nat.reduceLeDiff, Nat.reduceBEq, Int.reduceEq, Int.reduceLT, Int.reduceLE, Int.reduceAdd, Int.reduceSub, Int.reduceNeg, Int.reduceToNat]
  · simp only [c23, Doc.enc, dDoc_mk, Doc.eta, hl, hs, dIntss_map, ht, intss, sumThrS_f, sumThrS_D, sumThrS_flat, sumThrS_r, sumAhd_f, sumAhd_D, sumAhd_flat, sumAhd_r, go_sem, wpR_gcall, reduceCtorEq, reduceIte, Nat.reduceEqDiff, Nat.reduceAdd, Nat.reduceSub, Nat.reduceMul, Nat.reduceLT, Nat.reduceLeDiff, Nat.reduceBEq, Int.reduceEq, Int.reduceLT, Int.reduceLE, Int.reduceAdd, Int.reduceSub, Int.reduceNeg, Int.reduceToNat]
theorem nmeS_ok (d : Doc) (sc : List (List Int)) (n : Int) (hl : d.l.length ≤ 1000) (hs : okS sc) : PCall Try.prog 21 [.agg d.enc, intss sc, vi n] (vs (nmeS d sc n)) := by
  refine PCall.of (Orc.cons sumThrS (Orc.cons sumBegins (Orc.nil _))) c21_ok (by simp [c21]) fun w0 own0 => ?_
  unfold nmeS
  by_cases ht : thrS d sc n = true
  · obtain ⟨hr, i, m, rfl, q1, q2, q3, q4, q5⟩ := thr_head ht
    have e0 : (0 : Int) ≤ (i : Int) := by omega
    have e1 : (i : Int) < (sc.length : Int) := by omega
    have hg := getD_intss sc i [vnil] q1
    have e2 : (0 : Int) < ((sc.getD i []).length : Int) := by omega
    unfold headS at q3 ⊢
    rw [Int.toNat_natCast] at q3 ⊢
    simp only [c21, Doc.enc, dDoc_mk, Doc.eta, hl, hs, dIntss_map, ht, e0, e1, e2, hg, q3, intss, sumThrS_f, sumThrS_D, sumThrS_flat, sumThrS_r, sumBegins_f, sumBegins_D, sumBegins_flat, sumBegins_r, go_sem, wpR_gcall, reduceCtorEq, reduceIte, Nat.reduceEqDiff, Nat.reduceAdd, Nat.reduceSub, Nat.reduceMul, Nat.reduceLT, Nat.reduceLeDiff, Nat.reduceBEq, Int.reduceEq, Int.reduceLT, Int.reduceLE, Int.reduceAdd, Int.reduceSub, Int.reduceNeg, Int.reduceToNat]
  · simp only [c21, Doc.enc, dDoc_mk, Doc.eta, hl, hs, dIntss_map, ht, intss, sumThrS_f, sumThrS_D, sumThrS_flat, sumThrS_r, sumBegins_f, sumBegins_D, sumBegins_flat, sumBegins_r, go_sem, wpR_gcall, reduceCtorEq, reduceIte, Nat.reduceEqDiff, Nat.reduceAdd, Nat.reduceSub, Nat.reduceMul, Nat.reduceLT, Nat.reduceLeDiff, Nat.reduceBEq, Int.reduceEq, Int.reduceLT, Int.reduceLE, Int.reduceAdd, Int.reduceSub, Int.reduceNeg, Int.reduceToNat]
def sumBrkS : Sum Try.prog := ⟨23, fun args => args = [.agg (Doc.enc (dDoc (args.getD 0 .any))), intss (dIntss (args.getD 1 .any)), vi ((args.getD 2 .any).int)] ∧ ((dDoc (args.getD 0 .any))).l.length ≤ 1000 ∧ okS (dIntss (args.getD 1 .any)), fun args => vi (brkS (dDoc (args.getD 0 .any)) (dIntss (args.getD 1 .any)) ((args.getD 2 .any).int)), fun args h => by
  have := brkS_ok (dDoc (args.getD 0 .any)) (dIntss (args.getD 1 .any)) ((args.getD 2 .any).int) h.2.1 h.2.2; rwa [← h.1] at this, true⟩
theorem sumBrkS_f : sumBrkS.f = 23 := rfl
theorem sumBrkS_D (args : List V) : sumBrkS.D args = (args = [.agg (Doc.enc (dDoc (args.getD 0 .any))), intss (dIntss (args.getD 1 .any)), vi ((args.getD 2 .any).int)] ∧ ((dDoc (args.getD 0 .any))).l.length ≤ 1000 ∧ okS (dIntss (args.getD 1 .any))) := rfl
theorem sumBrkS_flat : sumBrkS.flat = true := rfl
theorem sumBrkS_r (args : List V) : sumBrkS.r args = vi (brkS (dDoc (args.getD 0 .any)) (dIntss (args.getD 1 .any)) ((args.getD 2 .any).int)) := rfl
def sumNmeS : Sum Try.prog := ⟨21, fun args => args = [.agg (Doc.enc (dDoc (args.getD 0 .any))), intss (dIntss (args.getD 1 .any)), vi ((args.getD 2 .any).int)] ∧ ((dDoc (args.getD 0 .any))).l.length ≤ 1000 ∧ okS (dIntss (args.getD 1 .any)), fun args => vs (nmeS (dDoc (args.getD 0 .any)) (dIntss (args.getD 1 .any)) ((args.getD 2 .any).int)), fun args h => by
  have := nmeS_ok (dDoc (args.getD 0 .any)) (dIntss (args.getD 1 .any)) ((args.getD 2 .any).int) h.2.1 h.2.2; rwa [← h.1] at this, true⟩
theorem sumNmeS_f : sumNmeS.f = 21 := rfl
theorem sumNmeS_D (args : List V) : sumNmeS.D args = (args = [.agg (Doc.enc (dDoc (args.getD 0 .any))), intss (dIntss (args.getD 1 .any)), vi ((args.getD 2 .any).int)] ∧ ((dDoc (args.getD 0 .any))).l.length ≤ 1000 ∧ okS (dIntss (args.getD 1 .any))) := rfl
theorem sumNmeS_flat : sumNmeS.flat = true := rfl
theorem sumNmeS_r (args : List V) : sumNmeS.r args = vs (nmeS (dDoc (args.getD 0 .any)) (dIntss (args.getD 1 .any)) ((args.getD 2 .any).int)) := rfl
end Go.Proofs.Ytdcdhnohbadenaa
