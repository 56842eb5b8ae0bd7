/- Segments: whether a script may be. -/
import Derived.Test.YtdcdhnohbadenaaS14b
namespace Go.Proofs.Ytdcdhnohbadenaa
open Go.Sx
set_option linter.unusedSimpArgs false
set_option maxHeartbeats 4000000
set_option maxRecDepth 20000

structure PaS where
  n : Nat
  a : Nat
theorem parted_ok (d : Doc) (inn : List Int) (sc : List (List Int)) (hl : d.l.length ≤ 1000) (hi : inn.length ≤ 1000000) (hs : sc.length ≤ 1000000) (hs2 : ∀ t ∈ sc, t.length ≤ 1000000) :
    PCall Try.prog 40 [.agg d.enc, ints inn, intss sc] (vi (prt d inn 0 0 sc)) := by
  refine PCall.of (Orc.cons sumPoint (Orc.nil _)) c40_ok (by simp [c40]) fun w0 own0 => ?_
  simp only [c40, Doc.enc, ints, intss, go_sem, wpR_gcall, reduceCtorEq, reduceIte, Nat.reduceEqDiff, Nat.reduceAdd, Nat.reduceSub, Nat.reduceMul, Nat.reduceLT, Nat.reduceLeDiff, Nat.reduceBEq, Int.reduceEq, Int.reduceLT, Int.reduceLE, Int.reduceAdd, Int.reduceSub, Int.reduceNeg, Int.reduceToNat]
  refine SemC.lp (α := PaS) (fun a => [(1, .slc 1 (inn.map fun n => [vi n])), (2, .slc 1 (sc.map fun s => [.slc 1 (s.map fun n => [vi n])])), (3, .ptr 0 0 0 0), (7, vi a.a), (12, .slc 1 (sc.map fun s => [.slc 1 (s.map fun n => [vi n])])), (13, vi sc.length), (14, vi a.n)])
    (fun _ => ⟨[⟨0, 5, [d.enc], false, []⟩], 1⟩) (fun a => a.n ≤ sc.length ∧ a.a ≤ inn.length ∧ prt d inn 0 0 sc = prt d inn a.a a.n (sc.drop a.n)) (fun a => sc.length - a.n) ⟨0, 0⟩ ⟨Nat.zero_le _, Nat.zero_le _, rfl⟩ (St.mk (by simp [Agrees, upd_at, initE_at, Doc.enc])) fun a ha => ?_
  obtain ⟨n, a⟩ := a
  simp only at ha
  obtain ⟨h1, h2, h3⟩ := ha
  by_cases he : n = sc.length
  · subst he
    rw [List.drop_length] at h3
    by_cases hal : a < inn.length
    · have e : prt d inn 0 0 sc = (sc.length : Int) := by rw [h3]; unfold prt; rw [if_pos hal]
      have e1 : (a : Int) < (inn.length : Int) := by omega
      simp only [Doc.enc, Int.lt_irrefl, e, e1, go_sem, wpR_gcall, reduceCtorEq, reduceIte, Nat.reduceEqDiff, Nat.reduceAdd, Nat.reduceSub, Nat.reduceMul, Nat.reduceLT, Nat.reduceLeDiff, Nat.reduceBEq, Int.reduceEq, Int.reduceLT, Int.reduceLE, Int.reduceAdd, Int.reduceSub, Int.reduceNeg, Int.reduceToNat]
    · have e : prt d inn 0 0 sc = -1 := by rw [h3]; unfold prt; rw [if_neg hal]
      have e1 : ¬ (a : Int) < (inn.length : Int) := by omega
      simp only [Doc.enc, Int.lt_irrefl, e, e1, go_sem, wpR_gcall, reduceCtorEq, reduceIte, Nat.reduceEqDiff, Nat.reduceAdd, Nat.reduceSub, Nat.reduceMul, Nat.reduceLT, Nat.reduceLeDiff, Nat.reduceBEq, Int.reduceEq, Int.reduceLT, Int.reduceLE, Int.reduceAdd, Int.reduceSub, Int.reduceNeg, Int.reduceToNat]
  · have e1 : (n : Int) < (sc.length : Int) := by omega
    have e0 : (0 : Int) ≤ (n : Int) := by omega
    have hst := prt_step d inn a n sc (by omega)
    rw [← h3] at hst
    have hg := getD_intss sc n [vnil] (by omega)
    have hsl : (sc.getD n []).length ≤ 1000000 := by
      rw [List.getD_eq_getElem?_getD, List.getElem?_eq_getElem (by omega)]; exact hs2 _ (List.getElem_mem _)
    have htk := take_eq_iff inn (sc.getD n []) a
    generalize hseg : sc.getD n [] = t at *
    simp only [Doc.enc, e0, e1, hg, go_sem, wpR_gcall, reduceCtorEq, reduceIte, Nat.reduceEqDiff, Nat.reduceAdd, Nat.reduceSub, Nat.reduceMul, Nat.reduceLT, Nat.reduceLeDiff, Nat.reduceBEq, Int.reduceEq, Int.reduceLT, Int.reduceLE, Int.reduceAdd, Int.reduceSub, Int.reduceNeg, Int.reduceToNat]
    refine SemC.lp (α := Nat) (fun j => [(1, .slc 1 (inn.map fun n => [vi n])), (2, .slc 1 (sc.map fun s => [.slc 1 (s.map fun n => [vi n])])), (3, .ptr 0 0 0 0), (7, vi (a + j : Nat)), (8, vi n), (9, .slc 1 (t.map fun n => [vi n])), (12, .slc 1 (sc.map fun s => [.slc 1 (s.map fun n => [vi n])])), (13, vi sc.length), (14, vi n), (19, .slc 1 (t.map fun n => [vi n])), (20, vi t.length), (21, vi j)])
      (fun _ => ⟨[⟨0, 5, [d.enc], false, []⟩], 1⟩) (fun j => j ≤ t.length ∧ a + j ≤ inn.length ∧ ∀ i, i < j → inn.getD (a + i) 0 = t.getD i 0) (fun j => t.length - j) 0 ⟨Nat.zero_le _, h2, fun i h => by omega⟩ (St.mk (by simp [Agrees, upd_at, ev_cons, Doc.enc])) fun j hj => ?_
    obtain ⟨j1, j2, j3⟩ := hj
    by_cases hje : j = t.length
    · subst hje
      have htk2 : (inn.drop a).take t.length = t := htk.2 fun i hi => ⟨by omega, j3 i hi⟩
      by_cases ht0 : t = []
      · rw [if_neg (fun h => h.2.1 ht0)] at hst
        subst ht0
        simp only [Doc.enc, Int.lt_irrefl, hst, on_gcall, off_gcall, flat_gcall, sumPoint_f, sumPoint_D, sumPoint_flat, sumPoint_r, go_sem, reduceCtorEq, reduceIte, Nat.reduceEqDiff, Nat.reduceAdd, Nat.reduceSub, Nat.reduceMul, Nat.reduceLT, Nat.reduceLeDiff, Nat.reduceBEq, Int.reduceEq, Int.reduceLT, Int.reduceLE, Int.reduceAdd, Int.reduceSub, Int.reduceNeg, Int.reduceToNat]
      · have htp : ¬ (t.length : Int) = 0 := by have := List.length_pos_iff.2 ht0; omega
        have htp2 : (0 : Int) < (t.length : Int) := by have := List.length_pos_iff.2 ht0; omega
        by_cases hn0 : n = 0
        · rw [if_pos ⟨htk2, ht0, .inl hn0⟩] at hst
          have hn0' : ¬ (0 : Int) < (n : Int) := by omega
          simp only [Doc.enc, Int.lt_irrefl, htp, htp2, hn0', hl, dDoc_mk, Doc.eta, on_gcall, off_gcall, flat_gcall, sumPoint_f, sumPoint_D, sumPoint_flat, sumPoint_r, go_sem, reduceCtorEq, reduceIte, Nat.reduceEqDiff, Nat.reduceAdd, Nat.reduceSub, Nat.reduceMul, Nat.reduceLT, Nat.reduceLeDiff, Nat.reduceBEq, Int.reduceEq, Int.reduceLT, Int.reduceLE, Int.reduceAdd, Int.reduceSub, Int.reduceNeg, Int.reduceToNat]
          exact ⟨by omega, ⟨n + 1, a + t.length⟩, ⟨by dsimp only; omega, j2, hst⟩, by dsimp only; omega, rfl, rfl⟩
        · have hn1 : (0 : Int) < (n : Int) := by omega
          cases hp : ptV d (t.getD 0 0) with
          | true =>
            rw [if_pos ⟨htk2, ht0, .inr hp⟩] at hst
            simp only [Doc.enc, Int.lt_irrefl, htp, htp2, hn1, hl, hp, dDoc_mk, Doc.eta, on_gcall, off_gcall, flat_gcall, sumPoint_f, sumPoint_D, sumPoint_flat, sumPoint_r, go_sem, reduceCtorEq, reduceIte, Nat.reduceEqDiff, Nat.reduceAdd, Nat.reduceSub, Nat.reduceMul, Nat.reduceLT, Nat.reduceLeDiff, Nat.reduceBEq, Int.reduceEq, Int.reduceLT, Int.reduceLE, Int.reduceAdd, Int.reduceSub, Int.reduceNeg, Int.reduceToNat]
            exact ⟨by omega, ⟨n + 1, a + t.length⟩, ⟨by dsimp only; omega, j2, hst⟩, by dsimp only; omega, rfl, rfl⟩
          | false =>
            rw [if_neg (fun h => by rcases h.2.2 with h | h; exact hn0 h; rw [hp] at h; cases h)] at hst
            simp only [Doc.enc, Int.lt_irrefl, htp, htp2, hn1, hl, hp, hst, dDoc_mk, Doc.eta, on_gcall, off_gcall, flat_gcall, sumPoint_f, sumPoint_D, sumPoint_flat, sumPoint_r, go_sem, reduceCtorEq, reduceIte, Nat.reduceEqDiff, Nat.reduceAdd, Nat.reduceSub, Nat.reduceMul, Nat.reduceLT, Nat.reduceLeDiff, Nat.reduceBEq, Int.reduceEq, Int.reduceLT, Int.reduceLE, Int.reduceAdd, Int.reduceSub, Int.reduceNeg, Int.reduceToNat]
    · have q1 : (j : Int) < (t.length : Int) := by omega
      have q0 : (0 : Int) ≤ (j : Int) := by omega
      by_cases hend : a + j = inn.length
      · have hno : ¬ ((inn.drop a).take t.length = t ∧ t ≠ [] ∧ (n = 0 ∨ ptV d (t.getD 0 0) = true)) := fun h => by
          have := (htk.1 h.1 j (by omega)).1; omega
        rw [if_neg hno] at hst
        rw [hend]
        simp only [Doc.enc, q0, q1, hst, go_sem, wpR_gcall, reduceCtorEq, reduceIte, Nat.reduceEqDiff, Nat.reduceAdd, Nat.reduceSub, Nat.reduceMul, Nat.reduceLT, Nat.reduceLeDiff, Nat.reduceBEq, Int.reduceEq, Int.reduceLT, Int.reduceLE, Int.reduceAdd, Int.reduceSub, Int.reduceNeg, Int.reduceToNat]
      · have q2 : ¬ ((a + j : Nat) : Int) = (inn.length : Int) := by omega
        have q3 : (0 : Int) ≤ ((a + j : Nat) : Int) := by omega
        have q4 : ((a + j : Nat) : Int) < (inn.length : Int) := by omega
        by_cases heq : inn.getD (a + j) 0 = t.getD j 0
        · generalize hb : a + j = b at *
          simp only [Doc.enc, q0, q1, q2, q3, q4, heq, go_sem, wpR_gcall, reduceCtorEq, reduceIte, Nat.reduceEqDiff, Nat.reduceAdd, Nat.reduceSub, Nat.reduceMul, Nat.reduceLT, Nat.reduceLeDiff, Nat.reduceBEq, Int.reduceEq, Int.reduceLT, Int.reduceLE, Int.reduceAdd, Int.reduceSub, Int.reduceNeg, Int.reduceToNat]
          refine ⟨by omega, by omega, j + 1, ⟨by omega, by omega, fun i hi => ?_⟩, by omega, by omega, by omega⟩
          by_cases e : i = j
          · rw [e, hb]; exact heq
          · exact j3 i (by omega)
        · have hno : ¬ ((inn.drop a).take t.length = t ∧ t ≠ [] ∧ (n = 0 ∨ ptV d (t.getD 0 0) = true)) := fun h => heq (htk.1 h.1 j (by omega)).2
          rw [if_neg hno] at hst
          generalize hb : a + j = b at *
          simp only [Doc.enc, q0, q1, q2, q3, q4, heq, hst, go_sem, wpR_gcall, reduceCtorEq, reduceIte, Nat.reduceEqDiff, Nat.reduceAdd, Nat.reduceSub, Nat.reduceMul, Nat.reduceLT, Nat.reduceLeDiff, Nat.reduceBEq, Int.reduceEq, Int.reduceLT, Int.reduceLE, Int.reduceAdd, Int.reduceSub, Int.reduceNeg, Int.reduceToNat]
def okS (sc : List (List Int)) : Prop := sc.length ≤ 1000000 ∧ ∀ t ∈ sc, t.length ≤ 1000000
def sumParted : Sum Try.prog := ⟨40, fun args => args = [.agg (Doc.enc (dDoc (args.getD 0 .any))), ints (dInts (args.getD 1 .any)), intss (dIntss (args.getD 2 .any))] ∧ ((dDoc (args.getD 0 .any))).l.length ≤ 1000 ∧ ((dInts (args.getD 1 .any))).length ≤ 1000000 ∧ okS (dIntss (args.getD 2 .any)), fun args => vi (prt (dDoc (args.getD 0 .any)) (dInts (args.getD 1 .any)) 0 0 (dIntss (args.getD 2 .any))), fun args h => by
  have := parted_ok (dDoc (args.getD 0 .any)) (dInts (args.getD 1 .any)) (dIntss (args.getD 2 .any)) h.2.1 h.2.2.1 h.2.2.2.1 h.2.2.2.2; rwa [← h.1] at this, true⟩
theorem sumParted_f : sumParted.f = 40 := rfl
theorem sumParted_D (args : List V) : sumParted.D args = (args = [.agg (Doc.enc (dDoc (args.getD 0 .any))), ints (dInts (args.getD 1 .any)), intss (dIntss (args.getD 2 .any))] ∧ ((dDoc (args.getD 0 .any))).l.length ≤ 1000 ∧ ((dInts (args.getD 1 .any))).length ≤ 1000000 ∧ okS (dIntss (args.getD 2 .any))) := rfl
theorem sumParted_flat : sumParted.flat = true := rfl
theorem sumParted_r (args : List V) : sumParted.r args = vi (prt (dDoc (args.getD 0 .any)) (dInts (args.getD 1 .any)) 0 0 (dIntss (args.getD 2 .any))) := rfl
def sumOver : Sum Try.prog := ⟨42, fun args => args = [intss (dIntss (args.getD 0 .any)), .fn (args.getD 1 .any).fnId [.pp (Doc.enc (dDoc ((args.getD 1 .any).caps.getD 0 .any)))]] ∧ ((args.getD 1 .any).fnId = 43 ∨ (args.getD 1 .any).fnId = 45) ∧
    okS (dIntss (args.getD 0 .any)) ∧ (dDoc ((args.getD 1 .any).caps.getD 0 .any)).l.length ≤ 1000,
  fun args => vi (ovr (if (args.getD 1 .any).fnId = 43 then frcV (dDoc ((args.getD 1 .any).caps.getD 0 .any)) else chV13 (dDoc ((args.getD 1 .any).caps.getD 0 .any))) 0 (dIntss (args.getD 0 .any))), fun args h => by
  obtain ⟨h0, h1, h2, h3⟩ := h
  generalize dIntss (args.getD 0 .any) = sc at *
  generalize dDoc ((args.getD 1 .any).caps.getD 0 .any) = d at *
  generalize (args.getD 1 .any).fnId = f at *
  subst h0
  have hd : dDoc (.pp d.enc) = d := dDoc_enc d
  rcases h1 with rfl | rfl
  · have := over_ok d sc (frcV d) sumC1 rfl (fun k => by rw [sumC1_D]; simp [V.int, vi, hd, h3]) (fun k => by rw [sumC1_r]; simp [V.int, vi, hd]) h2.1 h2.2
    exact this
  · have := over_ok d sc (chV13 d) sumC2 rfl (fun k => by rw [sumC2_D]; simp [V.int, vi, hd, h3]) (fun k => by rw [sumC2_r]; simp [V.int, vi, hd]) h2.1 h2.2
    exact this, true⟩
theorem sumOver_f : sumOver.f = 42 := rfl
theorem sumOver_D (args : List V) : sumOver.D args = (args = [intss (dIntss (args.getD 0 .any)), .fn (args.getD 1 .any).fnId [.pp (Doc.enc (dDoc ((args.getD 1 .any).caps.getD 0 .any)))]] ∧ ((args.getD 1 .any).fnId = 43 ∨ (args.getD 1 .any).fnId = 45) ∧
    okS (dIntss (args.getD 0 .any)) ∧ (dDoc ((args.getD 1 .any).caps.getD 0 .any)).l.length ≤ 1000) := rfl
theorem sumOver_flat : sumOver.flat = true := rfl
theorem sumOver_r (args : List V) : sumOver.r args = vi (ovr (if (args.getD 1 .any).fnId = 43 then frcV (dDoc ((args.getD 1 .any).caps.getD 0 .any)) else chV13 (dDoc ((args.getD 1 .any).caps.getD 0 .any))) 0 (dIntss (args.getD 0 .any))) := rfl
theorem segChk_ok (d : Doc) (sc : List (List Int)) (hl : d.l.length ≤ 1000) (hs : okS sc) : PCall Try.prog 18 [.agg d.enc, intss sc] (.tup [vi (chkS d sc).1, vi (chkS d sc).2]) := by
  refine PCall.of (Orc.cons sumRightT (Orc.cons sumInA (Orc.cons sumParted (Orc.cons sumOver (Orc.nil _))))) c18_ok (by simp [c18]) fun w0 own0 => ?_
  by_cases hr : rightB d = true
  · have hinv : inV d = inL d := by unfold inV; rw [if_pos hr]
    have hil := inL_len d
    have hil2 : (inL d).length ≤ 1000000 := by omega
    by_cases h4 : 4096 < sc.length
    · have e : chkS d sc = (0, 2) := by unfold chkS; rw [if_pos hr, if_pos h4]
      have e4 : (4096 : Int) < (sc.length : Int) := by omega
      simp only [c18, Doc.enc, dDoc_mk, Doc.eta, hl, hr, e4, e, intss, ints, sumRightT_f, sumRightT_D, sumRightT_flat, sumRightT_r, sumInA_f, sumInA_D, sumInA_flat, sumInA_r, sumParted_f, sumParted_D, sumParted_flat, sumParted_r, sumOver_f, sumOver_D, sumOver_flat, sumOver_r, go_sem, wpR_gcall, reduceCtorEq, reduceIte, Nat.reduceEqDiff, Nat.reduceAdd, Nat.reduceSub, Nat.reduceMul, Nat.reduceLT, Nat.reduceLeDiff, Nat.reduceBEq, Int.reduceEq, Int.reduceLT, Int.reduceLE, Int.reduceAdd, Int.reduceSub, Int.reduceNeg, Int.reduceToNat]
    · have e : chkS d sc = chkI d sc := by unfold chkS; rw [if_pos hr, if_neg h4]
      have e4 : ¬ (4096 : Int) < (sc.length : Int) := by omega
      have ep : prtS d sc = prt d (inL d) 0 0 sc := by unfold prtS; rw [hinv]
      rw [e]
      unfold chkI
      rw [ep]
      by_cases h5 : 0 ≤ prt d (inL d) 0 0 sc
      · simp only [c18, Doc.enc, dDoc_mk, Doc.eta, hl, hr, e4, hinv, hil2, hs, dIntss_map, h5, intss, ints, sumRightT_f, sumRightT_D, sumRightT_flat, sumRightT_r, sumInA_f, sumInA_D, sumInA_flat, sumInA_r, sumParted_f, sumParted_D, sumParted_flat, sumParted_r, sumOver_f, sumOver_D, sumOver_flat, sumOver_r, go_sem, wpR_gcall, reduceCtorEq, reduceIte, Nat.reduceEqDiff, Nat.reduceAdd, Nat.reduceSub, Nat.reduceMul, Nat.reduceLT, Nat.reduceLeDiff, Nat.reduceBEq, Int.reduceEq, Int.reduceLT, Int.reduceLE, Int.reduceAdd, Int.reduceSub, Int.reduceNeg, Int.reduceToNat]
      by_cases h6 : 0 ≤ ovr (frcV d) 0 sc
      · simp only [c18, Doc.enc, dDoc_mk, Doc.eta, hl, hr, e4, hinv, hil2, hs, dIntss_map, h5, h6, res10_slc, dDoc_mkp, intss, ints, sumRightT_f, sumRightT_D, sumRightT_flat, sumRightT_r, sumInA_f, sumInA_D, sumInA_flat, sumInA_r, sumParted_f, sumParted_D, sumParted_flat, sumParted_r, sumOver_f, sumOver_D, sumOver_flat, sumOver_r, go_sem, wpR_gcall, reduceCtorEq, reduceIte, Nat.reduceEqDiff, Nat.reduceAdd, Nat.reduceSub, Nat.reduceMul, Nat.reduceLT, Nat.reduceLeDiff, Nat.reduceBEq, Int.reduceEq, Int.reduceLT, Int.reduceLE, Int.reduceAdd, Int.reduceSub, Int.reduceNeg, Int.reduceToNat]
      by_cases h7 : 0 ≤ ovr (chV13 d) 0 sc
      · simp only [c18, Doc.enc, dDoc_mk, Doc.eta, hl, hr, e4, hinv, hil2, hs, dIntss_map, h5, h6, h7, res10_slc, dDoc_mkp, intss, ints, sumRightT_f, sumRightT_D, sumRightT_flat, sumRightT_r, sumInA_f, sumInA_D, sumInA_flat, sumInA_r, sumParted_f, sumParted_D, sumParted_flat, sumParted_r, sumOver_f, sumOver_D, sumOver_flat, sumOver_r, go_sem, wpR_gcall, reduceCtorEq, reduceIte, Nat.reduceEqDiff, Nat.reduceAdd, Nat.reduceSub, Nat.reduceMul, Nat.reduceLT, Nat.reduceLeDiff, Nat.reduceBEq, Int.reduceEq, Int.reduceLT, Int.reduceLE, Int.reduceAdd, Int.reduceSub, Int.reduceNeg, Int.reduceToNat]
      · simp only [c18, Doc.enc, dDoc_mk, Doc.eta, hl, hr, e4, hinv, hil2, hs, dIntss_map, h5, h6, h7, res10_slc, dDoc_mkp, intss, ints, sumRightT_f, sumRightT_D, sumRightT_flat, sumRightT_r, sumInA_f, sumInA_D, sumInA_flat, sumInA_r, sumParted_f, sumParted_D, sumParted_flat, sumParted_r, sumOver_f, sumOver_D, sumOver_flat, sumOver_r, go_sem, wpR_gcall, reduceCtorEq, reduceIte, Nat.reduceEqDiff, Nat.reduceAdd, Nat.reduceSub, Nat.reduceMul, Nat.reduceLT, Nat.reduceLeDiff, Nat.reduceBEq, Int.reduceEq, Int.reduceLT, Int.reduceLE, Int.reduceAdd, Int.reduceSub, Int.reduceNeg, Int.reduceToNat]
  · have e : chkS d sc = (0, 1) := by unfold chkS; rw [if_neg hr]
    simp only [c18, Doc.enc, dDoc_mk, Doc.eta, hl, hr, e, intss, ints, sumRightT_f, sumRightT_D, sumRightT_flat, sumRightT_r, sumInA_f, sumInA_D, sumInA_flat, sumInA_r, sumParted_f, sumParted_D, sumParted_flat, sumParted_r, sumOver_f, sumOver_D, sumOver_flat, sumOver_r, go_sem, wpR_gcall, reduceCtorEq, reduceIte, Nat.reduceEqDiff, Nat.reduceAdd, Nat.reduceSub, Nat.reduceMul, Nat.reduceLT, Nat.reduceLeDiff, Nat.reduceBEq, Int.reduceEq, Int.reduceLT, Int.reduceLE, Int.reduceAdd, Int.reduceSub, Int.reduceNeg, Int.reduceToNat]
end Go.Proofs.Ytdcdhnohbadenaa
