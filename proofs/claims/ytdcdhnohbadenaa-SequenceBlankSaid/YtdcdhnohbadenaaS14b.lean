/- Segments: which one may not, and why. -/
import Derived.Test.YtdcdhnohbadenaaS14a
namespace Go.Proofs.Ytdcdhnohbadenaa
open Go.Sx
set_option linter.unusedSimpArgs false
set_option maxHeartbeats 4000000
set_option maxRecDepth 20000

def intss (l : List (List Int)) : V := .slc 1 (l.map fun s => [.slc 1 (s.map fun n => [vi n])])
def dIntss (v : V) : List (List Int) := v.es.map fun e => dInts (e.getD 0 .any)
theorem dIntss_map (sz : Nat) (l : List (List Int)) : dIntss (.slc sz (l.map fun s => [.slc 1 (s.map fun n => [vi n])])) = l := by
  simp only [dIntss, V.es, List.map_map]
  conv => rhs; rw [← List.map_id l]
  apply List.map_congr_left
  intro s _
  exact dInts_map 1 s
theorem getD_intss (l : List (List Int)) (i : Nat) (d : List V) (h : i < l.length) : (l.map fun s => [V.slc 1 (s.map fun n => [vi n])]).getD i d = [.slc 1 ((l.getD i []).map fun n => [vi n])] := by
  simp [List.getD_eq_getElem?_getD, h]
theorem forced_ok (n : Int) : PCall Try.prog 64 [vi n] (vb (decide (2 ≤ n ∧ n ≤ 4))) := by
  refine PCall.of (Orc.nil _) c64_ok (by simp [c64]) fun w0 own0 => ?_
  simp only [c64, go_sem, wpR_gcall, reduceCtorEq, reduceIte, Nat.reduceEqDiff, Nat.reduceAdd, Nat.reduceSub, Nat.reduceMul, Nat.reduceLT, Nat.reduceLeDiff, Nat.reduceBEq, Int.reduceEq, Int.reduceLT, Int.reduceLE, Int.reduceAdd, Int.reduceSub, Int.reduceNeg, Int.reduceToNat]
  simp
def sumForced : Sum Try.prog := ⟨64, fun args => args = [vi ((args.getD 0 .any).int)], fun args => vb (decide (2 ≤ ((args.getD 0 .any).int) ∧ ((args.getD 0 .any).int) ≤ 4)), fun args h => by
  have := forced_ok ((args.getD 0 .any).int); rwa [← h] at this, true⟩
theorem sumForced_f : sumForced.f = 64 := rfl
theorem sumForced_D (args : List V) : sumForced.D args = (args = [vi ((args.getD 0 .any).int)]) := rfl
theorem sumForced_flat : sumForced.flat = true := rfl
theorem sumForced_r (args : List V) : sumForced.r args = vb (decide (2 ≤ ((args.getD 0 .any).int) ∧ ((args.getD 0 .any).int) ≤ 4)) := rfl
theorem frc_ok (d : Doc) (k : Int) (hl : d.l.length ≤ 1000) : PCall Try.prog 44 [.agg d.enc, vi k] (vb (frcV d k)) := by
  refine PCall.of (Orc.cons sumPoint (Orc.cons sumAhd (Orc.cons sumForced (Orc.nil _)))) c44_ok (by simp [c44]) fun w0 own0 => ?_
  simp only [c44, Doc.enc, dDoc_mk, Doc.eta, hl, frcV, ints, on_gcall, off_gcall, flat_gcall, sumPoint_f, sumPoint_D, sumPoint_flat, sumPoint_r, sumAhd_f, sumAhd_D, sumAhd_flat, sumAhd_r, sumForced_f, sumForced_D, sumForced_flat, sumForced_r, go_sem, reduceCtorEq, reduceIte, Nat.reduceEqDiff, Nat.reduceAdd, Nat.reduceSub, Nat.reduceMul, Nat.reduceLT, Nat.reduceLeDiff, Nat.reduceBEq, Int.reduceEq, Int.reduceLT, Int.reduceLE, Int.reduceAdd, Int.reduceSub, Int.reduceNeg, Int.reduceToNat]
def sumFrc : Sum Try.prog := ⟨44, fun args => args = [.agg (Doc.enc (dDoc (args.getD 0 .any))), vi ((args.getD 1 .any).int)] ∧ ((dDoc (args.getD 0 .any))).l.length ≤ 1000, fun args => vb (frcV (dDoc (args.getD 0 .any)) ((args.getD 1 .any).int)), fun args h => by
  have := frc_ok (dDoc (args.getD 0 .any)) ((args.getD 1 .any).int) h.2; rwa [← h.1] at this, true⟩
theorem sumFrc_f : sumFrc.f = 44 := rfl
theorem sumFrc_D (args : List V) : sumFrc.D args = (args = [.agg (Doc.enc (dDoc (args.getD 0 .any))), vi ((args.getD 1 .any).int)] ∧ ((dDoc (args.getD 0 .any))).l.length ≤ 1000) := rfl
theorem sumFrc_flat : sumFrc.flat = true := rfl
theorem sumFrc_r (args : List V) : sumFrc.r args = vb (frcV (dDoc (args.getD 0 .any)) ((args.getD 1 .any).int)) := rfl
theorem chk1_ok (d : Doc) (k : Int) (hl : d.l.length ≤ 1000) : PCall Try.prog 43 [vi k, .pp d.enc] (vb (frcV d k)) := by
  refine PCall.of (Orc.cons sumFrc (Orc.nil _)) c43_ok (by simp [c43]) fun w0 own0 => ?_
  simp only [c43, Doc.enc, dDoc_mk, Doc.eta, hl, ints, sumFrc_f, sumFrc_D, sumFrc_flat, sumFrc_r, go_sem, wpR_gcall, reduceCtorEq, reduceIte, Nat.reduceEqDiff, Nat.reduceAdd, Nat.reduceSub, Nat.reduceMul, Nat.reduceLT, Nat.reduceLeDiff, Nat.reduceBEq, Int.reduceEq, Int.reduceLT, Int.reduceLE, Int.reduceAdd, Int.reduceSub, Int.reduceNeg, Int.reduceToNat]
theorem chk2_ok (d : Doc) (k : Int) (hl : d.l.length ≤ 1000) : PCall Try.prog 45 [vi k, .pp d.enc] (vb (chV13 d k)) := by
  refine PCall.of (Orc.cons sumChanges (Orc.nil _)) c45_ok (by simp [c45]) fun w0 own0 => ?_
  simp only [c45, Doc.enc, dDoc_mk, Doc.eta, hl, ints, sumChanges_f, sumChanges_D, sumChanges_flat, sumChanges_r, go_sem, wpR_gcall, reduceCtorEq, reduceIte, Nat.reduceEqDiff, Nat.reduceAdd, Nat.reduceSub, Nat.reduceMul, Nat.reduceLT, Nat.reduceLeDiff, Nat.reduceBEq, Int.reduceEq, Int.reduceLT, Int.reduceLE, Int.reduceAdd, Int.reduceSub, Int.reduceNeg, Int.reduceToNat]
def sumC1 : Sum Try.prog := ⟨43, fun args => args = [vi ((args.getD 0 .any).int), .pp (Doc.enc (dDoc (args.getD 1 .any)))] ∧ ((dDoc (args.getD 1 .any))).l.length ≤ 1000, fun args => vb (frcV (dDoc (args.getD 1 .any)) ((args.getD 0 .any).int)), fun args h => by
  have := chk1_ok (dDoc (args.getD 1 .any)) ((args.getD 0 .any).int) h.2; rwa [← h.1] at this, true⟩
theorem sumC1_f : sumC1.f = 43 := rfl
theorem sumC1_D (args : List V) : sumC1.D args = (args = [vi ((args.getD 0 .any).int), .pp (Doc.enc (dDoc (args.getD 1 .any)))] ∧ ((dDoc (args.getD 1 .any))).l.length ≤ 1000) := rfl
theorem sumC1_flat : sumC1.flat = true := rfl
theorem sumC1_r (args : List V) : sumC1.r args = vb (frcV (dDoc (args.getD 1 .any)) ((args.getD 0 .any).int)) := rfl
def sumC2 : Sum Try.prog := ⟨45, fun args => args = [vi ((args.getD 0 .any).int), .pp (Doc.enc (dDoc (args.getD 1 .any)))] ∧ ((dDoc (args.getD 1 .any))).l.length ≤ 1000, fun args => vb (chV13 (dDoc (args.getD 1 .any)) ((args.getD 0 .any).int)), fun args h => by
  have := chk2_ok (dDoc (args.getD 1 .any)) ((args.getD 0 .any).int) h.2; rwa [← h.1] at this, true⟩
theorem sumC2_f : sumC2.f = 45 := rfl
theorem sumC2_D (args : List V) : sumC2.D args = (args = [vi ((args.getD 0 .any).int), .pp (Doc.enc (dDoc (args.getD 1 .any)))] ∧ ((dDoc (args.getD 1 .any))).l.length ≤ 1000) := rfl
theorem sumC2_flat : sumC2.flat = true := rfl
theorem sumC2_r (args : List V) : sumC2.r args = vb (chV13 (dDoc (args.getD 1 .any)) ((args.getD 0 .any).int)) := rfl
theorem any_drop (p : Int → Bool) (s : List Int) : (s.drop 1).any p = true ↔ ∃ i, 0 < i ∧ i < s.length ∧ p (s.getD i 0) = true := by
  rw [List.any_eq_true]
  constructor
  · rintro ⟨x, hx, hp⟩
    obtain ⟨i, hi, rfl⟩ := List.mem_iff_getElem.1 hx
    rw [List.length_drop] at hi
    refine ⟨i + 1, by omega, by omega, ?_⟩
    rw [List.getElem_drop] at hp
    rw [List.getD_eq_getElem?_getD, List.getElem?_eq_getElem (by omega)]
    simpa [Nat.add_comm] using hp
  · rintro ⟨i, h0, hi, hp⟩
    refine ⟨s.getD i 0, ?_, hp⟩
    rw [List.getD_eq_getElem?_getD, List.getElem?_eq_getElem hi]
    rw [List.mem_iff_getElem]
    refine ⟨i - 1, by rw [List.length_drop]; omega, ?_⟩
    rw [List.getElem_drop]
    simp [show 1 + (i - 1) = i by omega]
theorem over_ok (d : Doc) (sc : List (List Int)) (p : Int → Bool) (s : Sum Try.prog) (hf : s.flat = true) (hD : ∀ k, s.D [vi k, .pp d.enc]) (hr : ∀ k, s.r [vi k, .pp d.enc] = vb (p k)) (hl : sc.length ≤ 1000000) (hl2 : ∀ t ∈ sc, t.length ≤ 1000000) :
    PCall Try.prog 42 [intss sc, .fn s.f [.pp d.enc]] (vi (ovr p 0 sc)) := by
  refine PCall.of (Orc.cons s (Orc.nil _)) c42_ok (by simp [c42]) fun w0 own0 => ?_
  simp only [c42, intss, go_sem, wpR_gcall, reduceCtorEq, reduceIte, Nat.reduceEqDiff, Nat.reduceAdd, Nat.reduceSub, Nat.reduceMul, Nat.reduceLT, Nat.reduceLeDiff, Nat.reduceBEq, Int.reduceEq, Int.reduceLT, Int.reduceLE, Int.reduceAdd, Int.reduceSub, Int.reduceNeg, Int.reduceToNat]
  refine SemC.lp (α := Nat) (fun n => [(1, .fn s.f [.pp d.enc]), (9, .slc 1 (sc.map fun s => [.slc 1 (s.map fun n => [vi n])])), (10, vi sc.length), (11, vi n)]) (fun _ => ⟨[], 0⟩)
    (fun n => n ≤ sc.length ∧ ovr p 0 sc = ovr p n (sc.drop n)) (fun n => sc.length - n) 0 ⟨Nat.zero_le _, by rw [List.drop_zero]⟩ (St.mk (by simp [Agrees, upd_at, initE_at])) fun n hn => ?_
  obtain ⟨h1, h2⟩ := hn
  by_cases he : n = sc.length
  · subst he
    have e : ovr p 0 sc = -1 := by rw [h2, List.drop_length]; rfl
    simp only [Int.lt_irrefl, e, go_sem, wpR_gcall, reduceCtorEq, reduceIte, Nat.reduceEqDiff, Nat.reduceAdd, Nat.reduceSub, Nat.reduceMul, Nat.reduceLT, Nat.reduceLeDiff, Nat.reduceBEq, Int.reduceEq, Int.reduceLT, Int.reduceLE, Int.reduceAdd, Int.reduceSub, Int.reduceNeg, Int.reduceToNat]
  · have e1 : (n : Int) < (sc.length : Int) := by omega
    have e0 : (0 : Int) ≤ (n : Int) := by omega
    have hst := ovr_step p n sc (by omega)
    have hg := getD_intss sc n [vnil] (by omega)
    have hsl : (sc.getD n []).length ≤ 1000000 := by
      rw [List.getD_eq_getElem?_getD, List.getElem?_eq_getElem (by omega)]; exact hl2 _ (List.getElem_mem _)
    generalize hseg : sc.getD n [] = t at *
    simp only [e0, e1, hg, go_sem, wpR_gcall, reduceCtorEq, reduceIte, Nat.reduceEqDiff, Nat.reduceAdd, Nat.reduceSub, Nat.reduceMul, Nat.reduceLT, Nat.reduceLeDiff, Nat.reduceBEq, Int.reduceEq, Int.reduceLT, Int.reduceLE, Int.reduceAdd, Int.reduceSub, Int.reduceNeg, Int.reduceToNat]
    refine SemC.lp (α := Nat) (fun i => [(1, .fn s.f [.pp d.enc]), (5, vi n), (9, .slc 1 (sc.map fun s => [.slc 1 (s.map fun n => [vi n])])), (10, vi sc.length), (11, vi n), (16, .slc 1 (t.map fun n => [vi n])), (17, vi t.length), (18, vi i)]) (fun _ => ⟨[], 0⟩)
      (fun i => i ≤ t.length ∧ ∀ j, 0 < j → j < i → p (t.getD j 0) = false) (fun i => t.length - i) 0 ⟨Nat.zero_le _, fun j h1 h2 => by omega⟩ (St.mk (by simp [Agrees, upd_at, ev_cons])) fun i hi => ?_
    obtain ⟨i1, i2⟩ := hi
    by_cases hie : i = t.length
    · subst hie
      have hno : ¬ (t.drop 1).any p = true := by rw [any_drop]; rintro ⟨j, j1, j2, j3⟩; rw [i2 j j1 j2] at j3; cases j3
      rw [if_neg hno] at hst
      simp only [Int.lt_irrefl, go_sem, wpR_gcall, reduceCtorEq, reduceIte, Nat.reduceEqDiff, Nat.reduceAdd, Nat.reduceSub, Nat.reduceMul, Nat.reduceLT, Nat.reduceLeDiff, Nat.reduceBEq, Int.reduceEq, Int.reduceLT, Int.reduceLE, Int.reduceAdd, Int.reduceSub, Int.reduceNeg, Int.reduceToNat]
      exact ⟨by omega, n + 1, ⟨by omega, by rw [h2, hst]⟩, by omega, by omega⟩
    · have q1 : (i : Int) < (t.length : Int) := by omega
      have q0 : (0 : Int) ≤ (i : Int) := by omega
      by_cases hi0 : i = 0
      · subst hi0
        have q1' : (0 : Int) < (t.length : Int) := by omega
        simp only [q1', hD, hr, hf, Int.natCast_zero, Int.lt_irrefl, go_sem, wpR_gcall, reduceCtorEq, reduceIte, Nat.reduceEqDiff, Nat.reduceAdd, Nat.reduceSub, Nat.reduceMul, Nat.reduceLT, Nat.reduceLeDiff, Nat.reduceBEq, Int.reduceEq, Int.reduceLT, Int.reduceLE, Int.reduceAdd, Int.reduceSub, Int.reduceNeg, Int.reduceToNat]
        exact ⟨1, ⟨by omega, fun j h1 h2 => by omega⟩, by omega, rfl⟩
      · have q2 : (0 : Int) < (i : Int) := by omega
        cases hp : p (t.getD i 0) with
        | true =>
          have hyes : (t.drop 1).any p = true := (any_drop p t).2 ⟨i, by omega, by omega, hp⟩
          rw [if_pos hyes] at hst
          rw [h2, hst]
          simp only [q0, q1, q2, hD, hr, hf, hp, go_sem, wpR_gcall, reduceCtorEq, reduceIte, Nat.reduceEqDiff, Nat.reduceAdd, Nat.reduceSub, Nat.reduceMul, Nat.reduceLT, Nat.reduceLeDiff, Nat.reduceBEq, Int.reduceEq, Int.reduceLT, Int.reduceLE, Int.reduceAdd, Int.reduceSub, Int.reduceNeg, Int.reduceToNat]
        | false =>
          simp only [q0, q1, q2, hD, hr, hf, hp, go_sem, wpR_gcall, reduceCtorEq, reduceIte, Nat.reduceEqDiff, Nat.reduceAdd, Nat.reduceSub, Nat.reduceMul, Nat.reduceLT, Nat.reduceLeDiff, Nat.reduceBEq, Int.reduceEq, Int.reduceLT, Int.reduceLE, Int.reduceAdd, Int.reduceSub, Int.reduceNeg, Int.reduceToNat]
          refine ⟨by omega, i + 1, ⟨by omega, fun j j1 j2 => ?_⟩, by omega, by omega⟩
          by_cases hj : j = i
          · rw [hj]; exact hp
          · exact i2 j j1 (by omega)
end Go.Proofs.Ytdcdhnohbadenaa
