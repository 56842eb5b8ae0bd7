/- Layer 16: the greatest weight. -/
import Derived.Test.YtlagfeppihkamaaP16b
namespace Go.Proofs.Ytlagfeppihkamaa
open Go.Sx
set_option linter.unusedSimpArgs false
set_option maxHeartbeats 4000000
set_option maxRecDepth 20000

def bestS (p : Sh) (a : W3 × Bool) (s : PSel) : W3 × Bool := if isP s p = true then (if a.2 = false ∨ abv (wtP s) a.1 = true then (wtP s, true) else a) else a
def bestTo (l : List PSel) (p : Sh) (n : Nat) : W3 × Bool := (l.take n).foldl (bestS p) (⟨0, 0, 0⟩, false)
theorem bestTo_succ (l : List PSel) (p : Sh) (n : Nat) (h : n < l.length) : bestTo l p (n + 1) = bestS p (bestTo l p n) (l.getD n default) := by
  unfold bestTo
  rw [List.take_add_one, List.getElem?_eq_getElem h, List.foldl_append, List.getD_eq_getElem?_getD, List.getElem?_eq_getElem h]; rfl
def smallL (l : List PSel) : Prop := l.length ≤ 1000000 ∧ ∀ i, i < l.length → smallP (l.getD i default)
def bestV (l : List PSel) (p : Sh) : V := .tup [.agg (W3.enc (bestTo l p l.length).1), vb (bestTo l p l.length).2]
structure BsS where
  n : Nat
  clk : Nat
theorem best_ok (l : List PSel) (p : Sh) (hl : smallL l) : PCall Try.prog 15 [psels l, .agg p.enc] (bestV l p) := by
  refine PCall.of (Orc.cons sumIsP (Orc.cons sumWt (Orc.cons sumAbv (Orc.nil _)))) c15_ok (by simp [c15]) fun w0 own0 => ?_
  simp only [c15, psels, Sh.enc, go_sem, wpR_gcall, reduceCtorEq, reduceIte, Nat.reduceEqDiff, Nat.reduceAdd, Nat.reduceSub, Nat.reduceMul, Nat.reduceLT, Nat.reduceLeDiff, Nat.reduceBEq, Int.reduceEq, Int.reduceLT, Int.reduceLE, Int.reduceAdd, Int.reduceSub, Int.reduceNeg, Int.reduceToNat]
  refine SemC.lp (α := BsS) (fun a => [(3, .ptr 0 0 0 0), (4, .ptr 1 1 0 0), (6, .ptr 2 2 0 0), (7, vb (bestTo l p a.n).2), (11, .slc 5 (l.map PSel.enc)), (12, vi l.length), (13, vi a.n)])
    (fun a => ⟨[⟨0, 6, [p.enc], false, []⟩, ⟨1, 3, [[vi 0, vi 0, vi 0]], false, []⟩, ⟨2, 3, [W3.enc (bestTo l p a.n).1], false, []⟩], a.clk⟩) (fun a => a.n ≤ l.length) (fun a => l.length - a.n) ⟨0, 3⟩ (Nat.zero_le _) (St.cut ?_ ?_ ?_) fun a ha => ?_
  · simp [Agrees, upd_at, initE_at, bestTo]
  · simp [Heap.alloc, Sh.enc, W3.enc, bestTo]
  · rfl
  obtain ⟨n, clk⟩ := a
  simp only at ha
  by_cases he : n = l.length
  · subst he
    unfold bestV
    generalize bestTo l p l.length = R
    obtain ⟨⟨x, y, z⟩, b⟩ := R
    simp only [Int.lt_irrefl, W3.enc, Sh.enc, go_sem, wpR_gcall, reduceCtorEq, reduceIte, Nat.reduceEqDiff, Nat.reduceAdd, Nat.reduceSub, Nat.reduceMul, Nat.reduceLT, Nat.reduceLeDiff, Nat.reduceBEq, Int.reduceEq, Int.reduceLT, Int.reduceLE, Int.reduceAdd, Int.reduceSub, Int.reduceNeg, Int.reduceToNat]
    rfl
  · have e1 : (n : Int) < (l.length : Int) := by omega
    have e0 : (0 : Int) ≤ (n : Int) := by omega
    have hlt : n < l.length := by omega
    have hg := getD_psels l n
    have hsm := hl.2 n hlt
    have hsu := bestTo_succ l p n hlt
    have hl0 := hl.1
    generalize l.getD n default = s at *
    generalize bestTo l p n = R at *
    obtain ⟨⟨x, y, z⟩, b⟩ := R
    simp only [bestS] at hsu
    generalize hwt : wtP s = wt at *
    obtain ⟨u, v, w⟩ := wt
    cases hI : isP s p with
    | false =>
      simp only [hI, Bool.false_eq_true, if_false] at hsu
      simp only [e0, e1, hg, PSel.enc, Sh.enc, W3.enc, PSel.eta', Sh.eta', dPSel_mk, dSh1_mk, dW3_mk, hsm, hwt, hI, go_sem, wpR_gcall, reduceCtorEq, reduceIte, Nat.reduceEqDiff, Nat.reduceAdd, Nat.reduceSub, Nat.reduceMul, Nat.reduceLT, Nat.reduceLeDiff, Nat.reduceBEq, Int.reduceEq, Int.reduceLT, Int.reduceLE, Int.reduceAdd, Int.reduceSub, Int.reduceNeg, Int.reduceToNat]
      exact ⟨by omega, ⟨n + 1, clk + 2⟩, by dsimp only; omega, by dsimp only; omega, ⟨by rw [hsu], by dsimp only; omega⟩, by rw [hsu]; exact ⟨rfl, rfl, rfl⟩, rfl⟩
    | true =>
      simp only [hI, if_true] at hsu
      cases b with
      | false =>
        simp only [true_or, if_true] at hsu
        simp only [e0, e1, hg, PSel.enc, Sh.enc, W3.enc, PSel.eta', Sh.eta', dPSel_mk, dSh1_mk, dW3_mk, hsm, hwt, hI, go_sem, wpR_gcall, reduceCtorEq, reduceIte, Nat.reduceEqDiff, Nat.reduceAdd, Nat.reduceSub, Nat.reduceMul, Nat.reduceLT, Nat.reduceLeDiff, Nat.reduceBEq, Int.reduceEq, Int.reduceLT, Int.reduceLE, Int.reduceAdd, Int.reduceSub, Int.reduceNeg, Int.reduceToNat]
        exact ⟨by omega, ⟨n + 1, clk + 2⟩, by dsimp only; omega, by dsimp only; omega, ⟨by rw [hsu], by dsimp only; omega⟩, by rw [hsu]; exact ⟨rfl, rfl, rfl⟩, rfl⟩
      | true =>
        cases hA : abv ⟨u, v, w⟩ ⟨x, y, z⟩ with
        | false =>
          simp only [hA, Bool.true_eq_false, Bool.false_eq_true, or_self, if_false] at hsu
          simp only [e0, e1, hg, PSel.enc, Sh.enc, W3.enc, PSel.eta', Sh.eta', dPSel_mk, dSh1_mk, dW3_mk, hsm, hwt, hI, hA, go_sem, wpR_gcall, reduceCtorEq, reduceIte, Nat.reduceEqDiff, Nat.reduceAdd, Nat.reduceSub, Nat.reduceMul, Nat.reduceLT, Nat.reduceLeDiff, Nat.reduceBEq, Int.reduceEq, Int.reduceLT, Int.reduceLE, Int.reduceAdd, Int.reduceSub, Int.reduceNeg, Int.reduceToNat]
          exact ⟨by omega, ⟨n + 1, clk + 2⟩, by dsimp only; omega, by dsimp only; omega, ⟨by rw [hsu], by dsimp only; omega⟩, by rw [hsu]; exact ⟨rfl, rfl, rfl⟩, rfl⟩
        | true =>
          simp only [hA, or_true, if_true] at hsu
          simp only [e0, e1, hg, PSel.enc, Sh.enc, W3.enc, PSel.eta', Sh.eta', dPSel_mk, dSh1_mk, dW3_mk, hsm, hwt, hI, hA, go_sem, wpR_gcall, reduceCtorEq, reduceIte, Nat.reduceEqDiff, Nat.reduceAdd, Nat.reduceSub, Nat.reduceMul, Nat.reduceLT, Nat.reduceLeDiff, Nat.reduceBEq, Int.reduceEq, Int.reduceLT, Int.reduceLE, Int.reduceAdd, Int.reduceSub, Int.reduceNeg, Int.reduceToNat]
          exact ⟨by omega, ⟨n + 1, clk + 2⟩, by dsimp only; omega, by dsimp only; omega, ⟨by rw [hsu], by dsimp only; omega⟩, by rw [hsu]; exact ⟨rfl, rfl, rfl⟩, rfl⟩
def sumBest : Sum Try.prog := ⟨15, fun args => args = [psels (dPSels (args.getD 0 .any)), .agg (Sh.enc (dSh1 (args.getD 1 .any)))] ∧ smallL (dPSels (args.getD 0 .any)), fun args => bestV (dPSels (args.getD 0 .any)) (dSh1 (args.getD 1 .any)), fun args h => by
  have := best_ok (dPSels (args.getD 0 .any)) (dSh1 (args.getD 1 .any)) h.2; rwa [← h.1] at this, false⟩
theorem sumBest_f : sumBest.f = 15 := rfl
theorem sumBest_D (args : List V) : sumBest.D args = (args = [psels (dPSels (args.getD 0 .any)), .agg (Sh.enc (dSh1 (args.getD 1 .any)))] ∧ smallL (dPSels (args.getD 0 .any))) := rfl
theorem sumBest_flat : sumBest.flat = false := rfl
theorem sumBest_r (args : List V) : sumBest.r args = bestV (dPSels (args.getD 0 .any)) (dSh1 (args.getD 1 .any)) := rfl
attribute [go_sem] sumBest_f sumBest_D sumBest_flat sumBest_r
theorem given16_ok (s : PSel) : PCall Try.prog 11 [.agg s.enc] (.agg s.enc) := by
  refine PCall.of (Orc.nil _) c11_ok (by simp [c11]) fun w0 own0 => ?_
  simp only [c11, PSel.enc, go_sem, wpR_gcall, reduceCtorEq, reduceIte, Nat.reduceEqDiff, Nat.reduceAdd, Nat.reduceSub, Nat.reduceMul, Nat.reduceLT, Nat.reduceLeDiff, Nat.reduceBEq, Int.reduceEq, Int.reduceLT, Int.reduceLE, Int.reduceAdd, Int.reduceSub, Int.reduceNeg, Int.reduceToNat]
def sumGv16 : Sum Try.prog := ⟨11, fun args => args = [.agg (PSel.enc (dPSel (args.getD 0 .any)))], fun args => .agg (PSel.enc (dPSel (args.getD 0 .any))), fun args h => by
  have := given16_ok (dPSel (args.getD 0 .any)); rwa [← h] at this, false⟩
theorem sumGv16_f : sumGv16.f = 11 := rfl
theorem sumGv16_D (args : List V) : sumGv16.D args = (args = [.agg (PSel.enc (dPSel (args.getD 0 .any)))]) := rfl
theorem sumGv16_flat : sumGv16.flat = false := rfl
theorem sumGv16_r (args : List V) : sumGv16.r args = .agg (PSel.enc (dPSel (args.getD 0 .any))) := rfl
attribute [go_sem] sumGv16_f sumGv16_D sumGv16_flat sumGv16_r
theorem givenSh_ok (s : Sh) : PCall Try.prog 17 [.agg s.enc] (.agg s.enc) := by
  refine PCall.of (Orc.nil _) c17_ok (by simp [c17]) fun w0 own0 => ?_
  simp only [c17, Sh.enc, go_sem, wpR_gcall, reduceCtorEq, reduceIte, Nat.reduceEqDiff, Nat.reduceAdd, Nat.reduceSub, Nat.reduceMul, Nat.reduceLT, Nat.reduceLeDiff, Nat.reduceBEq, Int.reduceEq, Int.reduceLT, Int.reduceLE, Int.reduceAdd, Int.reduceSub, Int.reduceNeg, Int.reduceToNat]
def sumGvS : Sum Try.prog := ⟨17, fun args => args = [.agg (Sh.enc (dSh1 (args.getD 0 .any)))], fun args => .agg (Sh.enc (dSh1 (args.getD 0 .any))), fun args h => by
  have := givenSh_ok (dSh1 (args.getD 0 .any)); rwa [← h] at this, false⟩
theorem sumGvS_f : sumGvS.f = 17 := rfl
theorem sumGvS_D (args : List V) : sumGvS.D args = (args = [.agg (Sh.enc (dSh1 (args.getD 0 .any)))]) := rfl
theorem sumGvS_flat : sumGvS.flat = false := rfl
theorem sumGvS_r (args : List V) : sumGvS.r args = .agg (Sh.enc (dSh1 (args.getD 0 .any))) := rfl
attribute [go_sem] sumGvS_f sumGvS_D sumGvS_flat sumGvS_r
theorem weightR_ok (s : PSel) (h : smallP s) : PCall Try.prog 14 [.agg s.enc] (.agg (W3.enc (wtP s))) := by
  refine PCall.of (Orc.nil _) c14_ok (by simp [c14]) fun w0 own0 => ?_
  obtain ⟨a1, a2, a3, a4, a5, a6, a7, a8⟩ := h
  unfold wtP
  by_cases hn : s.name = ⟨#[]⟩
  · simp only [c14, PSel.enc, W3.enc, hn, go_sem, wpR_gcall, reduceCtorEq, reduceIte, Nat.reduceEqDiff, Nat.reduceAdd, Nat.reduceSub, Nat.reduceMul, Nat.reduceLT, Nat.reduceLeDiff, Nat.reduceBEq, Int.reduceEq, Int.reduceLT, Int.reduceLE, Int.reduceAdd, Int.reduceSub, Int.reduceNeg, Int.reduceToNat]
    omega
  · simp only [c14, PSel.enc, W3.enc, hn, go_sem, wpR_gcall, reduceCtorEq, reduceIte, Nat.reduceEqDiff, Nat.reduceAdd, Nat.reduceSub, Nat.reduceMul, Nat.reduceLT, Nat.reduceLeDiff, Nat.reduceBEq, Int.reduceEq, Int.reduceLT, Int.reduceLE, Int.reduceAdd, Int.reduceSub, Int.reduceNeg, Int.reduceToNat]
    omega
def sumWtR : Sum Try.prog := ⟨14, fun args => args = [.agg (PSel.enc (dPSel (args.getD 0 .any)))] ∧ smallP (dPSel (args.getD 0 .any)), fun args => .agg (W3.enc (wtP (dPSel (args.getD 0 .any)))), fun args h => by
  have := weightR_ok (dPSel (args.getD 0 .any)) h.2; rwa [← h.1] at this, false⟩
theorem sumWtR_f : sumWtR.f = 14 := rfl
theorem sumWtR_D (args : List V) : sumWtR.D args = (args = [.agg (PSel.enc (dPSel (args.getD 0 .any)))] ∧ smallP (dPSel (args.getD 0 .any))) := rfl
theorem sumWtR_flat : sumWtR.flat = false := rfl
theorem sumWtR_r (args : List V) : sumWtR.r args = .agg (W3.enc (wtP (dPSel (args.getD 0 .any)))) := rfl
attribute [go_sem] sumWtR_f sumWtR_D sumWtR_flat sumWtR_r
theorem bestR_ok (l : List PSel) (p : Sh) (hl : smallL l) : PCall Try.prog 16 [psels l, .agg p.enc] (bestV l p) := by
  refine PCall.of (Orc.cons sumIsR (Orc.cons sumWtR (Orc.cons sumAbvR (Orc.nil _)))) c16_ok (by simp [c16]) fun w0 own0 => ?_
  simp only [c16, psels, Sh.enc, go_sem, wpR_gcall, reduceCtorEq, reduceIte, Nat.reduceEqDiff, Nat.reduceAdd, Nat.reduceSub, Nat.reduceMul, Nat.reduceLT, Nat.reduceLeDiff, Nat.reduceBEq, Int.reduceEq, Int.reduceLT, Int.reduceLE, Int.reduceAdd, Int.reduceSub, Int.reduceNeg, Int.reduceToNat]
  refine SemC.lp (α := BsS) (fun a => [(0, .slc 5 (l.map PSel.enc)), (3, .ptr 0 0 0 0), (4, .ptr 1 1 0 0), (6, .ptr 2 2 0 0), (7, vb (bestTo l p a.n).2), (8, vi a.n)])
    (fun a => ⟨[⟨0, 6, [p.enc], false, []⟩, ⟨1, 3, [[vi 0, vi 0, vi 0]], false, []⟩, ⟨2, 3, [W3.enc (bestTo l p a.n).1], false, []⟩], a.clk⟩) (fun a => a.n ≤ l.length) (fun a => l.length - a.n) ⟨0, 3⟩ (Nat.zero_le _) (St.cut ?_ ?_ ?_) fun a ha => ?_
  · simp [Agrees, upd_at, initE_at, bestTo]
  · simp [Heap.alloc, Sh.enc, W3.enc, bestTo]
  · rfl
  obtain ⟨n, clk⟩ := a
  simp only at ha
  by_cases he : n = l.length
  · subst he
    unfold bestV
    generalize bestTo l p l.length = R
    obtain ⟨⟨x, y, z⟩, b⟩ := R
    simp only [Int.lt_irrefl, W3.enc, Sh.enc, go_sem, wpR_gcall, reduceCtorEq, reduceIte, Nat.reduceEqDiff, Nat.reduceAdd, Nat.reduceSub, Nat.reduceMul, Nat.reduceLT, Nat.reduceLeDiff, Nat.reduceBEq, Int.reduceEq, Int.reduceLT, Int.reduceLE, Int.reduceAdd, Int.reduceSub, Int.reduceNeg, Int.reduceToNat]
    rfl
  · have e1 : (n : Int) < (l.length : Int) := by omega
    have e0 : (0 : Int) ≤ (n : Int) := by omega
    have hlt : n < l.length := by omega
    have hg := getD_psels l n
    have hsm := hl.2 n hlt
    have hsu := bestTo_succ l p n hlt
    have hl0 := hl.1
    generalize l.getD n default = s at *
    generalize bestTo l p n = R at *
    obtain ⟨⟨x, y, z⟩, b⟩ := R
    simp only [bestS] at hsu
    generalize hwt : wtP s = wt at *
    obtain ⟨u, v, w⟩ := wt
    cases hI : isP s p with
    | false =>
      simp only [hI, Bool.false_eq_true, if_false] at hsu
      simp only [e0, e1, hg, PSel.enc, Sh.enc, W3.enc, PSel.eta', Sh.eta', dPSel_mk, dSh1_mk, dW3_mk, hsm, hwt, hI, go_sem, wpR_gcall, reduceCtorEq, reduceIte, Nat.reduceEqDiff, Nat.reduceAdd, Nat.reduceSub, Nat.reduceMul, Nat.reduceLT, Nat.reduceLeDiff, Nat.reduceBEq, Int.reduceEq, Int.reduceLT, Int.reduceLE, Int.reduceAdd, Int.reduceSub, Int.reduceNeg, Int.reduceToNat]
      exact ⟨by omega, ⟨n + 1, clk⟩, by dsimp only; omega, by dsimp only; omega, ⟨by rw [hsu], by dsimp only; omega⟩, by rw [hsu]; exact ⟨rfl, rfl, rfl⟩, rfl⟩
    | true =>
      simp only [hI, if_true] at hsu
      cases b with
      | false =>
        simp only [true_or, if_true] at hsu
        simp only [e0, e1, hg, PSel.enc, Sh.enc, W3.enc, PSel.eta', Sh.eta', dPSel_mk, dSh1_mk, dW3_mk, hsm, hwt, hI, go_sem, wpR_gcall, reduceCtorEq, reduceIte, Nat.reduceEqDiff, Nat.reduceAdd, Nat.reduceSub, Nat.reduceMul, Nat.reduceLT, Nat.reduceLeDiff, Nat.reduceBEq, Int.reduceEq, Int.reduceLT, Int.reduceLE, Int.reduceAdd, Int.reduceSub, Int.reduceNeg, Int.reduceToNat]
        exact ⟨by omega, ⟨n + 1, clk + 1⟩, by dsimp only; omega, by dsimp only; omega, ⟨by rw [hsu], by dsimp only; omega⟩, by rw [hsu]; exact ⟨rfl, rfl, rfl⟩, rfl⟩
      | true =>
        cases hA : abv ⟨u, v, w⟩ ⟨x, y, z⟩ with
        | false =>
          simp only [hA, Bool.true_eq_false, Bool.false_eq_true, or_self, if_false] at hsu
          simp only [e0, e1, hg, PSel.enc, Sh.enc, W3.enc, PSel.eta', Sh.eta', dPSel_mk, dSh1_mk, dW3_mk, hsm, hwt, hI, hA, go_sem, wpR_gcall, reduceCtorEq, reduceIte, Nat.reduceEqDiff, Nat.reduceAdd, Nat.reduceSub, Nat.reduceMul, Nat.reduceLT, Nat.reduceLeDiff, Nat.reduceBEq, Int.reduceEq, Int.reduceLT, Int.reduceLE, Int.reduceAdd, Int.reduceSub, Int.reduceNeg, Int.reduceToNat]
          exact ⟨by omega, ⟨n + 1, clk + 1⟩, by dsimp only; omega, by dsimp only; omega, ⟨by rw [hsu], by dsimp only; omega⟩, by rw [hsu]; exact ⟨rfl, rfl, rfl⟩, rfl⟩
        | true =>
          simp only [hA, or_true, if_true] at hsu
          simp only [e0, e1, hg, PSel.enc, Sh.enc, W3.enc, PSel.eta', Sh.eta', dPSel_mk, dSh1_mk, dW3_mk, hsm, hwt, hI, hA, go_sem, wpR_gcall, reduceCtorEq, reduceIte, Nat.reduceEqDiff, Nat.reduceAdd, Nat.reduceSub, Nat.reduceMul, Nat.reduceLT, Nat.reduceLeDiff, Nat.reduceBEq, Int.reduceEq, Int.reduceLT, Int.reduceLE, Int.reduceAdd, Int.reduceSub, Int.reduceNeg, Int.reduceToNat]
          exact ⟨by omega, ⟨n + 1, clk + 1⟩, by dsimp only; omega, by dsimp only; omega, ⟨by rw [hsu], by dsimp only; omega⟩, by rw [hsu]; exact ⟨rfl, rfl, rfl⟩, rfl⟩
def sumBestR : Sum Try.prog := ⟨16, fun args => args = [psels (dPSels (args.getD 0 .any)), .agg (Sh.enc (dSh1 (args.getD 1 .any)))] ∧ smallL (dPSels (args.getD 0 .any)), fun args => bestV (dPSels (args.getD 0 .any)) (dSh1 (args.getD 1 .any)), fun args h => by
  have := bestR_ok (dPSels (args.getD 0 .any)) (dSh1 (args.getD 1 .any)) h.2; rwa [← h.1] at this, false⟩
theorem sumBestR_f : sumBestR.f = 16 := rfl
theorem sumBestR_D (args : List V) : sumBestR.D args = (args = [psels (dPSels (args.getD 0 .any)), .agg (Sh.enc (dSh1 (args.getD 1 .any)))] ∧ smallL (dPSels (args.getD 0 .any))) := rfl
theorem sumBestR_flat : sumBestR.flat = false := rfl
theorem sumBestR_r (args : List V) : sumBestR.r args = bestV (dPSels (args.getD 0 .any)) (dSh1 (args.getD 1 .any)) := rfl
attribute [go_sem] sumBestR_f sumBestR_D sumBestR_flat sumBestR_r
structure BpS where
  n : Nat
  ver : Nat
  clk : Nat
theorem mapO_psels11 (S : Nat → Bool) (h : Heap) (l : List PSel) : mapO (mapO (res S h 11)) (l.map PSel.enc) = some (l.map PSel.enc) := mapO_flat S h 10 _ (fun _ => rfl) l
theorem psel_take (l : List PSel) (n : Nat) (h : n < l.length) : (l.take (n + 1)) = l.take n ++ [l.getD n default] := by
  rw [List.take_add_one, List.getD_eq_getElem?_getD, List.getElem?_eq_getElem h]; rfl
theorem psels_of {x : V} (h : CellOK (.slc pselC) x) : ∃ l : List PSel, x = psels l := by
  cases h with
  | slc _ ess h0 h1 h2 =>
    have key : ∀ ess : List (List V), (∀ es ∈ ess, es.length = 5) → (∀ es ∈ ess, ∀ i c, pselC[i]? = some c → CellOK c (es.getD i .any)) → ∃ l : List PSel, ess = l.map PSel.enc := by
      intro ess
      induction ess with
      | nil => intro _ _; exact ⟨[], rfl⟩
      | cons e r ih =>
        intro g1 g2
        obtain ⟨l, rfl⟩ := ih (fun es he => g1 es (by simp [he])) (fun es he => g2 es (by simp [he]))
        obtain ⟨s, rfl⟩ := pselL_of (g1 e (by simp)) (g2 e (by simp))
        exact ⟨s :: l, rfl⟩
    obtain ⟨l, rfl⟩ := key ess h1 h2
    exact ⟨l, rfl⟩
theorem pagesBest_law (x : V) (h : CellOK (.slc pselC) x) (y : List V) (hl' : y.length = 6) (h' : ∀ i c, shC[i]? = some c → CellOK c (y.getD i .any)) : PCall Try.prog 5 [x, .agg y] (.c (.bool true)) := by
  obtain ⟨l, rfl⟩ := psels_of h
  obtain ⟨p, rfl⟩ := shL_of hl' h'
  refine PCall.of (Orc.cons sumBest (Orc.cons sumBestR (Orc.cons sumWt (Orc.cons sumWtR (Orc.cons sumGv16 (Orc.cons sumGvS (Orc.cons sumAw16 (Orc.nil _)))))))) c5_ok (by simp [c5]) fun w0 own0 => ?_
  simp only [c5, psels, Sh.enc, go_sem, wpR_gcall, reduceCtorEq, reduceIte, Nat.reduceEqDiff, Nat.reduceAdd, Nat.reduceSub, Nat.reduceMul, Nat.reduceLT, Nat.reduceLeDiff, Nat.reduceBEq, Int.reduceEq, Int.reduceLT, Int.reduceLE, Int.reduceAdd, Int.reduceSub, Int.reduceNeg, Int.reduceToNat]
  refine ⟨by omega, fun hl20 => ?_⟩
  have hz : [vs ⟨#[]⟩, vi 0, vi 0, vi 0, vi 0] = (default : PSel).enc := rfl
  refine SemC.lp (α := BpS) (fun a => [(0, .slc 5 (l.map PSel.enc)), (3, .ptr 0 0 0 0), (5, .ref 1 a.ver 0 a.n), (24, .slc 5 (l.map PSel.enc)), (25, vi l.length), (26, vi a.n)])
    (fun a => ⟨[⟨0, 6, [p.enc], false, []⟩, ⟨a.ver, 5, (l.take a.n).map PSel.enc, false, [vs ⟨#[]⟩, vi 0, vi 0, vi 0, vi 0]⟩], a.clk⟩) (fun a => a.n ≤ l.length ∧ ∀ i, i < a.n → smallP (l.getD i default)) (fun a => l.length - a.n) ⟨0, 1, 2⟩ ⟨Nat.zero_le _, fun i hi => by simp at hi⟩ (St.nil 5 5 [vs ⟨#[]⟩, vi 0, vi 0, vi 0, vi 0] (by simp [upd_at]) (St.cut ?_ ?_ ?_)) fun a ha => ?_
  · simp [Agrees, upd_at, initE_at]
  · simp [Heap.alloc, Sh.enc]
  · rfl
  obtain ⟨n, ver, clk⟩ := a
  obtain ⟨ha, hsm⟩ := ha
  simp only at ha hsm
  by_cases he : n = l.length
  · subst he
    have hL : smallL l := ⟨by omega, hsm⟩
    generalize hR : bestTo l p l.length = R
    obtain ⟨⟨x, y, z⟩, b⟩ := R
    have hbv : bestV l p = .tup [.agg [vi x, vi y, vi z], vb b] := by unfold bestV; rw [hR]; rfl
    simp only [Int.lt_irrefl, Sh.enc, psels, dPSels_map, dSh1_mk, Sh.eta', hL, hbv, List.take_length, mapO_psels11, List.isEmpty_cons, Nat.le_refl, go_sem, wpR_gcall, reduceCtorEq, reduceIte, Nat.reduceEqDiff, Nat.reduceAdd, Nat.reduceSub, Nat.reduceMul, Nat.reduceLT, Nat.reduceLeDiff, Nat.reduceBEq, Int.reduceEq, Int.reduceLT, Int.reduceLE, Int.reduceAdd, Int.reduceSub, Int.reduceNeg, Int.reduceToNat]
  · have e1 : (n : Int) < (l.length : Int) := by omega
    have e0 : (0 : Int) ≤ (n : Int) := by omega
    have hlt : n < l.length := by omega
    have hg := getD_psels l n
    have htk := psel_take l n hlt
    have htl : (l.take n).length = n := by rw [List.length_take]; omega
    generalize hs : l.getD n default = s at *
    simp only [e0, e1, hg, PSel.enc, Sh.enc, psels, go_sem, wpR_gcall, reduceCtorEq, reduceIte, Nat.reduceEqDiff, Nat.reduceAdd, Nat.reduceSub, Nat.reduceMul, Nat.reduceLT, Nat.reduceLeDiff, Nat.reduceBEq, Int.reduceEq, Int.reduceLT, Int.reduceLE, Int.reduceAdd, Int.reduceSub, Int.reduceNeg, Int.reduceToNat]
    have gg : ∀ k : Nat, k < 4 → ((List.drop (k * 1) [vi s.first, vi s.blank, vi s.left, vi s.right]).getD 0 .any) = vi ([s.first, s.blank, s.left, s.right].getD k 0) := fun k hk => by
      rcases (show k = 0 ∨ k = 1 ∨ k = 2 ∨ k = 3 by omega) with rfl | rfl | rfl | rfl <;> rfl
    refine SemC.lp (α := Nat) (fun k => [(0, .slc 5 (l.map PSel.enc)), (3, .ptr 0 0 0 0), (5, .ref 1 ver 0 n), (7, .ptr 2 clk 0 0), (24, .slc 5 (l.map PSel.enc)), (25, vi l.length), (26, vi n), (38, .agg [vi s.first, vi s.blank, vi s.left, vi s.right]), (39, vi k)])
      (fun _ => ⟨[⟨0, 6, [p.enc], false, []⟩, ⟨ver, 5, (l.take n).map PSel.enc, false, [vs ⟨#[]⟩, vi 0, vi 0, vi 0, vi 0]⟩, ⟨clk, 5, [s.enc], false, []⟩], clk + 1⟩)
      (fun k => k ≤ 4 ∧ ∀ i, i < k → 0 ≤ [s.first, s.blank, s.left, s.right].getD i 0 ∧ [s.first, s.blank, s.left, s.right].getD i 0 ≤ 1000) (fun k => 4 - k) 0 ⟨by omega, fun i hi => by omega⟩ (St.cut ?_ ?_ ?_) fun k hk => ?_
    · simp [Agrees, upd_at, ev_cons]
    · simp [PSel.enc, Sh.enc]
    · rfl
    obtain ⟨hk1, hk2⟩ := hk
    by_cases h4 : k = 4
    · subst h4
      have f0 := hk2 0 (by omega); have f1 := hk2 1 (by omega); have f2 := hk2 2 (by omega); have f3 := hk2 3 (by omega)
      simp only [List.getD_cons_zero, List.getD_cons_succ] at f0 f1 f2 f3
      have hsms : smallP s := by unfold smallP; omega
      generalize hwt : wtP s = wt
      obtain ⟨u, v, w⟩ := wt
      simp only [e0, e1, PSel.enc, Sh.enc, W3.enc, PSel.eta', dPSel_mk, hsms, hwt, htl, List.isEmpty_cons, go_sem, wpR_gcall, reduceCtorEq, reduceIte, Nat.reduceEqDiff, Nat.reduceAdd, Nat.reduceSub, Nat.reduceMul, Nat.reduceLT, Nat.reduceLeDiff, Nat.reduceBEq, Int.reduceEq, Int.reduceLT, Int.reduceLE, Int.reduceAdd, Int.reduceSub, Int.reduceNeg, Int.reduceToNat]
      have htt : (l.take n).take n = l.take n := List.take_of_length_le (by omega)
      refine ⟨⟨by omega, by omega, by omega⟩, by omega, ⟨n + 1, clk + 2, clk + 3⟩, ⟨by dsimp only; omega, fun i hi => ?_⟩, by dsimp only; omega, ⟨⟨rfl, rfl⟩, by dsimp only; omega⟩, ⟨rfl, ?_⟩, rfl⟩
      · by_cases hin : i = n
        · subst hin; rw [hs]; exact hsms
        · exact hsm i (by dsimp only at hi; omega)
      · dsimp only
        rw [htt, htk, List.map_append]; rfl
    · have f1 : (k : Int) < 4 := by omega
      have f0 : (0 : Int) ≤ (k : Int) := by omega
      have hlt4 : k < 4 := by omega
      generalize hv : [s.first, s.blank, s.left, s.right].getD k 0 = v at *
      simp only [f0, f1, gg k hlt4, PSel.enc, Sh.enc, hv, go_sem, wpR_gcall, reduceCtorEq, reduceIte, Nat.reduceEqDiff, Nat.reduceAdd, Nat.reduceSub, Nat.reduceMul, Nat.reduceLT, Nat.reduceLeDiff, Nat.reduceBEq, Int.reduceEq, Int.reduceLT, Int.reduceLE, Int.reduceAdd, Int.reduceSub, Int.reduceNeg, Int.reduceToNat]
      refine ⟨by omega, by omega, fun hc => ⟨by omega, k + 1, ⟨by omega, fun i hi => ?_⟩, by omega, by omega⟩⟩
      by_cases hik : i = k
      · subst hik; rw [hv]; omega
      · exact hk2 i (by omega)
end Go.Proofs.Ytlagfeppihkamaa
