/- Layer 16: the law of two lists. -/
import Derived.Test.YtlagfeppihkamaaP16i
namespace Go.Proofs.Ytlagfeppihkamaa
open Go.Sx
set_option linter.unusedSimpArgs false
set_option maxHeartbeats 8000000
set_option maxRecDepth 100000

structure LiS16 where
  j : Nat
  clk : Nat
structure LoS16 where
  k : Nat
  clk : Nat
theorem freeK_of {l : List Tok} (h : ∀ i, i < l.length → ¬ barK (l.getD i .zero)) : freeK l := fun t ht => by
  obtain ⟨i, hi, rfl⟩ := List.mem_iff_getElem.1 ht
  have := h i hi
  rwa [List.getD_eq_getElem?_getD, List.getElem?_eq_getElem hi] at this
theorem someK_take (l : List Tok) (j : Nat) (h : j < l.length) : someK (l.take (j + 1)) = (someK (l.take j) || decide ((l.getD j .zero).kind ≠ 1)) := by
  unfold someK
  rw [List.take_add_one, List.any_append, List.getD_eq_getElem?_getD, List.getElem?_eq_getElem h]
  simp
theorem getD_tok (l : List Tok) (j : Nat) : (l.map Tok.enc).getD j [vi 0, vs ⟨#[]⟩, vi 0] = (l.getD j .zero).enc := by
  have : [vi 0, vs ⟨#[]⟩, vi 0] = Tok.zero.enc := rfl
  rw [this]
  simp only [List.getD_eq_getElem?_getD, List.getElem?_map]
  cases l[j]? <;> rfl
theorem join_enc (a b : List Tok) : a.map Tok.enc ++ [[vi 16, vs ⟨#[]⟩, vi 0]] ++ b.map Tok.enc = (joinT a b).map Tok.enc := by
  unfold joinT; simp [commaT, Tok.enc]
theorem small1 {s : PSel} (h : smallP s) : smallL [s] := ⟨by simp, fun i hi => by
  have : i = 0 := by simp at hi; omega
  subst this; exact h⟩
theorem small2 {s t : PSel} (h : smallP s) (h' : smallP t) : smallL [s, t] := ⟨by simp, fun i hi => by
  have : i = 0 ∨ i = 1 := by simp at hi; omega
  rcases this with rfl | rfl
  · exact h
  · exact h'⟩
theorem bestV_eq (l : List PSel) (p : Sh) : bestV l p = .tup [.agg (W3.enc (bestTo l p l.length).1), vb (l.any (isP · p))] := by
  unfold bestV; rw [bestTo_some]
theorem pagesLists_law (x : V) (hx : CellOK (.slc tokC) x) (y : V) (hy : CellOK (.slc tokC) y) (z : List V) (hz : z.length = 6) (hz' : ∀ i c, shC[i]? = some c → CellOK c (z.getD i .any)) : PCall Try.prog 6 [x, y, .agg z] (.c (.bool true)) := by
  obtain ⟨a, rfl⟩ := toks_of hx
  obtain ⟨b, rfl⟩ := toks_of hy
  obtain ⟨p, rfl⟩ := shL_of hz hz'
  refine PCall.of (Orc.cons sumFew (Orc.cons sumAw16 (Orc.cons sumPar (Orc.cons sumBest (Orc.nil _))))) c6_ok (by simp [c6]) fun w0 own0 => ?_
  have hb : c6.body = .seq c6.body.hd (.seq c6.body.tl.hd c6.body.tl.tl) := rfl
  by_cases g1 : (40 : Int) < (a.length : Int)
  · have g1 := eq_true g1
    rw [hb]
    generalize c6.body.tl.tl = rest
    simp only [c6, C.hd, C.tl, toks, dToks_map, Sh.enc, g1, res11_agg, on_gcall, off_gcall, flat_gcall, sumFew_f, sumFew_D, sumFew_flat, sumFew_r, go_sem, reduceCtorEq, reduceIte, Nat.reduceEqDiff, Nat.reduceAdd, Nat.reduceSub, Nat.reduceMul, Nat.reduceLT, Nat.reduceLeDiff, Nat.reduceBEq, Int.reduceEq, Int.reduceLT, Int.reduceLE, Int.reduceAdd, Int.reduceSub, Int.reduceNeg, Int.reduceToNat]
  by_cases g2 : (40 : Int) < (b.length : Int)
  · have g1 := eq_false g1; have g2 := eq_true g2
    rw [hb]
    generalize c6.body.tl.tl = rest
    simp only [c6, C.hd, C.tl, toks, dToks_map, Sh.enc, g1, g2, res11_agg, on_gcall, off_gcall, flat_gcall, sumFew_f, sumFew_D, sumFew_flat, sumFew_r, go_sem, reduceCtorEq, reduceIte, Nat.reduceEqDiff, Nat.reduceAdd, Nat.reduceSub, Nat.reduceMul, Nat.reduceLT, Nat.reduceLeDiff, Nat.reduceBEq, Int.reduceEq, Int.reduceLT, Int.reduceLE, Int.reduceAdd, Int.reduceSub, Int.reduceNeg, Int.reduceToNat]
  have hal : a.length ≤ 40 := by omega
  have hbl : b.length ≤ 40 := by omega
  have g1 := eq_false g1; have g2 := eq_false g2
  cases fa : few a with
  | false =>
    rw [hb]
    generalize c6.body.tl.tl = rest
    simp only [c6, C.hd, C.tl, toks, dToks_map, Sh.enc, g1, g2, fa, res11_agg, on_gcall, off_gcall, flat_gcall, sumFew_f, sumFew_D, sumFew_flat, sumFew_r, go_sem, reduceCtorEq, reduceIte, Nat.reduceEqDiff, Nat.reduceAdd, Nat.reduceSub, Nat.reduceMul, Nat.reduceLT, Nat.reduceLeDiff, Nat.reduceBEq, Int.reduceEq, Int.reduceLT, Int.reduceLE, Int.reduceAdd, Int.reduceSub, Int.reduceNeg, Int.reduceToNat]
  | true =>
  cases fb : few b with
  | false =>
    rw [hb]
    generalize c6.body.tl.tl = rest
    simp only [c6, C.hd, C.tl, toks, dToks_map, Sh.enc, g1, g2, fa, fb, res11_agg, on_gcall, off_gcall, flat_gcall, sumFew_f, sumFew_D, sumFew_flat, sumFew_r, go_sem, reduceCtorEq, reduceIte, Nat.reduceEqDiff, Nat.reduceAdd, Nat.reduceSub, Nat.reduceMul, Nat.reduceLT, Nat.reduceLeDiff, Nat.reduceBEq, Int.reduceEq, Int.reduceLT, Int.reduceLE, Int.reduceAdd, Int.reduceSub, Int.reduceNeg, Int.reduceToNat]
  | true =>
  by_cases g3 : (100 : Int) < (p.name.size : Int)
  · have g3 := eq_true g3
    rw [hb]
    generalize c6.body.tl.tl = rest
    simp only [c6, C.hd, C.tl, toks, dToks_map, Sh.enc, g1, g2, fa, fb, g3, res11_agg, on_gcall, off_gcall, flat_gcall, sumFew_f, sumFew_D, sumFew_flat, sumFew_r, go_sem, reduceCtorEq, reduceIte, Nat.reduceEqDiff, Nat.reduceAdd, Nat.reduceSub, Nat.reduceMul, Nat.reduceLT, Nat.reduceLeDiff, Nat.reduceBEq, Int.reduceEq, Int.reduceLT, Int.reduceLE, Int.reduceAdd, Int.reduceSub, Int.reduceNeg, Int.reduceToNat]
  have g3 := eq_false g3
  simp only [c6, toks, dToks_map, Sh.enc, g1, g2, g3, fa, fb, res11_agg, on_gcall, off_gcall, flat_gcall, sumFew_f, sumFew_D, sumFew_flat, sumFew_r, go_sem, reduceCtorEq, reduceIte, Nat.reduceEqDiff, Nat.reduceAdd, Nat.reduceSub, Nat.reduceMul, Nat.reduceLT, Nat.reduceLeDiff, Nat.reduceBEq, Int.reduceEq, Int.reduceLT, Int.reduceLE, Int.reduceAdd, Int.reduceSub, Int.reduceNeg, Int.reduceToNat]
  refine SemC.lp (α := LoS16) (fun x => [(0, .slc 3 (a.map Tok.enc)), (1, .slc 3 (b.map Tok.enc)), (5, .ptr 0 0 0 0), (7, .ptr 1 1 0 0), (52, .agg [.slc 3 (a.map Tok.enc), .slc 3 (b.map Tok.enc)]), (53, vi x.k)])
    (fun x => ⟨[⟨0, 6, [p.enc], false, []⟩, ⟨1, 2, [[vb (decide (0 < x.k) && someK a), vb (decide (1 < x.k) && someK b)]], false, []⟩], x.clk⟩)
    (fun x => x.k ≤ 2 ∧ (0 < x.k → freeK a) ∧ (1 < x.k → freeK b)) (fun x => 2 - x.k) ⟨0, 2⟩ ⟨by dsimp only; omega, fun h => by simp at h, fun h => by simp at h⟩ (St.cut ?_ ?_ ?_) fun x hx => ?_
  · simp [Agrees, upd_at, initE_at]
  · simp [Heap.alloc, Sh.enc]
  · rfl
  obtain ⟨k, clk⟩ := x
  obtain ⟨hk, h1, h2⟩ := hx
  simp only at hk h1 h2
  rcases (show k = 0 ∨ k = 1 ∨ k = 2 by omega) with rfl | rfl | rfl
  · simp only [Sh.enc, toks, res11_agg, on_gcall, off_gcall, flat_gcall, sumFew_f, sumFew_D, sumFew_flat, sumFew_r, go_sem, reduceCtorEq, reduceIte, Nat.reduceEqDiff, Nat.reduceAdd, Nat.reduceSub, Nat.reduceMul, Nat.reduceLT, Nat.reduceLeDiff, Nat.reduceBEq, Int.reduceEq, Int.reduceLT, Int.reduceLE, Int.reduceAdd, Int.reduceSub, Int.reduceNeg, Int.reduceToNat]
    refine SemC.lp (α := LiS16) (fun x => [(0, .slc 3 (a.map Tok.enc)), (1, .slc 3 (b.map Tok.enc)), (5, .ptr 0 0 0 0), (7, .ptr 1 1 0 0), (8, vi 0), (52, .agg [.slc 3 (a.map Tok.enc), .slc 3 (b.map Tok.enc)]), (53, vi 0), (57, .slc 3 (a.map Tok.enc)), (58, vi a.length), (59, vi x.j)])
      (fun x => ⟨[⟨0, 6, [p.enc], false, []⟩, ⟨1, 2, [[vb (someK (a.take x.j)), vb (false)]], false, []⟩], x.clk⟩)
      (fun x => x.j ≤ a.length ∧ ∀ i, i < x.j → ¬ barK (a.getD i .zero)) (fun x => a.length - x.j) ⟨0, clk⟩ ⟨Nat.zero_le _, fun i hi => by simp at hi⟩ (St.cut ?_ ?_ ?_) fun x hx => ?_
    · simp [Agrees, upd_at, ev_cons]
    · simp [Heap.alloc, someK, Sh.enc]
    · rfl
    obtain ⟨j, clk⟩ := x
    obtain ⟨hj, hB⟩ := hx
    simp only at hj hB
    by_cases hjl : j = a.length
    · subst hjl
      have hfr : freeK a := freeK_of hB
      simp only [Int.lt_irrefl, List.take_length, Sh.enc, toks, res11_agg, on_gcall, off_gcall, flat_gcall, sumFew_f, sumFew_D, sumFew_flat, sumFew_r, go_sem, reduceCtorEq, reduceIte, Nat.reduceEqDiff, Nat.reduceAdd, Nat.reduceSub, Nat.reduceMul, Nat.reduceLT, Nat.reduceLeDiff, Nat.reduceBEq, Int.reduceEq, Int.reduceLT, Int.reduceLE, Int.reduceAdd, Int.reduceSub, Int.reduceNeg, Int.reduceToNat]
      exact ⟨⟨0 + 1, clk⟩, ⟨by dsimp only; omega, fun _ => hfr, fun h => by simp at h⟩, by dsimp only; omega, by simp⟩
    have e1 : (j : Int) < (a.length : Int) := by omega
    have e0 : (0 : Int) ≤ (j : Int) := by omega
    have hlt : j < a.length := by omega
    have hg := getD_tok a j
    have hst := someK_take a j hlt
    have hbj : ∀ t, a.getD j .zero = t → ¬ barK t → ∀ i, i < j + 1 → ¬ barK (a.getD i .zero) := fun t ht hb i hi => by
      by_cases h : i = j
      · subst h; rw [ht]; exact hb
      · exact hB i (by omega)
    generalize a.getD j .zero = t at *
    generalize someK (a.take j) = s at *
    by_cases k16 : t.kind = 16
    · have k16 := eq_true k16
      simp only [e0, e1, hg, k16, Tok.enc, Sh.enc, toks, res11_agg, on_gcall, off_gcall, flat_gcall, sumFew_f, sumFew_D, sumFew_flat, sumFew_r, go_sem, reduceCtorEq, reduceIte, Nat.reduceEqDiff, Nat.reduceAdd, Nat.reduceSub, Nat.reduceMul, Nat.reduceLT, Nat.reduceLeDiff, Nat.reduceBEq, Int.reduceEq, Int.reduceLT, Int.reduceLE, Int.reduceAdd, Int.reduceSub, Int.reduceNeg, Int.reduceToNat]
    by_cases k3 : t.kind = 3
    · have k16 := eq_false k16; have k3 := eq_true k3
      simp only [e0, e1, hg, k16, k3, Tok.enc, Sh.enc, toks, res11_agg, on_gcall, off_gcall, flat_gcall, sumFew_f, sumFew_D, sumFew_flat, sumFew_r, go_sem, reduceCtorEq, reduceIte, Nat.reduceEqDiff, Nat.reduceAdd, Nat.reduceSub, Nat.reduceMul, Nat.reduceLT, Nat.reduceLeDiff, Nat.reduceBEq, Int.reduceEq, Int.reduceLT, Int.reduceLE, Int.reduceAdd, Int.reduceSub, Int.reduceNeg, Int.reduceToNat]
    by_cases k12 : t.kind = 12
    · have k16 := eq_false k16; have k3 := eq_false k3; have k12 := eq_true k12
      simp only [e0, e1, hg, k16, k3, k12, Tok.enc, Sh.enc, toks, res11_agg, on_gcall, off_gcall, flat_gcall, sumFew_f, sumFew_D, sumFew_flat, sumFew_r, go_sem, reduceCtorEq, reduceIte, Nat.reduceEqDiff, Nat.reduceAdd, Nat.reduceSub, Nat.reduceMul, Nat.reduceLT, Nat.reduceLeDiff, Nat.reduceBEq, Int.reduceEq, Int.reduceLT, Int.reduceLE, Int.reduceAdd, Int.reduceSub, Int.reduceNeg, Int.reduceToNat]
    by_cases k13 : t.kind = 13
    · have k16 := eq_false k16; have k3 := eq_false k3; have k12 := eq_false k12; have k13 := eq_true k13
      simp only [e0, e1, hg, k16, k3, k12, k13, Tok.enc, Sh.enc, toks, res11_agg, on_gcall, off_gcall, flat_gcall, sumFew_f, sumFew_D, sumFew_flat, sumFew_r, go_sem, reduceCtorEq, reduceIte, Nat.reduceEqDiff, Nat.reduceAdd, Nat.reduceSub, Nat.reduceMul, Nat.reduceLT, Nat.reduceLeDiff, Nat.reduceBEq, Int.reduceEq, Int.reduceLT, Int.reduceLE, Int.reduceAdd, Int.reduceSub, Int.reduceNeg, Int.reduceToNat]
    have hbar : ¬ barK t := by unfold barK; omega
    have hnx := hbj t rfl hbar
    have k16 := eq_false k16; have k3 := eq_false k3; have k12 := eq_false k12; have k13 := eq_false k13
    by_cases k1 : t.kind = 1
    · have k1t := eq_true k1
      have hst : someK (a.take (j + 1)) = s := by rw [hst, k1]; simp
      cases s
      · simp only [e0, e1, hg, k16, k3, k12, k13, k1t, Tok.enc, Sh.enc, toks, res11_agg, on_gcall, off_gcall, flat_gcall, sumFew_f, sumFew_D, sumFew_flat, sumFew_r, go_sem, reduceCtorEq, reduceIte, Nat.reduceEqDiff, Nat.reduceAdd, Nat.reduceSub, Nat.reduceMul, Nat.reduceLT, Nat.reduceLeDiff, Nat.reduceBEq, Int.reduceEq, Int.reduceLT, Int.reduceLE, Int.reduceAdd, Int.reduceSub, Int.reduceNeg, Int.reduceToNat]
        refine ⟨by omega, ⟨j + 1, _⟩, ⟨by dsimp only; omega, hnx⟩, by dsimp only; omega, by dsimp only; omega, ?_, rfl⟩
        dsimp only; rw [hst]
      · simp only [e0, e1, hg, k16, k3, k12, k13, k1t, Tok.enc, Sh.enc, toks, res11_agg, on_gcall, off_gcall, flat_gcall, sumFew_f, sumFew_D, sumFew_flat, sumFew_r, go_sem, reduceCtorEq, reduceIte, Nat.reduceEqDiff, Nat.reduceAdd, Nat.reduceSub, Nat.reduceMul, Nat.reduceLT, Nat.reduceLeDiff, Nat.reduceBEq, Int.reduceEq, Int.reduceLT, Int.reduceLE, Int.reduceAdd, Int.reduceSub, Int.reduceNeg, Int.reduceToNat]
        refine ⟨by omega, ⟨j + 1, _⟩, ⟨by dsimp only; omega, hnx⟩, by dsimp only; omega, by dsimp only; omega, ?_, rfl⟩
        dsimp only; rw [hst]
    · have k1t := eq_false k1
      have hst : someK (a.take (j + 1)) = true := by rw [hst]; simp [k1]
      cases s
      · simp only [e0, e1, hg, k16, k3, k12, k13, k1t, Tok.enc, Sh.enc, toks, res11_agg, on_gcall, off_gcall, flat_gcall, sumFew_f, sumFew_D, sumFew_flat, sumFew_r, go_sem, reduceCtorEq, reduceIte, Nat.reduceEqDiff, Nat.reduceAdd, Nat.reduceSub, Nat.reduceMul, Nat.reduceLT, Nat.reduceLeDiff, Nat.reduceBEq, Int.reduceEq, Int.reduceLT, Int.reduceLE, Int.reduceAdd, Int.reduceSub, Int.reduceNeg, Int.reduceToNat]
        refine ⟨by omega, ⟨j + 1, _⟩, ⟨by dsimp only; omega, hnx⟩, by dsimp only; omega, by dsimp only; omega, ?_, rfl⟩
        dsimp only; rw [hst]; simp [k1]
      · simp only [e0, e1, hg, k16, k3, k12, k13, k1t, Tok.enc, Sh.enc, toks, res11_agg, on_gcall, off_gcall, flat_gcall, sumFew_f, sumFew_D, sumFew_flat, sumFew_r, go_sem, reduceCtorEq, reduceIte, Nat.reduceEqDiff, Nat.reduceAdd, Nat.reduceSub, Nat.reduceMul, Nat.reduceLT, Nat.reduceLeDiff, Nat.reduceBEq, Int.reduceEq, Int.reduceLT, Int.reduceLE, Int.reduceAdd, Int.reduceSub, Int.reduceNeg, Int.reduceToNat]
        refine ⟨by omega, ⟨j + 1, _⟩, ⟨by dsimp only; omega, hnx⟩, by dsimp only; omega, by dsimp only; omega, ?_, rfl⟩
        dsimp only; rw [hst]; simp [k1]
  · simp only [Sh.enc, toks, res11_agg, on_gcall, off_gcall, flat_gcall, sumFew_f, sumFew_D, sumFew_flat, sumFew_r, go_sem, reduceCtorEq, reduceIte, Nat.reduceEqDiff, Nat.reduceAdd, Nat.reduceSub, Nat.reduceMul, Nat.reduceLT, Nat.reduceLeDiff, Nat.reduceBEq, Int.reduceEq, Int.reduceLT, Int.reduceLE, Int.reduceAdd, Int.reduceSub, Int.reduceNeg, Int.reduceToNat]
    refine SemC.lp (α := LiS16) (fun x => [(0, .slc 3 (a.map Tok.enc)), (1, .slc 3 (b.map Tok.enc)), (5, .ptr 0 0 0 0), (7, .ptr 1 1 0 0), (8, vi 1), (52, .agg [.slc 3 (a.map Tok.enc), .slc 3 (b.map Tok.enc)]), (53, vi 1), (57, .slc 3 (b.map Tok.enc)), (58, vi b.length), (59, vi x.j)])
      (fun x => ⟨[⟨0, 6, [p.enc], false, []⟩, ⟨1, 2, [[vb (someK a), vb (someK (b.take x.j))]], false, []⟩], x.clk⟩)
      (fun x => x.j ≤ b.length ∧ ∀ i, i < x.j → ¬ barK (b.getD i .zero)) (fun x => b.length - x.j) ⟨0, clk⟩ ⟨Nat.zero_le _, fun i hi => by simp at hi⟩ (St.cut ?_ ?_ ?_) fun x hx => ?_
    · simp [Agrees, upd_at, ev_cons]
    · simp [Heap.alloc, someK, Sh.enc]
    · rfl
    obtain ⟨j, clk⟩ := x
    obtain ⟨hj, hB⟩ := hx
    simp only at hj hB
    by_cases hjl : j = b.length
    · subst hjl
      have hfr : freeK b := freeK_of hB
      simp only [Int.lt_irrefl, List.take_length, Sh.enc, toks, res11_agg, on_gcall, off_gcall, flat_gcall, sumFew_f, sumFew_D, sumFew_flat, sumFew_r, go_sem, reduceCtorEq, reduceIte, Nat.reduceEqDiff, Nat.reduceAdd, Nat.reduceSub, Nat.reduceMul, Nat.reduceLT, Nat.reduceLeDiff, Nat.reduceBEq, Int.reduceEq, Int.reduceLT, Int.reduceLE, Int.reduceAdd, Int.reduceSub, Int.reduceNeg, Int.reduceToNat]
      exact ⟨⟨1 + 1, clk⟩, ⟨by dsimp only; omega, fun _ => h1 (by omega), fun h => hfr⟩, by dsimp only; omega, by simp⟩
    have e1 : (j : Int) < (b.length : Int) := by omega
    have e0 : (0 : Int) ≤ (j : Int) := by omega
    have hlt : j < b.length := by omega
    have hg := getD_tok b j
    have hst := someK_take b j hlt
    have hbj : ∀ t, b.getD j .zero = t → ¬ barK t → ∀ i, i < j + 1 → ¬ barK (b.getD i .zero) := fun t ht hb i hi => by
      by_cases h : i = j
      · subst h; rw [ht]; exact hb
      · exact hB i (by omega)
    generalize b.getD j .zero = t at *
    generalize someK (b.take j) = s at *
    by_cases k16 : t.kind = 16
    · have k16 := eq_true k16
      simp only [e0, e1, hg, k16, Tok.enc, Sh.enc, toks, res11_agg, on_gcall, off_gcall, flat_gcall, sumFew_f, sumFew_D, sumFew_flat, sumFew_r, go_sem, reduceCtorEq, reduceIte, Nat.reduceEqDiff, Nat.reduceAdd, Nat.reduceSub, Nat.reduceMul, Nat.reduceLT, Nat.reduceLeDiff, Nat.reduceBEq, Int.reduceEq, Int.reduceLT, Int.reduceLE, Int.reduceAdd, Int.reduceSub, Int.reduceNeg, Int.reduceToNat]
    by_cases k3 : t.kind = 3
    · have k16 := eq_false k16; have k3 := eq_true k3
      simp only [e0, e1, hg, k16, k3, Tok.enc, Sh.enc, toks, res11_agg, on_gcall, off_gcall, flat_gcall, sumFew_f, sumFew_D, sumFew_flat, sumFew_r, go_sem, reduceCtorEq, reduceIte, Nat.reduceEqDiff, Nat.reduceAdd, Nat.reduceSub, Nat.reduceMul, Nat.reduceLT, Nat.reduceLeDiff, Nat.reduceBEq, Int.reduceEq, Int.reduceLT, Int.reduceLE, Int.reduceAdd, Int.reduceSub, Int.reduceNeg, Int.reduceToNat]
    by_cases k12 : t.kind = 12
    · have k16 := eq_false k16; have k3 := eq_false k3; have k12 := eq_true k12
      simp only [e0, e1, hg, k16, k3, k12, Tok.enc, Sh.enc, toks, res11_agg, on_gcall, off_gcall, flat_gcall, sumFew_f, sumFew_D, sumFew_flat, sumFew_r, go_sem, reduceCtorEq, reduceIte, Nat.reduceEqDiff, Nat.reduceAdd, Nat.reduceSub, Nat.reduceMul, Nat.reduceLT, Nat.reduceLeDiff, Nat.reduceBEq, Int.reduceEq, Int.reduceLT, Int.reduceLE, Int.reduceAdd, Int.reduceSub, Int.reduceNeg, Int.reduceToNat]
    by_cases k13 : t.kind = 13
    · have k16 := eq_false k16; have k3 := eq_false k3; have k12 := eq_false k12; have k13 := eq_true k13
      simp only [e0, e1, hg, k16, k3, k12, k13, Tok.enc, Sh.enc, toks, res11_agg, on_gcall, off_gcall, flat_gcall, sumFew_f, sumFew_D, sumFew_flat, sumFew_r, go_sem, reduceCtorEq, reduceIte, Nat.reduceEqDiff, Nat.reduceAdd, Nat.reduceSub, Nat.reduceMul, Nat.reduceLT, Nat.reduceLeDiff, Nat.reduceBEq, Int.reduceEq, Int.reduceLT, Int.reduceLE, Int.reduceAdd, Int.reduceSub, Int.reduceNeg, Int.reduceToNat]
    have hbar : ¬ barK t := by unfold barK; omega
    have hnx := hbj t rfl hbar
    have k16 := eq_false k16; have k3 := eq_false k3; have k12 := eq_false k12; have k13 := eq_false k13
    by_cases k1 : t.kind = 1
    · have k1t := eq_true k1
      have hst : someK (b.take (j + 1)) = s := by rw [hst, k1]; simp
      cases s
      · simp only [e0, e1, hg, k16, k3, k12, k13, k1t, Tok.enc, Sh.enc, toks, res11_agg, on_gcall, off_gcall, flat_gcall, sumFew_f, sumFew_D, sumFew_flat, sumFew_r, go_sem, reduceCtorEq, reduceIte, Nat.reduceEqDiff, Nat.reduceAdd, Nat.reduceSub, Nat.reduceMul, Nat.reduceLT, Nat.reduceLeDiff, Nat.reduceBEq, Int.reduceEq, Int.reduceLT, Int.reduceLE, Int.reduceAdd, Int.reduceSub, Int.reduceNeg, Int.reduceToNat]
        refine ⟨by omega, ⟨j + 1, _⟩, ⟨by dsimp only; omega, hnx⟩, by dsimp only; omega, by dsimp only; omega, ?_, rfl⟩
        dsimp only; rw [hst]
      · simp only [e0, e1, hg, k16, k3, k12, k13, k1t, Tok.enc, Sh.enc, toks, res11_agg, on_gcall, off_gcall, flat_gcall, sumFew_f, sumFew_D, sumFew_flat, sumFew_r, go_sem, reduceCtorEq, reduceIte, Nat.reduceEqDiff, Nat.reduceAdd, Nat.reduceSub, Nat.reduceMul, Nat.reduceLT, Nat.reduceLeDiff, Nat.reduceBEq, Int.reduceEq, Int.reduceLT, Int.reduceLE, Int.reduceAdd, Int.reduceSub, Int.reduceNeg, Int.reduceToNat]
        refine ⟨by omega, ⟨j + 1, _⟩, ⟨by dsimp only; omega, hnx⟩, by dsimp only; omega, by dsimp only; omega, ?_, rfl⟩
        dsimp only; rw [hst]
    · have k1t := eq_false k1
      have hst : someK (b.take (j + 1)) = true := by rw [hst]; simp [k1]
      cases s
      · simp only [e0, e1, hg, k16, k3, k12, k13, k1t, Tok.enc, Sh.enc, toks, res11_agg, on_gcall, off_gcall, flat_gcall, sumFew_f, sumFew_D, sumFew_flat, sumFew_r, go_sem, reduceCtorEq, reduceIte, Nat.reduceEqDiff, Nat.reduceAdd, Nat.reduceSub, Nat.reduceMul, Nat.reduceLT, Nat.reduceLeDiff, Nat.reduceBEq, Int.reduceEq, Int.reduceLT, Int.reduceLE, Int.reduceAdd, Int.reduceSub, Int.reduceNeg, Int.reduceToNat]
        refine ⟨by omega, ⟨j + 1, _⟩, ⟨by dsimp only; omega, hnx⟩, by dsimp only; omega, by dsimp only; omega, ?_, rfl⟩
        dsimp only; rw [hst]; simp [k1]
      · simp only [e0, e1, hg, k16, k3, k12, k13, k1t, Tok.enc, Sh.enc, toks, res11_agg, on_gcall, off_gcall, flat_gcall, sumFew_f, sumFew_D, sumFew_flat, sumFew_r, go_sem, reduceCtorEq, reduceIte, Nat.reduceEqDiff, Nat.reduceAdd, Nat.reduceSub, Nat.reduceMul, Nat.reduceLT, Nat.reduceLeDiff, Nat.reduceBEq, Int.reduceEq, Int.reduceLT, Int.reduceLE, Int.reduceAdd, Int.reduceSub, Int.reduceNeg, Int.reduceToNat]
        refine ⟨by omega, ⟨j + 1, _⟩, ⟨by dsimp only; omega, hnx⟩, by dsimp only; omega, by dsimp only; omega, ?_, rfl⟩
        dsimp only; rw [hst]; simp [k1]
  have hfa := h1 (by omega)
  have hfb := h2 (by omega)
  have oka := few_ok16 fa
  have okb := few_ok16 fb
  have okz := ok_join oka okb hal hbl
  have pz := psO_join hfa hfb
  have pa := psO_free hfa
  have pb := psO_free hfb
  have sa := fun h => oneP_sp (l := a) h
  have sb := fun h => oneP_sp (l := b) h
  have ma := fun s h => oneP_small (l := a) hal (s := s) h
  have mb := fun s h => oneP_small (l := b) hbl (s := s) h
  generalize someK a = ka at *
  generalize someK b = kb at *
  generalize oneP a = oa at *
  generalize oneP b = ob at *
  have hje := join_enc a b
  have hT1 : List.take (a.length + 1) (a.map Tok.enc ++ [[vi 16, vs ⟨#[]⟩, vi 0]]) = a.map Tok.enc ++ [[vi 16, vs ⟨#[]⟩, vi 0]] := List.take_of_length_le (by simp)
  have hL1 : (a.map Tok.enc ++ [[vi 16, vs ⟨#[]⟩, vi 0]]).length = a.length + 1 := by simp
  have hT2 : List.take (a.length + 1 + b.length) ((joinT a b).map Tok.enc) = (joinT a b).map Tok.enc := List.take_of_length_le (by unfold joinT; simp; omega)
  have hL2 : ((joinT a b).map Tok.enc).length = a.length + 1 + b.length := by unfold joinT; simp; omega
  have n1 := eq_true (show a.length ≤ 1099511627776 by omega); have n2 := eq_true (show a.length * 32 ≤ 140737488355328 by omega)
  have n3 := eq_true (show a.length ≤ 1099511627775 by omega); have n4 := eq_true (show (a.length + 1) * 32 ≤ 140737488355328 by omega)
  have n5 := eq_true (show a.length + 1 + b.length ≤ 1099511627776 by omega); have n6 := eq_true (show (a.length + 1 + b.length) * 32 ≤ 140737488355328 by omega)
  cases oa with
  | none =>
    cases ob with
    | none => cases ka <;> cases kb <;> simp only [pa, pb, pz, oka, okb, okz, hje, hT1, hL1, hT2, hL2, n1, n2, n3, n4, n5, n6, List.take_length, Nat.le_refl, psV, Option.getD_none, Option.getD_some, Option.isSome_none, Option.isSome_some, psels, dToks_map, toks, Sh.enc, res11_agg, on_gcall, off_gcall, flat_gcall, sumFew_f, sumFew_D, sumFew_flat, sumFew_r, go_sem, reduceCtorEq, reduceIte, Nat.reduceEqDiff, Nat.reduceAdd, Nat.reduceSub, Nat.reduceMul, Nat.reduceLT, Nat.reduceLeDiff, Nat.reduceBEq, Int.reduceEq, Int.reduceLT, Int.reduceLE, Int.reduceAdd, Int.reduceSub, Int.reduceNeg, Int.reduceToNat]
    | some t => cases ka <;> cases kb <;> simp only [pa, pb, pz, oka, okb, okz, hje, hT1, hL1, hT2, hL2, n1, n2, n3, n4, n5, n6, List.take_length, Nat.le_refl, psV, Option.getD_none, Option.getD_some, Option.isSome_none, Option.isSome_some, psels, dToks_map, toks, Sh.enc, res11_agg, on_gcall, off_gcall, flat_gcall, sumFew_f, sumFew_D, sumFew_flat, sumFew_r, go_sem, reduceCtorEq, reduceIte, Nat.reduceEqDiff, Nat.reduceAdd, Nat.reduceSub, Nat.reduceMul, Nat.reduceLT, Nat.reduceLeDiff, Nat.reduceBEq, Int.reduceEq, Int.reduceLT, Int.reduceLE, Int.reduceAdd, Int.reduceSub, Int.reduceNeg, Int.reduceToNat]
  | some s =>
    cases ka with
    | false => exact absurd (sa rfl) (by simp)
    | true =>
    cases ob with
    | none => cases kb <;> simp only [pa, pb, pz, oka, okb, okz, hje, hT1, hL1, hT2, hL2, n1, n2, n3, n4, n5, n6, List.take_length, Nat.le_refl, psV, Option.getD_none, Option.getD_some, Option.isSome_none, Option.isSome_some, psels, dToks_map, toks, Sh.enc, res11_agg, on_gcall, off_gcall, flat_gcall, sumFew_f, sumFew_D, sumFew_flat, sumFew_r, go_sem, reduceCtorEq, reduceIte, Nat.reduceEqDiff, Nat.reduceAdd, Nat.reduceSub, Nat.reduceMul, Nat.reduceLT, Nat.reduceLeDiff, Nat.reduceBEq, Int.reduceEq, Int.reduceLT, Int.reduceLE, Int.reduceAdd, Int.reduceSub, Int.reduceNeg, Int.reduceToNat]
    | some t =>
      cases kb with
      | false => exact absurd (sb rfl) (by simp)
      | true =>
      have d1 : dPSels (V.slc 5 [s.enc]) = [s] := dPSels_map 5 [s]
      have d2 : dPSels (V.slc 5 [t.enc]) = [t] := dPSels_map 5 [t]
      have d3 : dPSels (V.slc 5 [s.enc, t.enc]) = [s, t] := dPSels_map 5 [s, t]
      have m1 := small1 (ma s rfl)
      have m2 := small1 (mb t rfl)
      have m3 := small2 (ma s rfl) (mb t rfl)
      have b1 := bestV_eq [s] p
      have b2 := bestV_eq [t] p
      have b3 := bestV_eq [s, t] p
      simp only [List.any_cons, List.any_nil, Bool.or_false] at b1 b2 b3
      generalize (bestTo [s] p [s].length).1 = w1 at *
      generalize (bestTo [t] p [t].length).1 = w2 at *
      generalize (bestTo [s, t] p [s, t].length).1 = w3 at *
      generalize isP s p = u at *
      generalize isP t p = v at *
      cases u <;> cases v <;> simp only [pa, pb, pz, oka, okb, okz, hje, hT1, hL1, hT2, hL2, n1, n2, n3, n4, n5, n6, List.take_length, Nat.le_refl, psV, Option.getD_none, Option.getD_some, Option.isSome_none, Option.isSome_some, W3.enc, Bool.or_true, Bool.or_false, Bool.true_or, Bool.false_or, d1, d2, d3, m1, m2, m3, b1, b2, b3, dSh1_mk, Sh.eta', List.map_cons, List.map_nil, List.length_cons, List.length_nil, psels, dToks_map, toks, Sh.enc, res11_agg, on_gcall, off_gcall, flat_gcall, sumFew_f, sumFew_D, sumFew_flat, sumFew_r, go_sem, reduceCtorEq, reduceIte, Nat.reduceEqDiff, Nat.reduceAdd, Nat.reduceSub, Nat.reduceMul, Nat.reduceLT, Nat.reduceLeDiff, Nat.reduceBEq, Int.reduceEq, Int.reduceLT, Int.reduceLE, Int.reduceAdd, Int.reduceSub, Int.reduceNeg, Int.reduceToNat]
end Go.Proofs.Ytlagfeppihkamaa
