/- Layer 16: one selector, by the document. -/
import Derived.Test.YtlagfeppihkamaaP16e
namespace Go.Proofs.Ytlagfeppihkamaa
open Go.Sx
set_option linter.unusedSimpArgs false
set_option maxHeartbeats 8000000
set_option maxRecDepth 100000

def kI (u : ByteArray) : Nat → Int
  | 0 => -1
  | i + 1 => if (psK.getD i (⟨#[]⟩, 0)).1 = u then (i : Int) else kI u i
theorem kI_four (u : ByteArray) : kI u 4 = match look6 psK u with | none => -1 | some n => (n : Int) - 1 := by
  by_cases h1 : u = ⟨#[102, 105, 114, 115, 116]⟩
  · subst h1; decide
  by_cases h2 : u = ⟨#[98, 108, 97, 110, 107]⟩
  · subst h2; decide
  by_cases h3 : u = ⟨#[108, 101, 102, 116]⟩
  · subst h3; decide
  by_cases h4 : u = ⟨#[114, 105, 103, 104, 116]⟩
  · subst h4; decide
  have g1 := fun h => h1 (Eq.symm h)
  have g2 := fun h => h2 (Eq.symm h)
  have g3 := fun h => h3 (Eq.symm h)
  have g4 := fun h => h4 (Eq.symm h)
  simp only [kI, psK, look6, List.getD_cons_zero, List.getD_cons_succ, if_neg h1, if_neg h2, if_neg h3, if_neg h4, if_neg g1, if_neg g2, if_neg g3, if_neg g4]
theorem cur_cons (l : List Tok) (B a : Nat) (hB : B ≤ l.length) (h : a < B) : (l.take B).drop a = l.getD a .zero :: (l.take B).drop (a + 1) := by
  have h1 : a < (l.take B).length := by rw [List.length_take]; omega
  rw [List.drop_eq_getElem_cons h1, List.getD_eq_getElem?_getD, List.getElem?_eq_getElem (by omega)]
  simp
structure OrS16 where
  a : Nat
  s : PSel
  clk : Nat
theorem oneRef_ok (l : List Tok) (h : okT16 l) : PCall Try.prog 26 [toks l] (oneV (oneP l)) := by
  refine PCall.of (Orc.cons sumTrimR (Orc.cons sumLowR (Orc.nil _))) c26_ok (by simp [c26]) fun w0 own0 => ?_
  obtain ⟨hA, hB⟩ := tr_rng l
  have h1 := h.1
  have hw : ∀ i, (l.getD i .zero).text.size ≤ 1000000 := fun i => by
    by_cases hi : i < l.length
    · rw [List.getD_eq_getElem?_getD, List.getElem?_eq_getElem hi]; exact h.2 _ (List.getElem_mem hi)
    · rw [List.getD_eq_getElem?_getD, List.getElem?_eq_none (by omega)]; decide
  have htv : trV l = .tup [vi (trA l), vi (trB l)] := rfl
  unfold oneP trim
  generalize hR : oneT ((l.take (trB l)).drop (trA l)) = R
  generalize trA l = A at *
  generalize trB l = B at *
  by_cases hab : A = B
  · subst hab
    rw [List.drop_eq_nil_of_le (by rw [List.length_take]; omega)] at hR
    simp only [oneT] at hR
    subst hR
    simp only [c26, toks, dToks_map, h1, htv, oneV, Option.getD_none, Option.isSome_none, PSel.enc, PSel.zero, res11_agg, on_gcall, off_gcall, flat_gcall, go_sem, reduceCtorEq, reduceIte, Nat.reduceEqDiff, Nat.reduceAdd, Nat.reduceSub, Nat.reduceMul, Nat.reduceLT, Nat.reduceLeDiff, Nat.reduceBEq, Int.reduceEq, Int.reduceLT, Int.reduceLE, Int.reduceAdd, Int.reduceSub, Int.reduceNeg, Int.reduceToNat]
  · have hlt : A < B := by omega
    have q0 : (((A : Nat) : Int) = ((B : Nat) : Int)) = False := eq_false (by omega)
    have q1 : (0 : Int) ≤ ((A : Nat) : Int) := by omega
    have q2 : ((A : Nat) : Int) < (l.length : Int) := by omega
    have hcc := cur_cons l B A hB hlt
    rw [hcc] at hR
    simp only [oneT] at hR
    have hR0 : (if (l.getD A .zero).kind = 2 then psL ((l.take B).drop (A + 1)) ⟨(l.getD A .zero).text, 0, 0, 0, 0⟩ else psL ((l.take B).drop A) .zero) = R := by rw [← hR, hcc]
    clear hR
    generalize hz : l.getD A .zero = z at *
    by_cases k2 : z.kind = 2
    · have k2t := eq_true k2
      rw [if_pos k2] at hR0
      simp only [c26, toks, dToks_map, h1, htv, q0, q1, q2, hz, k2t, PSel.enc, PSel.zero, Tok.enc, res11_agg, on_gcall, off_gcall, flat_gcall, go_sem, reduceCtorEq, reduceIte, Nat.reduceEqDiff, Nat.reduceAdd, Nat.reduceSub, Nat.reduceMul, Nat.reduceLT, Nat.reduceLeDiff, Nat.reduceBEq, Int.reduceEq, Int.reduceLT, Int.reduceLE, Int.reduceAdd, Int.reduceSub, Int.reduceNeg, Int.reduceToNat]
      refine ⟨by omega, ?_⟩
      refine SemC.lp (α := OrS16) (fun t => [(0, .slc 3 (l.map Tok.enc)), (2, .ptr 0 0 0 0), (5, vi B), (6, .ptr 1 1 0 0), (7, vi t.a), (8, .ref 2 2 0 4)])
        (fun t => ⟨[⟨0, 5, [PSel.zero.enc], false, []⟩, ⟨1, 5, [t.s.enc], false, []⟩, ⟨2, 1, [[vs ⟨#[102, 105, 114, 115, 116]⟩], [vs ⟨#[98, 108, 97, 110, 107]⟩], [vs ⟨#[108, 101, 102, 116]⟩], [vs ⟨#[114, 105, 103, 104, 116]⟩]], false, [vs ⟨#[]⟩]⟩], t.clk⟩) (fun t => psL ((l.take B).drop t.a) t.s = R ∧ cntB t.s (1000000 - (B - t.a : Nat)) ∧ t.a ≤ B) (fun t => B - t.a) ⟨A + 1, ⟨z.text, 0, 0, 0, 0⟩, 3⟩
        ⟨hR0, by unfold cntB; simp [PSel.zero]; omega, by dsimp only; omega⟩ (St.cut ?_ ?_ ?_) fun t ht => ?_
      · simp [Agrees, upd_at, initE_at]
      · simp [PSel.enc, PSel.zero]
      · rfl
      obtain ⟨at_, s, clk⟩ := t
      obtain ⟨g1, g2, g3⟩ := ht
      simp only at g1 g2 g3
      by_cases hend : at_ = B
      · subst hend
        rw [List.drop_eq_nil_of_le (by rw [List.length_take]; omega)] at g1
        simp only [psL] at g1
        subst g1
        simp only [Int.lt_irrefl, PSel.enc, PSel.zero, oneV, Option.getD_some, Option.isSome_some, res11_agg, on_gcall, off_gcall, flat_gcall, go_sem, reduceCtorEq, reduceIte, Nat.reduceEqDiff, Nat.reduceAdd, Nat.reduceSub, Nat.reduceMul, Nat.reduceLT, Nat.reduceLeDiff, Nat.reduceBEq, Int.reduceEq, Int.reduceLT, Int.reduceLE, Int.reduceAdd, Int.reduceSub, Int.reduceNeg, Int.reduceToNat]
      · have p0 : ((at_ : Nat) : Int) < ((B : Nat) : Int) := by omega
        have p00 : (0 : Int) ≤ ((at_ : Nat) : Int) := by omega
        have p01 : ((at_ : Nat) : Int) < (l.length : Int) := by omega
        rw [cur_cons l B at_ hB (by omega)] at g1
        by_cases hone : at_ + 1 = B
        · rw [List.drop_eq_nil_of_le (by rw [List.length_take]; omega)] at g1
          simp only [psL] at g1
          subst g1
          have p1 : ((B : Nat) : Int) ≤ ((at_ : Nat) : Int) + 1 := by omega
          simp only [p0, p1, PSel.enc, PSel.zero, Tok.enc, oneV, Option.getD_none, Option.isSome_none, res11_agg, on_gcall, off_gcall, flat_gcall, go_sem, reduceCtorEq, reduceIte, Nat.reduceEqDiff, Nat.reduceAdd, Nat.reduceSub, Nat.reduceMul, Nat.reduceLT, Nat.reduceLeDiff, Nat.reduceBEq, Int.reduceEq, Int.reduceLT, Int.reduceLE, Int.reduceAdd, Int.reduceSub, Int.reduceNeg, Int.reduceToNat]
          omega
        · rw [cur_cons l B (at_ + 1) hB (by omega)] at g1
          have p1 : ¬ ((B : Nat) : Int) ≤ ((at_ : Nat) : Int) + 1 := by omega
          have p2 : (((at_ : Nat) : Int) + 1).toNat = at_ + 1 := by omega
          have p3 : (0 : Int) ≤ ((at_ : Nat) : Int) + 1 := by omega
          have p4 : ((at_ : Nat) : Int) + 1 < (l.length : Int) := by omega
          have p5 : -9223372036854775808 ≤ ((at_ : Nat) : Int) + 1 ∧ ((at_ : Nat) : Int) + 1 ≤ 9223372036854775807 := by omega
          have hiw := hw (at_ + 1)
          simp only [psL] at g1
          rw [show at_ + 1 + 1 = at_ + 2 by omega] at g1
          generalize hc : l.getD at_ .zero = c at *
          generalize hi : l.getD (at_ + 1) .zero = i at *
          by_cases k14 : c.kind = 14
          · have k14t := eq_true k14
            by_cases ki : i.kind = 2
            · have kit := eq_true ki
              rw [if_pos ⟨k14, ki⟩] at g1
              simp only [p0, p00, p01, p1, p2, p3, p4, p5, hc, hi, k14t, kit, PSel.enc, PSel.zero, Tok.enc, res11_agg, on_gcall, off_gcall, flat_gcall, go_sem, reduceCtorEq, reduceIte, Nat.reduceEqDiff, Nat.reduceAdd, Nat.reduceSub, Nat.reduceMul, Nat.reduceLT, Nat.reduceLeDiff, Nat.reduceBEq, Int.reduceEq, Int.reduceLT, Int.reduceLE, Int.reduceAdd, Int.reduceSub, Int.reduceNeg, Int.reduceToNat]
              generalize hu : lowB i.text = u at *
              have hk4 := kI_four u
              rw [bump_look] at g1
              have hlr := look6_rng u
              refine SemC.lp (α := Nat) (fun k => [(0, .slc 3 (l.map Tok.enc)), (2, .ptr 0 0 0 0), (5, vi B), (6, .ptr 1 1 0 0), (7, vi at_), (8, .ref 2 2 0 4), (9, vi (kI u k)), (10, vi k)])
                (fun _ => ⟨[⟨0, 5, [PSel.zero.enc], false, []⟩, ⟨1, 5, [s.enc], false, []⟩, ⟨2, 1, [[vs ⟨#[102, 105, 114, 115, 116]⟩], [vs ⟨#[98, 108, 97, 110, 107]⟩], [vs ⟨#[108, 101, 102, 116]⟩], [vs ⟨#[114, 105, 103, 104, 116]⟩]], false, [vs ⟨#[]⟩]⟩], clk⟩) (fun k => k ≤ 4) (fun k => 4 - k) 0 (by omega) (St.cut ?_ ?_ ?_) fun k hk => ?_
              · simp [Agrees, upd_at, ev_cons, kI]
              · simp [PSel.enc, PSel.zero]
              · rfl
              rcases (show k = 0 ∨ k = 1 ∨ k = 2 ∨ k = 3 ∨ k = 4 by omega) with rfl | rfl | rfl | rfl | rfl
              · by_cases hq : ((⟨#[102, 105, 114, 115, 116]⟩ : ByteArray) = u)
                · have hqt := eq_true hq
                  have hks : kI u 1 = 0 := by show (if ((⟨#[102, 105, 114, 115, 116]⟩ : ByteArray) = u) then ((0 : Nat) : Int) else kI u 0) = 0; rw [if_pos hq]; rfl
                  simp only [p00, p01, p2, p3, p4, p5, hi, hiw, hu, hqt, Tok.enc, res11_agg, on_gcall, off_gcall, flat_gcall, go_sem, reduceCtorEq, reduceIte, Nat.reduceEqDiff, Nat.reduceAdd, Nat.reduceSub, Nat.reduceMul, Nat.reduceLT, Nat.reduceLeDiff, Nat.reduceBEq, Int.reduceEq, Int.reduceLT, Int.reduceLE, Int.reduceAdd, Int.reduceSub, Int.reduceNeg, Int.reduceToNat]
                  exact ⟨1, by omega, by omega, by rw [hks], rfl⟩
                · have hqt := eq_false hq
                  have hks : kI u 1 = kI u 0 := by show (if ((⟨#[102, 105, 114, 115, 116]⟩ : ByteArray) = u) then ((0 : Nat) : Int) else kI u 0) = kI u 0; rw [if_neg hq]
                  simp only [p00, p01, p2, p3, p4, p5, hi, hiw, hu, hqt, Tok.enc, res11_agg, on_gcall, off_gcall, flat_gcall, go_sem, reduceCtorEq, reduceIte, Nat.reduceEqDiff, Nat.reduceAdd, Nat.reduceSub, Nat.reduceMul, Nat.reduceLT, Nat.reduceLeDiff, Nat.reduceBEq, Int.reduceEq, Int.reduceLT, Int.reduceLE, Int.reduceAdd, Int.reduceSub, Int.reduceNeg, Int.reduceToNat]
                  exact ⟨1, by omega, by omega, by rw [hks], rfl⟩
              · by_cases hq : ((⟨#[98, 108, 97, 110, 107]⟩ : ByteArray) = u)
                · have hqt := eq_true hq
                  have hks : kI u 2 = 1 := by show (if ((⟨#[98, 108, 97, 110, 107]⟩ : ByteArray) = u) then ((1 : Nat) : Int) else kI u 1) = 1; rw [if_pos hq]; rfl
                  simp only [p00, p01, p2, p3, p4, p5, hi, hiw, hu, hqt, Tok.enc, res11_agg, on_gcall, off_gcall, flat_gcall, go_sem, reduceCtorEq, reduceIte, Nat.reduceEqDiff, Nat.reduceAdd, Nat.reduceSub, Nat.reduceMul, Nat.reduceLT, Nat.reduceLeDiff, Nat.reduceBEq, Int.reduceEq, Int.reduceLT, Int.reduceLE, Int.reduceAdd, Int.reduceSub, Int.reduceNeg, Int.reduceToNat]
                  exact ⟨2, by omega, by omega, by rw [hks], rfl⟩
                · have hqt := eq_false hq
                  have hks : kI u 2 = kI u 1 := by show (if ((⟨#[98, 108, 97, 110, 107]⟩ : ByteArray) = u) then ((1 : Nat) : Int) else kI u 1) = kI u 1; rw [if_neg hq]
                  simp only [p00, p01, p2, p3, p4, p5, hi, hiw, hu, hqt, Tok.enc, res11_agg, on_gcall, off_gcall, flat_gcall, go_sem, reduceCtorEq, reduceIte, Nat.reduceEqDiff, Nat.reduceAdd, Nat.reduceSub, Nat.reduceMul, Nat.reduceLT, Nat.reduceLeDiff, Nat.reduceBEq, Int.reduceEq, Int.reduceLT, Int.reduceLE, Int.reduceAdd, Int.reduceSub, Int.reduceNeg, Int.reduceToNat]
                  exact ⟨2, by omega, by omega, by rw [hks], rfl⟩
              · by_cases hq : ((⟨#[108, 101, 102, 116]⟩ : ByteArray) = u)
                · have hqt := eq_true hq
                  have hks : kI u 3 = 2 := by show (if ((⟨#[108, 101, 102, 116]⟩ : ByteArray) = u) then ((2 : Nat) : Int) else kI u 2) = 2; rw [if_pos hq]; rfl
                  simp only [p00, p01, p2, p3, p4, p5, hi, hiw, hu, hqt, Tok.enc, res11_agg, on_gcall, off_gcall, flat_gcall, go_sem, reduceCtorEq, reduceIte, Nat.reduceEqDiff, Nat.reduceAdd, Nat.reduceSub, Nat.reduceMul, Nat.reduceLT, Nat.reduceLeDiff, Nat.reduceBEq, Int.reduceEq, Int.reduceLT, Int.reduceLE, Int.reduceAdd, Int.reduceSub, Int.reduceNeg, Int.reduceToNat]
                  exact ⟨3, by omega, by omega, by rw [hks], rfl⟩
                · have hqt := eq_false hq
                  have hks : kI u 3 = kI u 2 := by show (if ((⟨#[108, 101, 102, 116]⟩ : ByteArray) = u) then ((2 : Nat) : Int) else kI u 2) = kI u 2; rw [if_neg hq]
                  simp only [p00, p01, p2, p3, p4, p5, hi, hiw, hu, hqt, Tok.enc, res11_agg, on_gcall, off_gcall, flat_gcall, go_sem, reduceCtorEq, reduceIte, Nat.reduceEqDiff, Nat.reduceAdd, Nat.reduceSub, Nat.reduceMul, Nat.reduceLT, Nat.reduceLeDiff, Nat.reduceBEq, Int.reduceEq, Int.reduceLT, Int.reduceLE, Int.reduceAdd, Int.reduceSub, Int.reduceNeg, Int.reduceToNat]
                  exact ⟨3, by omega, by omega, by rw [hks], rfl⟩
              · by_cases hq : ((⟨#[114, 105, 103, 104, 116]⟩ : ByteArray) = u)
                · have hqt := eq_true hq
                  have hks : kI u 4 = 3 := by show (if ((⟨#[114, 105, 103, 104, 116]⟩ : ByteArray) = u) then ((3 : Nat) : Int) else kI u 3) = 3; rw [if_pos hq]; rfl
                  simp only [p00, p01, p2, p3, p4, p5, hi, hiw, hu, hqt, Tok.enc, res11_agg, on_gcall, off_gcall, flat_gcall, go_sem, reduceCtorEq, reduceIte, Nat.reduceEqDiff, Nat.reduceAdd, Nat.reduceSub, Nat.reduceMul, Nat.reduceLT, Nat.reduceLeDiff, Nat.reduceBEq, Int.reduceEq, Int.reduceLT, Int.reduceLE, Int.reduceAdd, Int.reduceSub, Int.reduceNeg, Int.reduceToNat]
                  exact ⟨4, by omega, by omega, by rw [hks], rfl⟩
                · have hqt := eq_false hq
                  have hks : kI u 4 = kI u 3 := by show (if ((⟨#[114, 105, 103, 104, 116]⟩ : ByteArray) = u) then ((3 : Nat) : Int) else kI u 3) = kI u 3; rw [if_neg hq]
                  simp only [p00, p01, p2, p3, p4, p5, hi, hiw, hu, hqt, Tok.enc, res11_agg, on_gcall, off_gcall, flat_gcall, go_sem, reduceCtorEq, reduceIte, Nat.reduceEqDiff, Nat.reduceAdd, Nat.reduceSub, Nat.reduceMul, Nat.reduceLT, Nat.reduceLeDiff, Nat.reduceBEq, Int.reduceEq, Int.reduceLT, Int.reduceLE, Int.reduceAdd, Int.reduceSub, Int.reduceNeg, Int.reduceToNat]
                  exact ⟨4, by omega, by omega, by rw [hks], rfl⟩
              · rw [hk4]
                cases ho : look6 psK u with
                | none =>
                  rw [ho] at g1
                  simp only [Option.map_none] at g1
                  subst g1
                  simp only [PSel.enc, PSel.zero, oneV, Option.getD_none, Option.isSome_none, res11_agg, on_gcall, off_gcall, flat_gcall, go_sem, reduceCtorEq, reduceIte, Nat.reduceEqDiff, Nat.reduceAdd, Nat.reduceSub, Nat.reduceMul, Nat.reduceLT, Nat.reduceLeDiff, Nat.reduceBEq, Int.reduceEq, Int.reduceLT, Int.reduceLE, Int.reduceAdd, Int.reduceSub, Int.reduceNeg, Int.reduceToNat]
                | some n =>
                  rw [ho] at g1
                  simp only [Option.map_some] at g1
                  have hcn := g2
                  unfold cntB at hcn
                  rcases hlr n ho with rfl | rfl | rfl | rfl
                  all_goals simp only [if_true, if_false, reduceIte, Nat.reduceEqDiff] at g1
                  all_goals simp only [PSel.enc, PSel.zero, res11_agg, on_gcall, off_gcall, flat_gcall, go_sem, reduceCtorEq, reduceIte, Nat.reduceEqDiff, Nat.reduceAdd, Nat.reduceSub, Nat.reduceMul, Nat.reduceLT, Nat.reduceLeDiff, Nat.reduceBEq, Int.reduceEq, Int.reduceLT, Int.reduceLE, Int.reduceAdd, Int.reduceSub, Int.reduceNeg, Int.reduceToNat]
                  all_goals exact ⟨by omega, by omega, ⟨at_ + 2, _, clk⟩, ⟨g1, by unfold cntB; dsimp only; omega, by dsimp only; omega⟩, by dsimp only; omega, by dsimp only; omega, ⟨rfl, rfl, rfl, rfl, rfl⟩, rfl⟩
            · have kit := eq_false ki
              rw [if_neg (fun hh => ki hh.2)] at g1
              subst g1
              simp only [p0, p00, p01, p1, p2, p3, p4, p5, hc, hi, k14t, kit, PSel.enc, PSel.zero, Tok.enc, oneV, Option.getD_none, Option.isSome_none, res11_agg, on_gcall, off_gcall, flat_gcall, go_sem, reduceCtorEq, reduceIte, Nat.reduceEqDiff, Nat.reduceAdd, Nat.reduceSub, Nat.reduceMul, Nat.reduceLT, Nat.reduceLeDiff, Nat.reduceBEq, Int.reduceEq, Int.reduceLT, Int.reduceLE, Int.reduceAdd, Int.reduceSub, Int.reduceNeg, Int.reduceToNat]
          · have k14t := eq_false k14
            rw [if_neg (fun hh => k14 hh.1)] at g1
            subst g1
            simp only [p0, p00, p01, p1, p2, p3, p4, p5, hc, hi, k14t, PSel.enc, PSel.zero, Tok.enc, oneV, Option.getD_none, Option.isSome_none, res11_agg, on_gcall, off_gcall, flat_gcall, go_sem, reduceCtorEq, reduceIte, Nat.reduceEqDiff, Nat.reduceAdd, Nat.reduceSub, Nat.reduceMul, Nat.reduceLT, Nat.reduceLeDiff, Nat.reduceBEq, Int.reduceEq, Int.reduceLT, Int.reduceLE, Int.reduceAdd, Int.reduceSub, Int.reduceNeg, Int.reduceToNat]
    · have k2t := eq_false k2
      rw [if_neg k2] at hR0
      simp only [c26, toks, dToks_map, h1, htv, q0, q1, q2, hz, k2t, PSel.enc, PSel.zero, Tok.enc, res11_agg, on_gcall, off_gcall, flat_gcall, go_sem, reduceCtorEq, reduceIte, Nat.reduceEqDiff, Nat.reduceAdd, Nat.reduceSub, Nat.reduceMul, Nat.reduceLT, Nat.reduceLeDiff, Nat.reduceBEq, Int.reduceEq, Int.reduceLT, Int.reduceLE, Int.reduceAdd, Int.reduceSub, Int.reduceNeg, Int.reduceToNat]
      refine SemC.lp (α := OrS16) (fun t => [(0, .slc 3 (l.map Tok.enc)), (2, .ptr 0 0 0 0), (5, vi B), (6, .ptr 1 1 0 0), (7, vi t.a), (8, .ref 2 2 0 4)])
        (fun t => ⟨[⟨0, 5, [PSel.zero.enc], false, []⟩, ⟨1, 5, [t.s.enc], false, []⟩, ⟨2, 1, [[vs ⟨#[102, 105, 114, 115, 116]⟩], [vs ⟨#[98, 108, 97, 110, 107]⟩], [vs ⟨#[108, 101, 102, 116]⟩], [vs ⟨#[114, 105, 103, 104, 116]⟩]], false, [vs ⟨#[]⟩]⟩], t.clk⟩) (fun t => psL ((l.take B).drop t.a) t.s = R ∧ cntB t.s (1000000 - (B - t.a : Nat)) ∧ t.a ≤ B) (fun t => B - t.a) ⟨A, .zero, 3⟩
        ⟨hR0, by unfold cntB; simp [PSel.zero]; omega, by dsimp only; omega⟩ (St.cut ?_ ?_ ?_) fun t ht => ?_
      · simp [Agrees, upd_at, initE_at]
      · simp [PSel.enc, PSel.zero]
      · rfl
      obtain ⟨at_, s, clk⟩ := t
      obtain ⟨g1, g2, g3⟩ := ht
      simp only at g1 g2 g3
      by_cases hend : at_ = B
      · subst hend
        rw [List.drop_eq_nil_of_le (by rw [List.length_take]; omega)] at g1
        simp only [psL] at g1
        subst g1
        simp only [Int.lt_irrefl, PSel.enc, PSel.zero, oneV, Option.getD_some, Option.isSome_some, res11_agg, on_gcall, off_gcall, flat_gcall, go_sem, reduceCtorEq, reduceIte, Nat.reduceEqDiff, Nat.reduceAdd, Nat.reduceSub, Nat.reduceMul, Nat.reduceLT, Nat.reduceLeDiff, Nat.reduceBEq, Int.reduceEq, Int.reduceLT, Int.reduceLE, Int.reduceAdd, Int.reduceSub, Int.reduceNeg, Int.reduceToNat]
      · have p0 : ((at_ : Nat) : Int) < ((B : Nat) : Int) := by omega
        have p00 : (0 : Int) ≤ ((at_ : Nat) : Int) := by omega
        have p01 : ((at_ : Nat) : Int) < (l.length : Int) := by omega
        rw [cur_cons l B at_ hB (by omega)] at g1
        by_cases hone : at_ + 1 = B
        · rw [List.drop_eq_nil_of_le (by rw [List.length_take]; omega)] at g1
          simp only [psL] at g1
          subst g1
          have p1 : ((B : Nat) : Int) ≤ ((at_ : Nat) : Int) + 1 := by omega
          simp only [p0, p1, PSel.enc, PSel.zero, Tok.enc, oneV, Option.getD_none, Option.isSome_none, res11_agg, on_gcall, off_gcall, flat_gcall, go_sem, reduceCtorEq, reduceIte, Nat.reduceEqDiff, Nat.reduceAdd, Nat.reduceSub, Nat.reduceMul, Nat.reduceLT, Nat.reduceLeDiff, Nat.reduceBEq, Int.reduceEq, Int.reduceLT, Int.reduceLE, Int.reduceAdd, Int.reduceSub, Int.reduceNeg, Int.reduceToNat]
          omega
        · rw [cur_cons l B (at_ + 1) hB (by omega)] at g1
          have p1 : ¬ ((B : Nat) : Int) ≤ ((at_ : Nat) : Int) + 1 := by omega
          have p2 : (((at_ : Nat) : Int) + 1).toNat = at_ + 1 := by omega
          have p3 : (0 : Int) ≤ ((at_ : Nat) : Int) + 1 := by omega
          have p4 : ((at_ : Nat) : Int) + 1 < (l.length : Int) := by omega
          have p5 : -9223372036854775808 ≤ ((at_ : Nat) : Int) + 1 ∧ ((at_ : Nat) : Int) + 1 ≤ 9223372036854775807 := by omega
          have hiw := hw (at_ + 1)
          simp only [psL] at g1
          rw [show at_ + 1 + 1 = at_ + 2 by omega] at g1
          generalize hc : l.getD at_ .zero = c at *
          generalize hi : l.getD (at_ + 1) .zero = i at *
          by_cases k14 : c.kind = 14
          · have k14t := eq_true k14
            by_cases ki : i.kind = 2
            · have kit := eq_true ki
              rw [if_pos ⟨k14, ki⟩] at g1
              simp only [p0, p00, p01, p1, p2, p3, p4, p5, hc, hi, k14t, kit, PSel.enc, PSel.zero, Tok.enc, res11_agg, on_gcall, off_gcall, flat_gcall, go_sem, reduceCtorEq, reduceIte, Nat.reduceEqDiff, Nat.reduceAdd, Nat.reduceSub, Nat.reduceMul, Nat.reduceLT, Nat.reduceLeDiff, Nat.reduceBEq, Int.reduceEq, Int.reduceLT, Int.reduceLE, Int.reduceAdd, Int.reduceSub, Int.reduceNeg, Int.reduceToNat]
              generalize hu : lowB i.text = u at *
              have hk4 := kI_four u
              rw [bump_look] at g1
              have hlr := look6_rng u
              refine SemC.lp (α := Nat) (fun k => [(0, .slc 3 (l.map Tok.enc)), (2, .ptr 0 0 0 0), (5, vi B), (6, .ptr 1 1 0 0), (7, vi at_), (8, .ref 2 2 0 4), (9, vi (kI u k)), (10, vi k)])
                (fun _ => ⟨[⟨0, 5, [PSel.zero.enc], false, []⟩, ⟨1, 5, [s.enc], false, []⟩, ⟨2, 1, [[vs ⟨#[102, 105, 114, 115, 116]⟩], [vs ⟨#[98, 108, 97, 110, 107]⟩], [vs ⟨#[108, 101, 102, 116]⟩], [vs ⟨#[114, 105, 103, 104, 116]⟩]], false, [vs ⟨#[]⟩]⟩], clk⟩) (fun k => k ≤ 4) (fun k => 4 - k) 0 (by omega) (St.cut ?_ ?_ ?_) fun k hk => ?_
              · simp [Agrees, upd_at, ev_cons, kI]
              · simp [PSel.enc, PSel.zero]
              · rfl
              rcases (show k = 0 ∨ k = 1 ∨ k = 2 ∨ k = 3 ∨ k = 4 by omega) with rfl | rfl | rfl | rfl | rfl
              · by_cases hq : ((⟨#[102, 105, 114, 115, 116]⟩ : ByteArray) = u)
                · have hqt := eq_true hq
                  have hks : kI u 1 = 0 := by show (if ((⟨#[102, 105, 114, 115, 116]⟩ : ByteArray) = u) then ((0 : Nat) : Int) else kI u 0) = 0; rw [if_pos hq]; rfl
                  simp only [p00, p01, p2, p3, p4, p5, hi, hiw, hu, hqt, Tok.enc, res11_agg, on_gcall, off_gcall, flat_gcall, go_sem, reduceCtorEq, reduceIte, Nat.reduceEqDiff, Nat.reduceAdd, Nat.reduceSub, Nat.reduceMul, Nat.reduceLT, Nat.reduceLeDiff, Nat.reduceBEq, Int.reduceEq, Int.reduceLT, Int.reduceLE, Int.reduceAdd, Int.reduceSub, Int.reduceNeg, Int.reduceToNat]
                  exact ⟨1, by omega, by omega, by rw [hks], rfl⟩
                · have hqt := eq_false hq
                  have hks : kI u 1 = kI u 0 := by show (if ((⟨#[102, 105, 114, 115, 116]⟩ : ByteArray) = u) then ((0 : Nat) : Int) else kI u 0) = kI u 0; rw [if_neg hq]
                  simp only [p00, p01, p2, p3, p4, p5, hi, hiw, hu, hqt, Tok.enc, res11_agg, on_gcall, off_gcall, flat_gcall, go_sem, reduceCtorEq, reduceIte, Nat.reduceEqDiff, Nat.reduceAdd, Nat.reduceSub, Nat.reduceMul, Nat.reduceLT, Nat.reduceLeDiff, Nat.reduceBEq, Int.reduceEq, Int.reduceLT, Int.reduceLE, Int.reduceAdd, Int.reduceSub, Int.reduceNeg, Int.reduceToNat]
                  exact ⟨1, by omega, by omega, by rw [hks], rfl⟩
              · by_cases hq : ((⟨#[98, 108, 97, 110, 107]⟩ : ByteArray) = u)
                · have hqt := eq_true hq
                  have hks : kI u 2 = 1 := by show (if ((⟨#[98, 108, 97, 110, 107]⟩ : ByteArray) = u) then ((1 : Nat) : Int) else kI u 1) = 1; rw [if_pos hq]; rfl
                  simp only [p00, p01, p2, p3, p4, p5, hi, hiw, hu, hqt, Tok.enc, res11_agg, on_gcall, off_gcall, flat_gcall, go_sem, reduceCtorEq, reduceIte, Nat.reduceEqDiff, Nat.reduceAdd, Nat.reduceSub, Nat.reduceMul, Nat.reduceLT, Nat.reduceLeDiff, Nat.reduceBEq, Int.reduceEq, Int.reduceLT, Int.reduceLE, Int.reduceAdd, Int.reduceSub, Int.reduceNeg, Int.reduceToNat]
                  exact ⟨2, by omega, by omega, by rw [hks], rfl⟩
                · have hqt := eq_false hq
                  have hks : kI u 2 = kI u 1 := by show (if ((⟨#[98, 108, 97, 110, 107]⟩ : ByteArray) = u) then ((1 : Nat) : Int) else kI u 1) = kI u 1; rw [if_neg hq]
                  simp only [p00, p01, p2, p3, p4, p5, hi, hiw, hu, hqt, Tok.enc, res11_agg, on_gcall, off_gcall, flat_gcall, go_sem, reduceCtorEq, reduceIte, Nat.reduceEqDiff, Nat.reduceAdd, Nat.reduceSub, Nat.reduceMul, Nat.reduceLT, Nat.reduceLeDiff, Nat.reduceBEq, Int.reduceEq, Int.reduceLT, Int.reduceLE, Int.reduceAdd, Int.reduceSub, Int.reduceNeg, Int.reduceToNat]
                  exact ⟨2, by omega, by omega, by rw [hks], rfl⟩
              · by_cases hq : ((⟨#[108, 101, 102, 116]⟩ : ByteArray) = u)
                · have hqt := eq_true hq
                  have hks : kI u 3 = 2 := by show (if ((⟨#[108, 101, 102, 116]⟩ : ByteArray) = u) then ((2 : Nat) : Int) else kI u 2) = 2; rw [if_pos hq]; rfl
                  simp only [p00, p01, p2, p3, p4, p5, hi, hiw, hu, hqt, Tok.enc, res11_agg, on_gcall, off_gcall, flat_gcall, go_sem, reduceCtorEq, reduceIte, Nat.reduceEqDiff, Nat.reduceAdd, Nat.reduceSub, Nat.reduceMul, Nat.reduceLT, Nat.reduceLeDiff, Nat.reduceBEq, Int.reduceEq, Int.reduceLT, Int.reduceLE, Int.reduceAdd, Int.reduceSub, Int.reduceNeg, Int.reduceToNat]
                  exact ⟨3, by omega, by omega, by rw [hks], rfl⟩
                · have hqt := eq_false hq
                  have hks : kI u 3 = kI u 2 := by show (if ((⟨#[108, 101, 102, 116]⟩ : ByteArray) = u) then ((2 : Nat) : Int) else kI u 2) = kI u 2; rw [if_neg hq]
                  simp only [p00, p01, p2, p3, p4, p5, hi, hiw, hu, hqt, Tok.enc, res11_agg, on_gcall, off_gcall, flat_gcall, go_sem, reduceCtorEq, reduceIte, Nat.reduceEqDiff, Nat.reduceAdd, Nat.reduceSub, Nat.reduceMul, Nat.reduceLT, Nat.reduceLeDiff, Nat.reduceBEq, Int.reduceEq, Int.reduceLT, Int.reduceLE, Int.reduceAdd, Int.reduceSub, Int.reduceNeg, Int.reduceToNat]
                  exact ⟨3, by omega, by omega, by rw [hks], rfl⟩
              · by_cases hq : ((⟨#[114, 105, 103, 104, 116]⟩ : ByteArray) = u)
                · have hqt := eq_true hq
                  have hks : kI u 4 = 3 := by show (if ((⟨#[114, 105, 103, 104, 116]⟩ : ByteArray) = u) then ((3 : Nat) : Int) else kI u 3) = 3; rw [if_pos hq]; rfl
                  simp only [p00, p01, p2, p3, p4, p5, hi, hiw, hu, hqt, Tok.enc, res11_agg, on_gcall, off_gcall, flat_gcall, go_sem, reduceCtorEq, reduceIte, Nat.reduceEqDiff, Nat.reduceAdd, Nat.reduceSub, Nat.reduceMul, Nat.reduceLT, Nat.reduceLeDiff, Nat.reduceBEq, Int.reduceEq, Int.reduceLT, Int.reduceLE, Int.reduceAdd, Int.reduceSub, Int.reduceNeg, Int.reduceToNat]
                  exact ⟨4, by omega, by omega, by rw [hks], rfl⟩
                · have hqt := eq_false hq
                  have hks : kI u 4 = kI u 3 := by show (if ((⟨#[114, 105, 103, 104, 116]⟩ : ByteArray) = u) then ((3 : Nat) : Int) else kI u 3) = kI u 3; rw [if_neg hq]
                  simp only [p00, p01, p2, p3, p4, p5, hi, hiw, hu, hqt, Tok.enc, res11_agg, on_gcall, off_gcall, flat_gcall, go_sem, reduceCtorEq, reduceIte, Nat.reduceEqDiff, Nat.reduceAdd, Nat.reduceSub, Nat.reduceMul, Nat.reduceLT, Nat.reduceLeDiff, Nat.reduceBEq, Int.reduceEq, Int.reduceLT, Int.reduceLE, Int.reduceAdd, Int.reduceSub, Int.reduceNeg, Int.reduceToNat]
                  exact ⟨4, by omega, by omega, by rw [hks], rfl⟩
              · rw [hk4]
                cases ho : look6 psK u with
                | none =>
                  rw [ho] at g1
                  simp only [Option.map_none] at g1
                  subst g1
                  simp only [PSel.enc, PSel.zero, oneV, Option.getD_none, Option.isSome_none, res11_agg, on_gcall, off_gcall, flat_gcall, go_sem, reduceCtorEq, reduceIte, Nat.reduceEqDiff, Nat.reduceAdd, Nat.reduceSub, Nat.reduceMul, Nat.reduceLT, Nat.reduceLeDiff, Nat.reduceBEq, Int.reduceEq, Int.reduceLT, Int.reduceLE, Int.reduceAdd, Int.reduceSub, Int.reduceNeg, Int.reduceToNat]
                | some n =>
                  rw [ho] at g1
                  simp only [Option.map_some] at g1
                  have hcn := g2
                  unfold cntB at hcn
                  rcases hlr n ho with rfl | rfl | rfl | rfl
                  all_goals simp only [if_true, if_false, reduceIte, Nat.reduceEqDiff] at g1
                  all_goals simp only [PSel.enc, PSel.zero, res11_agg, on_gcall, off_gcall, flat_gcall, go_sem, reduceCtorEq, reduceIte, Nat.reduceEqDiff, Nat.reduceAdd, Nat.reduceSub, Nat.reduceMul, Nat.reduceLT, Nat.reduceLeDiff, Nat.reduceBEq, Int.reduceEq, Int.reduceLT, Int.reduceLE, Int.reduceAdd, Int.reduceSub, Int.reduceNeg, Int.reduceToNat]
                  all_goals exact ⟨by omega, by omega, ⟨at_ + 2, _, clk⟩, ⟨g1, by unfold cntB; dsimp only; omega, by dsimp only; omega⟩, by dsimp only; omega, by dsimp only; omega, ⟨rfl, rfl, rfl, rfl, rfl⟩, rfl⟩
            · have kit := eq_false ki
              rw [if_neg (fun hh => ki hh.2)] at g1
              subst g1
              simp only [p0, p00, p01, p1, p2, p3, p4, p5, hc, hi, k14t, kit, PSel.enc, PSel.zero, Tok.enc, oneV, Option.getD_none, Option.isSome_none, res11_agg, on_gcall, off_gcall, flat_gcall, go_sem, reduceCtorEq, reduceIte, Nat.reduceEqDiff, Nat.reduceAdd, Nat.reduceSub, Nat.reduceMul, Nat.reduceLT, Nat.reduceLeDiff, Nat.reduceBEq, Int.reduceEq, Int.reduceLT, Int.reduceLE, Int.reduceAdd, Int.reduceSub, Int.reduceNeg, Int.reduceToNat]
          · have k14t := eq_false k14
            rw [if_neg (fun hh => k14 hh.1)] at g1
            subst g1
            simp only [p0, p00, p01, p1, p2, p3, p4, p5, hc, hi, k14t, PSel.enc, PSel.zero, Tok.enc, oneV, Option.getD_none, Option.isSome_none, res11_agg, on_gcall, off_gcall, flat_gcall, go_sem, reduceCtorEq, reduceIte, Nat.reduceEqDiff, Nat.reduceAdd, Nat.reduceSub, Nat.reduceMul, Nat.reduceLT, Nat.reduceLeDiff, Nat.reduceBEq, Int.reduceEq, Int.reduceLT, Int.reduceLE, Int.reduceAdd, Int.reduceSub, Int.reduceNeg, Int.reduceToNat]
def sumOneR16 : Sum Try.prog := ⟨26, fun args => args = [toks (dToks (args.getD 0 .any))] ∧ okT16 (dToks (args.getD 0 .any)), fun args => oneV (oneP (dToks (args.getD 0 .any))), fun args h => by
  have := oneRef_ok (dToks (args.getD 0 .any)) h.2; rwa [← h.1] at this, false⟩
theorem sumOneR16_f : sumOneR16.f = 26 := rfl
theorem sumOneR16_D (args : List V) : sumOneR16.D args = (args = [toks (dToks (args.getD 0 .any))] ∧ okT16 (dToks (args.getD 0 .any))) := rfl
theorem sumOneR16_flat : sumOneR16.flat = false := rfl
theorem sumOneR16_r (args : List V) : sumOneR16.r args = oneV (oneP (dToks (args.getD 0 .any))) := rfl
attribute [go_sem] sumOneR16_f sumOneR16_D sumOneR16_flat sumOneR16_r
end Go.Proofs.Ytlagfeppihkamaa
