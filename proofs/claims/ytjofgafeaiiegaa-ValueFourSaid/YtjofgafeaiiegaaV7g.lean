/- Layer 7: words. -/
import Derived.Test.YtjofgafeaiiegaaV7f
import Derived.Test.YtjofgafeaiiegaaGc
namespace Go.Proofs.Ytjofgafeaiiegaa
open Go.Sx
set_option linter.unusedSimpArgs false
set_option maxHeartbeats 4000000
set_option maxRecDepth 20000

abbrev tokC : List Cell := [.int .i64, .str, .int .i64]
theorem toks_of {x : V} (h : CellOK (.slc tokC) x) : ∃ l : List Tok, x = toks l := by
  cases h with
  | slc cs ess hl h h2 =>
    refine ⟨ess.map dTokL, ?_⟩
    unfold toks
    have e : (ess.map dTokL).map Tok.enc = ess := by
      rw [List.map_map]
      conv => rhs; rw [← List.map_id ess]
      apply List.map_congr_left
      intro es hes
      have hlen := h es hes
      have a0 := h2 es hes 0 _ rfl
      have a1 := h2 es hes 1 _ rfl
      have a2 := h2 es hes 2 _ rfl
      match es, hlen with
      | [a, b, c], _ =>
        simp only [List.getD_cons_zero, List.getD_cons_succ] at a0 a1 a2
        cases a0; cases a1; cases a2
        rfl
    rw [e]
    rfl
theorem few_okT {l : List Tok} (h : few l = true) : okT l := by
  unfold few at h
  rw [decide_eq_true_eq] at h
  refine ⟨by have := h.1; omega, fun t ht => ?_⟩
  obtain ⟨i, hi, rfl⟩ := List.mem_iff_getElem.1 ht
  have := h.2 i hi
  rw [List.getD_eq_getElem?_getD, List.getElem?_eq_getElem hi] at this
  have : l[i].text.size ≤ 100 := this
  omega
theorem brkR_eq (o : Option Int) : brkR o = .tup [vi (o.getD 0), vb o.isSome] := by cases o <;> rfl
theorem nameR_eq (o : Option ByteArray) : nameR o = .tup [vs (o.getD ⟨#[]⟩), vb o.isSome] := by cases o <;> rfl
def sumAw7 : Sum Try.prog := ⟨12, fun args => args = [], fun args => vb true, fun args h => by
  have := awake_ok; rwa [← h] at this, true⟩
theorem sumAw7_f : sumAw7.f = 12 := rfl
theorem sumAw7_D (args : List V) : sumAw7.D args = (args = []) := rfl
theorem sumAw7_flat : sumAw7.flat = true := rfl
theorem sumAw7_r (args : List V) : sumAw7.r args = vb true := rfl
theorem valueWords_law (x : V) (h : CellOK (.slc tokC) x) (y : V) (h' : CellOK .str y) : PCall Try.prog 5 [x, y] (.c (.bool true)) := by
  obtain ⟨l, rfl⟩ := toks_of h
  cases h' with | str s _ => ?_
  refine PCall.of (Orc.cons sumFew (Orc.cons sumAw7 (Orc.cons sumBrk (Orc.cons sumBrkR (Orc.cons sumName (Orc.cons sumNameR (Orc.cons sumRun (Orc.cons sumRunR (Orc.cons sumSty (Orc.cons sumStyR (Orc.nil _))))))))))) c5_ok (by simp [c5]) fun w0 own0 => ?_
  cases hf : few l with
  | false =>
    have hb : c5.body = .seq c5.body.hd (.seq c5.body.tl.hd c5.body.tl.tl) := rfl
    rw [hb]
    generalize c5.body.tl.tl = rest
    simp -implicitDefEqProofs only [c5, C.hd, C.tl, toks, dToks_map, hf, on_gcall, off_gcall, flat_gcall, sumFew_f, sumFew_D, sumFew_flat, sumFew_r, sumAw7_f, sumAw7_D, sumAw7_flat, sumAw7_r, sumBrk_f, sumBrk_D, sumBrk_flat, sumBrk_r, sumBrkR_f, sumBrkR_D, sumBrkR_flat, sumBrkR_r, sumName_f, sumName_D, sumName_flat, sumName_r, sumNameR_f, sumNameR_D, sumNameR_flat, sumNameR_r, sumRun_f, sumRun_D, sumRun_flat, sumRun_r, sumRunR_f, sumRunR_D, sumRunR_flat, sumRunR_r, sumSty_f, sumSty_D, sumSty_flat, sumSty_r, sumStyR_f, sumStyR_D, sumStyR_flat, sumStyR_r, go_sem, reduceCtorEq, reduceIte, Nat.reduceEqDiff, Nat.reduceAdd, Nat.reduceSub, Nat.reduceMul, Nat.reduceLT, Nat.reduceLeDiff, Nat.reduceBEq, Int.reduceEq, Int.reduceLT, Int.reduceLE, Int.reduceAdd, Int.reduceSub, Int.reduceNeg, Int.reduceToNat]
  | true =>
    have hT := few_okT hf
    by_cases hs : (s.size : Int) ≤ 100
    · have hs' : ¬ (100 : Int) < (s.size : Int) := by omega
      have hsz : s.size ≤ 1000000 := by omega
      simp -implicitDefEqProofs only [c5, toks, dToks_map, hf, hT, hs', hsz, brkR_eq, nameR_eq, on_gcall, off_gcall, flat_gcall, sumFew_f, sumFew_D, sumFew_flat, sumFew_r, sumAw7_f, sumAw7_D, sumAw7_flat, sumAw7_r, sumBrk_f, sumBrk_D, sumBrk_flat, sumBrk_r, sumBrkR_f, sumBrkR_D, sumBrkR_flat, sumBrkR_r, sumName_f, sumName_D, sumName_flat, sumName_r, sumNameR_f, sumNameR_D, sumNameR_flat, sumNameR_r, sumRun_f, sumRun_D, sumRun_flat, sumRun_r, sumRunR_f, sumRunR_D, sumRunR_flat, sumRunR_r, sumSty_f, sumSty_D, sumSty_flat, sumSty_r, sumStyR_f, sumStyR_D, sumStyR_flat, sumStyR_r, go_sem, reduceCtorEq, reduceIte, Nat.reduceEqDiff, Nat.reduceAdd, Nat.reduceSub, Nat.reduceMul, Nat.reduceLT, Nat.reduceLeDiff, Nat.reduceBEq, Int.reduceEq, Int.reduceLT, Int.reduceLE, Int.reduceAdd, Int.reduceSub, Int.reduceNeg, Int.reduceToNat]
    · have hs' : (100 : Int) < (s.size : Int) := by omega
      have hb : c5.body = .seq c5.body.hd (.seq c5.body.tl.hd c5.body.tl.tl) := rfl
      rw [hb]
      generalize c5.body.tl.tl = rest
      simp -implicitDefEqProofs only [c5, C.hd, C.tl, toks, dToks_map, hf, hT, hs', on_gcall, off_gcall, flat_gcall, sumFew_f, sumFew_D, sumFew_flat, sumFew_r, sumAw7_f, sumAw7_D, sumAw7_flat, sumAw7_r, sumBrk_f, sumBrk_D, sumBrk_flat, sumBrk_r, sumBrkR_f, sumBrkR_D, sumBrkR_flat, sumBrkR_r, sumName_f, sumName_D, sumName_flat, sumName_r, sumNameR_f, sumNameR_D, sumNameR_flat, sumNameR_r, sumRun_f, sumRun_D, sumRun_flat, sumRun_r, sumRunR_f, sumRunR_D, sumRunR_flat, sumRunR_r, sumSty_f, sumSty_D, sumSty_flat, sumSty_r, sumStyR_f, sumStyR_D, sumStyR_flat, sumStyR_r, go_sem, reduceCtorEq, reduceIte, Nat.reduceEqDiff, Nat.reduceAdd, Nat.reduceSub, Nat.reduceMul, Nat.reduceLT, Nat.reduceLeDiff, Nat.reduceBEq, Int.reduceEq, Int.reduceLT, Int.reduceLE, Int.reduceAdd, Int.reduceSub, Int.reduceNeg, Int.reduceToNat]
end Go.Proofs.Ytjofgafeaiiegaa
