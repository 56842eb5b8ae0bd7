/- Layer 7: the law of lengths. -/
import Derived.Test.YtjofgafeaiiegaaV7p
import Derived.Test.YtjofgafeaiiegaaV7g
namespace Go.Proofs.Ytjofgafeaiiegaa
open Go.Sx
set_option linter.unusedSimpArgs false
set_option maxHeartbeats 4000000
set_option maxRecDepth 20000

theorem tokL_of {y : List V} (hl : y.length = 3) (h : ∀ i c, tokC[i]? = some c → CellOK c (y.getD i .any)) : ∃ t : Tok, y = t.enc := by
  have a0 := h 0 _ rfl
  have a1 := h 1 _ rfl
  have a2 := h 2 _ rfl
  match y, hl with
  | [a, b, c], _ =>
    simp only [List.getD_cons_zero, List.getD_cons_succ] at a0 a1 a2
    cases a0; cases a1; cases a2
    exact ⟨⟨_, _, _⟩, rfl⟩
theorem lnsO_len (l : List Tok) : ((lnsO l).getD []).length ≤ 4 := by
  unfold lnsO
  split
  · rename_i hc
    cases hn : lnsL (pl l) with
    | none => simp
    | some n =>
      have := lnsL_len _ _ hn
      simp only [Option.map_some, Option.getD_some]
      match n, this with
      | [], _ => simp [fourL]
      | [a], _ => simp [fourL]
      | [a, b], _ => simp [fourL]
      | [a, b, c], _ => simp [fourL]
      | a :: b :: c :: d :: r, h =>
        have h4 : (a :: b :: c :: d :: r).length ≤ 4 := by rw [h]; exact hc.2.2
        exact h4
  · simp
theorem valueLengths_law (y : List V) (hl : y.length = 3) (h' : ∀ i c, tokC[i]? = some c → CellOK c (y.getD i .any)) (x : V) (h : CellOK (.slc tokC) x) : PCall Try.prog 7 [.agg y, x] (.c (.bool true)) := by
  obtain ⟨l, rfl⟩ := toks_of h
  obtain ⟨t, rfl⟩ := tokL_of hl h'
  refine PCall.of (Orc.cons sumFew (Orc.cons sumAw7 (Orc.cons sumLen (Orc.cons sumLenR (Orc.cons sumLns (Orc.cons sumLnsR (Orc.nil _))))))) c7_ok (by simp [c7]) fun w0 own0 => ?_
  have hb : c7.body = .seq c7.body.hd (.seq c7.body.tl.hd c7.body.tl.tl) := rfl
  cases hf : few l with
  | false =>
    rw [hb]
    generalize c7.body.tl.tl = rest
    simp only [c7, C.hd, C.tl, toks, Tok.enc, dToks_map, hf, on_gcall, off_gcall, flat_gcall, sumFew_f, sumFew_D, sumFew_flat, sumFew_r, sumAw7_f, sumAw7_D, sumAw7_flat, sumAw7_r, sumLen_f, sumLen_D, sumLen_flat, sumLen_r, sumLenR_f, sumLenR_D, sumLenR_flat, sumLenR_r, sumLns_f, sumLns_D, sumLns_flat, sumLns_r, sumLnsR_f, sumLnsR_D, sumLnsR_flat, sumLnsR_r, go_sem, reduceCtorEq, reduceIte, Nat.reduceEqDiff, Nat.reduceAdd, Nat.reduceSub, Nat.reduceMul, Nat.reduceLT, Nat.reduceLeDiff, Nat.reduceBEq, Int.reduceEq, Int.reduceLT, Int.reduceLE, Int.reduceAdd, Int.reduceSub, Int.reduceNeg, Int.reduceToNat]
  | true =>
    have hT := few_okT hf
    by_cases hs : (100 : Int) < (t.text.size : Int)
    · rw [hb]
      generalize c7.body.tl.tl = rest
      simp only [c7, C.hd, C.tl, toks, Tok.enc, dToks_map, hf, hs, on_gcall, off_gcall, flat_gcall, sumFew_f, sumFew_D, sumFew_flat, sumFew_r, sumAw7_f, sumAw7_D, sumAw7_flat, sumAw7_r, sumLen_f, sumLen_D, sumLen_flat, sumLen_r, sumLenR_f, sumLenR_D, sumLenR_flat, sumLenR_r, sumLns_f, sumLns_D, sumLns_flat, sumLns_r, sumLnsR_f, sumLnsR_D, sumLnsR_flat, sumLnsR_r, go_sem, reduceCtorEq, reduceIte, Nat.reduceEqDiff, Nat.reduceAdd, Nat.reduceSub, Nat.reduceMul, Nat.reduceLT, Nat.reduceLeDiff, Nat.reduceBEq, Int.reduceEq, Int.reduceLT, Int.reduceLE, Int.reduceAdd, Int.reduceSub, Int.reduceNeg, Int.reduceToNat]
    · have hsz : t.text.size ≤ 1000000 := by omega
      have hA := lnsO_len l
      generalize hO : lnsO l = o at *
      generalize hm : lenO t = m
      simp -implicitDefEqProofs only [c7, toks, Tok.enc, dToks_map, dTok_mk, Tok.eta, hf, hT, hs, hsz, hO, hm, lnsV, cntR_eq, ints, on_gcall, off_gcall, flat_gcall, sumFew_f, sumFew_D, sumFew_flat, sumFew_r, sumAw7_f, sumAw7_D, sumAw7_flat, sumAw7_r, sumLen_f, sumLen_D, sumLen_flat, sumLen_r, sumLenR_f, sumLenR_D, sumLenR_flat, sumLenR_r, sumLns_f, sumLns_D, sumLns_flat, sumLns_r, sumLnsR_f, sumLnsR_D, sumLnsR_flat, sumLnsR_r, go_sem, reduceCtorEq, reduceIte, Nat.reduceEqDiff, Nat.reduceAdd, Nat.reduceSub, Nat.reduceMul, Nat.reduceLT, Nat.reduceLeDiff, Nat.reduceBEq, Int.reduceEq, Int.reduceLT, Int.reduceLE, Int.reduceAdd, Int.reduceSub, Int.reduceNeg, Int.reduceToNat]
      generalize hB : o.getD [] = B at *
      refine SemC.lp (α := Nat) (fun k => [(9, .slc 1 (B.map fun n => [vi n])), (11, .slc 1 (B.map fun n => [vi n])), (65, vi B.length), (66, vi k)]) (fun _ => ⟨[], 1⟩)
        (fun k => k ≤ B.length) (fun k => B.length - k) 0 (Nat.zero_le _) (St.cut ?_ ?_ ?_) fun k hk => ?_
      · simp [Agrees, upd_at, initE_at]
      · simp
      · rfl
      by_cases hkl : k = B.length
      · subst hkl
        simp only [Int.lt_irrefl, on_gcall, off_gcall, flat_gcall, sumFew_f, sumFew_D, sumFew_flat, sumFew_r, sumAw7_f, sumAw7_D, sumAw7_flat, sumAw7_r, sumLen_f, sumLen_D, sumLen_flat, sumLen_r, sumLenR_f, sumLenR_D, sumLenR_flat, sumLenR_r, sumLns_f, sumLns_D, sumLns_flat, sumLns_r, sumLnsR_f, sumLnsR_D, sumLnsR_flat, sumLnsR_r, go_sem, reduceCtorEq, reduceIte, Nat.reduceEqDiff, Nat.reduceAdd, Nat.reduceSub, Nat.reduceMul, Nat.reduceLT, Nat.reduceLeDiff, Nat.reduceBEq, Int.reduceEq, Int.reduceLT, Int.reduceLE, Int.reduceAdd, Int.reduceSub, Int.reduceNeg, Int.reduceToNat]
      · have e1 : (k : Int) < (B.length : Int) := by omega
        have e0 : (0 : Int) ≤ (k : Int) := by omega
        simp only [e0, e1, on_gcall, off_gcall, flat_gcall, sumFew_f, sumFew_D, sumFew_flat, sumFew_r, sumAw7_f, sumAw7_D, sumAw7_flat, sumAw7_r, sumLen_f, sumLen_D, sumLen_flat, sumLen_r, sumLenR_f, sumLenR_D, sumLenR_flat, sumLenR_r, sumLns_f, sumLns_D, sumLns_flat, sumLns_r, sumLnsR_f, sumLnsR_D, sumLnsR_flat, sumLnsR_r, go_sem, reduceCtorEq, reduceIte, Nat.reduceEqDiff, Nat.reduceAdd, Nat.reduceSub, Nat.reduceMul, Nat.reduceLT, Nat.reduceLeDiff, Nat.reduceBEq, Int.reduceEq, Int.reduceLT, Int.reduceLE, Int.reduceAdd, Int.reduceSub, Int.reduceNeg, Int.reduceToNat]
        exact ⟨by omega, k + 1, by omega, by omega, by omega⟩
end Go.Proofs.Ytjofgafeaiiegaa
