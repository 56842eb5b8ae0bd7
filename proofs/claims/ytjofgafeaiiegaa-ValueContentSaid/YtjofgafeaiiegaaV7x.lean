/- Layer 7: the law of content lists. -/
import Derived.Test.YtjofgafeaiiegaaV7w
namespace Go.Proofs.Ytjofgafeaiiegaa
open Go.Sx
set_option linter.unusedSimpArgs false
set_option maxHeartbeats 8000000
set_option maxRecDepth 20000

theorem itL_len (own : Bool) : ∀ (L : List Pa) (xs : List Itm), itL own L = some xs → xs.length = L.length
  | [], xs, h => by simp [itL] at h; subst h; rfl
  | p :: L, xs, h => by
    simp only [itL] at h
    split at h
    · cases h
    · simp only [Option.map_eq_some_iff] at h
      obtain ⟨ys, hy, rfl⟩ := h
      simp [itL_len own L ys hy]
theorem ctO_len (l : List Tok) : (ctO l).l.length ≤ l.length + 1 := by
  unfold ctO
  split
  · split
    · simp
    · split
      · rename_i x xs hx
        have h1 := itL_len _ _ _ hx
        have h2 := pl_len l
        dsimp only
        omega
      · simp
  · simp
theorem valueContent_law (x : V) (h : CellOK (.slc tokC) x) : PCall Try.prog 3 [x] (.c (.bool true)) := by
  obtain ⟨l, rfl⟩ := toks_of h
  refine PCall.of (Orc.cons sumFew (Orc.cons sumAw7 (Orc.cons sumCt (Orc.cons sumCtR (Orc.cons sumIeq (Orc.nil _)))))) c3_ok (by simp [c3]) fun w0 own0 => ?_
  have hb : c3.body = .seq c3.body.hd (.seq c3.body.tl.hd c3.body.tl.tl) := rfl
  cases hf : few l with
  | false =>
    rw [hb]
    generalize c3.body.tl.tl = rest
    simp only [c3, C.hd, C.tl, toks, dToks_map, hf, on_gcall, off_gcall, flat_gcall, sumFew_f, sumFew_D, sumFew_flat, sumFew_r, sumAw7_f, sumAw7_D, sumAw7_flat, sumAw7_r, sumCt_f, sumCt_D, sumCt_flat, sumCt_r, sumCtR_f, sumCtR_D, sumCtR_flat, sumCtR_r, sumIeq_f, sumIeq_D, sumIeq_flat, sumIeq_r, go_sem, reduceCtorEq, reduceIte, Nat.reduceEqDiff, Nat.reduceAdd, Nat.reduceSub, Nat.reduceMul, Nat.reduceLT, Nat.reduceLeDiff, Nat.reduceBEq, Int.reduceEq, Int.reduceLT, Int.reduceLE, Int.reduceAdd, Int.reduceSub, Int.reduceNeg, Int.reduceToNat]
  | true =>
    have hT := few_okT hf
    have hl := ctO_len l
    have hT1 := hT.1
    generalize hO : ctO l = o at *
    obtain ⟨a, x, y⟩ := o
    have ha : a.length ≤ 2000000 := by simp only at hl; omega
    simp -implicitDefEqProofs only [c3, toks, dToks_map, hf, hT, hO, ctV, itms, dItms_map, ha, on_gcall, off_gcall, flat_gcall, sumFew_f, sumFew_D, sumFew_flat, sumFew_r, sumAw7_f, sumAw7_D, sumAw7_flat, sumAw7_r, sumCt_f, sumCt_D, sumCt_flat, sumCt_r, sumCtR_f, sumCtR_D, sumCtR_flat, sumCtR_r, sumIeq_f, sumIeq_D, sumIeq_flat, sumIeq_r, go_sem, reduceCtorEq, reduceIte, Nat.reduceEqDiff, Nat.reduceAdd, Nat.reduceSub, Nat.reduceMul, Nat.reduceLT, Nat.reduceLeDiff, Nat.reduceBEq, Int.reduceEq, Int.reduceLT, Int.reduceLE, Int.reduceAdd, Int.reduceSub, Int.reduceNeg, Int.reduceToNat]
end Go.Proofs.Ytjofgafeaiiegaa
