/- Layer 7: the law of steps. -/
import Derived.Test.YtjofgafeaiiegaaV7D
import Derived.Test.YtjofgafeaiiegaaV7E
namespace Go.Proofs.Ytjofgafeaiiegaa
open Go.Sx
set_option linter.unusedSimpArgs false
set_option maxHeartbeats 8000000
set_option maxRecDepth 20000

theorem valueSteps_law (x : V) (h : CellOK (.slc tokC) x) (y : V) (h' : CellOK (.int .i64) y) : PCall Try.prog 9 [x, y] (.c (.bool true)) := by
  obtain ⟨v, rfl, hN⟩ := toks_ofN h
  cases h' with | int _ u _ => ?_
  refine PCall.of (Orc.cons sumFew (Orc.cons sumAw7 (Orc.cons sumStp (Orc.cons sumStpR (Orc.cons sumStr (Orc.cons sumStrR (Orc.cons sumSeq (Orc.nil _)))))))) c9_ok (by simp [c9]) fun w0 own0 => ?_
  have hb : c9.body = .seq c9.body.hd (.seq c9.body.tl.hd c9.body.tl.tl) := rfl
  cases hf : few v with
  | false =>
    rw [hb]
    generalize c9.body.tl.tl = rest
    simp only [c9, C.hd, C.tl, toks, dToks_map, hf, on_gcall, off_gcall, flat_gcall, sumFew_f, sumFew_D, sumFew_flat, sumFew_r, go_sem, reduceCtorEq, reduceIte, Nat.reduceEqDiff, Nat.reduceAdd, Nat.reduceSub, Nat.reduceMul, Nat.reduceLT, Nat.reduceLeDiff, Nat.reduceBEq, Int.reduceEq, Int.reduceLT, Int.reduceLE, Int.reduceAdd, Int.reduceSub, Int.reduceNeg, Int.reduceToNat]
  | true =>
    have hT := few_okT hf
    have hQ : okQ v := ⟨hT, hN⟩
    have o2 := spO_ok u v hT
    have o3 := stO_ok v hT
    generalize hc2 : spO u v = C2 at *
    generalize hc3 : stO v = C3 at *
    generalize he2 : (C2.getD []).map toS = L2 at *
    generalize he3 : C3.getD [] = L3 at *
    simp -implicitDefEqProofs only [c9, toks, dToks_map, hf, hT, hQ, hc2, hc3, spV, stV2, he2, he3, stps, dStps_map, o2, o3, on_gcall, off_gcall, flat_gcall, sumFew_f, sumFew_D, sumFew_flat, sumFew_r, go_sem, reduceCtorEq, reduceIte, Nat.reduceEqDiff, Nat.reduceAdd, Nat.reduceSub, Nat.reduceMul, Nat.reduceLT, Nat.reduceLeDiff, Nat.reduceBEq, Int.reduceEq, Int.reduceLT, Int.reduceLE, Int.reduceAdd, Int.reduceSub, Int.reduceNeg, Int.reduceToNat]
end Go.Proofs.Ytjofgafeaiiegaa
