/- The laws of flows: what is told. -/
import Derived.Test.YtihkcnibffddgaaCe
import Derived.Test.YtihkcnibffddgaaDc
import Derived.Test.YtihkcnibffddgaaF12c
namespace Go.Proofs.Ytihkcnibffddgaa
open Go.Sx
set_option linter.unusedSimpArgs false
set_option maxHeartbeats 4000000
set_option maxRecDepth 20000

theorem thV_no {d : Doc} {k : Int} (h : ¬ thV d k = true) : kdV d k = [] ∧ ptV d k = false ∧ ahdV d k = 0 := by
  refine ⟨by unfold kdV; rw [if_neg h], by unfold ptV; simp only [h, Bool.false_and], by unfold ahdV; rw [if_neg h]⟩
theorem flowTells_law (x : List V) (hl : x.length = 5) (h : ∀ i c, docC[i]? = some c → CellOK c (x.getD i .any)) (y : V) (h' : CellOK (.int .i64) y) : PCall Try.prog 6 [.agg x, y] (.c (.bool true)) := by
  obtain ⟨d, rfl⟩ := doc_of hl h
  cases h' with
  | int _ k hk =>
  refine PCall.of (Orc.cons sumFew12 (Orc.cons sumAwake12 (Orc.cons sumGiven (Orc.cons sumRightR (Orc.cons sumRightT (Orc.cons sumIsR (Orc.cons sumInA (Orc.cons sumKidsA (Orc.cons sumPoint (Orc.cons sumAhd (Orc.cons sumSame (Orc.cons sumKidsR12 (Orc.cons sumOldR (Orc.nil _)))))))))))))) c6_ok (by simp [c6]) fun w0 own0 => ?_
  by_cases hf : few12 d = true
  · have hn := few12_len hf
    have hl : d.l.length ≤ 1000 := by omega
    by_cases hr : rightB d = true
    · have hok : okL d := ⟨rightB_ok hr, hl⟩
      simp only [c6, Doc.enc, dDoc_mk, Doc.eta, hf, hl, hr, hok, ints, on_gcall, off_gcall, flat_gcall, sumFew12_f, sumFew12_D, sumFew12_flat, sumFew12_r, sumAwake12_f, sumAwake12_D, sumAwake12_flat, sumAwake12_r, sumGiven_f, sumGiven_D, sumGiven_flat, sumGiven_r, sumRightR_f, sumRightR_D, sumRightR_flat, sumRightR_r, sumRightT_f, sumRightT_D, sumRightT_flat, sumRightT_r, sumIsR_f, sumIsR_D, sumIsR_flat, sumIsR_r, sumInA_f, sumInA_D, sumInA_flat, sumInA_r, sumKidsA_f, sumKidsA_D, sumKidsA_flat, sumKidsA_r, sumPoint_f, sumPoint_D, sumPoint_flat, sumPoint_r, sumAhd_f, sumAhd_D, sumAhd_flat, sumAhd_r, sumSame_f, sumSame_D, sumSame_flat, sumSame_r, sumKidsR12_f, sumKidsR12_D, sumKidsR12_flat, sumKidsR12_r, sumOldR_f, sumOldR_D, sumOldR_flat, sumOldR_r, go_sem, reduceCtorEq, reduceIte, Nat.reduceEqDiff, Nat.reduceAdd, Nat.reduceSub, Nat.reduceMul, Nat.reduceLT, Nat.reduceLeDiff, Nat.reduceBEq, Int.reduceEq, Int.reduceLT, Int.reduceLE, Int.reduceAdd, Int.reduceSub, Int.reduceNeg, Int.reduceToNat]
      have hinv : inV d = selTo (isN d) d.l.length := by unfold inV; rw [if_pos hr]; rfl
      refine SemC.lp (α := KiS) (fun a => [(1, vi k), (2, .ptr 0 0 0 0), (5, .ptr 1 1 0 0), (6, .slc 1 ((inV d).map fun n => [vi n])), (7, .slc 1 ((kdV d k).map fun n => [vi n])), (8, .ref 2 a.ver 0 (selTo (isN d) a.n).length), (52, vi d.l.length), (53, vi a.n)])
        (fun a => ⟨[⟨0, 5, [d.enc], false, []⟩, ⟨1, 5, [d.enc], false, []⟩, ⟨a.ver, 1, (selTo (isN d) a.n).map fun n => [vi n], false, [vi 0]⟩], a.clk⟩)
        (fun a => a.n ≤ d.l.length) (fun a => d.l.length - a.n) ⟨0, 2, 3⟩ (by simp)
        (St.nil 8 1 [vi 0] (by simp [upd_at]) (St.cut ?_ ?_ ?_)) fun a ha => ?_
      · simp [Agrees, upd_at, initE_at, selTo]
      · simp [Heap.alloc, selTo, Doc.enc]
      · rfl
      obtain ⟨n, ver, clk⟩ := a
      simp only at ha
      have hlen := selTo_len (isN d) n
      by_cases hn' : n = d.l.length
      · subst hn'
        by_cases hi : thB d k = true
        · have ht : thV d k = true := by unfold thV; rw [hr, hi]; rfl
          obtain ⟨_, m, rfl, hm, hi'⟩ := thV_okL hl ht
          have hkd : kD d m := ⟨hok, by omega, by omega, by rw [Int.toNat_natCast]; exact hi'⟩
          have u1 : kdV d m = kids d m := by unfold kdV; rw [if_pos ht, Int.toNat_natCast]
          have u2 : ptV d m = decide (0 ≤ oldN d m) := by unfold ptV; rw [ht, Int.toNat_natCast]; rfl
          have hkl := kidsL d m
          have e1 : (kids d m).length ≤ 1000000 := by omega
          have e2 : (selTo (isN d) d.l.length).length ≤ 1000000 := by omega
          simp only [Doc.enc, dDoc_mk, Doc.eta, hl, hr, hi, hok, hkd, u1, u2, e1, e2, hinv, ints, Int.lt_irrefl, List.take_length, Nat.le_refl, sumFew12_f, sumFew12_D, sumFew12_flat, sumFew12_r, sumAwake12_f, sumAwake12_D, sumAwake12_flat, sumAwake12_r, sumGiven_f, sumGiven_D, sumGiven_flat, sumGiven_r, sumRightR_f, sumRightR_D, sumRightR_flat, sumRightR_r, sumRightT_f, sumRightT_D, sumRightT_flat, sumRightT_r, sumIsR_f, sumIsR_D, sumIsR_flat, sumIsR_r, sumInA_f, sumInA_D, sumInA_flat, sumInA_r, sumKidsA_f, sumKidsA_D, sumKidsA_flat, sumKidsA_r, sumPoint_f, sumPoint_D, sumPoint_flat, sumPoint_r, sumAhd_f, sumAhd_D, sumAhd_flat, sumAhd_r, sumSame_f, sumSame_D, sumSame_flat, sumSame_r, sumKidsR12_f, sumKidsR12_D, sumKidsR12_flat, sumKidsR12_r, sumOldR_f, sumOldR_D, sumOldR_flat, sumOldR_r, go_sem, wpR_gcall, reduceCtorEq, reduceIte, Nat.reduceEqDiff, Nat.reduceAdd, Nat.reduceSub, Nat.reduceMul, Nat.reduceLT, Nat.reduceLeDiff, Nat.reduceBEq, Int.reduceEq, Int.reduceLT, Int.reduceLE, Int.reduceAdd, Int.reduceSub, Int.reduceNeg, Int.reduceToNat]
        · have ht : ¬ thV d k = true := by unfold thV; rw [hr]; simpa using hi
          obtain ⟨u1, u2, u3⟩ := thV_no ht
          have e2 : (selTo (isN d) d.l.length).length ≤ 1000000 := by omega
          simp only [Doc.enc, dDoc_mk, Doc.eta, hl, hr, hi, hok, u1, u2, u3, e2, hinv, ints, Int.lt_irrefl, List.take_length, Nat.le_refl, on_gcall, off_gcall, flat_gcall, sumFew12_f, sumFew12_D, sumFew12_flat, sumFew12_r, sumAwake12_f, sumAwake12_D, sumAwake12_flat, sumAwake12_r, sumGiven_f, sumGiven_D, sumGiven_flat, sumGiven_r, sumRightR_f, sumRightR_D, sumRightR_flat, sumRightR_r, sumRightT_f, sumRightT_D, sumRightT_flat, sumRightT_r, sumIsR_f, sumIsR_D, sumIsR_flat, sumIsR_r, sumInA_f, sumInA_D, sumInA_flat, sumInA_r, sumKidsA_f, sumKidsA_D, sumKidsA_flat, sumKidsA_r, sumPoint_f, sumPoint_D, sumPoint_flat, sumPoint_r, sumAhd_f, sumAhd_D, sumAhd_flat, sumAhd_r, sumSame_f, sumSame_D, sumSame_flat, sumSame_r, sumKidsR12_f, sumKidsR12_D, sumKidsR12_flat, sumKidsR12_r, sumOldR_f, sumOldR_D, sumOldR_flat, sumOldR_r, go_sem, reduceCtorEq, reduceIte, Nat.reduceEqDiff, Nat.reduceAdd, Nat.reduceSub, Nat.reduceMul, Nat.reduceLT, Nat.reduceLeDiff, Nat.reduceBEq, Int.reduceEq, Int.reduceLT, Int.reduceLE, Int.reduceAdd, Int.reduceSub, Int.reduceNeg, Int.reduceToNat]
      · have e1 : (n : Int) < (d.l.length : Int) := by omega
        have hth := thB_at (d := d) (k := n) (by omega)
        cases hp : isN d n with
        | true =>
          have e2 : selTo (isN d) (n + 1) = selTo (isN d) n ++ [(n : Int)] := by simp only [selTo, hp, if_true]
          simp only [Doc.enc, dDoc_mk, Doc.eta, e1, hth, hp, hok, List.take_length, Nat.le_refl, sumFew12_f, sumFew12_D, sumFew12_flat, sumFew12_r, sumAwake12_f, sumAwake12_D, sumAwake12_flat, sumAwake12_r, sumGiven_f, sumGiven_D, sumGiven_flat, sumGiven_r, sumRightR_f, sumRightR_D, sumRightR_flat, sumRightR_r, sumRightT_f, sumRightT_D, sumRightT_flat, sumRightT_r, sumIsR_f, sumIsR_D, sumIsR_flat, sumIsR_r, sumInA_f, sumInA_D, sumInA_flat, sumInA_r, sumKidsA_f, sumKidsA_D, sumKidsA_flat, sumKidsA_r, sumPoint_f, sumPoint_D, sumPoint_flat, sumPoint_r, sumAhd_f, sumAhd_D, sumAhd_flat, sumAhd_r, sumSame_f, sumSame_D, sumSame_flat, sumSame_r, sumKidsR12_f, sumKidsR12_D, sumKidsR12_flat, sumKidsR12_r, sumOldR_f, sumOldR_D, sumOldR_flat, sumOldR_r, go_sem, wpR_gcall, reduceCtorEq, reduceIte, Nat.reduceEqDiff, Nat.reduceAdd, Nat.reduceSub, Nat.reduceMul, Nat.reduceLT, Nat.reduceLeDiff, Nat.reduceBEq, Int.reduceEq, Int.reduceLT, Int.reduceLE, Int.reduceAdd, Int.reduceSub, Int.reduceNeg, Int.reduceToNat]
          exact ⟨by omega, by omega, ⟨n + 1, clk + 1, clk + 1 + 1⟩, by dsimp only; omega, by dsimp only; omega, ⟨⟨rfl, by dsimp only; rw [e2]; simp⟩, by dsimp only; omega⟩, ⟨rfl, by dsimp only; rw [e2]; simp⟩, rfl⟩
        | false =>
          have e2 : selTo (isN d) (n + 1) = selTo (isN d) n := by simp only [selTo, hp, if_false, Bool.false_eq_true]
          simp only [Doc.enc, dDoc_mk, Doc.eta, e1, hth, hp, hok, List.take_length, Nat.le_refl, sumFew12_f, sumFew12_D, sumFew12_flat, sumFew12_r, sumAwake12_f, sumAwake12_D, sumAwake12_flat, sumAwake12_r, sumGiven_f, sumGiven_D, sumGiven_flat, sumGiven_r, sumRightR_f, sumRightR_D, sumRightR_flat, sumRightR_r, sumRightT_f, sumRightT_D, sumRightT_flat, sumRightT_r, sumIsR_f, sumIsR_D, sumIsR_flat, sumIsR_r, sumInA_f, sumInA_D, sumInA_flat, sumInA_r, sumKidsA_f, sumKidsA_D, sumKidsA_flat, sumKidsA_r, sumPoint_f, sumPoint_D, sumPoint_flat, sumPoint_r, sumAhd_f, sumAhd_D, sumAhd_flat, sumAhd_r, sumSame_f, sumSame_D, sumSame_flat, sumSame_r, sumKidsR12_f, sumKidsR12_D, sumKidsR12_flat, sumKidsR12_r, sumOldR_f, sumOldR_D, sumOldR_flat, sumOldR_r, go_sem, wpR_gcall, reduceCtorEq, reduceIte, Nat.reduceEqDiff, Nat.reduceAdd, Nat.reduceSub, Nat.reduceMul, Nat.reduceLT, Nat.reduceLeDiff, Nat.reduceBEq, Int.reduceEq, Int.reduceLT, Int.reduceLE, Int.reduceAdd, Int.reduceSub, Int.reduceNeg, Int.reduceToNat]
          exact ⟨by omega, ⟨n + 1, ver, clk⟩, by dsimp only; omega, by dsimp only; omega, ⟨⟨rfl, by dsimp only; rw [e2]⟩, by dsimp only; omega⟩, ⟨rfl, by dsimp only; rw [e2]⟩, rfl⟩
    · have ht : ¬ thV d k = true := by unfold thV; simp only [hr, Bool.false_and]; simp
      obtain ⟨u1, u2, u3⟩ := thV_no ht
      have u4 : inV d = [] := by unfold inV; rw [if_neg hr]
      simp only [c6, Doc.enc, dDoc_mk, Doc.eta, hf, hl, hr, u1, u2, u3, u4, ints, on_gcall, off_gcall, flat_gcall, sumFew12_f, sumFew12_D, sumFew12_flat, sumFew12_r, sumAwake12_f, sumAwake12_D, sumAwake12_flat, sumAwake12_r, sumGiven_f, sumGiven_D, sumGiven_flat, sumGiven_r, sumRightR_f, sumRightR_D, sumRightR_flat, sumRightR_r, sumRightT_f, sumRightT_D, sumRightT_flat, sumRightT_r, sumIsR_f, sumIsR_D, sumIsR_flat, sumIsR_r, sumInA_f, sumInA_D, sumInA_flat, sumInA_r, sumKidsA_f, sumKidsA_D, sumKidsA_flat, sumKidsA_r, sumPoint_f, sumPoint_D, sumPoint_flat, sumPoint_r, sumAhd_f, sumAhd_D, sumAhd_flat, sumAhd_r, sumSame_f, sumSame_D, sumSame_flat, sumSame_r, sumKidsR12_f, sumKidsR12_D, sumKidsR12_flat, sumKidsR12_r, sumOldR_f, sumOldR_D, sumOldR_flat, sumOldR_r, go_sem, reduceCtorEq, reduceIte, Nat.reduceEqDiff, Nat.reduceAdd, Nat.reduceSub, Nat.reduceMul, Nat.reduceLT, Nat.reduceLeDiff, Nat.reduceBEq, Int.reduceEq, Int.reduceLT, Int.reduceLE, Int.reduceAdd, Int.reduceSub, Int.reduceNeg, Int.reduceToNat]
  · simp only [c6, Doc.enc, dDoc_mk, Doc.eta, hf, on_gcall, off_gcall, flat_gcall, sumFew12_f, sumFew12_D, sumFew12_flat, sumFew12_r, sumAwake12_f, sumAwake12_D, sumAwake12_flat, sumAwake12_r, sumGiven_f, sumGiven_D, sumGiven_flat, sumGiven_r, sumRightR_f, sumRightR_D, sumRightR_flat, sumRightR_r, sumRightT_f, sumRightT_D, sumRightT_flat, sumRightT_r, sumIsR_f, sumIsR_D, sumIsR_flat, sumIsR_r, sumInA_f, sumInA_D, sumInA_flat, sumInA_r, sumKidsA_f, sumKidsA_D, sumKidsA_flat, sumKidsA_r, sumPoint_f, sumPoint_D, sumPoint_flat, sumPoint_r, sumAhd_f, sumAhd_D, sumAhd_flat, sumAhd_r, sumSame_f, sumSame_D, sumSame_flat, sumSame_r, sumKidsR12_f, sumKidsR12_D, sumKidsR12_flat, sumKidsR12_r, sumOldR_f, sumOldR_D, sumOldR_flat, sumOldR_r, go_sem, reduceCtorEq, reduceIte, Nat.reduceEqDiff, Nat.reduceAdd, Nat.reduceSub, Nat.reduceMul, Nat.reduceLT, Nat.reduceLeDiff, Nat.reduceBEq, Int.reduceEq, Int.reduceLT, Int.reduceLE, Int.reduceAdd, Int.reduceSub, Int.reduceNeg, Int.reduceToNat]
end Go.Proofs.Ytihkcnibffddgaa
