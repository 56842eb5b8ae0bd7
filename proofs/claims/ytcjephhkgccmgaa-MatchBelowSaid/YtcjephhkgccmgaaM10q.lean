/- The law of layer 10: which nodes a selector is about. -/
import Derived.Test.YtcjephhkgccmgaaM10p
import Derived.Test.YtcjephhkgccmgaaCe
namespace Go.Proofs.Ytcjephhkgccmgaa
open Go.Sx
set_option linter.unusedSimpArgs false
set_option maxHeartbeats 4000000
set_option maxRecDepth 20000

theorem few9_okNs {l : List Node} (h : few9 l = true) : l.length ≤ 60 ∧ okNs l := by
  unfold few9 at h
  rw [decide_eq_true_eq] at h
  refine ⟨h.1, fun k hk => ?_⟩
  have := h.2 k hk
  unfold fewN at this
  rw [decide_eq_true_eq] at this
  obtain ⟨_, _, _, a, b, _⟩ := this
  exact ⟨by omega, by omega⟩
theorem fewS_okC {s : Sel} (h : fewS s) : okC s := by
  obtain ⟨h1, h2⟩ := h
  exact ⟨by omega, fun i hi => by have := (h2 i hi).1; omega⟩
theorem shrt_okM {l : List Sel} (h : shrt l = true) : l.length ≤ 10 ∧ okM l := by
  unfold shrt at h
  rw [Bool.and_eq_true] at h
  have h2 := h.2
  unfold few8 at h2
  rw [decide_eq_true_eq] at h2
  obtain ⟨a, b⟩ := h2
  exact ⟨a, by omega, fun i hi => fewS_okC (b i hi)⟩
theorem shrt_one {s : Sel} (h : shrt [s] = true) : okC s := (shrt_okM h).2.2 0 (by simp)
theorem one_big : ([0] : List Nat).length ≤ big := by decide
theorem matchIs_law (x : V) (h : CellOK (.slc nodeC) x) (y : List V) (hl : y.length = 1) (h2 : ∀ i c, selC[i]? = some c → CellOK c (y.getD i .any)) (z : V) (h3 : CellOK (.int .i64) z) : PCall Try.prog 3 [x, .agg y, z] (.c (.bool true)) := by
  obtain ⟨l, rfl⟩ := nodes_of h
  obtain ⟨s, rfl, hm⟩ := selL_of hl h2
  cases h3 with
  | int _ k hk =>
  refine PCall.of (Orc.cons sumFew9 (Orc.cons sumShort (Orc.cons sumAwake10 (Orc.cons sumChkR (Orc.cons sumGiven10 (Orc.cons sumRgtR (Orc.cons sumIsM (Orc.cons sumAll10 (Orc.nil _))))))))) c3_ok (by simp [c3]) fun w0 own0 => ?_
  have hb1 : ([s] : List Sel).length ≤ big := by simp [big]
  have hds : dSels (.slc 1 [[.slc 2 (s.map Cmp.enc)]]) = [s] := dSels_map [s]
  by_cases hf : few9 l = true ∧ shrt [s] = true
  · obtain ⟨hf1, hf2⟩ := hf
    obtain ⟨l1, l2⟩ := few9_okNs hf1
    have hs := shrt_one hf2
    have hM := okM_one hs
    have l3 : l.length ≤ 1000 := by omega
    have hb2 : 1 ≤ big := by decide
    by_cases hD : docB l = true
    · have hI := (docB_iff l).1 hD
      have hP := doc_docP l3 l2 hI
      have c0 : (if 0 ≤ badR l ∨ l.length = 0 then (5 : Int) else 0) = 0 := by
        unfold docB at hD; rw [decide_eq_true_eq] at hD; rw [if_neg]; omega
      cases hr : rgtL [s] with
      | true =>
        obtain ⟨r1, _⟩ := rgtL_pos hr
        by_cases k1 : k < 0
        · have e : isM l k s = false := by unfold isM; rw [decide_eq_false (by omega)]; simp
          simp only [c3, nodes, selE, sels, dNodes_map, dSel_mk, hds, hf1, hf2, l1, l2, l3, hs, hM, hb2, chkOf, c0, hr, k1, e, on_gcall, off_gcall, flat_gcall, sumFew9_f, sumFew9_D, sumFew9_flat, sumFew9_r, sumShort_f, sumShort_D, sumShort_flat, sumShort_r, sumAwake10_f, sumAwake10_D, sumAwake10_flat, sumAwake10_r, sumChkR_f, sumChkR_D, sumChkR_flat, sumChkR_r, sumGiven10_f, sumGiven10_D, sumGiven10_flat, sumGiven10_r, sumRgtR_f, sumRgtR_D, sumRgtR_flat, sumRgtR_r, sumIsM_f, sumIsM_D, sumIsM_flat, sumIsM_r, sumAll10_f, sumAll10_D, sumAll10_flat, sumAll10_r, go_sem, reduceCtorEq, reduceIte, Nat.reduceEqDiff, Nat.reduceAdd, Nat.reduceSub, Nat.reduceMul, Nat.reduceLT, Nat.reduceLeDiff, Nat.reduceBEq, Int.reduceEq, Int.reduceLT, Int.reduceLE, Int.reduceAdd, Int.reduceSub, Int.reduceNeg, Int.reduceToNat]
        by_cases k2 : (l.length : Int) ≤ k
        · have e : isM l k s = false := by unfold isM; rw [decide_eq_false (by omega)]; simp
          simp only [c3, nodes, selE, sels, dNodes_map, dSel_mk, hds, hf1, hf2, l1, l2, l3, hs, hM, hb2, chkOf, c0, hr, k1, k2, e, on_gcall, off_gcall, flat_gcall, sumFew9_f, sumFew9_D, sumFew9_flat, sumFew9_r, sumShort_f, sumShort_D, sumShort_flat, sumShort_r, sumAwake10_f, sumAwake10_D, sumAwake10_flat, sumAwake10_r, sumChkR_f, sumChkR_D, sumChkR_flat, sumChkR_r, sumGiven10_f, sumGiven10_D, sumGiven10_flat, sumGiven10_r, sumRgtR_f, sumRgtR_D, sumRgtR_flat, sumRgtR_r, sumIsM_f, sumIsM_D, sumIsM_flat, sumIsM_r, sumAll10_f, sumAll10_D, sumAll10_flat, sumAll10_r, go_sem, reduceCtorEq, reduceIte, Nat.reduceEqDiff, Nat.reduceAdd, Nat.reduceSub, Nat.reduceMul, Nat.reduceLT, Nat.reduceLeDiff, Nat.reduceBEq, Int.reduceEq, Int.reduceLT, Int.reduceLE, Int.reduceAdd, Int.reduceSub, Int.reduceNeg, Int.reduceToNat]
        simp only [c3, nodes, selE, sels, dNodes_map, dSel_mk, hds, hf1, hf2, l1, l2, l3, hs, hM, hb2, chkOf, c0, bools, hP, r1, hr, k1, k2, on_gcall, off_gcall, flat_gcall, sumFew9_f, sumFew9_D, sumFew9_flat, sumFew9_r, sumShort_f, sumShort_D, sumShort_flat, sumShort_r, sumAwake10_f, sumAwake10_D, sumAwake10_flat, sumAwake10_r, sumChkR_f, sumChkR_D, sumChkR_flat, sumChkR_r, sumGiven10_f, sumGiven10_D, sumGiven10_flat, sumGiven10_r, sumRgtR_f, sumRgtR_D, sumRgtR_flat, sumRgtR_r, sumIsM_f, sumIsM_D, sumIsM_flat, sumIsM_r, sumAll10_f, sumAll10_D, sumAll10_flat, sumAll10_r, go_sem, reduceCtorEq, reduceIte, Nat.reduceEqDiff, Nat.reduceAdd, Nat.reduceSub, Nat.reduceMul, Nat.reduceLT, Nat.reduceLeDiff, Nat.reduceBEq, Int.reduceEq, Int.reduceLT, Int.reduceLE, Int.reduceAdd, Int.reduceSub, Int.reduceNeg, Int.reduceToNat]
        refine SemC.lp (α := LpS) (fun a => [(0, .slc 6 (l.map Node.enc)), (4, .ptr 0 0 0 0), (9, .slc 1 ((rowU l s (s.length - 1)).map fun b => [vb b])), (58, vi l.length), (59, vi a.n)])
          (fun a => ⟨[⟨0, 1, [[.slc 2 (s.map Cmp.enc)]], false, []⟩], 3⟩) (fun a => a.n ≤ l.length) (fun a => l.length - a.n) ⟨0, 0⟩ (Nat.zero_le _) (St.cut (by simp [Agrees, upd_at, initE_at]) rfl rfl) fun a ha => ?_
        obtain ⟨n, clk⟩ := a
        simp only at ha
        by_cases he : n = l.length
        · subst he
          simp only [Int.lt_irrefl, sumFew9_f, sumFew9_D, sumFew9_flat, sumFew9_r, sumShort_f, sumShort_D, sumShort_flat, sumShort_r, sumAwake10_f, sumAwake10_D, sumAwake10_flat, sumAwake10_r, sumChkR_f, sumChkR_D, sumChkR_flat, sumChkR_r, sumGiven10_f, sumGiven10_D, sumGiven10_flat, sumGiven10_r, sumRgtR_f, sumRgtR_D, sumRgtR_flat, sumRgtR_r, sumIsM_f, sumIsM_D, sumIsM_flat, sumIsM_r, sumAll10_f, sumAll10_D, sumAll10_flat, sumAll10_r, go_sem, wpR_gcall, reduceCtorEq, reduceIte, Nat.reduceEqDiff, Nat.reduceAdd, Nat.reduceSub, Nat.reduceMul, Nat.reduceLT, Nat.reduceLeDiff, Nat.reduceBEq, Int.reduceEq, Int.reduceLT, Int.reduceLE, Int.reduceAdd, Int.reduceSub, Int.reduceNeg, Int.reduceToNat]
        · have e1 : (n : Int) < (l.length : Int) := by omega
          have e0 : (0 : Int) ≤ (n : Int) := by omega
          have hn : n < l.length := by omega
          have e2 : (n : Int) < ((rowU l s (s.length - 1)).length : Int) := by rw [rowU_len]; omega
          have hi : isM l n s = upN l s (s.length - 1) n := by
            unfold isM
            rw [hD, decide_eq_true (by omega), hr, Int.toNat_natCast]; simp
          have hg := getD_bools (rowU l s (s.length - 1)) n
          rw [rowU_get l s _ n hn] at hg
          simp only [nodes, selE, dNodes_map, dSel_mk, l2, l3, hs, e0, e1, e2, hi, hg, sumFew9_f, sumFew9_D, sumFew9_flat, sumFew9_r, sumShort_f, sumShort_D, sumShort_flat, sumShort_r, sumAwake10_f, sumAwake10_D, sumAwake10_flat, sumAwake10_r, sumChkR_f, sumChkR_D, sumChkR_flat, sumChkR_r, sumGiven10_f, sumGiven10_D, sumGiven10_flat, sumGiven10_r, sumRgtR_f, sumRgtR_D, sumRgtR_flat, sumRgtR_r, sumIsM_f, sumIsM_D, sumIsM_flat, sumIsM_r, sumAll10_f, sumAll10_D, sumAll10_flat, sumAll10_r, go_sem, wpR_gcall, reduceCtorEq, reduceIte, Nat.reduceEqDiff, Nat.reduceAdd, Nat.reduceSub, Nat.reduceMul, Nat.reduceLT, Nat.reduceLeDiff, Nat.reduceBEq, Int.reduceEq, Int.reduceLT, Int.reduceLE, Int.reduceAdd, Int.reduceSub, Int.reduceNeg, Int.reduceToNat]
          exact ⟨by omega, ⟨n + 1, 0⟩, by dsimp only; omega, by dsimp only; omega, by dsimp only; omega⟩
      | false =>
        have e : isM l k s = false := by unfold isM; rw [hr]; simp
        simp only [c3, nodes, selE, sels, dNodes_map, dSel_mk, hds, hf1, hf2, l1, l2, l3, hs, hM, hb2, chkOf, c0, hr, e, on_gcall, off_gcall, flat_gcall, sumFew9_f, sumFew9_D, sumFew9_flat, sumFew9_r, sumShort_f, sumShort_D, sumShort_flat, sumShort_r, sumAwake10_f, sumAwake10_D, sumAwake10_flat, sumAwake10_r, sumChkR_f, sumChkR_D, sumChkR_flat, sumChkR_r, sumGiven10_f, sumGiven10_D, sumGiven10_flat, sumGiven10_r, sumRgtR_f, sumRgtR_D, sumRgtR_flat, sumRgtR_r, sumIsM_f, sumIsM_D, sumIsM_flat, sumIsM_r, sumAll10_f, sumAll10_D, sumAll10_flat, sumAll10_r, go_sem, reduceCtorEq, reduceIte, Nat.reduceEqDiff, Nat.reduceAdd, Nat.reduceSub, Nat.reduceMul, Nat.reduceLT, Nat.reduceLeDiff, Nat.reduceBEq, Int.reduceEq, Int.reduceLT, Int.reduceLE, Int.reduceAdd, Int.reduceSub, Int.reduceNeg, Int.reduceToNat]
    · have c0 : (if 0 ≤ badR l ∨ l.length = 0 then (5 : Int) else 0) = 5 := by
        unfold docB at hD; rw [decide_eq_true_eq] at hD; rw [if_pos]; omega
      have e : isM l k s = false := by unfold isM; rw [Bool.not_eq_true] at hD; rw [hD]; simp
      simp only [c3, nodes, selE, sels, dNodes_map, dSel_mk, hds, hf1, hf2, l1, l2, l3, hs, hM, hb2, chkOf, c0, e, on_gcall, off_gcall, flat_gcall, sumFew9_f, sumFew9_D, sumFew9_flat, sumFew9_r, sumShort_f, sumShort_D, sumShort_flat, sumShort_r, sumAwake10_f, sumAwake10_D, sumAwake10_flat, sumAwake10_r, sumChkR_f, sumChkR_D, sumChkR_flat, sumChkR_r, sumGiven10_f, sumGiven10_D, sumGiven10_flat, sumGiven10_r, sumRgtR_f, sumRgtR_D, sumRgtR_flat, sumRgtR_r, sumIsM_f, sumIsM_D, sumIsM_flat, sumIsM_r, sumAll10_f, sumAll10_D, sumAll10_flat, sumAll10_r, go_sem, reduceCtorEq, reduceIte, Nat.reduceEqDiff, Nat.reduceAdd, Nat.reduceSub, Nat.reduceMul, Nat.reduceLT, Nat.reduceLeDiff, Nat.reduceBEq, Int.reduceEq, Int.reduceLT, Int.reduceLE, Int.reduceAdd, Int.reduceSub, Int.reduceNeg, Int.reduceToNat]
  · cases hf1 : few9 l with
    | false => simp only [c3, nodes, selE, sels, dNodes_map, dSel_mk, hds, hf1, on_gcall, off_gcall, flat_gcall, sumFew9_f, sumFew9_D, sumFew9_flat, sumFew9_r, sumShort_f, sumShort_D, sumShort_flat, sumShort_r, sumAwake10_f, sumAwake10_D, sumAwake10_flat, sumAwake10_r, sumChkR_f, sumChkR_D, sumChkR_flat, sumChkR_r, sumGiven10_f, sumGiven10_D, sumGiven10_flat, sumGiven10_r, sumRgtR_f, sumRgtR_D, sumRgtR_flat, sumRgtR_r, sumIsM_f, sumIsM_D, sumIsM_flat, sumIsM_r, sumAll10_f, sumAll10_D, sumAll10_flat, sumAll10_r, go_sem, reduceCtorEq, reduceIte, Nat.reduceEqDiff, Nat.reduceAdd, Nat.reduceSub, Nat.reduceMul, Nat.reduceLT, Nat.reduceLeDiff, Nat.reduceBEq, Int.reduceEq, Int.reduceLT, Int.reduceLE, Int.reduceAdd, Int.reduceSub, Int.reduceNeg, Int.reduceToNat]
    | true =>
      have hf2 : shrt [s] = false := by
        cases hh : shrt [s] with
        | false => rfl
        | true => exact absurd ⟨hf1, hh⟩ hf
      have hb2 : 1 ≤ big := by decide
      simp only [c3, nodes, selE, sels, dNodes_map, dSel_mk, hds, hf1, hf2, hb2, on_gcall, off_gcall, flat_gcall, sumFew9_f, sumFew9_D, sumFew9_flat, sumFew9_r, sumShort_f, sumShort_D, sumShort_flat, sumShort_r, sumAwake10_f, sumAwake10_D, sumAwake10_flat, sumAwake10_r, sumChkR_f, sumChkR_D, sumChkR_flat, sumChkR_r, sumGiven10_f, sumGiven10_D, sumGiven10_flat, sumGiven10_r, sumRgtR_f, sumRgtR_D, sumRgtR_flat, sumRgtR_r, sumIsM_f, sumIsM_D, sumIsM_flat, sumIsM_r, sumAll10_f, sumAll10_D, sumAll10_flat, sumAll10_r, go_sem, reduceCtorEq, reduceIte, Nat.reduceEqDiff, Nat.reduceAdd, Nat.reduceSub, Nat.reduceMul, Nat.reduceLT, Nat.reduceLeDiff, Nat.reduceBEq, Int.reduceEq, Int.reduceLT, Int.reduceLE, Int.reduceAdd, Int.reduceSub, Int.reduceNeg, Int.reduceToNat]
end Go.Proofs.Ytcjephhkgccmgaa
