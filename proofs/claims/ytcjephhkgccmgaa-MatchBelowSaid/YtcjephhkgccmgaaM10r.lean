/- The law of layer 10: the greatest weight. -/
import Derived.Test.YtcjephhkgccmgaaM10q
namespace Go.Proofs.Ytcjephhkgccmgaa
open Go.Sx
set_option linter.unusedSimpArgs false
set_option maxHeartbeats 4000000
set_option maxRecDepth 20000

theorem bstF_no (l : List Node) (k : Int) (p : W3 × Bool) : ∀ s : List Sel, (∀ x ∈ s, isM l k x = false) → bstF l k p s = p
  | [], _ => rfl
  | x :: s, h => by
    have h1 : bstP l k p x = p := by unfold bstP; rw [h x (by simp), if_neg (by simp)]
    have h2 := bstF_no l k p s fun y hy => h y (by simp [hy])
    unfold bstF at h2 ⊢
    rw [List.foldl_cons, h1, h2]
theorem shrt_len {s : List Sel} (h : shrt s = true) (i : Nat) (hi : i < s.length) : okC (s.getD i []) := (shrt_okM h).2.2 i hi
theorem matchBest_law (x : V) (h : CellOK (.slc nodeC) x) (y : V) (h2 : CellOK (.slc selC) y) (z : V) (h3 : CellOK (.int .i64) z) : PCall Try.prog 4 [x, y, z] (.c (.bool true)) := by
  obtain ⟨l, rfl⟩ := nodes_of h
  obtain ⟨s, rfl, hm⟩ := sels_of h2
  cases h3 with
  | int _ k hk =>
  refine PCall.of (Orc.cons sumFew9 (Orc.cons sumShort (Orc.cons sumAwake10 (Orc.cons sumChkR (Orc.cons sumGiven10 (Orc.cons sumRgtR (Orc.cons sumBest (Orc.cons sumAll10 (Orc.cons sumWgtR (Orc.cons sumAbvR (Orc.nil _))))))))))) c4_ok (by simp [c4]) fun w0 own0 => ?_
  have hb1 : s.length ≤ big := hm.1
  by_cases hf : few9 l = true ∧ shrt s = true
  · obtain ⟨hf1, hf2⟩ := hf
    obtain ⟨l1, l2⟩ := few9_okNs hf1
    obtain ⟨s1, hM⟩ := shrt_okM hf2
    have l3 : l.length ≤ 1000 := by omega
    by_cases hD : docB l = true
    · have hI := (docB_iff l).1 hD
      have hP := doc_docP l3 l2 hI
      have c0 : (if 0 ≤ badR l ∨ l.length = 0 then (5 : Int) else 0) = 0 := by
        unfold docB at hD; rw [decide_eq_true_eq] at hD; rw [if_neg]; omega
      by_cases k1 : k < 0
      · have e : bstF l k (⟨0, 0, 0⟩, false) s = (⟨0, 0, 0⟩, false) := bstF_no _ _ _ _ fun x _ => by unfold isM; rw [decide_eq_false (by omega)]; simp
        simp only [c4, nodes, sels, dNodes_map, dSels_map, hf1, hf2, l1, l2, l3, hM, hb1, chkOf, c0, W3.enc, k1, e, List.isEmpty_cons, on_gcall, off_gcall, flat_gcall, sumFew9_f, sumFew9_D, sumFew9_flat, sumFew9_r, sumShort_f, sumShort_D, sumShort_flat, sumShort_r, sumAwake10_f, sumAwake10_D, sumAwake10_flat, sumAwake10_r, sumChkR_f, sumChkR_D, sumChkR_flat, sumChkR_r, sumGiven10_f, sumGiven10_D, sumGiven10_flat, sumGiven10_r, sumRgtR_f, sumRgtR_D, sumRgtR_flat, sumRgtR_r, sumBest_f, sumBest_D, sumBest_flat, sumBest_r, sumAll10_f, sumAll10_D, sumAll10_flat, sumAll10_r, sumWgtR_f, sumWgtR_D, sumWgtR_flat, sumWgtR_r, sumAbvR_f, sumAbvR_D, sumAbvR_flat, sumAbvR_r, go_sem, reduceCtorEq, reduceIte, Nat.reduceEqDiff, Nat.reduceAdd, Nat.reduceSub, Nat.reduceMul, Nat.reduceLT, Nat.reduceLeDiff, Nat.reduceBEq, Int.reduceEq, Int.reduceLT, Int.reduceLE, Int.reduceAdd, Int.reduceSub, Int.reduceNeg, Int.reduceToNat]
      by_cases k2 : (l.length : Int) ≤ k
      · have e : bstF l k (⟨0, 0, 0⟩, false) s = (⟨0, 0, 0⟩, false) := bstF_no _ _ _ _ fun x _ => by unfold isM; rw [decide_eq_false (by omega)]; simp
        simp only [c4, nodes, sels, dNodes_map, dSels_map, hf1, hf2, l1, l2, l3, hM, hb1, chkOf, c0, W3.enc, k1, k2, e, List.isEmpty_cons, on_gcall, off_gcall, flat_gcall, sumFew9_f, sumFew9_D, sumFew9_flat, sumFew9_r, sumShort_f, sumShort_D, sumShort_flat, sumShort_r, sumAwake10_f, sumAwake10_D, sumAwake10_flat, sumAwake10_r, sumChkR_f, sumChkR_D, sumChkR_flat, sumChkR_r, sumGiven10_f, sumGiven10_D, sumGiven10_flat, sumGiven10_r, sumRgtR_f, sumRgtR_D, sumRgtR_flat, sumRgtR_r, sumBest_f, sumBest_D, sumBest_flat, sumBest_r, sumAll10_f, sumAll10_D, sumAll10_flat, sumAll10_r, sumWgtR_f, sumWgtR_D, sumWgtR_flat, sumWgtR_r, sumAbvR_f, sumAbvR_D, sumAbvR_flat, sumAbvR_r, go_sem, reduceCtorEq, reduceIte, Nat.reduceEqDiff, Nat.reduceAdd, Nat.reduceSub, Nat.reduceMul, Nat.reduceLT, Nat.reduceLeDiff, Nat.reduceBEq, Int.reduceEq, Int.reduceLT, Int.reduceLE, Int.reduceAdd, Int.reduceSub, Int.reduceNeg, Int.reduceToNat]
      have hpos : ∀ x, isM l k x = (rgtL [x] && upN l x (x.length - 1) k.toNat) := fun x => by
        unfold isM; rw [hD, decide_eq_true (by omega)]; simp
      generalize hB : bstF l k (⟨0, 0, 0⟩, false) s = B at *
      obtain ⟨W, b⟩ := B
      simp only [c4, nodes, sels, dNodes_map, dSels_map, hf1, hf2, l1, l2, l3, hM, hb1, chkOf, c0, W3.enc, hB, k1, k2, List.isEmpty_cons, on_gcall, off_gcall, flat_gcall, sumFew9_f, sumFew9_D, sumFew9_flat, sumFew9_r, sumShort_f, sumShort_D, sumShort_flat, sumShort_r, sumAwake10_f, sumAwake10_D, sumAwake10_flat, sumAwake10_r, sumChkR_f, sumChkR_D, sumChkR_flat, sumChkR_r, sumGiven10_f, sumGiven10_D, sumGiven10_flat, sumGiven10_r, sumRgtR_f, sumRgtR_D, sumRgtR_flat, sumRgtR_r, sumBest_f, sumBest_D, sumBest_flat, sumBest_r, sumAll10_f, sumAll10_D, sumAll10_flat, sumAll10_r, sumWgtR_f, sumWgtR_D, sumWgtR_flat, sumWgtR_r, sumAbvR_f, sumAbvR_D, sumAbvR_flat, sumAbvR_r, go_sem, reduceCtorEq, reduceIte, Nat.reduceEqDiff, Nat.reduceAdd, Nat.reduceSub, Nat.reduceMul, Nat.reduceLT, Nat.reduceLeDiff, Nat.reduceBEq, Int.reduceEq, Int.reduceLT, Int.reduceLE, Int.reduceAdd, Int.reduceSub, Int.reduceNeg, Int.reduceToNat]
      refine SemC.lp (α := BsS) (fun a => [(0, .slc 6 (l.map Node.enc)), (2, vi k), (7, .ptr 0 0 0 0), (8, vb b), (11, .ptr 1 1 0 0), (12, vb a.b), (60, .slc 1 (s.map selE)), (61, vi s.length), (62, vi a.n)])
        (fun a => ⟨[⟨0, 3, [W.enc], false, []⟩, ⟨1, 3, [a.w.enc], false, []⟩], a.clk⟩) (fun a => a.n ≤ s.length ∧ bstF l k (⟨0, 0, 0⟩, false) s = bstF l k (a.w, a.b) (s.drop a.n)) (fun a => s.length - a.n) ⟨0, ⟨0, 0, 0⟩, false, 2⟩ ⟨Nat.zero_le _, rfl⟩
        (St.cut (by simp [Agrees, upd_at, initE_at]) (by simp [W3.enc]) rfl) fun a ha => ?_
      obtain ⟨n, w, c, clk⟩ := a
      simp only at ha
      obtain ⟨n1, n2⟩ := ha
      by_cases he : n = s.length
      · subst he
        rw [List.drop_length, hB] at n2
        have e : (W, b) = (w, c) := n2
        obtain ⟨rfl, rfl⟩ := Prod.mk.inj e
        simp only [W3.enc, Int.lt_irrefl, List.isEmpty_cons, sumFew9_f, sumFew9_D, sumFew9_flat, sumFew9_r, sumShort_f, sumShort_D, sumShort_flat, sumShort_r, sumAwake10_f, sumAwake10_D, sumAwake10_flat, sumAwake10_r, sumChkR_f, sumChkR_D, sumChkR_flat, sumChkR_r, sumGiven10_f, sumGiven10_D, sumGiven10_flat, sumGiven10_r, sumRgtR_f, sumRgtR_D, sumRgtR_flat, sumRgtR_r, sumBest_f, sumBest_D, sumBest_flat, sumBest_r, sumAll10_f, sumAll10_D, sumAll10_flat, sumAll10_r, sumWgtR_f, sumWgtR_D, sumWgtR_flat, sumWgtR_r, sumAbvR_f, sumAbvR_D, sumAbvR_flat, sumAbvR_r, go_sem, wpR_gcall, reduceCtorEq, reduceIte, Nat.reduceEqDiff, Nat.reduceAdd, Nat.reduceSub, Nat.reduceMul, Nat.reduceLT, Nat.reduceLeDiff, Nat.reduceBEq, Int.reduceEq, Int.reduceLT, Int.reduceLE, Int.reduceAdd, Int.reduceSub, Int.reduceNeg, Int.reduceToNat]
      · have e1 : (n : Int) < (s.length : Int) := by omega
        have e0 : (0 : Int) ≤ (n : Int) := by omega
        have hlt : n < s.length := by omega
        have hg := getD_sels s n [.c (.slice none 0 0)] hlt
        have ho := hM.2 n hlt
        have hoM := okM_one ho
        rw [bstF_drop l k _ s n hlt] at n2
        generalize hx : s.getD n [] = x at *
        have hds : dSels (.slc 1 [[.slc 2 (x.map Cmp.enc)]]) = [x] := dSels_map [x]
        have hp := hpos x
        have hsx : sels [x] = .slc 1 [[.slc 2 (x.map Cmp.enc)]] := rfl
        cases hr : rgtL [x] with
        | false =>
          rw [hr, Bool.false_and] at hp
          have hq : bstP l k (w, c) x = (w, c) := by unfold bstP; rw [hp, if_neg (by simp)]
          rw [hq] at n2
          simp only [W3.enc, e0, e1, hg, selE, nodes, dNodes_map, dSel_mk, hds, hsx, ho, hoM, hr, List.isEmpty_cons, on_gcall, off_gcall, flat_gcall, sumFew9_f, sumFew9_D, sumFew9_flat, sumFew9_r, sumShort_f, sumShort_D, sumShort_flat, sumShort_r, sumAwake10_f, sumAwake10_D, sumAwake10_flat, sumAwake10_r, sumChkR_f, sumChkR_D, sumChkR_flat, sumChkR_r, sumGiven10_f, sumGiven10_D, sumGiven10_flat, sumGiven10_r, sumRgtR_f, sumRgtR_D, sumRgtR_flat, sumRgtR_r, sumBest_f, sumBest_D, sumBest_flat, sumBest_r, sumAll10_f, sumAll10_D, sumAll10_flat, sumAll10_r, sumWgtR_f, sumWgtR_D, sumWgtR_flat, sumWgtR_r, sumAbvR_f, sumAbvR_D, sumAbvR_flat, sumAbvR_r, go_sem, reduceCtorEq, reduceIte, Nat.reduceEqDiff, Nat.reduceAdd, Nat.reduceSub, Nat.reduceMul, Nat.reduceLT, Nat.reduceLeDiff, Nat.reduceBEq, Int.reduceEq, Int.reduceLT, Int.reduceLE, Int.reduceAdd, Int.reduceSub, Int.reduceNeg, Int.reduceToNat]
          exact ⟨by omega, ⟨n + 1, w, c, clk + 3⟩, ⟨by dsimp only; omega, n2⟩, by dsimp only; omega, ⟨rfl, by dsimp only; omega⟩, ⟨rfl, rfl, rfl⟩, rfl⟩
        | true =>
          obtain ⟨r1, _⟩ := rgtL_pos hr
          rw [hr, Bool.true_and] at hp
          have hg2 := getD_bools (rowU l x (x.length - 1)) k.toNat
          rw [rowU_get l x _ k.toNat (by omega), ← hp] at hg2
          have k3 : 0 ≤ k := by omega
          have k4 : k < ((rowU l x (x.length - 1)).length : Int) := by rw [rowU_len]; omega
          cases hi : isM l k x with
          | false =>
            have hq : bstP l k (w, c) x = (w, c) := by unfold bstP; rw [hi, if_neg (by simp)]
            rw [hq] at n2
            rw [hi] at hg2
            simp only [W3.enc, e0, e1, hg, selE, nodes, bools, dNodes_map, dSel_mk, hds, hsx, hP, ho, hoM, hr, r1, k3, k4, hg2, List.isEmpty_cons, on_gcall, off_gcall, flat_gcall, sumFew9_f, sumFew9_D, sumFew9_flat, sumFew9_r, sumShort_f, sumShort_D, sumShort_flat, sumShort_r, sumAwake10_f, sumAwake10_D, sumAwake10_flat, sumAwake10_r, sumChkR_f, sumChkR_D, sumChkR_flat, sumChkR_r, sumGiven10_f, sumGiven10_D, sumGiven10_flat, sumGiven10_r, sumRgtR_f, sumRgtR_D, sumRgtR_flat, sumRgtR_r, sumBest_f, sumBest_D, sumBest_flat, sumBest_r, sumAll10_f, sumAll10_D, sumAll10_flat, sumAll10_r, sumWgtR_f, sumWgtR_D, sumWgtR_flat, sumWgtR_r, sumAbvR_f, sumAbvR_D, sumAbvR_flat, sumAbvR_r, go_sem, reduceCtorEq, reduceIte, Nat.reduceEqDiff, Nat.reduceAdd, Nat.reduceSub, Nat.reduceMul, Nat.reduceLT, Nat.reduceLeDiff, Nat.reduceBEq, Int.reduceEq, Int.reduceLT, Int.reduceLE, Int.reduceAdd, Int.reduceSub, Int.reduceNeg, Int.reduceToNat]
            exact ⟨by omega, ⟨n + 1, w, c, clk + 3⟩, ⟨by dsimp only; omega, n2⟩, by dsimp only; omega, ⟨rfl, by dsimp only; omega⟩, ⟨rfl, rfl, rfl⟩, rfl⟩
          | true =>
            rw [hi] at hg2
            have hq : bstP l k (w, c) x = if c = false ∨ abv (wtS x) w = true then (wtS x, true) else (w, c) := by unfold bstP; rw [hi, if_pos rfl]
            rw [hq] at n2
            generalize hu : wtS x = u at *
            cases c with
            | false =>
              rw [if_pos (.inl rfl)] at n2
              simp only [W3.enc, e0, e1, hg, selE, nodes, bools, dNodes_map, dSel_mk, hds, hsx, hP, ho, hoM, hr, r1, k3, k4, hg2, hu, dW3_mk, W3.eta, List.isEmpty_cons, on_gcall, off_gcall, flat_gcall, sumFew9_f, sumFew9_D, sumFew9_flat, sumFew9_r, sumShort_f, sumShort_D, sumShort_flat, sumShort_r, sumAwake10_f, sumAwake10_D, sumAwake10_flat, sumAwake10_r, sumChkR_f, sumChkR_D, sumChkR_flat, sumChkR_r, sumGiven10_f, sumGiven10_D, sumGiven10_flat, sumGiven10_r, sumRgtR_f, sumRgtR_D, sumRgtR_flat, sumRgtR_r, sumBest_f, sumBest_D, sumBest_flat, sumBest_r, sumAll10_f, sumAll10_D, sumAll10_flat, sumAll10_r, sumWgtR_f, sumWgtR_D, sumWgtR_flat, sumWgtR_r, sumAbvR_f, sumAbvR_D, sumAbvR_flat, sumAbvR_r, go_sem, reduceCtorEq, reduceIte, Nat.reduceEqDiff, Nat.reduceAdd, Nat.reduceSub, Nat.reduceMul, Nat.reduceLT, Nat.reduceLeDiff, Nat.reduceBEq, Int.reduceEq, Int.reduceLT, Int.reduceLE, Int.reduceAdd, Int.reduceSub, Int.reduceNeg, Int.reduceToNat]
              exact ⟨by omega, ⟨n + 1, u, true, clk + 4⟩, ⟨by dsimp only; omega, n2⟩, by dsimp only; omega, ⟨rfl, by dsimp only; omega⟩, ⟨rfl, rfl, rfl⟩, rfl⟩
            | true =>
              cases hab : abv u w with
              | true =>
                rw [if_pos (.inr hab)] at n2
                simp only [W3.enc, e0, e1, hg, selE, nodes, bools, dNodes_map, dSel_mk, hds, hsx, hP, ho, hoM, hr, r1, k3, k4, hg2, hu, hab, dW3_mk, W3.eta, List.isEmpty_cons, on_gcall, off_gcall, flat_gcall, sumFew9_f, sumFew9_D, sumFew9_flat, sumFew9_r, sumShort_f, sumShort_D, sumShort_flat, sumShort_r, sumAwake10_f, sumAwake10_D, sumAwake10_flat, sumAwake10_r, sumChkR_f, sumChkR_D, sumChkR_flat, sumChkR_r, sumGiven10_f, sumGiven10_D, sumGiven10_flat, sumGiven10_r, sumRgtR_f, sumRgtR_D, sumRgtR_flat, sumRgtR_r, sumBest_f, sumBest_D, sumBest_flat, sumBest_r, sumAll10_f, sumAll10_D, sumAll10_flat, sumAll10_r, sumWgtR_f, sumWgtR_D, sumWgtR_flat, sumWgtR_r, sumAbvR_f, sumAbvR_D, sumAbvR_flat, sumAbvR_r, go_sem, reduceCtorEq, reduceIte, Nat.reduceEqDiff, Nat.reduceAdd, Nat.reduceSub, Nat.reduceMul, Nat.reduceLT, Nat.reduceLeDiff, Nat.reduceBEq, Int.reduceEq, Int.reduceLT, Int.reduceLE, Int.reduceAdd, Int.reduceSub, Int.reduceNeg, Int.reduceToNat]
                exact ⟨by omega, ⟨n + 1, u, true, clk + 4⟩, ⟨by dsimp only; omega, n2⟩, by dsimp only; omega, ⟨rfl, by dsimp only; omega⟩, ⟨rfl, rfl, rfl⟩, rfl⟩
              | false =>
                rw [if_neg (by rw [hab]; simp)] at n2
                simp only [W3.enc, e0, e1, hg, selE, nodes, bools, dNodes_map, dSel_mk, hds, hsx, hP, ho, hoM, hr, r1, k3, k4, hg2, hu, hab, dW3_mk, W3.eta, List.isEmpty_cons, on_gcall, off_gcall, flat_gcall, sumFew9_f, sumFew9_D, sumFew9_flat, sumFew9_r, sumShort_f, sumShort_D, sumShort_flat, sumShort_r, sumAwake10_f, sumAwake10_D, sumAwake10_flat, sumAwake10_r, sumChkR_f, sumChkR_D, sumChkR_flat, sumChkR_r, sumGiven10_f, sumGiven10_D, sumGiven10_flat, sumGiven10_r, sumRgtR_f, sumRgtR_D, sumRgtR_flat, sumRgtR_r, sumBest_f, sumBest_D, sumBest_flat, sumBest_r, sumAll10_f, sumAll10_D, sumAll10_flat, sumAll10_r, sumWgtR_f, sumWgtR_D, sumWgtR_flat, sumWgtR_r, sumAbvR_f, sumAbvR_D, sumAbvR_flat, sumAbvR_r, go_sem, reduceCtorEq, reduceIte, Nat.reduceEqDiff, Nat.reduceAdd, Nat.reduceSub, Nat.reduceMul, Nat.reduceLT, Nat.reduceLeDiff, Nat.reduceBEq, Int.reduceEq, Int.reduceLT, Int.reduceLE, Int.reduceAdd, Int.reduceSub, Int.reduceNeg, Int.reduceToNat]
                exact ⟨by omega, ⟨n + 1, w, true, clk + 4⟩, ⟨by dsimp only; omega, n2⟩, by dsimp only; omega, ⟨rfl, by dsimp only; omega⟩, ⟨rfl, rfl, rfl⟩, rfl⟩
    · have c0 : (if 0 ≤ badR l ∨ l.length = 0 then (5 : Int) else 0) = 5 := by
        unfold docB at hD; rw [decide_eq_true_eq] at hD; rw [if_pos]; omega
      have e : bstF l k (⟨0, 0, 0⟩, false) s = (⟨0, 0, 0⟩, false) := bstF_no _ _ _ _ fun x _ => by unfold isM; rw [Bool.not_eq_true] at hD; rw [hD]; simp
      simp only [c4, nodes, sels, dNodes_map, dSels_map, hf1, hf2, l1, l2, l3, hM, hb1, chkOf, c0, W3.enc, e, List.isEmpty_cons, on_gcall, off_gcall, flat_gcall, sumFew9_f, sumFew9_D, sumFew9_flat, sumFew9_r, sumShort_f, sumShort_D, sumShort_flat, sumShort_r, sumAwake10_f, sumAwake10_D, sumAwake10_flat, sumAwake10_r, sumChkR_f, sumChkR_D, sumChkR_flat, sumChkR_r, sumGiven10_f, sumGiven10_D, sumGiven10_flat, sumGiven10_r, sumRgtR_f, sumRgtR_D, sumRgtR_flat, sumRgtR_r, sumBest_f, sumBest_D, sumBest_flat, sumBest_r, sumAll10_f, sumAll10_D, sumAll10_flat, sumAll10_r, sumWgtR_f, sumWgtR_D, sumWgtR_flat, sumWgtR_r, sumAbvR_f, sumAbvR_D, sumAbvR_flat, sumAbvR_r, go_sem, reduceCtorEq, reduceIte, Nat.reduceEqDiff, Nat.reduceAdd, Nat.reduceSub, Nat.reduceMul, Nat.reduceLT, Nat.reduceLeDiff, Nat.reduceBEq, Int.reduceEq, Int.reduceLT, Int.reduceLE, Int.reduceAdd, Int.reduceSub, Int.reduceNeg, Int.reduceToNat]
  · cases hf1 : few9 l with
    | false => simp only [c4, nodes, sels, dNodes_map, dSels_map, hf1, List.isEmpty_cons, on_gcall, off_gcall, flat_gcall, sumFew9_f, sumFew9_D, sumFew9_flat, sumFew9_r, sumShort_f, sumShort_D, sumShort_flat, sumShort_r, sumAwake10_f, sumAwake10_D, sumAwake10_flat, sumAwake10_r, sumChkR_f, sumChkR_D, sumChkR_flat, sumChkR_r, sumGiven10_f, sumGiven10_D, sumGiven10_flat, sumGiven10_r, sumRgtR_f, sumRgtR_D, sumRgtR_flat, sumRgtR_r, sumBest_f, sumBest_D, sumBest_flat, sumBest_r, sumAll10_f, sumAll10_D, sumAll10_flat, sumAll10_r, sumWgtR_f, sumWgtR_D, sumWgtR_flat, sumWgtR_r, sumAbvR_f, sumAbvR_D, sumAbvR_flat, sumAbvR_r, go_sem, reduceCtorEq, reduceIte, Nat.reduceEqDiff, Nat.reduceAdd, Nat.reduceSub, Nat.reduceMul, Nat.reduceLT, Nat.reduceLeDiff, Nat.reduceBEq, Int.reduceEq, Int.reduceLT, Int.reduceLE, Int.reduceAdd, Int.reduceSub, Int.reduceNeg, Int.reduceToNat]
    | true =>
      have hf2 : shrt s = false := by
        cases hh : shrt s with
        | false => rfl
        | true => exact absurd ⟨hf1, hh⟩ hf
      simp only [c4, nodes, sels, dNodes_map, dSels_map, hf1, hf2, hb1, List.isEmpty_cons, on_gcall, off_gcall, flat_gcall, sumFew9_f, sumFew9_D, sumFew9_flat, sumFew9_r, sumShort_f, sumShort_D, sumShort_flat, sumShort_r, sumAwake10_f, sumAwake10_D, sumAwake10_flat, sumAwake10_r, sumChkR_f, sumChkR_D, sumChkR_flat, sumChkR_r, sumGiven10_f, sumGiven10_D, sumGiven10_flat, sumGiven10_r, sumRgtR_f, sumRgtR_D, sumRgtR_flat, sumRgtR_r, sumBest_f, sumBest_D, sumBest_flat, sumBest_r, sumAll10_f, sumAll10_D, sumAll10_flat, sumAll10_r, sumWgtR_f, sumWgtR_D, sumWgtR_flat, sumWgtR_r, sumAbvR_f, sumAbvR_D, sumAbvR_flat, sumAbvR_r, go_sem, reduceCtorEq, reduceIte, Nat.reduceEqDiff, Nat.reduceAdd, Nat.reduceSub, Nat.reduceMul, Nat.reduceLT, Nat.reduceLeDiff, Nat.reduceBEq, Int.reduceEq, Int.reduceLT, Int.reduceLE, Int.reduceAdd, Int.reduceSub, Int.reduceNeg, Int.reduceToNat]
end Go.Proofs.Ytcjephhkgccmgaa
