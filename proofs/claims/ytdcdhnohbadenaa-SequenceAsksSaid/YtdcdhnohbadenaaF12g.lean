/- Flows: what several breaks come to, by the document; the law of it. -/
import Derived.Test.YtdcdhnohbadenaaDc
import Derived.Test.YtdcdhnohbadenaaF12b
namespace Go.Proofs.Ytdcdhnohbadenaa
open Go.Sx
set_option linter.unusedSimpArgs false
set_option maxHeartbeats 4000000
set_option maxRecDepth 20000

theorem joinS_ass (a x y : Int) (ha : 0 ≤ a ∧ a ≤ 4) (hy : 0 ≤ y ∧ y ≤ 4) : joinS (joinS a x) y = joinS a (joinS (joinS 0 x) y) := by
  unfold joinS; repeat' split
  all_goals omega
theorem joinS_in (a x : Int) (ha : 0 ≤ a ∧ a ≤ 4) : 0 ≤ joinS a x ∧ joinS a x ≤ 4 := by unfold joinS; split; omega; split <;> omega
theorem joinS_zero (y : Int) (hy : 0 ≤ y ∧ y ≤ 4) : joinS 0 y = y := by unfold joinS; repeat' split
                                                                        all_goals omega
theorem fold_in : ∀ (l : List Int) (a : Int), 0 ≤ a ∧ a ≤ 4 → 0 ≤ l.foldl joinS a ∧ l.foldl joinS a ≤ 4
  | [], _, h => h
  | x :: l, a, h => fold_in l _ (joinS_in a x h)
theorem fold_ass : ∀ (l : List Int) (a : Int), 0 ≤ a ∧ a ≤ 4 → l.foldl joinS a = joinS a (l.foldl joinS 0)
  | [], a, h => by
    simp only [List.foldl_nil]; unfold joinS; rw [if_neg (by omega)]; split
    · exact (Int.max_eq_left h.1).symm
    · rfl
  | x :: l, a, h => by
    simp only [List.foldl_cons]
    rw [fold_ass l (joinS a x) (joinS_in a x h), fold_ass l (joinS 0 x) (joinS_in 0 x (by omega))]
    exact joinS_ass a x _ h (fold_in l 0 (by omega))
theorem joinT_app (l m : List Int) : joinT (l ++ m) = joinS (joinT l) (joinT m) := by
  unfold joinT
  rw [List.foldl_append]
  exact fold_ass m _ (fold_in l 0 (by omega))
theorem joinT_two (a b : Int) (ha : 0 ≤ a ∧ a ≤ 4) : joinT [a, b] = joinS a b := by
  unfold joinT; simp only [List.foldl_cons, List.foldl_nil]; rw [joinS_zero a ha]
theorem fold_hi : ∀ (l : List Int) (a : Int), 3 ≤ a → (∀ x ∈ l, x ≠ 3 ∧ x ≠ 4) → l.foldl joinS a = a
  | [], _, _, _ => rfl
  | x :: l, a, h, hx => by
    have h1 := hx x (by simp)
    have : joinS a x = a := by unfold joinS; rw [if_neg (by omega), if_neg (by omega)]
    rw [List.foldl_cons, this]
    exact fold_hi l a h fun y hy => hx y (by simp [hy])
theorem fold_lo : ∀ (l : List Int) (a : Int), 0 ≤ a → a ≤ 2 → (∀ x ∈ l, x ≠ 3 ∧ x ≠ 4) → 0 ≤ l.foldl joinS a ∧ l.foldl joinS a ≤ 2 ∧ (l.foldl joinS a = 2 ↔ a = 2 ∨ 2 ∈ l) ∧ (1 ≤ l.foldl joinS a ↔ 1 ≤ a ∨ 1 ∈ l ∨ 2 ∈ l)
  | [], a, h, h2, _ => ⟨h, h2, by simp, by simp⟩
  | x :: l, a, h, h2, hx => by
    have h1 := hx x (by simp)
    have hs : 0 ≤ joinS a x ∧ joinS a x ≤ 2 ∧ (joinS a x = 2 ↔ a = 2 ∨ x = 2) ∧ (1 ≤ joinS a x ↔ 1 ≤ a ∨ x = 1 ∨ x = 2) := by
      unfold joinS; rw [if_neg (by omega)]; split <;> omega
    obtain ⟨i1, i2, i3, i4⟩ := fold_lo l (joinS a x) hs.1 hs.2.1 fun y hy => hx y (by simp [hy])
    rw [List.foldl_cons]
    refine ⟨i1, i2, ?_, ?_⟩
    · rw [i3, hs.2.2.1, List.mem_cons]
      have : (2 : Int) = x ↔ x = 2 := ⟨fun h => h.symm, fun h => h.symm⟩
      rw [this, or_assoc]
    · rw [i4, hs.2.2.2, List.mem_cons, List.mem_cons]
      have e1 : (1 : Int) = x ↔ x = 1 := ⟨fun h => h.symm, fun h => h.symm⟩
      have e2 : (2 : Int) = x ↔ x = 2 := ⟨fun h => h.symm, fun h => h.symm⟩
      rw [e1, e2]
      constructor
      · intro h; simp only [or_assoc] at h ⊢; rcases h with h | h | h | h | h <;> simp [h]
      · intro h; simp only [or_assoc] at h ⊢; rcases h with h | h | h | h | h <;> simp [h]
theorem mem_at {l : List Int} {x : Int} (h : x ∈ l) : ∃ i, i < l.length ∧ l.getD i 0 = x := by
  obtain ⟨i, hi, rfl⟩ := List.mem_iff_getElem.1 h
  exact ⟨i, hi, by simp [List.getD_eq_getElem?_getD, hi]⟩
theorem at_mem {l : List Int} {i : Nat} (h : i < l.length) : l.getD i 0 ∈ l := by
  rw [List.getD_eq_getElem?_getD, List.getElem?_eq_getElem h]; exact List.getElem_mem _
theorem join_hi {l : List Int} {i : Nat} (hi : i < l.length) (h : l.getD i 0 = 3 ∨ l.getD i 0 = 4) (hn : ∀ j, i + 1 ≤ j → j < l.length → l.getD j 0 ≠ 3 ∧ l.getD j 0 ≠ 4) : joinT l = l.getD i 0 := by
  have e : l = l.take (i + 1) ++ l.drop (i + 1) := (List.take_append_drop _ _).symm
  conv => lhs; rw [e]
  unfold joinT
  rw [List.foldl_append, take_snoc l i hi, List.foldl_append]
  simp only [List.foldl_cons, List.foldl_nil]
  have e2 : joinS (List.foldl joinS 0 (l.take i)) (l.getD i 0) = l.getD i 0 := by unfold joinS; rw [if_pos h]
  rw [e2]
  refine fold_hi _ _ (by omega) fun x hx => ?_
  obtain ⟨j, hj, rfl⟩ := mem_at hx
  have hj' : j < l.length - (i + 1) := by simpa using hj
  have := hn (i + 1 + j) (by omega) (by omega)
  simpa [List.getD_eq_getElem?_getD] using this
theorem join_lo {l : List Int} (hn : ∀ j, j < l.length → l.getD j 0 ≠ 3 ∧ l.getD j 0 ≠ 4) : 0 ≤ joinT l ∧ joinT l ≤ 2 ∧ (joinT l = 2 ↔ 2 ∈ l) ∧ (1 ≤ joinT l ↔ 1 ∈ l ∨ 2 ∈ l) := by
  have := fold_lo l 0 (by omega) (by omega) fun x hx => by obtain ⟨j, hj, rfl⟩ := mem_at hx; exact hn j hj
  unfold joinT
  refine ⟨this.1, this.2.1, by rw [this.2.2.1]; simp, by rw [this.2.2.2]; simp⟩
structure JnS where
  w : Nat
theorem joinR_ok (l : List Int) (hl : l.length ≤ 1000000) : PCall Try.prog 52 [ints l] (vi (joinT l)) := by
  refine PCall.of (Orc.nil _) c52_ok (by simp [c52]) fun w0 own0 => ?_
  simp only [c52, ints, go_sem, wpR_gcall, reduceCtorEq, reduceIte, Nat.reduceEqDiff, Nat.reduceAdd, Nat.reduceSub, Nat.reduceMul, Nat.reduceLT, Nat.reduceLeDiff, Nat.reduceBEq, Int.reduceEq, Int.reduceLT, Int.reduceLE, Int.reduceAdd, Int.reduceSub, Int.reduceNeg, Int.reduceToNat]
  refine ⟨by omega, ?_⟩
  refine SemC.lp (α := Nat) (fun m => [(0, .slc 1 (l.map fun n => [vi n])), (3, vi ((m : Int) - 1))]) (fun _ => ⟨[], 0⟩)
    (fun m => m ≤ l.length ∧ ∀ j, m ≤ j → j < l.length → l.getD j 0 ≠ 3 ∧ l.getD j 0 ≠ 4) (fun m => m) l.length ⟨Nat.le_refl _, fun j h1 h2 => by omega⟩ (St.mk (by simp [Agrees, upd_at, initE_at])) fun m hm => ?_
  obtain ⟨h1, h2⟩ := hm
  by_cases h0 : m = 0
  · subst h0
    obtain ⟨k1, k2, k3, k4⟩ := join_lo fun j hj => h2 j (by omega) hj
    simp only [show ¬ (0 : Int) ≤ ((0 : Nat) : Int) - 1 by omega, go_sem, wpR_gcall, reduceCtorEq, reduceIte, Nat.reduceEqDiff, Nat.reduceAdd, Nat.reduceSub, Nat.reduceMul, Nat.reduceLT, Nat.reduceLeDiff, Nat.reduceBEq, Int.reduceEq, Int.reduceLT, Int.reduceLE, Int.reduceAdd, Int.reduceSub, Int.reduceNeg, Int.reduceToNat]
    refine SemC.lp (α := Nat) (fun w => [(0, .slc 1 (l.map fun n => [vi n])), (4, vi w)]) (fun _ => ⟨[], 0⟩)
      (fun w => w ≤ 2 ∧ (w < 2 → 2 ∉ l) ∧ (w < 1 → 1 ∉ l)) (fun w => w) 2 ⟨by omega, fun h => by omega, fun h => by omega⟩ (St.mk (by simp [Agrees, upd_at, ev_cons])) fun w hw => ?_
    obtain ⟨w1, w2, w3⟩ := hw
    by_cases hw0 : w = 0
    · subst hw0
      have a2 := w2 (by omega)
      have a1 := w3 (by omega)
      have e : joinT l = 0 := by
        have : ¬ 1 ≤ joinT l := fun h => by rcases k4.1 h with h | h; exact a1 h; exact a2 h
        omega
      rw [e]
      simp only [show ¬ (0 : Int) < ((0 : Nat) : Int) by omega, go_sem, wpR_gcall, reduceCtorEq, reduceIte, Nat.reduceEqDiff, Nat.reduceAdd, Nat.reduceSub, Nat.reduceMul, Nat.reduceLT, Nat.reduceLeDiff, Nat.reduceBEq, Int.reduceEq, Int.reduceLT, Int.reduceLE, Int.reduceAdd, Int.reduceSub, Int.reduceNeg, Int.reduceToNat]
    · have e0 : (0 : Int) < (w : Int) := by omega
      simp only [e0, go_sem, wpR_gcall, reduceCtorEq, reduceIte, Nat.reduceEqDiff, Nat.reduceAdd, Nat.reduceSub, Nat.reduceMul, Nat.reduceLT, Nat.reduceLeDiff, Nat.reduceBEq, Int.reduceEq, Int.reduceLT, Int.reduceLE, Int.reduceAdd, Int.reduceSub, Int.reduceNeg, Int.reduceToNat]
      refine SemC.lp (α := Nat) (fun k => [(0, .slc 1 (l.map fun n => [vi n])), (4, vi w), (5, vi k)]) (fun _ => ⟨[], 0⟩)
        (fun k => k ≤ l.length ∧ ∀ j, j < k → l.getD j 0 ≠ w) (fun k => l.length - k) 0 ⟨Nat.zero_le _, fun j h => by omega⟩ (St.mk (by simp [Agrees, upd_at, ev_cons])) fun k hk => ?_
      obtain ⟨q1, q2⟩ := hk
      by_cases hkl : k = l.length
      · subst hkl
        have hnm : (w : Int) ∉ l := fun h => by obtain ⟨j, hj, e⟩ := mem_at h; exact q2 j hj e
        simp only [Int.lt_irrefl, go_sem, wpR_gcall, reduceCtorEq, reduceIte, Nat.reduceEqDiff, Nat.reduceAdd, Nat.reduceSub, Nat.reduceMul, Nat.reduceLT, Nat.reduceLeDiff, Nat.reduceBEq, Int.reduceEq, Int.reduceLT, Int.reduceLE, Int.reduceAdd, Int.reduceSub, Int.reduceNeg, Int.reduceToNat]
        refine ⟨by omega, w - 1, ⟨by omega, fun h => ?_, fun h => ?_⟩, by omega, by omega⟩
        · by_cases e : w = 2
          · subst e; exact hnm
          · exact w2 (by omega)
        · by_cases e : w = 1
          · subst e; exact hnm
          · exact w3 (by omega)
      · have e1 : (k : Int) < (l.length : Int) := by omega
        simp only [e1, go_sem, wpR_gcall, reduceCtorEq, reduceIte, Nat.reduceEqDiff, Nat.reduceAdd, Nat.reduceSub, Nat.reduceMul, Nat.reduceLT, Nat.reduceLeDiff, Nat.reduceBEq, Int.reduceEq, Int.reduceLT, Int.reduceLE, Int.reduceAdd, Int.reduceSub, Int.reduceNeg, Int.reduceToNat]
        refine ⟨by omega, fun h => ?_, fun h => ⟨by omega, k + 1, ⟨by omega, fun j hj => ?_⟩, by omega, by omega⟩⟩
        · have hm : (w : Int) ∈ l := by rw [← h]; exact at_mem (by omega)
          by_cases e : w = 2
          · subst e; exact (k3.2 hm).symm
          · have e1 : w = 1 := by omega
            subst e1
            have n2 := w2 (by omega)
            have : ¬ joinT l = 2 := fun h => n2 (k3.1 h)
            have := k4.2 (.inl hm)
            omega
        · by_cases e : j = k
          · subst e; exact h
          · exact q2 j (by omega)
  · obtain ⟨i, rfl⟩ : ∃ i, m = i + 1 := ⟨m - 1, by omega⟩
    have e1 : ((i + 1 : Nat) : Int) - 1 = i := by omega
    have e2 : (0 : Int) ≤ (i : Int) := by omega
    have e3 : (i : Int) < (l.length : Int) := by omega
    simp only [e1, e2, e3, go_sem, wpR_gcall, reduceCtorEq, reduceIte, Nat.reduceEqDiff, Nat.reduceAdd, Nat.reduceSub, Nat.reduceMul, Nat.reduceLT, Nat.reduceLeDiff, Nat.reduceBEq, Int.reduceEq, Int.reduceLT, Int.reduceLE, Int.reduceAdd, Int.reduceSub, Int.reduceNeg, Int.reduceToNat]
    refine ⟨by omega, fun h => (join_hi h1 h fun j hj => h2 j (by omega)).symm, fun h => ⟨by omega, i, ⟨by omega, fun j hj hjl => ?_⟩, by omega, rfl⟩⟩
    by_cases e : j = i
    · subst e; exact h
    · exact h2 j (by omega) hjl
def sumJoinR : Sum Try.prog := ⟨52, fun args => args = [ints (dInts (args.getD 0 .any))] ∧ ((dInts (args.getD 0 .any))).length ≤ 1000000, fun args => vi (joinT (dInts (args.getD 0 .any))), fun args h => by
  have := joinR_ok (dInts (args.getD 0 .any)) h.2; rwa [← h.1] at this, true⟩
theorem sumJoinR_f : sumJoinR.f = 52 := rfl
theorem sumJoinR_D (args : List V) : sumJoinR.D args = (args = [ints (dInts (args.getD 0 .any))] ∧ ((dInts (args.getD 0 .any))).length ≤ 1000000) := rfl
theorem sumJoinR_flat : sumJoinR.flat = true := rfl
theorem sumJoinR_r (args : List V) : sumJoinR.r args = vi (joinT (dInts (args.getD 0 .any))) := rfl
end Go.Proofs.Ytdcdhnohbadenaa
