/- Flows: right, by the document. -/
import Derived.Test.YteifbbinfipdlaaN13a
namespace Go.Proofs.Yteifbbinfipdlaa
open Go.Sx
set_option linter.unusedSimpArgs false
set_option maxHeartbeats 4000000
set_option maxRecDepth 20000

theorem rightR_ok (d : Doc) (hl : d.l.length ≤ 1000) : PCall Try.prog 12 [.agg d.enc] (vb (rightB d)) := by
  refine PCall.of (Orc.cons sumChkR (Orc.nil _)) c12_ok (by simp [c12]) fun w0 own0 => ?_
  by_cases hD : docB d.l = true
  · have e0 : (if 0 ≤ badR d.l ∨ d.l.length = 0 then (5 : Int) else 0) = 0 := by
      unfold docB at hD; rw [decide_eq_true_eq] at hD; rw [if_neg]; omega
    by_cases hL : lens d
    · have hr : rightB d = decide (d.run.getD 0 false = false ∧ ∀ k, k < d.l.length → ¬ badK d k) := by
        unfold rightB; rw [hD, Bool.true_and]; simp only [hL, true_and]
      have hlp : 0 < d.l.length := by unfold docB at hD; rw [decide_eq_true_eq] at hD; omega
      obtain ⟨l1, l2, l3, l4⟩ := hL
      simp only [c12, Doc.enc, nodes, dNodes_map, chkOf, e0, l1, l2, l3, l4, go_sem, wpR_gcall, reduceCtorEq, reduceIte, Nat.reduceEqDiff, Nat.reduceAdd, Nat.reduceSub, Nat.reduceMul, Nat.reduceLT, Nat.reduceLeDiff, Nat.reduceBEq, Int.reduceEq, Int.reduceLT, Int.reduceLE, Int.reduceAdd, Int.reduceSub, Int.reduceNeg, Int.reduceToNat]
      refine ⟨hl, ?_⟩
      refine SemC.lp (α := Nat) (fun k => [(1, .ptr 0 0 0 0), (3, vi d.l.length), (6, vi k)]) (fun a => ⟨[⟨0, 5, [d.enc], false, []⟩], 1⟩)
        (fun k => k ≤ d.l.length ∧ (0 < k → d.run.getD 0 false = false) ∧ ∀ i, i < k → ¬ badK d i) (fun k => d.l.length - k) 0 ⟨Nat.zero_le _, fun h => by omega, fun i hi => by simp at hi⟩ (St.mk (by simp [Agrees, upd_at, initE_at, Doc.enc])) fun k ha => ?_
      obtain ⟨h1, h0, h2⟩ := ha
      by_cases hkl : k = d.l.length
      · have hr' : rightB d = true := by
          rw [hr, decide_eq_true_eq]; exact ⟨h0 (by omega), fun i hi => h2 i (by omega)⟩
        simp only [hkl, Int.lt_irrefl, hr', go_sem, wpR_gcall, reduceCtorEq, reduceIte, Nat.reduceEqDiff, Nat.reduceAdd, Nat.reduceSub, Nat.reduceMul, Nat.reduceLT, Nat.reduceLeDiff, Nat.reduceBEq, Int.reduceEq, Int.reduceLT, Int.reduceLE, Int.reduceAdd, Int.reduceSub, Int.reduceNeg, Int.reduceToNat]
      · have e1 : (k : Int) < (d.l.length : Int) := by omega
        simp only [Doc.enc, e1, nodeAt, l1, l2, l3, l4, getD_bools, getD_strs, go_sem, wpR_gcall, reduceCtorEq, reduceIte, Nat.reduceEqDiff, Nat.reduceAdd, Nat.reduceSub, Nat.reduceMul, Nat.reduceLT, Nat.reduceLeDiff, Nat.reduceBEq, Int.reduceEq, Int.reduceLT, Int.reduceLE, Int.reduceAdd, Int.reduceSub, Int.reduceNeg, Int.reduceToNat]
        have hb : badK d k ↔ (¬(0 ≤ d.bef.getD k 0 ∧ d.bef.getD k 0 ≤ 4) ∨ ¬(0 ≤ d.aft.getD k 0 ∧ d.aft.getD k 0 ≤ 4)) ∨ (d.l.getD k Node.zero).type = { data := #[] } ∧ (((d.run.getD k false = true ∨ ¬d.bef.getD k 0 = 0) ∨ ¬d.aft.getD k 0 = 0) ∨ ¬d.page.getD k { data := #[] } = { data := #[] }) := by
          unfold badK; simp only [ne_eq, or_assoc]
        have hk0 : d.run.getD k false = true → k = 0 → d.run.getD 0 false = true := fun h e => by subst e; exact h
        have hkf : d.run.getD k false = false → k = 0 → d.run.getD 0 false = false := fun h e => by subst e; exact h
        generalize d.bef.getD k 0 = B at *
        generalize d.aft.getD k 0 = A at *
        generalize d.run.getD k false = R at *
        generalize d.page.getD k { data := #[] } = G at *
        generalize (d.l.getD k Node.zero).type = T at *
        have hn : ∀ x, badK d x → x < d.l.length → false = rightB d := fun x hx hxl => by
          rw [hr, eq_comm, decide_eq_false_iff_not]; exact fun hh => hh.2 x hxl hx
        refine ⟨by omega, fun h => ⟨h, by omega⟩, by omega, fun h => ⟨h, by omega⟩, by omega, fun h => ⟨h, by omega⟩, by omega, fun h => ⟨h, by omega⟩, fun h => ⟨h, ?_⟩, by omega, fun h => ?_, fun h => ⟨by omega, fun hT => ⟨hT, by omega⟩, fun hT => ⟨hT, by omega⟩, fun hT => ⟨hT, by cases R <;> simp [hT]⟩, fun hT => ⟨hT, by omega⟩, fun hT => ⟨hT, by cases R <;> simp [hT] <;> omega⟩, fun hT => ⟨hT, by omega⟩, fun hT => ⟨hT, by cases R <;> simp [hT] <;> omega⟩, fun hT => ?_, fun hT => ⟨by omega, k + 1, ⟨by omega, fun _ => ?_, fun i hi => ?_⟩, by omega, by omega⟩⟩⟩
        · by_cases e : (k : Int) = 0
          · simp only [e, decide_true, cond_true, Bool.and_true, Bool.not_eq_true', Bool.or_eq_false_iff, decide_eq_false_iff_not]; exact h
          · simp only [e, decide_false, cond_false]
        · rcases h with h | ⟨h, h'⟩
          · exact hn k (hb.2 (.inl (by omega))) (by omega)
          · have := hk0 h' (by omega)
            rw [hr, eq_comm, decide_eq_false_iff_not]; exact fun hh => by rw [this] at hh; cases hh.1
        · refine hn k (hb.2 (.inr ⟨hT.1, ?_⟩)) (by omega)
          rcases hT.2 with ((h' | h') | h') | h'
          · exact .inl (.inl (.inl h'))
          · exact .inl (.inl (.inr (by omega)))
          · exact .inl (.inr (by omega))
          · exact .inr h'
        · by_cases e : k = 0
          · rcases h.2 with h' | h'
            · omega
            · exact hkf h' e
          · exact h0 (by omega)
        · by_cases e : i = k
          · subst e; rw [hb]; rintro (hh | hh)
            · omega
            · rcases hT with h' | h'
              · exact h' hh.1
              · rcases hh.2 with ((hh | hh) | hh) | hh
                · rw [h'.1.1.1] at hh; cases hh
                · omega
                · omega
                · exact hh h'.2
          · exact h2 i (by omega)
    · have hr : rightB d = false := by
        unfold rightB; rw [hD, Bool.true_and, decide_eq_false_iff_not]; exact fun h => hL h.1
      unfold lens at hL
      simp only [c12, Doc.enc, nodes, dNodes_map, chkOf, e0, hr, go_sem, wpR_gcall, reduceCtorEq, reduceIte, Nat.reduceEqDiff, Nat.reduceAdd, Nat.reduceSub, Nat.reduceMul, Nat.reduceLT, Nat.reduceLeDiff, Nat.reduceBEq, Int.reduceEq, Int.reduceLT, Int.reduceLE, Int.reduceAdd, Int.reduceSub, Int.reduceNeg, Int.reduceToNat]
      exact ⟨hl, by omega, by omega, by omega, fun h => by exfalso; omega⟩
  · have e0 : (if 0 ≤ badR d.l ∨ d.l.length = 0 then (5 : Int) else 0) = 5 := by
      unfold docB at hD; rw [decide_eq_true_eq] at hD; rw [if_pos]; omega
    have hr : rightB d = false := by
      unfold rightB; simp only [hD, Bool.false_and]
    simp only [c12, Doc.enc, nodes, dNodes_map, chkOf, e0, hr, go_sem, wpR_gcall, reduceCtorEq, reduceIte, Nat.reduceEqDiff, Nat.reduceAdd, Nat.reduceSub, Nat.reduceMul, Nat.reduceLT, Nat.reduceLeDiff, Nat.reduceBEq, Int.reduceEq, Int.reduceLT, Int.reduceLE, Int.reduceAdd, Int.reduceSub, Int.reduceNeg, Int.reduceToNat]
    exact hl
def sumRightR : Sum Try.prog := ⟨12, fun args => args = [.agg (Doc.enc (dDoc (args.getD 0 .any)))] ∧ ((dDoc (args.getD 0 .any))).l.length ≤ 1000, fun args => vb (rightB (dDoc (args.getD 0 .any))), fun args h => by
  have := rightR_ok (dDoc (args.getD 0 .any)) h.2; rwa [← h.1] at this, true⟩
theorem sumRightR_f : sumRightR.f = 12 := rfl
theorem sumRightR_D (args : List V) : sumRightR.D args = (args = [.agg (Doc.enc (dDoc (args.getD 0 .any)))] ∧ ((dDoc (args.getD 0 .any))).l.length ≤ 1000) := rfl
theorem sumRightR_flat : sumRightR.flat = true := rfl
theorem sumRightR_r (args : List V) : sumRightR.r args = vb (rightB (dDoc (args.getD 0 .any))) := rfl
attribute [go_sem] sumRightR_f sumRightR_D sumRightR_flat sumRightR_r
end Go.Proofs.Yteifbbinfipdlaa
