/- Layer 7: names. -/
import Derived.Test.YtilinnmancfjgaaGreatDoorV7b
namespace Go.Proofs.YtilinnmancfjgaaGreatDoor
open Go.Sx
set_option linter.unusedSimpArgs false
set_option maxHeartbeats 4000000
set_option maxRecDepth 20000

def fst (p : Nat → Bool) : Nat → Nat → Int
  | 0, _ => -1
  | f + 1, k => if p k = true then k else fst p f (k + 1)
theorem fst_spec (p : Nat → Bool) : ∀ (f k : Nat), (fst p f k = -1 ∧ ∀ i, k ≤ i → i < k + f → p i = false) ∨ ∃ m : Nat, fst p f k = m ∧ k ≤ m ∧ m < k + f ∧ p m = true ∧ ∀ i, k ≤ i → i < m → p i = false
  | 0, k => .inl ⟨rfl, fun i h1 h2 => by omega⟩
  | f + 1, k => by
    simp only [fst]
    by_cases h : p k = true
    · rw [if_pos h]; exact .inr ⟨k, rfl, Nat.le_refl _, by omega, h, fun i h1 h2 => by omega⟩
    · rw [if_neg h]
      have h' : p k = false := by simpa using h
      rcases fst_spec p f (k + 1) with ⟨h1, h2⟩ | ⟨m, h1, h2, h3, h4, h5⟩
      · refine .inl ⟨h1, fun i hi1 hi2 => ?_⟩
        by_cases e : i = k
        · subst e; exact h'
        · exact h2 i (by omega) (by omega)
      · refine .inr ⟨m, h1, by omega, by omega, h4, fun i hi1 hi2 => ?_⟩
        by_cases e : i = k
        · subst e; exact h'
        · exact h5 i (by omega) hi2
theorem fst_end (p : Nat → Bool) (n : Nat) : fst p (n - n) n = -1 := by rw [Nat.sub_self]; rfl
theorem fst_step (p : Nat → Bool) (n k : Nat) (h : k < n) : fst p (n - k) k = if p k = true then (k : Int) else fst p (n - (k + 1)) (k + 1) := by
  obtain ⟨f, hf⟩ : ∃ f, n - k = f + 1 := ⟨n - k - 1, by omega⟩
  rw [hf, show n - (k + 1) = f by omega]; rfl
def ixS (l : List ByteArray) (x : ByteArray) : Int := fst (fun i => decide (x = l.getD i ⟨#[]⟩)) (l.length - 0) 0
theorem atR_ok (l : List ByteArray) (x : ByteArray) (hl : l.length ≤ 1000000) : PCall Tryz.prog 35 [strs l, vs x] (vi (ixS l x)) := by
  refine PCall.of (Orc.nil _) c35_ok (by simp [c35]) fun w0 own0 => ?_
  simp only [c35, strs, go_sem, wpR_gcall, reduceCtorEq, reduceIte, Nat.reduceEqDiff, Nat.reduceAdd, Nat.reduceSub, Nat.reduceMul, Nat.reduceLT, Nat.reduceLeDiff, Nat.reduceBEq, Int.reduceEq, Int.reduceLT, Int.reduceLE, Int.reduceAdd, Int.reduceSub, Int.reduceNeg, Int.reduceToNat]
  refine SemC.lp (α := Nat) (fun k => [(0, .slc 1 (l.map fun n => [vs n])), (1, vs x), (5, vi k)]) (fun _ => ⟨[], 0⟩)
    (fun k => k ≤ l.length ∧ fst (fun i => decide (x = l.getD i ⟨#[]⟩)) (l.length - k) k = ixS l x) (fun k => l.length - k) 0 ⟨Nat.zero_le _, rfl⟩ (St.mk (by simp [Agrees, upd_at, initE_at])) fun k hk => ?_
  obtain ⟨h1, h2⟩ := hk
  by_cases hkl : k = l.length
  · subst hkl
    rw [fst_end] at h2
    simp only [Int.lt_irrefl, ← h2, go_sem, wpR_gcall, reduceCtorEq, reduceIte, Nat.reduceEqDiff, Nat.reduceAdd, Nat.reduceSub, Nat.reduceMul, Nat.reduceLT, Nat.reduceLeDiff, Nat.reduceBEq, Int.reduceEq, Int.reduceLT, Int.reduceLE, Int.reduceAdd, Int.reduceSub, Int.reduceNeg, Int.reduceToNat]
  · have e1 : (k : Int) < (l.length : Int) := by omega
    rw [fst_step _ _ _ (by omega)] at h2
    simp only [decide_eq_true_eq] at h2
    simp only [e1, getD_strs, go_sem, wpR_gcall, reduceCtorEq, reduceIte, Nat.reduceEqDiff, Nat.reduceAdd, Nat.reduceSub, Nat.reduceMul, Nat.reduceLT, Nat.reduceLeDiff, Nat.reduceBEq, Int.reduceEq, Int.reduceLT, Int.reduceLE, Int.reduceAdd, Int.reduceSub, Int.reduceNeg, Int.reduceToNat]
    refine ⟨by omega, fun h => by rw [if_pos h.symm] at h2; exact h2, fun h => ⟨by omega, k + 1, ⟨by omega, by rw [if_neg (fun e => h e.symm)] at h2; exact h2⟩, by omega, by omega⟩⟩
def okP7 (p : Pa) : Prop := p.t.text.size ≤ 1000000
end Go.Proofs.YtilinnmancfjgaaGreatDoor
