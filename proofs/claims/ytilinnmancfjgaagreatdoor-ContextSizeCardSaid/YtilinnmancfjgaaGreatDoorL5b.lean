/- Layer 5: few tokens; the same numbers. -/
import Derived.Test.YtilinnmancfjgaaGreatDoorL5a
namespace Go.Proofs.YtilinnmancfjgaaGreatDoor
open Go.Sx
set_option linter.unusedSimpArgs false
set_option maxHeartbeats 4000000

def few (l : List Tok) : Bool := decide (l.length ≤ 100 ∧ ∀ i, i < l.length → (l.getD i .zero).text.size ≤ 100)
theorem few_ok (l : List Tok) : PCall Tryz.prog 4 [toks l] (vb (few l)) := by
  refine PCall.of (Orc.nil _) c4_ok (by simp [c4]) fun w0 own0 => ?_
  simp only [c4, toks, go_sem, wpR_gcall, reduceCtorEq, reduceIte, Nat.reduceEqDiff, Nat.reduceAdd, Nat.reduceSub, Nat.reduceMul, Nat.reduceLT, Nat.reduceLeDiff, Nat.reduceBEq, Int.reduceEq, Int.reduceLT, Int.reduceLE, Int.reduceAdd, Int.reduceSub, Int.reduceNeg, Int.reduceToNat]
  refine SemC.lp (α := Nat) (fun k => [(0, .slc 3 (l.map Tok.enc)), (3, vi k)]) (fun _ => ⟨[], 0⟩) (fun k => k ≤ l.length ∧ k ≤ 101 ∧ ∀ i, i < k → (l.getD i .zero).text.size ≤ 100) (fun k => l.length - k) 0 (by simp) (St.mk (by simp [Agrees, upd_at, initE_at])) fun k hk => ?_
  simp only [Tok.enc, go_sem, wpR_gcall, reduceCtorEq, reduceIte, Nat.reduceEqDiff, Nat.reduceAdd, Nat.reduceSub, Nat.reduceMul, Nat.reduceLT, Nat.reduceLeDiff, Nat.reduceBEq, Int.reduceEq, Int.reduceLT, Int.reduceLE, Int.reduceAdd, Int.reduceSub, Int.reduceNeg, Int.reduceToNat]
  refine ⟨fun h => ⟨by grind, fun h2 => ?_, fun h2 => ⟨by grind, k + 1, by grind⟩⟩, fun h => ?_⟩
  · have h5 : ¬ ∀ i, i < l.length → (l.getD i .zero).text.size ≤ 100 := fun hh => by have := hh k (by grind); omega
    simp only [few, h5, and_false, decide_false]
  · unfold few
    grind

/-- Which openings are open ahead of a token. -/
def stepO (l : List Tok) (st : List Int) (k : Nat) : List Int :=
  if ¬ closing (l.getD k .zero) = ⟨#[]⟩ then st ++ [(k : Int)]
  else if (l.getD k .zero).kind = 13 ∧ 0 < st.length ∧ closing (l.getD (st.getD (st.length - 1) 0).toNat .zero) = (l.getD k .zero).text then st.take (st.length - 1) else st
def opn (l : List Tok) : Nat → List Int
  | 0 => []
  | k + 1 => stepO l (opn l k) k
theorem opn_mem (l : List Tok) : ∀ k, ∀ x ∈ opn l k, 0 ≤ x ∧ x < k
  | 0, x, hx => by simp [opn] at hx
  | k + 1, x, hx => by
    have ih := opn_mem l k x
    simp only [opn, stepO] at hx
    split at hx
    · simp only [List.mem_append, List.mem_singleton] at hx; grind
    · split at hx
      · have := ih (List.mem_of_mem_take hx); omega
      · have := ih hx; omega
theorem opn_len (l : List Tok) : ∀ k, (opn l k).length ≤ k
  | 0 => Nat.le_refl _
  | k + 1 => by
    have ih := opn_len l k
    simp only [opn, stepO]
    split
    · simp; omega
    · split
      · simp; omega
      · omega
structure OpS where
  k : Nat
  es : List Int
  ver : Nat
  clk : Nat
end Go.Proofs.YtilinnmancfjgaaGreatDoor
