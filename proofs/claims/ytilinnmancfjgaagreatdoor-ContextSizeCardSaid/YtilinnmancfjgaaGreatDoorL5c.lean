/- Layer 5: the ends of brackets, by definition. -/
import Derived.Test.YtilinnmancfjgaaGreatDoorL5b
namespace Go.Proofs.YtilinnmancfjgaaGreatDoor
open Go.Sx
set_option linter.unusedSimpArgs false
set_option maxHeartbeats 4000000

/-- At j the k-th bracket is no longer open. -/
def condC (l : List Tok) (k j : Nat) : Prop := (opn l (j + 1)).length < (opn l (k + 1)).length ∨ ¬ (opn l (j + 1)).getD ((opn l (k + 1)).length - 1) 0 = k
instance (l : List Tok) (k j : Nat) : Decidable (condC l k j) := by unfold condC; infer_instance
def fe (l : List Tok) (k : Nat) : Nat → Nat → Int
  | 0, _ => l.length
  | f + 1, j => if condC l k j then j else fe l k f (j + 1)
def end1 (l : List Tok) (k : Nat) : Int := if closing (l.getD k .zero) = ⟨#[]⟩ then -1 else fe l k (l.length - (k + 1)) (k + 1)
def endsTo (l : List Tok) (m : Nat) : List Int := (List.range m).map (end1 l)
theorem endsTo_len (l : List Tok) (m : Nat) : (endsTo l m).length = m := by simp [endsTo]
def deep (l : List Tok) : Bool := decide (∃ i, i < l.length ∧ 64 < (opn l (i + 1)).length)
def endsR (l : List Tok) : V := bif deep l then .tup [vnil, vi 3] else .tup [ints (endsTo l l.length), vi 0]

theorem fe_step (l : List Tok) (k j : Nat) (h : j < l.length) : fe l k (l.length - j) j = if condC l k j then (j : Int) else fe l k (l.length - (j + 1)) (j + 1) := by
  have : l.length - j = (l.length - (j + 1)) + 1 := by omega
  rw [this]
  rfl
theorem toNat_succ (k : Nat) : ((k : Int) + 1).toNat = k + 1 := by omega

structure KVC where
  k : Nat
  ver : Nat
  clk : Nat
end Go.Proofs.YtilinnmancfjgaaGreatDoor
