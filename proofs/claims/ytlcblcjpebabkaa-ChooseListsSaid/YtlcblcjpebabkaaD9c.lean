/- Layer 9: within what a node is; which node may stand; ends. -/
import Derived.Test.YtlcblcjpebabkaaD9b
namespace Go.Proofs.Ytlcblcjpebabkaa
open Go.Sx
set_option linter.unusedSimpArgs false
set_option maxHeartbeats 4000000
set_option maxRecDepth 20000

def par (l : List Node) (k : Nat) : Int := (l.getD k .zero).parent
/-- Gone up from a node, down to another one at most. -/
def clb (l : List Node) (of : Int) : Nat → Int → Int
  | 0, k => k
  | f + 1, k => if of < k ∧ (l.getD k.toNat .zero).parent < k then clb l of f (l.getD k.toNat .zero).parent else k
def inN (l : List Node) (k : Int) (of : Int) : Bool := decide (clb l of k.toNat k = of)
structure InS where
  k : Int
  f : Nat
def endT (l : List Node) (k : Nat) : Int := if fst (fun i => decide (par l i < k)) (l.length - (k + 1)) (k + 1) < 0 then l.length else fst (fun i => decide (par l i < k)) (l.length - (k + 1)) (k + 1)
def mayB (n : Node) : Bool := decide (n.type = ⟨#[]⟩ ∧ (n.id ≠ ⟨#[]⟩ ∨ 0 < n.cls.length ∨ 0 < n.attrs.length))
def mayT (n : Node) (o : List Int) (l : List Node) : Bool := if o = [] then decide (n.parent = -1 ∧ n.type ≠ ⟨#[]⟩) else if mayB n = true then false else decide (n.parent ∈ o ∧ (l.getD n.parent.toNat .zero).type ≠ ⟨#[]⟩)
theorem mayB_iff (n : Node) : (n.type = ⟨#[]⟩ ∧ ((¬ n.id = ⟨#[]⟩ ∨ 0 < (n.cls.length : Int)) ∨ 0 < (n.attrs.length : Int))) ↔ mayB n = true := by
  simp only [mayB, decide_eq_true_eq, ne_eq]
  constructor
  · rintro ⟨h, (h1 | h1) | h1⟩
    · exact ⟨h, .inl h1⟩
    · exact ⟨h, .inr (.inl (by omega))⟩
    · exact ⟨h, .inr (.inr (by omega))⟩
  · rintro ⟨h, h1 | h1 | h1⟩
    · exact ⟨h, .inl (.inl h1)⟩
    · exact ⟨h, .inl (.inr (by omega))⟩
    · exact ⟨h, .inr (by omega)⟩
theorem mayB_not (n : Node) (h : ¬ n.type = ⟨#[]⟩ ∨ (n.id = ⟨#[]⟩ ∧ ¬ 0 < (n.cls.length : Int)) ∧ ¬ 0 < (n.attrs.length : Int)) : ¬ mayB n = true := by
  rw [← mayB_iff]
  rintro ⟨a, (b | b) | b⟩
  · rcases h with h | h
    · exact h a
    · exact b h.1.1
  · rcases h with h | h
    · exact h a
    · exact h.1.2 b
  · rcases h with h | h
    · exact h a
    · exact h.2 b
def endD (l : List Node) (k : Int) : Prop := 0 ≤ k ∧ k < l.length ∧ l.length ≤ 1000000
def mayD (o : List Int) (l : List Node) : Prop := o.length ≤ 1000000 ∧ ∀ x ∈ o, 0 ≤ x ∧ x < l.length
def standR (l : List Node) (k : Nat) : Bool := if k = 0 then decide ((l.getD k .zero).parent = -1 ∧ (l.getD k .zero).type ≠ ⟨#[]⟩) else if mayB (l.getD k .zero) = true then false
  else decide (0 ≤ par l k ∧ par l k < k ∧ inN l (k - 1) (par l k) = true ∧ (l.getD (par l k).toNat .zero).type ≠ ⟨#[]⟩)
/-- The first node that may not stand, by the document. -/
def badR (l : List Node) : Int := fst (fun k => !standR l k) (l.length - 0) 0
def chkOf (l : List Node) (b : Int) : V := .tup [vi (if 0 ≤ b then b else 0), vi (if 0 ≤ b ∨ l.length = 0 then 5 else 0)]
theorem chkOf_ok (l : List Node) (h : ¬ l.length = 0) : V.tup [V.c (Value.int IntKind.i64 0), V.c (Value.int IntKind.i64 0)] = chkOf l (-1) := by
  simp only [chkOf]; rw [if_neg (by omega), if_neg (by omega)]
theorem chkOf_nil (l : List Node) (h : l.length = 0) : V.tup [V.c (Value.int IntKind.i64 0), V.c (Value.int IntKind.i64 5)] = chkOf l (-1) := by
  simp only [chkOf]; rw [if_neg (by omega), if_pos (by omega)]
theorem chkOf_bad (l : List Node) (k : Nat) : V.tup [V.c (Value.int IntKind.i64 k), V.c (Value.int IntKind.i64 5)] = chkOf l k := by
  simp only [chkOf]; rw [if_pos (by omega), if_pos (by omega)]
end Go.Proofs.Ytlcblcjpebabkaa
