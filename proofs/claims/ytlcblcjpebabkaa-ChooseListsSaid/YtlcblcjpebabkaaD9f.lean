/- Layer 9: what is in a node, its children, its text. -/
import Derived.Test.YtlcblcjpebabkaaD9e
namespace Go.Proofs.Ytlcblcjpebabkaa
open Go.Sx
set_option linter.unusedSimpArgs false
set_option maxHeartbeats 4000000
set_option maxRecDepth 20000

def isB (l : List Node) (k : Int) : Bool := docB l && decide (0 ≤ k ∧ k < l.length)
theorem isB_iff (l : List Node) (k : Int) : isB l k = true ↔ isDoc l ∧ 0 ≤ k ∧ k < l.length := by
  unfold isB; rw [Bool.and_eq_true, docB_iff, decide_eq_true_eq]
def endV (l : List Node) (k : Int) : Int := if isB l k = true then endN l k.toNat else -1
def kidB (l : List Node) (k : Nat) (all : Bool) (n : Nat) : Bool := decide (par l n = k ∧ (all = true ∨ ¬ (l.getD n .zero).type = ⟨#[]⟩))
def kidsTo (l : List Node) (k : Nat) (all : Bool) : Nat → List Int
  | 0 => []
  | n + 1 => if kidB l k all n = true then kidsTo l k all n ++ [(n : Int)] else kidsTo l k all n
theorem kids_skip (l : List Node) (k : Nat) (all : Bool) (a : Nat) : ∀ d, (∀ i, a ≤ i → i < a + d → par l i ≠ k) → kidsTo l k all (a + d) = kidsTo l k all a
  | 0, _ => rfl
  | d + 1, h => by
    have ih := kids_skip l k all a d (fun i h1 h2 => h i h1 (by omega))
    rw [← Nat.add_assoc, kidsTo, if_neg, ih]
    simp only [kidB, decide_eq_true_eq]
    exact fun hh => h (a + d) (by omega) (by omega) hh.1
theorem kids_skip' (l : List Node) (k : Nat) (all : Bool) (a b : Nat) (h : a ≤ b) (hn : ∀ i, a ≤ i → i < b → par l i ≠ k) : kidsTo l k all b = kidsTo l k all a := by
  obtain ⟨d, rfl⟩ : ∃ d, b = a + d := ⟨b - a, by omega⟩
  exact kids_skip l k all a d hn
theorem kids_first (l : List Node) (hd : stood l l.length) (k : Nat) (hk : k < l.length) (all : Bool) : kidsTo l k all (k + 1) = [] := by
  rw [kids_skip' l k all 0 (k + 1) (by omega)]
  · rfl
  · intro i _ h2 h3
    have := stood_par hd i (by omega)
    omega
theorem kids_last (l : List Node) (hd : stood l l.length) (k : Nat) (hk : k < l.length) (all : Bool) : kidsTo l k all l.length = kidsTo l k all (endN l k) := by
  have hs := endN_spec l k hk
  exact kids_skip' l k all _ _ hs.2.2.1 fun i h1 h2 => no_child l hd k hk i h1 h2
theorem kids_next (l : List Node) (k c : Nat) (hc : c < l.length) (hk : k < c) (all : Bool) : kidsTo l k all (endN l c) = kidsTo l k all (c + 1) := by
  have hs := endN_spec l c hc
  refine kids_skip' l k all _ _ (by omega) fun i h1 h2 h3 => ?_
  have := hs.2.2.2.1 i (by omega) h2
  omega
theorem kids_len (l : List Node) (k : Nat) (all : Bool) : ∀ n, (kidsTo l k all n).length ≤ n
  | 0 => Nat.le_refl _
  | n + 1 => by
    have := kids_len l k all n
    simp only [kidsTo]
    split
    · simp; omega
    · omega
structure KiS where
  n : Nat
  ver : Nat
  clk : Nat

def fewN (n : Node) : Bool := decide (n.type.size ≤ 50 ∧ n.id.size ≤ 50 ∧ n.text.size ≤ 50 ∧ n.cls.length ≤ 5 ∧ n.attrs.length ≤ 5 ∧ (∀ j, j < n.cls.length → (n.cls.getD j ⟨#[]⟩).size ≤ 50) ∧ ∀ j, j < n.attrs.length → (n.attrs.getD j (⟨#[]⟩, ⟨#[]⟩)).1.size ≤ 50 ∧ (n.attrs.getD j (⟨#[]⟩, ⟨#[]⟩)).2.size ≤ 50)
def few9 (l : List Node) : Bool := decide (l.length ≤ 60 ∧ ∀ i, i < l.length → fewN (l.getD i .zero) = true)
theorem few9_not {l : List Node} {i : Nat} (hi : i < l.length) (h : ¬ fewN (l.getD i .zero) = true) : false = few9 l := by
  unfold few9
  symm
  rw [decide_eq_false_iff_not]
  exact fun hh => h (hh.2 i hi)
structure FwS where
  i : Nat
  clk : Nat
section
variable {cx : Cx} {rest : C} {Q : Post} {e : Nat → V} {h : Heap}
theorem on_gcall (d : Option Nat) (t : Nat) (want : Bool) (f : FuncId) (xs : List X) (r : List AOp) (h1 : enB (e t) want = true) (h2 : (asB (e t).un).2 = true) (h3 : cx.T.flat f = false) :
    wpR cx (⟨d, some (t, want), none, .call f xs⟩ :: r) rest Q e h = (goks e xs = true ∧ cx.T.pre f (xs.map (uval e)) h ∧ wpR cx r rest Q (putE e d (cx.T.v f (xs.map (uval e)) h)) (cx.T.hp f (xs.map (uval e)) h)) := by
  rw [wpR_gcall]
  simp only [h1, h2, h3, Bool.false_eq_true, if_false, forall_const, implies_true, true_and, reduceCtorEq, false_implies, and_true, Bool.true_eq_false]
theorem off_gcall (d : Option Nat) (t : Nat) (want : Bool) (f : FuncId) (xs : List X) (r : List AOp) (h1 : enB (e t) want = false) (h2 : (e t).gok = true → (asB (e t).un).2 = true) (h3 : cx.T.flat f = false) :
    wpR cx (⟨d, some (t, want), none, .call f xs⟩ :: r) rest Q e h = wpR cx r rest Q (putE e d (.c undef)) h := by
  rw [wpR_gcall]
  simp only [h1, h3, Bool.false_eq_true, if_false, false_implies, true_and, forall_const]
  exact propext ⟨fun k => k.2, fun k => ⟨h2, k⟩⟩
theorem flat_gcall (d : Option Nat) (t : Nat) (want : Bool) (f : FuncId) (xs : List X) (r : List AOp) (h3 : cx.T.flat f = true) :
    wpR cx (⟨d, some (t, want), none, .call f xs⟩ :: r) rest Q e h = (((e t).gok = true → (asB (e t).un).2 = true) ∧ (enB (e t) want = true → goks e xs = true ∧ cx.T.qpre f (xs.map (uval e)) h) ∧ wpR cx r rest Q (putE e d (.gd (enB (e t) want) (.c (cx.T.qv f (xs.map (uval e)) h)))) h) := by
  rw [wpR_gcall]
  simp only [h3, if_true]
end
end Go.Proofs.Ytlcblcjpebabkaa
