/- Layer 7, without the program: parts of values, walked. -/
import Derived.Test.YtjofgafeaiiegaaV7b
import Derived.Test.YtjofgafeaiiegaaWk
namespace Go.Proofs.Ytjofgafeaiiegaa
open Go.Sx
set_option linter.unusedSimpArgs false
set_option maxHeartbeats 4000000
set_option maxRecDepth 20000

def wk (l : List Tok) : Nat → Nat → Option (List Pa)
  | 0, _ => some []
  | f + 1, k => if k < l.length then (if (endsA l).getD k 0 = l.length then none else (wk l f (skip (endsA l) k).toNat).map fun ps => if (l.getD k .zero).kind = 1 then ps else toPa (pAt l k) :: ps) else some []
theorem pl_false {l : List Tok} (h : ptB l = false) : pl l = [] := by
  unfold pl ptL
  unfold ptB at h
  cases hO : ptO l with
  | none => rfl
  | some ps => rw [hO] at h; cases h
/-! ### Spaces between -/
def spT : Tok := ⟨1, ⟨#[]⟩, 0⟩
def core (l : List Tok) : List Tok := l.flatMap fun t => [spT, t]
def spread (l : List Tok) : List Tok := core l ++ [spT]
def PaR (p q : Pa) : Prop := q.t = p.t ∧ (q.al = spread p.al ∨ (p.al = [] ∧ q.al = []))
def RelO : Option (List Pa) → Option (List Pa) → Prop
  | none, none => True
  | some ps, some qs => F2 PaR ps qs
  | _, _ => False
theorem RelO.map {x y : Option (List Pa)} (h : RelO x y) (f g : List Pa → List Pa) (hf : ∀ ps qs, F2 PaR ps qs → F2 PaR (f ps) (g qs)) : RelO (x.map f) (y.map g) := by
  cases x <;> cases y <;> first | exact h | exact hf _ _ h
/-! ### One behind the other -/
end Go.Proofs.Ytjofgafeaiiegaa
