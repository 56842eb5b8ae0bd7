/- Layer 10: which node compounds are about, upwards. -/
import Derived.Test.YtlcblcjpebabkaaM10c
namespace Go.Proofs.Ytlcblcjpebabkaa
open Go.Sx
set_option linter.unusedSimpArgs false
set_option maxHeartbeats 4000000
set_option maxRecDepth 20000

def docP (l : List Node) : Prop := l.length ≤ 1000 ∧ ∀ k, k < l.length → okN (l.getD k .zero) ∧ -1 ≤ par l k ∧ par l k < k
def goU (l : List Node) (p : Nat → Bool) (child : Bool) : Nat → Int → Bool
  | 0, _ => false
  | f + 1, a => if a < 0 then false else if p a.toNat = true then true else if child = true then false else goU l p child f (par l a.toNat)
def upN (l : List Node) (s : Sel) : Nat → Nat → Bool
  | 0, k => oneB (l.getD k .zero) (s.getD 0 default)
  | m + 1, k => oneB (l.getD k .zero) (s.getD (m + 1) default) && goU l (upN l s m) (decide ((s.getD (m + 1) default).link = 2)) (k + 1) (par l k)
theorem take_len (s : Sel) {m : Nat} (h : m < s.length) : (s.take (m + 1)).length = m + 1 := by rw [List.length_take]; omega
theorem take_last (s : Sel) {m : Nat} : (s.take (m + 1)).getD m default = s.getD m default := by
  rw [List.getD_eq_getElem?_getD, List.getElem?_take, if_pos (by omega), ← List.getD_eq_getElem?_getD]
end Go.Proofs.Ytlcblcjpebabkaa
