/- Layer 8: which selectors are the same. -/
import Derived.Test.YtlcblcjpebabkaaC8a
namespace Go.Proofs.Ytlcblcjpebabkaa
open Go.Sx
set_option linter.unusedSimpArgs false
set_option maxHeartbeats 4000000
set_option maxRecDepth 20000

deriving instance DecidableEq for Smp
deriving instance DecidableEq for Cmp
theorem smp_eq (x y : Smp) : x = y ↔ x.kind = y.kind ∧ x.text = y.text ∧ x.val = y.val := by
  obtain ⟨a, b, c⟩ := x; obtain ⟨a', b', c'⟩ := y; simp
theorem cmp_eq (x y : Cmp) : x = y ↔ x.link = y.link ∧ x.l = y.l := by
  obtain ⟨a, b⟩ := x; obtain ⟨a', b'⟩ := y; simp
theorem drop_g {α : Type} (l : List α) (n : Nat) (d : α) (h : n < l.length) : l.drop n = l.getD n d :: l.drop (n + 1) := by
  rw [List.drop_eq_getElem_cons h, List.getD_eq_getElem?_getD, List.getElem?_eq_getElem h]; rfl
structure EqS where
  n : Nat
  clk : Nat
end Go.Proofs.Ytlcblcjpebabkaa
