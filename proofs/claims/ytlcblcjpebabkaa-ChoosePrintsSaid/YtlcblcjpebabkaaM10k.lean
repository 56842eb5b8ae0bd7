/- Layer 10: a selector as the document has it. -/
import Derived.Test.YtlcblcjpebabkaaM10j
namespace Go.Proofs.Ytlcblcjpebabkaa
open Go.Sx
set_option linter.unusedSimpArgs false
set_option maxHeartbeats 4000000
set_option maxRecDepth 20000

theorem getD_end {α : Type} (l : List α) (x d : α) : (l ++ [x]).getD l.length d = x := by simp [List.getD_eq_getElem?_getD]
theorem set_end {α : Type} (l : List α) (x y : α) : (l ++ [x]).set l.length y = l ++ [y] := by
  rw [List.set_append_right _ _ (Nat.le_refl _)]; simp
theorem smp_take (l : List Smp) (n : Nat) (h : n < l.length) : l.take (n + 1) = l.take n ++ [l.getD n default] := by
  rw [List.take_add_one, List.getD_eq_getElem?_getD, List.getElem?_eq_getElem h]; rfl
theorem cmp_take (l : List Cmp) (n : Nat) (h : n < l.length) : l.take (n + 1) = l.take n ++ [l.getD n default] := by
  rw [List.take_add_one, List.getD_eq_getElem?_getD, List.getElem?_eq_getElem h]; rfl
theorem mapO_smp10 (S : Nat → Bool) (h : Heap) : ∀ l : List Smp, mapO (mapO (res S h 10)) (l.map Smp.enc) = some (l.map Smp.enc)
  | [] => rfl
  | s :: l => by simp only [List.map_cons, mapO, mapO_smp10 S h l, Smp.enc]; rfl
theorem mapO_cmp10 (S : Nat → Bool) (h : Heap) : ∀ l : List Cmp, mapO (mapO (res S h 10)) (l.map Cmp.enc) = some (l.map Cmp.enc)
  | [] => rfl
  | s :: l => by simp only [List.map_cons, mapO, mapO_cmp10 S h l, Cmp.enc]; rfl
structure GvS where
  n : Nat
  ver : Nat
  clk : Nat
end Go.Proofs.Ytlcblcjpebabkaa
