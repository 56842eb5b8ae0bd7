/- Layer 10, by the document: which nodes a selector is about. -/
import Derived.Test.YtlcblcjpebabkaaM10l
namespace Go.Proofs.Ytlcblcjpebabkaa
open Go.Sx
set_option linter.unusedSimpArgs false
set_option maxHeartbeats 4000000
set_option maxRecDepth 20000

theorem goU_congr {l : List Node} (hd : docP l) {p q : Nat → Bool} (h : ∀ j, j < l.length → p j = q j) (c : Bool) : ∀ (f : Nat) (a : Int), a < l.length → goU l p c f a = goU l q c f a
  | 0, _, _ => rfl
  | f + 1, a, ha => by
    unfold goU
    by_cases h0 : a < 0
    · rw [if_pos h0, if_pos h0]
    · have hj : a.toNat < l.length := by omega
      obtain ⟨_, b1, b2⟩ := hd.2 a.toNat hj
      rw [if_neg h0, if_neg h0, h _ hj, goU_congr hd h c f (par l a.toNat) (by omega)]
def rowU (l : List Node) (s : Sel) (i : Nat) : List Bool := (List.range l.length).map (upN l s i)
theorem rowU_len (l : List Node) (s : Sel) (i : Nat) : (rowU l s i).length = l.length := by simp [rowU]
theorem rowU_get (l : List Node) (s : Sel) (i k : Nat) (h : k < l.length) : (rowU l s i).getD k false = upN l s i k := by
  simp [rowU, List.getD_eq_getElem?_getD, h]
theorem rowU_take (l : List Node) (s : Sel) (i k : Nat) (h : k < l.length) : (rowU l s i).take (k + 1) = (rowU l s i).take k ++ [upN l s i k] := by
  rw [List.take_add_one, ← rowU_get l s i k h, List.getD_eq_getElem?_getD, List.getElem?_eq_getElem (by rw [rowU_len]; exact h)]; rfl
theorem upN_row {l : List Node} (hd : docP l) (s : Sel) (i k : Nat) (hk : k < l.length) : upN l s (i + 1) k = (goU l (fun j => (rowU l s i).getD j false) (decide ((s.getD (i + 1) default).link = 2)) (k + 1) (par l k) && oneB (l.getD k .zero) (s.getD (i + 1) default)) := by
  obtain ⟨_, b1, b2⟩ := hd.2 k hk
  rw [goU_congr hd (q := upN l s i) (fun j hj => rowU_get l s i j hj) _ (k + 1) (par l k) (by omega), Bool.and_comm]
  rfl
theorem pick_or (x c y : Bool) : (if x = true then true else if c = true then false else y) = (x || (bif c then false else y)) := by cases x <;> cases c <;> rfl
structure UpS where
  b : Bool
  a : Int
theorem mapO_bools11 (S : Nat → Bool) (h : Heap) : ∀ l : List Bool, mapO (mapO (res S h 11)) (l.map fun b => [vb b]) = some (l.map fun b => [vb b])
  | [] => rfl
  | s :: l => by simp only [List.map_cons, mapO, mapO_bools11 S h l]; rfl
end Go.Proofs.Ytlcblcjpebabkaa
