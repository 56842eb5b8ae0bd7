/- Layer 9: classes and attributes (as in T9b). -/
import Derived.Test.YtlcblcjpebabkaaM10a
namespace Go.Proofs.Ytlcblcjpebabkaa
open Go.Sx
set_option linter.unusedSimpArgs false
set_option maxHeartbeats 4000000
set_option maxRecDepth 20000

def ixS (l : List ByteArray) (x : ByteArray) : Int := fst (fun i => decide (x = l.getD i ⟨#[]⟩)) (l.length - 0) 0
theorem ixS_mem (l : List ByteArray) (x : ByteArray) : 0 ≤ ixS l x ↔ x ∈ l := by
  unfold ixS
  rcases fst_spec (fun i => decide (x = l.getD i ⟨#[]⟩)) (l.length - 0) 0 with ⟨h1, h2⟩ | ⟨m, h1, h2, h3, h4, h5⟩
  · rw [h1]
    refine ⟨fun h => by omega, fun h => ?_⟩
    obtain ⟨i, hi, rfl⟩ := List.getElem_of_mem h
    have := h2 i (by omega) (by omega)
    simp [List.getD_eq_getElem?_getD, hi] at this
  · rw [h1]
    refine ⟨fun _ => ?_, fun _ => by omega⟩
    simp only [decide_eq_true_eq] at h4
    rw [h4, List.getD_eq_getElem?_getD, List.getElem?_eq_getElem (by omega)]
    exact List.getElem_mem _
def hasS (l : List ByteArray) (x : ByteArray) : Bool := decide (0 ≤ ixS l x)
theorem hasS_iff (l : List ByteArray) (x : ByteArray) : hasS l x = true ↔ x ∈ l := by
  unfold hasS; rw [decide_eq_true_eq]; exact ixS_mem l x
def attrV (name : ByteArray) : List (ByteArray × ByteArray) → ByteArray
  | [] => ⟨#[]⟩
  | p :: r => if p.1 = name then p.2 else attrV name r
theorem attrV_drop (name : ByteArray) (l : List (ByteArray × ByteArray)) (k : Nat) (h : k < l.length) : attrV name (l.drop k) = if (l.getD k (⟨#[]⟩, ⟨#[]⟩)).1 = name then (l.getD k (⟨#[]⟩, ⟨#[]⟩)).2 else attrV name (l.drop (k + 1)) := by
  rw [List.drop_eq_getElem_cons h]
  have e : l.getD k (⟨#[]⟩, ⟨#[]⟩) = l[k] := by rw [List.getD_eq_getElem?_getD, List.getElem?_eq_getElem h]; rfl
  rw [e]; rfl
theorem dSmp_mk (k : Int) (a b : ByteArray) : dSmpV (.agg [.c (.int .i64 k), .c (.string a), .c (.string b)]) = ⟨k, a, b⟩ := rfl
theorem dSmp_mkp (k : Int) (a b : ByteArray) : dSmpV (.pp [.c (.int .i64 k), .c (.string a), .c (.string b)]) = ⟨k, a, b⟩ := rfl
end Go.Proofs.Ytlcblcjpebabkaa
