/- Layer 10, by the document: which node a compound is about. -/
import Derived.Test.YtlcblcjpebabkaaM10k
namespace Go.Proofs.Ytlcblcjpebabkaa
open Go.Sx
set_option linter.unusedSimpArgs false
set_option maxHeartbeats 4000000
set_option maxRecDepth 20000

def okK (n : Node) (l : List Smp) (k : Nat) : Bool := !decide (n.type = ⟨#[]⟩) && (l.take k).all (simB n)
theorem ixC_all (n : Node) (l : List Smp) : decide (0 ≤ ixC n l) = !(l.all (simB n)) := by
  unfold ixC
  rcases fst_spec (fun i => !simB n (l.getD i default)) (l.length - 0) 0 with ⟨h1, h2⟩ | ⟨m, h1, h2, h3, h4, h5⟩
  · rw [h1]
    have : l.all (simB n) = true := by
      rw [List.all_eq_true]
      intro x hx
      obtain ⟨i, hi, rfl⟩ := List.mem_iff_getElem.1 hx
      have := h2 i (by omega) (by omega)
      simpa [List.getD_eq_getElem?_getD, hi] using this
    rw [this]; rfl
  · rw [h1]
    have : l.all (simB n) = false := by
      rw [List.all_eq_false]
      have hm : m < l.length := by omega
      refine ⟨l[m], List.getElem_mem _, ?_⟩
      simpa [List.getD_eq_getElem?_getD, hm] using h4
    rw [this]; simp
theorem okK_all (n : Node) (c : Cmp) : okK n c.l c.l.length = oneB n c := by
  unfold okK oneB
  rw [List.take_length, ixC_all, Bool.not_not]
theorem okK_succ (n : Node) (l : List Smp) (k : Nat) (h : k < l.length) : okK n l (k + 1) = (okK n l k && simB n (l.getD k default)) := by
  unfold okK
  rw [smp_take l k h, List.all_append, Bool.and_assoc]
  simp
end Go.Proofs.Ytlcblcjpebabkaa
