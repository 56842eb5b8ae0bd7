/- Layer 10, by the document: which node a simple selector is about. -/
import Derived.Test.YtlcblcjpebabkaaM10g
namespace Go.Proofs.Ytlcblcjpebabkaa
open Go.Sx
set_option linter.unusedSimpArgs false
set_option maxHeartbeats 4000000
set_option maxRecDepth 20000

def atr (s : Smp) : List (ByteArray × ByteArray) → Bool
  | [] => false
  | p :: r => if p.1 = s.text then decide (s.kind = 5) || decide (p.2 = s.val) else atr s r
def anyA (s : Smp) : List (ByteArray × ByteArray) → Bool
  | [] => false
  | p :: r => decide (p.1 = s.text) || anyA s r
theorem atr_eq (s : Smp) : ∀ l, atr s l = (anyA s l && (decide (s.kind = 5) || decide (attrV s.text l = s.val)))
  | [] => rfl
  | p :: r => by
    unfold atr anyA attrV
    by_cases h : p.1 = s.text
    · rw [if_pos h, if_pos h, decide_eq_true h]; rfl
    · rw [if_neg h, if_neg h, decide_eq_false h, atr_eq s r]; rfl
theorem anyA_iff (s : Smp) : ∀ l, anyA s l = true ↔ ∃ i, i < l.length ∧ (l.getD i (⟨#[]⟩, ⟨#[]⟩)).1 = s.text
  | [] => ⟨fun h => (by cases h), fun ⟨i, h, _⟩ => absurd h (Nat.not_lt_zero _)⟩
  | p :: r => by
    unfold anyA
    rw [Bool.or_eq_true, decide_eq_true_eq, anyA_iff s r]
    constructor
    · rintro (h | ⟨i, h1, h2⟩)
      · exact ⟨0, by simp, h⟩
      · exact ⟨i + 1, by simp; omega, by simpa using h2⟩
    · rintro ⟨i, h1, h2⟩
      cases i with
      | zero => exact .inl h2
      | succ i => exact .inr ⟨i, by simp at h1; omega, by simpa using h2⟩
theorem hasA_any (s : Smp) (l : List (ByteArray × ByteArray)) : hasA s l = anyA s l := by
  rw [Bool.eq_iff_iff, anyA_iff]
  unfold hasA ixA
  rw [decide_eq_true_eq]
  rcases fst_spec (fun i => decide ((l.getD i (⟨#[]⟩, ⟨#[]⟩)).1 = s.text)) (l.length - 0) 0 with ⟨h1, h2⟩ | ⟨m, h1, h2, h3, h4, h5⟩
  · rw [h1]
    refine ⟨fun h => by omega, fun ⟨i, i1, i2⟩ => ?_⟩
    have := h2 i (by omega) (by omega)
    rw [decide_eq_false_iff_not] at this
    exact absurd i2 this
  · rw [h1]
    exact ⟨fun _ => ⟨m, by omega, by simpa using h4⟩, fun _ => by omega⟩
theorem atr_drop (s : Smp) (l : List (ByteArray × ByteArray)) (k : Nat) (h : k < l.length) : atr s (l.drop k) = if (l.getD k (⟨#[]⟩, ⟨#[]⟩)).1 = s.text then decide (s.kind = 5) || decide ((l.getD k (⟨#[]⟩, ⟨#[]⟩)).2 = s.val) else atr s (l.drop (k + 1)) := by
  rw [List.drop_eq_getElem_cons h, List.getD_eq_getElem?_getD, List.getElem?_eq_getElem h]; rfl
end Go.Proofs.Ytlcblcjpebabkaa
