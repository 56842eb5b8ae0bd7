/- Layer 9: the small functions. -/
import Derived.Test.YtlcblcjpebabkaaCd
import Derived.Test.YtlcblcjpebabkaaE4
namespace Go.Proofs.Ytlcblcjpebabkaa
open Go.Sx
set_option linter.unusedSimpArgs false
set_option maxHeartbeats 4000000
set_option maxRecDepth 20000

def nodeZ : List V := [vi 0, vs ⟨#[]⟩, vs ⟨#[]⟩, vnil, vnil, vs ⟨#[]⟩]
def clsV (l : List Node) (i : Nat) : V := ((l.map Node.enc).getD i nodeZ).getD 3 .any
def attV (l : List Node) (i : Nat) : V := ((l.map Node.enc).getD i nodeZ).getD 4 .any
theorem nodeAt (l : List Node) (i : Nat) : (l.map Node.enc).getD i [.c (.int .i64 0), .c (.string ⟨#[]⟩), .c (.string ⟨#[]⟩), .c (.slice none 0 0), .c (.slice none 0 0), .c (.string ⟨#[]⟩)] =
    [vi (l.getD i .zero).parent, vs (l.getD i .zero).type, vs (l.getD i .zero).id, clsV l i, attV l i, vs (l.getD i .zero).text] := by
  by_cases h : i < l.length
  · unfold clsV attV
    rw [getD_nodes l i _ h, getD_nodes l i _ h]
    rfl
  · have h1 : (l.map Node.enc)[i]? = none := List.getElem?_eq_none (by simpa using h)
    have h2 : l[i]? = none := List.getElem?_eq_none (by omega)
    simp only [clsV, attV, List.getD_eq_getElem?_getD, h1, h2]
    rfl
theorem clsV_in (l : List Node) (i : Nat) (h : i < l.length) : clsV l i = .slc 1 ((l.getD i .zero).cls.map fun s => [vs s]) := by
  unfold clsV; rw [getD_nodes l i _ h]; rfl
theorem attV_in (l : List Node) (i : Nat) (h : i < l.length) : attV l i = .slc 2 ((l.getD i .zero).attrs.map fun p => [vs p.1, vs p.2]) := by
  unfold attV; rw [getD_nodes l i _ h]; rfl
/-- The first one of which something holds. -/
def fst (p : Nat → Bool) : Nat → Nat → Int
  | 0, _ => -1
  | f + 1, k => if p k = true then k else fst p f (k + 1)
theorem fst_spec (p : Nat → Bool) : ∀ (f k : Nat), (fst p f k = -1 ∧ ∀ i, k ≤ i → i < k + f → p i = false) ∨ ∃ m : Nat, fst p f k = m ∧ k ≤ m ∧ m < k + f ∧ p m = true ∧ ∀ i, k ≤ i → i < m → p i = false
  | 0, k => .inl ⟨rfl, fun i h1 h2 => by omega⟩
  | f + 1, k => by
    simp only [fst]
    by_cases h : p k = true
    · rw [if_pos h]; exact .inr ⟨k, rfl, Nat.le_refl _, by omega, h, fun i h1 h2 => by omega⟩
    · rw [if_neg h]
      have h' : p k = false := by simpa using h
      rcases fst_spec p f (k + 1) with ⟨h1, h2⟩ | ⟨m, h1, h2, h3, h4, h5⟩
      · refine .inl ⟨h1, fun i hi1 hi2 => ?_⟩
        by_cases e : i = k
        · subst e; exact h'
        · exact h2 i (by omega) (by omega)
      · refine .inr ⟨m, h1, by omega, by omega, h4, fun i hi1 hi2 => ?_⟩
        by_cases e : i = k
        · subst e; exact h'
        · exact h5 i (by omega) hi2
theorem fst_step (p : Nat → Bool) (n k : Nat) (h : k < n) : fst p (n - k) k = if p k = true then (k : Int) else fst p (n - (k + 1)) (k + 1) := by
  obtain ⟨f, hf⟩ : ∃ f, n - k = f + 1 := ⟨n - k - 1, by omega⟩
  rw [hf, show n - (k + 1) = f by omega]; rfl
theorem fst_end (p : Nat → Bool) (n : Nat) : fst p (n - n) n = -1 := by rw [Nat.sub_self]; rfl
def ixI (l : List Int) (x : Int) : Int := fst (fun i => decide (x = l.getD i 0)) (l.length - 0) 0
theorem ixI_mem (l : List Int) (x : Int) : 0 ≤ ixI l x ↔ x ∈ l := by
  unfold ixI
  rcases fst_spec (fun i => decide (x = l.getD i 0)) (l.length - 0) 0 with ⟨h1, h2⟩ | ⟨m, h1, h2, h3, h4, h5⟩
  · rw [h1]
    refine ⟨fun h => by omega, fun h => ?_⟩
    obtain ⟨i, hi, rfl⟩ := List.getElem_of_mem h
    have := h2 i (by omega) (by omega)
    simp [List.getD_eq_getElem?_getD, hi] at this
  · rw [h1]
    refine ⟨fun _ => ?_, fun _ => by omega⟩
    simp only [decide_eq_true_eq] at h4
    rw [h4, List.getD_eq_getElem?_getD, List.getElem?_eq_getElem (by omega)]
    exact List.getElem_mem _
end Go.Proofs.Ytlcblcjpebabkaa
