/- Layer 7: numbers; arguments between commas. -/
import Derived.Test.YtilinnmancfjgaaGreatDoorV7i
namespace Go.Proofs.YtilinnmancfjgaaGreatDoor
open Go.Sx
set_option linter.unusedSimpArgs false
set_option maxHeartbeats 4000000
set_option maxRecDepth 20000

def cntR : Option Int → V
  | none => .tup [vi 0, vb false]
  | some n => .tup [vi n, vb true]
theorem cntR_eq (o : Option Int) : cntR o = .tup [vi (o.getD 0), vb o.isSome] := by cases o <;> rfl
theorem par_drop (l : List Pa) (k : Nat) (h : k < l.length) : l.drop k = l.getD k default :: l.drop (k + 1) := by
  rw [List.getD_eq_getElem?_getD, List.getElem?_eq_getElem h, Option.getD_some, List.drop_eq_getElem_cons h]
theorem plR_len2 (ends : List Int) (to : Int) : ∀ (f : Nat) (k : Int), (plR ends to f k).length ≤ f
  | 0, _ => Nat.le_refl _
  | f + 1, k => by
    simp only [plR]
    split
    · have := plR_len2 ends to f (skip ends k); simp; omega
    · simp
theorem partsL_len (l : List Tok) : ∀ (ks : List Int) (ps : List Part), partsL l ks = some ps → ps.length ≤ ks.length
  | [], ps, h => by simp [partsL] at h; subst h; simp
  | k :: ks, ps, h => by
    simp only [partsL] at h
    split at h
    · cases h
    · simp only [Option.map_eq_some_iff] at h
      obtain ⟨qs, hq, rfl⟩ := h
      have := partsL_len l ks qs hq
      split <;> simp <;> omega
theorem pl_len (l : List Tok) : (pl l).length ≤ l.length + 1 := by
  unfold pl ptL
  cases hO : ptO l with
  | none => simp
  | some ps =>
    unfold ptO at hO
    split at hO
    · cases hO
    · have h1 := partsL_len l _ _ hO
      have h2 := plR_len2 (endsA l) l.length (l.length + 1) 0
      simp; omega
structure ArS where
  k : Nat
  out : List Pa
  ver : Nat
  clk : Nat
end Go.Proofs.YtilinnmancfjgaaGreatDoor
