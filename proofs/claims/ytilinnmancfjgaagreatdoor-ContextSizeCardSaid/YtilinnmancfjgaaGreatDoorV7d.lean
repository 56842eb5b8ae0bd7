/- Layer 7: breaks, page names, running elements, styles. -/
import Derived.Test.YtilinnmancfjgaaGreatDoorV7c
namespace Go.Proofs.YtilinnmancfjgaaGreatDoor
open Go.Sx
set_option linter.unusedSimpArgs false
set_option maxHeartbeats 4000000
set_option maxRecDepth 20000

def okT (l : List Tok) : Prop := l.length ≤ 1000000 ∧ ∀ t ∈ l, t.text.size ≤ 1000000
theorem partsL_mem {l : List Tok} (h : okT l) : ∀ {ks : List Int} {ps : List Part}, partsL l ks = some ps → ∀ p ∈ ps, p.t.text.size ≤ 1000000 ∧ ∀ m, p.ar = some m → okT m
  | [], ps, hp, p, hm => by simp [partsL] at hp; subst hp; cases hm
  | k :: ks, ps, hp, p, hm => by
    simp only [partsL] at hp
    split at hp
    · cases hp
    · simp only [Option.map_eq_some_iff] at hp
      obtain ⟨qs, hq, rfl⟩ := hp
      have ih := partsL_mem h hq
      have hself : ∀ i : Nat, (l.getD i .zero).text.size ≤ 1000000 := fun i => by
        by_cases hi : i < l.length
        · rw [List.getD_eq_getElem?_getD, List.getElem?_eq_getElem hi]; exact h.2 _ (List.getElem_mem hi)
        · rw [List.getD_eq_getElem?_getD, List.getElem?_eq_none (by omega)]; decide
      split at hm
      · exact ih p hm
      · rcases List.mem_cons.1 hm with rfl | hm
        · refine ⟨hself _, fun m hmm => ?_⟩
          unfold pAt at hmm
          simp only at hmm
          split at hmm
          · cases hmm
            refine ⟨by have := h.1; simp; omega, fun t ht => h.2 t (List.mem_of_mem_take (List.mem_of_mem_drop ht))⟩
          · cases hmm
        · exact ih p hm
theorem pl_mem {l : List Tok} (h : okT l) : ∀ p ∈ pl l, okP7 p ∧ okT p.al := by
  intro p hp
  unfold pl at hp
  obtain ⟨q, hq, rfl⟩ := List.mem_map.1 hp
  unfold ptL at hq
  cases hO : ptO l with
  | none => rw [hO] at hq; cases hq
  | some qs =>
    rw [hO] at hq
    unfold ptO at hO
    split at hO
    · cases hO
    · obtain ⟨h1, h2⟩ := partsL_mem h hO q hq
      refine ⟨h1, ?_⟩
      show okT (q.ar.getD [])
      cases ha : q.ar with
      | none => exact ⟨by simp, fun t ht => by cases ht⟩
      | some m => exact h2 m ha
/-! ### Tables -/
def look {α : Type} : List (ByteArray × α) → ByteArray → Option α
  | [], _ => none
  | p :: r, s => if s = p.1 then some p.2 else look r s
theorem mget_look {α : Type} (f : α → V) (s : ByteArray) : ∀ L : List (ByteArray × α), mget (L.map fun p => .string p.1) (L.map fun p => f p.2) (.string s) = (look L s).map f
  | [] => rfl
  | p :: r => by
    have : (simpleEq (.string p.1) (.string s)).1 = true ↔ s = p.1 := by simp [simpleEq]; exact eq_comm
    simp only [List.map_cons, mget, look, this, mget_look f s r]
    split <;> rfl
theorem look_none {α : Type} {s : ByteArray} : ∀ {L : List (ByteArray × α)}, (∀ p ∈ L, s ≠ p.1) → look L s = none
  | [], _ => rfl
  | p :: r, h => by rw [look, if_neg (h p (by simp))]; exact look_none fun q hq => h q (by simp [hq])
theorem look_ix {α : Type} [Inhabited α] (s : ByteArray) (L : List (ByteArray × α)) : (ixS (L.map (·.1)) s = -1 ∧ look L s = none) ∨ ∃ m : Nat, m < L.length ∧ ixS (L.map (·.1)) s = m ∧ look L s = some (L.getD m default).2 := by
  unfold ixS
  have hg : ∀ i, i < L.length → (L.map (·.1)).getD i ⟨#[]⟩ = (L.getD i default).1 := fun i hi => by simp [List.getD_eq_getElem?_getD, hi]
  rcases fst_spec (fun i => decide (s = (L.map (·.1)).getD i ⟨#[]⟩)) ((L.map (·.1)).length - 0) 0 with ⟨h1, h2⟩ | ⟨m, h1, h2, h3, h4, h5⟩
  · refine .inl ⟨h1, look_none fun p hp => ?_⟩
    obtain ⟨i, hi, rfl⟩ := List.mem_iff_getElem.1 hp
    have := h2 i (by omega) (by simp; omega)
    simp only [decide_eq_false_iff_not] at this
    rw [hg i hi] at this
    simpa [List.getD_eq_getElem?_getD, hi] using this
  · have hm : m < L.length := by simpa using h3
    refine .inr ⟨m, hm, h1, ?_⟩
    simp only [decide_eq_true_eq] at h4
    rw [hg m hm] at h4
    have h5' : ∀ i, i < m → s ≠ (L.getD i default).1 := fun i hi => by
      have := h5 i (by omega) hi
      simp only [decide_eq_false_iff_not] at this
      rwa [hg i (by omega)] at this
    clear h1 h2 h3 h5 hg
    induction L generalizing m with
    | nil => simp at hm
    | cons p r ih =>
      cases m with
      | zero => simp only [List.getD_cons_zero] at h4 ⊢; rw [look, if_pos h4]
      | succ m =>
        have h0 := h5' 0 (by omega)
        simp only [List.getD_cons_zero] at h0
        rw [look, if_neg h0]
        simp only [List.getD_cons_succ] at h4 ⊢
        exact ih m (by simpa using hm) h4 fun i hi => by have := h5' (i + 1) (by omega); simpa using this
/-! ### Styles -/
theorem at_any (L : List ByteArray) (u : ByteArray) (h : L.length ≤ 1000000) : ∃ S : Sum Tryz.prog, S.f = 35 ∧ S.flat = true ∧ S.D [.slc 1 (L.map fun s => [vs s]), .c (.string u)] ∧ S.r [.slc 1 (L.map fun s => [vs s]), .c (.string u)] = vi (ixS L u) :=
  ⟨⟨35, fun args => args = [strs L, vs u], fun _ => vi (ixS L u), fun args h' => by rw [h']; exact atR_ok L u h, true⟩, rfl, rfl, rfl, rfl⟩
end Go.Proofs.YtilinnmancfjgaaGreatDoor
