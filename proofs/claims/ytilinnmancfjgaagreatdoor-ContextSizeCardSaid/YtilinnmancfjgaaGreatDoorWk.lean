/- Tokens set into others: which brackets belong together stays. -/
import Derived.Test.YtilinnmancfjgaaGreatDoorNe
namespace Go.Proofs.YtilinnmancfjgaaGreatDoor
open Go.Sx
set_option linter.unusedSimpArgs false
set_option maxHeartbeats 4000000
set_option maxRecDepth 20000

theorem end_spec (l : List Tok) (k : Nat) (hc : ¬ closing (l.getD k .zero) = ⟨#[]⟩) (hk : k < l.length) :
    (feE l k = l.length ∨ ∃ m : Nat, feE l k = m ∧ k < m ∧ m < l.length ∧ opn l m = opn l k ++ [(k : Int)] ∧ opn l (m + 1) = opn l k)
    ∧ ∀ j : Nat, k < j → (j : Int) ≤ feE l k → (k : Int) ∈ opn l j := by
  have key : ∀ (m : Nat), (∀ i, k + 1 ≤ i → i < m → ¬ condC l k i) → ∀ j, k < j → j ≤ m → (k : Int) ∈ opn l j := by
    intro m h5 j h1 h2
    by_cases e : j = k + 1
    · subst e; rw [opn_push hc]; simp
    · have := h5 (j - 1) (by omega) (by omega)
      rw [condC_iff hc (by omega), show j - 1 + 1 = j by omega] at this
      exact Decidable.byContradiction this
  have none_ : ∀ (f j : Nat), j + f = l.length → fe l k f j = l.length → ∀ i, j ≤ i → i < l.length → ¬ condC l k i := by
    intro f
    induction f with
    | zero => intro j h _ i h1 h2; omega
    | succ f ih =>
      intro j h h1 i h2 h3
      simp only [fe] at h1
      split at h1
      · omega
      · rename_i hn
        by_cases e : i = j
        · subst e; exact hn
        · exact ih (j + 1) (by omega) h1 i (by omega) h3
  unfold feE
  rcases fe_spec l k (l.length - (k + 1)) (k + 1) (by omega) with h1 | ⟨m, h1, h2, h3, h4, h5⟩
  · refine ⟨.inl h1, fun j hj1 hj2 => key l.length (fun i hi1 hi2 => none_ _ _ (by omega) h1 i hi1 hi2) j hj1 (by omega)⟩
  · refine ⟨.inr ⟨m, h3, h1, h2, ?_⟩, fun j hj1 hj2 => key m h5 j hj1 (by omega)⟩
    have hin := key m h5 m (by omega) (Nat.le_refl _)
    have hout := (condC_iff hc (by omega)).1 h4
    obtain ⟨d, rfl⟩ : ∃ d, m = k + 1 + d := ⟨m - (k + 1), by omega⟩
    obtain ⟨t, ht⟩ := opn_form hc d hin
    generalize k + 1 + d = m at *
    by_cases hm : closing (l.getD m .zero) = ⟨#[]⟩
    · by_cases hp : pops l (opn l m) m
      · rw [opn_pop hp, ht] at hout ⊢
        cases t with
        | nil => simp
        | cons x t => exact absurd (by rw [show (opn l k ++ ((k : Int) :: x :: t)).length - 1 = (opn l k).length + (t.length + 1) by simp, List.take_append, List.take_of_length_le (by omega)]; simp) hout
      · rw [opn_same hm hp] at hout; exact absurd hin hout
    · rw [opn_push hm] at hout; exact absurd (by simp [hin]) hout
theorem end1_open (l : List Tok) (k : Nat) (h : 0 ≤ end1 l k) : ¬ closing (l.getD k .zero) = ⟨#[]⟩ ∧ end1 l k = feE l k := by
  unfold end1 at h ⊢
  split at h
  · omega
  · rename_i hc; exact ⟨hc, by rw [if_neg hc]; rfl⟩
theorem feE_eq (l : List Tok) (k m : Nat) (hc : ¬ closing (l.getD k .zero) = ⟨#[]⟩) (h1 : k < m) (h2 : m < l.length) (h3 : (k : Int) ∈ opn l m) (h4 : ¬ (k : Int) ∈ opn l (m + 1)) : feE l k = m := by
  obtain ⟨ha, hb⟩ := end_spec l k hc (by omega)
  rcases ha with ha | ⟨m', a1, a2, a3, a4, a5⟩
  · exact absurd (hb (m + 1) (by omega) (by omega)) h4
  · have hn : ¬ (k : Int) ∈ opn l (m' + 1) := by
      rw [a5]; intro h; have := opn_mem l k _ h; omega
    rcases Nat.lt_trichotomy m m' with h | h | h
    · exact absurd (hb (m + 1) (by omega) (by omega)) h4
    · omega
    · exact absurd (opn_stay' (m' := m) (by omega) (by omega) h3) hn
theorem getD_app (l m : List Tok) (i : Nat) (h : i < l.length) : (l ++ m).getD i .zero = l.getD i .zero := by
  simp [List.getD_eq_getElem?_getD, List.getElem?_append_left h]
theorem stepO_app (l m : List Tok) (st : List Int) (k : Nat) (hk : k < l.length) (hs : ∀ x ∈ st, 0 ≤ x ∧ x < k) : stepO (l ++ m) st k = stepO l st k := by
  unfold stepO
  rw [getD_app l m k hk]
  cases st with
  | nil => simp
  | cons y st =>
    have : ((y :: st).getD ((y :: st).length - 1) 0) ∈ (y :: st) := by
      rw [List.getD_eq_getElem?_getD, List.getElem?_eq_getElem (by simp)]; exact List.getElem_mem _
    have := hs _ this
    rw [getD_app l m _ (by omega)]
theorem opn_app (l m : List Tok) : ∀ k, k ≤ l.length → opn (l ++ m) k = opn l k
  | 0, _ => rfl
  | k + 1, h => by
    rw [opn_succ, opn_succ, opn_app l m k (by omega)]
    exact stepO_app l m _ k (by omega) (fun x hx => opn_mem l k x hx)
structure Emb (l w : List Tok) (φ : Nat → Nat) (p : Nat) : Prop where
  mono : ∀ i j, i < j → j < l.length → φ i < φ j
  lt : ∀ i, i < l.length → φ i < w.length
  ge : ∀ i, i < l.length → p ≤ φ i
  get : ∀ i, i < l.length → w.getD (φ i) .zero = l.getD i .zero
  neu : ∀ j, p ≤ j → j < w.length → (∀ i, i < l.length → φ i ≠ j) → closing (w.getD j .zero) = ⟨#[]⟩ ∧ (w.getD j .zero).kind ≠ 13
  op : opn w p = []
  le : p ≤ w.length
def up (φ : Nat → Nat) (x : Int) : Int := (φ x.toNat : Nat)
theorem stepO_emb {l w : List Tok} {φ : Nat → Nat} {p : Nat} (E : Emb l w φ p) {st : List Int} {i : Nat} (hi : i < l.length) (hs : ∀ x ∈ st, 0 ≤ x ∧ x < i) : stepO w (st.map (up φ)) (φ i) = (stepO l st i).map (up φ) := by
  unfold stepO
  rw [E.get i hi]
  have hlast : 0 < st.length → closing (w.getD ((st.map (up φ)).getD ((st.map (up φ)).length - 1) 0).toNat .zero) = closing (l.getD (st.getD (st.length - 1) 0).toNat .zero) := fun h0 => by
    have hm : st.getD (st.length - 1) 0 ∈ st := by
      rw [List.getD_eq_getElem?_getD, List.getElem?_eq_getElem (by omega)]; exact List.getElem_mem _
    have h1 := hs _ hm
    have e : (st.map (up φ)).getD ((st.map (up φ)).length - 1) 0 = up φ (st.getD (st.length - 1) 0) := by
      rw [List.length_map]
      simp only [List.getD_eq_getElem?_getD, List.getElem?_map]
      rw [List.getElem?_eq_getElem (by omega)]; rfl
    rw [e, up, Int.toNat_natCast, E.get _ (by omega)]
  by_cases c : closing (l.getD i .zero) = ⟨#[]⟩
  · have c' : ¬ ¬ closing (l.getD i .zero) = ⟨#[]⟩ := fun hh => hh c
    rw [if_neg c', if_neg c']
    by_cases c2 : (l.getD i .zero).kind = 13 ∧ 0 < st.length ∧ closing (l.getD (st.getD (st.length - 1) 0).toNat .zero) = (l.getD i .zero).text
    · rw [if_pos c2, if_pos ⟨c2.1, by rw [List.length_map]; exact c2.2.1, by rw [hlast c2.2.1]; exact c2.2.2⟩, List.length_map, List.map_take]
    · rw [if_neg c2, if_neg]
      rintro ⟨h1, h2, h3⟩
      rw [List.length_map] at h2
      rw [hlast h2] at h3
      exact c2 ⟨h1, h2, h3⟩
  · rw [if_pos c, if_pos c, List.map_append]
    rfl
theorem Emb.inj {l w : List Tok} {φ : Nat → Nat} {p : Nat} (E : Emb l w φ p) {i j : Nat} (hi : i < l.length) (hj : j < l.length) (h : φ i = φ j) : i = j := by
  rcases Nat.lt_trichotomy i j with h1 | h1 | h1
  · have := E.mono i j h1 hj; omega
  · exact h1
  · have := E.mono j i h1 hi; omega
theorem Emb.walk {l w : List Tok} {φ : Nat → Nat} {p : Nat} (E : Emb l w φ p) : ∀ d, p + d ≤ w.length → ∃ i, i ≤ l.length ∧ (∀ i', i' < i → φ i' < p + d) ∧ (∀ i', i ≤ i' → i' < l.length → p + d ≤ φ i') ∧ opn w (p + d) = (opn l i).map (up φ)
  | 0, _ => ⟨0, Nat.zero_le _, fun i' h => by omega, fun i' _ h => E.ge i' h, by rw [Nat.add_zero, E.op]; rfl⟩
  | d + 1, h => by
    obtain ⟨i, h1, h2, h3, h4⟩ := E.walk d (by omega)
    by_cases hc : i < l.length ∧ φ i = p + d
    · refine ⟨i + 1, hc.1, fun i' hi' => ?_, fun i' hi' hl => ?_, ?_⟩
      · by_cases e : i' = i
        · subst e; omega
        · have := h2 i' (by omega); omega
      · have := E.mono i i' (by omega) hl; omega
      · rw [show p + (d + 1) = (p + d) + 1 by omega, opn_succ, h4, ← hc.2, stepO_emb E hc.1 (opn_mem l i)]; rfl
    · have hne : ∀ i', i' < l.length → φ i' ≠ p + d := fun i' hl e => by
        by_cases e1 : i' < i
        · have := h2 i' e1; omega
        · by_cases e2 : i' = i
          · subst e2; exact hc ⟨hl, e⟩
          · have := E.mono i i' (by omega) hl
            have := h3 i (Nat.le_refl _) (by omega)
            omega
      have hn := E.neu (p + d) (by omega) (by omega) hne
      refine ⟨i, h1, fun i' hi' => by have := h2 i' hi'; omega, fun i' hi' hl => by have := h3 i' hi' hl; have := hne i' hl; omega, ?_⟩
      rw [show p + (d + 1) = (p + d) + 1 by omega, opn_same hn.1 (fun hp => hn.2 hp.2.1), h4]
theorem Emb.at_ {l w : List Tok} {φ : Nat → Nat} {p : Nat} (E : Emb l w φ p) {m : Nat} (hm : m < l.length) : opn w (φ m) = (opn l m).map (up φ) := by
  have hg := E.ge m hm
  have hl := E.lt m hm
  obtain ⟨i, h1, h2, h3, h4⟩ := E.walk (φ m - p) (by omega)
  rw [show p + (φ m - p) = φ m by omega] at h2 h3 h4
  have : i = m := by
    rcases Nat.lt_trichotomy i m with h | h | h
    · have := E.mono i m h hm; have := h3 i (Nat.le_refl _) (by omega); omega
    · exact h
    · have := h2 m h; omega
  rw [h4, this]
theorem Emb.at1 {l w : List Tok} {φ : Nat → Nat} {p : Nat} (E : Emb l w φ p) {m : Nat} (hm : m < l.length) : opn w (φ m + 1) = (opn l (m + 1)).map (up φ) := by
  rw [opn_succ, E.at_ hm, stepO_emb E hm (opn_mem l m)]; rfl
theorem Emb.fin {l w : List Tok} {φ : Nat → Nat} {p : Nat} (E : Emb l w φ p) : opn w w.length = (opn l l.length).map (up φ) := by
  have hle := E.le
  obtain ⟨i, h1, h2, h3, h4⟩ := E.walk (w.length - p) (by omega)
  rw [show p + (w.length - p) = w.length by omega] at h2 h3 h4
  have : i = l.length := by
    by_cases h : i < l.length
    · have := h3 i (Nat.le_refl _) h; have := E.lt i h; omega
    · omega
  rw [h4, this]
theorem Emb.len {l w : List Tok} {φ : Nat → Nat} {p : Nat} (E : Emb l w φ p) (h : deep l = false) {j : Nat} (h1 : p ≤ j) (h2 : j ≤ w.length) : (opn w j).length ≤ 64 := by
  obtain ⟨i, a1, _, _, a4⟩ := E.walk (j - p) (by omega)
  rw [show p + (j - p) = j by omega] at a4
  rw [a4, List.length_map]
  cases i with
  | zero => simp [opn]
  | succ i =>
    unfold deep at h
    rw [decide_eq_false_iff_not] at h
    exact Decidable.byContradiction fun hn => h ⟨i, by omega, by omega⟩
theorem Emb.mem {l w : List Tok} {φ : Nat → Nat} {p : Nat} (E : Emb l w φ p) {m k : Nat} (hk : k < l.length) (hm : m ≤ l.length) : ((φ k : Nat) : Int) ∈ (opn l m).map (up φ) ↔ (k : Int) ∈ opn l m := by
  constructor
  · intro h
    obtain ⟨x, hx, he⟩ := List.mem_map.1 h
    have hr := opn_mem l m x hx
    unfold up at he
    have := E.inj (i := x.toNat) (j := k) (by omega) hk (by omega)
    rwa [show (k : Int) = x by omega]
  · intro h
    exact List.mem_map.2 ⟨k, h, by simp [up]⟩
/-- Where a bracket ends. -/
theorem Emb.end {l w : List Tok} {φ : Nat → Nat} {p : Nat} (E : Emb l w φ p) {k : Nat} (hk : k < l.length) : (end1 l k = -1 ∧ end1 w (φ k) = -1) ∨ (end1 l k = l.length ∧ end1 w (φ k) = w.length) ∨ ∃ m : Nat, k < m ∧ m < l.length ∧ end1 l k = m ∧ end1 w (φ k) = φ m := by
  have hg := E.get k hk
  unfold end1
  rw [hg]
  by_cases c : closing (l.getD k .zero) = ⟨#[]⟩
  · rw [if_pos c, if_pos c]; exact .inl ⟨rfl, rfl⟩
  · rw [if_neg c, if_neg c]
    have cw : ¬ closing (w.getD (φ k) .zero) = ⟨#[]⟩ := by rw [hg]; exact c
    right
    obtain ⟨a1, a2⟩ := end_spec l k c hk
    rcases a1 with a1 | ⟨m, b1, b2, b3, b4, b5⟩
    · left
      refine ⟨a1, ?_⟩
      show feE w (φ k) = w.length
      have hin : (k : Int) ∈ opn l l.length := a2 l.length hk (by omega)
      have hin' : ((φ k : Nat) : Int) ∈ opn w w.length := by rw [E.fin]; exact (E.mem hk (Nat.le_refl _)).2 hin
      obtain ⟨d1, d2⟩ := end_spec w (φ k) cw (E.lt k hk)
      rcases d1 with d1 | ⟨m, e1, e2, e3, e4, e5⟩
      · exact d1
      · have := opn_stay' (k := φ k) (m := m + 1) (m' := w.length) (by omega) (by omega) hin'
        rw [e5] at this
        have := opn_mem w _ _ this
        omega
    · right
      refine ⟨m, b2, b3, b1, ?_⟩
      show feE w (φ k) = φ m
      have h1 : (k : Int) ∈ opn l m := by rw [b4]; simp
      have h2 : ¬ (k : Int) ∈ opn l (m + 1) := by rw [b5]; intro h; have := opn_mem l k _ h; omega
      refine feE_eq w (φ k) (φ m) cw (E.mono k m b2 b3) (E.lt m b3) ?_ ?_
      · rw [E.at_ b3]; exact (E.mem hk (by omega)).2 h1
      · rw [E.at1 b3]; exact fun h => h2 ((E.mem hk (by omega)).1 h)
end Go.Proofs.YtilinnmancfjgaaGreatDoor
