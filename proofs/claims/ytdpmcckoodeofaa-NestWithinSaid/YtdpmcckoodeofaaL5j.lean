/- Layer 5, without the program: brackets that belong together, and the closings of all that is open. -/
import Derived.Test.YtdpmcckoodeofaaL5i
namespace Go.Proofs.Ytdpmcckoodeofaa
open Go.Sx
set_option linter.unusedSimpArgs false
set_option maxHeartbeats 4000000
set_option maxRecDepth 20000

/-- What holds of an opening and its closing. -/
theorem end_spec (l : List Tok) (k : Nat) (hc : ¬ closing (l.getD k .zero) = ⟨#[]⟩) (hk : k < l.length) :
    (feE l k = l.length ∨ ∃ m : Nat, feE l k = m ∧ k < m ∧ m < l.length ∧ opn l m = opn l k ++ [(k : Int)] ∧ opn l (m + 1) = opn l k)
    ∧ ∀ j : Nat, k < j → (j : Int) ≤ feE l k → (k : Int) ∈ opn l j := by
  have key : ∀ (m : Nat), (∀ i, k + 1 ≤ i → i < m → ¬ condC l k i) → ∀ j, k < j → j ≤ m → (k : Int) ∈ opn l j := by
    intro m h5 j h1 h2
    by_cases e : j = k + 1
    · subst e; rw [opn_push hc]; simp
    · have := h5 (j - 1) (by omega) (by omega)
      rw [condC_iff hc (by omega), show j - 1 + 1 = j by omega] at this
      exact Decidable.byContradiction this
  have none_ : ∀ (f j : Nat), j + f = l.length → fe l k f j = l.length → ∀ i, j ≤ i → i < l.length → ¬ condC l k i := by
    intro f
    induction f with
    | zero => intro j h _ i h1 h2; omega
    | succ f ih =>
      intro j h h1 i h2 h3
      simp only [fe] at h1
      split at h1
      · omega
      · rename_i hn
        by_cases e : i = j
        · subst e; exact hn
        · exact ih (j + 1) (by omega) h1 i (by omega) h3
  unfold feE
  rcases fe_spec l k (l.length - (k + 1)) (k + 1) (by omega) with h1 | ⟨m, h1, h2, h3, h4, h5⟩
  · refine ⟨.inl h1, fun j hj1 hj2 => key l.length (fun i hi1 hi2 => none_ _ _ (by omega) h1 i hi1 hi2) j hj1 (by omega)⟩
  · refine ⟨.inr ⟨m, h3, h1, h2, ?_⟩, fun j hj1 hj2 => key m h5 j hj1 (by omega)⟩
    have hin := key m h5 m (by omega) (Nat.le_refl _)
    have hout := (condC_iff hc (by omega)).1 h4
    obtain ⟨d, rfl⟩ : ∃ d, m = k + 1 + d := ⟨m - (k + 1), by omega⟩
    obtain ⟨t, ht⟩ := opn_form hc d hin
    generalize k + 1 + d = m at *
    by_cases hm : closing (l.getD m .zero) = ⟨#[]⟩
    · by_cases hp : pops l (opn l m) m
      · rw [opn_pop hp, ht] at hout ⊢
        cases t with
        | nil => simp
        | cons x t => exact absurd (by rw [show (opn l k ++ ((k : Int) :: x :: t)).length - 1 = (opn l k).length + (t.length + 1) by simp, List.take_append, List.take_of_length_le (by omega)]; simp) hout
      · rw [opn_same hm hp] at hout; exact absurd hin hout
    · rw [opn_push hm] at hout; exact absurd (by simp [hin]) hout
theorem end1_open (l : List Tok) (k : Nat) (h : 0 ≤ end1 l k) : ¬ closing (l.getD k .zero) = ⟨#[]⟩ ∧ end1 l k = feE l k := by
  unfold end1 at h ⊢
  split at h
  · omega
  · rename_i hc; exact ⟨hc, by rw [if_neg hc]; rfl⟩
theorem end1_nest (l : List Tok) (a b : Nat) (h2 : b < l.length) (h3 : a < b) (h4 : (b : Int) < end1 l a) (h5 : 0 ≤ end1 l b) : end1 l b ≤ end1 l a := by
  obtain ⟨ca, ea⟩ := end1_open l a (by omega)
  obtain ⟨cb, eb⟩ := end1_open l b h5
  have rb := end1_rng l b h2
  rw [ea] at h4 ⊢
  rw [eb] at rb ⊢
  obtain ⟨ha, ha'⟩ := end_spec l a ca (by omega)
  obtain ⟨hb, hb'⟩ := end_spec l b cb h2
  rcases ha with ha | ⟨m, m1, m2, m3, m4, m5⟩
  · omega
  · refine Decidable.byContradiction fun hn => ?_
    have h := hb' (m + 1) (by omega) (by omega)
    rw [m5] at h
    have := opn_mem l a _ h
    omega
theorem end1_one (l : List Tok) (a b : Nat) (h1 : a < l.length) (h2 : b < l.length) (h3 : a < b) (h4 : 0 ≤ end1 l a) (h5 : end1 l a < l.length) (h6 : end1 l a = end1 l b) : False := by
  obtain ⟨ca, ea⟩ := end1_open l a h4
  obtain ⟨cb, eb⟩ := end1_open l b (by omega)
  obtain ⟨ha, ha'⟩ := end_spec l a ca h1
  obtain ⟨hb, hb'⟩ := end_spec l b cb h2
  have rb := end1_rng l b h2
  rcases ha with ha | ⟨m, m1, m2, m3, m4, m5⟩
  · omega
  · have h := hb' m (by omega) (by omega)
    rw [m4] at h
    simp only [List.mem_append, List.mem_singleton] at h
    rcases h with h | h
    · have := opn_mem l a _ h; omega
    · omega
theorem feE_eq (l : List Tok) (k m : Nat) (hc : ¬ closing (l.getD k .zero) = ⟨#[]⟩) (h1 : k < m) (h2 : m < l.length) (h3 : (k : Int) ∈ opn l m) (h4 : ¬ (k : Int) ∈ opn l (m + 1)) : feE l k = m := by
  obtain ⟨ha, hb⟩ := end_spec l k hc (by omega)
  rcases ha with ha | ⟨m', a1, a2, a3, a4, a5⟩
  · exact absurd (hb (m + 1) (by omega) (by omega)) h4
  · have hn : ¬ (k : Int) ∈ opn l (m' + 1) := by
      rw [a5]; intro h; have := opn_mem l k _ h; omega
    rcases Nat.lt_trichotomy m m' with h | h | h
    · exact absurd (hb (m + 1) (by omega) (by omega)) h4
    · omega
    · exact absurd (opn_stay' (m' := m) (by omega) (by omega) h3) hn
def clsOf (l : List Tok) : List Tok := (opn l l.length).reverse.map fun x => ⟨13, closing (l.getD x.toNat .zero), 0⟩
def moreOf (l : List Tok) : List Tok := l ++ clsOf l
theorem getD_app (l m : List Tok) (i : Nat) (h : i < l.length) : (l ++ m).getD i .zero = l.getD i .zero := by
  simp [List.getD_eq_getElem?_getD, List.getElem?_append_left h]
theorem stepO_app (l m : List Tok) (st : List Int) (k : Nat) (hk : k < l.length) (hs : ∀ x ∈ st, 0 ≤ x ∧ x < k) : stepO (l ++ m) st k = stepO l st k := by
  unfold stepO
  rw [getD_app l m k hk]
  cases st with
  | nil => simp
  | cons y st =>
    have : ((y :: st).getD ((y :: st).length - 1) 0) ∈ (y :: st) := by
      rw [List.getD_eq_getElem?_getD, List.getElem?_eq_getElem (by simp)]; exact List.getElem_mem _
    have := hs _ this
    rw [getD_app l m _ (by omega)]
theorem opn_app (l m : List Tok) : ∀ k, k ≤ l.length → opn (l ++ m) k = opn l k
  | 0, _ => rfl
  | k + 1, h => by
    rw [opn_succ, opn_succ, opn_app l m k (by omega)]
    exact stepO_app l m _ k (by omega) (fun x hx => opn_mem l k x hx)
theorem closing_close (s : ByteArray) (n : Int) : closing ⟨13, s, n⟩ = ⟨#[]⟩ := by
  simp [closing]
theorem clsOf_len (l : List Tok) : (clsOf l).length = (opn l l.length).length := by simp [clsOf]
theorem moreOf_len (l : List Tok) : (moreOf l).length = l.length + (opn l l.length).length := by simp [moreOf, clsOf_len]
theorem moreOf_get (l : List Tok) (d : Nat) (h : d < (opn l l.length).length) : (moreOf l).getD (l.length + d) .zero = ⟨13, closing (l.getD ((opn l l.length).getD ((opn l l.length).length - 1 - d) 0).toNat .zero), 0⟩ := by
  simp only [moreOf, List.getD_eq_getElem?_getD]
  rw [List.getElem?_append_right (by omega)]
  simp only [Nat.add_sub_cancel_left, clsOf, List.getElem?_map]
  rw [List.getElem?_reverse h, List.getElem?_eq_getElem (by omega)]
  simp
theorem clsOf_take (l : List Tok) (d : Nat) (h : d < (opn l l.length).length) : (clsOf l).take (d + 1) = (clsOf l).take d ++ [⟨13, closing (l.getD ((opn l l.length).getD ((opn l l.length).length - 1 - d) 0).toNat .zero), 0⟩] := by
  have e : (opn l l.length).getD ((opn l l.length).length - 1 - d) 0 = (opn l l.length)[(opn l l.length).length - 1 - d]'(by omega) := by
    rw [List.getD_eq_getElem?_getD, List.getElem?_eq_getElem (by omega)]; rfl
  rw [List.take_add_one, e]
  congr 1
  simp only [clsOf, List.getElem?_map]
  rw [List.getElem?_reverse h, List.getElem?_eq_getElem (by omega)]
  rfl
theorem opn_more (l : List Tok) : ∀ d, d ≤ (opn l l.length).length → opn (moreOf l) (l.length + d) = (opn l l.length).take ((opn l l.length).length - d)
  | 0, _ => by rw [Nat.add_zero, moreOf, opn_app l _ _ (Nat.le_refl _), Nat.sub_zero, List.take_length]
  | d + 1, h => by
    have ih := opn_more l d (by omega)
    have hg := moreOf_get l d (by omega)
    have hlen : (opn (moreOf l) (l.length + d)).length = (opn l l.length).length - d := by rw [ih, List.length_take]; omega
    have hlast : (opn (moreOf l) (l.length + d)).getD ((opn l l.length).length - d - 1) 0 = (opn l l.length).getD ((opn l l.length).length - 1 - d) 0 := by
      rw [ih, List.getD_eq_getElem?_getD, List.getElem?_take, if_pos (by omega), show (opn l l.length).length - d - 1 = (opn l l.length).length - 1 - d by omega, ← List.getD_eq_getElem?_getD]
    have hp : pops (moreOf l) (opn (moreOf l) (l.length + d)) (l.length + d) := by
      have hm : (opn l l.length).getD ((opn l l.length).length - 1 - d) 0 ∈ opn l l.length := by
        rw [List.getD_eq_getElem?_getD, List.getElem?_eq_getElem (by omega)]; exact List.getElem_mem _
      have hx := opn_mem l l.length _ hm
      refine ⟨by rw [hg]; exact closing_close _ _, by rw [hg], by omega, ?_⟩
      rw [hlen, hlast, hg]
      simp only [moreOf]
      rw [getD_app l _ _ (by omega)]
    rw [show l.length + (d + 1) = l.length + d + 1 by omega, opn_pop hp, hlen, ih, List.take_take]
    congr 1
    omega
theorem more_deep (l : List Tok) (h : deep l = false) : deep (moreOf l) = false := by
  have h' : ∀ i, i ≤ l.length → (opn l i).length ≤ 64 := by
    intro i hi
    simp only [deep, decide_eq_false_iff_not] at h
    cases i with
    | zero => simp [opn]
    | succ i => exact Nat.le_of_not_lt fun hh => h ⟨i, by omega, hh⟩
  simp only [deep, decide_eq_false_iff_not]
  rintro ⟨i, h1, h2⟩
  rw [moreOf_len] at h1
  by_cases hi : i < l.length
  · rw [moreOf, opn_app l _ _ (by omega)] at h2
    have := h' (i + 1) (by omega); omega
  · have e : i + 1 = l.length + (i + 1 - l.length) := by omega
    rw [e, opn_more l _ (by omega), List.length_take] at h2
    have := h' l.length (Nat.le_refl _)
    omega
theorem end1_more (l : List Tok) (k : Nat) (hk : k < l.length) : (end1 l k = l.length ∧ (l.length : Int) ≤ end1 (moreOf l) k ∧ end1 (moreOf l) k < (moreOf l).length) ∨ (end1 l k ≠ l.length ∧ end1 (moreOf l) k = end1 l k) := by
  have hg : (moreOf l).getD k .zero = l.getD k .zero := getD_app l _ k hk
  by_cases hc : closing (l.getD k .zero) = ⟨#[]⟩
  · right
    have e1 : end1 l k = -1 := by unfold end1; rw [if_pos hc]
    have e2 : end1 (moreOf l) k = -1 := by unfold end1; rw [hg, if_pos hc]
    rw [e1, e2]; exact ⟨by omega, rfl⟩
  · have hc' : ¬ closing ((moreOf l).getD k .zero) = ⟨#[]⟩ := by rw [hg]; exact hc
    have e1 : end1 l k = feE l k := by unfold end1; rw [if_neg hc]; rfl
    have e2 : end1 (moreOf l) k = feE (moreOf l) k := by unfold end1; rw [if_neg hc']; rfl
    have hml := moreOf_len l
    rw [e1, e2]
    obtain ⟨ha, hb⟩ := end_spec l k hc hk
    obtain ⟨ha', hb'⟩ := end_spec (moreOf l) k hc' (by omega)
    rcases ha with ha | ⟨m, m1, m2, m3, m4, m5⟩
    · left
      have hin := hb l.length hk (by omega)
      refine ⟨ha, ?_, ?_⟩
      · rcases ha' with ha' | ⟨m', n1, n2, n3, n4, n5⟩
        · omega
        · rw [n1]
          refine Decidable.byContradiction fun hn => ?_
          have : (k : Int) ∈ opn (moreOf l) (m' + 1) := by
            rw [moreOf, opn_app l _ _ (by omega)]
            exact opn_stay' (by omega) (by omega) hin
          rw [n5] at this
          have := opn_mem _ _ _ this
          omega
      · rcases ha' with ha' | ⟨m', n1, n2, n3, n4, n5⟩
        · exfalso
          have h := hb' (moreOf l).length (by omega) (by omega)
          rw [hml, opn_more l _ (Nat.le_refl _)] at h
          simp at h
        · omega
    · right
      refine ⟨by omega, ?_⟩
      rw [m1]
      refine feE_eq (moreOf l) k m hc' m2 (by omega) ?_ ?_
      · rw [moreOf, opn_app l _ _ (by omega), m4]; simp
      · rw [moreOf, opn_app l _ _ (by omega), m5]; intro h; have := opn_mem _ _ _ h; omega
end Go.Proofs.Ytdpmcckoodeofaa
