/- Layer 5, without the program: one pass finds the ends that are defined. -/
import Derived.Test.YtilinnmancfjgaaGreatDoorL5d
namespace Go.Proofs.YtilinnmancfjgaaGreatDoor
open Go.Sx
set_option linter.unusedSimpArgs false
set_option maxHeartbeats 1000000

theorem opn_succ (l : List Tok) (m : Nat) : opn l (m + 1) = stepO l (opn l m) m := rfl
theorem opn_push {l : List Tok} {m : Nat} (h : ¬ closing (l.getD m .zero) = ⟨#[]⟩) : opn l (m + 1) = opn l m ++ [(m : Int)] := by rw [opn_succ, stepO, if_pos h]
theorem opn_pop {l : List Tok} {m : Nat} (h : pops l (opn l m) m) : opn l (m + 1) = (opn l m).take ((opn l m).length - 1) := by
  rw [opn_succ, stepO, if_neg (by simpa using h.1), if_pos h.2]
theorem opn_same {l : List Tok} {m : Nat} (h : closing (l.getD m .zero) = ⟨#[]⟩) (hp : ¬ pops l (opn l m) m) : opn l (m + 1) = opn l m := by
  rw [opn_succ, stepO, if_neg (by simpa using h), if_neg (fun hh => hp ⟨h, hh⟩)]
theorem opn_gone {l : List Tok} {k m : Nat} (hk : k < m) (h : ¬ (k : Int) ∈ opn l m) : ¬ (k : Int) ∈ opn l (m + 1) := by
  by_cases hc : closing (l.getD m .zero) = ⟨#[]⟩
  · by_cases hp : pops l (opn l m) m
    · rw [opn_pop hp]; exact fun hh => h (List.mem_of_mem_take hh)
    · rw [opn_same hc hp]; exact h
  · rw [opn_push hc]; simp only [List.mem_append, List.mem_singleton, not_or]; exact ⟨h, by omega⟩
theorem opn_stay {l : List Tok} {k : Nat} : ∀ (d m : Nat), k < m → (k : Int) ∈ opn l (m + d) → (k : Int) ∈ opn l m
  | 0, _, _, h => h
  | d + 1, m, hk, h => opn_stay d m hk (Decidable.byContradiction fun hn => opn_gone (by omega) hn h)
theorem opn_stay' {l : List Tok} {k m m' : Nat} (hk : k < m) (hm : m ≤ m') (h : (k : Int) ∈ opn l m') : (k : Int) ∈ opn l m := by
  obtain ⟨d, rfl⟩ : ∃ d, m' = m + d := ⟨m' - m, by omega⟩
  exact opn_stay d m hk h
theorem opn_closing {l : List Tok} : ∀ (m : Nat) (k : Nat), (k : Int) ∈ opn l m → ¬ closing (l.getD k .zero) = ⟨#[]⟩
  | 0, k, h => by simp [opn] at h
  | m + 1, k, h => by
    by_cases hc : closing (l.getD m .zero) = ⟨#[]⟩
    · by_cases hp : pops l (opn l m) m
      · rw [opn_pop hp] at h; exact opn_closing m k (List.mem_of_mem_take h)
      · rw [opn_same hc hp] at h; exact opn_closing m k h
    · rw [opn_push hc] at h
      simp only [List.mem_append, List.mem_singleton] at h
      rcases h with h | h
      · exact opn_closing m k h
      · have : k = m := by omega
        subst this; exact hc
theorem opn_nodup (l : List Tok) : ∀ m, (opn l m).Nodup
  | 0 => by simp [opn]
  | m + 1 => by
    have ih := opn_nodup l m
    by_cases hc : closing (l.getD m .zero) = ⟨#[]⟩
    · by_cases hp : pops l (opn l m) m
      · rw [opn_pop hp]; exact ih.sublist (List.take_sublist _ _)
      · rw [opn_same hc hp]; exact ih
    · rw [opn_push hc, List.nodup_append]
      refine ⟨ih, by simp, fun a ha b hb => ?_⟩
      have := opn_mem l m a ha
      simp at hb
      omega
theorem opn_form {l : List Tok} {k : Nat} (hc : ¬ closing (l.getD k .zero) = ⟨#[]⟩) : ∀ (d : Nat), (k : Int) ∈ opn l (k + 1 + d) → ∃ t, opn l (k + 1 + d) = opn l k ++ (k : Int) :: t
  | 0, _ => ⟨[], opn_push hc⟩
  | d + 1, h => by
    have hin : (k : Int) ∈ opn l (k + 1 + d) := opn_stay' (by omega) (by omega) h
    obtain ⟨t, ht⟩ := opn_form hc d hin
    have e : k + 1 + (d + 1) = (k + 1 + d) + 1 := by omega
    rw [e] at h ⊢
    generalize k + 1 + d = m at *
    by_cases hm : closing (l.getD m .zero) = ⟨#[]⟩
    · by_cases hp : pops l (opn l m) m
      · rw [opn_pop hp] at h ⊢
        rw [ht] at h ⊢
        have e2 : (opn l k ++ (k : Int) :: t).length - 1 = (opn l k).length + t.length := by simp
        rw [e2, List.take_append, List.take_of_length_le (by omega)] at h ⊢
        cases t with
        | nil =>
          simp at h
          have := opn_mem l k _ h
          omega
        | cons x t => exact ⟨(x :: t).take t.length, by simp⟩
      · rw [opn_same hm hp]; exact ⟨t, ht⟩
    · rw [opn_push hm]; exact ⟨t ++ [(m : Int)], by rw [ht]; simp⟩
theorem condC_iff {l : List Tok} {k j : Nat} (hc : ¬ closing (l.getD k .zero) = ⟨#[]⟩) (hj : k ≤ j) : condC l k j ↔ ¬ (k : Int) ∈ opn l (j + 1) := by
  have hd : (opn l (k + 1)).length = (opn l k).length + 1 := by rw [opn_push hc]; simp
  constructor
  · intro h hin
    obtain ⟨d, rfl⟩ : ∃ d, j = k + d := ⟨j - k, by omega⟩
    have e : k + d + 1 = k + 1 + d := by omega
    unfold condC at h
    rw [e] at h hin
    obtain ⟨t, ht⟩ := opn_form hc d hin
    rw [ht, hd] at h
    rcases h with h | h
    · simp at h
    · apply h; simp [List.getD_eq_getElem?_getD]
  · intro hn
    unfold condC
    by_cases h1 : (opn l (j + 1)).length < (opn l (k + 1)).length
    · exact .inl h1
    · refine .inr fun h2 => hn ?_
      rw [← h2, List.getD_eq_getElem?_getD, List.getElem?_eq_getElem (by omega)]
      exact List.getElem_mem _
theorem fe_skip {l : List Tok} {k : Nat} : ∀ (d j : Nat), j + d ≤ l.length → (∀ i, j ≤ i → i < j + d → ¬ condC l k i) → fe l k (l.length - j) j = fe l k (l.length - (j + d)) (j + d)
  | 0, _, _, _ => rfl
  | d + 1, j, h, hn => by
    rw [fe_step l k j (by omega), if_neg (hn j (by omega) (by omega)), fe_skip d (j + 1) (by omega) (fun i h1 h2 => hn i (by omega) (by omega))]
    have e : j + 1 + d = j + (d + 1) := by omega
    rw [e]

theorem getD_set (o : List Int) (i k : Nat) (v : Int) (hk : k < o.length) : (o.set i v).getD k 0 = if i = k then v else o.getD k 0 := by
  rw [List.getD_eq_getElem?_getD, List.getElem?_set]
  split
  · rename_i h; subst h; simp [hk]
  · rw [List.getD_eq_getElem?_getD]
def feE (l : List Tok) (k : Nat) : Int := fe l k (l.length - (k + 1)) (k + 1)
theorem nOut_get (l : List Tok) : ∀ (m : Nat), m ≤ l.length → ∀ k, k < m → (nOut l m).getD k 0 = if closing (l.getD k .zero) = ⟨#[]⟩ then -1 else if (k : Int) ∈ opn l m then -1 else feE l k
  | 0, _, k, hk => by omega
  | m + 1, hm, k, hk => by
    have ih := nOut_get l m (by omega)
    have hlen := nOut_len l m
    by_cases hp : pops l (opn l m) m
    · have hop := opn_pop hp
      have h0 := hp.2.2.1
      have ho : ∃ o : Nat, (opn l m).getD ((opn l m).length - 1) 0 = (o : Int) ∧ o < m ∧ (o : Int) ∈ opn l m := by
        have hin : (opn l m).getD ((opn l m).length - 1) 0 ∈ opn l m := by
          rw [List.getD_eq_getElem?_getD, List.getElem?_eq_getElem (by omega)]; exact List.getElem_mem _
        have := opn_mem l m _ hin
        exact ⟨((opn l m).getD ((opn l m).length - 1) 0).toNat, by omega, by omega, by rw [Int.toNat_of_nonneg this.1]; exact hin⟩
      obtain ⟨o, ho, hom, hoin⟩ := ho
      have hsplit : opn l m = opn l (m + 1) ++ [(o : Int)] := by
        rw [hop]
        have e := List.take_append_drop ((opn l m).length - 1) (opn l m)
        rw [List.drop_eq_getElem_cons (by omega)] at e
        have e2 : (opn l m)[(opn l m).length - 1]'(by omega) = (o : Int) := by
          rw [← ho, List.getD_eq_getElem?_getD, List.getElem?_eq_getElem (by omega)]; rfl
        rw [e2, show (opn l m).length - 1 + 1 = (opn l m).length by omega, List.drop_length] at e
        exact e.symm
      have hnot : ¬ (o : Int) ∈ opn l (m + 1) := by
        have := opn_nodup l m
        rw [hsplit, List.nodup_append] at this
        exact fun h => this.2.2 _ h _ (by simp) rfl
      simp only [nOut, if_pos hp, ho, Int.toNat_natCast]
      rw [getD_set _ _ _ _ (by simp; omega), getD_set _ _ _ _ (by omega)]
      by_cases h1 : o = k
      · subst h1
        rw [if_pos rfl, if_neg (opn_closing m o hoin), if_neg hnot]
        unfold feE
        have hc := opn_closing m o hoin
        obtain ⟨d, hd⟩ : ∃ d, m = o + 1 + d := ⟨m - (o + 1), by omega⟩
        rw [fe_skip d (o + 1) (by omega) (fun i hi1 hi2 => by
          rw [condC_iff hc (by omega)]
          exact fun hn => hn (opn_stay' (by omega) (by omega) hoin)), ← hd, fe_step l o m (by omega), if_pos ((condC_iff hc (by omega)).2 hnot)]
      · rw [if_neg h1]
        by_cases h2 : m = k
        · subst h2; rw [if_pos rfl, if_pos hp.1]
        · rw [if_neg h2, ih k (by omega)]
          have : (k : Int) ∈ opn l m ↔ (k : Int) ∈ opn l (m + 1) := by
            rw [hsplit]; simp only [List.mem_append, List.mem_singleton]
            constructor
            · rintro (h | h)
              · exact h
              · omega
            · exact fun h => .inl h
          simp only [this]
    · simp only [nOut, if_neg hp]
      rw [getD_set _ _ _ _ (by omega)]
      by_cases h2 : m = k
      · subst h2
        rw [if_pos rfl]
        by_cases hc : closing (l.getD m .zero) = ⟨#[]⟩
        · rw [if_pos hc]
        · rw [if_neg hc, if_pos (by rw [opn_push hc]; simp)]
      · rw [if_neg h2, ih k (by omega)]
        have : (k : Int) ∈ opn l m ↔ (k : Int) ∈ opn l (m + 1) := by
          by_cases hc : closing (l.getD m .zero) = ⟨#[]⟩
          · rw [opn_same hc hp]
          · rw [opn_push hc]; simp only [List.mem_append, List.mem_singleton]
            constructor
            · exact fun h => .inl h
            · rintro (h | h)
              · exact h
              · omega
        simp only [this]
theorem fold_set (v : Int) : ∀ (t : List Int) (o : List Int) (k : Nat), (∀ x ∈ t, 0 ≤ x) → k < o.length → (t.foldl (fun o x => o.set x.toNat v) o).getD k 0 = if (k : Int) ∈ t then v else o.getD k 0
  | [], o, k, _, _ => by simp
  | x :: t, o, k, hx, hk => by
    have h0 := hx x (by simp)
    rw [List.foldl_cons, fold_set v t _ k (fun y hy => hx y (by simp [hy])) (by simpa using hk), getD_set _ _ _ _ hk]
    by_cases h1 : (k : Int) ∈ t
    · simp [h1]
    · have e : x.toNat = k ↔ (k : Int) = x := by omega
      simp only [List.mem_cons, h1, or_false, if_false, e]
theorem nFin_eq (l : List Tok) : nFin l (opn l l.length).length = endsTo l l.length := by
  have hlen : ∀ (t o : List Int), (t.foldl (fun o x => o.set x.toNat (l.length : Int)) o).length = o.length := by
    intro t
    induction t with
    | nil => intro o; rfl
    | cons x t ih => intro o; rw [List.foldl_cons, ih]; simp
  have hl2 : (nFin l (opn l l.length).length).length = l.length := by unfold nFin; rw [hlen, nOut_len]
  apply List.ext_getElem (by rw [hl2, endsTo_len])
  intro k h1 h2
  have hk : k < l.length := by omega
  have e1 : (nFin l (opn l l.length).length)[k] = (nFin l (opn l l.length).length).getD k 0 := by rw [List.getD_eq_getElem?_getD, List.getElem?_eq_getElem h1]; rfl
  rw [e1]
  unfold nFin
  rw [List.take_length, fold_set _ _ _ _ (fun x hx => (opn_mem l _ x hx).1) (by rw [nOut_len]; exact hk), nOut_get l l.length (Nat.le_refl _) k hk]
  simp only [endsTo, List.getElem_map, List.getElem_range, end1]
  by_cases hin : (k : Int) ∈ opn l l.length
  · have hc := opn_closing _ k hin
    rw [if_pos hin, if_neg hc]
    obtain ⟨d, hd⟩ : ∃ d, l.length = k + 1 + d := ⟨l.length - (k + 1), by omega⟩
    rw [fe_skip d (k + 1) (by omega) (fun i hi1 hi2 => by
      rw [condC_iff hc (by omega)]
      exact fun hn => hn (opn_stay' (by omega) (by omega) hin)), ← hd]
    simp [fe]
  · rw [if_neg hin, if_neg hin]; rfl
theorem nEnds_eq (l : List Tok) : nEnds l = endsR l := by
  unfold nEnds endsR
  rw [nFin_eq]
end Go.Proofs.YtilinnmancfjgaaGreatDoor
