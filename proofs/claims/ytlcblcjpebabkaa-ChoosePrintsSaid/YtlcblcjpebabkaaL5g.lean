/- Layer 5, without the program: one pass finds the ends that are defined. -/
import Derived.Test.YtlcblcjpebabkaaL5d
namespace Go.Proofs.Ytlcblcjpebabkaa
open Go.Sx
set_option linter.unusedSimpArgs false
set_option maxHeartbeats 1000000

theorem opn_succ (l : List Tok) (m : Nat) : opn l (m + 1) = stepO l (opn l m) m := rfl
theorem opn_push {l : List Tok} {m : Nat} (h : ¬ closing (l.getD m .zero) = ⟨#[]⟩) : opn l (m + 1) = opn l m ++ [(m : Int)] := by rw [opn_succ, stepO, if_pos h]
theorem opn_pop {l : List Tok} {m : Nat} (h : pops l (opn l m) m) : opn l (m + 1) = (opn l m).take ((opn l m).length - 1) := by
  rw [opn_succ, stepO, if_neg (by simpa using h.1), if_pos h.2]
theorem opn_same {l : List Tok} {m : Nat} (h : closing (l.getD m .zero) = ⟨#[]⟩) (hp : ¬ pops l (opn l m) m) : opn l (m + 1) = opn l m := by
  rw [opn_succ, stepO, if_neg (by simpa using h), if_neg (fun hh => hp ⟨h, hh⟩)]
theorem opn_gone {l : List Tok} {k m : Nat} (hk : k < m) (h : ¬ (k : Int) ∈ opn l m) : ¬ (k : Int) ∈ opn l (m + 1) := by
  by_cases hc : closing (l.getD m .zero) = ⟨#[]⟩
  · by_cases hp : pops l (opn l m) m
    · rw [opn_pop hp]; exact fun hh => h (List.mem_of_mem_take hh)
    · rw [opn_same hc hp]; exact h
  · rw [opn_push hc]; simp only [List.mem_append, List.mem_singleton, not_or]; exact ⟨h, by omega⟩
theorem opn_stay {l : List Tok} {k : Nat} : ∀ (d m : Nat), k < m → (k : Int) ∈ opn l (m + d) → (k : Int) ∈ opn l m
  | 0, _, _, h => h
  | d + 1, m, hk, h => opn_stay d m hk (Decidable.byContradiction fun hn => opn_gone (by omega) hn h)
theorem opn_stay' {l : List Tok} {k m m' : Nat} (hk : k < m) (hm : m ≤ m') (h : (k : Int) ∈ opn l m') : (k : Int) ∈ opn l m := by
  obtain ⟨d, rfl⟩ : ∃ d, m' = m + d := ⟨m' - m, by omega⟩
  exact opn_stay d m hk h
theorem opn_form {l : List Tok} {k : Nat} (hc : ¬ closing (l.getD k .zero) = ⟨#[]⟩) : ∀ (d : Nat), (k : Int) ∈ opn l (k + 1 + d) → ∃ t, opn l (k + 1 + d) = opn l k ++ (k : Int) :: t
  | 0, _ => ⟨[], opn_push hc⟩
  | d + 1, h => by
    have hin : (k : Int) ∈ opn l (k + 1 + d) := opn_stay' (by omega) (by omega) h
    obtain ⟨t, ht⟩ := opn_form hc d hin
    have e : k + 1 + (d + 1) = (k + 1 + d) + 1 := by omega
    rw [e] at h ⊢
    generalize k + 1 + d = m at *
    by_cases hm : closing (l.getD m .zero) = ⟨#[]⟩
    · by_cases hp : pops l (opn l m) m
      · rw [opn_pop hp] at h ⊢
        rw [ht] at h ⊢
        have e2 : (opn l k ++ (k : Int) :: t).length - 1 = (opn l k).length + t.length := by simp
        rw [e2, List.take_append, List.take_of_length_le (by omega)] at h ⊢
        cases t with
        | nil =>
          simp at h
          have := opn_mem l k _ h
          omega
        | cons x t => exact ⟨(x :: t).take t.length, by simp⟩
      · rw [opn_same hm hp]; exact ⟨t, ht⟩
    · rw [opn_push hm]; exact ⟨t ++ [(m : Int)], by rw [ht]; simp⟩
theorem condC_iff {l : List Tok} {k j : Nat} (hc : ¬ closing (l.getD k .zero) = ⟨#[]⟩) (hj : k ≤ j) : condC l k j ↔ ¬ (k : Int) ∈ opn l (j + 1) := by
  have hd : (opn l (k + 1)).length = (opn l k).length + 1 := by rw [opn_push hc]; simp
  constructor
  · intro h hin
    obtain ⟨d, rfl⟩ : ∃ d, j = k + d := ⟨j - k, by omega⟩
    have e : k + d + 1 = k + 1 + d := by omega
    unfold condC at h
    rw [e] at h hin
    obtain ⟨t, ht⟩ := opn_form hc d hin
    rw [ht, hd] at h
    rcases h with h | h
    · simp at h
    · apply h; simp [List.getD_eq_getElem?_getD]
  · intro hn
    unfold condC
    by_cases h1 : (opn l (j + 1)).length < (opn l (k + 1)).length
    · exact .inl h1
    · refine .inr fun h2 => hn ?_
      rw [← h2, List.getD_eq_getElem?_getD, List.getElem?_eq_getElem (by omega)]
      exact List.getElem_mem _
theorem getD_set (o : List Int) (i k : Nat) (v : Int) (hk : k < o.length) : (o.set i v).getD k 0 = if i = k then v else o.getD k 0 := by
  rw [List.getD_eq_getElem?_getD, List.getElem?_set]
  split
  · rename_i h; subst h; simp [hk]
  · rw [List.getD_eq_getElem?_getD]
def feE (l : List Tok) (k : Nat) : Int := fe l k (l.length - (k + 1)) (k + 1)
theorem fold_set (v : Int) : ∀ (t : List Int) (o : List Int) (k : Nat), (∀ x ∈ t, 0 ≤ x) → k < o.length → (t.foldl (fun o x => o.set x.toNat v) o).getD k 0 = if (k : Int) ∈ t then v else o.getD k 0
  | [], o, k, _, _ => by simp
  | x :: t, o, k, hx, hk => by
    have h0 := hx x (by simp)
    rw [List.foldl_cons, fold_set v t _ k (fun y hy => hx y (by simp [hy])) (by simpa using hk), getD_set _ _ _ _ hk]
    by_cases h1 : (k : Int) ∈ t
    · simp [h1]
    · have e : x.toNat = k ↔ (k : Int) = x := by omega
      simp only [List.mem_cons, h1, or_false, if_false, e]
end Go.Proofs.Ytlcblcjpebabkaa
