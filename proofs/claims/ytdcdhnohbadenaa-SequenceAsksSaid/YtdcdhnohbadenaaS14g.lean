/- Segments, without the program: as few as can be. -/
import Derived.Test.YtdcdhnohbadenaaS14a
namespace Go.Proofs.Ytdcdhnohbadenaa
open Go.Sx
set_option linter.unusedSimpArgs false
set_option maxHeartbeats 1000000

def newS (d : Doc) (n : Nat) (k : Int) : Bool := decide (n = 0) || (frcV d k || chV13 d k)
def wStep (d : Doc) (out : List (List Int)) (n : Nat) (k : Int) : List (List Int) := if newS d n k = true then out ++ [[k]] else out.dropLast ++ [out.getLastD [] ++ [k]]
def whl (d : Doc) (l : List Int) : Nat → List (List Int)
  | 0 => []
  | n + 1 => wStep d (whl d l n) n (l.getD n 0)
def whlV (d : Doc) : List (List Int) := whl d (inV d) (inV d).length
theorem whl_split (d : Doc) (l : List Int) : ∀ n, 0 < n → ∃ pre last, whl d l n = pre ++ [last] ∧ last ≠ []
  | 0, h => by omega
  | n + 1, _ => by
    unfold whl wStep
    split
    · exact ⟨_, _, rfl, by simp⟩
    · exact ⟨_, _, rfl, by simp⟩
theorem whl_len (d : Doc) (l : List Int) : ∀ n, (whl d l n).length ≤ n
  | 0 => Nat.le_refl _
  | n + 1 => by
    have := whl_len d l n
    unfold whl wStep
    split
    · simp; omega
    · rename_i h
      have h0 : n ≠ 0 := fun e => h (by unfold newS; simp [e])
      simp [List.length_dropLast]; omega
theorem whl_new (d : Doc) (l : List Int) (n : Nat) (h : newS d n (l.getD n 0) = true) : whl d l (n + 1) = whl d l n ++ [[l.getD n 0]] := by
  conv => lhs; unfold whl wStep
  rw [if_pos h]
theorem whl_old (d : Doc) (l : List Int) (n : Nat) (h : ¬ newS d n (l.getD n 0) = true) {pre : List (List Int)} {last : List Int} (hs : whl d l n = pre ++ [last]) : whl d l (n + 1) = pre ++ [last ++ [l.getD n 0]] := by
  conv => lhs; unfold whl wStep
  rw [if_neg h, hs]; simp
/-- All of them, one behind the other; none is empty. -/
theorem whl_flat (d : Doc) (l : List Int) : ∀ n, n ≤ l.length → (whl d l n).flatten = l.take n ∧ ∀ s ∈ whl d l n, s ≠ []
  | 0, _ => by simp [whl]
  | n + 1, hn => by
    obtain ⟨h1, h2⟩ := whl_flat d l n (by omega)
    have ht : l.take (n + 1) = l.take n ++ [l.getD n 0] := by
      rw [List.take_add_one, List.getD_eq_getElem?_getD, List.getElem?_eq_getElem (by omega)]; rfl
    by_cases h : newS d n (l.getD n 0) = true
    · rw [whl_new d l n h]
      refine ⟨by rw [ht, ← h1]; simp, fun s hs => ?_⟩
      rcases List.mem_append.1 hs with hs | hs
      · exact h2 s hs
      · rw [List.mem_singleton.1 hs]; simp
    · have h0 : 0 < n := Nat.pos_of_ne_zero fun e => h (by unfold newS; simp [e])
      obtain ⟨pre, last, hs, hl⟩ := whl_split d l n h0
      rw [whl_old d l n h hs]
      rw [hs] at h1 h2
      refine ⟨by rw [ht, ← h1]; simp, fun s hs' => ?_⟩
      rcases List.mem_append.1 hs' with hs' | hs'
      · exact h2 s (by simp [hs'])
      · rw [List.mem_singleton.1 hs']; simp
/-- A segment begins where it must; what is behind its first one need not. -/
theorem whl_begin (d : Doc) (l : List Int) : ∀ n, n ≤ l.length → (∀ i, i < (whl d l n).length → i = 0 ∨ frcV d (((whl d l n).getD i []).getD 0 0) = true ∨ chV13 d (((whl d l n).getD i []).getD 0 0) = true) ∧
    ∀ s ∈ whl d l n, (s.drop 1).any (frcV d) = false ∧ (s.drop 1).any (chV13 d) = false
  | 0, _ => by simp [whl]
  | n + 1, hn => by
    obtain ⟨h1, h2⟩ := whl_begin d l n (by omega)
    by_cases h : newS d n (l.getD n 0) = true
    · rw [whl_new d l n h]
      refine ⟨fun i hi => ?_, fun s hs => ?_⟩
      · by_cases hi' : i < (whl d l n).length
        · have := h1 i hi'
          rw [List.getD_eq_getElem?_getD (l := whl d l n ++ _), List.getElem?_append_left hi', ← List.getD_eq_getElem?_getD]; exact this
        · have e : i = (whl d l n).length := by simp at hi; omega
          rw [List.getD_eq_getElem?_getD (l := whl d l n ++ _), e, List.getElem?_append_right (Nat.le_refl _)]
          simp only [Nat.sub_self, List.getElem?_cons_zero, Option.getD_some, List.getD_cons_zero]
          unfold newS at h
          simp only [Bool.or_eq_true, decide_eq_true_eq] at h
          rcases h with h | h
          · subst h; exact .inl rfl
          · exact .inr h
      · rcases List.mem_append.1 hs with hs | hs
        · exact h2 s hs
        · rw [List.mem_singleton.1 hs]; simp
    · have h0 : 0 < n := Nat.pos_of_ne_zero fun e => h (by unfold newS; simp [e])
      obtain ⟨pre, last, hs, hl⟩ := whl_split d l n h0
      rw [whl_old d l n h hs]
      rw [hs] at h1 h2
      refine ⟨fun i hi => ?_, fun s hs' => ?_⟩
      · have := h1 i (by simpa using hi)
        by_cases hi' : i < pre.length
        · rw [List.getD_eq_getElem?_getD (l := pre ++ _), List.getElem?_append_left hi', ← List.getD_eq_getElem?_getD] at this ⊢; exact this
        · have e : i = pre.length := by simp at hi; omega
          rw [List.getD_eq_getElem?_getD (l := pre ++ _), e, List.getElem?_append_right (Nat.le_refl _)] at this ⊢
          simp only [Nat.sub_self, List.getElem?_cons_zero, Option.getD_some] at this ⊢
          have e2 : (last ++ [l.getD n 0]).getD 0 0 = last.getD 0 0 := by
            cases last with
            | nil => exact absurd rfl hl
            | cons a b => rfl
          rw [e2]; exact this
      · rcases List.mem_append.1 hs' with hs' | hs'
        · exact h2 s (by simp [hs'])
        · obtain ⟨q1, q2⟩ := h2 last (by simp)
          rw [List.mem_singleton.1 hs']
          have e3 : (last ++ [l.getD n 0]).drop 1 = last.drop 1 ++ [l.getD n 0] := by
            cases last with
            | nil => exact absurd rfl hl
            | cons a b => rfl
          have h3 : frcV d (l.getD n 0) = false ∧ chV13 d (l.getD n 0) = false := by
            unfold newS at h; simp only [Bool.or_eq_true, not_or, Bool.not_eq_true] at h; exact h.2
          rw [e3, List.any_append, List.any_append, q1, q2]; simp only [List.any_cons, List.any_nil, h3.1, h3.2]; exact ⟨rfl, rfl⟩
end Go.Proofs.Ytdcdhnohbadenaa
