/- Segments, without the program: which segment may not, and why. -/
import Derived.Test.YtdcdhnohbadenaaN13k
import Derived.Test.YtdcdhnohbadenaaF12b
namespace Go.Proofs.Ytdcdhnohbadenaa
open Go.Sx
set_option linter.unusedSimpArgs false
set_option maxHeartbeats 1000000

def prt (d : Doc) (inn : List Int) : Nat → Nat → List (List Int) → Int
  | a, n, [] => if a < inn.length then (n : Int) else -1
  | a, n, s :: r => if (inn.drop a).take s.length = s ∧ s ≠ [] ∧ (n = 0 ∨ ptV d (s.getD 0 0) = true) then prt d inn (a + s.length) (n + 1) r else n
def ovr (p : Int → Bool) : Nat → List (List Int) → Int
  | _, [] => -1
  | n, s :: r => if (s.drop 1).any p = true then (n : Int) else ovr p (n + 1) r
def frcV (d : Doc) (k : Int) : Bool := ptV d k && decide (2 ≤ ahdV d k ∧ ahdV d k ≤ 4)
def prtS (d : Doc) (sc : List (List Int)) : Int := prt d (inV d) 0 0 sc
def chkI (d : Doc) (sc : List (List Int)) : Int × Int :=
  if 0 ≤ prtS d sc then (prtS d sc, 6) else if 0 ≤ ovr (frcV d) 0 sc then (ovr (frcV d) 0 sc, 7) else if 0 ≤ ovr (chV13 d) 0 sc then (ovr (chV13 d) 0 sc, 8) else (0, 0)
def chkS (d : Doc) (sc : List (List Int)) : Int × Int := if rightB d = true then (if 4096 < sc.length then (0, 2) else chkI d sc) else (0, 1)

theorem drop_cons' {α : Type} (l : List α) (n : Nat) (d : α) (h : n < l.length) : l.drop n = l.getD n d :: l.drop (n + 1) := by
  rw [List.drop_eq_getElem_cons h, List.getD_eq_getElem?_getD, List.getElem?_eq_getElem h]; rfl
/-- As many as a segment has stand there one by one. -/
theorem take_eq_iff (inn s : List Int) (a : Nat) : (inn.drop a).take s.length = s ↔ ∀ i, i < s.length → a + i < inn.length ∧ inn.getD (a + i) 0 = s.getD i 0 := by
  constructor
  · intro h i hi
    have hl := congrArg List.length h
    rw [List.length_take, List.length_drop] at hl
    have h1 : a + i < inn.length := by omega
    refine ⟨h1, ?_⟩
    have h2 : ((inn.drop a).take s.length)[i]? = s[i]? := by rw [h]
    rw [List.getElem?_take, if_pos hi, List.getElem?_drop] at h2
    rw [List.getD_eq_getElem?_getD, List.getD_eq_getElem?_getD, h2]
  · intro h
    apply List.ext_getElem?
    intro i
    rw [List.getElem?_take]
    split
    · rename_i hi
      obtain ⟨h1, h2⟩ := h i hi
      rw [List.getElem?_drop, List.getElem?_eq_getElem h1, List.getElem?_eq_getElem hi]
      rw [List.getD_eq_getElem?_getD, List.getD_eq_getElem?_getD, List.getElem?_eq_getElem h1, List.getElem?_eq_getElem hi] at h2
      simpa using h2
    · rename_i hi
      rw [List.getElem?_eq_none (by omega)]
theorem prt_step (d : Doc) (inn : List Int) (a n : Nat) (sc : List (List Int)) (hn : n < sc.length) : prt d inn a n (sc.drop n) =
    if (inn.drop a).take (sc.getD n []).length = sc.getD n [] ∧ sc.getD n [] ≠ [] ∧ (n = 0 ∨ ptV d ((sc.getD n []).getD 0 0) = true) then prt d inn (a + (sc.getD n []).length) (n + 1) (sc.drop (n + 1)) else n := by
  rw [drop_cons' sc n [] hn]; rfl
theorem ovr_step (p : Int → Bool) (n : Nat) (sc : List (List Int)) (hn : n < sc.length) : ovr p n (sc.drop n) = if ((sc.getD n []).drop 1).any p = true then (n : Int) else ovr p (n + 1) (sc.drop (n + 1)) := by
  rw [drop_cons' sc n [] hn]; rfl
theorem ovr_ge (p : Int → Bool) : ∀ (sc : List (List Int)) (n : Nat), ovr p n sc = -1 ∨ (n : Int) ≤ ovr p n sc
  | [], _ => .inl rfl
  | s :: r, n => by
    unfold ovr
    split
    · exact .inr (Int.le_refl _)
    · rcases ovr_ge p r (n + 1) with h | h
      · exact .inl h
      · right; omega
theorem ovr_hi (p : Int → Bool) : ∀ (sc : List (List Int)) (n : Nat), ovr p n sc < (n + sc.length : Nat)
  | [], n => by simp [ovr]; omega
  | s :: r, n => by
    unfold ovr
    split
    · simp; omega
    · have := ovr_hi p r (n + 1); simp at this ⊢; omega
theorem ovr_none (p : Int → Bool) : ∀ (sc : List (List Int)) (n : Nat), ovr p n sc = -1 ↔ ∀ s ∈ sc, (s.drop 1).any p = false
  | [], n => by simp [ovr]
  | s :: r, n => by
    unfold ovr
    by_cases h : (s.drop 1).any p = true
    · rw [if_pos h]
      constructor
      · intro hh; omega
      · intro hh; have := hh s (by simp); rw [h] at this; cases this
    · rw [if_neg h, ovr_none p r (n + 1)]
      constructor
      · intro hh t ht
        rcases List.mem_cons.1 ht with rfl | ht
        · simpa using h
        · exact hh t ht
      · intro hh t ht; exact hh t (by simp [ht])
theorem prt_ge (d : Doc) (inn : List Int) : ∀ (sc : List (List Int)) (a n : Nat), prt d inn a n sc = -1 ∨ (n : Int) ≤ prt d inn a n sc
  | [], a, n => by unfold prt; split <;> simp
  | s :: r, a, n => by
    unfold prt
    split
    · rcases prt_ge d inn r (a + s.length) (n + 1) with h | h
      · exact .inl h
      · right; omega
    · exact .inr (Int.le_refl _)
/-- All segments together are what is in flow, each one begins rightly. -/
theorem prt_none (d : Doc) (inn : List Int) : ∀ (sc : List (List Int)) (a n : Nat), a ≤ inn.length → (prt d inn a n sc = -1 ↔ sc.flatten = inn.drop a ∧ (∀ s ∈ sc, s ≠ []) ∧ ∀ i, i < sc.length → n + i = 0 ∨ ptV d ((sc.getD i []).getD 0 0) = true)
  | [], a, n, ha => by
    unfold prt
    by_cases h : a < inn.length
    · rw [if_pos h]
      constructor
      · intro hh; omega
      · intro hh
        have := congrArg List.length hh.1
        simp at this; omega
    · rw [if_neg h]
      simp [List.drop_eq_nil_of_le (show inn.length ≤ a by omega)]
  | s :: r, a, n, ha => by
    unfold prt
    by_cases h : (inn.drop a).take s.length = s ∧ s ≠ [] ∧ (n = 0 ∨ ptV d (s.getD 0 0) = true)
    · rw [if_pos h]
      obtain ⟨h1, h2, h3⟩ := h
      have hl := congrArg List.length h1
      rw [List.length_take, List.length_drop] at hl
      rw [prt_none d inn r (a + s.length) (n + 1) (by omega)]
      have e : inn.drop a = s ++ inn.drop (a + s.length) := by
        conv => lhs; rw [← List.take_append_drop s.length (inn.drop a), h1, List.drop_drop]
      rw [e, List.flatten_cons]
      constructor
      · rintro ⟨q1, q2, q3⟩
        refine ⟨by rw [q1], fun t ht => ?_, fun i hi => ?_⟩
        · rcases List.mem_cons.1 ht with rfl | ht
          · exact h2
          · exact q2 t ht
        · cases i with
          | zero => rcases h3 with h3 | h3; exact .inl (by omega); exact .inr h3
          | succ i => rcases q3 i (by simpa using hi) with h | h; exact .inl (by omega); exact .inr h
      · rintro ⟨q1, q2, q3⟩
        refine ⟨List.append_cancel_left q1, fun t ht => q2 t (by simp [ht]), fun i hi => ?_⟩
        rcases q3 (i + 1) (by simpa using hi) with h | h
        · exact .inl (by omega)
        · exact .inr h
    · rw [if_neg h]
      constructor
      · intro hh; omega
      · rintro ⟨q1, q2, q3⟩
        refine absurd ⟨?_, q2 s (by simp), ?_⟩ h
        · rw [← q1, List.flatten_cons, List.take_left' rfl]
        · rcases q3 0 (by simp) with h | h
          · exact .inl (by omega)
          · exact .inr h
end Go.Proofs.Ytdcdhnohbadenaa
