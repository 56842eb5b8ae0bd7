/- Flows: points, without the program: how many children there are. -/
import Derived.Test.YtihkcnibffddgaaDc
namespace Go.Proofs.Ytihkcnibffddgaa
open Go.Sx
set_option linter.unusedSimpArgs false
set_option maxHeartbeats 4000000
set_option maxRecDepth 20000

def sumN (p : Nat → Bool) (f : Nat → Nat) : Nat → Nat
  | 0 => 0
  | n + 1 => sumN p f n + if p n = true then f n else 0
theorem sumN_congr {p : Nat → Bool} {f g : Nat → Nat} : ∀ {n : Nat}, (∀ k, k < n → p k = true → f k = g k) → sumN p f n = sumN p g n
  | 0, _ => rfl
  | n + 1, h => by
    simp only [sumN]
    rw [sumN_congr fun k hk hp => h k (by omega) hp]
    by_cases hp : p n = true
    · rw [if_pos hp, if_pos hp, h n (by omega) hp]
    · rw [if_neg hp, if_neg hp]
theorem sumN_add (p : Nat → Bool) (f g : Nat → Nat) : ∀ n, sumN p (fun k => f k + g k) n = sumN p f n + sumN p g n
  | 0 => rfl
  | n + 1 => by
    simp only [sumN]
    rw [sumN_add p f g n]
    split <;> omega
theorem sumN_zero (p : Nat → Bool) : ∀ n, sumN p (fun _ => 0) n = 0
  | 0 => rfl
  | n + 1 => by simp only [sumN]; rw [sumN_zero p n]; split <;> rfl
theorem sumN_one (p : Nat → Bool) (a : Nat) : ∀ n, sumN p (fun k => if k = a then 1 else 0) n = if a < n ∧ p a = true then 1 else 0
  | 0 => by simp [sumN]
  | n + 1 => by
    simp only [sumN]
    rw [sumN_one p a n]
    by_cases e : n = a
    · subst e
      by_cases hp : p n = true <;> simp [hp]
    · by_cases hp : p n = true
      · rw [if_pos hp, if_neg e]
        by_cases h : a < n ∧ p a = true
        · rw [if_pos h, if_pos ⟨by omega, h.2⟩]
        · rw [if_neg h, if_neg]; rintro ⟨h1, h2⟩; exact h ⟨by omega, h2⟩
      · rw [if_neg hp]
        by_cases h : a < n ∧ p a = true
        · rw [if_pos h, if_pos ⟨by omega, h.2⟩]
        · rw [if_neg h, if_neg]; rintro ⟨h1, h2⟩; exact h ⟨by omega, h2⟩
theorem sumN_sel (p : Nat → Bool) (g : Nat → Nat) : ∀ n, ((selTo p n).map fun x => g x.toNat).sum = sumN p g n
  | 0 => rfl
  | n + 1 => by
    simp only [selTo, sumN]
    by_cases hp : p n = true
    · rw [if_pos hp, if_pos hp, List.map_append, List.sum_append, sumN_sel p g n]; simp
    · rw [if_neg hp, if_neg hp, sumN_sel p g n]; rfl
theorem selTo_no {p : Nat → Bool} {n : Nat} (h : ¬ p n = true) : selTo p (n + 1) = selTo p n := by
  conv => lhs; unfold selTo
  rw [if_neg h]
theorem kids_count {d : Doc} (h : okD d) : ∀ n, n + 1 ≤ d.l.length → sumN (isN d) (fun k => (selTo (kidP d k) (n + 1)).length) d.l.length + 1 = (selTo (isN d) (n + 1)).length
  | 0, hn => by
    have i0 : isN d 0 = true := by rw [isN_step h hn, show runB d 0 = false from h.r0]; rfl
    rw [show sumN (isN d) (fun k => (selTo (kidP d k) (0 + 1)).length) d.l.length = sumN (isN d) (fun _ => 0) d.l.length from sumN_congr fun k hk hp => by
      have : kidP d k 0 = false := by
        rw [kidP_in h hp (by omega), h.par0]; simp <;> omega
      simp only [selTo, this, Bool.false_eq_true, if_false]; rfl, sumN_zero]
    simp only [selTo, i0, if_true]; rfl
  | n + 1, hn => by
    have ih := kids_count h n (by omega)
    have hu := h.up (by omega : 0 < n + 1) (by omega)
    have e : sumN (isN d) (fun k => (selTo (kidP d k) (n + 1 + 1)).length) d.l.length = sumN (isN d) (fun k => (selTo (kidP d k) (n + 1)).length + if k = up d (n + 1) then (if isN d (n + 1) = true then 1 else 0) else 0) d.l.length := by
      refine sumN_congr fun k hk hp => ?_
      have hkp := kidP_in h hp (show n + 1 < d.l.length by omega)
      conv => lhs; unfold selTo
      by_cases hk' : kidP d k (n + 1) = true
      · rw [if_pos hk']
        rw [hkp] at hk'
        simp only [Bool.and_eq_true, decide_eq_true_eq] at hk'
        rw [hu.1] at hk'
        rw [if_pos (by omega), if_pos hk'.2]; simp
      · rw [if_neg hk']
        rw [hkp] at hk'
        simp only [Bool.and_eq_true, decide_eq_true_eq] at hk'
        rw [hu.1] at hk'
        by_cases e : k = up d (n + 1)
        · rw [if_pos e, if_neg (fun hi => hk' ⟨by omega, hi⟩)]; rfl
        · rw [if_neg e]; rfl
    rw [e, sumN_add]
    by_cases hi : isN d (n + 1) = true
    · have hpar := isN_parent h (by omega : 0 < n + 1) (by omega) hi
      have e2 := sumN_one (isN d) (up d (n + 1)) d.l.length
      rw [if_pos ⟨by omega, hpar⟩] at e2
      conv => rhs; unfold selTo
      rw [if_pos hi]
      simp only [hi, if_true] at *
      rw [e2, List.length_append, ← ih]; simp
    · rw [selTo_no hi, ← ih]
      rw [show sumN (isN d) (fun k => if k = up d (n + 1) then (if isN d (n + 1) = true then 1 else 0) else 0) d.l.length = sumN (isN d) (fun _ => 0) d.l.length from sumN_congr fun k _ _ => by rw [if_neg hi]; split <;> rfl, sumN_zero]
theorem kids_all {d : Doc} (h : okD d) : ((inL d).map fun x => (kids d x.toNat).length).sum + 1 = (inL d).length := by
  have hl := h.doc.1
  have := kids_count h (d.l.length - 1) (by omega)
  rw [show d.l.length - 1 + 1 = d.l.length by omega] at this
  unfold inL
  rw [sumN_sel (isN d) (fun k => (kids d k).length)]
  exact this
theorem sel_at (p : Nat → Bool) : ∀ (n i : Nat), i < (selTo p n).length → ∃ m : Nat, (selTo p n).getD i 0 = m ∧ m < n ∧ p m = true ∧ (selTo p m).length = i
  | 0, i, h => by simp [selTo] at h
  | n + 1, i, h => by
    simp only [selTo] at h ⊢
    by_cases hp : p n = true
    · rw [if_pos hp] at h ⊢
      by_cases hi : i < (selTo p n).length
      · obtain ⟨m, a, b, c, e⟩ := sel_at p n i hi
        exact ⟨m, by rw [List.getD_eq_getElem?_getD, List.getElem?_append_left hi, ← List.getD_eq_getElem?_getD]; exact a, by omega, c, e⟩
      · have : i = (selTo p n).length := by rw [List.length_append] at h; simp at h; omega
        exact ⟨n, by rw [this]; simp [List.getD_eq_getElem?_getD], by omega, hp, this.symm⟩
    · rw [if_neg hp] at h ⊢
      obtain ⟨m, a, b, c, e⟩ := sel_at p n i h
      exact ⟨m, a, by omega, c, e⟩
/-- A child stands where as many stand ahead of it; it is a point if there are any. -/
theorem kid_at {d : Doc} (h : okD d) (hr : rightB d = true) {k : Nat} (hk : k < d.l.length) (hi : isN d k = true) {i : Nat} (hil : i < (kids d k).length) :
    ∃ m : Nat, (kids d k).getD i 0 = m ∧ m < d.l.length ∧ isN d m = true ∧ ptV d m = decide (0 < (i : Int)) := by
  obtain ⟨m, a, b, c, e⟩ := sel_at (kidP d k) d.l.length i hil
  have hm := kids_in h hi b c
  have hpar := kidP_par c
  have h0 : 0 < m := by
    rcases Nat.eq_zero_or_pos m with z | z
    · subst z; rw [h.par0] at hpar; omega
    · exact z
  have hu := h.up h0 b
  have huk : up d m = k := by omega
  obtain ⟨p1, p2, p3, p4⟩ := older_plain h h0 b hm
  rw [huk, e] at p2 p3
  refine ⟨m, a, b, hm, ?_⟩
  unfold ptV
  rw [thV_at hr b, hm, Int.toNat_natCast, Bool.true_and]
  by_cases hz : i = 0
  · rw [p2 hz, hz]; rfl
  · have := (p3 (by omega)).2
    rw [Bool.eq_iff_iff, decide_eq_true_eq, decide_eq_true_eq]; omega
theorem pt_zero {d : Doc} : ptV d 0 = false := by
  unfold ptV oldN; simp
theorem sum_take (l : List Int) (f : Int → Nat) (i : Nat) (hi : i < l.length) : ((l.take (i + 1)).map f).sum = ((l.take i).map f).sum + f (l.getD i 0) := by
  rw [take_snoc l i hi, List.map_append, List.sum_append]; simp
end Go.Proofs.Ytihkcnibffddgaa
