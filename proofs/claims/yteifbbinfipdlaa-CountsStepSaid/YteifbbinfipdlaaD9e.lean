/- Layer 9, without the program: documents. -/
import Derived.Test.YteifbbinfipdlaaD9d
namespace Go.Proofs.Yteifbbinfipdlaa
open Go.Sx
set_option linter.unusedSimpArgs false
set_option maxHeartbeats 1000000

theorem clb_stop (l : List Node) (of k : Int) (f : Nat) (h : ¬ of < k) : clb l of f k = k := by
  cases f with
  | zero => rfl
  | succ f => simp only [clb]; rw [if_neg (fun hh => h hh.1)]
theorem clb_more (l : List Node) (of : Int) (h0 : 0 ≤ of) : ∀ (f : Nat) (k : Int), k.toNat ≤ f → clb l of (f + 1) k = clb l of f k
  | 0, k, h => by rw [clb_stop _ _ _ _ (by omega), clb_stop _ _ _ _ (by omega)]
  | f + 1, k, h => by
    rw [clb]
    conv => rhs; rw [clb]
    by_cases hc : of < k ∧ (l.getD k.toNat .zero).parent < k
    · rw [if_pos hc, if_pos hc, clb_more l of h0 f _ (by omega)]
    · rw [if_neg hc, if_neg hc]
theorem clb_fuel (l : List Node) (of : Int) (h0 : 0 ≤ of) (k : Int) : ∀ (d : Nat), clb l of (k.toNat + d) k = clb l of k.toNat k
  | 0 => rfl
  | d + 1 => by rw [← clb_fuel l of h0 k d, ← Nat.add_assoc, clb_more l of h0 _ _ (by omega)]
theorem inN_self (l : List Node) (k : Int) : inN l k k = true := by
  unfold inN; rw [clb_stop _ _ _ _ (by omega)]; simp
theorem inN_low (l : List Node) (k p : Int) (h : k < p) : inN l k p = false := by
  unfold inN; rw [clb_stop _ _ _ _ (by omega)]; simp; omega
theorem inN_step (l : List Node) (k : Nat) (p : Int) (h0 : 0 ≤ p) (h1 : p < k) (h2 : par l k < k) : inN l k p = inN l (par l k) p := by
  unfold inN
  have e : ((k : Int)).toNat = (k - 1) + 1 := by omega
  have e2 : l.getD ((k : Int)).toNat .zero = l.getD k .zero := by rw [Int.toNat_natCast]
  conv => lhs; rw [e, clb, e2]
  rw [if_pos ⟨h1, h2⟩]
  show decide (clb l p (k - 1) (par l k) = p) = _
  obtain ⟨d, hd⟩ : ∃ d, k - 1 = (par l k).toNat + d := ⟨k - 1 - (par l k).toNat, by omega⟩
  rw [hd, clb_fuel l p h0]
theorem inN_le (l : List Node) (k p : Int) (h : inN l k p = true) : p ≤ k := by
  refine Decidable.byContradiction fun hn => ?_
  rw [inN_low l k p (by omega)] at h; cases h
theorem inN_trans (l : List Node) (n : Nat) (hd : ∀ j, j < n → par l j < j) : ∀ (m : Nat), m < n → ∀ (q p : Int), 0 ≤ p → p ≤ q → inN l m q = true → inN l m p = inN l q p := by
  intro m
  induction m using Nat.strongRecOn with
  | _ m ih =>
    intro hm q p h0 h1 h2
    have hq := inN_le _ _ _ h2
    by_cases e : q = m
    · subst e; rfl
    · have hp := hd m hm
      rw [inN_step l m q (by omega) (by omega) hp] at h2
      have hq2 := inN_le _ _ _ h2
      rw [inN_step l m p h0 (by omega) hp]
      have hn : ((par l m).toNat : Int) = par l m := Int.toNat_of_nonneg (by omega)
      rw [← hn] at h2 ⊢
      exact ih (par l m).toNat (by omega) (by omega) q p h0 h1 h2
/-- All nodes ahead of a place stand. -/
def stood (l : List Node) (n : Nat) : Prop := ∀ j, j < n → standR l j = true
theorem standR_zero {l : List Node} : standR l 0 = true ↔ (par l 0 = -1 ∧ (l.getD 0 .zero).type ≠ ⟨#[]⟩) := by
  simp [standR, par]
theorem standR_pos {l : List Node} {k : Nat} (h : 0 < k) : standR l k = true ↔ (mayB (l.getD k .zero) = false ∧ 0 ≤ par l k ∧ par l k < k ∧ inN l (k - 1) (par l k) = true ∧ (l.getD (par l k).toNat .zero).type ≠ ⟨#[]⟩) := by
  unfold standR
  rw [if_neg (by omega)]
  cases hb : mayB (l.getD k .zero) <;> simp
theorem stood_par {l : List Node} {n : Nat} (h : stood l n) : ∀ j, j < n → par l j < j := by
  intro j hj
  have := h j hj
  by_cases e : j = 0
  · subst e; rw [(standR_zero.1 this).1]; omega
  · exact ((standR_pos (by omega)).1 this).2.2.1
theorem stood_ge {l : List Node} {n : Nat} (h : stood l n) (j : Nat) (h0 : 0 < j) (hj : j < n) : 0 ≤ par l j := ((standR_pos h0).1 (h j hj)).2.1
theorem stk_sorted (l : List Node) : ∀ k, (stk l k).Pairwise (· < ·)
  | 0 => List.Pairwise.nil
  | k + 1 => by
    simp only [stk]
    rw [List.pairwise_append]
    refine ⟨(stk_sorted l k).sublist (List.take_sublist _ _), by simp, fun a ha b hb => ?_⟩
    have := stk_mem l k a (List.mem_of_mem_take ha)
    simp at hb
    omega
theorem take_snoc (s : List Int) (m : Nat) (h : m < s.length) : s.take (m + 1) = s.take m ++ [s.getD m 0] := by
  rw [List.take_add_one, List.getElem?_eq_getElem h, List.getD_eq_getElem?_getD, List.getElem?_eq_getElem h]; rfl
theorem popN_mem (p : Int) (s : List Int) (hs : s.Pairwise (· < ·)) : ∀ (m : Nat), m ≤ s.length → p ∈ s.take m → ∀ x, x ∈ s.take (popN p s m) ↔ x ∈ s.take m ∧ x ≤ p
  | 0, _, hp, x => by simp at hp
  | m + 1, hm, hp, x => by
    have hsub : (s.take (m + 1)).Pairwise (· < ·) := hs.sublist (List.take_sublist _ _)
    rw [take_snoc s m (by omega), List.pairwise_append] at hsub
    have hlt : ∀ a ∈ s.take m, a < s.getD m 0 := fun a ha => hsub.2.2 a ha _ (by simp)
    simp only [popN]
    by_cases e : s.getD m 0 = p
    · rw [if_pos e, take_snoc s m (by omega), e]
      simp only [List.mem_append, List.mem_singleton]
      constructor
      · rintro (h | h)
        · exact ⟨.inl h, by have := hlt x h; omega⟩
        · exact ⟨.inr h, by omega⟩
      · exact fun h => h.1
    · rw [if_neg e]
      rw [take_snoc s m (by omega)] at hp ⊢
      simp only [List.mem_append, List.mem_singleton] at hp ⊢
      have hp' : p ∈ s.take m := by
        rcases hp with hp | hp
        · exact hp
        · exact absurd hp.symm e
      rw [popN_mem p s hs m (by omega) hp' x]
      constructor
      · exact fun h => ⟨.inl h.1, h.2⟩
      · rintro ⟨h | h, h2⟩
        · exact ⟨h, h2⟩
        · have := hlt p hp'; omega
theorem stk_in (l : List Node) : ∀ k, stood l (k + 1) → ∀ p : Int, p ∈ stk l (k + 1) ↔ (0 ≤ p ∧ inN l k p = true)
  | 0, h, p => by
    simp only [stk, List.take_nil, List.nil_append, List.mem_singleton]
    constructor
    · rintro rfl; exact ⟨by omega, inN_self l 0⟩
    · rintro ⟨h1, h2⟩
      have := inN_le _ _ _ h2; omega
  | k + 1, h, p => by
    have ih := stk_in l k (fun j hj => h j (by omega))
    have hk := (standR_pos (by omega)).1 (h (k + 1) (by omega))
    have hpar := stood_par h (k + 1) (by omega)
    have e1 : (((k + 1 : Nat) : Int) - 1) = k := by omega
    rw [e1] at hk
    have hmem : par l (k + 1) ∈ (stk l (k + 1)).take (stk l (k + 1)).length := by
      rw [List.take_length]; exact (ih _).2 ⟨hk.2.1, hk.2.2.2.1⟩
    have e2 : stk l (k + 1 + 1) = (stk l (k + 1)).take (popN (par l (k + 1)) (stk l (k + 1)) (stk l (k + 1)).length) ++ [((k + 1 : Nat) : Int)] := rfl
    rw [e2]
    simp only [List.mem_append, List.mem_singleton]
    rw [popN_mem _ _ (stk_sorted l (k + 1)) _ (Nat.le_refl _) hmem p, List.take_length, ih]
    have ht : p ≤ par l (k + 1) → 0 ≤ p → inN l k p = inN l (par l (k + 1)) p := fun h1 h0 => inN_trans l (k + 1) (stood_par (fun j hj => h j (by omega))) k (by omega) _ _ h0 h1 hk.2.2.2.1
    constructor
    · rintro (⟨⟨h1, h2⟩, h3⟩ | h1)
      · refine ⟨h1, ?_⟩
        rw [inN_step l (k + 1) p h1 (by omega) hpar, ← ht h3 h1]; exact h2
      · subst h1; exact ⟨by omega, inN_self _ _⟩
    · rintro ⟨h1, h2⟩
      by_cases e : p = ((k + 1 : Nat) : Int)
      · exact .inr e
      · have hle := inN_le _ _ _ h2
        rw [inN_step l (k + 1) p h1 (by omega) hpar] at h2
        have hle2 := inN_le _ _ _ h2
        exact .inl ⟨⟨h1, by rw [ht hle2 h1]; exact h2⟩, hle2⟩
theorem may_stand (l : List Node) (k : Nat) (h : stood l k) : mayT (l.getD k .zero) (stk l k) l = standR l k := by
  cases k with
  | zero => simp [mayT, stk, standR]
  | succ k =>
    unfold mayT standR
    rw [if_neg (show ¬ stk l (k + 1) = [] by simp [stk]), if_neg (show ¬ k + 1 = 0 by omega)]
    by_cases hb : mayB (l.getD (k + 1) .zero) = true
    · rw [if_pos hb, if_pos hb]
    · rw [if_neg hb, if_neg hb]
      have hm := stk_mem l (k + 1) (par l (k + 1))
      have e1 : (((k + 1 : Nat) : Int) - 1) = k := by omega
      rw [e1, decide_eq_decide]
      show (par l (k + 1) ∈ stk l (k + 1) ∧ _) ↔ _
      rw [stk_in l k h]
      constructor
      · rintro ⟨⟨h1, h2⟩, h3⟩
        have := inN_le _ _ _ h2
        exact ⟨h1, by omega, h2, h3⟩
      · rintro ⟨h1, h2, h3, h4⟩
        exact ⟨⟨h1, h3⟩, h4⟩
theorem fst_congr (p q : Nat → Bool) : ∀ (f k : Nat), (∀ m, k ≤ m → (∀ j, k ≤ j → j < m → q j = false) → p m = q m) → fst p f k = fst q f k
  | 0, _, _ => rfl
  | f + 1, k, h => by
    simp only [fst]
    rw [h k (Nat.le_refl _) (fun j h1 h2 => by omega)]
    by_cases hq : q k = true
    · rw [if_pos hq, if_pos hq]
    · rw [if_neg hq, if_neg hq]
      refine fst_congr p q f (k + 1) fun m hm hj => h m (by omega) fun j h1 h2 => ?_
      by_cases e : j = k
      · subst e; simpa using hq
      · exact hj j (by omega) h2
theorem bad_eq (l : List Node) : badT l = badR l := by
  unfold badT badR
  refine fst_congr _ _ _ _ fun m _ hj => ?_
  rw [may_stand l m (fun j h => by have := hj j (by omega) h; simpa using this)]
def isDoc (l : List Node) : Prop := l.length ≠ 0 ∧ stood l l.length
theorem badR_doc (l : List Node) : badR l < 0 ↔ stood l l.length := by
  unfold badR
  rcases fst_spec (fun k => !standR l k) (l.length - 0) 0 with ⟨h1, h2⟩ | ⟨m, h1, h2, h3, h4, h5⟩
  · rw [h1]
    refine ⟨fun _ j hj => ?_, fun _ => by omega⟩
    have := h2 j (by omega) (by omega)
    simpa using this
  · rw [h1]
    refine ⟨fun h => by omega, fun h => ?_⟩
    have := h m (by omega)
    simp [this] at h4
def docB (l : List Node) : Bool := decide (badR l < 0 ∧ l.length ≠ 0)
theorem docB_iff (l : List Node) : docB l = true ↔ isDoc l := by
  unfold docB isDoc; rw [decide_eq_true_eq, badR_doc]; exact And.comm
/-- The place behind all that is in a node. -/
def endN (l : List Node) (k : Nat) : Nat := (endT l k).toNat
theorem endN_spec (l : List Node) (k : Nat) (hk : k < l.length) : endT l k = endN l k ∧ k < endN l k ∧ endN l k ≤ l.length ∧ (∀ i, k < i → i < endN l k → (k : Int) ≤ par l i) ∧ (endN l k < l.length → par l (endN l k) < k) := by
  have key : ∃ n : Nat, endT l k = n ∧ k < n ∧ n ≤ l.length ∧ (∀ i, k < i → i < n → (k : Int) ≤ par l i) ∧ (n < l.length → par l n < k) := by
    unfold endT
    rcases fst_spec (fun i => decide (par l i < k)) (l.length - (k + 1)) (k + 1) with ⟨h1, h2⟩ | ⟨m, h1, h2, h3, h4, h5⟩
    · rw [h1, if_pos (by omega)]
      refine ⟨l.length, rfl, hk, Nat.le_refl _, fun i hi1 hi2 => ?_, fun h => by omega⟩
      have := h2 i (by omega) (by omega)
      simp at this; exact this
    · rw [h1, if_neg (by omega)]
      refine ⟨m, rfl, by omega, by omega, fun i hi1 hi2 => ?_, fun _ => by simpa using h4⟩
      have := h5 i (by omega) (by omega)
      simp at this; exact this
  obtain ⟨n, h1, h2⟩ := key
  have e : endN l k = n := by unfold endN; rw [h1]; rfl
  rw [e]; exact ⟨h1, h2⟩
theorem in_sub (l : List Node) (hd : stood l l.length) (k : Nat) (hk : k < l.length) : ∀ n : Nat, k ≤ n → n < endN l k → inN l n k = true := by
  have hs := endN_spec l k hk
  intro n
  induction n using Nat.strongRecOn with
  | _ n ih =>
    intro h1 h2
    by_cases e : n = k
    · subst e; exact inN_self _ _
    · have hp := stood_par hd n (by omega)
      have hge := hs.2.2.2.1 n (by omega) h2
      rw [inN_step l n k (by omega) (by omega) hp]
      have hn : ((par l n).toNat : Int) = par l n := Int.toNat_of_nonneg (by omega)
      rw [← hn]
      exact ih (par l n).toNat (by omega) (by omega) (by omega)
theorem out_sub (l : List Node) (hd : stood l l.length) (k : Nat) (hk : k < l.length) : ∀ n : Nat, endN l k ≤ n → n < l.length → inN l n k = false := by
  have hs := endN_spec l k hk
  intro n
  induction n using Nat.strongRecOn with
  | _ n ih =>
    intro h1 h2
    have hp := stood_par hd n h2
    rw [inN_step l n k (by omega) (by omega) hp]
    by_cases e : n = endN l k
    · subst e; exact inN_low _ _ _ (hs.2.2.2.2 h2)
    · by_cases hlow : par l n < k
      · exact inN_low _ _ _ hlow
      · have hst := (standR_pos (by omega)).1 (hd n h2)
        have e1 : ((n : Int) - 1) = ((n - 1 : Nat) : Int) := by omega
        rw [e1] at hst
        have := inN_trans l l.length (stood_par hd) (n - 1) (by omega) (par l n) k (by omega) (by omega) hst.2.2.2.1
        rw [← this]
        exact ih (n - 1) (by omega) (by omega) (by omega)
end Go.Proofs.Yteifbbinfipdlaa
