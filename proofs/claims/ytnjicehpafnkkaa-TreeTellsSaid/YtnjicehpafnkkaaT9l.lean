/- Layer 9: children, one behind the other; the first nodes of a document. -/
import Derived.Test.YtnjicehpafnkkaaCe
import Derived.Test.YtnjicehpafnkkaaT9i
namespace Go.Proofs.Ytnjicehpafnkkaa
open Go.Sx
set_option linter.unusedSimpArgs false
set_option maxHeartbeats 4000000
set_option maxRecDepth 20000

theorem chk0 {l : List Node} (h : isDoc l) : (if 0 ≤ badR l ∨ l.length = 0 then (5 : Int) else 0) = 0 := by
  have h1 := (badR_doc l).2 h.2
  have h2 := h.1
  rw [if_neg (by omega)]
theorem chk5 {l : List Node} (h : ¬ isDoc l) : (if 0 ≤ badR l ∨ l.length = 0 then (5 : Int) else 0) = 5 := by
  have h1 := badR_doc l
  refine if_pos (Decidable.byContradiction fun hh => h ⟨by omega, h1.1 (by omega)⟩)
theorem endV_in {l : List Node} (h : isDoc l) (k : Nat) (hk : k < l.length) : endV l k = endN l k := by
  unfold endV; rw [if_pos ((isB_iff _ _).2 ⟨h, by omega, by omega⟩), Int.toNat_natCast]
theorem kidsV_in {l : List Node} (h : isDoc l) (k : Nat) (hk : k < l.length) (all : Bool) : kidsV l k all = kidsTo l k all l.length := by
  unfold kidsV; rw [if_pos ((isB_iff _ _).2 ⟨h, by omega, by omega⟩), Int.toNat_natCast]
theorem txtV_in {l : List Node} (h : isDoc l) (k : Nat) (hk : k < l.length) : txtV l k = txtN l k := by
  unfold txtV; rw [if_pos ((isB_iff _ _).2 ⟨h, by omega, by omega⟩), Int.toNat_natCast]
def chainK (l : List Node) (e : Nat) : Nat → List Int → Prop
  | at_, [] => at_ = e
  | at_, c :: cs => c = at_ ∧ at_ < l.length ∧ at_ < e ∧ chainK l e (endN l at_) cs
theorem chain_kids (l : List Node) (hd : stood l l.length) (k : Nat) (hk : k < l.length) : ∀ (f at_ : Nat), l.length ≤ at_ + f → k < at_ → at_ ≤ endN l k → (at_ < endN l k → par l at_ = k) →
    ∃ rest, kidsTo l k true l.length = kidsTo l k true at_ ++ rest ∧ chainK l (endN l k) at_ rest
  | 0, at_, h1, h2, h3, h4 => by
    have hs := endN_spec l k hk
    refine ⟨[], ?_, by simp only [chainK]; omega⟩
    rw [kids_last l hd k hk, List.append_nil, show endN l k = at_ by omega]
  | f + 1, at_, h1, h2, h3, h4 => by
    have hs := endN_spec l k hk
    by_cases e : at_ = endN l k
    · refine ⟨[], ?_, by simp only [chainK]; exact e⟩
      rw [kids_last l hd k hk, List.append_nil, e]
    · have hp := h4 (by omega)
      have ha : at_ < l.length := by omega
      have hsa := endN_spec l at_ ha
      have hw := end_within l k at_ ha h2 (by omega)
      obtain ⟨rest, r1, r2⟩ := chain_kids l hd k hk f (endN l at_) (by omega) (by omega) hw (next_child l hd k at_ ha h2 hp)
      have e2 : kidsTo l k true (endN l at_) = kidsTo l k true at_ ++ [(at_ : Int)] := by
        rw [kids_next l k at_ ha h2 true, kidsTo, if_pos (by simp [kidB, hp])]
      refine ⟨at_ :: rest, by rw [r1, e2, List.append_assoc]; rfl, rfl, ha, by omega, r2⟩
theorem chain_all (l : List Node) (hd : stood l l.length) (k : Nat) (hk : k < l.length) : chainK l (endN l k) (k + 1) (kidsTo l k true l.length) := by
  have hs := endN_spec l k hk
  obtain ⟨rest, h1, h2⟩ := chain_kids l hd k hk l.length (k + 1) (by omega) (by omega) (by omega) (first_child l hd k hk)
  rw [kids_first l hd k hk, List.nil_append] at h1
  rw [h1]; exact h2
theorem chainK_drop {l : List Node} {e at_ : Nat} {ps : List Int} {i : Nat} (hi : i < ps.length) (h : chainK l e at_ (ps.drop i)) : ps.getD i 0 = at_ ∧ at_ < l.length ∧ at_ < e ∧ chainK l e (endN l at_) (ps.drop (i + 1)) := by
  rw [List.drop_eq_getElem_cons hi] at h
  have e : ps.getD i 0 = ps[i] := by rw [List.getD_eq_getElem?_getD, List.getElem?_eq_getElem hi]; rfl
  rw [e]; exact h
theorem chainK_end {l : List Node} {e at_ : Nat} {ps : List Int} (h : chainK l e at_ (ps.drop ps.length)) : at_ = e := by
  rw [List.drop_length] at h; exact h
theorem getD_take {l : List Node} {n i : Nat} (h : i < n) : (l.take n).getD i .zero = l.getD i .zero := by
  rw [List.getD_eq_getElem?_getD, List.getElem?_take, if_pos h, ← List.getD_eq_getElem?_getD]
theorem par_take {l : List Node} {n i : Nat} (h : i < n) : par (l.take n) i = par l i := by unfold par; rw [getD_take h]
theorem clb_take (l : List Node) (n : Nat) (of : Int) : ∀ (f : Nat) (k : Int), k.toNat < n → clb (l.take n) of f k = clb l of f k
  | 0, _, _ => rfl
  | f + 1, k, h => by
    simp only [clb]
    rw [getD_take h]
    by_cases hc : of < k ∧ (l.getD k.toNat .zero).parent < k
    · rw [if_pos hc, if_pos hc, clb_take l n of f _ (by omega)]
    · rw [if_neg hc, if_neg hc]
theorem stand_take (l : List Node) (n k : Nat) (hk : k < n) (h : standR l k = true) : standR (l.take n) k = true := by
  unfold standR at h ⊢
  rw [getD_take hk, par_take hk]
  by_cases e : k = 0
  · rw [if_pos e] at h ⊢; exact h
  · rw [if_neg e] at h ⊢
    by_cases hb : mayB (l.getD k .zero) = true
    · rw [if_pos hb] at h; cases h
    · rw [if_neg hb] at h ⊢
      rw [decide_eq_true_eq] at h ⊢
      refine ⟨h.1, h.2.1, ?_, ?_⟩
      · have := h.2.2.1
        unfold inN at this ⊢
        rw [clb_take l n _ _ _ (by omega)]; exact this
      · rw [getD_take (by omega)]; exact h.2.2.2
theorem doc_take {l : List Node} (h : isDoc l) (n : Nat) (h0 : 0 < n) : isDoc (l.take n) := by
  have h1 := h.1
  refine ⟨by rw [List.length_take]; omega, fun j hj => ?_⟩
  rw [List.length_take] at hj
  exact stand_take l n j (by omega) (h.2 j (by omega))
theorem end_take (l : List Node) (n k : Nat) (hk : k < n) (hn : n ≤ l.length) : endN (l.take n) k = min (endN l k) n := by
  have hl : (l.take n).length = n := by rw [List.length_take]; omega
  have h1 := endN_spec l k (by omega)
  have h2 := endN_spec (l.take n) k (by omega)
  rcases Nat.lt_trichotomy (endN (l.take n) k) (min (endN l k) n) with h | h | h
  · have a := h2.2.2.2.2 (by omega)
    rw [par_take (by omega)] at a
    have := h1.2.2.2.1 (endN (l.take n) k) (by omega) (by omega)
    omega
  · exact h
  · have a := h2.2.2.2.1 (endN l k) (by omega) (by omega)
    rw [par_take (by omega)] at a
    have := h1.2.2.2.2 (by omega)
    omega
end Go.Proofs.Ytnjicehpafnkkaa
