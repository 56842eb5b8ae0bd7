/- Tokens without brackets: where a list of them is parted, and Space around them. -/
import Derived.Test.YtlcblcjpebabkaaSm
import Derived.Test.YtlcblcjpebabkaaSn
import Derived.Test.YtlcblcjpebabkaaTr
namespace Go.Proofs.Ytlcblcjpebabkaa
open Go.Sx
set_option linter.unusedSimpArgs false
set_option maxHeartbeats 4000000
set_option maxRecDepth 100000

def barK (t : Tok) : Prop := t.kind = 16 ∨ t.kind = 3 ∨ t.kind = 12 ∨ t.kind = 13
instance (t : Tok) : Decidable (barK t) := by unfold barK; infer_instance
def noK (l : List Tok) : Prop := ∀ i, i < l.length → (l.getD i .zero).kind ≠ 3 ∧ (l.getD i .zero).kind ≠ 12
theorem clo_nk {t : Tok} (h : t.kind ≠ 3 ∧ t.kind ≠ 12) : closing t = ⟨#[]⟩ := by
  simp [closing, h.1, h.2]
theorem opn_nk {l : List Tok} (h : noK l) : ∀ m, m ≤ l.length → opn l m = []
  | 0, _ => rfl
  | m + 1, hm => by
    have ih := opn_nk h m (by omega)
    rw [opn_same (clo_nk (h m (by omega))) (by rintro ⟨_, _, hp, _⟩; simp [ih] at hp)]; exact ih
theorem nk_of {l : List Tok} (h : ∀ t ∈ l, t.kind ≠ 3 ∧ t.kind ≠ 12) : noK l := fun i hi => by
  rw [List.getD_eq_getElem?_getD, List.getElem?_eq_getElem hi]; exact h _ (List.getElem_mem _)
def commaT : Tok := ⟨16, ⟨#[]⟩, 0⟩
/-! ### Space around -/
def isSp (t : Tok) : Bool := decide (t.kind = 1)
def rstr (l : List Tok) : List Tok := (l.reverse.dropWhile isSp).reverse
theorem rstr_sp (l : List Tok) (t : Tok) (h : t.kind = 1) : rstr (l ++ [t]) = rstr l := by
  unfold rstr
  rw [List.reverse_append]
  simp [isSp, h]
theorem rstr_ns (l : List Tok) (t : Tok) (h : t.kind ≠ 1) : rstr (l ++ [t]) = l ++ [t] := by
  unfold rstr
  rw [List.reverse_append]
  simp [isSp, h]
theorem upA_dw (l : List Tok) : ∀ (f k : Nat), k + f = l.length → l.drop (upA l l.length f k) = (l.drop k).dropWhile isSp
  | 0, k, h => by simp only [upA]; rw [List.drop_eq_nil_of_le (by omega)]; rfl
  | f + 1, k, h => by
    have hk : k < l.length := by omega
    have e : l.drop k = l.getD k .zero :: l.drop (k + 1) := by
      rw [List.drop_eq_getElem_cons hk, List.getD_eq_getElem?_getD, List.getElem?_eq_getElem hk]; rfl
    simp only [upA]
    by_cases hc : (l.getD k .zero).kind = 1
    · rw [if_pos ⟨hk, hc⟩, upA_dw l f (k + 1) (by omega)]
      have h1 : (l.drop k).dropWhile isSp = (l.drop (k + 1)).dropWhile isSp := by rw [e, List.dropWhile_cons, if_pos (by simp only [isSp, decide_eq_true_eq]; exact hc)]
      rw [h1]
    · rw [if_neg (fun h => hc h.2)]
      have h1 : (l.drop k).dropWhile isSp = l.drop k := by
        conv => lhs; rw [e, List.dropWhile_cons, if_neg (by simp only [isSp, decide_eq_true_eq]; exact hc)]
        exact e.symm
      rw [h1]
theorem dnB_rs (l : List Tok) (a : Nat) : ∀ (k : Nat), a ≤ k → k ≤ l.length → (l.take (dnB l a k)).drop a = rstr ((l.take k).drop a)
  | 0, h, _ => by simp [dnB, rstr]
  | k + 1, h, hl => by
    have e : l.take (k + 1) = l.take k ++ [l.getD k .zero] := by
      rw [List.take_add_one, List.getD_eq_getElem?_getD, List.getElem?_eq_getElem (by omega)]; rfl
    simp only [dnB]
    by_cases ha : a < k + 1
    · have e2 : (l.take (k + 1)).drop a = (l.take k).drop a ++ [l.getD k .zero] := by
        rw [e, List.drop_append_of_le_length (by rw [List.length_take]; omega)]
      by_cases hc : (l.getD k .zero).kind = 1
      · rw [if_pos ⟨ha, hc⟩, dnB_rs l a k (by omega) (by omega), e2, rstr_sp _ _ hc]
      · rw [if_neg (fun h => hc h.2), e2, rstr_ns _ _ hc]
    · rw [if_neg (fun h => ha h.1)]
      have : (l.take (k + 1)).drop a = [] := List.drop_eq_nil_of_le (by rw [List.length_take]; omega)
      rw [this]; rfl
theorem trim_eq (l : List Tok) : trim l = rstr (l.dropWhile isSp) := by
  have h1 := upA_dw l l.length 0 (by omega)
  have hr := upA_rng l l.length l.length 0 (Nat.zero_le _)
  unfold trim trB
  rw [dnB_rs l (trA l) l.length hr.2 (Nat.le_refl _), List.take_length]
  unfold trA
  rw [h1, List.drop_zero]
def spT : Tok := ⟨1, ⟨#[]⟩, 0⟩
def pad (a : List Tok) : List Tok := spT :: (a ++ [spT])
theorem trim_len (l : List Tok) : (trim l).length ≤ l.length := by unfold trim; simp; omega
end Go.Proofs.Ytlcblcjpebabkaa
