/- Tokens without brackets: where a list of them is parted, and Space around them. -/
import Derived.Test.YtlcblcjpebabkaaSm
import Derived.Test.YtlcblcjpebabkaaSn
import Derived.Test.YtlcblcjpebabkaaTr
namespace Go.Proofs.Ytlcblcjpebabkaa
open Go.Sx
set_option linter.unusedSimpArgs false
set_option maxHeartbeats 4000000
set_option maxRecDepth 100000

def barK (t : Tok) : Prop := t.kind = 16 ∨ t.kind = 3 ∨ t.kind = 12 ∨ t.kind = 13
instance (t : Tok) : Decidable (barK t) := by unfold barK; infer_instance
def someK (l : List Tok) : Bool := l.any fun t => decide (t.kind ≠ 1)
def noK (l : List Tok) : Prop := ∀ i, i < l.length → (l.getD i .zero).kind ≠ 3 ∧ (l.getD i .zero).kind ≠ 12
theorem clo_nk {t : Tok} (h : t.kind ≠ 3 ∧ t.kind ≠ 12) : closing t = ⟨#[]⟩ := by
  simp [closing, h.1, h.2]
theorem opn_nk {l : List Tok} (h : noK l) : ∀ m, m ≤ l.length → opn l m = []
  | 0, _ => rfl
  | m + 1, hm => by
    have ih := opn_nk h m (by omega)
    rw [opn_same (clo_nk (h m (by omega))) (by rintro ⟨_, _, hp, _⟩; simp [ih] at hp)]; exact ih
theorem deep_nk {l : List Tok} (h : noK l) : deep l = false := by
  simp only [deep, decide_eq_false_iff_not]
  rintro ⟨i, h1, h2⟩
  rw [opn_nk h (i + 1) (by omega)] at h2
  simp at h2
theorem skip_nk {l : List Tok} (h : noK l) (k : Nat) : skip (endsA l) k = ((k + 1 : Nat) : Int) := by
  have hlen : (endsA l).length = l.length := ends_len (deep_nk h)
  unfold skip
  by_cases hk : k < l.length
  · have : (endsA l).getD k 0 = -1 := by
      rw [endsA_get l (deep_nk h) k hk]
      unfold end1
      rw [if_pos (clo_nk (h k hk))]
    rw [Int.toNat_natCast, this, if_pos (by omega)]; omega
  · rw [if_pos (by omega)]; omega
theorem nk_of {l : List Tok} (h : ∀ t ∈ l, t.kind ≠ 3 ∧ t.kind ≠ 12) : noK l := fun i hi => by
  rw [List.getD_eq_getElem?_getD, List.getElem?_eq_getElem hi]; exact h _ (List.getElem_mem _)
theorem findF_no {l : List Tok} (h : noK l) : ∀ (f k : Nat), (∀ i, k ≤ i → i < l.length → (l.getD i .zero).kind ≠ 16) → findF l (endsA l) l.length 16 f k = -1
  | 0, k, _ => rfl
  | f + 1, k, hq => by
    simp only [findF, Int.toNat_natCast]
    split
    · rw [if_neg (hq k (Nat.le_refl _) (by omega)), skip_nk h]
      exact findF_no h f (k + 1) fun i h1 h2 => hq i (by omega) h2
    · rfl
theorem findF_at {l : List Tok} (h : noK l) (n : Nat) (hn : n < l.length) (hc : (l.getD n .zero).kind = 16) : ∀ (f k : Nat), k ≤ n → n < k + f → (∀ i, k ≤ i → i < n → (l.getD i .zero).kind ≠ 16) → findF l (endsA l) l.length 16 f k = n
  | 0, k, h1, h2, _ => by omega
  | f + 1, k, h1, h2, hq => by
    simp only [findF, Int.toNat_natCast]
    rw [if_pos (by omega)]
    by_cases hk : k = n
    · subst hk; rw [if_pos hc]
    · rw [if_neg (hq k (Nat.le_refl _) (by omega)), skip_nk h]
      exact findF_at h n hn hc f (k + 1) (by omega) (by omega) fun i h1 h2 => hq i (by omega) h2
theorem splL_no {l : List Tok} (h : noK l) (hq : ∀ i, i < l.length → (l.getD i .zero).kind ≠ 16) : splL l = [(0, (l.length : Int))] := by
  have h1 := splitF_g (deep_nk h) l.length 0 (Nat.zero_le _)
  have h2 := findF_no h (l.length - 0) 0 fun i _ h2 => hq i h2
  unfold splL
  refine h1.trans ?_
  unfold gS
  rw [h2, if_neg (by omega)]; rfl
theorem splL_at {l : List Tok} (h : noK l) (n : Nat) (hn : n < l.length) (hc : (l.getD n .zero).kind = 16) (hq : ∀ i, i < l.length → i ≠ n → (l.getD i .zero).kind ≠ 16) : splL l = [(0, (n : Int)), (((n + 1 : Nat) : Int), (l.length : Int))] := by
  have h1 := splitF_g (deep_nk h) l.length 0 (Nat.zero_le _)
  have h2 := findF_at h n hn hc (l.length - 0) 0 (Nat.zero_le _) (by omega) fun i _ h2 => hq i (by omega) (by omega)
  unfold splL
  refine h1.trans ?_
  unfold gS
  rw [h2, if_pos (by omega)]
  obtain ⟨s, hs⟩ : ∃ s, l.length = s + 1 := ⟨l.length - 1, by omega⟩
  have h3 := splitF_g (deep_nk h) s (n + 1) (by omega)
  have h4 := findF_no h (l.length - (n + 1)) (n + 1) fun i h1 h2 => hq i h2 (by omega)
  have e : splitF l (endsA l) l.length 16 l.length ((n : Int) + 1) = splitF l (endsA l) l.length 16 (s + 1) ((n + 1 : Nat) : Int) := by rw [← hs]; rfl
  rw [e, h3]
  unfold gS
  rw [h4, if_neg (by omega)]; rfl
theorem upA_sp (l : List Tok) (h : ∀ i, i < l.length → (l.getD i .zero).kind = 1) : ∀ (f k : Nat), k + f = l.length → upA l l.length f k = l.length
  | 0, k, e => by simp only [upA]; omega
  | f + 1, k, e => by
    simp only [upA]
    rw [if_pos ⟨by omega, h k (by omega)⟩]
    exact upA_sp l h f (k + 1) (by omega)
theorem tr_sp (l : List Tok) (h : ∀ i, i < l.length → (l.getD i .zero).kind = 1) : trA l = trB l := by
  have h1 : trA l = l.length := upA_sp l h l.length 0 (by omega)
  have := tr_rng l; omega
theorem upA_le (l : List Tok) (n : Nat) (h : (l.getD n .zero).kind ≠ 1) : ∀ (f k : Nat), k ≤ n → upA l l.length f k ≤ n
  | 0, k, e => e
  | f + 1, k, e => by
    simp only [upA]
    split
    · rename_i hh
      by_cases hk : k = n
      · subst hk; exact absurd hh.2 h
      · exact upA_le l n h f (k + 1) (by omega)
    · exact e
theorem dnB_gt (l : List Tok) (a n : Nat) (h : (l.getD n .zero).kind ≠ 1) : ∀ (k : Nat), n < k → n < dnB l a k
  | 0, e => by omega
  | k + 1, e => by
    simp only [dnB]
    split
    · rename_i hh
      by_cases hk : k = n
      · subst hk; exact absurd hh.2 h
      · exact dnB_gt l a n h k (by omega)
    · exact e
theorem tr_ns (l : List Tok) (n : Nat) (hn : n < l.length) (h : (l.getD n .zero).kind ≠ 1) : trA l ≠ trB l := by
  have h1 : trA l ≤ n := upA_le l n h l.length 0 (Nat.zero_le _)
  have h2 : n < trB l := dnB_gt l (trA l) n h l.length hn
  omega
theorem someK_f {l : List Tok} (h : someK l = false) : ∀ i, i < l.length → (l.getD i .zero).kind = 1 := fun i hi => by
  have := List.any_eq_false.1 h (l[i]) (List.getElem_mem _)
  rw [List.getD_eq_getElem?_getD, List.getElem?_eq_getElem hi]
  simpa using this
theorem someK_t {l : List Tok} (h : someK l = true) : ∃ n, n < l.length ∧ (l.getD n .zero).kind ≠ 1 := by
  obtain ⟨t, ht, hk⟩ := List.any_eq_true.1 h
  obtain ⟨n, hn, rfl⟩ := List.mem_iff_getElem.1 ht
  refine ⟨n, hn, ?_⟩
  rw [List.getD_eq_getElem?_getD, List.getElem?_eq_getElem hn]
  simpa using hk
def freeK (l : List Tok) : Prop := ∀ t ∈ l, ¬ barK t
theorem free_nk {l : List Tok} (h : freeK l) : noK l := nk_of fun t ht => by have := h t ht; unfold barK at this; omega
theorem free_16 {l : List Tok} (h : freeK l) : ∀ i, i < l.length → (l.getD i .zero).kind ≠ 16 := fun i hi => by
  rw [List.getD_eq_getElem?_getD, List.getElem?_eq_getElem hi]
  have := h _ (List.getElem_mem hi); unfold barK at this; simp only [Option.getD_some]; omega
def commaT : Tok := ⟨16, ⟨#[]⟩, 0⟩
def joinT (a b : List Tok) : List Tok := a ++ commaT :: b
theorem join_get (a b : List Tok) (i : Nat) (h : i < (joinT a b).length) (hi : i ≠ a.length) : (joinT a b).getD i .zero ∈ a ∨ (joinT a b).getD i .zero ∈ b := by
  unfold joinT at *
  simp only [List.length_append, List.length_cons] at h
  rw [List.getD_eq_getElem?_getD]
  by_cases h1 : i < a.length
  · left
    rw [List.getElem?_append_left h1, List.getElem?_eq_getElem h1]; exact List.getElem_mem _
  · right
    rw [List.getElem?_append_right (by omega)]
    obtain ⟨j, hj⟩ : ∃ j, i - a.length = j + 1 := ⟨i - a.length - 1, by omega⟩
    rw [hj, List.getElem?_cons_succ, List.getElem?_eq_getElem (by omega)]; exact List.getElem_mem _
theorem join_at (a b : List Tok) : (joinT a b).getD a.length .zero = commaT := by
  unfold joinT
  rw [List.getD_eq_getElem?_getD, List.getElem?_append_right (Nat.le_refl _)]; simp
theorem join_nk {a b : List Tok} (ha : freeK a) (hb : freeK b) : noK (joinT a b) := fun i hi => by
  by_cases h : i = a.length
  · subst h; rw [join_at]; decide
  · rcases join_get a b i hi h with h | h
    · have := ha _ h; unfold barK at this; omega
    · have := hb _ h; unfold barK at this; omega
theorem splL_join {a b : List Tok} (ha : freeK a) (hb : freeK b) : splL (joinT a b) = [(0, (a.length : Int)), (((a.length + 1 : Nat) : Int), ((joinT a b).length : Int))] := by
  have hlen : (joinT a b).length = a.length + b.length + 1 := by unfold joinT; simp; omega
  refine splL_at (join_nk ha hb) a.length (by omega) (by rw [join_at]; rfl) fun i hi h => ?_
  rcases join_get a b i hi h with h | h
  · have := ha _ h; unfold barK at this; omega
  · have := hb _ h; unfold barK at this; omega
theorem join_parts (a b : List Tok) : ((joinT a b).take a.length).drop 0 = a ∧ ((joinT a b).take (joinT a b).length).drop (a.length + 1) = b := by
  refine ⟨by unfold joinT; simp, ?_⟩
  rw [List.take_length]; unfold joinT; simp
/-! ### Space around -/
def isSp (t : Tok) : Bool := decide (t.kind = 1)
def rstr (l : List Tok) : List Tok := (l.reverse.dropWhile isSp).reverse
theorem rstr_sp (l : List Tok) (t : Tok) (h : t.kind = 1) : rstr (l ++ [t]) = rstr l := by
  unfold rstr
  rw [List.reverse_append]
  simp [isSp, h]
theorem rstr_ns (l : List Tok) (t : Tok) (h : t.kind ≠ 1) : rstr (l ++ [t]) = l ++ [t] := by
  unfold rstr
  rw [List.reverse_append]
  simp [isSp, h]
theorem upA_dw (l : List Tok) : ∀ (f k : Nat), k + f = l.length → l.drop (upA l l.length f k) = (l.drop k).dropWhile isSp
  | 0, k, h => by simp only [upA]; rw [List.drop_eq_nil_of_le (by omega)]; rfl
  | f + 1, k, h => by
    have hk : k < l.length := by omega
    have e : l.drop k = l.getD k .zero :: l.drop (k + 1) := by
      rw [List.drop_eq_getElem_cons hk, List.getD_eq_getElem?_getD, List.getElem?_eq_getElem hk]; rfl
    simp only [upA]
    by_cases hc : (l.getD k .zero).kind = 1
    · rw [if_pos ⟨hk, hc⟩, upA_dw l f (k + 1) (by omega)]
      have h1 : (l.drop k).dropWhile isSp = (l.drop (k + 1)).dropWhile isSp := by rw [e, List.dropWhile_cons, if_pos (by simp only [isSp, decide_eq_true_eq]; exact hc)]
      rw [h1]
    · rw [if_neg (fun h => hc h.2)]
      have h1 : (l.drop k).dropWhile isSp = l.drop k := by
        conv => lhs; rw [e, List.dropWhile_cons, if_neg (by simp only [isSp, decide_eq_true_eq]; exact hc)]
        exact e.symm
      rw [h1]
theorem dnB_rs (l : List Tok) (a : Nat) : ∀ (k : Nat), a ≤ k → k ≤ l.length → (l.take (dnB l a k)).drop a = rstr ((l.take k).drop a)
  | 0, h, _ => by simp [dnB, rstr]
  | k + 1, h, hl => by
    have e : l.take (k + 1) = l.take k ++ [l.getD k .zero] := by
      rw [List.take_add_one, List.getD_eq_getElem?_getD, List.getElem?_eq_getElem (by omega)]; rfl
    simp only [dnB]
    by_cases ha : a < k + 1
    · have e2 : (l.take (k + 1)).drop a = (l.take k).drop a ++ [l.getD k .zero] := by
        rw [e, List.drop_append_of_le_length (by rw [List.length_take]; omega)]
      by_cases hc : (l.getD k .zero).kind = 1
      · rw [if_pos ⟨ha, hc⟩, dnB_rs l a k (by omega) (by omega), e2, rstr_sp _ _ hc]
      · rw [if_neg (fun h => hc h.2), e2, rstr_ns _ _ hc]
    · rw [if_neg (fun h => ha h.1)]
      have : (l.take (k + 1)).drop a = [] := List.drop_eq_nil_of_le (by rw [List.length_take]; omega)
      rw [this]; rfl
theorem trim_eq (l : List Tok) : trim l = rstr (l.dropWhile isSp) := by
  have h1 := upA_dw l l.length 0 (by omega)
  have hr := upA_rng l l.length l.length 0 (Nat.zero_le _)
  unfold trim trB
  rw [dnB_rs l (trA l) l.length hr.2 (Nat.le_refl _), List.take_length]
  unfold trA
  rw [h1, List.drop_zero]
theorem dw_snoc (l : List Tok) (t : Tok) (h : t.kind = 1) : rstr ((l ++ [t]).dropWhile isSp) = rstr (l.dropWhile isSp) := by
  induction l with
  | nil => simp [isSp, h, rstr]
  | cons x l ih =>
    rw [List.cons_append, List.dropWhile_cons, List.dropWhile_cons]
    split
    · exact ih
    · rw [← List.cons_append]; exact rstr_sp _ _ h
def spT : Tok := ⟨1, ⟨#[]⟩, 0⟩
def pad (a : List Tok) : List Tok := spT :: (a ++ [spT])
theorem trim_pad (a : List Tok) : trim (pad a) = trim a := by
  rw [trim_eq, trim_eq]
  unfold pad
  rw [List.dropWhile_cons, if_pos (by decide)]
  exact dw_snoc a spT rfl
theorem pad_free {a : List Tok} (h : freeK a) : freeK (pad a) := fun t ht => by
  unfold pad at ht
  rcases List.mem_cons.1 ht with rfl | ht
  · decide
  · rcases List.mem_append.1 ht with ht | ht
    · exact h t ht
    · obtain rfl := List.mem_singleton.1 ht; decide
theorem trim_mem {l : List Tok} {t : Tok} (h : t ∈ trim l) : t ∈ l := List.mem_of_mem_take (List.mem_of_mem_drop h)
theorem trim_free {a : List Tok} (h : freeK a) : freeK (trim a) := fun t ht => h t (trim_mem ht)
theorem trim_len (l : List Tok) : (trim l).length ≤ l.length := by unfold trim; simp; omega
end Go.Proofs.Ytlcblcjpebabkaa
