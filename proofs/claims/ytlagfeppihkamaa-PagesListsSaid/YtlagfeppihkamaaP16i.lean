/- Layer 16: two lists, one behind the other: the plain law. -/
import Derived.Test.YtlagfeppihkamaaP16g
import Derived.Test.YtlagfeppihkamaaP16c
namespace Go.Proofs.Ytlagfeppihkamaa
open Go.Sx
set_option linter.unusedSimpArgs false
set_option maxHeartbeats 4000000
set_option maxRecDepth 100000

def barK (t : Tok) : Prop := t.kind = 16 ∨ t.kind = 3 ∨ t.kind = 12 ∨ t.kind = 13
instance (t : Tok) : Decidable (barK t) := by unfold barK; infer_instance
def someK (l : List Tok) : Bool := l.any fun t => decide (t.kind ≠ 1)
def noK (l : List Tok) : Prop := ∀ i, i < l.length → (l.getD i .zero).kind ≠ 3 ∧ (l.getD i .zero).kind ≠ 12
theorem clo_nk {t : Tok} (h : t.kind ≠ 3 ∧ t.kind ≠ 12) : closing t = ⟨#[]⟩ := by
  simp [closing, h.1, h.2]
theorem opn_nk {l : List Tok} (h : noK l) : ∀ m, m ≤ l.length → opn l m = []
  | 0, _ => rfl
  | m + 1, hm => by
    have ih := opn_nk h m (by omega)
    rw [opn_same (clo_nk (h m (by omega))) (by rintro ⟨_, _, hp, _⟩; simp [ih] at hp)]; exact ih
theorem deep_nk {l : List Tok} (h : noK l) : deep l = false := by
  simp only [deep, decide_eq_false_iff_not]
  rintro ⟨i, h1, h2⟩
  rw [opn_nk h (i + 1) (by omega)] at h2
  simp at h2
theorem skip_nk {l : List Tok} (h : noK l) (k : Nat) : skip (endsA l) k = ((k + 1 : Nat) : Int) := by
  have hlen : (endsA l).length = l.length := ends_len (deep_nk h)
  unfold skip
  by_cases hk : k < l.length
  · have : (endsA l).getD k 0 = -1 := by
      rw [endsA_get l (deep_nk h) k hk]
      unfold end1
      rw [if_pos (clo_nk (h k hk))]
    rw [Int.toNat_natCast, this, if_pos (by omega)]; omega
  · rw [if_pos (by omega)]; omega
theorem nk_of {l : List Tok} (h : ∀ t ∈ l, t.kind ≠ 3 ∧ t.kind ≠ 12) : noK l := fun i hi => by
  rw [List.getD_eq_getElem?_getD, List.getElem?_eq_getElem hi]; exact h _ (List.getElem_mem _)
theorem findF_no {l : List Tok} (h : noK l) : ∀ (f k : Nat), (∀ i, k ≤ i → i < l.length → (l.getD i .zero).kind ≠ 16) → findF l (endsA l) l.length 16 f k = -1
  | 0, k, _ => rfl
  | f + 1, k, hq => by
    simp only [findF, Int.toNat_natCast]
    split
    · rw [if_neg (hq k (Nat.le_refl _) (by omega)), skip_nk h]
      exact findF_no h f (k + 1) fun i h1 h2 => hq i (by omega) h2
    · rfl
theorem findF_at {l : List Tok} (h : noK l) (n : Nat) (hn : n < l.length) (hc : (l.getD n .zero).kind = 16) : ∀ (f k : Nat), k ≤ n → n < k + f → (∀ i, k ≤ i → i < n → (l.getD i .zero).kind ≠ 16) → findF l (endsA l) l.length 16 f k = n
  | 0, k, h1, h2, _ => by omega
  | f + 1, k, h1, h2, hq => by
    simp only [findF, Int.toNat_natCast]
    rw [if_pos (by omega)]
    by_cases hk : k = n
    · subst hk; rw [if_pos hc]
    · rw [if_neg (hq k (Nat.le_refl _) (by omega)), skip_nk h]
      exact findF_at h n hn hc f (k + 1) (by omega) (by omega) fun i h1 h2 => hq i (by omega) h2
theorem splL_no {l : List Tok} (h : noK l) (hq : ∀ i, i < l.length → (l.getD i .zero).kind ≠ 16) : splL l = [(0, (l.length : Int))] := by
  have h1 := splitF_g (deep_nk h) l.length 0 (Nat.zero_le _)
  have h2 := findF_no h (l.length - 0) 0 fun i _ h2 => hq i h2
  unfold splL
  refine h1.trans ?_
  unfold gS
  rw [h2, if_neg (by omega)]; rfl
theorem splL_at {l : List Tok} (h : noK l) (n : Nat) (hn : n < l.length) (hc : (l.getD n .zero).kind = 16) (hq : ∀ i, i < l.length → i ≠ n → (l.getD i .zero).kind ≠ 16) : splL l = [(0, (n : Int)), (((n + 1 : Nat) : Int), (l.length : Int))] := by
  have h1 := splitF_g (deep_nk h) l.length 0 (Nat.zero_le _)
  have h2 := findF_at h n hn hc (l.length - 0) 0 (Nat.zero_le _) (by omega) fun i _ h2 => hq i (by omega) (by omega)
  unfold splL
  refine h1.trans ?_
  unfold gS
  rw [h2, if_pos (by omega)]
  obtain ⟨s, hs⟩ : ∃ s, l.length = s + 1 := ⟨l.length - 1, by omega⟩
  have h3 := splitF_g (deep_nk h) s (n + 1) (by omega)
  have h4 := findF_no h (l.length - (n + 1)) (n + 1) fun i h1 h2 => hq i h2 (by omega)
  have e : splitF l (endsA l) l.length 16 l.length ((n : Int) + 1) = splitF l (endsA l) l.length 16 (s + 1) ((n + 1 : Nat) : Int) := by rw [← hs]; rfl
  rw [e, h3]
  unfold gS
  rw [h4, if_neg (by omega)]; rfl
theorem upA_sp (l : List Tok) (h : ∀ i, i < l.length → (l.getD i .zero).kind = 1) : ∀ (f k : Nat), k + f = l.length → upA l l.length f k = l.length
  | 0, k, e => by simp only [upA]; omega
  | f + 1, k, e => by
    simp only [upA]
    rw [if_pos ⟨by omega, h k (by omega)⟩]
    exact upA_sp l h f (k + 1) (by omega)
theorem tr_sp (l : List Tok) (h : ∀ i, i < l.length → (l.getD i .zero).kind = 1) : trA l = trB l := by
  have h1 : trA l = l.length := upA_sp l h l.length 0 (by omega)
  have := tr_rng l; omega
theorem upA_le (l : List Tok) (n : Nat) (h : (l.getD n .zero).kind ≠ 1) : ∀ (f k : Nat), k ≤ n → upA l l.length f k ≤ n
  | 0, k, e => e
  | f + 1, k, e => by
    simp only [upA]
    split
    · rename_i hh
      by_cases hk : k = n
      · subst hk; exact absurd hh.2 h
      · exact upA_le l n h f (k + 1) (by omega)
    · exact e
theorem dnB_gt (l : List Tok) (a n : Nat) (h : (l.getD n .zero).kind ≠ 1) : ∀ (k : Nat), n < k → n < dnB l a k
  | 0, e => by omega
  | k + 1, e => by
    simp only [dnB]
    split
    · rename_i hh
      by_cases hk : k = n
      · subst hk; exact absurd hh.2 h
      · exact dnB_gt l a n h k (by omega)
    · exact e
theorem tr_ns (l : List Tok) (n : Nat) (hn : n < l.length) (h : (l.getD n .zero).kind ≠ 1) : trA l ≠ trB l := by
  have h1 : trA l ≤ n := upA_le l n h l.length 0 (Nat.zero_le _)
  have h2 : n < trB l := dnB_gt l (trA l) n h l.length hn
  omega
theorem someK_f {l : List Tok} (h : someK l = false) : ∀ i, i < l.length → (l.getD i .zero).kind = 1 := fun i hi => by
  have := List.any_eq_false.1 h (l[i]) (List.getElem_mem _)
  rw [List.getD_eq_getElem?_getD, List.getElem?_eq_getElem hi]
  simpa using this
theorem someK_t {l : List Tok} (h : someK l = true) : ∃ n, n < l.length ∧ (l.getD n .zero).kind ≠ 1 := by
  obtain ⟨t, ht, hk⟩ := List.any_eq_true.1 h
  obtain ⟨n, hn, rfl⟩ := List.mem_iff_getElem.1 ht
  refine ⟨n, hn, ?_⟩
  rw [List.getD_eq_getElem?_getD, List.getElem?_eq_getElem hn]
  simpa using hk
theorem oneP_sp {l : List Tok} (h : someK l = false) : oneP l = none := by
  have := tr_sp l (someK_f h)
  unfold oneP trim
  rw [List.drop_eq_nil_of_le (by rw [List.length_take]; omega)]; rfl
def freeK (l : List Tok) : Prop := ∀ t ∈ l, ¬ barK t
theorem free_nk {l : List Tok} (h : freeK l) : noK l := nk_of fun t ht => by have := h t ht; unfold barK at this; omega
theorem free_16 {l : List Tok} (h : freeK l) : ∀ i, i < l.length → (l.getD i .zero).kind ≠ 16 := fun i hi => by
  rw [List.getD_eq_getElem?_getD, List.getElem?_eq_getElem hi]
  have := h _ (List.getElem_mem hi); unfold barK at this; simp only [Option.getD_some]; omega
theorem psO_free {l : List Tok} (h : freeK l) : psO l = if someK l = true then (oneP l).map ([·]) else some [.zero] := by
  unfold psO
  rw [deep_nk (free_nk h), if_neg (by simp)]
  cases hs : someK l with
  | false =>
    rw [if_pos (tr_sp l (someK_f hs)), if_neg (by simp)]
  | true =>
    obtain ⟨n, hn, hk⟩ := someK_t hs
    rw [if_neg (tr_ns l n hn hk), if_pos rfl, splL_no (free_nk h) (free_16 h)]
    simp only [prsL, Int.toNat_natCast, List.take_length]
    show (match oneP (l.drop 0) with | none => none | some s => _) = _
    rw [List.drop_zero]
    cases oneP l <;> rfl
def commaT : Tok := ⟨16, ⟨#[]⟩, 0⟩
def joinT (a b : List Tok) : List Tok := a ++ commaT :: b
theorem join_get (a b : List Tok) (i : Nat) (h : i < (joinT a b).length) (hi : i ≠ a.length) : (joinT a b).getD i .zero ∈ a ∨ (joinT a b).getD i .zero ∈ b := by
  unfold joinT at *
  simp only [List.length_append, List.length_cons] at h
  rw [List.getD_eq_getElem?_getD]
  by_cases h1 : i < a.length
  · left
    rw [List.getElem?_append_left h1, List.getElem?_eq_getElem h1]; exact List.getElem_mem _
  · right
    rw [List.getElem?_append_right (by omega)]
    obtain ⟨j, hj⟩ : ∃ j, i - a.length = j + 1 := ⟨i - a.length - 1, by omega⟩
    rw [hj, List.getElem?_cons_succ, List.getElem?_eq_getElem (by omega)]; exact List.getElem_mem _
theorem join_at (a b : List Tok) : (joinT a b).getD a.length .zero = commaT := by
  unfold joinT
  rw [List.getD_eq_getElem?_getD, List.getElem?_append_right (Nat.le_refl _)]; simp
theorem psO_join {a b : List Tok} (ha : freeK a) (hb : freeK b) : psO (joinT a b) = match oneP a, oneP b with | some s, some t => some [s, t] | _, _ => none := by
  have hlen : (joinT a b).length = a.length + b.length + 1 := by unfold joinT; simp; omega
  have hn : noK (joinT a b) := fun i hi => by
    by_cases h : i = a.length
    · subst h; rw [join_at]; decide
    · rcases join_get a b i hi h with h | h
      · have := ha _ h; unfold barK at this; omega
      · have := hb _ h; unfold barK at this; omega
  have h16 : ∀ i, i < (joinT a b).length → i ≠ a.length → ((joinT a b).getD i .zero).kind ≠ 16 := fun i hi h => by
    rcases join_get a b i hi h with h | h
    · have := ha _ h; unfold barK at this; omega
    · have := hb _ h; unfold barK at this; omega
  unfold psO
  rw [deep_nk hn, if_neg (by simp), if_neg (tr_ns _ a.length (by omega) (by rw [join_at]; decide)), splL_at hn a.length (by omega) (by rw [join_at]; rfl) h16]
  have e1 : ((joinT a b).take a.length).drop 0 = a := by unfold joinT; simp
  have e2 : ((joinT a b).take (joinT a b).length).drop (a.length + 1) = b := by rw [List.take_length]; unfold joinT; simp
  simp only [prsL, Int.toNat_natCast, e2]
  rw [show ((0 : Int).toNat) = 0 from rfl, e1]
  cases oneP a with
  | none => rfl
  | some s => cases oneP b <;> rfl
theorem psL_cnt : ∀ (n : Nat) (l : List Tok) (s s' : PSel) (m : Int), l.length ≤ n → cntB s m → psL l s = some s' → cntB s' (m + l.length)
  | _, [], s, s', m, _, hs, h => by simp only [psL, Option.some.injEq] at h; subst h; simpa using hs
  | _, [_], s, s', m, _, hs, h => by simp [psL] at h
  | 0, _ :: _ :: _, s, s', m, hl, _, _ => by simp at hl
  | n + 1, c :: i :: r, s, s', m, hl, hs, h => by
    simp only [psL] at h
    split at h
    · cases hb : bumpO s (lowB i.text) with
      | none => rw [hb] at h; cases h
      | some s1 =>
        rw [hb] at h
        have h1 : cntB s1 (m + 1) := bump_ok hb hs.1 hs.2.1 hs.2.2.1 hs.2.2.2
        have := psL_cnt n r s1 s' (m + 1) (by simp only [List.length_cons] at hl; omega) h1 h
        unfold cntB at *
        simp only [List.length_cons]; omega
    · cases h
theorem cnt_le {s : PSel} {m n : Int} (h : cntB s m) (hm : m ≤ n) : cntB s n := by unfold cntB at *; omega
theorem oneT_cnt (l : List Tok) (s : PSel) (h : oneT l = some s) : cntB s l.length := by
  cases l with
  | nil => cases h
  | cons t r =>
    have z : ∀ w, cntB ⟨w, 0, 0, 0, 0⟩ 0 := fun w => by unfold cntB; simp
    simp only [oneT] at h
    split at h
    · exact cnt_le (psL_cnt r.length r _ s 0 (Nat.le_refl _) (z _) h) (by simp only [List.length_cons]; omega)
    · exact cnt_le (psL_cnt (r.length + 1) (t :: r) _ s 0 (Nat.le_refl _) (z _) h) (by simp only [List.length_cons]; omega)
theorem oneP_small {l : List Tok} (hl : l.length ≤ 40) {s : PSel} (h : oneP l = some s) : smallP s := by
  have h1 := oneT_cnt _ _ h
  have h2 : (trim l).length ≤ 40 := by unfold trim; rw [List.length_drop, List.length_take]; omega
  unfold cntB at h1; unfold smallP; omega
theorem best_some (p : Sh) : ∀ (l : List PSel) (a : W3 × Bool), (l.foldl (bestS p) a).2 = (a.2 || l.any (isP · p))
  | [], a => by simp
  | s :: l, a => by
    rw [List.foldl_cons, best_some p l]
    unfold bestS
    cases hi : isP s p <;> cases ha : a.2 <;> cases hv : abv (wtP s) a.1 <;> simp [hi, ha, hv]
theorem bestTo_some (l : List PSel) (p : Sh) : (bestTo l p l.length).2 = l.any (isP · p) := by
  unfold bestTo; rw [List.take_length, best_some]; simp
abbrev tokC : List Cell := [.int .i64, .str, .int .i64]
theorem toks_of {x : V} (h : CellOK (.slc tokC) x) : ∃ l : List Tok, x = toks l := by
  cases h with
  | slc cs ess hl h h2 =>
    refine ⟨ess.map dTokL, ?_⟩
    unfold toks
    have e : (ess.map dTokL).map Tok.enc = ess := by
      rw [List.map_map]
      conv => rhs; rw [← List.map_id ess]
      apply List.map_congr_left
      intro es hes
      have hlen := h es hes
      have a0 := h2 es hes 0 _ rfl
      have a1 := h2 es hes 1 _ rfl
      have a2 := h2 es hes 2 _ rfl
      match es, hlen with
      | [a, b, c], _ =>
        simp only [List.getD_cons_zero, List.getD_cons_succ] at a0 a1 a2
        cases a0; cases a1; cases a2
        rfl
    rw [e]
    rfl
theorem few_ok16 {l : List Tok} (h : few l = true) : okT16 l := by
  unfold few at h
  rw [decide_eq_true_eq] at h
  refine ⟨by have := h.1; omega, fun t ht => ?_⟩
  obtain ⟨i, hi, rfl⟩ := List.mem_iff_getElem.1 ht
  have := h.2 i hi
  rw [List.getD_eq_getElem?_getD, List.getElem?_eq_getElem hi] at this
  have : l[i].text.size ≤ 100 := this
  omega
theorem ok_join {a b : List Tok} (ha : okT16 a) (hb : okT16 b) (h1 : a.length ≤ 40) (h2 : b.length ≤ 40) : okT16 (joinT a b) := by
  unfold joinT
  refine ⟨by simp; omega, fun t ht => ?_⟩
  rcases List.mem_append.1 ht with h | h
  · exact ha.2 t h
  · rcases List.mem_cons.1 h with rfl | h
    · decide
    · exact hb.2 t h
end Go.Proofs.Ytlagfeppihkamaa
