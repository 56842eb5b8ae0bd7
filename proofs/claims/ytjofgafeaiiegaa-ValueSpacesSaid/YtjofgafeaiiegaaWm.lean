/- Layer 7, without the program: parts of values, walked. -/
import Derived.Test.YtjofgafeaiiegaaV7b
import Derived.Test.YtjofgafeaiiegaaWk
namespace Go.Proofs.Ytjofgafeaiiegaa
open Go.Sx
set_option linter.unusedSimpArgs false
set_option maxHeartbeats 4000000
set_option maxRecDepth 20000

def wk (l : List Tok) : Nat → Nat → Option (List Pa)
  | 0, _ => some []
  | f + 1, k => if k < l.length then (if (endsA l).getD k 0 = l.length then none else (wk l f (skip (endsA l) k).toNat).map fun ps => if (l.getD k .zero).kind = 1 then ps else toPa (pAt l k) :: ps) else some []
theorem wk_eq {l : List Tok} (hd : deep l = false) : ∀ (f k : Nat), (partsL l (plR (endsA l) l.length f k)).map (List.map toPa) = wk l f k
  | 0, _ => rfl
  | f + 1, k => by
    simp only [wk, plR]
    by_cases h : k < l.length
    · rw [if_pos (by omega), if_pos h]
      simp only [partsL, Int.toNat_natCast]
      by_cases c : (endsA l).getD k 0 = l.length
      · rw [if_pos c, if_pos c]; rfl
      · rw [if_neg c, if_neg c]
        obtain ⟨n, hn, _, _⟩ := skip_nat hd k h
        have ih := wk_eq hd f n
        rw [hn, Int.toNat_natCast, ← ih]
        cases partsL l (plR (endsA l) l.length f n) with
        | none => rfl
        | some ps =>
          simp only [Option.map_some]
          by_cases c1 : (l.getD k .zero).kind = 1
          · rw [if_pos c1, if_pos c1]
          · rw [if_neg c1, if_neg c1]; rfl
    · rw [if_neg (by omega), if_neg h]; rfl
theorem ptB_wk {l : List Tok} (hd : deep l = false) : ptB l = (wk l (l.length + 1) 0).isSome := by
  unfold ptB ptO
  rw [if_neg (by rw [hd]; simp), ← wk_eq hd, show ((0 : Nat) : Int) = 0 from rfl]
  cases partsL l (plR (endsA l) l.length (l.length + 1) 0) <;> rfl
theorem pl_wk {l : List Tok} (hd : deep l = false) : pl l = (wk l (l.length + 1) 0).getD [] := by
  unfold pl ptL ptO
  rw [if_neg (by rw [hd]; simp), ← wk_eq hd, show ((0 : Nat) : Int) = 0 from rfl]
  cases partsL l (plR (endsA l) l.length (l.length + 1) 0) <;> rfl
theorem ptB_deep {l : List Tok} (hd : deep l = true) : ptB l = false := by
  unfold ptB ptO; rw [if_pos hd]; rfl
theorem pl_deep {l : List Tok} (hd : deep l = true) : pl l = [] := by
  unfold pl ptL ptO; rw [if_pos hd]; rfl
theorem pl_false {l : List Tok} (h : ptB l = false) : pl l = [] := by
  unfold pl ptL
  unfold ptB at h
  cases hO : ptO l with
  | none => rfl
  | some ps => rw [hO] at h; cases h
theorem endsA_end {l : List Tok} (hd : deep l = false) {k : Nat} (hk : k < l.length) : (endsA l).getD k 0 = end1 l k := endsA_get l hd k hk
theorem skip_neg {l : List Tok} (hd : deep l = false) {k : Nat} (hk : k < l.length) (h : end1 l k = -1) : skip (endsA l) k = ((k + 1 : Nat) : Int) := by
  unfold skip
  rw [Int.toNat_natCast, endsA_end hd hk, h, if_pos (by omega)]; omega
theorem skip_pos {l : List Tok} (hd : deep l = false) {k m : Nat} (hk : k < l.length) (h : end1 l k = m) (hm : k < m) (hl : m < l.length) : skip (endsA l) k = ((m + 1 : Nat) : Int) := by
  have hlen : (endsA l).length = l.length := by unfold endsA; rw [hd]; simp [endsTo_len]
  unfold skip
  rw [Int.toNat_natCast, endsA_end hd hk, h, hlen, if_neg (by omega)]; omega
theorem wk_stop {l : List Tok} {f k : Nat} (hk : k < l.length) (hd : deep l = false) (h : end1 l k = l.length) : wk l (f + 1) k = none := by
  simp only [wk, hk, if_true, endsA_end hd hk, h]
theorem wk_one {l : List Tok} {f k : Nat} (hk : k < l.length) (hd : deep l = false) (h : end1 l k = -1) : wk l (f + 1) k = (wk l f (k + 1)).map fun ps => if (l.getD k .zero).kind = 1 then ps else ⟨l.getD k .zero, []⟩ :: ps := by
  have h1 : ¬ (-1 : Int) = l.length := by omega
  simp only [wk, hk, if_true, endsA_end hd hk, h, h1, if_false, skip_neg hd hk h, Int.toNat_natCast]
  have : toPa (pAt l k) = ⟨l.getD k .zero, []⟩ := by
    unfold toPa pAt
    rw [endsA_end hd hk, h]; rfl
  rw [this]
theorem wk_in {l : List Tok} {f k m : Nat} (hk : k < l.length) (hd : deep l = false) (h : end1 l k = m) (hm : k < m) (hl : m < l.length) : wk l (f + 1) k = (wk l f (m + 1)).map fun ps => if (l.getD k .zero).kind = 1 then ps else ⟨l.getD k .zero, (l.take m).drop (k + 1)⟩ :: ps := by
  have h1 : ¬ (m : Int) = l.length := by omega
  simp only [wk, hk, if_true, endsA_end hd hk, h, h1, if_false, skip_pos hd hk h hm hl, Int.toNat_natCast]
  have : toPa (pAt l k) = ⟨l.getD k .zero, (l.take m).drop (k + 1)⟩ := by
    unfold toPa pAt
    rw [endsA_end hd hk, h, if_pos (by omega)]; rfl
  rw [this]
theorem wk_end {l : List Tok} {f k : Nat} (hk : l.length ≤ k) : wk l f k = some [] := by
  cases f with
  | zero => rfl
  | succ f => simp only [wk]; rw [if_neg (by omega)]
/-! ### Spaces between -/
def spT : Tok := ⟨1, ⟨#[]⟩, 0⟩
def core (l : List Tok) : List Tok := l.flatMap fun t => [spT, t]
def spread (l : List Tok) : List Tok := core l ++ [spT]
theorem core_len (l : List Tok) : (core l).length = 2 * l.length := by
  induction l with
  | nil => rfl
  | cons t l ih => simp [core] at ih ⊢; omega
theorem spread_len (l : List Tok) : (spread l).length = 2 * l.length + 1 := by simp [spread, core_len]
theorem core_get (l : List Tok) : ∀ i, i < l.length → (core l).getD (2 * i) .zero = spT ∧ (core l).getD (2 * i + 1) .zero = l.getD i .zero := by
  induction l with
  | nil => intro i h; simp at h
  | cons t l ih =>
    intro i h
    cases i with
    | zero => exact ⟨rfl, rfl⟩
    | succ i =>
      have := ih i (by simpa using h)
      rw [show 2 * (i + 1) = (2 * i) + 1 + 1 by omega, show (2 * i + 1 + 1) + 1 = (2 * i + 1) + 1 + 1 by omega]
      exact this
theorem spread_get (l : List Tok) (i : Nat) (h : i < l.length) : (spread l).getD (2 * i + 1) .zero = l.getD i .zero := by
  rw [spread, getD_app _ _ _ (by rw [core_len]; omega)]; exact (core_get l i h).2
theorem spread_sp (l : List Tok) (i : Nat) (h : i ≤ l.length) : (spread l).getD (2 * i) .zero = spT := by
  by_cases e : i = l.length
  · subst e
    rw [spread, List.getD_eq_getElem?_getD, List.getElem?_append_right (by rw [core_len]; omega), core_len, Nat.sub_self]; rfl
  · rw [spread, getD_app _ _ _ (by rw [core_len]; omega)]; exact (core_get l i (by omega)).1
theorem core_take (l : List Tok) : ∀ m, (core l).take (2 * m) = core (l.take m) := by
  induction l with
  | nil => intro m; simp [core]
  | cons t l ih =>
    intro m
    cases m with
    | zero => rfl
    | succ m =>
      rw [show 2 * (m + 1) = 2 * m + 1 + 1 by omega]
      show spT :: t :: (core l).take (2 * m) = _
      rw [ih m]; rfl
theorem core_drop (l : List Tok) : ∀ m, (core l).drop (2 * m) = core (l.drop m) := by
  induction l with
  | nil => intro m; simp [core]
  | cons t l ih =>
    intro m
    cases m with
    | zero => rfl
    | succ m =>
      rw [show 2 * (m + 1) = 2 * m + 1 + 1 by omega]
      show (core l).drop (2 * m) = _
      rw [ih m]; rfl
theorem spread_cut (l : List Tok) (k m : Nat) (h1 : k < m) (h2 : m < l.length) : ((spread l).take (2 * m + 1)).drop (2 * (k + 1)) = spread ((l.take m).drop (k + 1)) := by
  have e : (spread l).take (2 * m + 1) = core (l.take m) ++ [spT] := by
    rw [List.take_add_one]
    have h3 := spread_sp l m (by omega)
    rw [List.getD_eq_getElem?_getD, List.getElem?_eq_getElem (by rw [spread_len]; omega)] at h3
    rw [List.getElem?_eq_getElem (by rw [spread_len]; omega)]
    simp only [Option.getD_some] at h3
    rw [h3, Option.toList_some, spread, List.take_append_of_le_length (by rw [core_len]; omega), core_take]
  rw [e, List.drop_append_of_le_length (by rw [core_len, List.length_take]; omega), core_drop]; rfl
theorem emb_spread (l : List Tok) : Emb l (spread l) (fun i => 2 * i + 1) 0 where
  mono i j h _ := by omega
  lt i h := by rw [spread_len]; omega
  ge i _ := Nat.zero_le _
  get i h := spread_get l i h
  neu j _ hj hn := by
    rw [spread_len] at hj
    have : j % 2 = 0 := by
      rcases Nat.mod_two_eq_zero_or_one j with h | h
      · exact h
      · exact absurd (show 2 * (j / 2) + 1 = j by omega) (hn (j / 2) (by omega))
    rw [show j = 2 * (j / 2) by omega, spread_sp l _ (by omega)]
    exact ⟨by decide, by decide⟩
  op := rfl
  le := Nat.zero_le _
theorem deep_iff (l : List Tok) : deep l = false ↔ ∀ j, j ≤ l.length → (opn l j).length ≤ 64 := by
  unfold deep
  rw [decide_eq_false_iff_not]
  constructor
  · intro h j hj
    cases j with
    | zero => simp [opn]
    | succ j => exact Decidable.byContradiction fun hn => h ⟨j, by omega, by omega⟩
  · rintro h ⟨i, h1, h2⟩
    have := h (i + 1) (by omega)
    omega
theorem deep_spread (l : List Tok) : deep (spread l) = deep l := by
  have E := emb_spread l
  cases h : deep l with
  | false => rw [deep_iff]; exact fun j hj => E.len h (Nat.zero_le _) hj
  | true =>
    cases h2 : deep (spread l) with
    | true => rfl
    | false =>
      rw [deep_iff] at h2
      have : deep l = false := by
        rw [deep_iff]
        intro j hj
        cases j with
        | zero => simp [opn]
        | succ j =>
          have e := E.at1 (m := j) (by omega)
          have := h2 (2 * j + 1 + 1) (by rw [spread_len]; omega)
          rw [e, List.length_map] at this
          exact this
      rw [h] at this; cases this
def PaR (p q : Pa) : Prop := q.t = p.t ∧ (q.al = spread p.al ∨ (p.al = [] ∧ q.al = []))
def RelO : Option (List Pa) → Option (List Pa) → Prop
  | none, none => True
  | some ps, some qs => F2 PaR ps qs
  | _, _ => False
theorem RelO.map {x y : Option (List Pa)} (h : RelO x y) (f g : List Pa → List Pa) (hf : ∀ ps qs, F2 PaR ps qs → F2 PaR (f ps) (g qs)) : RelO (x.map f) (y.map g) := by
  cases x <;> cases y <;> first | exact h | exact hf _ _ h
theorem wk_spread {l : List Tok} (hd : deep l = false) : ∀ (f i f' : Nat), i ≤ l.length → l.length + 1 ≤ i + f → (spread l).length + 1 ≤ 2 * i + f' → RelO (wk l f i) (wk (spread l) f' (2 * i)) := by
  have E := emb_spread l
  have hd' : deep (spread l) = false := by rw [deep_spread]; exact hd
  have hlen := spread_len l
  have hsp : ∀ i, i ≤ l.length → ∀ f', wk (spread l) (f' + 1) (2 * i) = wk (spread l) f' (2 * i + 1) := fun i hi f' => by
    have hs := spread_sp l i hi
    have he : end1 (spread l) (2 * i) = -1 := by
      unfold end1; rw [hs, if_pos (by decide)]
    rw [wk_one (by omega) hd' he, hs]
    have : ∀ x : Option (List Pa), x.map (fun ps => if spT.kind = 1 then ps else ⟨spT, []⟩ :: ps) = x := fun x => by cases x <;> rfl
    exact this _
  intro f
  induction f with
  | zero => intro i f' h1 h2 h3; omega
  | succ f ih =>
    intro i f' h1 h2 h3
    obtain ⟨f', rfl⟩ : ∃ g, f' = g + 1 := ⟨f' - 1, by omega⟩
    rw [hsp i h1]
    by_cases hi : i < l.length
    · obtain ⟨f', rfl⟩ : ∃ g, f' = g + 1 := ⟨f' - 1, by omega⟩
      have hk' : 2 * i + 1 < (spread l).length := by omega
      rcases E.end hi with ⟨a, b⟩ | ⟨a, b⟩ | ⟨m, m1, m2, a, b⟩
      · rw [wk_one hi hd a, wk_one hk' hd' b, spread_get l i hi]
        refine RelO.map (ih (i + 1) f' (by omega) (by omega) (by omega)) _ _ fun ps qs h => ?_
        split
        · exact h
        · exact ⟨⟨rfl, .inr ⟨rfl, rfl⟩⟩, h⟩
      · rw [wk_stop hi hd a, wk_stop hk' hd' b]; trivial
      · rw [wk_in hi hd a m1 m2, wk_in hk' hd' b (by omega) (by omega), spread_get l i hi]
        refine RelO.map (ih (m + 1) f' (by omega) (by omega) (by omega)) _ _ fun ps qs h => ?_
        split
        · exact h
        · exact ⟨⟨rfl, .inl (spread_cut l i m m1 m2)⟩, h⟩
    · rw [wk_end (by omega), wk_end (by omega)]; trivial
theorem pl_spread (l : List Tok) : ptB (spread l) = ptB l ∧ F2 PaR (pl l) (pl (spread l)) := by
  cases hd : deep l with
  | true =>
    have hd' : deep (spread l) = true := by rw [deep_spread]; exact hd
    rw [ptB_deep hd, ptB_deep hd', pl_deep hd, pl_deep hd']; exact ⟨rfl, trivial⟩
  | false =>
    have hd' : deep (spread l) = false := by rw [deep_spread]; exact hd
    rw [ptB_wk hd, ptB_wk hd', pl_wk hd, pl_wk hd']
    have h := wk_spread hd (l.length + 1) 0 ((spread l).length + 1) (Nat.zero_le _) (by omega) (by omega)
    rw [show 2 * 0 = 0 from rfl] at h
    revert h
    cases wk l (l.length + 1) 0 <;> cases wk (spread l) ((spread l).length + 1) 0 <;> intro h
    · exact ⟨rfl, trivial⟩
    · exact h.elim
    · exact h.elim
    · exact ⟨rfl, h⟩

/-! ### One behind the other -/
end Go.Proofs.Ytjofgafeaiiegaa
