/- Layer 7, without the program: parts of values, walked. -/
import Derived.Test.YtilinnmancfjgaaGreatDoorV7b
import Derived.Test.YtilinnmancfjgaaGreatDoorWk
namespace Go.Proofs.YtilinnmancfjgaaGreatDoor
open Go.Sx
set_option linter.unusedSimpArgs false
set_option maxHeartbeats 4000000
set_option maxRecDepth 20000

def wk (l : List Tok) : Nat → Nat → Option (List Pa)
  | 0, _ => some []
  | f + 1, k => if k < l.length then (if (endsA l).getD k 0 = l.length then none else (wk l f (skip (endsA l) k).toNat).map fun ps => if (l.getD k .zero).kind = 1 then ps else toPa (pAt l k) :: ps) else some []
theorem wk_eq {l : List Tok} (hd : deep l = false) : ∀ (f k : Nat), (partsL l (plR (endsA l) l.length f k)).map (List.map toPa) = wk l f k
  | 0, _ => rfl
  | f + 1, k => by
    simp only [wk, plR]
    by_cases h : k < l.length
    · rw [if_pos (by omega), if_pos h]
      simp only [partsL, Int.toNat_natCast]
      by_cases c : (endsA l).getD k 0 = l.length
      · rw [if_pos c, if_pos c]; rfl
      · rw [if_neg c, if_neg c]
        obtain ⟨n, hn, _, _⟩ := skip_nat hd k h
        have ih := wk_eq hd f n
        rw [hn, Int.toNat_natCast, ← ih]
        cases partsL l (plR (endsA l) l.length f n) with
        | none => rfl
        | some ps =>
          simp only [Option.map_some]
          by_cases c1 : (l.getD k .zero).kind = 1
          · rw [if_pos c1, if_pos c1]
          · rw [if_neg c1, if_neg c1]; rfl
    · rw [if_neg (by omega), if_neg h]; rfl
theorem ptB_wk {l : List Tok} (hd : deep l = false) : ptB l = (wk l (l.length + 1) 0).isSome := by
  unfold ptB ptO
  rw [if_neg (by rw [hd]; simp), ← wk_eq hd, show ((0 : Nat) : Int) = 0 from rfl]
  cases partsL l (plR (endsA l) l.length (l.length + 1) 0) <;> rfl
theorem pl_wk {l : List Tok} (hd : deep l = false) : pl l = (wk l (l.length + 1) 0).getD [] := by
  unfold pl ptL ptO
  rw [if_neg (by rw [hd]; simp), ← wk_eq hd, show ((0 : Nat) : Int) = 0 from rfl]
  cases partsL l (plR (endsA l) l.length (l.length + 1) 0) <;> rfl
theorem ptB_deep {l : List Tok} (hd : deep l = true) : ptB l = false := by
  unfold ptB ptO; rw [if_pos hd]; rfl
theorem endsA_end {l : List Tok} (hd : deep l = false) {k : Nat} (hk : k < l.length) : (endsA l).getD k 0 = end1 l k := endsA_get l hd k hk
theorem skip_neg {l : List Tok} (hd : deep l = false) {k : Nat} (hk : k < l.length) (h : end1 l k = -1) : skip (endsA l) k = ((k + 1 : Nat) : Int) := by
  unfold skip
  rw [Int.toNat_natCast, endsA_end hd hk, h, if_pos (by omega)]; omega
theorem skip_pos {l : List Tok} (hd : deep l = false) {k m : Nat} (hk : k < l.length) (h : end1 l k = m) (hm : k < m) (hl : m < l.length) : skip (endsA l) k = ((m + 1 : Nat) : Int) := by
  have hlen : (endsA l).length = l.length := by unfold endsA; rw [hd]; simp [endsTo_len]
  unfold skip
  rw [Int.toNat_natCast, endsA_end hd hk, h, hlen, if_neg (by omega)]; omega
theorem end_cases {l : List Tok} {k : Nat} (hk : k < l.length) : (closing (l.getD k .zero) = ⟨#[]⟩ ∧ end1 l k = -1) ∨ end1 l k = l.length ∨ ∃ m : Nat, k < m ∧ m < l.length ∧ end1 l k = m ∧ opn l (m + 1) = opn l k ∧ (k : Int) ∈ opn l m := by
  unfold end1
  by_cases c : closing (l.getD k .zero) = ⟨#[]⟩
  · rw [if_pos c]; exact .inl ⟨c, rfl⟩
  · rw [if_neg c]
    right
    obtain ⟨a1, a2⟩ := end_spec l k c hk
    rcases a1 with a1 | ⟨m, b1, b2, b3, b4, b5⟩
    · exact .inl a1
    · exact .inr ⟨m, b2, b3, b1, b5, by rw [b4]; simp⟩
theorem wk_stop {l : List Tok} {f k : Nat} (hk : k < l.length) (hd : deep l = false) (h : end1 l k = l.length) : wk l (f + 1) k = none := by
  simp only [wk, hk, if_true, endsA_end hd hk, h]
theorem wk_one {l : List Tok} {f k : Nat} (hk : k < l.length) (hd : deep l = false) (h : end1 l k = -1) : wk l (f + 1) k = (wk l f (k + 1)).map fun ps => if (l.getD k .zero).kind = 1 then ps else ⟨l.getD k .zero, []⟩ :: ps := by
  have h1 : ¬ (-1 : Int) = l.length := by omega
  simp only [wk, hk, if_true, endsA_end hd hk, h, h1, if_false, skip_neg hd hk h, Int.toNat_natCast]
  have : toPa (pAt l k) = ⟨l.getD k .zero, []⟩ := by
    unfold toPa pAt
    rw [endsA_end hd hk, h]; rfl
  rw [this]
theorem wk_in {l : List Tok} {f k m : Nat} (hk : k < l.length) (hd : deep l = false) (h : end1 l k = m) (hm : k < m) (hl : m < l.length) : wk l (f + 1) k = (wk l f (m + 1)).map fun ps => if (l.getD k .zero).kind = 1 then ps else ⟨l.getD k .zero, (l.take m).drop (k + 1)⟩ :: ps := by
  have h1 : ¬ (m : Int) = l.length := by omega
  simp only [wk, hk, if_true, endsA_end hd hk, h, h1, if_false, skip_pos hd hk h hm hl, Int.toNat_natCast]
  have : toPa (pAt l k) = ⟨l.getD k .zero, (l.take m).drop (k + 1)⟩ := by
    unfold toPa pAt
    rw [endsA_end hd hk, h, if_pos (by omega)]; rfl
  rw [this]
theorem wk_end {l : List Tok} {f k : Nat} (hk : l.length ≤ k) : wk l f k = some [] := by
  cases f with
  | zero => rfl
  | succ f => simp only [wk]; rw [if_neg (by omega)]
theorem closing_k1 {t : Tok} (h : t.kind ≠ 3) (h' : t.kind ≠ 12) : closing t = ⟨#[]⟩ := by
  unfold closing; simp [h, h']

/-! ### Spaces between -/
def spT : Tok := ⟨1, ⟨#[]⟩, 0⟩
def core (l : List Tok) : List Tok := l.flatMap fun t => [spT, t]
def spread (l : List Tok) : List Tok := core l ++ [spT]
theorem deep_iff (l : List Tok) : deep l = false ↔ ∀ j, j ≤ l.length → (opn l j).length ≤ 64 := by
  unfold deep
  rw [decide_eq_false_iff_not]
  constructor
  · intro h j hj
    cases j with
    | zero => simp [opn]
    | succ j => exact Decidable.byContradiction fun hn => h ⟨j, by omega, by omega⟩
  · rintro h ⟨i, h1, h2⟩
    have := h (i + 1) (by omega)
    omega
def PaR (p q : Pa) : Prop := q.t = p.t ∧ (q.al = spread p.al ∨ (p.al = [] ∧ q.al = []))
def RelO : Option (List Pa) → Option (List Pa) → Prop
  | none, none => True
  | some ps, some qs => F2 PaR ps qs
  | _, _ => False
theorem RelO.map {x y : Option (List Pa)} (h : RelO x y) (f g : List Pa → List Pa) (hf : ∀ ps qs, F2 PaR ps qs → F2 PaR (f ps) (g qs)) : RelO (x.map f) (y.map g) := by
  cases x <;> cases y <;> first | exact h | exact hf _ _ h
/-! ### One behind the other -/
theorem wk_open {l : List Tok} (hd : deep l = false) : ∀ (f k : Nat) (ps : List Pa), l.length + 1 ≤ k + f → k ≤ l.length → opn l k = [] → wk l f k = some ps → opn l l.length = []
  | 0, k, ps, h1, h2, _, _ => by omega
  | f + 1, k, ps, h1, h2, h0, h => by
    by_cases hk : k < l.length
    · rcases end_cases hk with ⟨c, a⟩ | a | ⟨m, m1, m2, a, b, b'⟩
      · rw [wk_one hk hd a, Option.map_eq_some_iff] at h
        obtain ⟨qs, hq, _⟩ := h
        refine wk_open hd f (k + 1) qs (by omega) (by omega) ?_ hq
        rw [opn_same c (by rintro ⟨_, _, hp, _⟩; simp [h0] at hp)]; exact h0
      · rw [wk_stop hk hd a] at h; cases h
      · rw [wk_in hk hd a m1 m2, Option.map_eq_some_iff] at h
        obtain ⟨qs, hq, _⟩ := h
        exact wk_open hd f (m + 1) qs (by omega) (by omega) (b.trans h0) hq
    · rw [← show k = l.length by omega]; exact h0
theorem wk_front {a r : List Tok} (hd : deep a = false) (hd' : deep (a ++ r) = false) : ∀ (f k f' : Nat) (ps : List Pa), a.length + 1 ≤ k + f → k ≤ a.length → (a ++ r).length + 1 ≤ k + f' → wk a f k = some ps →
    ∃ f'', (a ++ r).length + 1 ≤ a.length + f'' ∧ wk (a ++ r) f' k = (wk (a ++ r) f'' a.length).map (ps ++ ·)
  | 0, k, f', ps, h1, h2, _, _ => by omega
  | f + 1, k, f', ps, h1, h2, h3, h => by
    by_cases hk : k < a.length
    · have hla : (a ++ r).length = a.length + r.length := List.length_append
      have hk' : k < (a ++ r).length := by omega
      obtain ⟨f', rfl⟩ : ∃ g, f' = g + 1 := ⟨f' - 1, by omega⟩
      have hg := getD_app a r k hk
      have mm : ∀ (x : Option (List Pa)) (g : Pa) (qs : List Pa), (x.map (qs ++ ·)).map (fun ps => if (a.getD k .zero).kind = 1 then ps else g :: ps) = x.map ((if (a.getD k .zero).kind = 1 then qs else g :: qs) ++ ·) := fun x g qs => by
        cases x with
        | none => rfl
        | some y => simp only [Option.map_some]; split <;> rfl
      rcases end_cases hk with ⟨c, e⟩ | e | ⟨m, m1, m2, e, b, b'⟩
      · rw [wk_one hk hd e, Option.map_eq_some_iff] at h
        obtain ⟨qs, hq, rfl⟩ := h
        have e' : end1 (a ++ r) k = -1 := by unfold end1; rw [hg, if_pos c]
        obtain ⟨f'', g1, g2⟩ := wk_front hd hd' f (k + 1) f' qs (by omega) (by omega) (by omega) hq
        exact ⟨f'', g1, by rw [wk_one hk' hd' e', g2, hg, mm]⟩
      · rw [wk_stop hk hd e] at h; cases h
      · rw [wk_in hk hd e m1 m2, Option.map_eq_some_iff] at h
        obtain ⟨qs, hq, rfl⟩ := h
        have hc : ¬ closing (a.getD k .zero) = ⟨#[]⟩ := (end1_open a k (by omega)).1
        have e' : end1 (a ++ r) k = m := by
          have hc' : ¬ closing ((a ++ r).getD k .zero) = ⟨#[]⟩ := by rw [hg]; exact hc
          unfold end1
          rw [if_neg hc']
          refine feE_eq (a ++ r) k m hc' m1 (by omega) ?_ ?_
          · rw [opn_app a r m (by omega)]; exact b'
          · rw [opn_app a r (m + 1) (by omega), b]; intro hh; have := opn_mem a k _ hh; omega
        obtain ⟨f'', g1, g2⟩ := wk_front hd hd' f (m + 1) f' qs (by omega) (by omega) (by omega) hq
        refine ⟨f'', g1, ?_⟩
        rw [wk_in hk' hd' e' m1 (by omega), g2, hg, mm, List.take_append_of_le_length (by omega)]
    · have e : k = a.length := by omega
      subst e
      rw [wk_end (Nat.le_refl _)] at h
      cases h
      exact ⟨f', h3, by cases wk (a ++ r) f' a.length <;> rfl⟩
theorem emb_back (a b : List Tok) (h : opn a a.length = []) : Emb b (a ++ b) (fun i => a.length + i) a.length where
  mono i j h _ := by omega
  lt i h := by rw [List.length_append]; omega
  ge i _ := by omega
  get i h := by
    rw [List.getD_eq_getElem?_getD, List.getElem?_append_right (by omega), Nat.add_sub_cancel_left, ← List.getD_eq_getElem?_getD]
  neu j h1 h2 hn := absurd (show a.length + (j - a.length) = j by omega) (hn (j - a.length) (by rw [List.length_append] at h2; omega))
  op := by rw [opn_app a b _ (Nat.le_refl _)]; exact h
  le := by rw [List.length_append]; omega
theorem wk_back {a b : List Tok} (hd : deep b = false) (hd' : deep (a ++ b) = false) (h0 : opn a a.length = []) : ∀ (f i f' : Nat), i ≤ b.length → b.length + 1 ≤ i + f → (a ++ b).length + 1 ≤ a.length + i + f' → wk (a ++ b) f' (a.length + i) = wk b f i := by
  have E := emb_back a b h0
  have hlen : (a ++ b).length = a.length + b.length := List.length_append
  intro f
  induction f with
  | zero => intro i f' h1 h2 h3; omega
  | succ f ih =>
    intro i f' h1 h2 h3
    obtain ⟨f', rfl⟩ : ∃ g, f' = g + 1 := ⟨f' - 1, by omega⟩
    by_cases hi : i < b.length
    · have hk' : a.length + i < (a ++ b).length := by omega
      have hg := E.get i hi
      rcases E.end hi with ⟨x, y⟩ | ⟨x, y⟩ | ⟨m, m1, m2, x, y⟩
      · rw [wk_one hi hd x, wk_one hk' hd' y, hg, Nat.add_assoc, ih (i + 1) f' (by omega) (by omega) (by omega)]
      · rw [wk_stop hi hd x, wk_stop hk' hd' y]
      · have hcut : ((a ++ b).take (a.length + m)).drop (a.length + i + 1) = (b.take m).drop (i + 1) := by
          rw [List.take_append, List.take_of_length_le (by omega), Nat.add_sub_cancel_left, List.drop_append, List.drop_eq_nil_of_le (by omega), List.nil_append]
          congr 1; omega
        rw [wk_in hi hd x m1 m2, wk_in hk' hd' y (by omega) (by omega), hg, hcut, Nat.add_assoc, ih (m + 1) f' (by omega) (by omega) (by omega)]
    · rw [wk_end (by omega), wk_end (by omega)]
theorem deep_append {a b : List Tok} (ha : deep a = false) (hb : deep b = false) (h0 : opn a a.length = []) : deep (a ++ b) = false := by
  rw [deep_iff] at ha ⊢
  intro j hj
  by_cases h : j ≤ a.length
  · rw [opn_app a b j h]; exact ha j h
  · exact (emb_back a b h0).len hb (by omega) hj
/-- The parts of two values, one behind the other. -/
theorem pl_append {a b : List Tok} (ha : ptB a = true) (hb : deep b = false) : ptB (a ++ b) = ptB b ∧ (ptB b = true → pl (a ++ b) = pl a ++ pl b) ∧ deep (a ++ b) = false := by
  have hda : deep a = false := by
    cases h : deep a with
    | false => rfl
    | true => rw [ptB_deep h] at ha; cases ha
  rw [ptB_wk hda, Option.isSome_iff_exists] at ha
  obtain ⟨ps, hps⟩ := ha
  have h0 := wk_open hda (a.length + 1) 0 ps (by omega) (Nat.zero_le _) rfl hps
  have hd := deep_append hda hb h0
  obtain ⟨f'', g1, g2⟩ := wk_front hda hd (a.length + 1) 0 ((a ++ b).length + 1) ps (by omega) (Nat.zero_le _) (by omega) hps
  have g3 := wk_back hb hd h0 (b.length + 1) 0 f'' (Nat.zero_le _) (by omega) (by omega)
  rw [Nat.add_zero] at g3
  rw [ptB_wk hd, ptB_wk hb, pl_wk hd, pl_wk hb, pl_wk hda, hps, g2, g3]
  cases wk b (b.length + 1) 0 with
  | none => exact ⟨rfl, fun h => (by cases h), hd⟩
  | some qs => exact ⟨rfl, fun _ => rfl, hd⟩
theorem deep_one {t : Tok} (h : t.kind ≠ 3) (h' : t.kind ≠ 12) : deep [t] = false := by
  rw [deep_iff]
  intro j hj
  have := opn_len [t] j
  simp at hj
  omega
theorem pl_cons {t : Tok} {b : List Tok} (h : t.kind ≠ 3) (h' : t.kind ≠ 12) (hb : ptB b = true) : ptB (t :: b) = true ∧ pl (t :: b) = (if t.kind = 1 then [] else [⟨t, []⟩]) ++ pl b ∧ deep (t :: b) = false := by
  have hdb : deep b = false := by
    cases h : deep b with
    | false => rfl
    | true => rw [ptB_deep h] at hb; cases hb
  have hd := deep_one h h'
  have he : end1 [t] 0 = -1 := by
    unfold end1
    rw [if_pos]
    exact closing_k1 (t := t) h h'
  have hw : wk [t] ([t].length + 1) 0 = some (if t.kind = 1 then [] else [⟨t, []⟩]) := by
    rw [wk_one (by simp) hd he, wk_end (by simp)]; rfl
  have h1 : ptB [t] = true := by rw [ptB_wk hd, hw]; rfl
  have h2 : pl [t] = if t.kind = 1 then [] else [⟨t, []⟩] := by rw [pl_wk hd, hw]; rfl
  obtain ⟨a1, a2, a3⟩ := pl_append (a := [t]) (b := b) h1 hdb
  exact ⟨a1.trans hb, by rw [← h2]; exact a2 hb, a3⟩
end Go.Proofs.YtilinnmancfjgaaGreatDoor
