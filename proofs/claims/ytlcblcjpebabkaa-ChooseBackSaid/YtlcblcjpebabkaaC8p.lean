/- Layer 8, without the program: what is written is parsed as it was. -/
import Derived.Test.YtlcblcjpebabkaaC8l
import Derived.Test.YtlcblcjpebabkaaWk
section
namespace Go.Proofs.Ytlcblcjpebabkaa
open Go.Sx
set_option linter.unusedSimpArgs false
set_option linter.unusedVariables false
set_option maxHeartbeats 4000000
set_option maxRecDepth 100000

theorem endsA_end {l : List Tok} (hd : deep l = false) {k : Nat} (hk : k < l.length) : (endsA l).getD k 0 = end1 l k := endsA_get l hd k hk
theorem skip_neg {l : List Tok} (hd : deep l = false) {k : Nat} (hk : k < l.length) (h : end1 l k = -1) : skip (endsA l) k = ((k + 1 : Nat) : Int) := by
  unfold skip
  rw [Int.toNat_natCast, endsA_end hd hk, h, if_pos (by omega)]; omega
theorem skip_pos {l : List Tok} (hd : deep l = false) {k m : Nat} (hk : k < l.length) (h : end1 l k = m) (hm : k < m) (hl : m < l.length) : skip (endsA l) k = ((m + 1 : Nat) : Int) := by
  have hlen : (endsA l).length = l.length := by unfold endsA; rw [hd]; simp [endsTo_len]
  unfold skip
  rw [Int.toNat_natCast, endsA_end hd hk, h, hlen, if_neg (by omega)]; omega
theorem end_cases {l : List Tok} {k : Nat} (hk : k < l.length) : (closing (l.getD k .zero) = ⟨#[]⟩ ∧ end1 l k = -1) ∨ end1 l k = l.length ∨ ∃ m : Nat, k < m ∧ m < l.length ∧ end1 l k = m ∧ opn l (m + 1) = opn l k ∧ (k : Int) ∈ opn l m := by
  unfold end1
  by_cases c : closing (l.getD k .zero) = ⟨#[]⟩
  · rw [if_pos c]; exact .inl ⟨c, rfl⟩
  · rw [if_neg c]
    right
    obtain ⟨a1, a2⟩ := end_spec l k c hk
    rcases a1 with a1 | ⟨m, b1, b2, b3, b4, b5⟩
    · exact .inl a1
    · exact .inr ⟨m, b2, b3, b1, b5, by rw [b4]; simp⟩
theorem deep_iff (l : List Tok) : deep l = false ↔ ∀ j, j ≤ l.length → (opn l j).length ≤ 64 := by
  unfold deep
  rw [decide_eq_false_iff_not]
  constructor
  · intro h j hj
    cases j with
    | zero => simp [opn]
    | succ j => exact Decidable.byContradiction fun hn => h ⟨j, by omega, by omega⟩
  · rintro h ⟨i, h1, h2⟩
    have := h (i + 1) (by omega)
    omega
theorem emb_back (a b : List Tok) (h : opn a a.length = []) : Emb b (a ++ b) (fun i => a.length + i) a.length where
  mono i j h _ := by omega
  lt i h := by rw [List.length_append]; omega
  ge i _ := by omega
  get i h := by
    rw [List.getD_eq_getElem?_getD, List.getElem?_append_right (by omega), Nat.add_sub_cancel_left, ← List.getD_eq_getElem?_getD]
  neu j h1 h2 hn := absurd (show a.length + (j - a.length) = j by omega) (hn (j - a.length) (by rw [List.length_append] at h2; omega))
  op := by rw [opn_app a b _ (Nat.le_refl _)]; exact h
  le := by rw [List.length_append]; omega
theorem deep_append {a b : List Tok} (ha : deep a = false) (hb : deep b = false) (h0 : opn a a.length = []) : deep (a ++ b) = false := by
  rw [deep_iff] at ha ⊢
  intro j hj
  by_cases h : j ≤ a.length
  · rw [opn_app a b j h]; exact ha j h
  · exact (emb_back a b h0).len hb (by omega) hj
structure Bal (a : List Tok) : Prop where
  d : deep a = false
  o : opn a a.length = []
theorem deep_small {a : List Tok} (h : a.length ≤ 64) : deep a = false := by
  rw [deep_iff]; intro j hj; have := opn_len a j; omega
theorem bal_app {a b : List Tok} (ha : Bal a) (hb : Bal b) : Bal (a ++ b) := ⟨deep_append ha.d hb.d ha.o, by
  have := (emb_back a b ha.o).fin
  rw [hb.o] at this; exact this⟩
theorem bal_nil : Bal [] := ⟨deep_small (by simp), rfl⟩
theorem bal_one {t : Tok} (h : t.kind ≠ 3 ∧ t.kind ≠ 12) : Bal [t] := ⟨deep_small (by simp), opn_nk (l := [t]) (nk_of fun u hu => by obtain rfl := List.mem_singleton.1 hu; exact h) 1 (by simp)⟩
theorem bal_flat {α : Type} (f : α → List Tok) : ∀ l : List α, (∀ x ∈ l, Bal (f x)) → Bal (l.flatMap f)
  | [], _ => bal_nil
  | x :: l, h => by rw [List.flatMap_cons]; exact bal_app (h x (by simp)) (bal_flat f l fun y hy => h y (by simp [hy]))
theorem clo_op : ¬ closing tOp = ⟨#[]⟩ := by decide
theorem clo_cl : closing tCl = ⟨#[]⟩ := by decide
theorem clo_id (x : ByteArray) : closing (tId x) = ⟨#[]⟩ := clo_nk ⟨by show (2 : Int) ≠ 3; decide, by show (2 : Int) ≠ 12; decide⟩
theorem clo_dl (x : ByteArray) : closing (tDl x) = ⟨#[]⟩ := clo_nk ⟨by show (11 : Int) ≠ 3; decide, by show (11 : Int) ≠ 12; decide⟩
theorem clo_st (x : ByteArray) : closing ⟨6, x, 0⟩ = ⟨#[]⟩ := clo_nk ⟨by show (6 : Int) ≠ 3; decide, by show (6 : Int) ≠ 12; decide⟩
theorem opn_push0 (l : List Tok) (h : ¬ closing (l.getD 0 .zero) = ⟨#[]⟩) : opn l 1 = [0] := by rw [opn_push (m := 0) h]; rfl
theorem opn_same0 (l : List Tok) (m : Nat) (c : closing (l.getD m .zero) = ⟨#[]⟩) (k : (l.getD m .zero).kind ≠ 13) (h : opn l m = [0]) : opn l (m + 1) = [0] := by
  rw [opn_same c (fun hp => k hp.2.1), h]
theorem opn_pop0 (l : List Tok) (m : Nat) (c : closing (l.getD m .zero) = ⟨#[]⟩) (k : (l.getD m .zero).kind = 13) (t : closing (l.getD 0 .zero) = (l.getD m .zero).text) (h : opn l m = [0]) : opn l (m + 1) = [] := by
  rw [opn_pop ⟨c, k, by rw [h]; decide, by rw [h]; exact t⟩, h]; rfl
theorem grp3 (x : ByteArray) (r : List Tok) : opn (tOp :: tId x :: tCl :: r) 2 = [0] ∧ opn (tOp :: tId x :: tCl :: r) 3 = [] := by
  have h1 := opn_push0 (tOp :: tId x :: tCl :: r) clo_op
  have h2 := opn_same0 (tOp :: tId x :: tCl :: r) 1 (clo_id x) (by show (2 : Int) ≠ 13; decide) h1
  exact ⟨h2, opn_pop0 (tOp :: tId x :: tCl :: r) 2 clo_cl rfl (by show closing tOp = ⟨#[93]⟩; decide) h2⟩
theorem grp5 (x y : ByteArray) (r : List Tok) : opn (tOp :: tId x :: tDl ⟨#[61]⟩ :: ⟨6, y, 0⟩ :: tCl :: r) 4 = [0] ∧ opn (tOp :: tId x :: tDl ⟨#[61]⟩ :: ⟨6, y, 0⟩ :: tCl :: r) 5 = [] := by
  have h1 := opn_push0 (tOp :: tId x :: tDl ⟨#[61]⟩ :: ⟨6, y, 0⟩ :: tCl :: r) clo_op
  have h2 := opn_same0 (tOp :: tId x :: tDl ⟨#[61]⟩ :: ⟨6, y, 0⟩ :: tCl :: r) 1 (clo_id x) (by show (2 : Int) ≠ 13; decide) h1
  have h3 := opn_same0 (tOp :: tId x :: tDl ⟨#[61]⟩ :: ⟨6, y, 0⟩ :: tCl :: r) 2 (clo_dl ⟨#[61]⟩) (by show (11 : Int) ≠ 13; decide) h2
  have h4 := opn_same0 (tOp :: tId x :: tDl ⟨#[61]⟩ :: ⟨6, y, 0⟩ :: tCl :: r) 3 (clo_st y) (by show (6 : Int) ≠ 13; decide) h3
  exact ⟨h4, opn_pop0 (tOp :: tId x :: tDl ⟨#[61]⟩ :: ⟨6, y, 0⟩ :: tCl :: r) 4 clo_cl rfl (by show closing tOp = ⟨#[93]⟩; decide) h4⟩
theorem bal_wrt (s : Smp) : Bal (wrt s) := by
  unfold wrt
  have hI : Bal [tId s.text] := bal_one ⟨by show (2 : Int) ≠ 3; decide, by show (2 : Int) ≠ 12; decide⟩
  have hD : ∀ w, Bal [tDl w] := fun w => bal_one ⟨by show (11 : Int) ≠ 3; decide, by show (11 : Int) ≠ 12; decide⟩
  split
  · exact hD _
  split
  · exact bal_one ⟨by show (5 : Int) ≠ 3; decide, by show (5 : Int) ≠ 12; decide⟩
  split
  · exact bal_app (hD ⟨#[46]⟩) hI
  split
  · exact ⟨deep_small (by simp), (grp3 s.text []).2⟩
  split
  · exact ⟨deep_small (by simp), (grp5 s.text s.val []).2⟩
  · exact hI
theorem getD_back (p r : List Tok) (i : Nat) : (p ++ r).getD (p.length + i) .zero = r.getD i .zero := by
  rw [List.getD_eq_getElem?_getD, List.getElem?_append_right (by omega), Nat.add_sub_cancel_left, ← List.getD_eq_getElem?_getD]
theorem knd_app (p r : List Tok) (i : Nat) : knd (p ++ r) (p.length + i) = knd r i := by
  unfold knd
  rw [getD_back, List.length_append]
  by_cases h : i < r.length
  · rw [if_pos h, if_pos (by omega)]
  · rw [if_neg h, if_neg (by omega)]
theorem txt_app (p r : List Tok) (i : Nat) : txt (p ++ r) (p.length + i) = txt r i := by unfold txt; rw [getD_back]
theorem dlm_app (p r : List Tok) (i : Nat) (w : ByteArray) : dlm (p ++ r) (p.length + i) w = dlm r i w := by
  unfold dlm
  rw [getD_back, List.length_append]
  by_cases h : i < r.length
  · have : p.length + i < p.length + r.length := by omega
    simp [h, this]
  · have : ¬ p.length + i < p.length + r.length := by omega
    simp [h, this]
theorem cut_app (p r : List Tok) (m i : Nat) : ((p ++ r).take (p.length + m)).drop (p.length + i) = (r.take m).drop i := by
  rw [List.take_append, List.take_of_length_le (by omega), Nat.add_sub_cancel_left, List.drop_append, List.drop_eq_nil_of_le (by omega), List.nil_append, Nat.add_sub_cancel_left]
theorem end_app {p b : List Tok} (hp : Bal p) (hd : deep (p ++ b) = false) {m : Nat} (hm : 0 < m) (hl : m < b.length) (h : end1 b 0 = m) : (endsA (p ++ b)).getD p.length 0 = ((p.length + m : Nat) : Int) := by
  have E := emb_back p b hp.o
  rw [endsA_get (p ++ b) hd p.length (by rw [List.length_append]; omega)]
  rcases E.end (k := 0) (by omega) with ⟨x, y⟩ | ⟨x, y⟩ | ⟨m', m1, m2, x, y⟩
  · omega
  · omega
  · have : m' = m := by omega
    subst this; exact y
theorem end_of {b : List Tok} {m : Nat} (hc : ¬ closing (b.getD 0 .zero) = ⟨#[]⟩) (hm : 0 < m) (hl : m < b.length) (h1 : opn b m = [0]) (h2 : opn b (m + 1) = []) : end1 b 0 = m := by
  have := feE_eq b 0 m hc hm hl (by rw [h1]; simp) (by rw [h2]; simp)
  unfold end1; rw [if_neg hc]; exact this
/-- What is written is read again as it was. -/
theorem smp_at {w p q : List Tok} {s : Smp} {i : Nat} (hp : Bal p) (hw : w = p ++ (wrt s ++ q)) (hd : deep w = false) (hs : ¬ badX i s) : smpR w p.length = ⟨s, p.length + (wrt s).length, true⟩ := by
  subst hw
  unfold badX at hs
  obtain ⟨k, t, v⟩ := s
  simp only at hs
  have hk : k = 1 ∨ k = 2 ∨ k = 3 ∨ k = 4 ∨ k = 5 ∨ k = 6 := by omega
  have hv : k ≠ 6 → v = ⟨#[]⟩ := fun h => Decidable.byContradiction fun hh => hs (.inr (.inr (.inr (.inr ⟨hh, h⟩))))
  have ht : t = ⟨#[]⟩ ↔ k = 1 := Decidable.byContradiction fun hh => hs (.inr (.inr (.inr (.inl hh))))
  have K := knd_app p (wrt ⟨k, t, v⟩ ++ q)
  have T := txt_app p (wrt ⟨k, t, v⟩ ++ q)
  have D := dlm_app p (wrt ⟨k, t, v⟩ ++ q)
  have C := cut_app p (wrt ⟨k, t, v⟩ ++ q)
  have K0 := K 0; have K1 := K 1; have T0 := T 0; have T1 := T 1; have D0 := D 0
  rw [Nat.add_zero] at K0 T0 D0
  unfold smpR
  rcases hk with rfl | rfl | rfl | rfl | rfl | rfl
  · have e1 := ht.2 rfl; have e2 := hv (by decide)
    subst e1; subst e2
    rw [D0, if_pos (by simp [wrt, dlm, tDl])]; rfl
  · have e2 := hv (by decide)
    subst e2
    rw [D0, if_neg (by simp [wrt, dlm, tId]), K0, if_pos (by simp [wrt, knd, tId]), T0]; rfl
  · have e2 := hv (by decide)
    subst e2
    rw [D0, if_neg (by simp [wrt, dlm]), K0, if_neg (by simp [wrt, knd]), if_pos (by simp [wrt, knd]), T0]; rfl
  · have e2 := hv (by decide)
    subst e2
    rw [D0, if_neg (by simp [wrt, dlm, tDl]), K0, if_neg (by simp [wrt, knd, tDl]), if_neg (by simp [wrt, knd, tDl]), D0, K1, if_pos (by simp [wrt, dlm, knd, tDl, tId]), T1]; rfl
  · have e2 := hv (by decide)
    subst e2
    have hb : wrt ⟨5, t, ⟨#[]⟩⟩ ++ q = tOp :: tId t :: tCl :: q := rfl
    have hE := end_app hp hd (m := 2) (by decide) (by rw [hb]; simp) (by rw [hb]; exact end_of clo_op (by decide) (by simp) (grp3 t q).1 (grp3 t q).2)
    rw [D0, if_neg (by simp [wrt, dlm, tOp]), K0, if_neg (by simp [wrt, knd, tOp]), if_neg (by simp [wrt, knd, tOp]), D0, if_neg (by simp [wrt, dlm, tOp]), T0, hE, if_pos ⟨by simp [wrt, knd, tOp], rfl, by rw [hb]; simp; omega⟩, Int.toNat_natCast, C]
    rfl
  · have hb : wrt ⟨6, t, v⟩ ++ q = tOp :: tId t :: tDl ⟨#[61]⟩ :: ⟨6, v, 0⟩ :: tCl :: q := rfl
    have hE := end_app hp hd (m := 4) (by decide) (by rw [hb]; simp) (by rw [hb]; exact end_of clo_op (by decide) (by simp) (grp5 t v q).1 (grp5 t v q).2)
    rw [D0, if_neg (by simp [wrt, dlm, tOp]), K0, if_neg (by simp [wrt, knd, tOp]), if_neg (by simp [wrt, knd, tOp]), D0, if_neg (by simp [wrt, dlm, tOp]), T0, hE, if_pos ⟨by simp [wrt, knd, tOp], rfl, by rw [hb]; simp; omega⟩, Int.toNat_natCast, C]
    rfl
end Go.Proofs.Ytlcblcjpebabkaa
end
section
namespace Go.Proofs.Ytlcblcjpebabkaa
open Go.Sx
set_option linter.unusedSimpArgs false
set_option linter.unusedVariables false
set_option maxHeartbeats 4000000
set_option maxRecDepth 100000

/-- Where a compound ends. -/
def stp (r : List Tok) : Prop := r = [] ∨ ∃ t q, r = t :: q ∧ (t.kind = 1 ∨ t = tDl ⟨#[62]⟩)
theorem smp_stop {w p r : List Tok} (hw : w = p ++ r) (h : stp r) : (smpR w p.length).ok = false := by
  subst hw
  have K0 := knd_app p r 0; have D0 := dlm_app p r 0
  rw [Nat.add_zero] at K0 D0
  unfold smpR
  rcases h with rfl | ⟨t, q, rfl, h | rfl⟩
  · rw [D0, K0, if_neg (by simp [dlm]), if_neg (by simp [knd]), if_neg (by simp [knd]), if_neg (by rw [D0]; simp [dlm]), if_neg (by simp [knd])]
  · have e : knd (t :: q) 0 = 1 := h
    have d : ∀ x, dlm (t :: q) 0 x = false := fun x => decide_eq_false fun hh => by
      have h2 : t.kind = 11 := hh.2.1
      omega
    rw [D0, K0, e, d, if_neg (by simp), if_neg (by decide), if_neg (by decide), if_neg (by rw [D0, d]; simp), if_neg (by simp)]
  · have e : knd (tDl ⟨#[62]⟩ :: q) 0 = 11 := rfl
    have d1 : dlm (tDl ⟨#[62]⟩ :: q) 0 ⟨#[42]⟩ = false := decide_eq_false fun hh => absurd hh.2.2 (by show ¬ (⟨#[62]⟩ : ByteArray) = ⟨#[42]⟩; decide)
    have d2 : dlm (tDl ⟨#[62]⟩ :: q) 0 ⟨#[46]⟩ = false := decide_eq_false fun hh => absurd hh.2.2 (by show ¬ (⟨#[62]⟩ : ByteArray) = ⟨#[46]⟩; decide)
    rw [D0, K0, e, d1, if_neg (by simp), if_neg (by decide), if_neg (by decide), if_neg (by rw [D0, d2]; simp), if_neg (by simp)]
theorem cmpF_at {w : List Tok} (hd : deep w = false) (r : List Tok) (hr : stp r) : ∀ (l : List Smp) (L : List Smp) (p : List Tok) (f : Nat), Bal p → w = p ++ (l.flatMap wrt ++ r) → (∀ i, i < l.length → ¬ badX (L.length + i) (l.getD i default)) → l.length < f →
    cmpF w f p.length L = (L ++ l, (p ++ l.flatMap wrt).length)
  | [], L, p, f, hp, hw, hs, hf => by
    obtain ⟨f, rfl⟩ : ∃ g, f = g + 1 := ⟨f - 1, by omega⟩
    simp only [List.flatMap_nil, List.nil_append] at hw
    simp only [cmpF]
    rw [if_pos (.inl (smp_stop hw hr))]
    simp
  | s :: l, L, p, f, hp, hw, hs, hf => by
    obtain ⟨f, rfl⟩ : ∃ g, f = g + 1 := ⟨f - 1, by omega⟩
    have h0 := hs 0 (by simp)
    rw [Nat.add_zero] at h0
    rw [List.flatMap_cons, List.append_assoc] at hw
    have hr0 := smp_at hp hw hd h0
    simp only [cmpF]
    rw [hr0]
    simp only
    rw [if_neg (by
      rintro (h | ⟨h, h'⟩)
      · cases h
      · exact h0 (.inr (.inr (.inl ⟨h, h'⟩))))]
    have := cmpF_at hd r hr l (L ++ [s]) (p ++ wrt s) f (bal_app hp (bal_wrt s)) (by rw [hw, List.append_assoc]) (fun i hi => by
      have := hs (i + 1) (by simp; omega)
      rw [List.length_append, List.length_singleton, Nat.add_assoc, Nat.add_comm 1 i]; exact this) (by simp at hf; omega)
    rw [List.length_append] at this
    rw [this, List.flatMap_cons]
    simp
theorem wrt_pos (s : Smp) : 0 < (wrt s).length := by
  unfold wrt
  repeat' split
  all_goals simp
theorem flat_len (l : List Smp) : l.length ≤ (l.flatMap wrt).length := by
  induction l with
  | nil => simp
  | cons s l ih => have := wrt_pos s; rw [List.flatMap_cons, List.length_append, List.length_cons]; omega
theorem cmpR_at {w p r : List Tok} {c : Cmp} {b : Bool} (hd : deep w = false) (hr : stp r) (hp : Bal p) (hw : w = p ++ (c.l.flatMap wrt ++ r)) (hc : rgtC c b = true) : cmpR w p.length = (c.l, (p ++ c.l.flatMap wrt).length) := by
  unfold rgtC at hc; rw [decide_eq_true_eq] at hc
  have hlen : c.l.length < w.length + 1 := by
    have := flat_len c.l
    rw [hw]; simp only [List.length_append]; omega
  have := cmpF_at hd r hr c.l [] p (w.length + 1) hp hw (fun i hi => by rw [List.length_nil, Nat.zero_add]; exact hc.2.2.2.2 i hi) hlen
  unfold cmpR
  rw [this]; rfl
/-- A compound begins with no Space and no >. -/
def hdc (r : List Tok) : Prop := knd r 0 ≠ 1 ∧ dlm r 0 ⟨#[62]⟩ = false
theorem hdc_wrt (s : Smp) (q : List Tok) : hdc (wrt s ++ q) := by
  have hI : ∀ q, hdc (tId s.text :: q) := fun q => ⟨by show (2 : Int) ≠ 1; decide, decide_eq_false fun hh => absurd hh.2.1 (by show ¬ (2 : Int) = 11; decide)⟩
  have hO : ∀ q, hdc (tOp :: q) := fun q => ⟨by show (12 : Int) ≠ 1; decide, decide_eq_false fun hh => absurd hh.2.1 (by show ¬ (12 : Int) = 11; decide)⟩
  unfold wrt
  split
  · exact ⟨by show (11 : Int) ≠ 1; decide, decide_eq_false fun hh => absurd hh.2.2 (by show ¬ (⟨#[42]⟩ : ByteArray) = ⟨#[62]⟩; decide)⟩
  split
  · exact ⟨by show (5 : Int) ≠ 1; decide, decide_eq_false fun hh => absurd hh.2.1 (by show ¬ (5 : Int) = 11; decide)⟩
  split
  · exact ⟨by show (11 : Int) ≠ 1; decide, decide_eq_false fun hh => absurd hh.2.2 (by show ¬ (⟨#[46]⟩ : ByteArray) = ⟨#[62]⟩; decide)⟩
  split
  · exact hO _
  split
  · exact hO _
  · exact hI _
theorem hdc_flat {l : List Smp} (h : 0 < l.length) (q : List Tok) : hdc (l.flatMap wrt ++ q) := by
  cases l with
  | nil => simp at h
  | cons s l => rw [List.flatMap_cons, List.append_assoc]; exact hdc_wrt s _
theorem lkT_len {n : Int} (h : n = 1 ∨ n = 2) : (lkT n).length = 1 := by rcases h with rfl | rfl <;> rfl
theorem bal_lkT (n : Int) : Bal (lkT n) := by
  unfold lkT
  split
  · exact bal_one ⟨by show (1 : Int) ≠ 3; decide, by show (1 : Int) ≠ 12; decide⟩
  split
  · exact bal_one ⟨by show (11 : Int) ≠ 3; decide, by show (11 : Int) ≠ 12; decide⟩
  · exact bal_nil
theorem lnkR_at {w p r : List Tok} {n : Int} (hn : n = 1 ∨ n = 2) (hw : w = p ++ (lkT n ++ r)) (hr : hdc r) : lnkR w p.length = (n, (p ++ lkT n).length) := by
  have hl := lkT_len hn
  have hwl : w.length = p.length + 1 + r.length := by rw [hw]; simp [hl]; omega
  have K0 : knd w p.length = knd (lkT n ++ r) 0 := by rw [hw]; exact knd_app p (lkT n ++ r) 0
  have D0 : dlm w p.length ⟨#[62]⟩ = dlm (lkT n ++ r) 0 ⟨#[62]⟩ := by rw [hw]; exact dlm_app p (lkT n ++ r) 0 _
  have hw2 : w = (p ++ lkT n) ++ r := by rw [hw, List.append_assoc]
  have hpl : (p ++ lkT n).length = p.length + 1 := by rw [List.length_append, hl]
  have K1 : knd w (p.length + 1) = knd r 0 := by rw [hw2, ← hpl]; exact knd_app (p ++ lkT n) r 0
  have D1 : dlm w (p.length + 1) ⟨#[62]⟩ = dlm r 0 ⟨#[62]⟩ := by rw [hw2, ← hpl]; exact dlm_app (p ++ lkT n) r 0 _
  unfold lnkR
  rw [hwl, show p.length + 1 + r.length + 1 = (p.length + r.length) + 1 + 1 by omega, hpl]
  simp only [lnkF]
  rw [K1, D1, hr.2, K0, D0]
  rcases hn with rfl | rfl
  · have e : knd (lkT 1 ++ r) 0 = 1 := rfl
    rw [e, if_pos (.inl rfl), if_neg (by rintro (h | ⟨_, h⟩); exact hr.1 h; cases h)]
    simp
  · have e : knd (lkT 2 ++ r) 0 = 11 := rfl
    have d : dlm (lkT 2 ++ r) 0 ⟨#[62]⟩ = true := by simp [lkT, dlm, tDl]
    rw [e, d, if_pos (.inr ⟨by decide, rfl⟩), if_neg (by rintro (h | ⟨_, h⟩); exact hr.1 h; cases h)]
    simp
theorem stp_lk {n : Int} (hn : n = 1 ∨ n = 2) (r : List Tok) : stp (lkT n ++ r) := by
  rcases hn with rfl | rfl
  · exact .inr ⟨_, _, rfl, .inl rfl⟩
  · exact .inr ⟨_, _, rfl, .inr rfl⟩
theorem rgtC_lk {c : Cmp} (h : rgtC c false = true) : (c.link = 1 ∨ c.link = 2) ∧ 0 < c.l.length := by
  unfold rgtC at h; rw [decide_eq_true_eq] at h
  have : ¬ c.link = 0 := fun hh => by have := h.1.2 hh; cases this
  omega
theorem bal_cmp (c : Cmp) : Bal (c.l.flatMap wrt) := bal_flat wrt c.l fun s _ => bal_wrt s
theorem oneF_at {w : List Tok} (hd : deep w = false) : ∀ (cs : List Cmp) (c : Cmp) (b : Bool) (L : List Cmp) (p : List Tok) (f : Nat), Bal p → w = p ++ (c.l.flatMap wrt ++ cs.flatMap prC) → rgtC c b = true → (∀ x ∈ cs, rgtC x false = true) → L.length + cs.length + 1 ≤ 64 → cs.length < f →
    oneF w f p.length c.link L = some (L ++ c :: cs)
  | [], c, b, L, p, f, hp, hw, hc, hcs, hL, hf => by
    obtain ⟨f, rfl⟩ : ∃ g, f = g + 1 := ⟨f - 1, by omega⟩
    have hr := cmpR_at hd (.inl rfl) hp hw hc
    unfold rgtC at hc; rw [decide_eq_true_eq] at hc
    simp only [List.length_nil] at hL
    simp only [oneF]
    rw [hr, if_neg (by simp only; omega), if_pos (by rw [hw]; simp)]
  | c' :: cs, c, b, L, p, f, hp, hw, hc, hcs, hL, hf => by
    obtain ⟨f, rfl⟩ : ∃ g, f = g + 1 := ⟨f - 1, by omega⟩
    obtain ⟨hn, hpos⟩ := rgtC_lk (hcs c' (by simp))
    rw [List.flatMap_cons, show prC c' = lkT c'.link ++ c'.l.flatMap wrt from rfl] at hw
    have hr := cmpR_at (r := (lkT c'.link ++ c'.l.flatMap wrt) ++ cs.flatMap prC) hd (by rw [List.append_assoc]; exact stp_lk hn _) hp hw hc
    have hlk : lnkR w (p ++ c.l.flatMap wrt).length = (c'.link, ((p ++ c.l.flatMap wrt) ++ lkT c'.link).length) :=
      lnkR_at hn (r := c'.l.flatMap wrt ++ cs.flatMap prC) (by rw [hw]; simp only [List.append_assoc]) (hdc_flat hpos _)
    unfold rgtC at hc; rw [decide_eq_true_eq] at hc
    simp only [List.length_cons] at hL hf
    have hl1 := lkT_len hn
    simp only [oneF]
    rw [hr, if_neg (by simp only; omega), if_neg (by rw [hw]; simp only [List.length_append, hl1]; omega)]
    simp only
    rw [hlk]
    simp only
    rw [if_neg (by omega), oneF_at hd cs c' false (L ++ [c]) _ f (bal_app (bal_app hp (bal_cmp c)) (bal_lkT _)) (by rw [hw]; simp only [List.append_assoc]) (hcs c' (by simp)) (fun x hx => hcs x (by simp [hx])) (by simp; omega) (by omega)]
    simp
def enN (l : List Tok) : Prop := ∃ u t, l = u ++ [t] ∧ t.kind ≠ 1
theorem enN_app {a b : List Tok} (h : enN b) : enN (a ++ b) := by
  obtain ⟨u, t, rfl, ht⟩ := h
  exact ⟨a ++ u, t, by simp, ht⟩
theorem enN_wrt (s : Smp) : enN (wrt s) := by
  unfold wrt
  split
  · exact ⟨[], _, rfl, by show (11 : Int) ≠ 1; decide⟩
  split
  · exact ⟨[], _, rfl, by show (5 : Int) ≠ 1; decide⟩
  split
  · exact ⟨[_], _, rfl, by show (2 : Int) ≠ 1; decide⟩
  split
  · exact ⟨[_, _], _, rfl, by show (13 : Int) ≠ 1; decide⟩
  split
  · exact ⟨[_, _, _, _], _, rfl, by show (13 : Int) ≠ 1; decide⟩
  · exact ⟨[], _, rfl, by show (2 : Int) ≠ 1; decide⟩
theorem enN_flat {α : Type} (f : α → List Tok) : ∀ l : List α, l ≠ [] → (∀ x ∈ l, enN (f x)) → enN (l.flatMap f)
  | [], h, _ => absurd rfl h
  | [x], _, h => by simpa using h x (by simp)
  | x :: y :: l, _, h => by rw [List.flatMap_cons]; exact enN_app (enN_flat f (y :: l) (by simp) fun z hz => h z (by simp only [List.mem_cons] at hz ⊢; exact .inr hz))
theorem rgtS_all {s : Sel} (h : rgtS s = true) : ∃ c cs, s = c :: cs ∧ c.link = 0 ∧ rgtC c true = true ∧ (∀ x ∈ cs, rgtC x false = true) ∧ cs.length + 1 ≤ 64 ∧ ∀ x ∈ s, 0 < x.l.length := by
  unfold rgtS at h; rw [decide_eq_true_eq] at h
  obtain ⟨h1, h2, h3⟩ := h
  cases s with
  | nil => simp at h1
  | cons c cs =>
    have hc : rgtC c true = true := h3 0 (by simp)
    have hcs : ∀ x ∈ cs, rgtC x false = true := fun x hx => by
      obtain ⟨i, hi, rfl⟩ := List.mem_iff_getElem.1 hx
      have := h3 (i + 1) (by simp; omega)
      rw [List.getD_eq_getElem?_getD, List.getElem?_cons_succ, List.getElem?_eq_getElem hi] at this
      rwa [decide_eq_false (by omega)] at this
    have hc' := hc
    unfold rgtC at hc'; rw [decide_eq_true_eq] at hc'
    exact ⟨c, cs, rfl, hc'.1.1 rfl, hc, hcs, by simpa using h2, fun x hx => by
      rcases List.mem_cons.1 hx with rfl | hx
      · exact hc'.2.2.2.1
      · exact (rgtC_lk (hcs x hx)).2⟩
theorem bal_prC (c : Cmp) : Bal (prC c) := bal_app (bal_lkT _) (bal_cmp c)
theorem bal_prS (s : Sel) : Bal (prS s) := bal_flat prC s fun c _ => bal_prC c
theorem sel_len : ∀ s : Sel, (∀ x ∈ s, 0 < x.l.length) → s.length ≤ (prS s).length
  | [], _ => by simp
  | c :: s, h => by
    have h1 := sel_len s fun x hx => h x (by simp [hx])
    have h2 := h c (by simp)
    have h3 := flat_len c.l
    unfold prS at h1 ⊢
    rw [List.flatMap_cons, List.length_append, List.length_cons, show prC c = lkT c.link ++ c.l.flatMap wrt from rfl, List.length_append]
    omega
theorem rstr_end {l : List Tok} (h : enN l) : rstr l = l := by
  obtain ⟨u, t, rfl, ht⟩ := h; exact rstr_ns u t ht
theorem dw_head {l : List Tok} (h : knd l 0 ≠ 1) : l.dropWhile isSp = l := by
  cases l with
  | nil => rfl
  | cons t l =>
    rw [List.dropWhile_cons_of_neg]
    unfold isSp
    have : t.kind ≠ 1 := h
    simpa using this
theorem trim_prS {s : Sel} (h : rgtS s = true) : trim (prS s) = prS s := by
  obtain ⟨c, cs, rfl, h0, hc, hcs, hl, hp⟩ := rgtS_all h
  have e : prS (c :: cs) = c.l.flatMap wrt ++ cs.flatMap prC := by
    unfold prS; rw [List.flatMap_cons, show prC c = lkT c.link ++ c.l.flatMap wrt from rfl, h0]; rfl
  rw [trim_eq, dw_head (by rw [e]; exact (hdc_flat (hp c (by simp)) _).1)]
  refine rstr_end (enN_flat prC _ (by simp) fun x hx => enN_app (enN_flat wrt _ (fun hh => ?_) fun y _ => enN_wrt y))
  have := hp x hx
  rw [hh] at this; simp at this
theorem oneS_prS {s : Sel} (h : rgtS s = true) : oneS (prS s) = some s := by
  unfold oneS oneT8
  rw [trim_prS h, (bal_prS s).d, if_neg (by simp)]
  have hl := sel_len s (rgtS_all h).choose_spec.choose_spec.2.2.2.2.2
  have hd := (bal_prS s).d
  obtain ⟨c, cs, rfl, h0, hc, hcs, hlen, hp⟩ := rgtS_all h
  have e : prS (c :: cs) = [] ++ (c.l.flatMap wrt ++ cs.flatMap prC) := by
    unfold prS; rw [List.flatMap_cons, show prC c = lkT c.link ++ c.l.flatMap wrt from rfl, h0]; rfl
  have := oneF_at hd cs c true [] [] ((prS (c :: cs)).length + 1) bal_nil e hc hcs (by simpa using hlen) (by simp at hl; omega)
  rw [h0] at this
  exact this
end Go.Proofs.Ytlcblcjpebabkaa
end
section
namespace Go.Proofs.Ytlcblcjpebabkaa
open Go.Sx
set_option linter.unusedSimpArgs false
set_option linter.unusedVariables false
set_option maxHeartbeats 4000000
set_option maxRecDepth 100000

theorem skip_in {w : List Tok} (hd : deep w = false) {k B : Nat} (hk : k < B) (hB : B ≤ w.length) (h0 : opn w k = []) (h1 : opn w B = []) : ∃ n : Nat, skip (endsA w) k = n ∧ k < n ∧ n ≤ B ∧ opn w n = [] := by
  have hkl : k < w.length := by omega
  rcases end_cases hkl with ⟨c, e⟩ | e | ⟨m, m1, m2, e, o, i⟩
  · exact ⟨k + 1, skip_neg hd hkl e, by omega, by omega, by rw [opn_same c (by rintro ⟨_, _, hp, _⟩; simp [h0] at hp)]; exact h0⟩
  · obtain ⟨hc, hf⟩ := end1_open w k (by omega)
    have := (end_spec w k hc hkl).2 B hk (by omega)
    rw [h1] at this; simp at this
  · have hmB : m < B := Decidable.byContradiction fun hn => by
      have := opn_stay' hk (show B ≤ m by omega) i
      rw [h1] at this; simp at this
    exact ⟨m + 1, skip_pos hd hkl e m1 m2, by omega, by omega, by rw [o]; exact h0⟩
/-- Without commas nothing is parted. -/
theorem rsK_pass {w : List Tok} (hd : deep w = false) (B : Nat) (hB : B ≤ w.length) (h1 : opn w B = []) (b : Int) : ∀ (f k : Nat), k ≤ B → opn w k = [] → (∀ i, k ≤ i → i < B → (w.getD i .zero).kind ≠ 16) → w.length < k + f →
    ∃ f', w.length < B + f' ∧ rsK w 16 w.length b (plR (endsA w) w.length f k) = rsK w 16 w.length b (plR (endsA w) w.length f' B)
  | f, k, hk, h0, hq, hf => by
    by_cases he : k = B
    · subst he; exact ⟨f, hf, rfl⟩
    · obtain ⟨f, rfl⟩ : ∃ g, f = g + 1 := ⟨f - 1, by omega⟩
      obtain ⟨n, hs, n1, n2, n3⟩ := skip_in hd (show k < B by omega) hB h0 h1
      obtain ⟨f', g1, g2⟩ := rsK_pass hd B hB h1 b f n n2 n3 (fun i hi hi2 => hq i (by omega) hi2) (by omega)
      refine ⟨f', g1, ?_⟩
      simp only [plR]
      rw [if_pos (show (k : Int) < w.length by omega), hs]
      simp only [rsK]
      rw [Int.toNat_natCast, if_neg (hq k (Nat.le_refl _) (by omega)), g2]
termination_by f => f
def no16 (l : List Tok) : Prop := ∀ t ∈ l, t.kind ≠ 16
theorem no16_flat {α : Type} (f : α → List Tok) (l : List α) (h : ∀ x ∈ l, no16 (f x)) : no16 (l.flatMap f) := fun t ht => by
  obtain ⟨x, hx, hx2⟩ := List.mem_flatMap.1 ht
  exact h x hx t hx2
theorem no16_app {a b : List Tok} (ha : no16 a) (hb : no16 b) : no16 (a ++ b) := fun t ht => by
  rcases List.mem_append.1 ht with h | h
  · exact ha t h
  · exact hb t h
theorem no16_nil : no16 [] := fun t ht => by cases ht
theorem no16_cons {t : Tok} {l : List Tok} (h : t.kind ≠ 16) (hl : no16 l) : no16 (t :: l) := fun u hu => by
  rcases List.mem_cons.1 hu with rfl | hu
  · exact h
  · exact hl u hu
theorem no16_wrt (s : Smp) : no16 (wrt s) := by
  have hI : (tId s.text).kind ≠ 16 := by show (2 : Int) ≠ 16; decide
  have hD : ∀ x, (tDl x).kind ≠ 16 := fun x => by show (11 : Int) ≠ 16; decide
  unfold wrt
  split
  · exact no16_cons (hD _) no16_nil
  split
  · exact no16_cons (by show (5 : Int) ≠ 16; decide) no16_nil
  split
  · exact no16_cons (hD _) (no16_cons hI no16_nil)
  split
  · exact no16_cons (by decide) (no16_cons hI (no16_cons (by decide) no16_nil))
  split
  · exact no16_cons (by decide) (no16_cons hI (no16_cons (hD _) (no16_cons (by show (6 : Int) ≠ 16; decide) (no16_cons (by decide) no16_nil))))
  · exact no16_cons hI no16_nil
theorem no16_lkT (n : Int) : no16 (lkT n) := by
  unfold lkT
  split
  · exact no16_cons (by decide) no16_nil
  split
  · exact no16_cons (by decide) no16_nil
  · exact no16_nil
theorem no16_prS (s : Sel) : no16 (prS s) := no16_flat prC s fun c _ => no16_app (no16_lkT _) (no16_flat wrt _ fun x _ => no16_wrt x)
theorem bal_comma : Bal [commaT] := bal_one ⟨by decide, by decide⟩
theorem bal_prT : ∀ (l : List Sel) (n : Nat), Bal (prT n l)
  | [], n => bal_nil
  | s :: l, n => by
    simp only [prT]
    refine bal_app ?_ (bal_app (bal_prS s) (bal_prT l (n + 1)))
    split
    · exact bal_comma
    · exact bal_nil
theorem rsK_at : ∀ (l : List Sel) (n : Nat) (w p : List Tok) (s : Sel) (f : Nat), deep w = false → Bal p → w = p ++ (prS s ++ prT (n + 1) l) → w.length < p.length + f → (∀ x ∈ s :: l, rgtS x = true) →
    prsC w (rsK w 16 w.length p.length (plR (endsA w) w.length f p.length)) = some (s :: l)
  | l, n, w, p, s, f, hd, hp, hw, hf, hr => by
    have hwl : w.length = p.length + (prS s).length + (prT (n + 1) l).length := by rw [hw]; simp only [List.length_append]; omega
    have hps := bal_app hp (bal_prS s)
    have o1 : opn w p.length = [] := by rw [hw, opn_app p _ _ (Nat.le_refl _)]; exact hp.o
    have o2 : opn w (p.length + (prS s).length) = [] := by
      have := hps.o
      rw [List.length_append] at this
      rw [hw, ← List.append_assoc, opn_app (p ++ prS s) _ _ (by rw [List.length_append]; exact Nat.le_refl _)]
      exact this
    obtain ⟨f', g1, g2⟩ := rsK_pass hd (p.length + (prS s).length) (by omega) o2 p.length f p.length (by omega) o1 (fun i hi hi2 => by
      obtain ⟨j, rfl⟩ : ∃ j, i = p.length + j := ⟨i - p.length, by omega⟩
      rw [hw, getD_back, getD_app _ _ _ (by omega), List.getD_eq_getElem?_getD, List.getElem?_eq_getElem (by omega)]
      exact no16_prS s _ (List.getElem_mem _)) hf
    rw [g2]
    have hcut : (w.take (p.length + (prS s).length)).drop p.length = prS s := by
      have := cut_app p (prS s ++ prT (n + 1) l) (prS s).length 0
      rw [Nat.add_zero, ← hw] at this
      rw [this, List.drop_zero, List.take_append_of_le_length (Nat.le_refl _), List.take_length]
    have ho := oneS_prS (hr s (by simp))
    cases l with
    | nil =>
      simp only [prT, List.length_nil, Nat.add_zero] at hwl
      obtain ⟨g, rfl⟩ : ∃ g, f' = g + 1 := ⟨f' - 1, by omega⟩
      simp only [plR]
      rw [if_neg (by omega)]
      simp only [rsK, prsC, Int.toNat_natCast]
      rw [hwl, hcut, ho]; rfl
    | cons s' l =>
      simp only [prT] at hw hwl
      rw [if_pos (by omega)] at hw hwl
      simp only [List.length_append, List.length_cons, List.length_nil] at hwl
      obtain ⟨g, rfl⟩ : ∃ g, f' = g + 1 := ⟨f' - 1, by omega⟩
      have hk : p.length + (prS s).length < w.length := by omega
      have hcm : (w.getD (p.length + (prS s).length) .zero).kind = 16 := by
        have : w = (p ++ prS s) ++ ([commaT] ++ (prS s' ++ prT (n + 1 + 1) l)) := by rw [hw]; simp only [List.append_assoc]
        have h2 := getD_back (p ++ prS s) ([commaT] ++ (prS s' ++ prT (n + 1 + 1) l)) 0
        rw [← this, Nat.add_zero, List.length_append] at h2
        rw [h2]; rfl
      have ih := rsK_at l (n + 1) w (p ++ prS s ++ [commaT]) s' g hd (bal_app hps bal_comma) (by rw [hw]; simp only [List.append_assoc]) (by simp only [List.length_append, List.length_cons, List.length_nil]; omega) (fun x hx => hr x (by simp only [List.mem_cons] at hx ⊢; exact .inr hx))
      simp only [List.length_append, List.length_cons, List.length_nil, Nat.zero_add] at ih
      simp only [plR]
      rw [if_pos (by omega), skip_comma hd hk hcm]
      simp only [rsK, Int.toNat_natCast]
      rw [if_pos hcm]
      simp only [prsC, Int.toNat_natCast]
      rw [hcut, ho]
      simp only
      have e : ((p.length + (prS s).length : Nat) : Int) + 1 = ((p.length + (prS s).length + 1 : Nat) : Int) := by omega
      rw [e, ih]; rfl
termination_by l => l.length
/-- Selectors that are right, written, are read as they were. -/
theorem psC_prT {l : List Sel} (h : rgtL l = true) : psC (prT 0 l) = some l := by
  unfold rgtL at h; rw [decide_eq_true_eq] at h
  cases l with
  | nil => exact absurd h.1 (by simp)
  | cons s l =>
    have hb := bal_prT (s :: l) 0
    have hw : prT 0 (s :: l) = [] ++ (prS s ++ prT (0 + 1) l) := rfl
    generalize prT 0 (s :: l) = w at *
    unfold psC
    rw [hb.d, if_neg (by simp), splL_eq hb.d]
    exact rsK_at l 0 w [] s (w.length + 1) hb.d bal_nil hw (by simp) fun x hx => by
      obtain ⟨i, hi, rfl⟩ := List.mem_iff_getElem.1 hx
      have := h.2 i hi
      rwa [List.getD_eq_getElem?_getD, List.getElem?_eq_getElem hi] at this
end Go.Proofs.Ytlcblcjpebabkaa
end
section
namespace Go.Proofs.Ytlcblcjpebabkaa
open Go.Sx
set_option linter.unusedSimpArgs false
set_option linter.unusedVariables false
set_option maxHeartbeats 4000000
set_option maxRecDepth 100000

/-- No name is empty. -/
def noE (v : List Tok) : Prop := ∀ t ∈ v, (t.kind = 2 ∨ t.kind = 5) → ¬ t.text = ⟨#[]⟩
def rg1 (s : Smp) : Prop := 1 ≤ s.kind ∧ s.kind ≤ 6 ∧ (s.text = ⟨#[]⟩ ↔ s.kind = 1) ∧ (¬ s.val = ⟨#[]⟩ → s.kind = 6)
theorem noE_at {v : List Tok} (h : noE v) {k : Nat} {n : Int} (hk : knd v k = n) (hn : n = 2 ∨ n = 5) : ¬ txt v k = ⟨#[]⟩ := by
  obtain ⟨h1, h2⟩ := knd_lt hk (by omega)
  unfold txt
  rw [List.getD_eq_getElem?_getD, List.getElem?_eq_getElem h1] at h2 ⊢
  simp only [Option.getD_some] at h2 ⊢
  exact h _ (List.getElem_mem h1) (by omega)
theorem attrO_rg {l : List Tok} (h : noE l) {s : Smp} (hs : attrO l = some s) : rg1 s := by
  unfold attrO at hs
  generalize hr : (l.filter fun t => decide (t.kind ≠ 1)) = r at hs
  have hm : ∀ t ∈ r, t ∈ l := fun t ht => by rw [← hr] at ht; exact (List.mem_filter.1 ht).1
  match r, hs with
  | [a], hs =>
    simp only at hs
    split at hs
    · rename_i h2
      obtain rfl := Option.some.inj hs
      have := h a (hm a (by simp)) (.inl h2)
      exact ⟨by show (1 : Int) ≤ 5; decide, by show (5 : Int) ≤ 6; decide, ⟨fun hh => absurd hh this, fun hh => absurd hh (by show ¬ (5 : Int) = 1; decide)⟩, fun hh => absurd rfl hh⟩
    · cases hs
  | [a, b, c], hs =>
    simp only at hs
    split at hs
    · rename_i h2
      obtain rfl := Option.some.inj hs
      have := h a (hm a (by simp)) (.inl h2.1)
      exact ⟨by show (1 : Int) ≤ 6; decide, by show (6 : Int) ≤ 6; decide, ⟨fun hh => absurd hh this, fun hh => absurd hh (by show ¬ (6 : Int) = 1; decide)⟩, fun _ => rfl⟩
    · cases hs
  | [], hs => cases hs
  | [_, _], hs => cases hs
  | _ :: _ :: _ :: _ :: _, hs => cases hs
theorem noE_cut {v : List Tok} (h : noE v) (a b : Nat) : noE ((v.take b).drop a) := fun t ht => h t (List.mem_of_mem_take (List.mem_of_mem_drop ht))
theorem smp_rg {v : List Tok} (h : noE v) {k : Nat} (hok : (smpR v k).ok = true) : rg1 (smpR v k).s := by
  unfold smpR at hok ⊢
  split
  · exact ⟨by show (1 : Int) ≤ 1; decide, by show (1 : Int) ≤ 6; decide, ⟨fun _ => rfl, fun _ => rfl⟩, fun hh => absurd rfl hh⟩
  split
  · rename_i h2
    exact ⟨by show (1 : Int) ≤ 2; decide, by show (2 : Int) ≤ 6; decide, ⟨fun hh => absurd hh (noE_at h h2 (.inl rfl)), fun hh => absurd hh (by show ¬ (2 : Int) = 1; decide)⟩, fun hh => absurd rfl hh⟩
  split
  · rename_i h2
    exact ⟨by show (1 : Int) ≤ 3; decide, by show (3 : Int) ≤ 6; decide, ⟨fun hh => absurd hh (noE_at h h2 (.inr rfl)), fun hh => absurd hh (by show ¬ (3 : Int) = 1; decide)⟩, fun hh => absurd rfl hh⟩
  split
  · rename_i h2
    exact ⟨by show (1 : Int) ≤ 4; decide, by show (4 : Int) ≤ 6; decide, ⟨fun hh => absurd hh (noE_at h h2.2 (.inl rfl)), fun hh => absurd hh (by show ¬ (4 : Int) = 1; decide)⟩, fun hh => absurd rfl hh⟩
  split
  · rename_i h1 h2 h3 h4 h5
    rw [if_neg h1, if_neg h2, if_neg h3, if_neg h4, if_pos h5] at hok
    cases ha : attrO ((v.take ((endsA v).getD k 0).toNat).drop (k + 1)) with
    | none => rw [ha] at hok; cases hok
    | some s => exact attrO_rg (noE_cut h _ _) ha
  · rename_i h1 h2 h3 h4 h5
    rw [if_neg h1, if_neg h2, if_neg h3, if_neg h4, if_neg h5] at hok; cases hok
theorem getD_snoc {α : Type} (l : List α) (x d : α) (i : Nat) (hi : i < (l ++ [x]).length) : (i < l.length ∧ (l ++ [x]).getD i d = l.getD i d) ∨ (i = l.length ∧ (l ++ [x]).getD i d = x) := by
  rw [List.length_append, List.length_singleton] at hi
  by_cases h : i < l.length
  · exact .inl ⟨h, by rw [List.getD_eq_getElem?_getD, List.getElem?_append_left h, ← List.getD_eq_getElem?_getD]⟩
  · have : i = l.length := by omega
    subst this
    exact .inr ⟨rfl, by rw [List.getD_eq_getElem?_getD, List.getElem?_append_right (Nat.le_refl _), Nat.sub_self]; rfl⟩
theorem cmpF_rg {v : List Tok} (h : noE v) : ∀ (f k : Nat) (L : List Smp), (∀ i, i < L.length → ¬ badX i (L.getD i default)) → ∀ i, i < (cmpF v f k L).1.length → ¬ badX i ((cmpF v f k L).1.getD i default)
  | 0, k, L, hL => by simp only [cmpF]; exact hL
  | f + 1, k, L, hL => by
    simp only [cmpF]
    split
    · exact hL
    · rename_i hc
      have hok : (smpR v k).ok = true := by
        cases hh : (smpR v k).ok with
        | true => rfl
        | false => exact absurd (.inl hh) hc
      refine cmpF_rg h f _ _ fun i hi => ?_
      rcases getD_snoc L (smpR v k).s default i hi with ⟨h1, e⟩ | ⟨rfl, e⟩
      · rw [e]; exact hL i h1
      · rw [e]
        obtain ⟨r1, r2, r3, r4⟩ := smp_rg h hok
        rintro (b | b | b | b | b)
        · omega
        · omega
        · exact hc (.inr b)
        · exact b r3
        · exact b.2 (r4 b.1)
theorem cmpR_rg {v : List Tok} (h : noE v) (k : Nat) : ∀ i, i < (cmpR v k).1.length → ¬ badX i ((cmpR v k).1.getD i default) := cmpF_rg h _ k [] fun i hi => by simp at hi
theorem lnkF_val {v : List Tok} : ∀ (f k : Nat) (n : Int), (n = 0 ∨ n = 1 ∨ n = 2) → ((lnkF v f k n).1 = 0 ∨ (lnkF v f k n).1 = 1 ∨ (lnkF v f k n).1 = 2)
  | 0, k, n, hn => by simp only [lnkF]; exact hn
  | f + 1, k, n, hn => by
    simp only [lnkF]
    split
    · exact lnkF_val f (k + 1) _ (by split; exact .inr (.inr rfl); split; exact .inr (.inl rfl); exact hn)
    · exact hn
theorem lnkR_val (v : List Tok) (k : Nat) : (lnkR v k).1 = 0 ∨ (lnkR v k).1 = 1 ∨ (lnkR v k).1 = 2 := lnkF_val _ k 0 (.inl rfl)
def totL (L : List Cmp) : Nat := (L.map fun c => c.l.length).sum
theorem totL_snoc (L : List Cmp) (c : Cmp) : totL (L ++ [c]) = totL L + c.l.length := by simp [totL]
theorem oneF_rg {w : List Tok} (hS : SmpB w) (h : noE w) : ∀ (f k : Nat) (n : Int) (L : List Cmp) (s : Sel), k ≤ w.length → L.length ≤ 64 → (∀ i, i < L.length → rgtC (L.getD i default) (decide ((i : Int) = 0)) = true) → (if L.length = 0 then n = 0 else n = 1 ∨ n = 2) → totL L ≤ k → oneF w f k n L = some s →
    rgtS s = true ∧ totL s ≤ w.length
  | 0, _, _, _, _, _, _, _, _, _, hh => by cases hh
  | f + 1, k, n, L, s, hk, hL, hr, hn, ht, hh => by
    have h1 := cmpR_rng hS k hk
    have hx := cmpR_rg h k
    simp only [oneF] at hh
    split at hh
    · cases hh
    rename_i hc
    have hr' : ∀ i, i < (L ++ [(⟨n, (cmpR w k).1⟩ : Cmp)]).length → rgtC ((L ++ [(⟨n, (cmpR w k).1⟩ : Cmp)]).getD i default) (decide ((i : Int) = 0)) = true := fun i hi => by
      rcases getD_snoc L (⟨n, (cmpR w k).1⟩ : Cmp) default i hi with ⟨h1, e⟩ | ⟨rfl, e⟩
      · rw [e]; exact hr i h1
      · rw [e]
        unfold rgtC; rw [decide_eq_true_eq]
        by_cases h0 : L.length = 0
        · rw [if_pos h0] at hn
          subst hn
          rw [decide_eq_true (by omega)]
          exact ⟨by simp, by show (0 : Int) ≤ 0; decide, by show (0 : Int) ≤ 2; decide, by show 0 < (cmpR w k).1.length; omega, hx⟩
        · rw [if_neg h0] at hn
          rw [decide_eq_false (by omega)]
          refine ⟨⟨fun hh => (by cases hh), fun hh => ?_⟩, ?_, ?_, by show 0 < (cmpR w k).1.length; omega, hx⟩
          · have : n = 0 := hh
            omega
          · show 0 ≤ n; omega
          · show n ≤ 2; omega
    have ht' : totL (L ++ [(⟨n, (cmpR w k).1⟩ : Cmp)]) ≤ (cmpR w k).2 := by rw [totL_snoc]; show totL L + (cmpR w k).1.length ≤ _; omega
    have hl' : (L ++ [(⟨n, (cmpR w k).1⟩ : Cmp)]).length = L.length + 1 := by simp
    generalize L ++ [(⟨n, (cmpR w k).1⟩ : Cmp)] = L' at *
    split at hh
    · obtain rfl := Option.some.inj hh
      refine ⟨?_, by omega⟩
      unfold rgtS; rw [decide_eq_true_eq]
      exact ⟨by omega, by omega, hr'⟩
    split at hh
    · cases hh
    · rename_i hn0
      have h2 := lnkR_rng (v := w) (cmpR w k).2 h1.2.1
      have h3 := lnkR_val w (cmpR w k).2
      have h4 := h2.2 hn0
      exact oneF_rg hS h f _ _ L' s h2.1 (by omega) hr' (by rw [if_neg (by omega)]; omega) (by omega) hh
theorem oneS_rg {v : List Tok} (h : noE v) {s : Sel} (hs : oneS v = some s) : rgtS s = true ∧ totL s ≤ v.length := by
  unfold oneS oneT8 at hs
  cases hd : deep (trim v) with
  | true => rw [hd, if_pos rfl] at hs; cases hs
  | false =>
    rw [hd, if_neg (by simp)] at hs
    have := oneF_rg (smpB_all hd) (fun t ht => h t (trim_mem ht)) _ 0 0 [] s (Nat.zero_le _) (by simp) (fun i hi => by simp at hi) rfl (by simp [totL]) hs
    have hl := trim_len v
    exact ⟨this.1, by omega⟩
theorem wrt_le (s : Smp) : (wrt s).length ≤ 5 := by
  unfold wrt
  repeat' split
  all_goals simp
theorem flat_le (l : List Smp) : (l.flatMap wrt).length ≤ 5 * l.length := by
  induction l with
  | nil => simp
  | cons s l ih => have := wrt_le s; rw [List.flatMap_cons, List.length_append, List.length_cons]; omega
theorem lkT_le (n : Int) : (lkT n).length ≤ 1 := by
  unfold lkT
  repeat' split
  all_goals simp
theorem prS_le (s : Sel) : (prS s).length ≤ s.length + 5 * totL s := by
  induction s with
  | nil => simp [prS]
  | cons c s ih =>
    have h1 := flat_le c.l
    have h2 := lkT_le c.link
    have e : totL (c :: s) = c.l.length + totL s := by simp [totL]
    unfold prS at ih ⊢
    rw [List.flatMap_cons, List.length_append, show prC c = lkT c.link ++ c.l.flatMap wrt from rfl, List.length_append, List.length_cons, e]
    omega
theorem totL_mem {s : Sel} {c : Cmp} (h : c ∈ s) : c.l.length ≤ totL s := by
  induction s with
  | nil => cases h
  | cons d s ih =>
    have e : totL (d :: s) = d.l.length + totL s := by simp [totL]
    rcases List.mem_cons.1 h with rfl | h
    · omega
    · have := ih h; omega
theorem prT_le (M : Nat) : ∀ (l : List Sel) (n : Nat), (∀ s ∈ l, (prS s).length ≤ M) → (prT n l).length ≤ (M + 1) * l.length
  | [], n, _ => by simp [prT]
  | s :: l, n, h => by
    have h1 := prT_le M l (n + 1) fun x hx => h x (by simp [hx])
    have h2 := h s (by simp)
    have h3 : (if 0 < n then [commaT] else []).length ≤ 1 := by split <;> simp
    simp only [prT, List.length_append, List.length_cons]
    rw [Nat.mul_add]
    omega
theorem prsC_rg {l : List Tok} (h : noE l) : ∀ (P : List (Int × Int)) (a : List Sel), prsC l P = some a → a.length = P.length ∧ ∀ s ∈ a, rgtS s = true ∧ totL s ≤ l.length
  | [], a, hh => by simp only [prsC] at hh; obtain rfl := Option.some.inj hh; exact ⟨rfl, fun s hs => by cases hs⟩
  | p :: P, a, hh => by
    simp only [prsC] at hh
    cases ho : oneS ((l.take p.2.toNat).drop p.1.toNat) with
    | none => rw [ho] at hh; cases hh
    | some s =>
      rw [ho] at hh
      simp only at hh
      cases hp : prsC l P with
      | none => rw [hp] at hh; cases hh
      | some b =>
        rw [hp] at hh
        obtain rfl := Option.some.inj hh
        obtain ⟨g1, g2⟩ := prsC_rg h P b hp
        refine ⟨by simp [g1], fun x hx => ?_⟩
        rcases List.mem_cons.1 hx with rfl | hx
        · have := oneS_rg (noE_cut h _ _) ho
          refine ⟨this.1, ?_⟩
          have h2 := this.2
          simp only [List.length_drop, List.length_take] at h2
          omega
        · exact g2 x hx
theorem rsK_pos (l : List Tok) (to : Int) : ∀ (ps : List Int) (b : Int), 0 < (rsK l 16 to b ps).length
  | [], b => by simp [rsK]
  | p :: ps, b => by
    simp only [rsK]
    split
    · simp
    · exact rsK_pos l to ps b
/-- What is read is right; written and read again it is the same. -/
theorem back_plain {v : List Tok} (hv : v.length ≤ 100) (h : noE v) {a : List Sel} (ha : psC v = some a) : rgtL a = true ∧ okM a ∧ (prO a).length ≤ 1000000 ∧ psC (prO a) = some a := by
  unfold psC at ha
  cases hd : deep v with
  | true => rw [hd, if_pos rfl] at ha; cases ha
  | false =>
    rw [hd, if_neg (by simp)] at ha
    obtain ⟨g1, g2⟩ := prsC_rg h _ a ha
    have hl := (splL_rng hd).1
    have hp : 0 < (splL v).length := by rw [splL_eq hd]; exact rsK_pos _ _ _ _
    have hR : rgtL a = true := by
      unfold rgtL; rw [decide_eq_true_eq]
      exact ⟨by omega, fun i hi => (g2 _ (getD_mem hi)).1⟩
    have hr64 : ∀ s ∈ a, s.length ≤ 64 := fun s hs => by
      have := (g2 s hs).1
      unfold rgtS at this; rw [decide_eq_true_eq] at this
      exact this.2.1
    have hb := prT_le 564 a 0 fun s hs => by
      have h1 := prS_le s
      have h2 := (g2 s hs).2
      have h3 := hr64 s hs
      omega
    have e : prO a = prT 0 a := by unfold prO; rw [if_pos hR]
    refine ⟨hR, ⟨by omega, fun i hi => ?_⟩, by rw [e]; omega, by rw [e]; exact psC_prT hR⟩
    have hm := getD_mem (d := []) hi
    have h1 := (g2 _ hm).2
    have h2 := hr64 _ hm
    exact ⟨by omega, fun j hj => by have := totL_mem (getD_mem (d := default) hj); omega⟩
end Go.Proofs.Ytlcblcjpebabkaa
end
