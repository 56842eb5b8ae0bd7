/- Layer 8, without the program: what is written is parsed as it was. -/
import Derived.Test.YtlcblcjpebabkaaC8l
import Derived.Test.YtlcblcjpebabkaaWk
section
namespace Go.Proofs.Ytlcblcjpebabkaa
open Go.Sx
set_option linter.unusedSimpArgs false
set_option linter.unusedVariables false
set_option maxHeartbeats 4000000
set_option maxRecDepth 100000

theorem endsA_end {l : List Tok} (hd : deep l = false) {k : Nat} (hk : k < l.length) : (endsA l).getD k 0 = end1 l k := endsA_get l hd k hk
theorem skip_neg {l : List Tok} (hd : deep l = false) {k : Nat} (hk : k < l.length) (h : end1 l k = -1) : skip (endsA l) k = ((k + 1 : Nat) : Int) := by
  unfold skip
  rw [Int.toNat_natCast, endsA_end hd hk, h, if_pos (by omega)]; omega
theorem skip_pos {l : List Tok} (hd : deep l = false) {k m : Nat} (hk : k < l.length) (h : end1 l k = m) (hm : k < m) (hl : m < l.length) : skip (endsA l) k = ((m + 1 : Nat) : Int) := by
  have hlen : (endsA l).length = l.length := by unfold endsA; rw [hd]; simp [endsTo_len]
  unfold skip
  rw [Int.toNat_natCast, endsA_end hd hk, h, hlen, if_neg (by omega)]; omega
theorem end_cases {l : List Tok} {k : Nat} (hk : k < l.length) : (closing (l.getD k .zero) = ⟨#[]⟩ ∧ end1 l k = -1) ∨ end1 l k = l.length ∨ ∃ m : Nat, k < m ∧ m < l.length ∧ end1 l k = m ∧ opn l (m + 1) = opn l k ∧ (k : Int) ∈ opn l m := by
  unfold end1
  by_cases c : closing (l.getD k .zero) = ⟨#[]⟩
  · rw [if_pos c]; exact .inl ⟨c, rfl⟩
  · rw [if_neg c]
    right
    obtain ⟨a1, a2⟩ := end_spec l k c hk
    rcases a1 with a1 | ⟨m, b1, b2, b3, b4, b5⟩
    · exact .inl a1
    · exact .inr ⟨m, b2, b3, b1, b5, by rw [b4]; simp⟩
theorem deep_iff (l : List Tok) : deep l = false ↔ ∀ j, j ≤ l.length → (opn l j).length ≤ 64 := by
  unfold deep
  rw [decide_eq_false_iff_not]
  constructor
  · intro h j hj
    cases j with
    | zero => simp [opn]
    | succ j => exact Decidable.byContradiction fun hn => h ⟨j, by omega, by omega⟩
  · rintro h ⟨i, h1, h2⟩
    have := h (i + 1) (by omega)
    omega
theorem emb_back (a b : List Tok) (h : opn a a.length = []) : Emb b (a ++ b) (fun i => a.length + i) a.length where
  mono i j h _ := by omega
  lt i h := by rw [List.length_append]; omega
  ge i _ := by omega
  get i h := by
    rw [List.getD_eq_getElem?_getD, List.getElem?_append_right (by omega), Nat.add_sub_cancel_left, ← List.getD_eq_getElem?_getD]
  neu j h1 h2 hn := absurd (show a.length + (j - a.length) = j by omega) (hn (j - a.length) (by rw [List.length_append] at h2; omega))
  op := by rw [opn_app a b _ (Nat.le_refl _)]; exact h
  le := by rw [List.length_append]; omega
theorem deep_append {a b : List Tok} (ha : deep a = false) (hb : deep b = false) (h0 : opn a a.length = []) : deep (a ++ b) = false := by
  rw [deep_iff] at ha ⊢
  intro j hj
  by_cases h : j ≤ a.length
  · rw [opn_app a b j h]; exact ha j h
  · exact (emb_back a b h0).len hb (by omega) hj
structure Bal (a : List Tok) : Prop where
  d : deep a = false
  o : opn a a.length = []
theorem deep_small {a : List Tok} (h : a.length ≤ 64) : deep a = false := by
  rw [deep_iff]; intro j hj; have := opn_len a j; omega
theorem bal_app {a b : List Tok} (ha : Bal a) (hb : Bal b) : Bal (a ++ b) := ⟨deep_append ha.d hb.d ha.o, by
  have := (emb_back a b ha.o).fin
  rw [hb.o] at this; exact this⟩
theorem bal_nil : Bal [] := ⟨deep_small (by simp), rfl⟩
theorem bal_one {t : Tok} (h : t.kind ≠ 3 ∧ t.kind ≠ 12) : Bal [t] := ⟨deep_small (by simp), opn_nk (l := [t]) (nk_of fun u hu => by obtain rfl := List.mem_singleton.1 hu; exact h) 1 (by simp)⟩
theorem bal_flat {α : Type} (f : α → List Tok) : ∀ l : List α, (∀ x ∈ l, Bal (f x)) → Bal (l.flatMap f)
  | [], _ => bal_nil
  | x :: l, h => by rw [List.flatMap_cons]; exact bal_app (h x (by simp)) (bal_flat f l fun y hy => h y (by simp [hy]))
theorem clo_op : ¬ closing tOp = ⟨#[]⟩ := by decide
theorem clo_cl : closing tCl = ⟨#[]⟩ := by decide
theorem clo_id (x : ByteArray) : closing (tId x) = ⟨#[]⟩ := clo_nk ⟨by show (2 : Int) ≠ 3; decide, by show (2 : Int) ≠ 12; decide⟩
theorem clo_dl (x : ByteArray) : closing (tDl x) = ⟨#[]⟩ := clo_nk ⟨by show (11 : Int) ≠ 3; decide, by show (11 : Int) ≠ 12; decide⟩
theorem clo_st (x : ByteArray) : closing ⟨6, x, 0⟩ = ⟨#[]⟩ := clo_nk ⟨by show (6 : Int) ≠ 3; decide, by show (6 : Int) ≠ 12; decide⟩
theorem opn_push0 (l : List Tok) (h : ¬ closing (l.getD 0 .zero) = ⟨#[]⟩) : opn l 1 = [0] := by rw [opn_push (m := 0) h]; rfl
theorem opn_same0 (l : List Tok) (m : Nat) (c : closing (l.getD m .zero) = ⟨#[]⟩) (k : (l.getD m .zero).kind ≠ 13) (h : opn l m = [0]) : opn l (m + 1) = [0] := by
  rw [opn_same c (fun hp => k hp.2.1), h]
theorem opn_pop0 (l : List Tok) (m : Nat) (c : closing (l.getD m .zero) = ⟨#[]⟩) (k : (l.getD m .zero).kind = 13) (t : closing (l.getD 0 .zero) = (l.getD m .zero).text) (h : opn l m = [0]) : opn l (m + 1) = [] := by
  rw [opn_pop ⟨c, k, by rw [h]; decide, by rw [h]; exact t⟩, h]; rfl
theorem grp3 (x : ByteArray) (r : List Tok) : opn (tOp :: tId x :: tCl :: r) 2 = [0] ∧ opn (tOp :: tId x :: tCl :: r) 3 = [] := by
  have h1 := opn_push0 (tOp :: tId x :: tCl :: r) clo_op
  have h2 := opn_same0 (tOp :: tId x :: tCl :: r) 1 (clo_id x) (by show (2 : Int) ≠ 13; decide) h1
  exact ⟨h2, opn_pop0 (tOp :: tId x :: tCl :: r) 2 clo_cl rfl (by show closing tOp = ⟨#[93]⟩; decide) h2⟩
theorem grp5 (x y : ByteArray) (r : List Tok) : opn (tOp :: tId x :: tDl ⟨#[61]⟩ :: ⟨6, y, 0⟩ :: tCl :: r) 4 = [0] ∧ opn (tOp :: tId x :: tDl ⟨#[61]⟩ :: ⟨6, y, 0⟩ :: tCl :: r) 5 = [] := by
  have h1 := opn_push0 (tOp :: tId x :: tDl ⟨#[61]⟩ :: ⟨6, y, 0⟩ :: tCl :: r) clo_op
  have h2 := opn_same0 (tOp :: tId x :: tDl ⟨#[61]⟩ :: ⟨6, y, 0⟩ :: tCl :: r) 1 (clo_id x) (by show (2 : Int) ≠ 13; decide) h1
  have h3 := opn_same0 (tOp :: tId x :: tDl ⟨#[61]⟩ :: ⟨6, y, 0⟩ :: tCl :: r) 2 (clo_dl ⟨#[61]⟩) (by show (11 : Int) ≠ 13; decide) h2
  have h4 := opn_same0 (tOp :: tId x :: tDl ⟨#[61]⟩ :: ⟨6, y, 0⟩ :: tCl :: r) 3 (clo_st y) (by show (6 : Int) ≠ 13; decide) h3
  exact ⟨h4, opn_pop0 (tOp :: tId x :: tDl ⟨#[61]⟩ :: ⟨6, y, 0⟩ :: tCl :: r) 4 clo_cl rfl (by show closing tOp = ⟨#[93]⟩; decide) h4⟩
theorem bal_wrt (s : Smp) : Bal (wrt s) := by
  unfold wrt
  have hI : Bal [tId s.text] := bal_one ⟨by show (2 : Int) ≠ 3; decide, by show (2 : Int) ≠ 12; decide⟩
  have hD : ∀ w, Bal [tDl w] := fun w => bal_one ⟨by show (11 : Int) ≠ 3; decide, by show (11 : Int) ≠ 12; decide⟩
  split
  · exact hD _
  split
  · exact bal_one ⟨by show (5 : Int) ≠ 3; decide, by show (5 : Int) ≠ 12; decide⟩
  split
  · exact bal_app (hD ⟨#[46]⟩) hI
  split
  · exact ⟨deep_small (by simp), (grp3 s.text []).2⟩
  split
  · exact ⟨deep_small (by simp), (grp5 s.text s.val []).2⟩
  · exact hI
theorem getD_back (p r : List Tok) (i : Nat) : (p ++ r).getD (p.length + i) .zero = r.getD i .zero := by
  rw [List.getD_eq_getElem?_getD, List.getElem?_append_right (by omega), Nat.add_sub_cancel_left, ← List.getD_eq_getElem?_getD]
theorem knd_app (p r : List Tok) (i : Nat) : knd (p ++ r) (p.length + i) = knd r i := by
  unfold knd
  rw [getD_back, List.length_append]
  by_cases h : i < r.length
  · rw [if_pos h, if_pos (by omega)]
  · rw [if_neg h, if_neg (by omega)]
theorem txt_app (p r : List Tok) (i : Nat) : txt (p ++ r) (p.length + i) = txt r i := by unfold txt; rw [getD_back]
theorem dlm_app (p r : List Tok) (i : Nat) (w : ByteArray) : dlm (p ++ r) (p.length + i) w = dlm r i w := by
  unfold dlm
  rw [getD_back, List.length_append]
  by_cases h : i < r.length
  · have : p.length + i < p.length + r.length := by omega
    simp [h, this]
  · have : ¬ p.length + i < p.length + r.length := by omega
    simp [h, this]
theorem cut_app (p r : List Tok) (m i : Nat) : ((p ++ r).take (p.length + m)).drop (p.length + i) = (r.take m).drop i := by
  rw [List.take_append, List.take_of_length_le (by omega), Nat.add_sub_cancel_left, List.drop_append, List.drop_eq_nil_of_le (by omega), List.nil_append, Nat.add_sub_cancel_left]
end Go.Proofs.Ytlcblcjpebabkaa
end
section
namespace Go.Proofs.Ytlcblcjpebabkaa
open Go.Sx
set_option linter.unusedSimpArgs false
set_option linter.unusedVariables false
set_option maxHeartbeats 4000000
set_option maxRecDepth 100000

/-- Where a compound ends. -/
def stp (r : List Tok) : Prop := r = [] ∨ ∃ t q, r = t :: q ∧ (t.kind = 1 ∨ t = tDl ⟨#[62]⟩)
theorem wrt_pos (s : Smp) : 0 < (wrt s).length := by
  unfold wrt
  repeat' split
  all_goals simp
theorem flat_len (l : List Smp) : l.length ≤ (l.flatMap wrt).length := by
  induction l with
  | nil => simp
  | cons s l ih => have := wrt_pos s; rw [List.flatMap_cons, List.length_append, List.length_cons]; omega
/-- A compound begins with no Space and no >. -/
def hdc (r : List Tok) : Prop := knd r 0 ≠ 1 ∧ dlm r 0 ⟨#[62]⟩ = false
theorem hdc_wrt (s : Smp) (q : List Tok) : hdc (wrt s ++ q) := by
  have hI : ∀ q, hdc (tId s.text :: q) := fun q => ⟨by show (2 : Int) ≠ 1; decide, decide_eq_false fun hh => absurd hh.2.1 (by show ¬ (2 : Int) = 11; decide)⟩
  have hO : ∀ q, hdc (tOp :: q) := fun q => ⟨by show (12 : Int) ≠ 1; decide, decide_eq_false fun hh => absurd hh.2.1 (by show ¬ (12 : Int) = 11; decide)⟩
  unfold wrt
  split
  · exact ⟨by show (11 : Int) ≠ 1; decide, decide_eq_false fun hh => absurd hh.2.2 (by show ¬ (⟨#[42]⟩ : ByteArray) = ⟨#[62]⟩; decide)⟩
  split
  · exact ⟨by show (5 : Int) ≠ 1; decide, decide_eq_false fun hh => absurd hh.2.1 (by show ¬ (5 : Int) = 11; decide)⟩
  split
  · exact ⟨by show (11 : Int) ≠ 1; decide, decide_eq_false fun hh => absurd hh.2.2 (by show ¬ (⟨#[46]⟩ : ByteArray) = ⟨#[62]⟩; decide)⟩
  split
  · exact hO _
  split
  · exact hO _
  · exact hI _
theorem hdc_flat {l : List Smp} (h : 0 < l.length) (q : List Tok) : hdc (l.flatMap wrt ++ q) := by
  cases l with
  | nil => simp at h
  | cons s l => rw [List.flatMap_cons, List.append_assoc]; exact hdc_wrt s _
theorem lkT_len {n : Int} (h : n = 1 ∨ n = 2) : (lkT n).length = 1 := by rcases h with rfl | rfl <;> rfl
theorem bal_lkT (n : Int) : Bal (lkT n) := by
  unfold lkT
  split
  · exact bal_one ⟨by show (1 : Int) ≠ 3; decide, by show (1 : Int) ≠ 12; decide⟩
  split
  · exact bal_one ⟨by show (11 : Int) ≠ 3; decide, by show (11 : Int) ≠ 12; decide⟩
  · exact bal_nil
theorem lnkR_at {w p r : List Tok} {n : Int} (hn : n = 1 ∨ n = 2) (hw : w = p ++ (lkT n ++ r)) (hr : hdc r) : lnkR w p.length = (n, (p ++ lkT n).length) := by
  have hl := lkT_len hn
  have hwl : w.length = p.length + 1 + r.length := by rw [hw]; simp [hl]; omega
  have K0 : knd w p.length = knd (lkT n ++ r) 0 := by rw [hw]; exact knd_app p (lkT n ++ r) 0
  have D0 : dlm w p.length ⟨#[62]⟩ = dlm (lkT n ++ r) 0 ⟨#[62]⟩ := by rw [hw]; exact dlm_app p (lkT n ++ r) 0 _
  have hw2 : w = (p ++ lkT n) ++ r := by rw [hw, List.append_assoc]
  have hpl : (p ++ lkT n).length = p.length + 1 := by rw [List.length_append, hl]
  have K1 : knd w (p.length + 1) = knd r 0 := by rw [hw2, ← hpl]; exact knd_app (p ++ lkT n) r 0
  have D1 : dlm w (p.length + 1) ⟨#[62]⟩ = dlm r 0 ⟨#[62]⟩ := by rw [hw2, ← hpl]; exact dlm_app (p ++ lkT n) r 0 _
  unfold lnkR
  rw [hwl, show p.length + 1 + r.length + 1 = (p.length + r.length) + 1 + 1 by omega, hpl]
  simp only [lnkF]
  rw [K1, D1, hr.2, K0, D0]
  rcases hn with rfl | rfl
  · have e : knd (lkT 1 ++ r) 0 = 1 := rfl
    rw [e, if_pos (.inl rfl), if_neg (by rintro (h | ⟨_, h⟩); exact hr.1 h; cases h)]
    simp
  · have e : knd (lkT 2 ++ r) 0 = 11 := rfl
    have d : dlm (lkT 2 ++ r) 0 ⟨#[62]⟩ = true := by simp [lkT, dlm, tDl]
    rw [e, d, if_pos (.inr ⟨by decide, rfl⟩), if_neg (by rintro (h | ⟨_, h⟩); exact hr.1 h; cases h)]
    simp
theorem stp_lk {n : Int} (hn : n = 1 ∨ n = 2) (r : List Tok) : stp (lkT n ++ r) := by
  rcases hn with rfl | rfl
  · exact .inr ⟨_, _, rfl, .inl rfl⟩
  · exact .inr ⟨_, _, rfl, .inr rfl⟩
theorem rgtC_lk {c : Cmp} (h : rgtC c false = true) : (c.link = 1 ∨ c.link = 2) ∧ 0 < c.l.length := by
  unfold rgtC at h; rw [decide_eq_true_eq] at h
  have : ¬ c.link = 0 := fun hh => by have := h.1.2 hh; cases this
  omega
theorem bal_cmp (c : Cmp) : Bal (c.l.flatMap wrt) := bal_flat wrt c.l fun s _ => bal_wrt s
def enN (l : List Tok) : Prop := ∃ u t, l = u ++ [t] ∧ t.kind ≠ 1
theorem enN_app {a b : List Tok} (h : enN b) : enN (a ++ b) := by
  obtain ⟨u, t, rfl, ht⟩ := h
  exact ⟨a ++ u, t, by simp, ht⟩
theorem enN_wrt (s : Smp) : enN (wrt s) := by
  unfold wrt
  split
  · exact ⟨[], _, rfl, by show (11 : Int) ≠ 1; decide⟩
  split
  · exact ⟨[], _, rfl, by show (5 : Int) ≠ 1; decide⟩
  split
  · exact ⟨[_], _, rfl, by show (2 : Int) ≠ 1; decide⟩
  split
  · exact ⟨[_, _], _, rfl, by show (13 : Int) ≠ 1; decide⟩
  split
  · exact ⟨[_, _, _, _], _, rfl, by show (13 : Int) ≠ 1; decide⟩
  · exact ⟨[], _, rfl, by show (2 : Int) ≠ 1; decide⟩
theorem enN_flat {α : Type} (f : α → List Tok) : ∀ l : List α, l ≠ [] → (∀ x ∈ l, enN (f x)) → enN (l.flatMap f)
  | [], h, _ => absurd rfl h
  | [x], _, h => by simpa using h x (by simp)
  | x :: y :: l, _, h => by rw [List.flatMap_cons]; exact enN_app (enN_flat f (y :: l) (by simp) fun z hz => h z (by simp only [List.mem_cons] at hz ⊢; exact .inr hz))
theorem rgtS_all {s : Sel} (h : rgtS s = true) : ∃ c cs, s = c :: cs ∧ c.link = 0 ∧ rgtC c true = true ∧ (∀ x ∈ cs, rgtC x false = true) ∧ cs.length + 1 ≤ 64 ∧ ∀ x ∈ s, 0 < x.l.length := by
  unfold rgtS at h; rw [decide_eq_true_eq] at h
  obtain ⟨h1, h2, h3⟩ := h
  cases s with
  | nil => simp at h1
  | cons c cs =>
    have hc : rgtC c true = true := h3 0 (by simp)
    have hcs : ∀ x ∈ cs, rgtC x false = true := fun x hx => by
      obtain ⟨i, hi, rfl⟩ := List.mem_iff_getElem.1 hx
      have := h3 (i + 1) (by simp; omega)
      rw [List.getD_eq_getElem?_getD, List.getElem?_cons_succ, List.getElem?_eq_getElem hi] at this
      rwa [decide_eq_false (by omega)] at this
    have hc' := hc
    unfold rgtC at hc'; rw [decide_eq_true_eq] at hc'
    exact ⟨c, cs, rfl, hc'.1.1 rfl, hc, hcs, by simpa using h2, fun x hx => by
      rcases List.mem_cons.1 hx with rfl | hx
      · exact hc'.2.2.2.1
      · exact (rgtC_lk (hcs x hx)).2⟩
theorem bal_prC (c : Cmp) : Bal (prC c) := bal_app (bal_lkT _) (bal_cmp c)
theorem bal_prS (s : Sel) : Bal (prS s) := bal_flat prC s fun c _ => bal_prC c
theorem sel_len : ∀ s : Sel, (∀ x ∈ s, 0 < x.l.length) → s.length ≤ (prS s).length
  | [], _ => by simp
  | c :: s, h => by
    have h1 := sel_len s fun x hx => h x (by simp [hx])
    have h2 := h c (by simp)
    have h3 := flat_len c.l
    unfold prS at h1 ⊢
    rw [List.flatMap_cons, List.length_append, List.length_cons, show prC c = lkT c.link ++ c.l.flatMap wrt from rfl, List.length_append]
    omega
theorem rstr_end {l : List Tok} (h : enN l) : rstr l = l := by
  obtain ⟨u, t, rfl, ht⟩ := h; exact rstr_ns u t ht
theorem dw_head {l : List Tok} (h : knd l 0 ≠ 1) : l.dropWhile isSp = l := by
  cases l with
  | nil => rfl
  | cons t l =>
    rw [List.dropWhile_cons_of_neg]
    unfold isSp
    have : t.kind ≠ 1 := h
    simpa using this
theorem trim_prS {s : Sel} (h : rgtS s = true) : trim (prS s) = prS s := by
  obtain ⟨c, cs, rfl, h0, hc, hcs, hl, hp⟩ := rgtS_all h
  have e : prS (c :: cs) = c.l.flatMap wrt ++ cs.flatMap prC := by
    unfold prS; rw [List.flatMap_cons, show prC c = lkT c.link ++ c.l.flatMap wrt from rfl, h0]; rfl
  rw [trim_eq, dw_head (by rw [e]; exact (hdc_flat (hp c (by simp)) _).1)]
  refine rstr_end (enN_flat prC _ (by simp) fun x hx => enN_app (enN_flat wrt _ (fun hh => ?_) fun y _ => enN_wrt y))
  have := hp x hx
  rw [hh] at this; simp at this
end Go.Proofs.Ytlcblcjpebabkaa
end
section
namespace Go.Proofs.Ytlcblcjpebabkaa
open Go.Sx
set_option linter.unusedSimpArgs false
set_option linter.unusedVariables false
set_option maxHeartbeats 4000000
set_option maxRecDepth 100000

theorem skip_in {w : List Tok} (hd : deep w = false) {k B : Nat} (hk : k < B) (hB : B ≤ w.length) (h0 : opn w k = []) (h1 : opn w B = []) : ∃ n : Nat, skip (endsA w) k = n ∧ k < n ∧ n ≤ B ∧ opn w n = [] := by
  have hkl : k < w.length := by omega
  rcases end_cases hkl with ⟨c, e⟩ | e | ⟨m, m1, m2, e, o, i⟩
  · exact ⟨k + 1, skip_neg hd hkl e, by omega, by omega, by rw [opn_same c (by rintro ⟨_, _, hp, _⟩; simp [h0] at hp)]; exact h0⟩
  · obtain ⟨hc, hf⟩ := end1_open w k (by omega)
    have := (end_spec w k hc hkl).2 B hk (by omega)
    rw [h1] at this; simp at this
  · have hmB : m < B := Decidable.byContradiction fun hn => by
      have := opn_stay' hk (show B ≤ m by omega) i
      rw [h1] at this; simp at this
    exact ⟨m + 1, skip_pos hd hkl e m1 m2, by omega, by omega, by rw [o]; exact h0⟩
/-- Without commas nothing is parted. -/
theorem rsK_pass {w : List Tok} (hd : deep w = false) (B : Nat) (hB : B ≤ w.length) (h1 : opn w B = []) (b : Int) : ∀ (f k : Nat), k ≤ B → opn w k = [] → (∀ i, k ≤ i → i < B → (w.getD i .zero).kind ≠ 16) → w.length < k + f →
    ∃ f', w.length < B + f' ∧ rsK w 16 w.length b (plR (endsA w) w.length f k) = rsK w 16 w.length b (plR (endsA w) w.length f' B)
  | f, k, hk, h0, hq, hf => by
    by_cases he : k = B
    · subst he; exact ⟨f, hf, rfl⟩
    · obtain ⟨f, rfl⟩ : ∃ g, f = g + 1 := ⟨f - 1, by omega⟩
      obtain ⟨n, hs, n1, n2, n3⟩ := skip_in hd (show k < B by omega) hB h0 h1
      obtain ⟨f', g1, g2⟩ := rsK_pass hd B hB h1 b f n n2 n3 (fun i hi hi2 => hq i (by omega) hi2) (by omega)
      refine ⟨f', g1, ?_⟩
      simp only [plR]
      rw [if_pos (show (k : Int) < w.length by omega), hs]
      simp only [rsK]
      rw [Int.toNat_natCast, if_neg (hq k (Nat.le_refl _) (by omega)), g2]
termination_by f => f
def no16 (l : List Tok) : Prop := ∀ t ∈ l, t.kind ≠ 16
theorem no16_flat {α : Type} (f : α → List Tok) (l : List α) (h : ∀ x ∈ l, no16 (f x)) : no16 (l.flatMap f) := fun t ht => by
  obtain ⟨x, hx, hx2⟩ := List.mem_flatMap.1 ht
  exact h x hx t hx2
theorem no16_app {a b : List Tok} (ha : no16 a) (hb : no16 b) : no16 (a ++ b) := fun t ht => by
  rcases List.mem_append.1 ht with h | h
  · exact ha t h
  · exact hb t h
theorem no16_nil : no16 [] := fun t ht => by cases ht
theorem no16_cons {t : Tok} {l : List Tok} (h : t.kind ≠ 16) (hl : no16 l) : no16 (t :: l) := fun u hu => by
  rcases List.mem_cons.1 hu with rfl | hu
  · exact h
  · exact hl u hu
theorem no16_wrt (s : Smp) : no16 (wrt s) := by
  have hI : (tId s.text).kind ≠ 16 := by show (2 : Int) ≠ 16; decide
  have hD : ∀ x, (tDl x).kind ≠ 16 := fun x => by show (11 : Int) ≠ 16; decide
  unfold wrt
  split
  · exact no16_cons (hD _) no16_nil
  split
  · exact no16_cons (by show (5 : Int) ≠ 16; decide) no16_nil
  split
  · exact no16_cons (hD _) (no16_cons hI no16_nil)
  split
  · exact no16_cons (by decide) (no16_cons hI (no16_cons (by decide) no16_nil))
  split
  · exact no16_cons (by decide) (no16_cons hI (no16_cons (hD _) (no16_cons (by show (6 : Int) ≠ 16; decide) (no16_cons (by decide) no16_nil))))
  · exact no16_cons hI no16_nil
theorem no16_lkT (n : Int) : no16 (lkT n) := by
  unfold lkT
  split
  · exact no16_cons (by decide) no16_nil
  split
  · exact no16_cons (by decide) no16_nil
  · exact no16_nil
theorem no16_prS (s : Sel) : no16 (prS s) := no16_flat prC s fun c _ => no16_app (no16_lkT _) (no16_flat wrt _ fun x _ => no16_wrt x)
theorem bal_comma : Bal [commaT] := bal_one ⟨by decide, by decide⟩
theorem bal_prT : ∀ (l : List Sel) (n : Nat), Bal (prT n l)
  | [], n => bal_nil
  | s :: l, n => by
    simp only [prT]
    refine bal_app ?_ (bal_app (bal_prS s) (bal_prT l (n + 1)))
    split
    · exact bal_comma
    · exact bal_nil
end Go.Proofs.Ytlcblcjpebabkaa
end
section
namespace Go.Proofs.Ytlcblcjpebabkaa
open Go.Sx
set_option linter.unusedSimpArgs false
set_option linter.unusedVariables false
set_option maxHeartbeats 4000000
set_option maxRecDepth 100000

def totL (L : List Cmp) : Nat := (L.map fun c => c.l.length).sum
theorem wrt_le (s : Smp) : (wrt s).length ≤ 5 := by
  unfold wrt
  repeat' split
  all_goals simp
theorem flat_le (l : List Smp) : (l.flatMap wrt).length ≤ 5 * l.length := by
  induction l with
  | nil => simp
  | cons s l ih => have := wrt_le s; rw [List.flatMap_cons, List.length_append, List.length_cons]; omega
theorem lkT_le (n : Int) : (lkT n).length ≤ 1 := by
  unfold lkT
  repeat' split
  all_goals simp
theorem prS_le (s : Sel) : (prS s).length ≤ s.length + 5 * totL s := by
  induction s with
  | nil => simp [prS]
  | cons c s ih =>
    have h1 := flat_le c.l
    have h2 := lkT_le c.link
    have e : totL (c :: s) = c.l.length + totL s := by simp [totL]
    unfold prS at ih ⊢
    rw [List.flatMap_cons, List.length_append, show prC c = lkT c.link ++ c.l.flatMap wrt from rfl, List.length_append, List.length_cons, e]
    omega
theorem prT_le (M : Nat) : ∀ (l : List Sel) (n : Nat), (∀ s ∈ l, (prS s).length ≤ M) → (prT n l).length ≤ (M + 1) * l.length
  | [], n, _ => by simp [prT]
  | s :: l, n, h => by
    have h1 := prT_le M l (n + 1) fun x hx => h x (by simp [hx])
    have h2 := h s (by simp)
    have h3 : (if 0 < n then [commaT] else []).length ≤ 1 := by split <;> simp
    simp only [prT, List.length_append, List.length_cons]
    rw [Nat.mul_add]
    omega
end Go.Proofs.Ytlcblcjpebabkaa
end
