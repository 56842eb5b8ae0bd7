/- Layer 10, plain: the last compounds; a child is below; one simple selector more. -/
import Derived.Test.YtcjephhkgccmgaaM10r
namespace Go.Proofs.Ytcjephhkgccmgaa
open Go.Sx
set_option linter.unusedSimpArgs false
set_option maxHeartbeats 4000000
set_option maxRecDepth 20000

theorem goU_mono (l : List Node) {p q : Nat → Bool} (h : ∀ j, p j = true → q j = true) (c d : Bool) (hcd : d = true → c = true) : ∀ (f : Nat) (a : Int), goU l p c f a = true → goU l q d f a = true
  | 0, _, h => by cases h
  | f + 1, a, hg => by
    unfold goU at hg ⊢
    by_cases h0 : a < 0
    · rw [if_pos h0] at hg; cases hg
    · rw [if_neg h0] at hg ⊢
      cases hp : p a.toNat with
      | true => rw [h _ hp, if_pos rfl]
      | false =>
        rw [hp, if_neg (by simp)] at hg
        cases hc : c with
        | true => rw [hc, if_pos rfl] at hg; cases hg
        | false =>
          rw [hc, if_neg (by simp)] at hg
          have hd : d = false := by cases d with | false => rfl | true => rw [hcd rfl] at hc; cases hc
          subst hc hd
          have := goU_mono l h false false id f _ hg
          rw [this]
          by_cases hq : q a.toNat = true <;> simp [hq]
theorem rgtL_one (s : Sel) : rgtL [s] = rgtS s := by
  unfold rgtL
  cases h : rgtS s with
  | true => rw [decide_eq_true_eq]; exact ⟨by simp, fun i hi => by have : i = 0 := by simp at hi; omega
                                                                   subst this; exact h⟩
  | false => rw [decide_eq_false_iff_not]; exact fun hh => by have := hh.2 0 (by simp); simp only [List.getD_cons_zero] at this; rw [h] at this; cases this
/-- The last compounds, the first one's link left out. -/
def cutS (s : Sel) (i : Nat) : Sel := (s.drop i).set 0 ⟨0, (s.getD i default).l⟩
theorem cutS_len (s : Sel) (i : Nat) : (cutS s i).length = s.length - i := by simp [cutS]
theorem cutS_zero (s : Sel) (i : Nat) (h : i < s.length) : (cutS s i).getD 0 default = ⟨0, (s.getD i default).l⟩ := by
  unfold cutS
  rw [List.getD_eq_getElem?_getD, List.getElem?_set_self (by simp; omega)]; rfl
theorem cutS_succ (s : Sel) (i j : Nat) : (cutS s i).getD (j + 1) default = s.getD (i + (j + 1)) default := by
  unfold cutS
  rw [List.getD_eq_getElem?_getD, List.getElem?_set_ne (by omega), List.getElem?_drop, ← List.getD_eq_getElem?_getD]
theorem rgtC_free {c d : Cmp} {f g : Bool} (h : rgtC c f = true) (hl : d.l = c.l) (hf : (g = true ↔ d.link = 0) ∧ 0 ≤ d.link ∧ d.link ≤ 2) : rgtC d g = true := by
  unfold rgtC at h ⊢
  rw [decide_eq_true_eq] at h ⊢
  rw [hl]
  exact ⟨hf.1, hf.2.1, hf.2.2, h.2.2.2.1, h.2.2.2.2⟩
theorem rgtS_cut {s : Sel} (h : rgtS s = true) {i : Nat} (hi : i < s.length) : rgtS (cutS s i) = true := by
  unfold rgtS at h ⊢
  rw [decide_eq_true_eq] at h ⊢
  obtain ⟨h1, h2, h3⟩ := h
  refine ⟨by rw [cutS_len]; omega, by rw [cutS_len]; omega, fun j hj => ?_⟩
  rw [cutS_len] at hj
  cases j with
  | zero =>
    rw [cutS_zero s i hi]
    exact rgtC_free (h3 i hi) rfl ⟨by simp, by simp, by simp⟩
  | succ j =>
    rw [cutS_succ]
    have := h3 (i + (j + 1)) (by omega)
    rwa [show decide (((j + 1 : Nat) : Int) = 0) = decide (((i + (j + 1) : Nat) : Int) = 0) by rw [decide_eq_false (by omega), decide_eq_false (by omega)]]
theorem oneB_l (n : Node) {c d : Cmp} (h : c.l = d.l) : oneB n c = oneB n d := by unfold oneB; rw [h]
theorem upN_one (l : List Node) (s : Sel) (m k : Nat) (h : upN l s m k = true) : oneB (l.getD k .zero) (s.getD m default) = true := by
  cases m with
  | zero => exact h
  | succ m => unfold upN at h; rw [Bool.and_eq_true] at h; exact h.1
theorem upN_cut (l : List Node) (s : Sel) (i : Nat) (hi : i < s.length) : ∀ (m k : Nat), upN l s (i + m) k = true → upN l (cutS s i) m k = true
  | 0, k, h => by
    have := upN_one l s i k h
    unfold upN
    rw [cutS_zero s i hi]; exact (oneB_l (c := ⟨0, (s.getD i default).l⟩) (d := s.getD i default) _ rfl).trans this
  | m + 1, k, h => by
    have h : upN l s (i + m + 1) k = true := h
    unfold upN at h ⊢
    rw [Bool.and_eq_true] at h ⊢
    rw [cutS_succ]
    exact ⟨h.1, goU_mono l (fun j hj => upN_cut l s i hi m j hj) _ _ id _ _ h.2⟩
theorem isM_cut {l : List Node} {k : Int} {s : Sel} (h : isM l k s = true) {i : Nat} (hi : i < s.length) : isM l k (cutS s i) = true := by
  unfold isM at h ⊢
  simp only [Bool.and_eq_true] at h ⊢
  obtain ⟨⟨h1, h2⟩, h3⟩ := h
  refine ⟨⟨h1, ?_⟩, upN_cut l s i hi _ _ ?_⟩
  · rw [rgtL_one] at h2 ⊢; exact rgtS_cut h2 hi
  · rw [cutS_len, show i + (s.length - i - 1) = s.length - 1 by omega]; exact h3
/-- Each compound hangs below what is ahead. -/
def belC (i : Nat) (c : Cmp) : Cmp := if 0 < i then ⟨1, c.l⟩ else c
def belS (s : Sel) : Sel := s.mapIdx belC
theorem belS_len (s : Sel) : (belS s).length = s.length := by simp [belS]
theorem belS_get (s : Sel) (i : Nat) (h : i < s.length) : (belS s).getD i default = belC i (s.getD i default) := by
  simp [belS, List.getD_eq_getElem?_getD, h]
theorem belC_l (i : Nat) (c : Cmp) : (belC i c).l = c.l := by unfold belC; split <;> rfl
theorem rgtS_bel {s : Sel} (h : rgtS s = true) : rgtS (belS s) = true := by
  unfold rgtS at h ⊢
  rw [decide_eq_true_eq] at h ⊢
  obtain ⟨h1, h2, h3⟩ := h
  refine ⟨by rw [belS_len]; exact h1, by rw [belS_len]; exact h2, fun j hj => ?_⟩
  rw [belS_len] at hj
  rw [belS_get s j hj]
  have := h3 j hj
  by_cases h0 : 0 < j
  · refine rgtC_free this (belC_l _ _) ?_
    unfold belC
    rw [if_pos h0]
    simp; omega
  · unfold belC; rw [if_neg h0]; exact this
theorem upN_bel (l : List Node) (s : Sel) : ∀ (m k : Nat), m < s.length → upN l s m k = true → upN l (belS s) m k = true
  | 0, k, hm, h => by
    unfold upN at h ⊢
    rw [belS_get s 0 hm, oneB_l (d := s.getD 0 default) _ (belC_l _ _)]; exact h
  | m + 1, k, hm, h => by
    unfold upN at h ⊢
    rw [Bool.and_eq_true] at h ⊢
    rw [belS_get s (m + 1) hm]
    refine ⟨by rw [oneB_l (d := s.getD (m + 1) default) _ (belC_l _ _)]; exact h.1, goU_mono l (fun j hj => upN_bel l s m j (by omega) hj) _ _ (fun hd => ?_) _ _ h.2⟩
    unfold belC at hd
    rw [if_pos (by omega)] at hd
    simp at hd
theorem isM_bel {l : List Node} {k : Int} {s : Sel} (h : isM l k s = true) : isM l k (belS s) = true := by
  unfold isM at h ⊢
  simp only [Bool.and_eq_true] at h ⊢
  obtain ⟨⟨h1, h2⟩, h3⟩ := h
  have hp := (rgtL_pos h2).1
  refine ⟨⟨h1, ?_⟩, ?_⟩
  · rw [rgtL_one] at h2 ⊢; exact rgtS_bel h2
  · rw [belS_len]; exact upN_bel l s _ _ (by omega) h3
/-- The last compound with one simple selector more. -/
def morS (s : Sel) (x : Smp) : Sel := s.take (s.length - 1) ++ [⟨(s.getD (s.length - 1) default).link, (s.getD (s.length - 1) default).l ++ [x]⟩]
theorem morS_len (s : Sel) (x : Smp) (h : 0 < s.length) : (morS s x).length = s.length := by simp [morS]; omega
theorem morS_lt (s : Sel) (x : Smp) (i : Nat) (h : i < s.length - 1) : (morS s x).getD i default = s.getD i default := by
  unfold morS
  rw [List.getD_eq_getElem?_getD, List.getElem?_append_left (by simp; omega), List.getElem?_take, if_pos h, ← List.getD_eq_getElem?_getD]
theorem morS_last (s : Sel) (x : Smp) (h : 0 < s.length) : (morS s x).getD (s.length - 1) default = ⟨(s.getD (s.length - 1) default).link, (s.getD (s.length - 1) default).l ++ [x]⟩ := by
  have e := getD_end (s.take (s.length - 1)) (⟨(s.getD (s.length - 1) default).link, (s.getD (s.length - 1) default).l ++ [x]⟩ : Cmp) default
  rw [List.length_take, Nat.min_eq_left (by omega)] at e
  exact e
theorem oneB_iff (n : Node) (c : Cmp) : oneB n c = true ↔ ¬ n.type = ⟨#[]⟩ ∧ ∀ y ∈ c.l, simB n y = true := by
  rw [← okK_all]
  unfold okK
  rw [List.take_length, Bool.and_eq_true, List.all_eq_true]
  simp
theorem upN_mor_lt (l : List Node) (s : Sel) (x : Smp) : ∀ (m k : Nat), m < s.length - 1 → upN l (morS s x) m k = upN l s m k
  | 0, k, h => by unfold upN; rw [morS_lt s x 0 h]
  | m + 1, k, h => by
    unfold upN
    rw [morS_lt s x (m + 1) h]
    have : upN l (morS s x) m = upN l s m := funext fun j => upN_mor_lt l s x m j (by omega)
    rw [this]
theorem isM_mor {l : List Node} {k : Int} {s : Sel} {x : Smp} (hr : rgtL [s] = true) (h : isM l k (morS s x) = true) : isM l k s = true := by
  have hp := (rgtL_pos hr).1
  unfold isM at h ⊢
  simp only [Bool.and_eq_true] at h ⊢
  obtain ⟨⟨h1, h2⟩, h3⟩ := h
  refine ⟨⟨h1, hr⟩, ?_⟩
  rw [morS_len s x hp] at h3
  have h4 := upN_one _ _ _ _ h3
  rw [morS_last s x hp, oneB_iff] at h4
  have h5 : oneB (l.getD k.toNat .zero) (s.getD (s.length - 1) default) = true := (oneB_iff _ _).2 ⟨h4.1, fun y hy => h4.2 y (List.mem_append_left _ hy)⟩
  generalize he : s.length - 1 = m at *
  cases m with
  | zero => exact h5
  | succ m =>
    unfold upN at h3 ⊢
    rw [Bool.and_eq_true] at h3 ⊢
    refine ⟨h5, ?_⟩
    have h6 := h3.2
    have : upN l (morS s x) m = upN l s m := funext fun j => upN_mor_lt l s x m j (by omega)
    rw [this] at h6
    rw [← he, morS_last s x hp] at h6
    rw [← he]; exact h6
def anyS : Sel := [⟨0, [⟨1, ⟨#[]⟩, ⟨#[]⟩⟩]⟩]
theorem isM_any {l : List Node} (hD : docB l = true) (k : Nat) (h : k < l.length) : isM l k anyS = !decide ((l.getD k .zero).type = ⟨#[]⟩) := by
  have hr : rgtL [anyS] = true := by decide
  have hu : upN l anyS 0 k = oneB (l.getD k .zero) ⟨0, [⟨1, ⟨#[]⟩, ⟨#[]⟩⟩]⟩ := rfl
  have ho : oneB (l.getD k .zero) ⟨0, [⟨1, ⟨#[]⟩, ⟨#[]⟩⟩]⟩ = !decide ((l.getD k .zero).type = ⟨#[]⟩) := by
    rw [Bool.eq_iff_iff, oneB_iff]
    simp [simB]
  unfold isM
  rw [hD, decide_eq_true (by omega), hr, Int.toNat_natCast, show anyS.length - 1 = 0 from rfl, hu, ho]
  simp
end Go.Proofs.Ytcjephhkgccmgaa
