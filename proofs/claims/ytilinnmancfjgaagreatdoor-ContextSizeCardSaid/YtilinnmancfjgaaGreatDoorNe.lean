/- Brackets: what both sides tell of them. -/
import Derived.Test.YtilinnmancfjgaaGreatDoorL5g
import Derived.Test.YtilinnmancfjgaaGreatDoorE4
namespace Go.Proofs.YtilinnmancfjgaaGreatDoor
open Go.Sx
set_option linter.unusedSimpArgs false
set_option maxHeartbeats 4000000

theorem PRep.nilS {F : Nat → Prop} {w : World} {v : Value} (sz : Nat) (h : PRep F w v vnil) : PRep F w v (.slc sz []) := by
  cases h
  exact .slc none 0 0 sz [] 0 0 (fun _ _ => undef) rfl (Nat.le_refl _) (by simp) (by simp) (by simp) (by simp)
def endsA (l : List Tok) : List Int := if deep l then [] else endsTo l l.length
def errn (l : List Tok) : Int := if deep l then 3 else 0
theorem endsR_sub (l : List Tok) (F : Nat → Prop) (w : World) (v : Value) (h : PRep F w v (endsR l)) : PRep F w v (.tup [ints (endsA l), vi (errn l)]) := by
  unfold endsR at h
  unfold endsA errn
  cases hd : deep l with
  | false => simpa [hd] using h
  | true =>
    simp only [hd, cond_true] at h
    simp only [if_true]
    cases h with
    | tup cs xs hl h =>
      refine .tup cs _ hl fun i hi => ?_
      have := h i hi
      match i, hi with
      | 0, _ => exact PRep.nilS 1 this
      | 1, _ => exact this
      | n + 2, hi => exact absurd hi (by simp)
theorem nestEnds_ok' (l : List Tok) (hl : l.length ≤ 1000000) : PCall Tryz.prog 54 [toks l] (.tup [ints (endsA l), vi (errn l)]) := by
  have := nestEnds_ok l hl
  rw [nEnds_eq] at this
  exact PCall.rsub this (endsR_sub l)
def endsD (args : List V) : Prop := args = [toks (dToks (args.getD 0 .any))] ∧ (dToks (args.getD 0 .any)).length ≤ 1000000
def endsV (args : List V) : V := .tup [ints (endsA (dToks (args.getD 0 .any))), vi (errn (dToks (args.getD 0 .any)))]
def sumE1 : Sum Tryz.prog := ⟨54, endsD, endsV, fun args h => by have := nestEnds_ok' _ h.2; rwa [← h.1] at this, false⟩
theorem sumE1_f : sumE1.f = 54 := rfl
theorem sumE1_D (args : List V) : sumE1.D args = endsD args := rfl
theorem sumE1_flat : sumE1.flat = false := rfl
theorem sumE1_r (args : List V) : sumE1.r args = endsV args := rfl
def skipD (l : List Int) (k : Int) : Prop := -9223372036854775808 ≤ k ∧ k < 9223372036854775807 ∧ l.getD k.toNat 0 < 9223372036854775807
def sumSkip : Sum Tryz.prog := ⟨55, fun args => args = [ints (dInts (args.getD 0 .any)), vi (args.getD 1 .any).int] ∧ skipD (dInts (args.getD 0 .any)) (args.getD 1 .any).int, fun args => vi (skip (dInts (args.getD 0 .any)) (args.getD 1 .any).int), fun args h => by
  have := skip_ok (dInts (args.getD 0 .any)) (args.getD 1 .any).int h.2.1 h.2.2.1 h.2.2.2; rwa [← h.1] at this, true⟩
theorem sumSkip_f : sumSkip.f = 55 := rfl
theorem sumSkip_D (args : List V) : sumSkip.D args = (args = [ints (dInts (args.getD 0 .any)), vi (args.getD 1 .any).int] ∧ skipD (dInts (args.getD 0 .any)) (args.getD 1 .any).int) := rfl
theorem sumSkip_flat : sumSkip.flat = true := rfl
theorem sumSkip_r (args : List V) : sumSkip.r args = vi (skip (dInts (args.getD 0 .any)) (args.getD 1 .any).int) := rfl
theorem skip_gt (ends : List Int) (k : Int) (hk : k < ends.length) : k + 1 ≤ skip ends k := by
  unfold skip
  grind
theorem skip_le (ends : List Int) (k : Int) (hk : k < ends.length) : skip ends k ≤ ends.length := by
  unfold skip
  grind
theorem fe_rng (l : List Tok) (k : Nat) : ∀ (f j : Nat), j + f = l.length → (j : Int) ≤ fe l k f j ∧ fe l k f j ≤ l.length
  | 0, j, h => by simp only [fe]; omega
  | f + 1, j, h => by
    simp only [fe]
    split
    · omega
    · have := fe_rng l k f (j + 1) (by omega); omega
theorem end1_rng (l : List Tok) (k : Nat) (hk : k < l.length) : end1 l k = -1 ∨ ((k : Int) < end1 l k ∧ end1 l k ≤ l.length) := by
  unfold end1
  split
  · exact .inl rfl
  · have := fe_rng l k (l.length - (k + 1)) (k + 1) (by omega); right; omega
theorem endsA_get (l : List Tok) (hd : deep l = false) (k : Nat) (hk : k < l.length) : (endsA l).getD k 0 = end1 l k := by
  simp only [endsA, hd, Bool.false_eq_true, if_false, endsTo]
  simp [List.getD_eq_getElem?_getD, hk]
theorem endsA_le (l : List Tok) (k : Nat) : (endsA l).getD k 0 ≤ l.length := by
  cases hd : deep l with
  | true => simp [endsA, hd]
  | false =>
    by_cases hk : k < l.length
    · rw [endsA_get l hd k hk]; have := end1_rng l k hk; omega
    · have : (endsA l).length ≤ k := by simp [endsA, hd, endsTo_len]; omega
      rw [List.getD_eq_getElem?_getD, List.getElem?_eq_none this]; simp
theorem fe_spec (l : List Tok) (k : Nat) : ∀ (f j : Nat), j + f = l.length → fe l k f j = l.length ∨ ∃ m, j ≤ m ∧ m < l.length ∧ fe l k f j = m ∧ condC l k m ∧ ∀ i, j ≤ i → i < m → ¬ condC l k i
  | 0, j, h => by simp only [fe]; exact .inl trivial
  | f + 1, j, h => by
    simp only [fe]
    split
    · rename_i hc; exact .inr ⟨j, Nat.le_refl _, by omega, rfl, hc, fun i h1 h2 => by omega⟩
    · rename_i hc
      rcases fe_spec l k f (j + 1) (by omega) with h1 | ⟨m, h1, h2, h3, h4, h5⟩
      · exact .inl h1
      · refine .inr ⟨m, by omega, h2, h3, h4, fun i hi1 hi2 => ?_⟩
        by_cases e : i = j
        · subst e; exact hc
        · exact h5 i (by omega) hi2
end Go.Proofs.YtilinnmancfjgaaGreatDoor
