/- Places without Space at both ends. -/
import Derived.Test.YtlcblcjpebabkaaSm
namespace Go.Proofs.Ytlcblcjpebabkaa
open Go.Sx
set_option linter.unusedSimpArgs false
set_option maxHeartbeats 4000000
set_option maxRecDepth 20000

def upA (l : List Tok) (b : Nat) : Nat → Nat → Nat
  | 0, k => k
  | f + 1, k => if k < b ∧ (l.getD k .zero).kind = 1 then upA l b f (k + 1) else k
def dnB (l : List Tok) (a : Nat) : Nat → Nat
  | 0 => 0
  | k + 1 => if a < k + 1 ∧ (l.getD k .zero).kind = 1 then dnB l a k else k + 1
theorem upA_rng (l : List Tok) (b : Nat) : ∀ (f k : Nat), k ≤ b → k ≤ upA l b f k ∧ upA l b f k ≤ b
  | 0, k, h => by simp only [upA]; omega
  | f + 1, k, h => by
    simp only [upA]
    split
    · have := upA_rng l b f (k + 1) (by omega); omega
    · omega
theorem dnB_rng (l : List Tok) (a : Nat) : ∀ (k : Nat), a ≤ k → a ≤ dnB l a k ∧ dnB l a k ≤ k
  | 0, h => by simp only [dnB]; omega
  | k + 1, h => by
    simp only [dnB]
    split
    · have := dnB_rng l a k (by omega); omega
    · omega
def trA (l : List Tok) : Nat := upA l l.length l.length 0
def trB (l : List Tok) : Nat := dnB l (trA l) l.length
def trim (l : List Tok) : List Tok := (l.take (trB l)).drop (trA l)
theorem tr_rng (l : List Tok) : trA l ≤ trB l ∧ trB l ≤ l.length := by
  have h1 := upA_rng l l.length l.length 0 (Nat.zero_le _)
  exact dnB_rng l (trA l) l.length h1.2
structure TmS where
  k : Nat
  f : Nat
def trV (l : List Tok) : V := .tup [vi (trA l), vi (trB l)]
theorem trimR_ok (l : List Tok) (hl : l.length ≤ 1000000) : PCall Try.prog 47 [toks l, vi 0, vi l.length] (trV l) := by
  refine PCall.of (Orc.nil _) c47_ok (by simp [c47]) fun w0 own0 => ?_
  simp only [c47, toks, go_sem, wpR_gcall, reduceCtorEq, reduceIte, Nat.reduceEqDiff, Nat.reduceAdd, Nat.reduceSub, Nat.reduceMul, Nat.reduceLT, Nat.reduceLeDiff, Nat.reduceBEq, Int.reduceEq, Int.reduceLT, Int.reduceLE, Int.reduceAdd, Int.reduceSub, Int.reduceNeg, Int.reduceToNat]
  refine SemC.lp (α := TmS) (fun a => [(0, .slc 3 (l.map Tok.enc)), (1, vi a.k), (2, vi l.length)]) (fun _ => ⟨[], 0⟩)
    (fun a => a.k ≤ l.length ∧ l.length ≤ a.k + a.f ∧ upA l l.length a.f a.k = trA l) (fun a => l.length - a.k) ⟨0, l.length⟩ ⟨Nat.zero_le _, by dsimp only; omega, rfl⟩ (St.cut ?_ ?_ ?_) fun a ha => ?_
  · simp [Agrees, upd_at, initE_at]
  · simp
  · rfl
  obtain ⟨k, f⟩ := a
  obtain ⟨h1, h2, h3⟩ := ha
  simp only at h1 h2 h3
  have e0 : (0 : Int) ≤ (k : Int) := by omega
  by_cases hc : k < l.length ∧ (l.getD k .zero).kind = 1
  · obtain ⟨f, rfl⟩ : ∃ g, f = g + 1 := ⟨f - 1, by omega⟩
    have e1 : (k : Int) < (l.length : Int) := by omega
    have hk := eq_true hc.2
    simp only [upA] at h3
    rw [if_pos hc] at h3
    simp only [e0, e1, hk, Tok.enc, go_sem, wpR_gcall, reduceCtorEq, reduceIte, Nat.reduceEqDiff, Nat.reduceAdd, Nat.reduceSub, Nat.reduceMul, Nat.reduceLT, Nat.reduceLeDiff, Nat.reduceBEq, Int.reduceEq, Int.reduceLT, Int.reduceLE, Int.reduceAdd, Int.reduceSub, Int.reduceNeg, Int.reduceToNat]
    exact ⟨by omega, ⟨k + 1, f⟩, ⟨by dsimp only; omega, by dsimp only; omega, h3⟩, by dsimp only; omega, by dsimp only; omega⟩
  · have h4 : k = trA l := by
      rw [← h3]
      cases f with
      | zero => rfl
      | succ f => simp only [upA]; rw [if_neg hc]
    have hbr := tr_rng l
    subst h4
    by_cases e1 : ((trA l : Nat) : Int) < (l.length : Int)
    · have hk : ((l.getD (trA l) .zero).kind = 1) = False := eq_false (fun hh => hc ⟨by omega, hh⟩)
      simp only [e0, e1, hk, Tok.enc, go_sem, wpR_gcall, reduceCtorEq, reduceIte, Nat.reduceEqDiff, Nat.reduceAdd, Nat.reduceSub, Nat.reduceMul, Nat.reduceLT, Nat.reduceLeDiff, Nat.reduceBEq, Int.reduceEq, Int.reduceLT, Int.reduceLE, Int.reduceAdd, Int.reduceSub, Int.reduceNeg, Int.reduceToNat]
      refine SemC.lp (α := Nat) (fun k => [(0, .slc 3 (l.map Tok.enc)), (1, vi (trA l)), (2, vi k)]) (fun _ => ⟨[], 0⟩)
        (fun k => trA l ≤ k ∧ k ≤ l.length ∧ dnB l (trA l) k = trB l) (fun k => k) l.length ⟨by omega, Nat.le_refl _, rfl⟩ (St.cut ?_ ?_ ?_) fun k hk2 => ?_
      · simp [Agrees, upd_at, ev_cons]
      · simp
      · rfl
      obtain ⟨g1, g2, g3⟩ := hk2
      by_cases hgt : trA l < k
      · obtain ⟨j, rfl⟩ : ∃ j, k = j + 1 := ⟨k - 1, by omega⟩
        have d1 : ((trA l : Nat) : Int) < ((j + 1 : Nat) : Int) := by omega
        have d2 : (((j + 1 : Nat) : Int) - 1).toNat = j := by omega
        have d3 : (0 : Int) ≤ ((j + 1 : Nat) : Int) - 1 := by omega
        have d4 : ((j + 1 : Nat) : Int) - 1 < (l.length : Int) := by omega
        simp only [dnB] at g3
        by_cases hs : (l.getD j .zero).kind = 1
        · have hst := eq_true hs
          rw [if_pos ⟨hgt, hs⟩] at g3
          simp only [d1, d2, d3, d4, hst, Tok.enc, go_sem, wpR_gcall, reduceCtorEq, reduceIte, Nat.reduceEqDiff, Nat.reduceAdd, Nat.reduceSub, Nat.reduceMul, Nat.reduceLT, Nat.reduceLeDiff, Nat.reduceBEq, Int.reduceEq, Int.reduceLT, Int.reduceLE, Int.reduceAdd, Int.reduceSub, Int.reduceNeg, Int.reduceToNat]
          exact ⟨by omega, by omega, j, ⟨by omega, by omega, g3⟩, by omega, by omega⟩
        · have hst := eq_false hs
          rw [if_neg (fun hh => hs hh.2)] at g3
          simp only [d1, d2, d3, d4, hst, trV, ← g3, Tok.enc, go_sem, wpR_gcall, reduceCtorEq, reduceIte, Nat.reduceEqDiff, Nat.reduceAdd, Nat.reduceSub, Nat.reduceMul, Nat.reduceLT, Nat.reduceLeDiff, Nat.reduceBEq, Int.reduceEq, Int.reduceLT, Int.reduceLE, Int.reduceAdd, Int.reduceSub, Int.reduceNeg, Int.reduceToNat]
          omega
      · have d1 : ¬ ((trA l : Nat) : Int) < (k : Int) := by omega
        have g4 : k = trB l := by
          rw [← g3]
          cases k with
          | zero => rfl
          | succ j => simp only [dnB]; rw [if_neg (fun hh => hgt hh.1)]
        simp only [d1, trV, ← g4, Tok.enc, go_sem, wpR_gcall, reduceCtorEq, reduceIte, Nat.reduceEqDiff, Nat.reduceAdd, Nat.reduceSub, Nat.reduceMul, Nat.reduceLT, Nat.reduceLeDiff, Nat.reduceBEq, Int.reduceEq, Int.reduceLT, Int.reduceLE, Int.reduceAdd, Int.reduceSub, Int.reduceNeg, Int.reduceToNat]
    · simp only [e0, e1, Tok.enc, go_sem, wpR_gcall, reduceCtorEq, reduceIte, Nat.reduceEqDiff, Nat.reduceAdd, Nat.reduceSub, Nat.reduceMul, Nat.reduceLT, Nat.reduceLeDiff, Nat.reduceBEq, Int.reduceEq, Int.reduceLT, Int.reduceLE, Int.reduceAdd, Int.reduceSub, Int.reduceNeg, Int.reduceToNat]
      refine SemC.lp (α := Nat) (fun k => [(0, .slc 3 (l.map Tok.enc)), (1, vi (trA l)), (2, vi k)]) (fun _ => ⟨[], 0⟩)
        (fun k => trA l ≤ k ∧ k ≤ l.length ∧ dnB l (trA l) k = trB l) (fun k => k) l.length ⟨by omega, Nat.le_refl _, rfl⟩ (St.cut ?_ ?_ ?_) fun k hk2 => ?_
      · simp [Agrees, upd_at, ev_cons]
      · simp
      · rfl
      obtain ⟨g1, g2, g3⟩ := hk2
      by_cases hgt : trA l < k
      · obtain ⟨j, rfl⟩ : ∃ j, k = j + 1 := ⟨k - 1, by omega⟩
        have d1 : ((trA l : Nat) : Int) < ((j + 1 : Nat) : Int) := by omega
        have d2 : (((j + 1 : Nat) : Int) - 1).toNat = j := by omega
        have d3 : (0 : Int) ≤ ((j + 1 : Nat) : Int) - 1 := by omega
        have d4 : ((j + 1 : Nat) : Int) - 1 < (l.length : Int) := by omega
        simp only [dnB] at g3
        by_cases hs : (l.getD j .zero).kind = 1
        · have hst := eq_true hs
          rw [if_pos ⟨hgt, hs⟩] at g3
          simp only [d1, d2, d3, d4, hst, Tok.enc, go_sem, wpR_gcall, reduceCtorEq, reduceIte, Nat.reduceEqDiff, Nat.reduceAdd, Nat.reduceSub, Nat.reduceMul, Nat.reduceLT, Nat.reduceLeDiff, Nat.reduceBEq, Int.reduceEq, Int.reduceLT, Int.reduceLE, Int.reduceAdd, Int.reduceSub, Int.reduceNeg, Int.reduceToNat]
          exact ⟨by omega, by omega, j, ⟨by omega, by omega, g3⟩, by omega, by omega⟩
        · have hst := eq_false hs
          rw [if_neg (fun hh => hs hh.2)] at g3
          simp only [d1, d2, d3, d4, hst, trV, ← g3, Tok.enc, go_sem, wpR_gcall, reduceCtorEq, reduceIte, Nat.reduceEqDiff, Nat.reduceAdd, Nat.reduceSub, Nat.reduceMul, Nat.reduceLT, Nat.reduceLeDiff, Nat.reduceBEq, Int.reduceEq, Int.reduceLT, Int.reduceLE, Int.reduceAdd, Int.reduceSub, Int.reduceNeg, Int.reduceToNat]
          omega
      · have d1 : ¬ ((trA l : Nat) : Int) < (k : Int) := by omega
        have g4 : k = trB l := by
          rw [← g3]
          cases k with
          | zero => rfl
          | succ j => simp only [dnB]; rw [if_neg (fun hh => hgt hh.1)]
        simp only [d1, trV, ← g4, Tok.enc, go_sem, wpR_gcall, reduceCtorEq, reduceIte, Nat.reduceEqDiff, Nat.reduceAdd, Nat.reduceSub, Nat.reduceMul, Nat.reduceLT, Nat.reduceLeDiff, Nat.reduceBEq, Int.reduceEq, Int.reduceLT, Int.reduceLE, Int.reduceAdd, Int.reduceSub, Int.reduceNeg, Int.reduceToNat]
def sumTrimR : Sum Try.prog := ⟨47, fun args => args = [toks (dToks (args.getD 0 .any)), vi 0, vi (dToks (args.getD 0 .any)).length] ∧ ((dToks (args.getD 0 .any))).length ≤ 1000000, fun args => trV (dToks (args.getD 0 .any)), fun args h => by
  have := trimR_ok (dToks (args.getD 0 .any)) h.2; rwa [← h.1] at this, false⟩
theorem sumTrimR_f : sumTrimR.f = 47 := rfl
theorem sumTrimR_D (args : List V) : sumTrimR.D args = (args = [toks (dToks (args.getD 0 .any)), vi 0, vi (dToks (args.getD 0 .any)).length] ∧ ((dToks (args.getD 0 .any))).length ≤ 1000000) := rfl
theorem sumTrimR_flat : sumTrimR.flat = false := rfl
theorem sumTrimR_r (args : List V) : sumTrimR.r args = trV (dToks (args.getD 0 .any)) := rfl
attribute [go_sem] sumTrimR_f sumTrimR_D sumTrimR_flat sumTrimR_r
end Go.Proofs.Ytlcblcjpebabkaa
