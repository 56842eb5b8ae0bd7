/- Layer 5: the ends of brackets, by definition. -/
import Derived.Test.YtlcblcjpebabkaaL5b
namespace Go.Proofs.Ytlcblcjpebabkaa
open Go.Sx
set_option linter.unusedSimpArgs false
set_option maxHeartbeats 4000000

/-- At j the k-th bracket is no longer open. -/
def condC (l : List Tok) (k j : Nat) : Prop := (opn l (j + 1)).length < (opn l (k + 1)).length ∨ ¬ (opn l (j + 1)).getD ((opn l (k + 1)).length - 1) 0 = k
instance (l : List Tok) (k j : Nat) : Decidable (condC l k j) := by unfold condC; infer_instance
def fe (l : List Tok) (k : Nat) : Nat → Nat → Int
  | 0, _ => l.length
  | f + 1, j => if condC l k j then j else fe l k f (j + 1)
def end1 (l : List Tok) (k : Nat) : Int := if closing (l.getD k .zero) = ⟨#[]⟩ then -1 else fe l k (l.length - (k + 1)) (k + 1)
def endsTo (l : List Tok) (m : Nat) : List Int := (List.range m).map (end1 l)
theorem endsTo_succ (l : List Tok) (m : Nat) : endsTo l (m + 1) = endsTo l m ++ [end1 l m] := by simp [endsTo, List.range_succ]
theorem endsTo_len (l : List Tok) (m : Nat) : (endsTo l m).length = m := by simp [endsTo]
def deep (l : List Tok) : Bool := decide (∃ i, i < l.length ∧ 64 < (opn l (i + 1)).length)
def endsR (l : List Tok) : V := bif deep l then .tup [vnil, vi 3] else .tup [ints (endsTo l l.length), vi 0]

def sumOpen : Sum Try.prog := ⟨44, fun args => args = [toks (dToks (args.getD 0 .any)), vi (args.getD 1 .any).int] ∧ 0 ≤ (args.getD 1 .any).int ∧ (args.getD 1 .any).int ≤ (dToks (args.getD 0 .any)).length ∧ (dToks (args.getD 0 .any)).length ≤ 1000000,
  fun args => ints (opn (dToks (args.getD 0 .any)) (args.getD 1 .any).int.toNat), fun args ⟨h, h0, h1, h2⟩ => by
    have := open_ok (dToks (args.getD 0 .any)) (args.getD 1 .any).int.toNat (by omega) h2
    rw [Int.toNat_of_nonneg h0, ← h] at this; exact this, false⟩
theorem sumOpen_f : sumOpen.f = 44 := rfl
theorem sumOpen_D (args : List V) : sumOpen.D args = (args = [toks (dToks (args.getD 0 .any)), vi (args.getD 1 .any).int] ∧ 0 ≤ (args.getD 1 .any).int ∧ (args.getD 1 .any).int ≤ (dToks (args.getD 0 .any)).length ∧ (dToks (args.getD 0 .any)).length ≤ 1000000) := rfl
theorem sumOpen_flat : sumOpen.flat = false := rfl
theorem sumOpen_r (args : List V) : sumOpen.r args = ints (opn (dToks (args.getD 0 .any)) (args.getD 1 .any).int.toNat) := rfl
theorem sumClose_f : sumClose.f = 45 := rfl
theorem sumClose_D (args : List V) : sumClose.D args = (args = [.agg (dTok (args.getD 0 .any)).enc]) := rfl
theorem sumClose_flat : sumClose.flat = true := rfl
theorem sumClose_r (args : List V) : sumClose.r args = vs (closing (dTok (args.getD 0 .any))) := rfl
theorem fe_step (l : List Tok) (k j : Nat) (h : j < l.length) : fe l k (l.length - j) j = if condC l k j then (j : Int) else fe l k (l.length - (j + 1)) (j + 1) := by
  have : l.length - j = (l.length - (j + 1)) + 1 := by omega
  rw [this]
  rfl
theorem toNat_succ (k : Nat) : ((k : Int) + 1).toNat = k + 1 := by omega

structure KVC where
  k : Nat
  ver : Nat
  clk : Nat
theorem refEnds_ok (l : List Tok) (hl : l.length ≤ 1000000) : PCall Try.prog 33 [toks l] (endsR l) := by
  refine PCall.of (Orc.cons sumOpen (Orc.cons sumClose (Orc.nil _))) c33_ok (by simp [c33]) fun w0 own0 => ?_
  simp only [c33, ints, toks, go_sem, wpR_gcall, reduceCtorEq, reduceIte, Nat.reduceEqDiff, Nat.reduceAdd, Nat.reduceSub, Nat.reduceMul, Nat.reduceLT, Nat.reduceLeDiff, Nat.reduceBEq, Int.reduceEq, Int.reduceLT, Int.reduceLE, Int.reduceAdd, Int.reduceSub, Int.reduceNeg, Int.reduceToNat]
  refine SemC.lp (α := KVC) (fun a => [(0, .slc 3 (l.map Tok.enc)), (4, .ref 0 a.ver 0 a.k), (5, vi a.k)])
    (fun a => ⟨[⟨a.ver, 1, (endsTo l a.k).map fun n => [vi n], false, [vi 0]⟩], a.clk⟩) (fun a => a.k ≤ l.length ∧ ∀ i, i < a.k → (opn l (i + 1)).length ≤ 64) (fun a => l.length - a.k) ⟨0, 0, 1⟩
    (by simp) (St.nil 4 1 [vi 0] (by simp [upd_at]) (St.mk (by simp [Agrees, upd_at, initE_at]))) fun a ha => ?_
  obtain ⟨k, ver, clk⟩ := a
  simp only [Tok.enc, sumClose_f, sumClose_D, sumClose_flat, sumClose_r, sumOpen_f, sumOpen_D, sumOpen_flat, sumOpen_r, toks, ints, toNat_succ, go_sem, wpR_gcall, reduceCtorEq, reduceIte, Nat.reduceEqDiff, Nat.reduceAdd, Nat.reduceSub, Nat.reduceMul, Nat.reduceLT, Nat.reduceLeDiff, Nat.reduceBEq, Int.reduceEq, Int.reduceLT, Int.reduceLE, Int.reduceAdd, Int.reduceSub, Int.reduceNeg, Int.reduceToNat]
  simp only at ha
  refine ⟨fun hk => ⟨by omega, by omega, fun h64 => ?_, fun h64 => ⟨by omega, fun hc => ⟨by omega, ?_⟩, fun hc => ?_⟩⟩, fun hk => ?_⟩
  · have : deep l = true := by simp only [deep, decide_eq_true_eq]; exact ⟨k, by omega, by omega⟩
    simp only [endsR, this]; rfl
  · refine SemC.lp (α := Nat) (fun j => [(0, .slc 3 (l.map Tok.enc)), (4, .ref 0 ver 0 k), (5, vi k), (6, .slc 1 ((opn l (k + 1)).map fun n => [vi n])), (7, vi (fe l k (l.length - (j + 1)) (j + 1))), (8, vi j)])
      (fun _ => ⟨[⟨ver, 1, (endsTo l k).map fun n => [vi n], false, [vi 0]⟩], clk⟩) (fun j => k ≤ j ∧ j < l.length) (fun j => j) (l.length - 1) (by omega) (St.mk ?_) fun j hj => ?_
    · simp only [go_sem, wpR_gcall, reduceCtorEq, reduceIte, Nat.reduceEqDiff, Nat.reduceAdd, Nat.reduceSub, Nat.reduceMul, Nat.reduceLT, Nat.reduceLeDiff, Nat.reduceBEq, Int.reduceEq, Int.reduceLT, Int.reduceLE, Int.reduceAdd, Int.reduceSub, Int.reduceNeg, Int.reduceToNat]
      have : l.length - (l.length - 1 + 1) = 0 := by omega
      rw [this]
      exact ⟨rfl, by omega⟩
    · simp only [Tok.enc, sumClose_f, sumClose_D, sumClose_flat, sumClose_r, sumOpen_f, sumOpen_D, sumOpen_flat, sumOpen_r, toks, ints, toNat_succ, go_sem, wpR_gcall, reduceCtorEq, reduceIte, Nat.reduceEqDiff, Nat.reduceAdd, Nat.reduceSub, Nat.reduceMul, Nat.reduceLT, Nat.reduceLeDiff, Nat.reduceBEq, Int.reduceEq, Int.reduceLT, Int.reduceLE, Int.reduceAdd, Int.reduceSub, Int.reduceNeg, Int.reduceToNat]
      have hpos : 0 < (opn l (k + 1)).length := by
        have : opn l (k + 1) = opn l k ++ [(k : Int)] := by show stepO l (opn l k) k = _; unfold stepO; rw [if_pos hc]
        rw [this]; simp
      have hN : ((((opn l (k + 1)).length : Nat) : Int) - 1).toNat = (opn l (k + 1)).length - 1 := by omega
      rw [hN]
      refine ⟨fun hkj => ⟨by omega, by omega, by omega, by omega, by omega, fun hC => ⟨by omega, j - 1, by omega, by omega, ?_, by omega⟩, fun hC => ⟨by omega, j - 1, by omega, by omega, ?_, by omega⟩⟩, fun hkj => ⟨?_, by omega, ⟨k + 1, clk + 1, clk + 1 + 1⟩, ⟨by dsimp only; omega, fun i hi => ?_⟩, by dsimp only; omega, ⟨⟨rfl, rfl⟩, by dsimp only; omega⟩, ⟨rfl, ?_⟩, rfl⟩⟩
      · have e : j - 1 + 1 = j := by omega
        rw [e, fe_step l k j hj.2, if_pos]
        unfold condC
        rcases hC with hC | hC
        · left; omega
        · right; exact hC
      · have e : j - 1 + 1 = j := by omega
        rw [e, fe_step l k j hj.2, if_neg]
        unfold condC
        rintro (h | h)
        · omega
        · exact h hC.2
      · have := endsTo_len l k; omega
      · by_cases h : i < k
        · exact ha.2 i h
        · have : i = k := by have : i < k + 1 := hi; omega
          subst this; omega
      · have e : j = k := by omega
        subst e
        rw [List.take_of_length_le (by rw [endsTo_len]; exact Nat.le_refl _)]
        simp only [endsTo_succ, end1, if_neg hc, List.map_append, List.map_cons, List.map_nil]
  · refine ⟨?_, by omega, ⟨k + 1, clk + 1, clk + 1 + 1⟩, ⟨by dsimp only; omega, fun i hi => ?_⟩, by dsimp only; omega, ⟨⟨rfl, rfl⟩, by dsimp only; omega⟩, ⟨rfl, ?_⟩, rfl⟩
    · have := endsTo_len l k; omega
    · by_cases h : i < k
      · exact ha.2 i h
      · have : i = k := by have : i < k + 1 := hi; omega
        subst this; omega
    · rw [List.take_of_length_le (by rw [endsTo_len]; exact Nat.le_refl _)]
      simp only [endsTo_succ, end1, if_pos hc, List.map_append, List.map_cons, List.map_nil]
  · have e : k = l.length := by omega
    subst e
    have hd : deep l = false := by
      simp only [deep, decide_eq_false_iff_not]
      rintro ⟨i, h1, h2⟩
      have := ha.2 i h1
      omega
    rw [endsTo_len, if_pos (Nat.le_refl _), List.take_of_length_le (by rw [endsTo_len]; exact Nat.le_refl _)]
    simp only [endsR, hd, Option.map_some]
    rfl
end Go.Proofs.Ytlcblcjpebabkaa
