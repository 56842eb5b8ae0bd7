/- Layer 7: lengths. -/
import Derived.Test.YtilinnmancfjgaaGreatDoorV7j
import Derived.Test.YtilinnmancfjgaaGreatDoorGc
namespace Go.Proofs.YtilinnmancfjgaaGreatDoor
open Go.Sx
set_option linter.unusedSimpArgs false
set_option maxHeartbeats 4000000
set_option maxRecDepth 20000

def stp (n : Int) : Int := min (max n (-1099511627776)) 1099511627776
theorem stp_rng (n : Int) : -1099511627776 ≤ stp n ∧ stp n ≤ 1099511627776 := by unfold stp; omega
theorem stop_ok (n : Int) : PCall Tryz.prog 56 [vi n] (vi (stp n)) := by
  refine PCall.of (Orc.nil _) c56_ok (by simp [c56]) fun w0 own0 => ?_
  simp only [c56, stp, go_sem, wpR_gcall, reduceCtorEq, reduceIte, Nat.reduceEqDiff, Nat.reduceAdd, Nat.reduceSub, Nat.reduceMul, Nat.reduceLT, Nat.reduceLeDiff, Nat.reduceBEq, Int.reduceEq, Int.reduceLT, Int.reduceLE, Int.reduceAdd, Int.reduceSub, Int.reduceNeg, Int.reduceToNat]
def sumStop : Sum Tryz.prog := ⟨56, fun args => args = [vi ((args.getD 0 .any).int)], fun args => vi (stp ((args.getD 0 .any).int)), fun args h => by
  have := stop_ok ((args.getD 0 .any).int); rwa [← h] at this, true⟩
theorem sumStop_f : sumStop.f = 56 := rfl
theorem sumStop_D (args : List V) : sumStop.D args = (args = [vi ((args.getD 0 .any).int)]) := rfl
theorem sumStop_flat : sumStop.flat = true := rfl
theorem sumStop_r (args : List V) : sumStop.r args = vi (stp ((args.getD 0 .any).int)) := rfl
attribute [go_sem] sumStop_f sumStop_D sumStop_flat sumStop_r
def unitKeys : List (ByteArray × (Int × Int)) := [(⟨#[112, 120]⟩, (1, 1)), (⟨#[112, 116]⟩, (4, 3)), (⟨#[105, 110]⟩, (96, 1)), (⟨#[99, 109]⟩, (9600, 254)), (⟨#[109, 109]⟩, (960, 254)), (⟨#[112, 99]⟩, (16, 1))]
def lenO (t : Tok) : Option Int := if t.kind = 8 ∧ t.n = 0 then some 0 else if t.kind = 10 then (look unitKeys (lowB t.text)).map fun u => stp ((stp t.n * u.1).tdiv u.2) else none
def uV (u : Int × Int) : V := .agg [vi u.1, vi u.2]
def okU (u : Int × Int) : Prop := (u.1 = 1 ∨ u.1 = 4 ∨ u.1 = 96 ∨ u.1 = 9600 ∨ u.1 = 960 ∨ u.1 = 16) ∧ (u.2 = 1 ∨ u.2 = 3 ∨ u.2 = 254)
theorem look_mem {α : Type} {s : ByteArray} {u : α} : ∀ {L : List (ByteArray × α)}, look L s = some u → ∃ p ∈ L, p.2 = u
  | [], h => by cases h
  | p :: r, h => by
    simp only [look] at h
    split at h
    · exact ⟨p, by simp, by simpa using h⟩
    · obtain ⟨q, hq, e⟩ := look_mem h; exact ⟨q, by simp [hq], e⟩
theorem unit_ok {s : ByteArray} {u : Int × Int} (h : look unitKeys s = some u) : okU u := by
  obtain ⟨p, hp, rfl⟩ := look_mem h
  have : ∀ p ∈ unitKeys, okU p.2 := by
    intro p hp
    unfold unitKeys at hp
    simp only [List.mem_cons, List.not_mem_nil, or_false] at hp
    rcases hp with rfl | rfl | rfl | rfl | rfl | rfl <;> simp [okU]
  exact this p hp
theorem mul_rng {n : Int} {u : Int × Int} (hu : okU u) : (-9223372036854775808 ≤ stp n * u.1 ∧ stp n * u.1 ≤ 9223372036854775807) ∧ (-9223372036854775808 ≤ (stp n * u.1).tdiv u.2 ∧ (stp n * u.1).tdiv u.2 ≤ 9223372036854775807) ∧ u.2 ≠ 0 := by
  have h := stp_rng n
  generalize stp n = m at *
  obtain ⟨a, b⟩ := u
  obtain ⟨h1, h2⟩ := hu
  simp only at h1 h2 ⊢
  have hm : -10555311626649600 ≤ m * a ∧ m * a ≤ 10555311626649600 := by
    rcases h1 with rfl | rfl | rfl | rfl | rfl | rfl <;> omega
  generalize m * a = x at *
  have hd : ∀ c : Int, 0 < c → -10555311626649600 ≤ x.tdiv c ∧ x.tdiv c ≤ 10555311626649600 := by
    intro c hc
    rcases Int.lt_or_le x 0 with h0 | h0
    · have e : x.tdiv c = -((-x).tdiv c) := by rw [Int.neg_tdiv]; omega
      rw [e, Int.tdiv_eq_ediv_of_nonneg (by omega)]
      have a1 := Int.ediv_le_self (a := -x) c (by omega)
      have a2 := Int.ediv_nonneg (a := -x) (b := c) (by omega) (by omega)
      omega
    · rw [Int.tdiv_eq_ediv_of_nonneg h0]
      have a1 := Int.ediv_le_self (a := x) c (by omega)
      have a2 := Int.ediv_nonneg (a := x) (b := c) (by omega) (by omega)
      omega
  have := hd b (by rcases h2 with rfl | rfl | rfl <;> omega)
  refine ⟨by omega, by omega, by rcases h2 with rfl | rfl | rfl <;> omega⟩
theorem length_ok (t : Tok) (h : t.text.size ≤ 1000000) : PCall Tryz.prog 34 [.agg t.enc] (cntR (lenO t)) := by
  refine PCall.of (Orc.cons sumLow (Orc.cons sumStop (Orc.nil _))) c34_ok (by simp [c34]) fun w0 own0 => ?_
  unfold lenO
  have hm := mget_look uV (lowB t.text) unitKeys
  have hu := @unit_ok (lowB t.text)
  generalize look unitKeys (lowB t.text) = o at *
  simp only [unitKeys, uV, List.map_cons, List.map_nil] at hm
  by_cases c8 : t.kind = 8 ∧ t.n = 0
  · rw [if_pos c8]
    simp only [c34, Tok.enc, c8.1, c8.2, cntR, go_sem, wpR_gcall, reduceCtorEq, reduceIte, Nat.reduceEqDiff, Nat.reduceAdd, Nat.reduceSub, Nat.reduceMul, Nat.reduceLT, Nat.reduceLeDiff, Nat.reduceBEq, Int.reduceEq, Int.reduceLT, Int.reduceLE, Int.reduceAdd, Int.reduceSub, Int.reduceNeg, Int.reduceToNat]
  rw [if_neg c8]
  have c8' : t.kind = 8 → ¬ t.n = 0 := fun a b => c8 ⟨a, b⟩
  by_cases c10 : t.kind = 10
  · rw [if_pos c10]
    have c88 : ¬ ((10 : Int) = 8) := by omega
    cases o with
    | none =>
      simp only [Option.map_none] at hm ⊢
      simp only [c34, Tok.enc, c10, c88, h, hm, cntR, go_sem, wpR_gcall, reduceCtorEq, reduceIte, Nat.reduceEqDiff, Nat.reduceAdd, Nat.reduceSub, Nat.reduceMul, Nat.reduceLT, Nat.reduceLeDiff, Nat.reduceBEq, Int.reduceEq, Int.reduceLT, Int.reduceLE, Int.reduceAdd, Int.reduceSub, Int.reduceNeg, Int.reduceToNat]
    | some u =>
      obtain ⟨r1, r2, r3⟩ := mul_rng (n := t.n) (hu rfl)
      obtain ⟨a, b⟩ := u
      simp only [Option.map_some, uV] at hm ⊢
      simp only [c34, Tok.enc, c10, c88, h, hm, cntR, go_sem, wpR_gcall, reduceCtorEq, reduceIte, Nat.reduceEqDiff, Nat.reduceAdd, Nat.reduceSub, Nat.reduceMul, Nat.reduceLT, Nat.reduceLeDiff, Nat.reduceBEq, Int.reduceEq, Int.reduceLT, Int.reduceLE, Int.reduceAdd, Int.reduceSub, Int.reduceNeg, Int.reduceToNat]
      exact ⟨r1, r2, r3⟩
  · rw [if_neg c10]
    cases o with
    | none =>
      simp only [Option.map_none] at hm
      simp only [c34, Tok.enc, c10, h, hm, cntR, go_sem, wpR_gcall, reduceCtorEq, reduceIte, Nat.reduceEqDiff, Nat.reduceAdd, Nat.reduceSub, Nat.reduceMul, Nat.reduceLT, Nat.reduceLeDiff, Nat.reduceBEq, Int.reduceEq, Int.reduceLT, Int.reduceLE, Int.reduceAdd, Int.reduceSub, Int.reduceNeg, Int.reduceToNat]
      by_cases k8 : t.kind = 8
      · simp [k8, c8' k8]
      · simp [k8]
    | some u =>
      obtain ⟨a, b⟩ := u
      simp only [Option.map_some, uV] at hm
      simp only [c34, Tok.enc, c10, h, hm, cntR, go_sem, wpR_gcall, reduceCtorEq, reduceIte, Nat.reduceEqDiff, Nat.reduceAdd, Nat.reduceSub, Nat.reduceMul, Nat.reduceLT, Nat.reduceLeDiff, Nat.reduceBEq, Int.reduceEq, Int.reduceLT, Int.reduceLE, Int.reduceAdd, Int.reduceSub, Int.reduceNeg, Int.reduceToNat]
      by_cases k8 : t.kind = 8
      · simp [k8, c8' k8]
      · simp [k8]
theorem lengthR_ok (t : Tok) (h : t.text.size ≤ 1000000) : PCall Tryz.prog 16 [.agg t.enc] (cntR (lenO t)) := by
  obtain ⟨S, s1, s2, s3, s4⟩ := at_any (unitKeys.map (·.1)) (lowB t.text) (by decide)
  refine PCall.of (Orc.cons S (Orc.cons sumLowR (Orc.nil _))) c16_ok (by simp [c16]) fun w0 own0 => ?_
  unfold lenO
  have hx := look_ix (lowB t.text) unitKeys
  have hu := @unit_ok (lowB t.text)
  have hst : ∀ n : Int, max (min n 1099511627776) (-1099511627776) = stp n := fun n => by unfold stp; omega
  generalize look unitKeys (lowB t.text) = o at *
  generalize ixS (unitKeys.map (·.1)) (lowB t.text) = r at *
  simp only [unitKeys, List.map_cons, List.map_nil] at s3 s4
  by_cases c8 : t.kind = 8 ∧ t.n = 0
  · rw [if_pos c8]
    simp only [c16, Tok.enc, c8.1, c8.2, cntR, go_sem, wpR_gcall, reduceCtorEq, reduceIte, Nat.reduceEqDiff, Nat.reduceAdd, Nat.reduceSub, Nat.reduceMul, Nat.reduceLT, Nat.reduceLeDiff, Nat.reduceBEq, Int.reduceEq, Int.reduceLT, Int.reduceLE, Int.reduceAdd, Int.reduceSub, Int.reduceNeg, Int.reduceToNat]
  rw [if_neg c8]
  have c8' : t.kind = 8 → ¬ t.n = 0 := fun a b => c8 ⟨a, b⟩
  by_cases c10 : t.kind = 10
  · rw [if_pos c10]
    have c88 : ¬ ((10 : Int) = 8) := by omega
    rcases hx with ⟨hr, ho⟩ | ⟨m, hm, hr, ho⟩
    · subst hr; subst ho
      simp only [Option.map_none]
      simp only [c16, Tok.enc, c10, c88, h, cntR, s1, s2, s3, s4, go_sem, wpR_gcall, reduceCtorEq, reduceIte, Nat.reduceEqDiff, Nat.reduceAdd, Nat.reduceSub, Nat.reduceMul, Nat.reduceLT, Nat.reduceLeDiff, Nat.reduceBEq, Int.reduceEq, Int.reduceLT, Int.reduceLE, Int.reduceAdd, Int.reduceSub, Int.reduceNeg, Int.reduceToNat]
    · subst hr; subst ho
      obtain ⟨r1, r2, r3⟩ := mul_rng (n := t.n) (hu rfl)
      simp only [Option.map_some]
      have hm6 : m < 6 := hm
      rcases (show m = 0 ∨ m = 1 ∨ m = 2 ∨ m = 3 ∨ m = 4 ∨ m = 5 by omega) with rfl | rfl | rfl | rfl | rfl | rfl
      all_goals
        simp only [unitKeys, List.getD_cons_zero, List.getD_cons_succ] at r1 r2 r3
        simp only [c16, Tok.enc, c10, c88, h, cntR, s1, s2, s3, s4, hst, unitKeys, go_sem, wpR_gcall, reduceCtorEq, reduceIte, Nat.reduceEqDiff, Nat.reduceAdd, Nat.reduceSub, Nat.reduceMul, Nat.reduceLT, Nat.reduceLeDiff, Nat.reduceBEq, Int.reduceEq, Int.reduceLT, Int.reduceLE, Int.reduceAdd, Int.reduceSub, Int.reduceNeg, Int.reduceToNat]
        try simp only [Int.mul_one, Int.tdiv_one] at *
        omega
  · rw [if_neg c10]
    simp only [c16, Tok.enc, c10, h, cntR, s1, s2, s3, s4, go_sem, wpR_gcall, reduceCtorEq, reduceIte, Nat.reduceEqDiff, Nat.reduceAdd, Nat.reduceSub, Nat.reduceMul, Nat.reduceLT, Nat.reduceLeDiff, Nat.reduceBEq, Int.reduceEq, Int.reduceLT, Int.reduceLE, Int.reduceAdd, Int.reduceSub, Int.reduceNeg, Int.reduceToNat]
    by_cases k8 : t.kind = 8
    · simp [k8, c8' k8]
    · simp [k8]
def sumLen : Sum Tryz.prog := ⟨34, fun args => args = [.agg (Tok.enc (dTok (args.getD 0 .any)))] ∧ ((dTok (args.getD 0 .any))).text.size ≤ 1000000, fun args => cntR (lenO (dTok (args.getD 0 .any))), fun args h => by
  have := length_ok (dTok (args.getD 0 .any)) h.2; rwa [← h.1] at this, false⟩
theorem sumLen_f : sumLen.f = 34 := rfl
theorem sumLen_D (args : List V) : sumLen.D args = (args = [.agg (Tok.enc (dTok (args.getD 0 .any)))] ∧ ((dTok (args.getD 0 .any))).text.size ≤ 1000000) := rfl
theorem sumLen_flat : sumLen.flat = false := rfl
theorem sumLen_r (args : List V) : sumLen.r args = cntR (lenO (dTok (args.getD 0 .any))) := rfl
attribute [go_sem] sumLen_f sumLen_D sumLen_flat sumLen_r
def sumLenR : Sum Tryz.prog := ⟨16, fun args => args = [.agg (Tok.enc (dTok (args.getD 0 .any)))] ∧ ((dTok (args.getD 0 .any))).text.size ≤ 1000000, fun args => cntR (lenO (dTok (args.getD 0 .any))), fun args h => by
  have := lengthR_ok (dTok (args.getD 0 .any)) h.2; rwa [← h.1] at this, false⟩
theorem sumLenR_f : sumLenR.f = 16 := rfl
theorem sumLenR_D (args : List V) : sumLenR.D args = (args = [.agg (Tok.enc (dTok (args.getD 0 .any)))] ∧ ((dTok (args.getD 0 .any))).text.size ≤ 1000000) := rfl
theorem sumLenR_flat : sumLenR.flat = false := rfl
theorem sumLenR_r (args : List V) : sumLenR.r args = cntR (lenO (dTok (args.getD 0 .any))) := rfl
attribute [go_sem] sumLenR_f sumLenR_D sumLenR_flat sumLenR_r
end Go.Proofs.YtilinnmancfjgaaGreatDoor
