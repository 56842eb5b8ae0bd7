/- Layer 10: which weight is above which. -/
import Derived.Test.YtjcmoedalneldaaGreatCd
import Derived.Test.YtjcmoedalneldaaGreatE4
import Derived.Test.YtjcmoedalneldaaGreatE4
namespace Go.Proofs.YtjcmoedalneldaaGreat
open Go.Sx
set_option linter.unusedSimpArgs false
set_option maxHeartbeats 4000000
set_option maxRecDepth 20000

theorem nan_ok (a : Int) : PCall Tryz.prog 113 [vi a] (vb false) := by
  refine PCall.of (Orc.nil _) c113_ok (by simp [c113]) fun w0 own0 => ?_
  simp only [c113, go_sem, wpR_gcall, reduceCtorEq, reduceIte, Nat.reduceEqDiff, Nat.reduceAdd, Nat.reduceSub, Nat.reduceMul, Nat.reduceLT, Nat.reduceLeDiff, Nat.reduceBEq, Int.reduceEq, Int.reduceLT, Int.reduceLE, Int.reduceAdd, Int.reduceSub, Int.reduceNeg, Int.reduceToNat]
def sumNan : Sum Tryz.prog := ⟨113, fun args => args = [vi ((args.getD 0 .any).int)], fun args => vb false, fun args h => by
  have := nan_ok ((args.getD 0 .any).int); rwa [← h] at this, true⟩
theorem sumNan_f : sumNan.f = 113 := rfl
theorem sumNan_D (args : List V) : sumNan.D args = (args = [vi ((args.getD 0 .any).int)]) := rfl
theorem sumNan_flat : sumNan.flat = true := rfl
theorem sumNan_r (args : List V) : sumNan.r args = vb false := rfl
attribute [go_sem] sumNan_f sumNan_D sumNan_flat sumNan_r
def cmpI (a b : Int) : Int := if a < b then -1 else if b < a then 1 else 0
theorem cmpI_ok (a b : Int) : PCall Tryz.prog 89 [vi a, vi b] (vi (cmpI a b)) := by
  refine PCall.of (Orc.cons sumNan (Orc.nil _)) c89_ok (by simp [c89]) fun w0 own0 => ?_
  unfold cmpI
  by_cases h1 : a < b
  · simp only [c89, h1, go_sem, wpR_gcall, reduceCtorEq, reduceIte, Nat.reduceEqDiff, Nat.reduceAdd, Nat.reduceSub, Nat.reduceMul, Nat.reduceLT, Nat.reduceLeDiff, Nat.reduceBEq, Int.reduceEq, Int.reduceLT, Int.reduceLE, Int.reduceAdd, Int.reduceSub, Int.reduceNeg, Int.reduceToNat]
  · by_cases h2 : b < a
    · simp only [c89, h1, h2, go_sem, wpR_gcall, reduceCtorEq, reduceIte, Nat.reduceEqDiff, Nat.reduceAdd, Nat.reduceSub, Nat.reduceMul, Nat.reduceLT, Nat.reduceLeDiff, Nat.reduceBEq, Int.reduceEq, Int.reduceLT, Int.reduceLE, Int.reduceAdd, Int.reduceSub, Int.reduceNeg, Int.reduceToNat]
    · simp only [c89, h1, h2, go_sem, wpR_gcall, reduceCtorEq, reduceIte, Nat.reduceEqDiff, Nat.reduceAdd, Nat.reduceSub, Nat.reduceMul, Nat.reduceLT, Nat.reduceLeDiff, Nat.reduceBEq, Int.reduceEq, Int.reduceLT, Int.reduceLE, Int.reduceAdd, Int.reduceSub, Int.reduceNeg, Int.reduceToNat]
def sumCmpI : Sum Tryz.prog := ⟨89, fun args => args = [vi ((args.getD 0 .any).int), vi ((args.getD 1 .any).int)], fun args => vi (cmpI ((args.getD 0 .any).int) ((args.getD 1 .any).int)), fun args h => by
  have := cmpI_ok ((args.getD 0 .any).int) ((args.getD 1 .any).int); rwa [← h] at this, true⟩
theorem sumCmpI_f : sumCmpI.f = 89 := rfl
theorem sumCmpI_D (args : List V) : sumCmpI.D args = (args = [vi ((args.getD 0 .any).int), vi ((args.getD 1 .any).int)]) := rfl
theorem sumCmpI_flat : sumCmpI.flat = true := rfl
theorem sumCmpI_r (args : List V) : sumCmpI.r args = vi (cmpI ((args.getD 0 .any).int) ((args.getD 1 .any).int)) := rfl
attribute [go_sem] sumCmpI_f sumCmpI_D sumCmpI_flat sumCmpI_r
def cmpL : List Int → List Int → Int
  | [], [] => 0
  | [], _ :: _ => -1
  | _ :: _, [] => 1
  | x :: a, y :: b => if cmpI x y = 0 then cmpL a b else cmpI x y
theorem cmpL_cons (x y : Int) (a b : List Int) : cmpL (x :: a) (y :: b) = if cmpI x y = 0 then cmpL a b else cmpI x y := rfl
theorem drop_cons10 (l : List Int) (n : Nat) (h : n < l.length) : l.drop n = l.getD n 0 :: l.drop (n + 1) := by
  rw [List.drop_eq_getElem_cons h, List.getD_eq_getElem?_getD, List.getElem?_eq_getElem h]; rfl
theorem cmpL_ok (a b : List Int) (ha : a.length ≤ 1000000) (hb : b.length ≤ 1000000) : PCall Tryz.prog 55 [ints a, ints b] (vi (cmpL a b)) := by
  refine PCall.of (Orc.cons sumCmpI (Orc.nil _)) c55_ok (by simp [c55]) fun w0 own0 => ?_
  simp only [c55, ints, go_sem, wpR_gcall, reduceCtorEq, reduceIte, Nat.reduceEqDiff, Nat.reduceAdd, Nat.reduceSub, Nat.reduceMul, Nat.reduceLT, Nat.reduceLeDiff, Nat.reduceBEq, Int.reduceEq, Int.reduceLT, Int.reduceLE, Int.reduceAdd, Int.reduceSub, Int.reduceNeg, Int.reduceToNat]
  refine SemC.lp (α := Nat) (fun k => [(0, .slc 1 (a.map fun n => [vi n])), (1, .slc 1 (b.map fun n => [vi n])), (9, .slc 1 (a.map fun n => [vi n])), (10, vi a.length), (11, vi k)]) (fun _ => ⟨[], 0⟩)
    (fun k => k ≤ a.length ∧ k ≤ b.length ∧ cmpL a b = cmpL (a.drop k) (b.drop k)) (fun k => a.length - k) 0 ⟨Nat.zero_le _, Nat.zero_le _, rfl⟩ (St.mk (by simp [Agrees, upd_at, initE_at])) fun k hk => ?_
  obtain ⟨h1, h2, h3⟩ := hk
  by_cases hkl : k = a.length
  · subst hkl
    rw [List.drop_length] at h3
    by_cases hb2 : a.length < b.length
    · rw [drop_cons10 b _ hb2] at h3
      have e1 : (a.length : Int) < (b.length : Int) := by omega
      simp only [Int.lt_irrefl, e1, h3, cmpL, go_sem, wpR_gcall, reduceCtorEq, reduceIte, Nat.reduceEqDiff, Nat.reduceAdd, Nat.reduceSub, Nat.reduceMul, Nat.reduceLT, Nat.reduceLeDiff, Nat.reduceBEq, Int.reduceEq, Int.reduceLT, Int.reduceLE, Int.reduceAdd, Int.reduceSub, Int.reduceNeg, Int.reduceToNat]
    · have e0 : a.length = b.length := by omega
      rw [List.drop_eq_nil_of_le (by omega)] at h3
      have e1 : ¬ (a.length : Int) < (b.length : Int) := by omega
      simp only [Int.lt_irrefl, e1, h3, cmpL, go_sem, wpR_gcall, reduceCtorEq, reduceIte, Nat.reduceEqDiff, Nat.reduceAdd, Nat.reduceSub, Nat.reduceMul, Nat.reduceLT, Nat.reduceLeDiff, Nat.reduceBEq, Int.reduceEq, Int.reduceLT, Int.reduceLE, Int.reduceAdd, Int.reduceSub, Int.reduceNeg, Int.reduceToNat]
  · have e1 : (k : Int) < (a.length : Int) := by omega
    have e0 : (0 : Int) ≤ (k : Int) := by omega
    rw [drop_cons10 a k (by omega)] at h3
    by_cases hb2 : k < b.length
    · rw [drop_cons10 b k hb2] at h3
      have e2 : ¬ (b.length : Int) ≤ (k : Int) := by omega
      have e3 : (k : Int) < (b.length : Int) := by omega
      rw [cmpL_cons] at h3
      by_cases hc : cmpI (a.getD k 0) (b.getD k 0) = 0
      · rw [if_pos hc] at h3
        simp only [e0, e1, e2, e3, hc, getD_ints, go_sem, wpR_gcall, reduceCtorEq, reduceIte, Nat.reduceEqDiff, Nat.reduceAdd, Nat.reduceSub, Nat.reduceMul, Nat.reduceLT, Nat.reduceLeDiff, Nat.reduceBEq, Int.reduceEq, Int.reduceLT, Int.reduceLE, Int.reduceAdd, Int.reduceSub, Int.reduceNeg, Int.reduceToNat]
        exact ⟨by omega, k + 1, ⟨by omega, by omega, h3⟩, by omega, by omega⟩
      · rw [if_neg hc] at h3
        simp only [e0, e1, e2, e3, hc, h3, getD_ints, go_sem, wpR_gcall, reduceCtorEq, reduceIte, Nat.reduceEqDiff, Nat.reduceAdd, Nat.reduceSub, Nat.reduceMul, Nat.reduceLT, Nat.reduceLeDiff, Nat.reduceBEq, Int.reduceEq, Int.reduceLT, Int.reduceLE, Int.reduceAdd, Int.reduceSub, Int.reduceNeg, Int.reduceToNat]
    · rw [List.drop_eq_nil_of_le (show b.length ≤ k by omega)] at h3
      have e2 : (b.length : Int) ≤ (k : Int) := by omega
      simp only [e0, e1, e2, h3, cmpL, getD_ints, go_sem, wpR_gcall, reduceCtorEq, reduceIte, Nat.reduceEqDiff, Nat.reduceAdd, Nat.reduceSub, Nat.reduceMul, Nat.reduceLT, Nat.reduceLeDiff, Nat.reduceBEq, Int.reduceEq, Int.reduceLT, Int.reduceLE, Int.reduceAdd, Int.reduceSub, Int.reduceNeg, Int.reduceToNat]
def sumCmpL : Sum Tryz.prog := ⟨55, fun args => args = [ints (dInts (args.getD 0 .any)), ints (dInts (args.getD 1 .any))] ∧ ((dInts (args.getD 0 .any))).length ≤ 1000000 ∧ ((dInts (args.getD 1 .any))).length ≤ 1000000, fun args => vi (cmpL (dInts (args.getD 0 .any)) (dInts (args.getD 1 .any))), fun args h => by
  have := cmpL_ok (dInts (args.getD 0 .any)) (dInts (args.getD 1 .any)) h.2.1 h.2.2; rwa [← h.1] at this, true⟩
theorem sumCmpL_f : sumCmpL.f = 55 := rfl
theorem sumCmpL_D (args : List V) : sumCmpL.D args = (args = [ints (dInts (args.getD 0 .any)), ints (dInts (args.getD 1 .any))] ∧ ((dInts (args.getD 0 .any))).length ≤ 1000000 ∧ ((dInts (args.getD 1 .any))).length ≤ 1000000) := rfl
theorem sumCmpL_flat : sumCmpL.flat = true := rfl
theorem sumCmpL_r (args : List V) : sumCmpL.r args = vi (cmpL (dInts (args.getD 0 .any)) (dInts (args.getD 1 .any))) := rfl
attribute [go_sem] sumCmpL_f sumCmpL_D sumCmpL_flat sumCmpL_r
structure W3 where
  a : Int
  b : Int
  c : Int
def W3.enc (w : W3) : List V := [vi w.a, vi w.b, vi w.c]
def abv (x y : W3) : Bool := decide (0 < cmpL [x.a, x.b, x.c] [y.a, y.b, y.c])
theorem dInts3 (a b c : Int) : dInts (.slc 1 [[.c (.int .i64 a)], [.c (.int .i64 b)], [.c (.int .i64 c)]]) = [a, b, c] := dInts_map 1 [a, b, c]
theorem above_ok (x y : W3) : PCall Tryz.prog 28 [.agg x.enc, .agg y.enc] (vb (abv x y)) := by
  refine PCall.of (Orc.cons sumCmpL (Orc.nil _)) c28_ok (by simp [c28]) fun w0 own0 => ?_
  simp only [c28, W3.enc, abv, ints, dInts3, go_sem, wpR_gcall, reduceCtorEq, reduceIte, Nat.reduceEqDiff, Nat.reduceAdd, Nat.reduceSub, Nat.reduceMul, Nat.reduceLT, Nat.reduceLeDiff, Nat.reduceBEq, Int.reduceEq, Int.reduceLT, Int.reduceLE, Int.reduceAdd, Int.reduceSub, Int.reduceNeg, Int.reduceToNat]
def dW3 (v : V) : W3 := ⟨(v.cs.getD 0 .any).int, (v.cs.getD 1 .any).int, (v.cs.getD 2 .any).int⟩
theorem dW3_mk (a b c : Int) : dW3 (.agg [.c (.int .i64 a), .c (.int .i64 b), .c (.int .i64 c)]) = ⟨a, b, c⟩ := rfl
def sumAbv : Sum Tryz.prog := ⟨28, fun args => args = [.agg (W3.enc (dW3 (args.getD 0 .any))), .agg (W3.enc (dW3 (args.getD 1 .any)))], fun args => vb (abv (dW3 (args.getD 0 .any)) (dW3 (args.getD 1 .any))), fun args h => by
  have := above_ok (dW3 (args.getD 0 .any)) (dW3 (args.getD 1 .any)); rwa [← h] at this, true⟩
theorem sumAbv_f : sumAbv.f = 28 := rfl
theorem sumAbv_D (args : List V) : sumAbv.D args = (args = [.agg (W3.enc (dW3 (args.getD 0 .any))), .agg (W3.enc (dW3 (args.getD 1 .any)))]) := rfl
theorem sumAbv_flat : sumAbv.flat = true := rfl
theorem sumAbv_r (args : List V) : sumAbv.r args = vb (abv (dW3 (args.getD 0 .any)) (dW3 (args.getD 1 .any))) := rfl
attribute [go_sem] sumAbv_f sumAbv_D sumAbv_flat sumAbv_r
theorem abv_iff (x y : W3) : abv x y = true ↔ (y.a < x.a ∨ (x.a = y.a ∧ (y.b < x.b ∨ (x.b = y.b ∧ y.c < x.c)))) := by
  unfold abv
  rw [decide_eq_true_eq, cmpL_cons, cmpL_cons, cmpL_cons]
  show 0 < (if cmpI x.a y.a = 0 then if cmpI x.b y.b = 0 then if cmpI x.c y.c = 0 then 0 else cmpI x.c y.c else cmpI x.b y.b else cmpI x.a y.a) ↔ _
  unfold cmpI
  split <;> split <;> (try split) <;> (try split) <;> (try split) <;> (try split) <;> (try split) <;> (try split) <;> (try split) <;> omega
theorem aboveR_ok (x y : W3) : PCall Tryz.prog 29 [.agg x.enc, .agg y.enc] (vb (abv x y)) := by
  refine PCall.of (Orc.nil _) c29_ok (by simp [c29]) fun w0 own0 => ?_
  simp only [c29, W3.enc, go_sem, wpR_gcall, reduceCtorEq, reduceIte, Nat.reduceEqDiff, Nat.reduceAdd, Nat.reduceSub, Nat.reduceMul, Nat.reduceLT, Nat.reduceLeDiff, Nat.reduceBEq, Int.reduceEq, Int.reduceLT, Int.reduceLE, Int.reduceAdd, Int.reduceSub, Int.reduceNeg, Int.reduceToNat]
  refine SemC.lp (α := Nat) (fun k => [(2, .ptr 0 0 0 0), (3, .ptr 1 1 0 0), (5, vi k)]) (fun _ => ⟨[⟨0, 3, [x.enc], false, []⟩, ⟨1, 3, [y.enc], false, []⟩], 2⟩)
    (fun k => k ≤ 3 ∧ (0 < k → x.a = y.a) ∧ (1 < k → x.b = y.b) ∧ (2 < k → x.c = y.c)) (fun k => 3 - k) 0 ⟨by omega, by omega, by omega, by omega⟩ (St.mk (by simp [Agrees, upd_at, initE_at])) fun k hk => ?_
  obtain ⟨h1, h2, h3, h4⟩ := hk
  have ha := abv_iff x y
  rcases (show k = 0 ∨ k = 1 ∨ k = 2 ∨ k = 3 by omega) with rfl | rfl | rfl | rfl
  · by_cases h : x.a = y.a
    · simp only [W3.enc, h, go_sem, wpR_gcall, reduceCtorEq, reduceIte, Nat.reduceEqDiff, Nat.reduceAdd, Nat.reduceSub, Nat.reduceMul, Nat.reduceLT, Nat.reduceLeDiff, Nat.reduceBEq, Int.reduceEq, Int.reduceLT, Int.reduceLE, Int.reduceAdd, Int.reduceSub, Int.reduceNeg, Int.reduceToNat]
      first | exact ⟨1, ⟨by omega, by omega, by omega⟩, by omega, by omega⟩ | exact ⟨by omega, 1, ⟨by omega, by omega, by omega⟩, by omega, by omega⟩
    · have e : abv x y = decide (y.a < x.a) := by rw [Bool.eq_iff_iff, ha, decide_eq_true_eq]; omega
      simp only [W3.enc, h, e, go_sem, wpR_gcall, reduceCtorEq, reduceIte, Nat.reduceEqDiff, Nat.reduceAdd, Nat.reduceSub, Nat.reduceMul, Nat.reduceLT, Nat.reduceLeDiff, Nat.reduceBEq, Int.reduceEq, Int.reduceLT, Int.reduceLE, Int.reduceAdd, Int.reduceSub, Int.reduceNeg, Int.reduceToNat]
  · have g := h2 (by omega)
    by_cases h : x.b = y.b
    · simp only [W3.enc, g, h, go_sem, wpR_gcall, reduceCtorEq, reduceIte, Nat.reduceEqDiff, Nat.reduceAdd, Nat.reduceSub, Nat.reduceMul, Nat.reduceLT, Nat.reduceLeDiff, Nat.reduceBEq, Int.reduceEq, Int.reduceLT, Int.reduceLE, Int.reduceAdd, Int.reduceSub, Int.reduceNeg, Int.reduceToNat]
      exact ⟨2, ⟨by omega, by omega⟩, by omega, by omega⟩
    · have e : abv x y = decide (y.b < x.b) := by rw [Bool.eq_iff_iff, ha, decide_eq_true_eq]; omega
      simp only [W3.enc, h, e, go_sem, wpR_gcall, reduceCtorEq, reduceIte, Nat.reduceEqDiff, Nat.reduceAdd, Nat.reduceSub, Nat.reduceMul, Nat.reduceLT, Nat.reduceLeDiff, Nat.reduceBEq, Int.reduceEq, Int.reduceLT, Int.reduceLE, Int.reduceAdd, Int.reduceSub, Int.reduceNeg, Int.reduceToNat]
  · have g := h2 (by omega)
    have g2 := h3 (by omega)
    by_cases h : x.c = y.c
    · simp only [W3.enc, g, g2, h, go_sem, wpR_gcall, reduceCtorEq, reduceIte, Nat.reduceEqDiff, Nat.reduceAdd, Nat.reduceSub, Nat.reduceMul, Nat.reduceLT, Nat.reduceLeDiff, Nat.reduceBEq, Int.reduceEq, Int.reduceLT, Int.reduceLE, Int.reduceAdd, Int.reduceSub, Int.reduceNeg, Int.reduceToNat]
      exact ⟨3, by omega, by omega, by omega⟩
    · have e : abv x y = decide (y.c < x.c) := by rw [Bool.eq_iff_iff, ha, decide_eq_true_eq]; omega
      simp only [W3.enc, h, e, go_sem, wpR_gcall, reduceCtorEq, reduceIte, Nat.reduceEqDiff, Nat.reduceAdd, Nat.reduceSub, Nat.reduceMul, Nat.reduceLT, Nat.reduceLeDiff, Nat.reduceBEq, Int.reduceEq, Int.reduceLT, Int.reduceLE, Int.reduceAdd, Int.reduceSub, Int.reduceNeg, Int.reduceToNat]
  · have e : abv x y = false := by
      cases hb : abv x y with
      | false => rfl
      | true => rw [ha] at hb; omega
    simp only [W3.enc, e, go_sem, wpR_gcall, reduceCtorEq, reduceIte, Nat.reduceEqDiff, Nat.reduceAdd, Nat.reduceSub, Nat.reduceMul, Nat.reduceLT, Nat.reduceLeDiff, Nat.reduceBEq, Int.reduceEq, Int.reduceLT, Int.reduceLE, Int.reduceAdd, Int.reduceSub, Int.reduceNeg, Int.reduceToNat]
def sumAbvR : Sum Tryz.prog := ⟨29, fun args => args = [.agg (W3.enc (dW3 (args.getD 0 .any))), .agg (W3.enc (dW3 (args.getD 1 .any)))], fun args => vb (abv (dW3 (args.getD 0 .any)) (dW3 (args.getD 1 .any))), fun args h => by
  have := aboveR_ok (dW3 (args.getD 0 .any)) (dW3 (args.getD 1 .any)); rwa [← h] at this, true⟩
theorem sumAbvR_f : sumAbvR.f = 29 := rfl
theorem sumAbvR_D (args : List V) : sumAbvR.D args = (args = [.agg (W3.enc (dW3 (args.getD 0 .any))), .agg (W3.enc (dW3 (args.getD 1 .any)))]) := rfl
theorem sumAbvR_flat : sumAbvR.flat = true := rfl
theorem sumAbvR_r (args : List V) : sumAbvR.r args = vb (abv (dW3 (args.getD 0 .any)) (dW3 (args.getD 1 .any))) := rfl
attribute [go_sem] sumAbvR_f sumAbvR_D sumAbvR_flat sumAbvR_r
end Go.Proofs.YtjcmoedalneldaaGreat
