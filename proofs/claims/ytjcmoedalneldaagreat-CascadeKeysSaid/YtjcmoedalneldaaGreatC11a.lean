/- The law of layer 11: which declaration beats which. -/
import Derived.Test.YtjcmoedalneldaaGreatAb
import Derived.Test.YtjcmoedalneldaaGreatGc
import Derived.Test.YtjcmoedalneldaaGreatAw
import Derived.Test.YtjcmoedalneldaaGreatCe
import Derived.Laws.IdiomArrays
namespace Go.Proofs.YtjcmoedalneldaaGreat
open Go.Sx
set_option linter.unusedSimpArgs false
set_option linter.unusedVariables false
set_option maxHeartbeats 4000000
set_option maxRecDepth 20000

structure Ky where
  lv : Int
  w : W3
  od : Int
def Ky.enc (k : Ky) : List V := [vi k.lv, vi k.w.a, vi k.w.b, vi k.w.c, vi k.od]
def dKy (v : V) : Ky := ⟨(v.cs.getD 0 .any).int, ⟨(v.cs.getD 1 .any).int, (v.cs.getD 2 .any).int, (v.cs.getD 3 .any).int⟩, (v.cs.getD 4 .any).int⟩
theorem dKy_mk (l a b c o : Int) : dKy (.agg [.c (.int .i64 l), .c (.int .i64 a), .c (.int .i64 b), .c (.int .i64 c), .c (.int .i64 o)]) = ⟨l, ⟨a, b, c⟩, o⟩ := rfl
def bts (x y : Ky) : Bool := if x.lv = y.lv then (if x.w.a = y.w.a ∧ x.w.b = y.w.b ∧ x.w.c = y.w.c then decide (y.od < x.od) else abv x.w y.w) else decide (y.lv < x.lv)
theorem beats_ok (x y : Ky) : PCall Tryz.prog 8 [.agg x.enc, .agg y.enc] (vb (bts x y)) := by
  refine PCall.of (Orc.cons sumAbv (Orc.nil _)) c8_ok (by simp [c8]) fun w0 own0 => ?_
  obtain ⟨l, ⟨a, b, c⟩, o⟩ := x
  obtain ⟨l', ⟨a', b', c'⟩, o'⟩ := y
  unfold bts
  simp only
  by_cases h1 : l = l'
  · rw [if_pos h1]
    by_cases h2 : a = a' ∧ b = b' ∧ c = c'
    · rw [if_pos h2]
      obtain ⟨e1, e2, e3⟩ := h2
      subst h1; subst e1; subst e2; subst e3
      simp -implicitDefEqProofs only [c8, Ky.enc, List.isEmpty_cons, on_gcall, off_gcall, flat_gcall, go_sem, reduceCtorEq, reduceIte, Nat.reduceEqDiff, Nat.reduceAdd, Nat.reduceSub, Nat.reduceMul, Nat.reduceLT, Nat.reduceLeDiff, Nat.reduceBEq, Int.reduceEq, Int.reduceLT, Int.reduceLE, Int.reduceAdd, Int.reduceSub, Int.reduceNeg, Int.reduceToNat]
    · rw [if_neg h2]
      subst h1
      have hd : dW3 (.agg [.c (.int .i64 a), .c (.int .i64 b), .c (.int .i64 c)]) = ⟨a, b, c⟩ := rfl
      by_cases e1 : a = a'
      · by_cases e2 : b = b'
        · have e3 : ¬ c = c' := fun h => h2 ⟨e1, e2, h⟩
          have e1 := eq_true e1; have e2 := eq_true e2; have e3 := eq_false e3
          simp -implicitDefEqProofs only [c8, Ky.enc, List.isEmpty_cons, W3.enc, dW3_mk, e1, e2, e3, on_gcall, off_gcall, flat_gcall, go_sem, reduceCtorEq, reduceIte, Nat.reduceEqDiff, Nat.reduceAdd, Nat.reduceSub, Nat.reduceMul, Nat.reduceLT, Nat.reduceLeDiff, Nat.reduceBEq, Int.reduceEq, Int.reduceLT, Int.reduceLE, Int.reduceAdd, Int.reduceSub, Int.reduceNeg, Int.reduceToNat]
        · have e1 := eq_true e1; have e2 := eq_false e2
          simp -implicitDefEqProofs only [c8, Ky.enc, List.isEmpty_cons, W3.enc, dW3_mk, e1, e2, on_gcall, off_gcall, flat_gcall, go_sem, reduceCtorEq, reduceIte, Nat.reduceEqDiff, Nat.reduceAdd, Nat.reduceSub, Nat.reduceMul, Nat.reduceLT, Nat.reduceLeDiff, Nat.reduceBEq, Int.reduceEq, Int.reduceLT, Int.reduceLE, Int.reduceAdd, Int.reduceSub, Int.reduceNeg, Int.reduceToNat]
      · have e1 := eq_false e1
        simp -implicitDefEqProofs only [c8, Ky.enc, List.isEmpty_cons, W3.enc, dW3_mk, e1, on_gcall, off_gcall, flat_gcall, go_sem, reduceCtorEq, reduceIte, Nat.reduceEqDiff, Nat.reduceAdd, Nat.reduceSub, Nat.reduceMul, Nat.reduceLT, Nat.reduceLeDiff, Nat.reduceBEq, Int.reduceEq, Int.reduceLT, Int.reduceLE, Int.reduceAdd, Int.reduceSub, Int.reduceNeg, Int.reduceToNat]
  · rw [if_neg h1]
    have h1 := eq_false h1
    simp -implicitDefEqProofs only [c8, Ky.enc, List.isEmpty_cons, h1, on_gcall, off_gcall, flat_gcall, go_sem, reduceCtorEq, reduceIte, Nat.reduceEqDiff, Nat.reduceAdd, Nat.reduceSub, Nat.reduceMul, Nat.reduceLT, Nat.reduceLeDiff, Nat.reduceBEq, Int.reduceEq, Int.reduceLT, Int.reduceLE, Int.reduceAdd, Int.reduceSub, Int.reduceNeg, Int.reduceToNat]
def sumBts : Sum Tryz.prog := ⟨8, fun args => args = [.agg (Ky.enc (dKy (args.getD 0 .any))), .agg (Ky.enc (dKy (args.getD 1 .any)))], fun args => vb (bts (dKy (args.getD 0 .any)) (dKy (args.getD 1 .any))), fun args h => by
  have := beats_ok (dKy (args.getD 0 .any)) (dKy (args.getD 1 .any)); rwa [← h] at this, true⟩
theorem sumBts_f : sumBts.f = 8 := rfl
theorem sumBts_D (args : List V) : sumBts.D args = (args = [.agg (Ky.enc (dKy (args.getD 0 .any))), .agg (Ky.enc (dKy (args.getD 1 .any)))]) := rfl
theorem sumBts_flat : sumBts.flat = true := rfl
theorem sumBts_r (args : List V) : sumBts.r args = vb (bts (dKy (args.getD 0 .any)) (dKy (args.getD 1 .any))) := rfl
attribute [go_sem] sumBts_f sumBts_D sumBts_flat sumBts_r
theorem beatsR_ok (x y : Ky) : PCall Tryz.prog 9 [.agg x.enc, .agg y.enc] (vb (bts x y)) := by
  refine PCall.of (Orc.cons sumAbvR (Orc.nil _)) c9_ok (by simp [c9]) fun w0 own0 => ?_
  obtain ⟨l, ⟨a, b, c⟩, o⟩ := x
  obtain ⟨l', ⟨a', b', c'⟩, o'⟩ := y
  unfold bts
  simp only
  by_cases h1 : l = l'
  · rw [if_pos h1]
    by_cases h2 : a = a' ∧ b = b' ∧ c = c'
    · rw [if_pos h2]
      obtain ⟨e1, e2, e3⟩ := h2
      subst h1; subst e1; subst e2; subst e3
      simp -implicitDefEqProofs only [c9, Ky.enc, List.isEmpty_cons, on_gcall, off_gcall, flat_gcall, go_sem, reduceCtorEq, reduceIte, Nat.reduceEqDiff, Nat.reduceAdd, Nat.reduceSub, Nat.reduceMul, Nat.reduceLT, Nat.reduceLeDiff, Nat.reduceBEq, Int.reduceEq, Int.reduceLT, Int.reduceLE, Int.reduceAdd, Int.reduceSub, Int.reduceNeg, Int.reduceToNat]
    · rw [if_neg h2]
      subst h1
      by_cases e1 : a = a'
      · by_cases e2 : b = b'
        · have e3 : ¬ c = c' := fun h => h2 ⟨e1, e2, h⟩
          have e1 := eq_true e1; have e2 := eq_true e2; have e3 := eq_false e3
          simp -implicitDefEqProofs only [c9, Ky.enc, List.isEmpty_cons, W3.enc, dW3_mk, e1, e2, e3, on_gcall, off_gcall, flat_gcall, go_sem, reduceCtorEq, reduceIte, Nat.reduceEqDiff, Nat.reduceAdd, Nat.reduceSub, Nat.reduceMul, Nat.reduceLT, Nat.reduceLeDiff, Nat.reduceBEq, Int.reduceEq, Int.reduceLT, Int.reduceLE, Int.reduceAdd, Int.reduceSub, Int.reduceNeg, Int.reduceToNat]
        · have e1 := eq_true e1; have e2 := eq_false e2
          simp -implicitDefEqProofs only [c9, Ky.enc, List.isEmpty_cons, W3.enc, dW3_mk, e1, e2, on_gcall, off_gcall, flat_gcall, go_sem, reduceCtorEq, reduceIte, Nat.reduceEqDiff, Nat.reduceAdd, Nat.reduceSub, Nat.reduceMul, Nat.reduceLT, Nat.reduceLeDiff, Nat.reduceBEq, Int.reduceEq, Int.reduceLT, Int.reduceLE, Int.reduceAdd, Int.reduceSub, Int.reduceNeg, Int.reduceToNat]
      · have e1 := eq_false e1
        simp -implicitDefEqProofs only [c9, Ky.enc, List.isEmpty_cons, W3.enc, dW3_mk, e1, on_gcall, off_gcall, flat_gcall, go_sem, reduceCtorEq, reduceIte, Nat.reduceEqDiff, Nat.reduceAdd, Nat.reduceSub, Nat.reduceMul, Nat.reduceLT, Nat.reduceLeDiff, Nat.reduceBEq, Int.reduceEq, Int.reduceLT, Int.reduceLE, Int.reduceAdd, Int.reduceSub, Int.reduceNeg, Int.reduceToNat]
  · rw [if_neg h1]
    have h1 := eq_false h1
    simp -implicitDefEqProofs only [c9, Ky.enc, List.isEmpty_cons, h1, on_gcall, off_gcall, flat_gcall, go_sem, reduceCtorEq, reduceIte, Nat.reduceEqDiff, Nat.reduceAdd, Nat.reduceSub, Nat.reduceMul, Nat.reduceLT, Nat.reduceLeDiff, Nat.reduceBEq, Int.reduceEq, Int.reduceLT, Int.reduceLE, Int.reduceAdd, Int.reduceSub, Int.reduceNeg, Int.reduceToNat]
def sumBtsR : Sum Tryz.prog := ⟨9, fun args => args = [.agg (Ky.enc (dKy (args.getD 0 .any))), .agg (Ky.enc (dKy (args.getD 1 .any)))], fun args => vb (bts (dKy (args.getD 0 .any)) (dKy (args.getD 1 .any))), fun args h => by
  have := beatsR_ok (dKy (args.getD 0 .any)) (dKy (args.getD 1 .any)); rwa [← h] at this, true⟩
theorem sumBtsR_f : sumBtsR.f = 9 := rfl
theorem sumBtsR_D (args : List V) : sumBtsR.D args = (args = [.agg (Ky.enc (dKy (args.getD 0 .any))), .agg (Ky.enc (dKy (args.getD 1 .any)))]) := rfl
theorem sumBtsR_flat : sumBtsR.flat = true := rfl
theorem sumBtsR_r (args : List V) : sumBtsR.r args = vb (bts (dKy (args.getD 0 .any)) (dKy (args.getD 1 .any))) := rfl
attribute [go_sem] sumBtsR_f sumBtsR_D sumBtsR_flat sumBtsR_r
def lvl (s : Int) (i : Bool) : Int := if s < 0 ∨ 2 < s then -1 else if i = true then 5 - s else s
theorem level_ok (s : Int) (i : Bool) : PCall Tryz.prog 10 [vi s, vb i] (vi (lvl s i)) := by
  refine PCall.of (Orc.nil _) c10_ok (by simp [c10]) fun w0 own0 => ?_
  unfold lvl
  by_cases h1 : s < 0
  · rw [if_pos (.inl h1)]
    have h1 := eq_true h1
    simp -implicitDefEqProofs only [c10, h1, on_gcall, off_gcall, flat_gcall, go_sem, reduceCtorEq, reduceIte, Nat.reduceEqDiff, Nat.reduceAdd, Nat.reduceSub, Nat.reduceMul, Nat.reduceLT, Nat.reduceLeDiff, Nat.reduceBEq, Int.reduceEq, Int.reduceLT, Int.reduceLE, Int.reduceAdd, Int.reduceSub, Int.reduceNeg, Int.reduceToNat]
  · by_cases h2 : 2 < s
    · rw [if_pos (.inr h2)]
      have h1 := eq_false h1; have h3 := eq_true (show (3 : Int) ≤ s by omega)
      simp -implicitDefEqProofs only [c10, h1, h3, on_gcall, off_gcall, flat_gcall, go_sem, reduceCtorEq, reduceIte, Nat.reduceEqDiff, Nat.reduceAdd, Nat.reduceSub, Nat.reduceMul, Nat.reduceLT, Nat.reduceLeDiff, Nat.reduceBEq, Int.reduceEq, Int.reduceLT, Int.reduceLE, Int.reduceAdd, Int.reduceSub, Int.reduceNeg, Int.reduceToNat]
    · rw [if_neg (by omega)]
      have h3 := eq_false (show ¬ (3 : Int) ≤ s by omega)
      have o1 := eq_true (show -9223372036854775808 ≤ 5 - s by omega)
      have o2 := eq_true (show 5 - s ≤ 9223372036854775807 by omega)
      have h1 := eq_false h1
      cases i <;> simp -implicitDefEqProofs only [c10, h1, h3, o1, o2, if_true, Bool.false_eq_true, if_false, on_gcall, off_gcall, flat_gcall, go_sem, reduceCtorEq, reduceIte, Nat.reduceEqDiff, Nat.reduceAdd, Nat.reduceSub, Nat.reduceMul, Nat.reduceLT, Nat.reduceLeDiff, Nat.reduceBEq, Int.reduceEq, Int.reduceLT, Int.reduceLE, Int.reduceAdd, Int.reduceSub, Int.reduceNeg, Int.reduceToNat]
def sumLvl : Sum Tryz.prog := ⟨10, fun args => args = [vi ((args.getD 0 .any).int), vb (V.boo (args.getD 1 .any))], fun args => vi (lvl ((args.getD 0 .any).int) (V.boo (args.getD 1 .any))), fun args h => by
  have := level_ok ((args.getD 0 .any).int) (V.boo (args.getD 1 .any)); rwa [← h] at this, true⟩
theorem sumLvl_f : sumLvl.f = 10 := rfl
theorem sumLvl_D (args : List V) : sumLvl.D args = (args = [vi ((args.getD 0 .any).int), vb (V.boo (args.getD 1 .any))]) := rfl
theorem sumLvl_flat : sumLvl.flat = true := rfl
theorem sumLvl_r (args : List V) : sumLvl.r args = vi (lvl ((args.getD 0 .any).int) (V.boo (args.getD 1 .any))) := rfl
attribute [go_sem] sumLvl_f sumLvl_D sumLvl_flat sumLvl_r
theorem levelR_ok (s : Int) (i : Bool) : PCall Tryz.prog 11 [vi s, vb i] (vi (lvl s i)) := by
  refine PCall.of (Orc.nil _) c11_ok (by simp [c11]) fun w0 own0 => ?_
  unfold lvl
  by_cases h1 : s < 0
  · rw [if_pos (.inl h1)]
    have h1 := eq_true h1
    simp -implicitDefEqProofs only [c11, h1, on_gcall, off_gcall, flat_gcall, go_sem, reduceCtorEq, reduceIte, Nat.reduceEqDiff, Nat.reduceAdd, Nat.reduceSub, Nat.reduceMul, Nat.reduceLT, Nat.reduceLeDiff, Nat.reduceBEq, Int.reduceEq, Int.reduceLT, Int.reduceLE, Int.reduceAdd, Int.reduceSub, Int.reduceNeg, Int.reduceToNat]
  · by_cases h2 : 2 < s
    · rw [if_pos (.inr h2)]
      have h1 := eq_false h1; have h3 := eq_true h2
      simp -implicitDefEqProofs only [c11, h1, h3, on_gcall, off_gcall, flat_gcall, go_sem, reduceCtorEq, reduceIte, Nat.reduceEqDiff, Nat.reduceAdd, Nat.reduceSub, Nat.reduceMul, Nat.reduceLT, Nat.reduceLeDiff, Nat.reduceBEq, Int.reduceEq, Int.reduceLT, Int.reduceLE, Int.reduceAdd, Int.reduceSub, Int.reduceNeg, Int.reduceToNat]
    · rw [if_neg (by omega)]
      have h3 := eq_false h2
      have o1 := eq_true (show -9223372036854775808 ≤ 5 - s by omega)
      have o2 := eq_true (show 5 - s ≤ 9223372036854775807 by omega)
      have h1 := eq_false h1
      cases i <;> simp -implicitDefEqProofs only [c11, h1, h3, o1, o2, if_true, Bool.false_eq_true, if_false, on_gcall, off_gcall, flat_gcall, go_sem, reduceCtorEq, reduceIte, Nat.reduceEqDiff, Nat.reduceAdd, Nat.reduceSub, Nat.reduceMul, Nat.reduceLT, Nat.reduceLeDiff, Nat.reduceBEq, Int.reduceEq, Int.reduceLT, Int.reduceLE, Int.reduceAdd, Int.reduceSub, Int.reduceNeg, Int.reduceToNat]
def sumLvlR : Sum Tryz.prog := ⟨11, fun args => args = [vi ((args.getD 0 .any).int), vb (V.boo (args.getD 1 .any))], fun args => vi (lvl ((args.getD 0 .any).int) (V.boo (args.getD 1 .any))), fun args h => by
  have := levelR_ok ((args.getD 0 .any).int) (V.boo (args.getD 1 .any)); rwa [← h] at this, true⟩
theorem sumLvlR_f : sumLvlR.f = 11 := rfl
theorem sumLvlR_D (args : List V) : sumLvlR.D args = (args = [vi ((args.getD 0 .any).int), vb (V.boo (args.getD 1 .any))]) := rfl
theorem sumLvlR_flat : sumLvlR.flat = true := rfl
theorem sumLvlR_r (args : List V) : sumLvlR.r args = vi (lvl ((args.getD 0 .any).int) (V.boo (args.getD 1 .any))) := rfl
attribute [go_sem] sumLvlR_f sumLvlR_D sumLvlR_flat sumLvlR_r
def sumAwake11 : Sum Tryz.prog := ⟨12, fun args => args = [], fun args => vb true, fun args h => by
  have := awake_ok; rwa [← h] at this, true⟩
theorem sumAwake11_f : sumAwake11.f = 12 := rfl
theorem sumAwake11_D (args : List V) : sumAwake11.D args = (args = []) := rfl
theorem sumAwake11_flat : sumAwake11.flat = true := rfl
theorem sumAwake11_r (args : List V) : sumAwake11.r args = vb true := rfl
attribute [go_sem] sumAwake11_f sumAwake11_D sumAwake11_flat sumAwake11_r
abbrev keyC : List Cell := [.int .i64, .int .i64, .int .i64, .int .i64, .int .i64]
theorem key_of {xs : List V} (hl : xs.length = 5) (h : ∀ i c, keyC[i]? = some c → CellOK c (xs.getD i .any)) : ∃ k : Ky, xs = k.enc := by
  match xs, hl with
  | [a, b, c, d, e], _ =>
    have a0 := h 0 _ rfl; have a1 := h 1 _ rfl; have a2 := h 2 _ rfl; have a3 := h 3 _ rfl; have a4 := h 4 _ rfl
    simp only [List.getD_cons_zero, List.getD_cons_succ] at a0 a1 a2 a3 a4
    cases a0; cases a1; cases a2; cases a3; cases a4
    exact ⟨⟨_, ⟨_, _, _⟩, _⟩, rfl⟩
theorem bts_sym (x y : Ky) : ¬ (bts x y = true ∧ bts y x = true) := by
  rintro ⟨h1, h2⟩
  have a1 := abv_iff x.w y.w
  have a2 := abv_iff y.w x.w
  unfold bts at h1 h2
  by_cases h : x.lv = y.lv
  · rw [if_pos h] at h1
    rw [if_pos h.symm] at h2
    by_cases e : x.w.a = y.w.a ∧ x.w.b = y.w.b ∧ x.w.c = y.w.c
    · rw [if_pos e, decide_eq_true_eq] at h1
      rw [if_pos ⟨e.1.symm, e.2.1.symm, e.2.2.symm⟩, decide_eq_true_eq] at h2
      omega
    · rw [if_neg e, a1] at h1
      rw [if_neg (fun hh => e ⟨hh.1.symm, hh.2.1.symm, hh.2.2.symm⟩), a2] at h2
      omega
  · rw [if_neg h, decide_eq_true_eq] at h1
    rw [if_neg (fun hh => h hh.symm), decide_eq_true_eq] at h2
    omega
theorem bts_eq (x y : Ky) : (bts x y = false ∧ bts y x = false) ↔ (x.lv = y.lv ∧ x.w.a = y.w.a ∧ x.w.b = y.w.b ∧ x.w.c = y.w.c ∧ x.od = y.od) := by
  have a1 := abv_iff x.w y.w
  have a2 := abv_iff y.w x.w
  rw [← Bool.not_eq_true, ← Bool.not_eq_true]
  unfold bts
  by_cases h : x.lv = y.lv
  · rw [if_pos h, if_pos h.symm]
    by_cases e : x.w.a = y.w.a ∧ x.w.b = y.w.b ∧ x.w.c = y.w.c
    · rw [if_pos e, if_pos ⟨e.1.symm, e.2.1.symm, e.2.2.symm⟩, decide_eq_true_eq, decide_eq_true_eq]
      omega
    · rw [if_neg e, if_neg (fun hh => e ⟨hh.1.symm, hh.2.1.symm, hh.2.2.symm⟩), a1, a2]
      omega
  · rw [if_neg h, if_neg (fun hh => h hh.symm), decide_eq_true_eq, decide_eq_true_eq]
    omega
theorem cascadeKeys_law (x : List V) (hl : x.length = 5) (h : ∀ i c, keyC[i]? = some c → CellOK c (x.getD i .any)) (y : List V) (hl2 : y.length = 5) (h2 : ∀ i c, keyC[i]? = some c → CellOK c (y.getD i .any))
    (s : V) (hs : CellOK (.int .i64) s) (i : V) (hi : CellOK .bool i) : PCall Tryz.prog 3 [.agg x, .agg y, s, i] (.c (.bool true)) := by
  obtain ⟨a, rfl⟩ := key_of hl h
  obtain ⟨b, rfl⟩ := key_of hl2 h2
  cases hs with
  | int _ s _ =>
  cases hi with
  | bool i =>
  refine PCall.of (Orc.cons sumAwake11 (Orc.cons sumBts (Orc.cons sumBtsR (Orc.cons sumLvl (Orc.cons sumLvlR (Orc.nil _)))))) c3_ok (by simp [c3]) fun w0 own0 => ?_
  have hsy := bts_sym a b
  have heq := bts_eq a b
  obtain ⟨l, ⟨p, q, r⟩, o⟩ := a
  obtain ⟨l', ⟨p', q', r'⟩, o'⟩ := b
  simp only at hsy heq
  cases e1 : bts ⟨l, ⟨p, q, r⟩, o⟩ ⟨l', ⟨p', q', r'⟩, o'⟩ <;> cases e2 : bts ⟨l', ⟨p', q', r'⟩, o'⟩ ⟨l, ⟨p, q, r⟩, o⟩
  · rw [e1, e2] at heq
    obtain ⟨z1, z2, z3, z4, z5⟩ := heq.1 ⟨rfl, rfl⟩
    subst z1; subst z2; subst z3; subst z4; subst z5
    simp -implicitDefEqProofs only [c3, Ky.enc, dKy_mk, e1, e2, wpC_seq_areg, wpC_areg, wpFR_nil, wpFR_cons, fluP, fluV, evF, V.allK, V.isK, O.still, okP_none, vP_none, on_gcall, off_gcall, flat_gcall, wpC_seq_xreg, wpC_xreg, wpXR_nil, wpXR_own, wpXR_flu, xeOK, xe, argTops, openArgs, Orc.ppre_cons, Orc.pr_cons, Orc.ppre_econs, Orc.pr_econs, Orc.ppre_fcons, Orc.pr_fcons, Orc.ppre_gcons, Orc.pr_gcons, List.head?_cons, List.headD_cons, XE.val, XE.heap, efO, shutArgs, xfoot, footO, V.tops, V.top1, clashOne, noClash, Orc.flat_fcons, Orc.pre_fcons, Orc.v_fcons, Orc.hp_fcons, Orc.qpre_fcons, Orc.qv_fcons, Orc.fpre_fcons, Orc.fes_fcons, Orc.flat_gcons, Orc.pre_gcons, Orc.v_gcons, Orc.hp_gcons, Orc.qpre_gcons, Orc.qv_gcons, Orc.fpre_gcons, Orc.fes_gcons, GSum.pre, GSum.v, GSum.hp, Orc.fpre_cons, Orc.fes_cons, Orc.fpre_econs, Orc.fes_econs, FSum.pre, FSum.v, FSum.hp, fres, O.calls, List.flatMap_cons, List.flatMap_nil, List.contains_cons, List.contains_nil, Bool.not_true, Bool.not_false, Heap.freeze, List.mapIdx_cons, List.mapIdx_nil, List.elem_cons, List.elem_nil, fluP, fluV, evF, bne_iff_ne, ne_eq, Option.some.injEq, go_sem, reduceCtorEq, reduceIte, Nat.reduceEqDiff, Nat.reduceAdd, Nat.reduceSub, Nat.reduceMul, Nat.reduceLT, Nat.reduceLeDiff, Nat.reduceBEq, Int.reduceEq, Int.reduceLT, Int.reduceLE, Int.reduceAdd, Int.reduceSub, Int.reduceNeg, Int.reduceToNat]
    exact ⟨rfl, rfl, rfl⟩
  · rw [e1, e2] at heq
    have hne : ¬ l = l' ∨ ¬ p = p' ∨ ¬ q = q' ∨ ¬ r = r' ∨ ¬ o = o' := Decidable.byContradiction fun hh => by
      have := (heq.2 (by omega)).2; cases this
    simp -implicitDefEqProofs only [c3, Ky.enc, dKy_mk, e1, e2, wpC_seq_areg, wpC_areg, wpFR_nil, wpFR_cons, fluP, fluV, evF, V.allK, V.isK, O.still, okP_none, vP_none, on_gcall, off_gcall, flat_gcall, wpC_seq_xreg, wpC_xreg, wpXR_nil, wpXR_own, wpXR_flu, xeOK, xe, argTops, openArgs, Orc.ppre_cons, Orc.pr_cons, Orc.ppre_econs, Orc.pr_econs, Orc.ppre_fcons, Orc.pr_fcons, Orc.ppre_gcons, Orc.pr_gcons, List.head?_cons, List.headD_cons, XE.val, XE.heap, efO, shutArgs, xfoot, footO, V.tops, V.top1, clashOne, noClash, Orc.flat_fcons, Orc.pre_fcons, Orc.v_fcons, Orc.hp_fcons, Orc.qpre_fcons, Orc.qv_fcons, Orc.fpre_fcons, Orc.fes_fcons, Orc.flat_gcons, Orc.pre_gcons, Orc.v_gcons, Orc.hp_gcons, Orc.qpre_gcons, Orc.qv_gcons, Orc.fpre_gcons, Orc.fes_gcons, GSum.pre, GSum.v, GSum.hp, Orc.fpre_cons, Orc.fes_cons, Orc.fpre_econs, Orc.fes_econs, FSum.pre, FSum.v, FSum.hp, fres, O.calls, List.flatMap_cons, List.flatMap_nil, List.contains_cons, List.contains_nil, Bool.not_true, Bool.not_false, Heap.freeze, List.mapIdx_cons, List.mapIdx_nil, List.elem_cons, List.elem_nil, fluP, fluV, evF, bne_iff_ne, ne_eq, Option.some.injEq, go_sem, reduceCtorEq, reduceIte, Nat.reduceEqDiff, Nat.reduceAdd, Nat.reduceSub, Nat.reduceMul, Nat.reduceLT, Nat.reduceLeDiff, Nat.reduceBEq, Int.reduceEq, Int.reduceLT, Int.reduceLE, Int.reduceAdd, Int.reduceSub, Int.reduceNeg, Int.reduceToNat]
    exact ⟨rfl, fun h => ⟨h, rfl⟩, fun h => ⟨h, rfl⟩, hne⟩
  · rw [e1, e2] at heq
    have hne : ¬ l = l' ∨ ¬ p = p' ∨ ¬ q = q' ∨ ¬ r = r' ∨ ¬ o = o' := Decidable.byContradiction fun hh => by
      have := (heq.2 (by omega)).1; cases this
    simp -implicitDefEqProofs only [c3, Ky.enc, dKy_mk, e1, e2, wpC_seq_areg, wpC_areg, wpFR_nil, wpFR_cons, fluP, fluV, evF, V.allK, V.isK, O.still, okP_none, vP_none, on_gcall, off_gcall, flat_gcall, wpC_seq_xreg, wpC_xreg, wpXR_nil, wpXR_own, wpXR_flu, xeOK, xe, argTops, openArgs, Orc.ppre_cons, Orc.pr_cons, Orc.ppre_econs, Orc.pr_econs, Orc.ppre_fcons, Orc.pr_fcons, Orc.ppre_gcons, Orc.pr_gcons, List.head?_cons, List.headD_cons, XE.val, XE.heap, efO, shutArgs, xfoot, footO, V.tops, V.top1, clashOne, noClash, Orc.flat_fcons, Orc.pre_fcons, Orc.v_fcons, Orc.hp_fcons, Orc.qpre_fcons, Orc.qv_fcons, Orc.fpre_fcons, Orc.fes_fcons, Orc.flat_gcons, Orc.pre_gcons, Orc.v_gcons, Orc.hp_gcons, Orc.qpre_gcons, Orc.qv_gcons, Orc.fpre_gcons, Orc.fes_gcons, GSum.pre, GSum.v, GSum.hp, Orc.fpre_cons, Orc.fes_cons, Orc.fpre_econs, Orc.fes_econs, FSum.pre, FSum.v, FSum.hp, fres, O.calls, List.flatMap_cons, List.flatMap_nil, List.contains_cons, List.contains_nil, Bool.not_true, Bool.not_false, Heap.freeze, List.mapIdx_cons, List.mapIdx_nil, List.elem_cons, List.elem_nil, fluP, fluV, evF, bne_iff_ne, ne_eq, Option.some.injEq, go_sem, reduceCtorEq, reduceIte, Nat.reduceEqDiff, Nat.reduceAdd, Nat.reduceSub, Nat.reduceMul, Nat.reduceLT, Nat.reduceLeDiff, Nat.reduceBEq, Int.reduceEq, Int.reduceLT, Int.reduceLE, Int.reduceAdd, Int.reduceSub, Int.reduceNeg, Int.reduceToNat]
    exact ⟨rfl, fun h => ⟨h, rfl⟩, fun h => ⟨h, rfl⟩, hne⟩
  · exact absurd ⟨e1, e2⟩ hsy
/-- An argument that is a struct of a number, an array of three numbers, and a number. -/
theorem got_key {P : Program} {w : World} {H : Type} {enc : TypeId × Value → H} {base : Nat} {spare : Nat → Bool} {held : Bool} {r : Reach} {b0 : Nat} {t e : TypeId} {f0 f1 f2 : Field} {v : Value} {d : DataW H} {ps : List MemPlace}
    (hs : P.underlying t = some (.struct #[f0, f1, f2])) (hct : P.cellsOf t = 5) (h0 : P.underlying f0.type = some (.int .i64)) (c0 : P.cellsOf f0.type = 1) (o0 : f0.offset = 0)
    (h1 : P.underlying f1.type = some (.array 3 e)) (he : P.underlying e = some (.int .i64)) (hce : P.cellsOf e = 1) (c1 : P.cellsOf f1.type = 3) (o1 : f1.offset = 1)
    (h2 : P.underlying f2.type = some (.int .i64)) (c2 : P.cellsOf f2.type = 1) (o2 : f2.offset = 4)
    (hval : Value.okWide P w r b0 t v) (hd : DataW.Trod enc P w base spare held t v d ps) :
    ∃ xs : List V, xs.length = 5 ∧ (∀ i c, keyC[i]? = some c → CellOK c (xs.getD i .any)) ∧ PRep (fun b => b < w.heap.size) w v (.agg xs) := by
  obtain ⟨m, hm⟩ := hd
  have hv : ∃ vs, v = .agg vs ∧ vs.size = 5 := by
    simp only [Value.okWide, hs] at hval
    obtain ⟨cs, h1, h2, _⟩ := hval
    exact ⟨cs, h1, by rw [h2, hct]⟩
  obtain ⟨vs, rfl, hsz⟩ := hv
  obtain ⟨l⟩ := vs
  obtain ⟨ys, m', _, _, _, hxl, hf⟩ := DataW.trod_struct hs hm
  match l, hsz with
  | [a0, a1, a2, a3, a4], _ =>
    match ys, hxl with
    | [y0, y1, y2], _ =>
      have g0 : DataW.trod enc P w base spare held m' f0.type [a0] = some y0 := by have := hf 0 f0 rfl; rw [o0, c0] at this; exact this
      have g1 : DataW.trod enc P w base spare held m' f1.type [a1, a2, a3] = some y1 := by have := hf 1 f1 rfl; rw [o1, c1] at this; exact this
      have g2 : DataW.trod enc P w base spare held m' f2.type [a4] = some y2 := by have := hf 2 f2 rfl; rw [o2, c2] at this; exact this
      obtain ⟨y10, y11, y12, n, _, k0, k1, k2⟩ := ChangeShapes.trod_array3 h1 hce g1
      obtain ⟨z0, rfl, _, w0⟩ := by simpa using DataW.trod_int h0 g0
      obtain ⟨z1, rfl, _, w1⟩ := by simpa using DataW.trod_int he k0
      obtain ⟨z2, rfl, _, w2⟩ := by simpa using DataW.trod_int he k1
      obtain ⟨z3, rfl, _, w3⟩ := by simpa using DataW.trod_int he k2
      obtain ⟨z4, rfl, _, w4⟩ := by simpa using DataW.trod_int h2 g2
      refine ⟨[vi z0, vi z1, vi z2, vi z3, vi z4], rfl, fun i c hc => ?_, .agg _ _ rfl (fun i hi => ?_) (fun i hi => ?_)⟩
      · match i, hc with
        | 0, hc => cases hc; exact .int _ _ w0
        | 1, hc => cases hc; exact .int _ _ w1
        | 2, hc => cases hc; exact .int _ _ w2
        | 3, hc => cases hc; exact .int _ _ w3
        | 4, hc => cases hc; exact .int _ _ w4
      · match i, hi with
        | 0, _ => rfl
        | 1, _ => rfl
        | 2, _ => rfl
        | 3, _ => rfl
        | 4, _ => rfl
      · match i, hi with
        | 0, _ => exact .c _
        | 1, _ => exact .c _
        | 2, _ => exact .c _
        | 3, _ => exact .c _
        | 4, _ => exact .c _
end Go.Proofs.YtjcmoedalneldaaGreat
