/- Layers 8 and 10: what selectors weigh. -/
import Derived.Test.YtlcblcjpebabkaaM10h
namespace Go.Proofs.Ytlcblcjpebabkaa
open Go.Sx
set_option linter.unusedSimpArgs false
set_option maxHeartbeats 4000000
set_option maxRecDepth 20000

def addW (w : W3) (k : Int) : W3 := if k = 3 then ⟨w.a + 1, w.b, w.c⟩ else if k = 4 ∨ k = 5 ∨ k = 6 then ⟨w.a, w.b + 1, w.c⟩ else if k = 2 then ⟨w.a, w.b, w.c + 1⟩ else w
def wtC (w : W3) (l : List Smp) : W3 := l.foldl (fun w x => addW w x.kind) w
def wtF (w : W3) (s : Sel) : W3 := s.foldl (fun w c => wtC w c.l) w
def wtS (s : Sel) : W3 := wtF ⟨0, 0, 0⟩ s
def W3.le (w : W3) (n : Int) : Prop := 0 ≤ w.a ∧ w.a ≤ n ∧ 0 ≤ w.b ∧ w.b ≤ n ∧ 0 ≤ w.c ∧ w.c ≤ n
theorem addW_le {w : W3} {n : Int} (k : Int) (h : w.le n) : (addW w k).le (n + 1) := by
  obtain ⟨h1, h2, h3, h4, h5, h6⟩ := h
  unfold addW
  split
  · refine ⟨?_, ?_, ?_, ?_, ?_, ?_⟩ <;> dsimp only <;> omega
  split
  · refine ⟨?_, ?_, ?_, ?_, ?_, ?_⟩ <;> dsimp only <;> omega
  split
  · refine ⟨?_, ?_, ?_, ?_, ?_, ?_⟩ <;> dsimp only <;> omega
  · refine ⟨?_, ?_, ?_, ?_, ?_, ?_⟩ <;> omega
theorem W3.le_mono {w : W3} {n m : Int} (h : w.le n) (hm : n ≤ m) : w.le m := by
  obtain ⟨h1, h2, h3, h4, h5, h6⟩ := h
  exact ⟨h1, by omega, h3, by omega, h5, by omega⟩
theorem wtC_drop (w : W3) (l : List Smp) (k : Nat) (h : k < l.length) : wtC w (l.drop k) = wtC (addW w (l.getD k default).kind) (l.drop (k + 1)) := by
  rw [List.drop_eq_getElem_cons h, List.getD_eq_getElem?_getD, List.getElem?_eq_getElem h]; rfl
theorem wtF_drop (w : W3) (s : Sel) (k : Nat) (h : k < s.length) : wtF w (s.drop k) = wtF (wtC w (s.getD k default).l) (s.drop (k + 1)) := by
  rw [List.drop_eq_getElem_cons h, List.getD_eq_getElem?_getD, List.getElem?_eq_getElem h]; rfl
structure WtS where
  n : Nat
  w : W3
  clk : Nat
theorem W3.eta (w : W3) : (⟨w.a, w.b, w.c⟩ : W3) = w := rfl
theorem weightT_ok (s : Sel) (hs : okC s) : PCall Try.prog 10 [.agg (selE s)] (.agg (wtS s).enc) := by
  refine PCall.of (Orc.nil _) c10_ok (by simp [c10]) fun w0 own0 => ?_
  obtain ⟨hs1, hs2⟩ := hs
  simp only [c10, selE, go_sem, wpR_gcall, reduceCtorEq, reduceIte, Nat.reduceEqDiff, Nat.reduceAdd, Nat.reduceSub, Nat.reduceMul, Nat.reduceLT, Nat.reduceLeDiff, Nat.reduceBEq, Int.reduceEq, Int.reduceLT, Int.reduceLE, Int.reduceAdd, Int.reduceSub, Int.reduceNeg, Int.reduceToNat]
  refine SemC.lp (α := WtS) (fun a => [(2, .ptr 1 1 0 0), (3, .ptr 2 2 0 0), (9, .slc 2 (s.map Cmp.enc)), (10, vi s.length), (11, vi a.n)])
    (fun a => ⟨[⟨0, 1, [[.slc 2 (s.map Cmp.enc)]], false, []⟩, ⟨1, 3, [[vi 0, vi 0, vi 0]], false, []⟩, ⟨2, 3, [a.w.enc], false, []⟩], a.clk⟩)
    (fun a => a.n ≤ s.length ∧ a.w.le (a.n * 1000000) ∧ wtS s = wtF a.w (s.drop a.n)) (fun a => s.length - a.n) ⟨0, ⟨0, 0, 0⟩, 3⟩ ⟨Nat.zero_le _, ⟨by simp, by simp, by simp, by simp, by simp, by simp⟩, rfl⟩ (St.cut (by simp [Agrees, upd_at, initE_at]) rfl rfl) fun a ha => ?_
  obtain ⟨k, w, clk⟩ := a
  simp only at ha
  obtain ⟨k1, k2, k3⟩ := ha
  by_cases he : k = s.length
  · subst he
    rw [List.drop_length] at k3
    have e : wtS s = w := k3
    simp only [W3.enc, Int.lt_irrefl, e, go_sem, wpR_gcall, reduceCtorEq, reduceIte, Nat.reduceEqDiff, Nat.reduceAdd, Nat.reduceSub, Nat.reduceMul, Nat.reduceLT, Nat.reduceLeDiff, Nat.reduceBEq, Int.reduceEq, Int.reduceLT, Int.reduceLE, Int.reduceAdd, Int.reduceSub, Int.reduceNeg, Int.reduceToNat]
  · have e1 : (k : Int) < (s.length : Int) := by omega
    have e0 : (0 : Int) ≤ (k : Int) := by omega
    have hlt : k < s.length := by omega
    have hg := getD_cmps s k [.c (.int .i64 0), .c (.slice none 0 0)] hlt
    have hcl := hs2 k hlt
    rw [wtF_drop w s k hlt] at k3
    generalize hx : s.getD k default = c at *
    simp only [W3.enc, e0, e1, hg, Cmp.enc, go_sem, wpR_gcall, reduceCtorEq, reduceIte, Nat.reduceEqDiff, Nat.reduceAdd, Nat.reduceSub, Nat.reduceMul, Nat.reduceLT, Nat.reduceLeDiff, Nat.reduceBEq, Int.reduceEq, Int.reduceLT, Int.reduceLE, Int.reduceAdd, Int.reduceSub, Int.reduceNeg, Int.reduceToNat]
    refine SemC.lp (α := WtS) (fun a => [(2, .ptr 1 1 0 0), (3, .ptr 2 2 0 0), (9, .slc 2 (s.map Cmp.enc)), (10, vi s.length), (11, vi k), (16, .slc 3 (c.l.map Smp.enc)), (17, vi c.l.length), (18, vi a.n)])
      (fun a => ⟨[⟨0, 1, [[.slc 2 (s.map Cmp.enc)]], false, []⟩, ⟨1, 3, [[vi 0, vi 0, vi 0]], false, []⟩, ⟨2, 3, [a.w.enc], false, []⟩], a.clk⟩)
      (fun a => a.n ≤ c.l.length ∧ a.w.le (k * 1000000 + a.n) ∧ wtC w c.l = wtC a.w (c.l.drop a.n)) (fun a => c.l.length - a.n) ⟨0, w, clk + 1⟩ ⟨Nat.zero_le _, by simpa using k2, rfl⟩ (St.cut (by simp [Agrees, upd_at, ev, W3.enc]) rfl rfl) fun a ha => ?_
    obtain ⟨j, u, clk2⟩ := a
    simp only at ha
    obtain ⟨j1, j2, j3⟩ := ha
    by_cases hj : j = c.l.length
    · subst hj
      rw [List.drop_length] at j3
      have j3 : wtC w c.l = u := j3
      rw [j3] at k3
      simp only [W3.enc, Int.lt_irrefl, go_sem, wpR_gcall, reduceCtorEq, reduceIte, Nat.reduceEqDiff, Nat.reduceAdd, Nat.reduceSub, Nat.reduceMul, Nat.reduceLT, Nat.reduceLeDiff, Nat.reduceBEq, Int.reduceEq, Int.reduceLT, Int.reduceLE, Int.reduceAdd, Int.reduceSub, Int.reduceNeg, Int.reduceToNat]
      exact ⟨by omega, ⟨k + 1, u, clk2⟩, ⟨by dsimp only; omega, W3.le_mono j2 (by dsimp only; omega), k3⟩, by dsimp only; omega, by dsimp only; omega, ⟨rfl, rfl, rfl⟩, rfl⟩
    · have f1 : (j : Int) < (c.l.length : Int) := by omega
      have f0 : (0 : Int) ≤ (j : Int) := by omega
      have hjl : j < c.l.length := by omega
      have hgj := getD_smps c.l j
      rw [wtC_drop u c.l j hjl] at j3
      generalize hy : c.l.getD j default = y at *
      obtain ⟨b1, b2, b3, b4, b5, b6⟩ := id j2
      have le := addW_le y.kind j2
      have fin : (-9223372036854775808 ≤ (j : Int) + 1 ∧ (j : Int) + 1 ≤ 9223372036854775807) ∧
          ∃ b : WtS, (b.n ≤ c.l.length ∧ b.w.le (k * 1000000 + b.n) ∧ wtC w c.l = wtC b.w (c.l.drop b.n)) ∧ c.l.length - b.n < c.l.length - j ∧ (j : Int) + 1 = (b.n : Int) ∧ ((addW u y.kind).a = b.w.a ∧ (addW u y.kind).b = b.w.b ∧ (addW u y.kind).c = b.w.c) ∧ clk2 + 1 = b.clk :=
        ⟨by omega, ⟨j + 1, addW u y.kind, clk2 + 1⟩, ⟨by dsimp only; omega, W3.le_mono le (by dsimp only; omega), j3⟩, by dsimp only; omega, by dsimp only; omega, ⟨rfl, rfl, rfl⟩, rfl⟩
      unfold addW at fin
      by_cases x3 : y.kind = 3
      · rw [if_pos x3] at fin
        simp only [W3.enc, f0, f1, hgj, Smp.enc, x3, go_sem, wpR_gcall, reduceCtorEq, reduceIte, Nat.reduceEqDiff, Nat.reduceAdd, Nat.reduceSub, Nat.reduceMul, Nat.reduceLT, Nat.reduceLeDiff, Nat.reduceBEq, Int.reduceEq, Int.reduceLT, Int.reduceLE, Int.reduceAdd, Int.reduceSub, Int.reduceNeg, Int.reduceToNat]
        exact ⟨by omega, fin⟩
      rw [if_neg x3] at fin
      by_cases x4 : y.kind = 4
      · rw [if_pos (.inl x4)] at fin
        simp only [W3.enc, f0, f1, hgj, Smp.enc, x4, go_sem, wpR_gcall, reduceCtorEq, reduceIte, Nat.reduceEqDiff, Nat.reduceAdd, Nat.reduceSub, Nat.reduceMul, Nat.reduceLT, Nat.reduceLeDiff, Nat.reduceBEq, Int.reduceEq, Int.reduceLT, Int.reduceLE, Int.reduceAdd, Int.reduceSub, Int.reduceNeg, Int.reduceToNat]
        exact ⟨by omega, fin⟩
      by_cases x5 : y.kind = 5
      · rw [if_pos (.inr (.inl x5))] at fin
        simp only [W3.enc, f0, f1, hgj, Smp.enc, x5, go_sem, wpR_gcall, reduceCtorEq, reduceIte, Nat.reduceEqDiff, Nat.reduceAdd, Nat.reduceSub, Nat.reduceMul, Nat.reduceLT, Nat.reduceLeDiff, Nat.reduceBEq, Int.reduceEq, Int.reduceLT, Int.reduceLE, Int.reduceAdd, Int.reduceSub, Int.reduceNeg, Int.reduceToNat]
        exact ⟨by omega, fin⟩
      by_cases x6 : y.kind = 6
      · rw [if_pos (.inr (.inr x6))] at fin
        simp only [W3.enc, f0, f1, hgj, Smp.enc, x6, go_sem, wpR_gcall, reduceCtorEq, reduceIte, Nat.reduceEqDiff, Nat.reduceAdd, Nat.reduceSub, Nat.reduceMul, Nat.reduceLT, Nat.reduceLeDiff, Nat.reduceBEq, Int.reduceEq, Int.reduceLT, Int.reduceLE, Int.reduceAdd, Int.reduceSub, Int.reduceNeg, Int.reduceToNat]
        exact ⟨by omega, fin⟩
      rw [if_neg (by omega)] at fin
      by_cases x2 : y.kind = 2
      · rw [if_pos x2] at fin
        simp only [W3.enc, f0, f1, hgj, Smp.enc, x2, go_sem, wpR_gcall, reduceCtorEq, reduceIte, Nat.reduceEqDiff, Nat.reduceAdd, Nat.reduceSub, Nat.reduceMul, Nat.reduceLT, Nat.reduceLeDiff, Nat.reduceBEq, Int.reduceEq, Int.reduceLT, Int.reduceLE, Int.reduceAdd, Int.reduceSub, Int.reduceNeg, Int.reduceToNat]
        exact ⟨by omega, fin⟩
      · rw [if_neg x2] at fin
        simp only [W3.enc, f0, f1, hgj, Smp.enc, x2, x3, x4, x5, x6, go_sem, wpR_gcall, reduceCtorEq, reduceIte, Nat.reduceEqDiff, Nat.reduceAdd, Nat.reduceSub, Nat.reduceMul, Nat.reduceLT, Nat.reduceLeDiff, Nat.reduceBEq, Int.reduceEq, Int.reduceLT, Int.reduceLE, Int.reduceAdd, Int.reduceSub, Int.reduceNeg, Int.reduceToNat]
        exact fin
theorem weightR_ok (s : Sel) (hs : okC s) : PCall Try.prog 16 [.agg (selE s)] (.agg (wtS s).enc) := by
  refine PCall.of (Orc.nil _) c16_ok (by simp [c16]) fun w0 own0 => ?_
  obtain ⟨hs1, hs2⟩ := hs
  simp only [c16, selE, go_sem, wpR_gcall, reduceCtorEq, reduceIte, Nat.reduceEqDiff, Nat.reduceAdd, Nat.reduceSub, Nat.reduceMul, Nat.reduceLT, Nat.reduceLeDiff, Nat.reduceBEq, Int.reduceEq, Int.reduceLT, Int.reduceLE, Int.reduceAdd, Int.reduceSub, Int.reduceNeg, Int.reduceToNat]
  refine SemC.lp (α := WtS) (fun a => [(1, .ptr 0 0 0 0), (2, .ptr 1 1 0 0), (3, vi a.w.a), (4, vi a.w.b), (5, vi a.w.c), (6, vi a.n)])
    (fun _ => ⟨[⟨0, 1, [[.slc 2 (s.map Cmp.enc)]], false, []⟩, ⟨1, 3, [[vi 0, vi 0, vi 0]], false, []⟩], 2⟩)
    (fun a => a.n ≤ s.length ∧ a.w.le (a.n * 1000000) ∧ wtS s = wtF a.w (s.drop a.n)) (fun a => s.length - a.n) ⟨0, ⟨0, 0, 0⟩, 3⟩ ⟨Nat.zero_le _, ⟨by simp, by simp, by simp, by simp, by simp, by simp⟩, rfl⟩ (St.cut (by simp [Agrees, upd_at, initE_at]) rfl rfl) fun a ha => ?_
  obtain ⟨k, w, clk⟩ := a
  simp only at ha
  obtain ⟨k1, k2, k3⟩ := ha
  by_cases he : k = s.length
  · subst he
    rw [List.drop_length] at k3
    have e : wtS s = w := k3
    simp only [W3.enc, Int.lt_irrefl, e, go_sem, wpR_gcall, reduceCtorEq, reduceIte, Nat.reduceEqDiff, Nat.reduceAdd, Nat.reduceSub, Nat.reduceMul, Nat.reduceLT, Nat.reduceLeDiff, Nat.reduceBEq, Int.reduceEq, Int.reduceLT, Int.reduceLE, Int.reduceAdd, Int.reduceSub, Int.reduceNeg, Int.reduceToNat]
  · have e1 : (k : Int) < (s.length : Int) := by omega
    have e0 : (0 : Int) ≤ (k : Int) := by omega
    have hlt : k < s.length := by omega
    have hg := getD_cmps s k [.c (.int .i64 0), .c (.slice none 0 0)] hlt
    have hcl := hs2 k hlt
    rw [wtF_drop w s k hlt] at k3
    generalize hx : s.getD k default = c at *
    simp only [W3.enc, e0, e1, hg, Cmp.enc, go_sem, wpR_gcall, reduceCtorEq, reduceIte, Nat.reduceEqDiff, Nat.reduceAdd, Nat.reduceSub, Nat.reduceMul, Nat.reduceLT, Nat.reduceLeDiff, Nat.reduceBEq, Int.reduceEq, Int.reduceLT, Int.reduceLE, Int.reduceAdd, Int.reduceSub, Int.reduceNeg, Int.reduceToNat]
    refine SemC.lp (α := WtS) (fun a => [(1, .ptr 0 0 0 0), (2, .ptr 1 1 0 0), (3, vi a.w.a), (4, vi a.w.b), (5, vi a.w.c), (6, vi k), (7, vi a.n)])
      (fun _ => ⟨[⟨0, 1, [[.slc 2 (s.map Cmp.enc)]], false, []⟩, ⟨1, 3, [[vi 0, vi 0, vi 0]], false, []⟩], 2⟩)
      (fun a => a.n ≤ c.l.length ∧ a.w.le (k * 1000000 + a.n) ∧ wtC w c.l = wtC a.w (c.l.drop a.n)) (fun a => c.l.length - a.n) ⟨0, w, clk + 1⟩ ⟨Nat.zero_le _, by simpa using k2, rfl⟩ (St.cut (by simp [Agrees, upd_at, ev, W3.enc]) rfl rfl) fun a ha => ?_
    obtain ⟨j, u, clk2⟩ := a
    simp only at ha
    obtain ⟨j1, j2, j3⟩ := ha
    by_cases hj : j = c.l.length
    · subst hj
      rw [List.drop_length] at j3
      have j3 : wtC w c.l = u := j3
      rw [j3] at k3
      simp only [W3.enc, e0, e1, hg, Cmp.enc, Int.lt_irrefl, go_sem, wpR_gcall, reduceCtorEq, reduceIte, Nat.reduceEqDiff, Nat.reduceAdd, Nat.reduceSub, Nat.reduceMul, Nat.reduceLT, Nat.reduceLeDiff, Nat.reduceBEq, Int.reduceEq, Int.reduceLT, Int.reduceLE, Int.reduceAdd, Int.reduceSub, Int.reduceNeg, Int.reduceToNat]
      exact ⟨by omega, ⟨k + 1, u, clk2⟩, ⟨by dsimp only; omega, W3.le_mono j2 (by dsimp only; omega), k3⟩, by dsimp only; omega, rfl, rfl, rfl, by dsimp only; omega⟩
    · have f1 : (j : Int) < (c.l.length : Int) := by omega
      have f0 : (0 : Int) ≤ (j : Int) := by omega
      have hjl : j < c.l.length := by omega
      have hgj := getD_smps c.l j
      rw [wtC_drop u c.l j hjl] at j3
      generalize hy : c.l.getD j default = y at *
      obtain ⟨b1, b2, b3, b4, b5, b6⟩ := id j2
      have le := addW_le y.kind j2
      have fin : (-9223372036854775808 ≤ (j : Int) + 1 ∧ (j : Int) + 1 ≤ 9223372036854775807) ∧
          ∃ b : WtS, (b.n ≤ c.l.length ∧ b.w.le (k * 1000000 + b.n) ∧ wtC w c.l = wtC b.w (c.l.drop b.n)) ∧ c.l.length - b.n < c.l.length - j ∧ (addW u y.kind).a = b.w.a ∧ (addW u y.kind).b = b.w.b ∧ (addW u y.kind).c = b.w.c ∧ (j : Int) + 1 = (b.n : Int) :=
        ⟨by omega, ⟨j + 1, addW u y.kind, clk2 + 1⟩, ⟨by dsimp only; omega, W3.le_mono le (by dsimp only; omega), j3⟩, by dsimp only; omega, rfl, rfl, rfl, by dsimp only; omega⟩
      unfold addW at fin
      by_cases x3 : y.kind = 3
      · rw [if_pos x3] at fin
        simp only [W3.enc, e0, e1, hg, Cmp.enc, f0, f1, hgj, Smp.enc, x3, go_sem, wpR_gcall, reduceCtorEq, reduceIte, Nat.reduceEqDiff, Nat.reduceAdd, Nat.reduceSub, Nat.reduceMul, Nat.reduceLT, Nat.reduceLeDiff, Nat.reduceBEq, Int.reduceEq, Int.reduceLT, Int.reduceLE, Int.reduceAdd, Int.reduceSub, Int.reduceNeg, Int.reduceToNat]
        exact ⟨by omega, fin⟩
      rw [if_neg x3] at fin
      by_cases x4 : 4 ≤ y.kind ∧ y.kind ≤ 6
      · have x4' := x4.1
        have x5' := x4.2
        rw [if_pos (by omega)] at fin
        simp only [W3.enc, e0, e1, hg, Cmp.enc, f0, f1, hgj, Smp.enc, x3, x4', x5', go_sem, wpR_gcall, reduceCtorEq, reduceIte, Nat.reduceEqDiff, Nat.reduceAdd, Nat.reduceSub, Nat.reduceMul, Nat.reduceLT, Nat.reduceLeDiff, Nat.reduceBEq, Int.reduceEq, Int.reduceLT, Int.reduceLE, Int.reduceAdd, Int.reduceSub, Int.reduceNeg, Int.reduceToNat]
        exact ⟨by omega, fin⟩
      rw [if_neg (by omega)] at fin
      have hx4 : ∀ p : Prop, (4 ≤ y.kind → y.kind ≤ 6 → p) := fun p a b => absurd ⟨a, b⟩ x4
      by_cases x2 : y.kind = 2
      · rw [if_pos x2] at fin
        simp only [W3.enc, e0, e1, hg, Cmp.enc, f0, f1, hgj, Smp.enc, x2, go_sem, wpR_gcall, reduceCtorEq, reduceIte, Nat.reduceEqDiff, Nat.reduceAdd, Nat.reduceSub, Nat.reduceMul, Nat.reduceLT, Nat.reduceLeDiff, Nat.reduceBEq, Int.reduceEq, Int.reduceLT, Int.reduceLE, Int.reduceAdd, Int.reduceSub, Int.reduceNeg, Int.reduceToNat]
        exact ⟨by omega, fin⟩
      · rw [if_neg x2] at fin
        by_cases x7 : 4 ≤ y.kind
        · have x8 : ¬ y.kind ≤ 6 := fun h => x4 ⟨x7, h⟩
          simp only [W3.enc, e0, e1, hg, Cmp.enc, f0, f1, hgj, Smp.enc, x2, x3, x7, x8, go_sem, wpR_gcall, reduceCtorEq, reduceIte, Nat.reduceEqDiff, Nat.reduceAdd, Nat.reduceSub, Nat.reduceMul, Nat.reduceLT, Nat.reduceLeDiff, Nat.reduceBEq, Int.reduceEq, Int.reduceLT, Int.reduceLE, Int.reduceAdd, Int.reduceSub, Int.reduceNeg, Int.reduceToNat]
          exact fin
        · simp only [W3.enc, e0, e1, hg, Cmp.enc, f0, f1, hgj, Smp.enc, x2, x3, x7, go_sem, wpR_gcall, reduceCtorEq, reduceIte, Nat.reduceEqDiff, Nat.reduceAdd, Nat.reduceSub, Nat.reduceMul, Nat.reduceLT, Nat.reduceLeDiff, Nat.reduceBEq, Int.reduceEq, Int.reduceLT, Int.reduceLE, Int.reduceAdd, Int.reduceSub, Int.reduceNeg, Int.reduceToNat]
          exact fin
end Go.Proofs.Ytlcblcjpebabkaa
