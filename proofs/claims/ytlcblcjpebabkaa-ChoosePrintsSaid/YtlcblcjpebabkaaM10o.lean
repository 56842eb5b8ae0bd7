/- Layers 8 and 10: few selectors. -/
import Derived.Test.YtlcblcjpebabkaaM10n
namespace Go.Proofs.Ytlcblcjpebabkaa
open Go.Sx
set_option linter.unusedSimpArgs false
set_option maxHeartbeats 4000000
set_option maxRecDepth 20000

def fewX (x : Smp) : Prop := x.text.size ≤ 100 ∧ x.val.size ≤ 100
def fewC (c : Cmp) : Prop := c.l.length ≤ 20 ∧ ∀ i, i < c.l.length → fewX (c.l.getD i default)
def fewS (s : Sel) : Prop := s.length ≤ 70 ∧ ∀ i, i < s.length → fewC (s.getD i default)
def few8P (l : List Sel) : Prop := l.length ≤ 10 ∧ ∀ i, i < l.length → fewS (l.getD i [])
instance (x : Smp) : Decidable (fewX x) := by unfold fewX; infer_instance
instance (x : Cmp) : Decidable (fewC x) := by unfold fewC; infer_instance
instance (x : Sel) : Decidable (fewS x) := by unfold fewS; infer_instance
instance (x : List Sel) : Decidable (few8P x) := by unfold few8P; infer_instance
def few8 (l : List Sel) : Bool := decide (few8P l)
def big : Nat := 9223372036854775807
/-- What any argument is: no slice is longer than memory. -/
def memS (s : Sel) : Prop := s.length ≤ big ∧ ∀ i, i < s.length → (s.getD i default).l.length ≤ big
def memL (l : List Sel) : Prop := l.length ≤ big ∧ ∀ i, i < l.length → memS (l.getD i [])
theorem few8_no {l : List Sel} {k : Nat} (hk : k < l.length) (h : ¬ fewS (l.getD k [])) : few8 l = false := by
  unfold few8; rw [decide_eq_false_iff_not]; exact fun hh => h (hh.2 k hk)
def c22o : C := c8.body.tl.hd.tl.inn.inn
def c22m : C := (c22o /- 8 -/).tl.hd.inn.tl.tl.inn.inn
def c22n : C := (c22m /- 8 -/).tl.tl.hd.inn.tl.tl.tl.inn.inn
theorem few8_in (l : List Sel) (i j : Nat) (s : Sel) (c : Cmp) (hc : c.l.length ≤ 20) (w0 : World) (own0 : Sx.Own) (Q : Post) (e : Nat → V) (h : Heap) (clk : Nat) (hclk : h.clk = clk)
    (t0 : e 0 = sels l) (t3 : e 3 = vi i) (t29 : e 29 = .slc 2 (s.map Cmp.enc)) (t30 : e 30 = vi s.length) (t31 : e 31 = vi j) (t40 : e 40 = .slc 3 (c.l.map Smp.enc)) (t41 : e 41 = vi c.l.length) (t42 : e 42 = vi (0 : Nat))
    (hfound : ¬ fewC c → ∀ (e' : Nat → V) (h' : Heap), e' 2 = vb false → Q .ret e' h')
    (hnone : fewC c → ∀ (e' : Nat → V) (clk' : Nat), e' 0 = sels l → e' 3 = vi i → e' 29 = .slc 2 (s.map Cmp.enc) → e' 30 = vi s.length → e' 31 = vi j → Q (.exit 4) e' ⟨[], clk'⟩) :
    SemC ⟨Try.prog, Orc.nil _, 61, w0, own0⟩ (.loop c22n) Q e h := by
  refine SemC.lp (α := LpS) (fun a => [(0, .slc 1 (l.map selE)), (3, vi i), (29, .slc 2 (s.map Cmp.enc)), (30, vi s.length), (31, vi j), (40, .slc 3 (c.l.map Smp.enc)), (41, vi c.l.length), (42, vi a.n)]) (fun a => ⟨[], a.clk⟩)
    (fun a => a.n ≤ c.l.length ∧ ∀ i, i < a.n → fewX (c.l.getD i default)) (fun a => c.l.length - a.n) ⟨0, clk⟩ ⟨Nat.zero_le _, fun i hi => absurd hi (Nat.not_lt_zero _)⟩ (St.cut ⟨t0, t3, t29, t30, t31, t40, t41, t42, trivial⟩ rfl hclk) fun a ha => ?_
  obtain ⟨m, clk3⟩ := a
  simp only at ha
  obtain ⟨m1, m2⟩ := ha
  by_cases hm : m = c.l.length
  · subst hm
    simp only [c22n, c22m, c22o, c8, C.tl, C.hd, C.inn, Int.lt_irrefl, go_sem, wpR_gcall, reduceCtorEq, reduceIte, Nat.reduceEqDiff, Nat.reduceAdd, Nat.reduceSub, Nat.reduceMul, Nat.reduceLT, Nat.reduceLeDiff, Nat.reduceBEq, Int.reduceEq, Int.reduceLT, Int.reduceLE, Int.reduceAdd, Int.reduceSub, Int.reduceNeg, Int.reduceToNat]
    exact hnone ⟨hc, m2⟩ _ _ (by simp [upd_at, ev_cons, sels]) (by simp [upd_at, ev_cons]) (by simp [upd_at, ev_cons]) (by simp [upd_at, ev_cons]) (by simp [upd_at, ev_cons])
  · have g1 : (m : Int) < (c.l.length : Int) := by omega
    have g0 : (0 : Int) ≤ (m : Int) := by omega
    have hml : m < c.l.length := by omega
    have hgm := getD_smps c.l m
    have hno : ¬ fewX (c.l.getD m default) → ¬ fewC c := fun h hh => h (hh.2 m hml)
    have hgo : fewX (c.l.getD m default) → ∀ i, i < m + 1 → fewX (c.l.getD i default) := fun h i hi => by
      by_cases h2 : i = m
      · subst h2; exact h
      · exact m2 i (by omega)
    generalize hy : c.l.getD m default = x at *
    simp only [c22n, c22m, c22o, c8, C.tl, C.hd, C.inn, g0, g1, hgm, Smp.enc, go_sem, wpR_gcall, reduceCtorEq, reduceIte, Nat.reduceEqDiff, Nat.reduceAdd, Nat.reduceSub, Nat.reduceMul, Nat.reduceLT, Nat.reduceLeDiff, Nat.reduceBEq, Int.reduceEq, Int.reduceLT, Int.reduceLE, Int.reduceAdd, Int.reduceSub, Int.reduceNeg, Int.reduceToNat]
    unfold fewX at hno hgo
    exact ⟨by omega, fun hh => hfound (hno (by omega)) _ _ (by simp [upd_at]), fun hh => ⟨by omega, ⟨m + 1, clk3 + 1⟩, ⟨by dsimp only; omega, hgo (by omega)⟩, by dsimp only; omega, by dsimp only; omega, rfl⟩⟩
theorem few8_ok (l : List Sel) : PCall Try.prog 8 [sels l] (vb (few8 l)) := by
  refine PCall.of (Orc.nil _) c8_ok (by simp [c8]) fun w0 own0 => ?_
  simp only [c8, sels, go_sem, wpR_gcall, reduceCtorEq, reduceIte, Nat.reduceEqDiff, Nat.reduceAdd, Nat.reduceSub, Nat.reduceMul, Nat.reduceLT, Nat.reduceLeDiff, Nat.reduceBEq, Int.reduceEq, Int.reduceLT, Int.reduceLE, Int.reduceAdd, Int.reduceSub, Int.reduceNeg, Int.reduceToNat]
  refine SemC.lp (α := LpS) (fun a => [(0, .slc 1 (l.map selE)), (3, vi a.n)]) (fun a => ⟨[], a.clk⟩)
    (fun a => a.n ≤ l.length ∧ a.n ≤ 11 ∧ ∀ i, i < a.n → fewS (l.getD i [])) (fun a => l.length - a.n) ⟨0, 0⟩ ⟨Nat.zero_le _, by simp, fun i hi => absurd hi (Nat.not_lt_zero _)⟩ (St.mk (by simp [Agrees, upd_at, initE_at])) fun a ha => ?_
  obtain ⟨k, clk⟩ := a
  simp only at ha
  obtain ⟨k1, k2, k3⟩ := ha
  by_cases hil : k < l.length ∧ k ≤ 10
  · have e1 : (k : Int) < (l.length : Int) := by omega
    have e2 : (k : Int) ≤ 10 := by omega
    have e0 : (0 : Int) ≤ (k : Int) := by omega
    have hlt := hil.1
    have hg := getD_sels l k [.c (.slice none 0 0)] hlt
    have hno := few8_no hlt
    have hgo : fewS (l.getD k []) → ∀ i, i < k + 1 → fewS (l.getD i []) := fun h i hi => by
      by_cases h2 : i = k
      · subst h2; exact h
      · exact k3 i (by omega)
    generalize hx : l.getD k [] = s at *
    by_cases h1 : (70 : Int) < (s.length : Int)
    · have e := hno (fun hh => by have := hh.1; omega)
      simp only [e0, e1, e2, hg, selE, h1, e, go_sem, wpR_gcall, reduceCtorEq, reduceIte, Nat.reduceEqDiff, Nat.reduceAdd, Nat.reduceSub, Nat.reduceMul, Nat.reduceLT, Nat.reduceLeDiff, Nat.reduceBEq, Int.reduceEq, Int.reduceLT, Int.reduceLE, Int.reduceAdd, Int.reduceSub, Int.reduceNeg, Int.reduceToNat]
    simp only [e0, e1, e2, hg, selE, h1, go_sem, wpR_gcall, reduceCtorEq, reduceIte, Nat.reduceEqDiff, Nat.reduceAdd, Nat.reduceSub, Nat.reduceMul, Nat.reduceLT, Nat.reduceLeDiff, Nat.reduceBEq, Int.reduceEq, Int.reduceLT, Int.reduceLE, Int.reduceAdd, Int.reduceSub, Int.reduceNeg, Int.reduceToNat]
    refine SemC.lp (α := LpS) (fun a => [(0, .slc 1 (l.map selE)), (3, vi k), (29, .slc 2 (s.map Cmp.enc)), (30, vi s.length), (31, vi a.n)]) (fun a => ⟨[], a.clk⟩)
      (fun a => a.n ≤ s.length ∧ ∀ i, i < a.n → fewC (s.getD i default)) (fun a => s.length - a.n) ⟨0, clk⟩ ⟨Nat.zero_le _, fun i hi => absurd hi (Nat.not_lt_zero _)⟩ (St.cut (by simp [Agrees, upd_at, ev, selE]) rfl rfl) fun a ha => ?_
    obtain ⟨j, clk2⟩ := a
    simp only at ha
    obtain ⟨j1, j2⟩ := ha
    by_cases hj : j = s.length
    · subst hj
      simp only [Int.lt_irrefl, e0, e1, hg, selE, go_sem, wpR_gcall, reduceCtorEq, reduceIte, Nat.reduceEqDiff, Nat.reduceAdd, Nat.reduceSub, Nat.reduceMul, Nat.reduceLT, Nat.reduceLeDiff, Nat.reduceBEq, Int.reduceEq, Int.reduceLT, Int.reduceLE, Int.reduceAdd, Int.reduceSub, Int.reduceNeg, Int.reduceToNat]
      exact ⟨by omega, ⟨k + 1, clk2⟩, ⟨by dsimp only; omega, by dsimp only; omega, hgo ⟨by omega, j2⟩⟩, by dsimp only; omega, by dsimp only; omega, rfl⟩
    · have f1 : (j : Int) < (s.length : Int) := by omega
      have f0 : (0 : Int) ≤ (j : Int) := by omega
      have hjl : j < s.length := by omega
      have hgj := getD_cmps s j [.c (.int .i64 0), .c (.slice none 0 0)] hjl
      have hno2 : ¬ fewC (s.getD j default) → few8 l = false := fun h => hno (fun hh => h (hh.2 j hjl))
      have hgo2 : fewC (s.getD j default) → ∀ i, i < j + 1 → fewC (s.getD i default) := fun h i hi => by
        by_cases h2 : i = j
        · subst h2; exact h
        · exact j2 i (by omega)
      generalize hc : s.getD j default = c at *
      by_cases h2 : (20 : Int) < (c.l.length : Int)
      · have e := hno2 (fun hh => by have := hh.1; omega)
        simp only [f0, f1, hgj, Cmp.enc, h2, e, go_sem, wpR_gcall, reduceCtorEq, reduceIte, Nat.reduceEqDiff, Nat.reduceAdd, Nat.reduceSub, Nat.reduceMul, Nat.reduceLT, Nat.reduceLeDiff, Nat.reduceBEq, Int.reduceEq, Int.reduceLT, Int.reduceLE, Int.reduceAdd, Int.reduceSub, Int.reduceNeg, Int.reduceToNat]
      simp only [f0, f1, hgj, Cmp.enc, h2, go_sem, wpR_gcall, reduceCtorEq, reduceIte, Nat.reduceEqDiff, Nat.reduceAdd, Nat.reduceSub, Nat.reduceMul, Nat.reduceLT, Nat.reduceLeDiff, Nat.reduceBEq, Int.reduceEq, Int.reduceLT, Int.reduceLE, Int.reduceAdd, Int.reduceSub, Int.reduceNeg, Int.reduceToNat]
      refine few8_in l k j s c (by omega) w0 own0 _ _ _ _ rfl (by simp [upd_at, ev_cons, sels]) (by simp [upd_at, ev_cons]) (by simp [upd_at, ev_cons]) (by simp [upd_at, ev_cons]) (by simp [upd_at, ev_cons]) (by simp [upd_at, ev_cons]) (by simp [upd_at, ev_cons]) (by simp [upd_at, ev_cons])
        (fun hb e' h' t2 => ?_) (fun hb e' clk' t0 t3 t29 t30 t31 => ?_)
      · have e := hno2 hb
        simp only [t2, e, go_sem, wpR_gcall, reduceCtorEq, reduceIte, Nat.reduceEqDiff, Nat.reduceAdd, Nat.reduceSub, Nat.reduceMul, Nat.reduceLT, Nat.reduceLeDiff, Nat.reduceBEq, Int.reduceEq, Int.reduceLT, Int.reduceLE, Int.reduceAdd, Int.reduceSub, Int.reduceNeg, Int.reduceToNat]
      · simp only [t0, t3, t29, t30, t31, sels, go_sem, wpR_gcall, reduceCtorEq, reduceIte, Nat.reduceEqDiff, Nat.reduceAdd, Nat.reduceSub, Nat.reduceMul, Nat.reduceLT, Nat.reduceLeDiff, Nat.reduceBEq, Int.reduceEq, Int.reduceLT, Int.reduceLE, Int.reduceAdd, Int.reduceSub, Int.reduceNeg, Int.reduceToNat]
        exact ⟨by omega, ⟨j + 1, clk'⟩, ⟨by dsimp only; omega, hgo2 hb⟩, by dsimp only; omega, by dsimp only; omega, rfl⟩
  · by_cases hlt : k < l.length
    · have e1 : (k : Int) < (l.length : Int) := by omega
      have e2 : ¬ (k : Int) ≤ 10 := by omega
      have e3 : ¬ (l.length : Int) ≤ 10 := by omega
      have e4 : few8 l = false := by
        unfold few8; rw [decide_eq_false_iff_not]; intro hh; have := hh.1; omega
      simp only [e1, e2, e3, e4, go_sem, wpR_gcall, reduceCtorEq, reduceIte, Nat.reduceEqDiff, Nat.reduceAdd, Nat.reduceSub, Nat.reduceMul, Nat.reduceLT, Nat.reduceLeDiff, Nat.reduceBEq, Int.reduceEq, Int.reduceLT, Int.reduceLE, Int.reduceAdd, Int.reduceSub, Int.reduceNeg, Int.reduceToNat]
    · have e1 : ¬ (k : Int) < (l.length : Int) := by omega
      by_cases e3 : (l.length : Int) ≤ 10
      · have e4 : few8 l = true := by
          unfold few8; rw [decide_eq_true_eq]; exact ⟨by omega, fun j hj => k3 j (by omega)⟩
        simp only [e1, e3, e4, go_sem, wpR_gcall, reduceCtorEq, reduceIte, Nat.reduceEqDiff, Nat.reduceAdd, Nat.reduceSub, Nat.reduceMul, Nat.reduceLT, Nat.reduceLeDiff, Nat.reduceBEq, Int.reduceEq, Int.reduceLT, Int.reduceLE, Int.reduceAdd, Int.reduceSub, Int.reduceNeg, Int.reduceToNat]
      · have e4 : few8 l = false := by
          unfold few8; rw [decide_eq_false_iff_not]; intro hh; have := hh.1; omega
        simp only [e1, e3, e4, go_sem, wpR_gcall, reduceCtorEq, reduceIte, Nat.reduceEqDiff, Nat.reduceAdd, Nat.reduceSub, Nat.reduceMul, Nat.reduceLT, Nat.reduceLeDiff, Nat.reduceBEq, Int.reduceEq, Int.reduceLT, Int.reduceLE, Int.reduceAdd, Int.reduceSub, Int.reduceNeg, Int.reduceToNat]
def sumFew8 : Sum Try.prog := ⟨8, fun args => args = [sels (dSels (args.getD 0 .any))], fun args => vb (few8 (dSels (args.getD 0 .any))), fun args h => by
  have := few8_ok (dSels (args.getD 0 .any)); rwa [← h] at this, true⟩
theorem sumFew8_f : sumFew8.f = 8 := rfl
theorem sumFew8_D (args : List V) : sumFew8.D args = (args = [sels (dSels (args.getD 0 .any))]) := rfl
theorem sumFew8_flat : sumFew8.flat = true := rfl
theorem sumFew8_r (args : List V) : sumFew8.r args = vb (few8 (dSels (args.getD 0 .any))) := rfl
attribute [go_sem] sumFew8_f sumFew8_D sumFew8_flat sumFew8_r
end Go.Proofs.Ytlcblcjpebabkaa
