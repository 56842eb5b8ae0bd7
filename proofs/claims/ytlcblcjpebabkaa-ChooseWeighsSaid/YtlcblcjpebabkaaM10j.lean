/- Layer 8, by the document: which selectors are right. -/
import Derived.Test.YtlcblcjpebabkaaM10i
namespace Go.Sx
def C.hd : C → C
  | .seq a _ => a
  | c => c
def C.tl : C → C
  | .seq _ b => b
  | c => c
def C.inn : C → C
  | .block _ c => c
  | .loop c => c
  | c => c
end Go.Sx
namespace Go.Proofs.Ytlcblcjpebabkaa
open Go.Sx
set_option linter.unusedSimpArgs false
set_option maxHeartbeats 4000000
set_option maxRecDepth 20000

theorem rgtC_iff (c : Cmp) (j : Nat) : rgtC c (decide ((j : Int) = 0)) = true ↔ ((c.l.length : Int) ≠ 0 ∧ ¬ ((j : Int) = 0 ∧ ¬ c.link = 0) ∧ ¬ ((0 : Int) < j ∧ ¬ c.link = 1 ∧ ¬ c.link = 2)) ∧ ∀ i, i < c.l.length → ¬ badX i (c.l.getD i default) := by
  unfold rgtC
  rw [decide_eq_true_eq, decide_eq_true_eq]
  constructor
  · rintro ⟨h1, h2, h3, h4, h5⟩
    exact ⟨by omega, h5⟩
  · rintro ⟨h1, h5⟩
    refine ⟨⟨fun h => ?_, fun h => ?_⟩, ?_, ?_, ?_, h5⟩ <;> omega
theorem badX_iff (i : Nat) (x : Smp) : badX i x ↔ (x.kind < 1 ∨ 6 < x.kind ∨ ((0 : Int) < i ∧ x.kind < 3) ∨ (x.kind = 1 ∧ ¬ x.text = ⟨#[]⟩) ∨ (1 < x.kind ∧ x.text = ⟨#[]⟩) ∨ (x.kind < 6 ∧ ¬ x.val = ⟨#[]⟩)) := by
  unfold badX
  by_cases h1 : x.text = ⟨#[]⟩ <;> by_cases h2 : x.val = ⟨#[]⟩ <;> simp only [h1, h2, true_iff, false_iff, Classical.not_not, not_true_eq_false, not_false_eq_true, and_true, and_false, true_and, false_and, or_false, false_or] <;> omega
def c8o : C := c19.body.tl.hd.tl.inn.inn
def c8m : C := (c8o /- 19 -/).tl.hd.inn.tl.tl.inn.inn
def c8n : C := (c8m /- 19 -/).tl.hd.inn.tl.tl.tl.inn.inn
theorem rightR_in (l : List Sel) (k j : Nat) (c : Cmp) (clk : Nat) (ho : c.l.length ≤ 1000000) (w0 : World) (own0 : Sx.Own) (Q : Post) (e : Nat → V)
    (t0 : e 0 = .slc 1 (l.map selE)) (t3 : e 3 = vi k) (t4 : e 4 = vi j) (t5 : e 5 = .ptr 0 clk 0 0) (t6 : e 6 = vi (0 : Nat)) (h : Heap) (hb : h.bs = [⟨clk, 2, [c.enc], false, []⟩]) (ck : Nat) (hck : h.clk = ck)
    (hfound : ∀ m : Nat, m < c.l.length → badX m (c.l.getD m default) → ∀ (e' : Nat → V) (h' : Heap), e' 2 = vb false → Q .ret e' h')
    (hnone : (∀ i, i < c.l.length → ¬ badX i (c.l.getD i default)) → ∀ (e' : Nat → V) (h' : Heap) (clk' : Nat), e' 0 = .slc 1 (l.map selE) → e' 3 = vi k → e' 4 = vi j → h'.bs = [⟨clk, 2, [c.enc], false, []⟩] → h'.clk = clk' → Q (.exit 4) e' h') :
    SemC ⟨Try.prog, Orc.nil _, 137, w0, own0⟩ (.loop c8n) Q e h := by
  obtain ⟨hbs, hcl⟩ := h
  simp only at hb hck
  subst hb hck
  refine SemC.lp (α := LpS) (fun a => [(0, .slc 1 (l.map selE)), (3, vi k), (4, vi j), (5, .ptr 0 clk 0 0), (6, vi a.n)]) (fun a => ⟨[⟨clk, 2, [c.enc], false, []⟩], a.clk⟩)
    (fun a => a.n ≤ c.l.length ∧ ∀ i, i < a.n → ¬ badX i (c.l.getD i default)) (fun a => c.l.length - a.n) ⟨0, hcl⟩ ⟨Nat.zero_le _, fun i hi => absurd hi (Nat.not_lt_zero _)⟩ (St.mk ⟨t0, t3, t4, t5, t6, trivial⟩) fun a ha => ?_
  obtain ⟨m, clk3⟩ := a
  simp only at ha
  obtain ⟨m1, m2⟩ := ha
  by_cases hm : m = c.l.length
  · subst hm
    simp only [c8n, c8m, c8o, c19, C.tl, C.hd, C.inn, Int.lt_irrefl, Cmp.enc, go_sem, wpR_gcall, reduceCtorEq, reduceIte, Nat.reduceEqDiff, Nat.reduceAdd, Nat.reduceSub, Nat.reduceMul, Nat.reduceLT, Nat.reduceLeDiff, Nat.reduceBEq, Int.reduceEq, Int.reduceLT, Int.reduceLE, Int.reduceAdd, Int.reduceSub, Int.reduceNeg, Int.reduceToNat]
    exact hnone m2 _ _ _ (by simp [upd_at, ev_cons]) (by simp [upd_at, ev_cons]) (by simp [upd_at, ev_cons]) (by simp [Cmp.enc]) rfl
  · have g1 : (m : Int) < (c.l.length : Int) := by omega
    have g0 : (0 : Int) ≤ (m : Int) := by omega
    have hml : m < c.l.length := by omega
    have hgm := getD_smps c.l m
    have hb := badX_iff m (c.l.getD m default)
    have hno3 : badX m (c.l.getD m default) → ∀ (e' : Nat → V) (h' : Heap), e' 2 = vb false → Q .ret e' h' := hfound m hml
    have hgo3 : ¬ badX m (c.l.getD m default) → ∀ i, i < m + 1 → ¬ badX i (c.l.getD i default) := fun h i hi => by
      by_cases h2 : i = m
      · subst h2; exact h
      · exact m2 i (by omega)
    generalize hy : c.l.getD m default = x at *
    simp only [c8n, c8m, c8o, c19, C.tl, C.hd, C.inn, Cmp.enc, g0, g1, hgm, Smp.enc, go_sem, wpR_gcall, reduceCtorEq, reduceIte, Nat.reduceEqDiff, Nat.reduceAdd, Nat.reduceSub, Nat.reduceMul, Nat.reduceLT, Nat.reduceLeDiff, Nat.reduceBEq, Int.reduceEq, Int.reduceLT, Int.reduceLE, Int.reduceAdd, Int.reduceSub, Int.reduceNeg, Int.reduceToNat]
    refine ⟨?_, ?_, ?_, ?_, ?_, ?_, ?_, ?_, ?_, fun h => hno3 (hb.2 ?_) _ _ (by simp [upd_at]), fun h => ?_⟩
    iterate 9 (generalize (m : Int) = M; by_cases p1 : x.kind < 1 <;> by_cases p2 : 6 < x.kind <;> first | (simp [p1, p2]; done) | (by_cases p3 : (0 : Int) < M <;> by_cases p4 : x.kind < 3 <;> first | (simp [p1, p2, p3, p4]; done) | (by_cases p5 : x.kind = 1 <;> by_cases p6 : x.text = ⟨#[]⟩ <;> first | (simp [p1, p2, p3, p4, p5, p6]; done) | (by_cases p7 : 1 < x.kind <;> by_cases p8 : x.kind < 6 <;> by_cases p9 : x.val = ⟨#[]⟩ <;> (simp [p1, p2, p3, p4, p5, p6, p7, p8, p9]; done)))))
    · clear hb hno3 hgo3 hgm
      by_cases p6 : x.text = ⟨#[]⟩ <;> by_cases p9 : x.val = ⟨#[]⟩ <;> simp only [p6, p9, true_iff, false_iff, Classical.not_not, not_true_eq_false, not_false_eq_true, and_true, and_false, true_and, false_and, or_false, false_or, or_true, true_or] at h ⊢ <;> omega
    · have hnb : ¬ badX m x := fun hh => by
        have hh := hb.1 hh
        clear hb hno3 hgo3 hgm
        by_cases p6 : x.text = ⟨#[]⟩ <;> by_cases p9 : x.val = ⟨#[]⟩ <;> simp only [p6, p9, true_iff, false_iff, Classical.not_not, not_true_eq_false, not_false_eq_true, and_true, and_false, true_and, false_and, or_false, false_or, or_true, true_or] at h hh <;> omega
      exact ⟨by omega, ⟨m + 1, clk3 + 1⟩, ⟨by dsimp only; omega, hgo3 hnb⟩, by dsimp only; omega, by dsimp only; omega, rfl⟩
theorem rightR_ok (l : List Sel) (hl : okM l) : PCall Try.prog 19 [sels l] (vb (rgtL l)) := by
  refine PCall.of (Orc.nil _) c19_ok (by simp [c19]) fun w0 own0 => ?_
  obtain ⟨hl1, hl2⟩ := hl
  simp only [c19, sels, go_sem, wpR_gcall, reduceCtorEq, reduceIte, Nat.reduceEqDiff, Nat.reduceAdd, Nat.reduceSub, Nat.reduceMul, Nat.reduceLT, Nat.reduceLeDiff, Nat.reduceBEq, Int.reduceEq, Int.reduceLT, Int.reduceLE, Int.reduceAdd, Int.reduceSub, Int.reduceNeg, Int.reduceToNat]
  refine SemC.lp (α := LpS) (fun a => [(0, .slc 1 (l.map selE)), (3, vi a.n)]) (fun a => ⟨[], a.clk⟩)
    (fun a => a.n ≤ l.length ∧ ∀ i, i < a.n → rgtS (l.getD i []) = true) (fun a => l.length - a.n) ⟨0, 0⟩ ⟨Nat.zero_le _, fun i hi => absurd hi (Nat.not_lt_zero _)⟩ (St.mk (by simp [Agrees, upd_at, initE_at])) fun a ha => ?_
  obtain ⟨k, clk⟩ := a
  simp only at ha
  obtain ⟨k1, k2⟩ := ha
  by_cases he : k = l.length
  · subst he
    have e : rgtL l = decide ((0 : Int) < (l.length : Int)) := by
      unfold rgtL; rw [decide_eq_decide]; exact ⟨fun h => by omega, fun h => ⟨by omega, k2⟩⟩
    simp only [Int.lt_irrefl, e, go_sem, wpR_gcall, reduceCtorEq, reduceIte, Nat.reduceEqDiff, Nat.reduceAdd, Nat.reduceSub, Nat.reduceMul, Nat.reduceLT, Nat.reduceLeDiff, Nat.reduceBEq, Int.reduceEq, Int.reduceLT, Int.reduceLE, Int.reduceAdd, Int.reduceSub, Int.reduceNeg, Int.reduceToNat]
  · have e1 : (k : Int) < (l.length : Int) := by omega
    have e0 : (0 : Int) ≤ (k : Int) := by omega
    have hlt : k < l.length := by omega
    have hg := getD_sels l k [.c (.slice none 0 0)] hlt
    obtain ⟨o1, o2⟩ := hl2 k hlt
    have hno : rgtS (l.getD k []) = false → rgtL l = false := fun h => by
      unfold rgtL; rw [decide_eq_false_iff_not]; exact fun hh => by rw [hh.2 k hlt] at h; cases h
    generalize hx : l.getD k [] = s at *
    by_cases h1 : (s.length : Int) = 0
    · have e := hno (by unfold rgtS; rw [decide_eq_false_iff_not]; omega)
      simp only [e0, e1, hg, selE, h1, e, go_sem, wpR_gcall, reduceCtorEq, reduceIte, Nat.reduceEqDiff, Nat.reduceAdd, Nat.reduceSub, Nat.reduceMul, Nat.reduceLT, Nat.reduceLeDiff, Nat.reduceBEq, Int.reduceEq, Int.reduceLT, Int.reduceLE, Int.reduceAdd, Int.reduceSub, Int.reduceNeg, Int.reduceToNat]
    by_cases h2 : (64 : Int) < (s.length : Int)
    · have e := hno (by unfold rgtS; rw [decide_eq_false_iff_not]; omega)
      simp only [e0, e1, hg, selE, h1, h2, e, go_sem, wpR_gcall, reduceCtorEq, reduceIte, Nat.reduceEqDiff, Nat.reduceAdd, Nat.reduceSub, Nat.reduceMul, Nat.reduceLT, Nat.reduceLeDiff, Nat.reduceBEq, Int.reduceEq, Int.reduceLT, Int.reduceLE, Int.reduceAdd, Int.reduceSub, Int.reduceNeg, Int.reduceToNat]
    simp only [e0, e1, hg, selE, h1, h2, go_sem, wpR_gcall, reduceCtorEq, reduceIte, Nat.reduceEqDiff, Nat.reduceAdd, Nat.reduceSub, Nat.reduceMul, Nat.reduceLT, Nat.reduceLeDiff, Nat.reduceBEq, Int.reduceEq, Int.reduceLT, Int.reduceLE, Int.reduceAdd, Int.reduceSub, Int.reduceNeg, Int.reduceToNat]
    refine SemC.lp (α := LpS) (fun a => [(0, .slc 1 (l.map selE)), (3, vi k), (4, vi a.n)]) (fun a => ⟨[], a.clk⟩)
      (fun a => a.n ≤ s.length ∧ ∀ i, i < a.n → rgtC (s.getD i default) (decide ((i : Int) = 0)) = true) (fun a => s.length - a.n) ⟨0, clk⟩ ⟨Nat.zero_le _, fun i hi => absurd hi (Nat.not_lt_zero _)⟩ (St.cut (by simp [Agrees, upd_at, ev, selE]) rfl rfl) fun a ha => ?_
    obtain ⟨j, clk2⟩ := a
    simp only at ha
    obtain ⟨j1, j2⟩ := ha
    by_cases hj : j = s.length
    · subst hj
      have e : rgtS s = true := by unfold rgtS; rw [decide_eq_true_eq]; exact ⟨by omega, by omega, j2⟩
      simp only [Int.lt_irrefl, e0, e1, hg, selE, go_sem, wpR_gcall, reduceCtorEq, reduceIte, Nat.reduceEqDiff, Nat.reduceAdd, Nat.reduceSub, Nat.reduceMul, Nat.reduceLT, Nat.reduceLeDiff, Nat.reduceBEq, Int.reduceEq, Int.reduceLT, Int.reduceLE, Int.reduceAdd, Int.reduceSub, Int.reduceNeg, Int.reduceToNat]
      have hn : ∀ i, i < k + 1 → rgtS (l.getD i []) = true := fun i hi => by
        by_cases h : i = k
        · subst h; rw [hx]; exact e
        · exact k2 i (by omega)
      exact ⟨by omega, ⟨k + 1, clk2⟩, ⟨by dsimp only; omega, hn⟩, by dsimp only; omega, by dsimp only; omega, rfl⟩
    · have f1 : (j : Int) < (s.length : Int) := by omega
      have f0 : (0 : Int) ≤ (j : Int) := by omega
      have hjl : j < s.length := by omega
      have hgj := getD_cmps s j [.c (.int .i64 0), .c (.slice none 0 0)] hjl
      have ho := o2 j hjl
      have hiff := rgtC_iff (s.getD j default) j
      have hno2 : ¬ rgtC (s.getD j default) (decide ((j : Int) = 0)) = true → rgtL l = false := fun hh => hno (by unfold rgtS; rw [decide_eq_false_iff_not]; exact fun h => hh (h.2.2 j hjl))
      generalize hc : s.getD j default = c at *
      by_cases g : (c.l.length : Int) ≠ 0 ∧ ¬ ((j : Int) = 0 ∧ ¬ c.link = 0) ∧ ¬ ((0 : Int) < j ∧ ¬ c.link = 1 ∧ ¬ c.link = 2)
      · have hgo : ∀ i, rgtC c (decide ((j : Int) = 0)) = true → i < j + 1 → rgtC (s.getD i default) (decide ((i : Int) = 0)) = true := fun i ht hi => by
          by_cases h : i = j
          · subst h; rw [hc]; exact ht
          · exact j2 i (by omega)
        simp only [e0, e1, hg, selE, f0, f1, hgj, Cmp.enc, go_sem, wpR_gcall, reduceCtorEq, reduceIte, Nat.reduceEqDiff, Nat.reduceAdd, Nat.reduceSub, Nat.reduceMul, Nat.reduceLT, Nat.reduceLeDiff, Nat.reduceBEq, Int.reduceEq, Int.reduceLT, Int.reduceLE, Int.reduceAdd, Int.reduceSub, Int.reduceNeg, Int.reduceToNat]
        refine ⟨?_, ?_, ?_, ?_, ?_, ?_, fun _ => ?_⟩
        iterate 5 (generalize (c.l.length : Int) = L; generalize (j : Int) = J at f0 ⊢; by_cases a1 : L = 0 <;> by_cases a2 : J = 0 <;> by_cases a3 : (0 : Int) < J <;> by_cases a4 : c.link = 0 <;> by_cases a5 : c.link = 1 <;> by_cases a6 : c.link = 2 <;> first | (exfalso; omega) | (simp [a1, a2, a3, a4, a5, a6]; done))
        · exact fun h => absurd g (by omega)
        refine rightR_in l k j c clk2 ho w0 own0 _ _ (by simp [upd_at, ev]) (by simp [upd_at, ev]) (by simp [upd_at, ev]) (by simp [upd_at, ev]) (by simp [upd_at, ev]) _ (by simp [Cmp.enc]) (clk2 + 1) rfl (fun m hm hb e' h' t2 => ?_) (fun hb e' h' clk3 t0 t3 t4 hbs hck => ?_)
        · have e := hno2 (fun h2 => (hiff.1 h2).2 m hm hb)
          simp only [t2, e, go_sem, wpR_gcall, reduceCtorEq, reduceIte, Nat.reduceEqDiff, Nat.reduceAdd, Nat.reduceSub, Nat.reduceMul, Nat.reduceLT, Nat.reduceLeDiff, Nat.reduceBEq, Int.reduceEq, Int.reduceLT, Int.reduceLE, Int.reduceAdd, Int.reduceSub, Int.reduceNeg, Int.reduceToNat]
        · obtain ⟨bs', ck'⟩ := h'
          simp only at hbs hck
          subst hbs hck
          simp only [t0, t3, t4, go_sem, wpR_gcall, reduceCtorEq, reduceIte, Nat.reduceEqDiff, Nat.reduceAdd, Nat.reduceSub, Nat.reduceMul, Nat.reduceLT, Nat.reduceLeDiff, Nat.reduceBEq, Int.reduceEq, Int.reduceLT, Int.reduceLE, Int.reduceAdd, Int.reduceSub, Int.reduceNeg, Int.reduceToNat]
          exact ⟨by omega, ⟨j + 1, ck'⟩, ⟨by dsimp only; omega, fun i hi => hgo i (hiff.2 ⟨g, hb⟩) hi⟩, by dsimp only; omega, by dsimp only; omega, rfl⟩
      · have e := hno2 (fun h => g (hiff.1 h).1)
        simp only [e0, e1, hg, selE, f0, f1, hgj, Cmp.enc, e, go_sem, wpR_gcall, reduceCtorEq, reduceIte, Nat.reduceEqDiff, Nat.reduceAdd, Nat.reduceSub, Nat.reduceMul, Nat.reduceLT, Nat.reduceLeDiff, Nat.reduceBEq, Int.reduceEq, Int.reduceLT, Int.reduceLE, Int.reduceAdd, Int.reduceSub, Int.reduceNeg, Int.reduceToNat]
        refine ⟨?_, ?_, ?_, ?_, ?_, fun h => absurd ?_ g⟩
        iterate 5 (generalize (c.l.length : Int) = L; generalize (j : Int) = J at f0 ⊢; by_cases a1 : L = 0 <;> by_cases a2 : J = 0 <;> by_cases a3 : (0 : Int) < J <;> by_cases a4 : c.link = 0 <;> by_cases a5 : c.link = 1 <;> by_cases a6 : c.link = 2 <;> first | (exfalso; omega) | (simp [a1, a2, a3, a4, a5, a6]; done))
        · omega
def sumRgtR : Sum Try.prog := ⟨19, fun args => args = [sels (dSels (args.getD 0 .any))] ∧ okM (dSels (args.getD 0 .any)), fun args => vb (rgtL (dSels (args.getD 0 .any))), fun args h => by
  have := rightR_ok (dSels (args.getD 0 .any)) h.2; rwa [← h.1] at this, true⟩
theorem sumRgtR_f : sumRgtR.f = 19 := rfl
theorem sumRgtR_D (args : List V) : sumRgtR.D args = (args = [sels (dSels (args.getD 0 .any))] ∧ okM (dSels (args.getD 0 .any))) := rfl
theorem sumRgtR_flat : sumRgtR.flat = true := rfl
theorem sumRgtR_r (args : List V) : sumRgtR.r args = vb (rgtL (dSels (args.getD 0 .any))) := rfl
end Go.Proofs.Ytlcblcjpebabkaa
