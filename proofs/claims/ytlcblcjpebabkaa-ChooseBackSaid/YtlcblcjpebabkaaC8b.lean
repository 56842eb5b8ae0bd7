/- Layer 8: which selectors are the same. -/
import Derived.Test.YtlcblcjpebabkaaC8a
namespace Go.Proofs.Ytlcblcjpebabkaa
open Go.Sx
set_option linter.unusedSimpArgs false
set_option maxHeartbeats 4000000
set_option maxRecDepth 20000

deriving instance DecidableEq for Smp
deriving instance DecidableEq for Cmp
theorem smp_eq (x y : Smp) : x = y ↔ x.kind = y.kind ∧ x.text = y.text ∧ x.val = y.val := by
  obtain ⟨a, b, c⟩ := x; obtain ⟨a', b', c'⟩ := y; simp
theorem cmp_eq (x y : Cmp) : x = y ↔ x.link = y.link ∧ x.l = y.l := by
  obtain ⟨a, b⟩ := x; obtain ⟨a', b'⟩ := y; simp
theorem drop_g {α : Type} (l : List α) (n : Nat) (d : α) (h : n < l.length) : l.drop n = l.getD n d :: l.drop (n + 1) := by
  rw [List.drop_eq_getElem_cons h, List.getD_eq_getElem?_getD, List.getElem?_eq_getElem h]; rfl
theorem eqSm_ok (a b : List Smp) (ha : a.length ≤ 1000000) (hb : b.length ≤ 1000000) : PCall Try.prog 24 [.slc 3 (a.map Smp.enc), .slc 3 (b.map Smp.enc)] (vb (decide (a = b))) := by
  refine PCall.of (Orc.nil _) c24_ok (by simp [c24]) fun w0 own0 => ?_
  by_cases hl : (a.length : Int) = (b.length : Int)
  · simp only [c24, hl, go_sem, wpR_gcall, reduceCtorEq, reduceIte, Nat.reduceEqDiff, Nat.reduceAdd, Nat.reduceSub, Nat.reduceMul, Nat.reduceLT, Nat.reduceLeDiff, Nat.reduceBEq, Int.reduceEq, Int.reduceLT, Int.reduceLE, Int.reduceAdd, Int.reduceSub, Int.reduceNeg, Int.reduceToNat]
    have hl' : a.length = b.length := by omega
    refine SemC.lp (α := Nat) (fun k => [(0, .slc 3 (a.map Smp.enc)), (1, .slc 3 (b.map Smp.enc)), (12, vi b.length), (13, vi k)]) (fun _ => ⟨[], 0⟩)
      (fun k => k ≤ a.length ∧ ((a = b) ↔ (a.drop k = b.drop k))) (fun k => a.length - k) 0 ⟨Nat.zero_le _, Iff.rfl⟩ (St.mk (by simp [Agrees, upd_at, initE_at])) fun k hk => ?_
    obtain ⟨h1, h3⟩ := hk
    by_cases hkl : k = a.length
    · subst hkl
      rw [List.drop_length, List.drop_eq_nil_of_le (by omega)] at h3
      have e := decide_eq_true (h3.2 rfl)
      simp only [Int.lt_irrefl, hl, e, go_sem, wpR_gcall, reduceCtorEq, reduceIte, Nat.reduceEqDiff, Nat.reduceAdd, Nat.reduceSub, Nat.reduceMul, Nat.reduceLT, Nat.reduceLeDiff, Nat.reduceBEq, Int.reduceEq, Int.reduceLT, Int.reduceLE, Int.reduceAdd, Int.reduceSub, Int.reduceNeg, Int.reduceToNat]
    · have e1 : (k : Int) < (b.length : Int) := by omega
      have e1' : (k : Int) < (a.length : Int) := by omega
      have e0 : (0 : Int) ≤ (k : Int) := by omega
      rw [drop_g a k default (by omega), drop_g b k default (by omega), List.cons.injEq] at h3
      have hga := getD_smps a k
      have hgb := getD_smps b k
      generalize hx : a.getD k default = x at *
      generalize hy : b.getD k default = y at *
      simp only [e0, e1, e1', hga, hgb, Smp.enc, go_sem, wpR_gcall, reduceCtorEq, reduceIte, Nat.reduceEqDiff, Nat.reduceAdd, Nat.reduceSub, Nat.reduceMul, Nat.reduceLT, Nat.reduceLeDiff, Nat.reduceBEq, Int.reduceEq, Int.reduceLT, Int.reduceLE, Int.reduceAdd, Int.reduceSub, Int.reduceNeg, Int.reduceToNat]
      exact ⟨rfl, fun h => (decide_eq_false fun hh => by
        have := (smp_eq x y).1 (h3.1 hh).1
        rcases h with h | h | h
        · exact h this.1
        · exact h this.2.1
        · exact h this.2.2).symm, fun h => ⟨by omega, k + 1, ⟨by omega, h3.trans ⟨fun hh => hh.2, fun hh => ⟨(smp_eq x y).2 h, hh⟩⟩⟩, by omega, by omega⟩⟩
  · have e : decide (a = b) = false := by rw [decide_eq_false_iff_not]; intro h; rw [h] at hl; exact hl rfl
    simp only [c24, hl, e, go_sem, wpR_gcall, reduceCtorEq, reduceIte, Nat.reduceEqDiff, Nat.reduceAdd, Nat.reduceSub, Nat.reduceMul, Nat.reduceLT, Nat.reduceLeDiff, Nat.reduceBEq, Int.reduceEq, Int.reduceLT, Int.reduceLE, Int.reduceAdd, Int.reduceSub, Int.reduceNeg, Int.reduceToNat]
def sumEqSm : Sum Try.prog := ⟨24, fun args => args = [.slc 3 ((dSms (args.getD 0 .any)).map Smp.enc), .slc 3 ((dSms (args.getD 1 .any)).map Smp.enc)] ∧ ((dSms (args.getD 0 .any))).length ≤ 1000000 ∧ ((dSms (args.getD 1 .any))).length ≤ 1000000, fun args => vb (decide ((dSms (args.getD 0 .any)) = (dSms (args.getD 1 .any)))), fun args h => by
  have := eqSm_ok (dSms (args.getD 0 .any)) (dSms (args.getD 1 .any)) h.2.1 h.2.2; rwa [← h.1] at this, true⟩
theorem sumEqSm_f : sumEqSm.f = 24 := rfl
theorem sumEqSm_D (args : List V) : sumEqSm.D args = (args = [.slc 3 ((dSms (args.getD 0 .any)).map Smp.enc), .slc 3 ((dSms (args.getD 1 .any)).map Smp.enc)] ∧ ((dSms (args.getD 0 .any))).length ≤ 1000000 ∧ ((dSms (args.getD 1 .any))).length ≤ 1000000) := rfl
theorem sumEqSm_flat : sumEqSm.flat = true := rfl
theorem sumEqSm_r (args : List V) : sumEqSm.r args = vb (decide ((dSms (args.getD 0 .any)) = (dSms (args.getD 1 .any)))) := rfl
attribute [go_sem] sumEqSm_f sumEqSm_D sumEqSm_flat sumEqSm_r
theorem same1_ok (x y : Cmp) (hx : x.l.length ≤ 1000000) (hy : y.l.length ≤ 1000000) : PCall Try.prog 23 [.agg x.enc, .agg y.enc] (vb (decide (x = y))) := by
  refine PCall.of (Orc.cons sumEqSm (Orc.nil _)) c23_ok (by simp [c23]) fun w0 own0 => ?_
  by_cases h : x.link = y.link
  · have e : decide (x = y) = decide (x.l = y.l) := by rw [decide_eq_decide, cmp_eq]; exact ⟨fun h => h.2, fun hh => ⟨h, hh⟩⟩
    simp only [c23, Cmp.enc, h, e, dSms_map, hx, hy, go_sem, wpR_gcall, reduceCtorEq, reduceIte, Nat.reduceEqDiff, Nat.reduceAdd, Nat.reduceSub, Nat.reduceMul, Nat.reduceLT, Nat.reduceLeDiff, Nat.reduceBEq, Int.reduceEq, Int.reduceLT, Int.reduceLE, Int.reduceAdd, Int.reduceSub, Int.reduceNeg, Int.reduceToNat]
  · have e : decide (x = y) = false := by rw [decide_eq_false_iff_not, cmp_eq]; exact fun hh => h hh.1
    simp only [c23, Cmp.enc, h, e, dSms_map, hx, hy, go_sem, wpR_gcall, reduceCtorEq, reduceIte, Nat.reduceEqDiff, Nat.reduceAdd, Nat.reduceSub, Nat.reduceMul, Nat.reduceLT, Nat.reduceLeDiff, Nat.reduceBEq, Int.reduceEq, Int.reduceLT, Int.reduceLE, Int.reduceAdd, Int.reduceSub, Int.reduceNeg, Int.reduceToNat]
def sumSm1 : Sum Try.prog := ⟨23, fun args => args = [.agg (Cmp.enc (dCmp (args.getD 0 .any))), .agg (Cmp.enc (dCmp (args.getD 1 .any)))] ∧ ((dCmp (args.getD 0 .any))).l.length ≤ 1000000 ∧ ((dCmp (args.getD 1 .any))).l.length ≤ 1000000, fun args => vb (decide ((dCmp (args.getD 0 .any)) = (dCmp (args.getD 1 .any)))), fun args h => by
  have := same1_ok (dCmp (args.getD 0 .any)) (dCmp (args.getD 1 .any)) h.2.1 h.2.2; rwa [← h.1] at this, true⟩
theorem sumSm1_f : sumSm1.f = 23 := rfl
theorem sumSm1_D (args : List V) : sumSm1.D args = (args = [.agg (Cmp.enc (dCmp (args.getD 0 .any))), .agg (Cmp.enc (dCmp (args.getD 1 .any)))] ∧ ((dCmp (args.getD 0 .any))).l.length ≤ 1000000 ∧ ((dCmp (args.getD 1 .any))).l.length ≤ 1000000) := rfl
theorem sumSm1_flat : sumSm1.flat = true := rfl
theorem sumSm1_r (args : List V) : sumSm1.r args = vb (decide ((dCmp (args.getD 0 .any)) = (dCmp (args.getD 1 .any)))) := rfl
attribute [go_sem] sumSm1_f sumSm1_D sumSm1_flat sumSm1_r
structure EqS where
  n : Nat
  clk : Nat
theorem eqCm_ok (a b : Sel) (ha : okC a) (hb : okC b) : PCall Try.prog 27 [.slc 2 (a.map Cmp.enc), .slc 2 (b.map Cmp.enc), .fn 23 []] (vb (decide (a = b))) := by
  refine PCall.of (Orc.cons sumSm1 (Orc.nil _)) c27_ok (by simp [c27]) fun w0 own0 => ?_
  obtain ⟨ha1, ha2⟩ := ha
  obtain ⟨hb1, hb2⟩ := hb
  by_cases hl : (a.length : Int) = (b.length : Int)
  · simp only [c27, hl, go_sem, wpR_gcall, reduceCtorEq, reduceIte, Nat.reduceEqDiff, Nat.reduceAdd, Nat.reduceSub, Nat.reduceMul, Nat.reduceLT, Nat.reduceLeDiff, Nat.reduceBEq, Int.reduceEq, Int.reduceLT, Int.reduceLE, Int.reduceAdd, Int.reduceSub, Int.reduceNeg, Int.reduceToNat]
    have hl' : a.length = b.length := by omega
    refine SemC.lp (α := EqS) (fun s => [(1, .slc 2 (b.map Cmp.enc)), (2, .fn 23 []), (15, .slc 2 (a.map Cmp.enc)), (16, vi b.length), (17, vi s.n)]) (fun s => ⟨[], s.clk⟩)
      (fun s => s.n ≤ a.length ∧ ((a = b) ↔ (a.drop s.n = b.drop s.n))) (fun s => a.length - s.n) ⟨0, 0⟩ ⟨Nat.zero_le _, Iff.rfl⟩ (St.cut (by simp [Agrees, upd_at, initE_at]) rfl rfl) fun s hk => ?_
    obtain ⟨k, clk⟩ := s
    simp only at hk
    obtain ⟨h1, h3⟩ := hk
    by_cases hkl : k = a.length
    · subst hkl
      rw [List.drop_length, List.drop_eq_nil_of_le (by omega)] at h3
      have e := decide_eq_true (h3.2 rfl)
      simp only [Int.lt_irrefl, hl, e, go_sem, wpR_gcall, reduceCtorEq, reduceIte, Nat.reduceEqDiff, Nat.reduceAdd, Nat.reduceSub, Nat.reduceMul, Nat.reduceLT, Nat.reduceLeDiff, Nat.reduceBEq, Int.reduceEq, Int.reduceLT, Int.reduceLE, Int.reduceAdd, Int.reduceSub, Int.reduceNeg, Int.reduceToNat]
    · have e1 : (k : Int) < (b.length : Int) := by omega
      have e1' : (k : Int) < (a.length : Int) := by omega
      have e0 : (0 : Int) ≤ (k : Int) := by omega
      rw [drop_g a k default (by omega), drop_g b k default (by omega), List.cons.injEq] at h3
      have hga := getD_cmps a k [.c (.int .i64 0), .c (.slice none 0 0)] (by omega)
      have hgb := getD_cmps b k [.c (.int .i64 0), .c (.slice none 0 0)] (by omega)
      have la := ha2 k (by omega)
      have lb := hb2 k (by omega)
      generalize hx : a.getD k default = x at *
      generalize hy : b.getD k default = y at *
      by_cases hxy : x = y
      · have e := decide_eq_true hxy
        simp only [e0, e1, e1', hga, hgb, Cmp.enc, dCmp_mk, Cmp.eta, la, lb, e, go_sem, wpR_gcall, reduceCtorEq, reduceIte, Nat.reduceEqDiff, Nat.reduceAdd, Nat.reduceSub, Nat.reduceMul, Nat.reduceLT, Nat.reduceLeDiff, Nat.reduceBEq, Int.reduceEq, Int.reduceLT, Int.reduceLE, Int.reduceAdd, Int.reduceSub, Int.reduceNeg, Int.reduceToNat]
        exact ⟨by omega, ⟨k + 1, clk + 2⟩, ⟨by dsimp only; omega, h3.trans ⟨fun hh => hh.2, fun hh => ⟨hxy, hh⟩⟩⟩, by dsimp only; omega, by dsimp only; omega, rfl⟩
      · have e := decide_eq_false hxy
        have e2 : decide (a = b) = false := decide_eq_false fun hh => hxy (h3.1 hh).1
        simp only [e0, e1, e1', hga, hgb, Cmp.enc, dCmp_mk, Cmp.eta, la, lb, e, e2, go_sem, wpR_gcall, reduceCtorEq, reduceIte, Nat.reduceEqDiff, Nat.reduceAdd, Nat.reduceSub, Nat.reduceMul, Nat.reduceLT, Nat.reduceLeDiff, Nat.reduceBEq, Int.reduceEq, Int.reduceLT, Int.reduceLE, Int.reduceAdd, Int.reduceSub, Int.reduceNeg, Int.reduceToNat]
  · have e : decide (a = b) = false := by rw [decide_eq_false_iff_not]; intro h; rw [h] at hl; exact hl rfl
    simp only [c27, hl, e, go_sem, wpR_gcall, reduceCtorEq, reduceIte, Nat.reduceEqDiff, Nat.reduceAdd, Nat.reduceSub, Nat.reduceMul, Nat.reduceLT, Nat.reduceLeDiff, Nat.reduceBEq, Int.reduceEq, Int.reduceLT, Int.reduceLE, Int.reduceAdd, Int.reduceSub, Int.reduceNeg, Int.reduceToNat]
def sumEqCm : Sum Try.prog := ⟨27, fun args => args = [.slc 2 ((dCmps (args.getD 0 .any)).map Cmp.enc), .slc 2 ((dCmps (args.getD 1 .any)).map Cmp.enc), .fn 23 []] ∧ okC (dCmps (args.getD 0 .any)) ∧ okC (dCmps (args.getD 1 .any)), fun args => vb (decide ((dCmps (args.getD 0 .any)) = (dCmps (args.getD 1 .any)))), fun args h => by
  have := eqCm_ok (dCmps (args.getD 0 .any)) (dCmps (args.getD 1 .any)) h.2.1 h.2.2; rwa [← h.1] at this, true⟩
theorem sumEqCm_f : sumEqCm.f = 27 := rfl
theorem sumEqCm_D (args : List V) : sumEqCm.D args = (args = [.slc 2 ((dCmps (args.getD 0 .any)).map Cmp.enc), .slc 2 ((dCmps (args.getD 1 .any)).map Cmp.enc), .fn 23 []] ∧ okC (dCmps (args.getD 0 .any)) ∧ okC (dCmps (args.getD 1 .any))) := rfl
theorem sumEqCm_flat : sumEqCm.flat = true := rfl
theorem sumEqCm_r (args : List V) : sumEqCm.r args = vb (decide ((dCmps (args.getD 0 .any)) = (dCmps (args.getD 1 .any)))) := rfl
attribute [go_sem] sumEqCm_f sumEqCm_D sumEqCm_flat sumEqCm_r
theorem same2_ok (x y : Sel) (hx : okC x) (hy : okC y) : PCall Try.prog 26 [.agg (selE x), .agg (selE y), .pp [.fn 23 []]] (vb (decide (x = y))) := by
  refine PCall.of (Orc.cons sumEqCm (Orc.nil _)) c26_ok (by simp [c26]) fun w0 own0 => ?_
  simp only [c26, selE, dCmps_map, hx, hy, go_sem, wpR_gcall, reduceCtorEq, reduceIte, Nat.reduceEqDiff, Nat.reduceAdd, Nat.reduceSub, Nat.reduceMul, Nat.reduceLT, Nat.reduceLeDiff, Nat.reduceBEq, Int.reduceEq, Int.reduceLT, Int.reduceLE, Int.reduceAdd, Int.reduceSub, Int.reduceNeg, Int.reduceToNat]
def sumSm2 : Sum Try.prog := ⟨26, fun args => args = [.agg (selE (dSel (args.getD 0 .any))), .agg (selE (dSel (args.getD 1 .any))), .pp [.fn 23 []]] ∧ okC (dSel (args.getD 0 .any)) ∧ okC (dSel (args.getD 1 .any)), fun args => vb (decide ((dSel (args.getD 0 .any)) = (dSel (args.getD 1 .any)))), fun args h => by
  have := same2_ok (dSel (args.getD 0 .any)) (dSel (args.getD 1 .any)) h.2.1 h.2.2; rwa [← h.1] at this, true⟩
theorem sumSm2_f : sumSm2.f = 26 := rfl
theorem sumSm2_D (args : List V) : sumSm2.D args = (args = [.agg (selE (dSel (args.getD 0 .any))), .agg (selE (dSel (args.getD 1 .any))), .pp [.fn 23 []]] ∧ okC (dSel (args.getD 0 .any)) ∧ okC (dSel (args.getD 1 .any))) := rfl
theorem sumSm2_flat : sumSm2.flat = true := rfl
theorem sumSm2_r (args : List V) : sumSm2.r args = vb (decide ((dSel (args.getD 0 .any)) = (dSel (args.getD 1 .any)))) := rfl
attribute [go_sem] sumSm2_f sumSm2_D sumSm2_flat sumSm2_r
theorem eqSl_ok (a b : List Sel) (ha : okM a) (hb : okM b) : PCall Try.prog 25 [sels a, sels b, .fn 26 [.pp [.fn 23 []]]] (vb (decide (a = b))) := by
  refine PCall.of (Orc.cons sumSm2 (Orc.nil _)) c25_ok (by simp [c25]) fun w0 own0 => ?_
  obtain ⟨ha1, ha2⟩ := ha
  obtain ⟨hb1, hb2⟩ := hb
  by_cases hl : (a.length : Int) = (b.length : Int)
  · simp only [c25, sels, hl, go_sem, wpR_gcall, reduceCtorEq, reduceIte, Nat.reduceEqDiff, Nat.reduceAdd, Nat.reduceSub, Nat.reduceMul, Nat.reduceLT, Nat.reduceLeDiff, Nat.reduceBEq, Int.reduceEq, Int.reduceLT, Int.reduceLE, Int.reduceAdd, Int.reduceSub, Int.reduceNeg, Int.reduceToNat]
    have hl' : a.length = b.length := by omega
    refine SemC.lp (α := EqS) (fun s => [(1, .slc 1 (b.map selE)), (2, .fn 26 [.pp [.fn 23 []]]), (15, .slc 1 (a.map selE)), (16, vi b.length), (17, vi s.n)]) (fun s => ⟨[], s.clk⟩)
      (fun s => s.n ≤ a.length ∧ ((a = b) ↔ (a.drop s.n = b.drop s.n))) (fun s => a.length - s.n) ⟨0, 0⟩ ⟨Nat.zero_le _, Iff.rfl⟩ (St.cut (by simp [Agrees, upd_at, initE_at]) rfl rfl) fun s hk => ?_
    obtain ⟨k, clk⟩ := s
    simp only at hk
    obtain ⟨h1, h3⟩ := hk
    by_cases hkl : k = a.length
    · subst hkl
      rw [List.drop_length, List.drop_eq_nil_of_le (by omega)] at h3
      have e := decide_eq_true (h3.2 rfl)
      simp only [Int.lt_irrefl, hl, e, go_sem, wpR_gcall, reduceCtorEq, reduceIte, Nat.reduceEqDiff, Nat.reduceAdd, Nat.reduceSub, Nat.reduceMul, Nat.reduceLT, Nat.reduceLeDiff, Nat.reduceBEq, Int.reduceEq, Int.reduceLT, Int.reduceLE, Int.reduceAdd, Int.reduceSub, Int.reduceNeg, Int.reduceToNat]
    · have e1 : (k : Int) < (b.length : Int) := by omega
      have e1' : (k : Int) < (a.length : Int) := by omega
      have e0 : (0 : Int) ≤ (k : Int) := by omega
      rw [drop_g a k [] (by omega), drop_g b k [] (by omega), List.cons.injEq] at h3
      have hga := getD_sels a k [.c (.slice none 0 0)] (by omega)
      have hgb := getD_sels b k [.c (.slice none 0 0)] (by omega)
      have la := ha2 k (by omega)
      have lb := hb2 k (by omega)
      generalize hx : a.getD k [] = x at *
      generalize hy : b.getD k [] = y at *
      by_cases hxy : x = y
      · have e := decide_eq_true hxy
        simp only [e0, e1, e1', hga, hgb, selE, dSel_mk, la, lb, e, go_sem, wpR_gcall, reduceCtorEq, reduceIte, Nat.reduceEqDiff, Nat.reduceAdd, Nat.reduceSub, Nat.reduceMul, Nat.reduceLT, Nat.reduceLeDiff, Nat.reduceBEq, Int.reduceEq, Int.reduceLT, Int.reduceLE, Int.reduceAdd, Int.reduceSub, Int.reduceNeg, Int.reduceToNat]
        exact ⟨by omega, ⟨k + 1, clk + 2⟩, ⟨by dsimp only; omega, h3.trans ⟨fun hh => hh.2, fun hh => ⟨hxy, hh⟩⟩⟩, by dsimp only; omega, by dsimp only; omega, rfl⟩
      · have e := decide_eq_false hxy
        have e2 : decide (a = b) = false := decide_eq_false fun hh => hxy (h3.1 hh).1
        simp only [e0, e1, e1', hga, hgb, selE, dSel_mk, la, lb, e, e2, go_sem, wpR_gcall, reduceCtorEq, reduceIte, Nat.reduceEqDiff, Nat.reduceAdd, Nat.reduceSub, Nat.reduceMul, Nat.reduceLT, Nat.reduceLeDiff, Nat.reduceBEq, Int.reduceEq, Int.reduceLT, Int.reduceLE, Int.reduceAdd, Int.reduceSub, Int.reduceNeg, Int.reduceToNat]
  · have e : decide (a = b) = false := by rw [decide_eq_false_iff_not]; intro h; rw [h] at hl; exact hl rfl
    simp only [c25, sels, hl, e, go_sem, wpR_gcall, reduceCtorEq, reduceIte, Nat.reduceEqDiff, Nat.reduceAdd, Nat.reduceSub, Nat.reduceMul, Nat.reduceLT, Nat.reduceLeDiff, Nat.reduceBEq, Int.reduceEq, Int.reduceLT, Int.reduceLE, Int.reduceAdd, Int.reduceSub, Int.reduceNeg, Int.reduceToNat]
def sumEqSl : Sum Try.prog := ⟨25, fun args => args = [sels (dSels (args.getD 0 .any)), sels (dSels (args.getD 1 .any)), .fn 26 [.pp [.fn 23 []]]] ∧ okM (dSels (args.getD 0 .any)) ∧ okM (dSels (args.getD 1 .any)), fun args => vb (decide ((dSels (args.getD 0 .any)) = (dSels (args.getD 1 .any)))), fun args h => by
  have := eqSl_ok (dSels (args.getD 0 .any)) (dSels (args.getD 1 .any)) h.2.1 h.2.2; rwa [← h.1] at this, true⟩
theorem sumEqSl_f : sumEqSl.f = 25 := rfl
theorem sumEqSl_D (args : List V) : sumEqSl.D args = (args = [sels (dSels (args.getD 0 .any)), sels (dSels (args.getD 1 .any)), .fn 26 [.pp [.fn 23 []]]] ∧ okM (dSels (args.getD 0 .any)) ∧ okM (dSels (args.getD 1 .any))) := rfl
theorem sumEqSl_flat : sumEqSl.flat = true := rfl
theorem sumEqSl_r (args : List V) : sumEqSl.r args = vb (decide ((dSels (args.getD 0 .any)) = (dSels (args.getD 1 .any)))) := rfl
attribute [go_sem] sumEqSl_f sumEqSl_D sumEqSl_flat sumEqSl_r
theorem res_fn0 (S : Nat → Bool) (h : Heap) (f : FuncId) : res S h 10 (.fn f []) = some (.fn f []) := rfl
theorem sameS_ok (a b : List Sel) (ha : okM a) (hb : okM b) : PCall Try.prog 11 [sels a, sels b] (vb (decide (a = b))) := by
  refine PCall.of (Orc.cons sumEqSl (Orc.nil _)) c11_ok (by simp [c11]) fun w0 own0 => ?_
  simp only [c11, sels, dSels_map, ha, hb, res_fn0, go_sem, wpR_gcall, reduceCtorEq, reduceIte, Nat.reduceEqDiff, Nat.reduceAdd, Nat.reduceSub, Nat.reduceMul, Nat.reduceLT, Nat.reduceLeDiff, Nat.reduceBEq, Int.reduceEq, Int.reduceLT, Int.reduceLE, Int.reduceAdd, Int.reduceSub, Int.reduceNeg, Int.reduceToNat]
def sumSame : Sum Try.prog := ⟨11, fun args => args = [sels (dSels (args.getD 0 .any)), sels (dSels (args.getD 1 .any))] ∧ okM (dSels (args.getD 0 .any)) ∧ okM (dSels (args.getD 1 .any)), fun args => vb (decide ((dSels (args.getD 0 .any)) = (dSels (args.getD 1 .any)))), fun args h => by
  have := sameS_ok (dSels (args.getD 0 .any)) (dSels (args.getD 1 .any)) h.2.1 h.2.2; rwa [← h.1] at this, true⟩
theorem sumSame_f : sumSame.f = 11 := rfl
theorem sumSame_D (args : List V) : sumSame.D args = (args = [sels (dSels (args.getD 0 .any)), sels (dSels (args.getD 1 .any))] ∧ okM (dSels (args.getD 0 .any)) ∧ okM (dSels (args.getD 1 .any))) := rfl
theorem sumSame_flat : sumSame.flat = true := rfl
theorem sumSame_r (args : List V) : sumSame.r args = vb (decide ((dSels (args.getD 0 .any)) = (dSels (args.getD 1 .any)))) := rfl
attribute [go_sem] sumSame_f sumSame_D sumSame_flat sumSame_r
end Go.Proofs.Ytlcblcjpebabkaa
