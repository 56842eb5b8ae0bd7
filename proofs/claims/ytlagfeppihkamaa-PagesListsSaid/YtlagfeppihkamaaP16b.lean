/- Layer 16: one pseudo-class more. -/
import Derived.Test.YtlagfeppihkamaaP16a
import Derived.Test.YtlagfeppihkamaaCe
namespace Go.Proofs.Ytlagfeppihkamaa
open Go.Sx
set_option linter.unusedSimpArgs false
set_option maxHeartbeats 4000000
set_option maxRecDepth 20000

def wtP (s : PSel) : W3 := ⟨if s.name = ⟨#[]⟩ then 0 else 1, s.first + s.blank, s.left + s.right⟩
def smallP (s : PSel) : Prop := -2000 ≤ s.first ∧ s.first ≤ 2000 ∧ -2000 ≤ s.blank ∧ s.blank ≤ 2000 ∧ -2000 ≤ s.left ∧ s.left ≤ 2000 ∧ -2000 ≤ s.right ∧ s.right ≤ 2000
def sumWt : Sum Try.prog := ⟨13, fun args => args = [.agg (PSel.enc (dPSel (args.getD 0 .any)))] ∧ smallP (dPSel (args.getD 0 .any)), fun args => .agg (W3.enc (wtP (dPSel (args.getD 0 .any)))), fun args h => by
  have := weight_ok (dPSel (args.getD 0 .any)) (by have := h.2; unfold smallP at this; omega); rwa [← h.1] at this, false⟩
theorem sumWt_f : sumWt.f = 13 := rfl
theorem sumWt_D (args : List V) : sumWt.D args = (args = [.agg (PSel.enc (dPSel (args.getD 0 .any)))] ∧ smallP (dPSel (args.getD 0 .any))) := rfl
theorem sumWt_flat : sumWt.flat = false := rfl
theorem sumWt_r (args : List V) : sumWt.r args = .agg (W3.enc (wtP (dPSel (args.getD 0 .any)))) := rfl
attribute [go_sem] sumWt_f sumWt_D sumWt_flat sumWt_r
def sumAw16 : Sum Try.prog := ⟨8, fun args => args = [], fun args => vb true, fun args h => by
  have := awake_ok; rwa [← h] at this, true⟩
theorem sumAw16_f : sumAw16.f = 8 := rfl
theorem sumAw16_D (args : List V) : sumAw16.D args = (args = []) := rfl
theorem sumAw16_flat : sumAw16.flat = true := rfl
theorem sumAw16_r (args : List V) : sumAw16.r args = vb true := rfl
attribute [go_sem] sumAw16_f sumAw16_D sumAw16_flat sumAw16_r
def pselC : List Cell := [.str, .int .i64, .int .i64, .int .i64, .int .i64]
def shC : List Cell := [.int .i64, .bool, .bool, .bool, .str, .int .i64]
theorem pselL_of {xs : List V} (hl : xs.length = 5) (h : ∀ i c, pselC[i]? = some c → CellOK c (xs.getD i .any)) : ∃ s : PSel, xs = s.enc := by
  have a0 := h 0 _ rfl
  have a1 := h 1 _ rfl
  have a2 := h 2 _ rfl
  have a3 := h 3 _ rfl
  have a4 := h 4 _ rfl
  match xs, hl with
  | [a, b, c, d, e], _ =>
    simp only [List.getD_cons_zero, List.getD_cons_succ] at a0 a1 a2 a3 a4
    cases a0; cases a1; cases a2; cases a3; cases a4
    exact ⟨⟨_, _, _, _, _⟩, rfl⟩
theorem shL_of {xs : List V} (hl : xs.length = 6) (h : ∀ i c, shC[i]? = some c → CellOK c (xs.getD i .any)) : ∃ s : Sh, xs = s.enc := by
  have a0 := h 0 _ rfl
  have a1 := h 1 _ rfl
  have a2 := h 2 _ rfl
  have a3 := h 3 _ rfl
  have a4 := h 4 _ rfl
  have a5 := h 5 _ rfl
  match xs, hl with
  | [a, b, c, d, e, f], _ =>
    simp only [List.getD_cons_zero, List.getD_cons_succ] at a0 a1 a2 a3 a4 a5
    cases a0; cases a1; cases a2; cases a3; cases a4; cases a5
    exact ⟨⟨_, _, _, _, _, _⟩, rfl⟩
def lessM (s m : PSel) (p : Sh) : Prop := (isP m p = true → isP s p = true) ∧ ((wtP m).a = (wtP s).a → (wtP m).b = (wtP s).b → ¬ (wtP m).c = (wtP s).c) ∧ ¬ (wtP m).a < (wtP s).a
def tl4 : C := c4.body.tl.tl.tl.tl.tl
theorem more_tl (s m : PSel) (p : Sh) (hs : smallP s) (hm : smallP m) (hL : lessM s m p) (w0 : World) (own0 : Sx.Own) (e : Nat → V) (v clk : Nat) (t4 : e 4 = .ptr 0 0 0 0) (t5 : e 5 = .ptr 1 1 0 0) (t11 : e 11 = .ptr 2 v 0 0) :
    wpC ⟨Try.prog, (Orc.cons sumIsP (Orc.cons sumWt (Orc.cons sumAw16 (Orc.nil _)))), c4.n, w0, own0⟩ tl4 (retQ c4.rs fun v h => res (fun _ => true) h 12 v = some (vb true)) e ⟨[⟨0, 5, [s.enc], false, []⟩, ⟨1, 6, [p.enc], false, []⟩, ⟨v, 5, [m.enc], false, []⟩], clk⟩ := by
  obtain ⟨l1, l2, l3⟩ := hL
  simp only [tl4, c4, C.hd, C.tl, PSel.enc, Sh.enc, W3.enc, t4, t5, t11, dPSel_mk, dSh1_mk, PSel.eta', Sh.eta', List.isEmpty_cons, hs, hm, go_sem, wpR_gcall, reduceCtorEq, reduceIte, Nat.reduceEqDiff, Nat.reduceAdd, Nat.reduceSub, Nat.reduceMul, Nat.reduceLT, Nat.reduceLeDiff, Nat.reduceBEq, Int.reduceEq, Int.reduceLT, Int.reduceLE, Int.reduceAdd, Int.reduceSub, Int.reduceNeg, Int.reduceToNat]
  have hI : isP m p = false ∨ isP s p = true := by
    cases hb : isP m p with
    | false => exact .inl rfl
    | true => exact .inr (l1 hb)
  refine ⟨by cases isP m p <;> simp, ⟨hI, ?_⟩, l3⟩
  by_cases h1 : (wtP m).a = (wtP s).a
  · by_cases h2 : (wtP m).b = (wtP s).b
    · exact .inr (.inr (l2 h1 h2))
    · exact .inr (.inl h2)
  · exact .inl h1
theorem rem5 (n : Int) (h0 : 0 ≤ n) : n.tmod 5 = n % 5 := Int.tmod_eq_emod_of_nonneg h0
theorem pagesMore_law (x : List V) (hl : x.length = 5) (h : ∀ i c, pselC[i]? = some c → CellOK c (x.getD i .any)) (y : List V) (hl' : y.length = 6) (h' : ∀ i c, shC[i]? = some c → CellOK c (y.getD i .any)) (z : V) (h2 : CellOK (.int .u8) z) (u : V) (h3 : CellOK .str u) : PCall Try.prog 4 [.agg x, .agg y, z, u] (.c (.bool true)) := by
  obtain ⟨s, rfl⟩ := pselL_of hl h
  obtain ⟨p, rfl⟩ := shL_of hl' h'
  cases h2 with | int _ w hw => ?_
  cases h3 with | str name _ => ?_
  refine PCall.of (Orc.cons sumIsP (Orc.cons sumWt (Orc.cons sumAw16 (Orc.nil _)))) c4_ok (by simp [c4]) fun w0 own0 => ?_
  have hb : c4.body = .seq c4.body.hd (.seq c4.body.tl.hd (.seq c4.body.tl.tl.hd (.seq c4.body.tl.tl.tl.hd (.seq c4.body.tl.tl.tl.tl.hd tl4)))) := rfl
  rw [hb]
  have hT := more_tl s (p := p) (w0 := w0) (own0 := own0)
  generalize tl4 = rest at *
  generalize hQ : (retQ c4.rs fun v h => res (fun _ => true) h 12 v = some (V.c (.bool true))) = Q at *
  have hQr : ∀ e h, e 8 = vb true → Q .ret e h := fun e h h8 => by
    rw [← hQ]
    simp only [c4, h8, go_sem, wpR_gcall, reduceCtorEq, reduceIte, Nat.reduceEqDiff, Nat.reduceAdd, Nat.reduceSub, Nat.reduceMul, Nat.reduceLT, Nat.reduceLeDiff, Nat.reduceBEq, Int.reduceEq, Int.reduceLT, Int.reduceLE, Int.reduceAdd, Int.reduceSub, Int.reduceNeg, Int.reduceToNat]
  simp only [c4, C.hd, C.tl, PSel.enc, Sh.enc, go_sem, wpR_gcall, reduceCtorEq, reduceIte, Nat.reduceEqDiff, Nat.reduceAdd, Nat.reduceSub, Nat.reduceMul, Nat.reduceLT, Nat.reduceLeDiff, Nat.reduceBEq, Int.reduceEq, Int.reduceLT, Int.reduceLE, Int.reduceAdd, Int.reduceSub, Int.reduceNeg, Int.reduceToNat]
  refine ⟨by omega, by omega, fun _ => hQr _ _ (by simp [upd_at]), fun _ => ?_⟩
  have gg : ∀ k : Nat, k < 4 → ((List.drop (k * 1) [vi s.first, vi s.blank, vi s.left, vi s.right]).getD 0 .any) = vi ([s.first, s.blank, s.left, s.right].getD k 0) := fun k hk => by
    rcases (show k = 0 ∨ k = 1 ∨ k = 2 ∨ k = 3 by omega) with rfl | rfl | rfl | rfl <;> rfl
  refine SemC.lp (α := Nat) (fun k => [(2, .c (.int .u8 w)), (3, vs name), (4, .ptr 0 0 0 0), (5, .ptr 1 1 0 0), (36, .agg [vi s.first, vi s.blank, vi s.left, vi s.right]), (37, vi k)]) (fun _ => ⟨[⟨0, 5, [s.enc], false, []⟩, ⟨1, 6, [p.enc], false, []⟩], 2⟩)
    (fun k => k ≤ 4 ∧ ∀ i, i < k → 0 ≤ [s.first, s.blank, s.left, s.right].getD i 0 ∧ [s.first, s.blank, s.left, s.right].getD i 0 ≤ 1000) (fun k => 4 - k) 0 ⟨by omega, fun i hi => by omega⟩ (St.cut ?_ ?_ ?_) fun k hk => ?_
  · simp [Agrees, upd_at, initE_at]
  · simp [PSel.enc, Sh.enc]
  · rfl
  obtain ⟨hk1, hk2⟩ := hk
  by_cases h4 : k = 4
  · subst h4
    have f0 := hk2 0 (by omega); have f1 := hk2 1 (by omega); have f2 := hk2 2 (by omega); have f3 := hk2 3 (by omega)
    simp only [List.getD_cons_zero, List.getD_cons_succ] at f0 f1 f2 f3
    have hw0 : 0 ≤ w ∧ w < 256 := by simp [Lit.wf, IntKind.min, IntKind.max, IntKind.signed, IntKind.bits] at hw; omega
    have hsm : smallP s := by unfold smallP; omega
    have hwe := rem5 w hw0.1
    have h2000 : ∀ m : PSel, 0 ≤ m.first → m.first ≤ 1001 → 0 ≤ m.blank → m.blank ≤ 1001 → 0 ≤ m.left → m.left ≤ 1001 → 0 ≤ m.right → m.right ≤ 1001 → smallP m := fun m _ _ _ _ _ _ _ _ => by unfold smallP; omega
    have hless : ∀ m : PSel, (isP m p = true → isP s p = true) → (wtP s).a ≤ (wtP m).a → ((wtP s).a < (wtP m).a ∨ (wtP m).b ≠ (wtP s).b ∨ (wtP m).c ≠ (wtP s).c) → lessM s m p := fun m h1 h2 h3 => ⟨h1, fun a b c => by rcases h3 with h | h | h; omega; exact h b; exact h c, by omega⟩
    simp only [PSel.enc, Sh.enc, hwe, go_sem, wpR_gcall, reduceCtorEq, reduceIte, Nat.reduceEqDiff, Nat.reduceAdd, Nat.reduceSub, Nat.reduceMul, Nat.reduceLT, Nat.reduceLeDiff, Nat.reduceBEq, Int.reduceEq, Int.reduceLT, Int.reduceLE, Int.reduceAdd, Int.reduceSub, Int.reduceNeg, Int.reduceToNat]
    refine ⟨by omega, fun c0 => ⟨by omega, ?_⟩, fun c0 => ⟨fun c1 => ⟨by omega, ?_⟩, fun c1 => ⟨fun c2 => ⟨by omega, ?_⟩, fun c2 => ⟨fun c3 => ⟨by omega, ?_⟩, fun c3 => ⟨fun c4 => ⟨by by_cases hn : s.name = ⟨#[]⟩ <;> simp [hn], fun c5 => hQr _ _ (by simp [upd_at]), fun c5 => ?_⟩, fun c4 => by omega⟩⟩⟩⟩⟩
    · refine hT ⟨s.name, s.first + 1, s.blank, s.left, s.right⟩ hsm (h2000 _ ?_ ?_ ?_ ?_ ?_ ?_ ?_ ?_) (hless _ (fun hi => ?_) (Int.le_refl _) (.inr (.inl ?_))) _ _ _ (by simp [upd_at, ev_cons]) (by simp [upd_at, ev_cons]) (by simp [upd_at])
      any_goals (dsimp only; omega)
      · rw [isP_iff] at hi ⊢; exact ⟨hi.1, hi.2.1.elim (fun h => .inl (by simp only at h; omega)) .inr, hi.2.2⟩
      · simp only [wtP]; omega
    · refine hT ⟨s.name, s.first, s.blank + 1, s.left, s.right⟩ hsm (h2000 _ ?_ ?_ ?_ ?_ ?_ ?_ ?_ ?_) (hless _ (fun hi => ?_) (Int.le_refl _) (.inr (.inl ?_))) _ _ _ (by simp [upd_at, ev_cons]) (by simp [upd_at, ev_cons]) (by simp [upd_at])
      any_goals (dsimp only; omega)
      · rw [isP_iff] at hi ⊢; exact ⟨hi.1, hi.2.1, hi.2.2.1.elim (fun h => .inl (by simp only at h; omega)) .inr, hi.2.2.2⟩
      · simp only [wtP]; omega
    · refine hT ⟨s.name, s.first, s.blank, s.left + 1, s.right⟩ hsm (h2000 _ ?_ ?_ ?_ ?_ ?_ ?_ ?_ ?_) (hless _ (fun hi => ?_) (Int.le_refl _) (.inr (.inr ?_))) _ _ _ (by simp [upd_at, ev_cons]) (by simp [upd_at, ev_cons]) (by simp [upd_at])
      any_goals (dsimp only; omega)
      · rw [isP_iff] at hi ⊢; exact ⟨hi.1, hi.2.1, hi.2.2.1, hi.2.2.2.1.elim (fun h => .inl (by simp only at h; omega)) .inr, hi.2.2.2.2⟩
      · simp only [wtP]; omega
    · refine hT ⟨s.name, s.first, s.blank, s.left, s.right + 1⟩ hsm (h2000 _ ?_ ?_ ?_ ?_ ?_ ?_ ?_ ?_) (hless _ (fun hi => ?_) (Int.le_refl _) (.inr (.inr ?_))) _ _ _ (by simp [upd_at, ev_cons]) (by simp [upd_at, ev_cons]) (by simp [upd_at])
      any_goals (dsimp only; omega)
      · rw [isP_iff] at hi ⊢; exact ⟨hi.1, hi.2.1, hi.2.2.1, hi.2.2.2.1, hi.2.2.2.2.elim (fun h => .inl (by simp only at h; omega)) .inr⟩
      · simp only [wtP]; omega
    · obtain ⟨n1, n2⟩ := c5
      refine hT ⟨name, s.first, s.blank, s.left, s.right⟩ hsm (h2000 _ ?_ ?_ ?_ ?_ ?_ ?_ ?_ ?_) (hless _ (fun hi => ?_) ?_ (.inl ?_)) _ _ _ (by simp [upd_at, ev_cons]) (by simp [upd_at, ev_cons]) (by simp [upd_at])
      any_goals (dsimp only; omega)
      · rw [isP_iff] at hi ⊢; exact ⟨.inl n1, hi.2⟩
      · simp only [wtP]; rw [if_pos n1, if_neg n2]; decide
      · simp only [wtP]; rw [if_pos n1, if_neg n2]; decide
  · have e1 : (k : Int) < 4 := by omega
    have e0 : (0 : Int) ≤ (k : Int) := by omega
    have hlt : k < 4 := by omega
    generalize hv : [s.first, s.blank, s.left, s.right].getD k 0 = v at *
    simp only [e0, e1, gg k hlt, PSel.enc, Sh.enc, hv, go_sem, wpR_gcall, reduceCtorEq, reduceIte, Nat.reduceEqDiff, Nat.reduceAdd, Nat.reduceSub, Nat.reduceMul, Nat.reduceLT, Nat.reduceLeDiff, Nat.reduceBEq, Int.reduceEq, Int.reduceLT, Int.reduceLE, Int.reduceAdd, Int.reduceSub, Int.reduceNeg, Int.reduceToNat]
    refine ⟨by omega, fun hc => hQr _ _ (by simp [upd_at]), fun hc => ⟨by omega, k + 1, ⟨by omega, fun i hi => ?_⟩, by omega, by omega⟩⟩
    by_cases hik : i = k
    · subst hik; rw [hv]; omega
    · exact hk2 i (by omega)
end Go.Proofs.Ytlagfeppihkamaa
