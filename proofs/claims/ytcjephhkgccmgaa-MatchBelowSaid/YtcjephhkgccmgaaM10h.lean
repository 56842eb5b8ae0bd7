/- Layer 10, by the document: which node a simple selector is about. -/
import Derived.Test.YtcjephhkgccmgaaM10g
namespace Go.Proofs.Ytcjephhkgccmgaa
open Go.Sx
set_option linter.unusedSimpArgs false
set_option maxHeartbeats 4000000
set_option maxRecDepth 20000

def atr (s : Smp) : List (ByteArray × ByteArray) → Bool
  | [] => false
  | p :: r => if p.1 = s.text then decide (s.kind = 5) || decide (p.2 = s.val) else atr s r
def anyA (s : Smp) : List (ByteArray × ByteArray) → Bool
  | [] => false
  | p :: r => decide (p.1 = s.text) || anyA s r
theorem atr_eq (s : Smp) : ∀ l, atr s l = (anyA s l && (decide (s.kind = 5) || decide (attrV s.text l = s.val)))
  | [] => rfl
  | p :: r => by
    unfold atr anyA attrV
    by_cases h : p.1 = s.text
    · rw [if_pos h, if_pos h, decide_eq_true h]; rfl
    · rw [if_neg h, if_neg h, decide_eq_false h, atr_eq s r]; rfl
theorem anyA_iff (s : Smp) : ∀ l, anyA s l = true ↔ ∃ i, i < l.length ∧ (l.getD i (⟨#[]⟩, ⟨#[]⟩)).1 = s.text
  | [] => ⟨fun h => (by cases h), fun ⟨i, h, _⟩ => absurd h (Nat.not_lt_zero _)⟩
  | p :: r => by
    unfold anyA
    rw [Bool.or_eq_true, decide_eq_true_eq, anyA_iff s r]
    constructor
    · rintro (h | ⟨i, h1, h2⟩)
      · exact ⟨0, by simp, h⟩
      · exact ⟨i + 1, by simp; omega, by simpa using h2⟩
    · rintro ⟨i, h1, h2⟩
      cases i with
      | zero => exact .inl h2
      | succ i => exact .inr ⟨i, by simp at h1; omega, by simpa using h2⟩
theorem hasA_any (s : Smp) (l : List (ByteArray × ByteArray)) : hasA s l = anyA s l := by
  rw [Bool.eq_iff_iff, anyA_iff]
  unfold hasA ixA
  rw [decide_eq_true_eq]
  rcases fst_spec (fun i => decide ((l.getD i (⟨#[]⟩, ⟨#[]⟩)).1 = s.text)) (l.length - 0) 0 with ⟨h1, h2⟩ | ⟨m, h1, h2, h3, h4, h5⟩
  · rw [h1]
    refine ⟨fun h => by omega, fun ⟨i, i1, i2⟩ => ?_⟩
    have := h2 i (by omega) (by omega)
    rw [decide_eq_false_iff_not] at this
    exact absurd i2 this
  · rw [h1]
    exact ⟨fun _ => ⟨m, by omega, by simpa using h4⟩, fun _ => by omega⟩
theorem atr_drop (s : Smp) (l : List (ByteArray × ByteArray)) (k : Nat) (h : k < l.length) : atr s (l.drop k) = if (l.getD k (⟨#[]⟩, ⟨#[]⟩)).1 = s.text then decide (s.kind = 5) || decide ((l.getD k (⟨#[]⟩, ⟨#[]⟩)).2 = s.val) else atr s (l.drop (k + 1)) := by
  rw [List.drop_eq_getElem_cons h, List.getD_eq_getElem?_getD, List.getElem?_eq_getElem h]; rfl
def sumClsR10 : Sum Try.prog := ⟨39, fun args => args = [.agg (Node.enc (dNode (args.getD 0 .any))), vs ((args.getD 1 .any).str)] ∧ ((dNode (args.getD 0 .any))).cls.length ≤ 1000000, fun args => vb (hasS ((dNode (args.getD 0 .any))).cls ((args.getD 1 .any).str)), fun args h => by
  have := clsR_ok (dNode (args.getD 0 .any)) ((args.getD 1 .any).str) h.2; rwa [← h.1] at this, true⟩
theorem sumClsR10_f : sumClsR10.f = 39 := rfl
theorem sumClsR10_D (args : List V) : sumClsR10.D args = (args = [.agg (Node.enc (dNode (args.getD 0 .any))), vs ((args.getD 1 .any).str)] ∧ ((dNode (args.getD 0 .any))).cls.length ≤ 1000000) := rfl
theorem sumClsR10_flat : sumClsR10.flat = true := rfl
theorem sumClsR10_r (args : List V) : sumClsR10.r args = vb (hasS ((dNode (args.getD 0 .any))).cls ((args.getD 1 .any).str)) := rfl
theorem simR_ok (n : Node) (s : Smp) (h : okN n) : PCall Try.prog 33 [.agg n.enc, .agg s.enc] (vb (simB n s)) := by
  refine PCall.of (Orc.cons sumClsR10 (Orc.nil _)) c33_ok (by simp [c33]) fun w0 own0 => ?_
  obtain ⟨hc, ha⟩ := h
  unfold simB
  by_cases h1 : s.kind = 1
  · simp only [c33, Node.enc, Smp.enc, h1, sumClsR10_f, sumClsR10_D, sumClsR10_flat, sumClsR10_r, go_sem, wpR_gcall, reduceCtorEq, reduceIte, Nat.reduceEqDiff, Nat.reduceAdd, Nat.reduceSub, Nat.reduceMul, Nat.reduceLT, Nat.reduceLeDiff, Nat.reduceBEq, Int.reduceEq, Int.reduceLT, Int.reduceLE, Int.reduceAdd, Int.reduceSub, Int.reduceNeg, Int.reduceToNat]
  by_cases h2 : s.kind = 2
  · simp only [c33, Node.enc, Smp.enc, h1, h2, sumClsR10_f, sumClsR10_D, sumClsR10_flat, sumClsR10_r, go_sem, wpR_gcall, reduceCtorEq, reduceIte, Nat.reduceEqDiff, Nat.reduceAdd, Nat.reduceSub, Nat.reduceMul, Nat.reduceLT, Nat.reduceLeDiff, Nat.reduceBEq, Int.reduceEq, Int.reduceLT, Int.reduceLE, Int.reduceAdd, Int.reduceSub, Int.reduceNeg, Int.reduceToNat]
  by_cases h3 : s.kind = 3
  · simp only [c33, Node.enc, Smp.enc, h1, h2, h3, sumClsR10_f, sumClsR10_D, sumClsR10_flat, sumClsR10_r, go_sem, wpR_gcall, reduceCtorEq, reduceIte, Nat.reduceEqDiff, Nat.reduceAdd, Nat.reduceSub, Nat.reduceMul, Nat.reduceLT, Nat.reduceLeDiff, Nat.reduceBEq, Int.reduceEq, Int.reduceLT, Int.reduceLE, Int.reduceAdd, Int.reduceSub, Int.reduceNeg, Int.reduceToNat]
  by_cases h4 : s.kind = 4
  · simp only [c33, Node.enc, Smp.enc, h1, h2, h3, h4, hc, dNode_mk, sumClsR10_f, sumClsR10_D, sumClsR10_flat, sumClsR10_r, go_sem, wpR_gcall, reduceCtorEq, reduceIte, Nat.reduceEqDiff, Nat.reduceAdd, Nat.reduceSub, Nat.reduceMul, Nat.reduceLT, Nat.reduceLeDiff, Nat.reduceBEq, Int.reduceEq, Int.reduceLT, Int.reduceLE, Int.reduceAdd, Int.reduceSub, Int.reduceNeg, Int.reduceToNat]
  rw [if_neg h1, if_neg h2, if_neg h3, if_neg h4, hasA_any, ← atr_eq]
  simp only [c33, Node.enc, Smp.enc, h1, h2, h3, h4, sumClsR10_f, sumClsR10_D, sumClsR10_flat, sumClsR10_r, go_sem, wpR_gcall, reduceCtorEq, reduceIte, Nat.reduceEqDiff, Nat.reduceAdd, Nat.reduceSub, Nat.reduceMul, Nat.reduceLT, Nat.reduceLeDiff, Nat.reduceBEq, Int.reduceEq, Int.reduceLT, Int.reduceLE, Int.reduceAdd, Int.reduceSub, Int.reduceNeg, Int.reduceToNat]
  refine SemC.lp (α := Nat) (fun k => [(2, .ptr 0 0 0 0), (3, .ptr 1 1 0 0), (5, vi k)]) (fun _ => ⟨[⟨0, 6, [n.enc], false, []⟩, ⟨1, 3, [s.enc], false, []⟩], 2⟩)
    (fun k => k ≤ n.attrs.length ∧ atr s n.attrs = atr s (n.attrs.drop k)) (fun k => n.attrs.length - k) 0 ⟨Nat.zero_le _, rfl⟩ (St.mk (by simp [Agrees, upd_at, initE_at])) fun k hk => ?_
  obtain ⟨k1, k2⟩ := hk
  by_cases he : k = n.attrs.length
  · subst he
    rw [List.drop_length] at k2
    simp only [Node.enc, Smp.enc, Int.lt_irrefl, k2, atr, sumClsR10_f, sumClsR10_D, sumClsR10_flat, sumClsR10_r, go_sem, wpR_gcall, reduceCtorEq, reduceIte, Nat.reduceEqDiff, Nat.reduceAdd, Nat.reduceSub, Nat.reduceMul, Nat.reduceLT, Nat.reduceLeDiff, Nat.reduceBEq, Int.reduceEq, Int.reduceLT, Int.reduceLE, Int.reduceAdd, Int.reduceSub, Int.reduceNeg, Int.reduceToNat]
  · have e1 : (k : Int) < (n.attrs.length : Int) := by omega
    have e0 : (0 : Int) ≤ (k : Int) := by omega
    rw [atr_drop s n.attrs k (by omega)] at k2
    by_cases h : (n.attrs.getD k (⟨#[]⟩, ⟨#[]⟩)).1 = s.text
    · rw [if_pos h] at k2
      by_cases h5 : s.kind = 5
      · simp only [Node.enc, Smp.enc, e0, e1, getD_prs2, h, h5, k2, sumClsR10_f, sumClsR10_D, sumClsR10_flat, sumClsR10_r, go_sem, wpR_gcall, reduceCtorEq, reduceIte, Nat.reduceEqDiff, Nat.reduceAdd, Nat.reduceSub, Nat.reduceMul, Nat.reduceLT, Nat.reduceLeDiff, Nat.reduceBEq, Int.reduceEq, Int.reduceLT, Int.reduceLE, Int.reduceAdd, Int.reduceSub, Int.reduceNeg, Int.reduceToNat]
      · simp only [Node.enc, Smp.enc, e0, e1, getD_prs2, h, h5, k2, sumClsR10_f, sumClsR10_D, sumClsR10_flat, sumClsR10_r, go_sem, wpR_gcall, reduceCtorEq, reduceIte, Nat.reduceEqDiff, Nat.reduceAdd, Nat.reduceSub, Nat.reduceMul, Nat.reduceLT, Nat.reduceLeDiff, Nat.reduceBEq, Int.reduceEq, Int.reduceLT, Int.reduceLE, Int.reduceAdd, Int.reduceSub, Int.reduceNeg, Int.reduceToNat]
    · rw [if_neg h] at k2
      simp only [Node.enc, Smp.enc, e0, e1, getD_prs2, h, sumClsR10_f, sumClsR10_D, sumClsR10_flat, sumClsR10_r, go_sem, wpR_gcall, reduceCtorEq, reduceIte, Nat.reduceEqDiff, Nat.reduceAdd, Nat.reduceSub, Nat.reduceMul, Nat.reduceLT, Nat.reduceLeDiff, Nat.reduceBEq, Int.reduceEq, Int.reduceLT, Int.reduceLE, Int.reduceAdd, Int.reduceSub, Int.reduceNeg, Int.reduceToNat]
      exact ⟨by omega, k + 1, ⟨by omega, k2⟩, by omega, by omega⟩
def sumSimR : Sum Try.prog := ⟨33, fun args => args = [.agg (Node.enc (dNode (args.getD 0 .any))), .agg (Smp.enc (dSmpV (args.getD 1 .any)))] ∧ okN (dNode (args.getD 0 .any)), fun args => vb (simB (dNode (args.getD 0 .any)) (dSmpV (args.getD 1 .any))), fun args h => by
  have := simR_ok (dNode (args.getD 0 .any)) (dSmpV (args.getD 1 .any)) h.2; rwa [← h.1] at this, true⟩
theorem sumSimR_f : sumSimR.f = 33 := rfl
theorem sumSimR_D (args : List V) : sumSimR.D args = (args = [.agg (Node.enc (dNode (args.getD 0 .any))), .agg (Smp.enc (dSmpV (args.getD 1 .any)))] ∧ okN (dNode (args.getD 0 .any))) := rfl
theorem sumSimR_flat : sumSimR.flat = true := rfl
theorem sumSimR_r (args : List V) : sumSimR.r args = vb (simB (dNode (args.getD 0 .any)) (dSmpV (args.getD 1 .any))) := rfl
end Go.Proofs.Ytcjephhkgccmgaa
