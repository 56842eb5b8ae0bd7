/- Layer 10, by the document: which node a compound is about. -/
import Derived.Test.YtcjephhkgccmgaaM10k
namespace Go.Proofs.Ytcjephhkgccmgaa
open Go.Sx
set_option linter.unusedSimpArgs false
set_option maxHeartbeats 4000000
set_option maxRecDepth 20000

def okK (n : Node) (l : List Smp) (k : Nat) : Bool := !decide (n.type = ⟨#[]⟩) && (l.take k).all (simB n)
theorem ixC_all (n : Node) (l : List Smp) : decide (0 ≤ ixC n l) = !(l.all (simB n)) := by
  unfold ixC
  rcases fst_spec (fun i => !simB n (l.getD i default)) (l.length - 0) 0 with ⟨h1, h2⟩ | ⟨m, h1, h2, h3, h4, h5⟩
  · rw [h1]
    have : l.all (simB n) = true := by
      rw [List.all_eq_true]
      intro x hx
      obtain ⟨i, hi, rfl⟩ := List.mem_iff_getElem.1 hx
      have := h2 i (by omega) (by omega)
      simpa [List.getD_eq_getElem?_getD, hi] using this
    rw [this]; rfl
  · rw [h1]
    have : l.all (simB n) = false := by
      rw [List.all_eq_false]
      have hm : m < l.length := by omega
      refine ⟨l[m], List.getElem_mem _, ?_⟩
      simpa [List.getD_eq_getElem?_getD, hm] using h4
    rw [this]; simp
theorem okK_all (n : Node) (c : Cmp) : okK n c.l c.l.length = oneB n c := by
  unfold okK oneB
  rw [List.take_length, ixC_all, Bool.not_not]
theorem okK_succ (n : Node) (l : List Smp) (k : Nat) (h : k < l.length) : okK n l (k + 1) = (okK n l k && simB n (l.getD k default)) := by
  unfold okK
  rw [smp_take l k h, List.all_append, Bool.and_assoc]
  simp
theorem oneR_ok (n : Node) (c : Cmp) (hn : okN n) (hl : c.l.length ≤ 1000000) : PCall Try.prog 26 [.agg n.enc, .agg c.enc] (vb (oneB n c)) := by
  refine PCall.of (Orc.cons sumSimR (Orc.nil _)) c26_ok (by simp [c26]) fun w0 own0 => ?_
  simp only [c26, Node.enc, Cmp.enc, sumSimR_f, sumSimR_D, sumSimR_flat, sumSimR_r, go_sem, wpR_gcall, reduceCtorEq, reduceIte, Nat.reduceEqDiff, Nat.reduceAdd, Nat.reduceSub, Nat.reduceMul, Nat.reduceLT, Nat.reduceLeDiff, Nat.reduceBEq, Int.reduceEq, Int.reduceLT, Int.reduceLE, Int.reduceAdd, Int.reduceSub, Int.reduceNeg, Int.reduceToNat]
  refine SemC.lp (α := Nat) (fun k => [(2, .ptr 0 0 0 0), (3, .ptr 1 1 0 0), (5, vb (okK n c.l k)), (6, vi k)]) (fun _ => ⟨[⟨0, 6, [n.enc], false, []⟩, ⟨1, 2, [c.enc], false, []⟩], 2⟩)
    (fun k => k ≤ c.l.length) (fun k => c.l.length - k) 0 (Nat.zero_le _) (St.mk (by simp [Agrees, upd_at, initE_at, okK])) fun k hk => ?_
  by_cases he : k = c.l.length
  · subst he
    simp only [Node.enc, Cmp.enc, Int.lt_irrefl, okK_all, sumSimR_f, sumSimR_D, sumSimR_flat, sumSimR_r, go_sem, wpR_gcall, reduceCtorEq, reduceIte, Nat.reduceEqDiff, Nat.reduceAdd, Nat.reduceSub, Nat.reduceMul, Nat.reduceLT, Nat.reduceLeDiff, Nat.reduceBEq, Int.reduceEq, Int.reduceLT, Int.reduceLE, Int.reduceAdd, Int.reduceSub, Int.reduceNeg, Int.reduceToNat]
  · have e1 : (k : Int) < (c.l.length : Int) := by omega
    have e0 : (0 : Int) ≤ (k : Int) := by omega
    have hlt : k < c.l.length := by omega
    have hg := getD_smps c.l k
    have hs := okK_succ n c.l k hlt
    generalize hx : c.l.getD k default = x at *
    cases hok : okK n c.l k with
    | true =>
      rw [hok] at hs
      simp only [Node.enc, Cmp.enc, Smp.enc, e0, e1, hg, hn, dNode_mk, Node.eta, dSmp_mk, Smp.eta, V.boo_c, sumSimR_f, sumSimR_D, sumSimR_flat, sumSimR_r, go_sem, wpR_gcall, reduceCtorEq, reduceIte, Nat.reduceEqDiff, Nat.reduceAdd, Nat.reduceSub, Nat.reduceMul, Nat.reduceLT, Nat.reduceLeDiff, Nat.reduceBEq, Int.reduceEq, Int.reduceLT, Int.reduceLE, Int.reduceAdd, Int.reduceSub, Int.reduceNeg, Int.reduceToNat]
      exact ⟨by omega, k + 1, by omega, by omega, by rw [hs]; simp, by omega⟩
    | false =>
      rw [hok] at hs
      simp only [Node.enc, Cmp.enc, Smp.enc, e0, e1, hg, hn, dNode_mk, Node.eta, dSmp_mk, Smp.eta, V.boo_c, sumSimR_f, sumSimR_D, sumSimR_flat, sumSimR_r, go_sem, wpR_gcall, reduceCtorEq, reduceIte, Nat.reduceEqDiff, Nat.reduceAdd, Nat.reduceSub, Nat.reduceMul, Nat.reduceLT, Nat.reduceLeDiff, Nat.reduceBEq, Int.reduceEq, Int.reduceLT, Int.reduceLE, Int.reduceAdd, Int.reduceSub, Int.reduceNeg, Int.reduceToNat]
      exact ⟨by omega, k + 1, by omega, by omega, by rw [hs]; simp, by omega⟩
def sumOneR : Sum Try.prog := ⟨26, fun args => args = [.agg (Node.enc (dNode (args.getD 0 .any))), .agg (Cmp.enc (dCmp (args.getD 1 .any)))] ∧ okN (dNode (args.getD 0 .any)) ∧ ((dCmp (args.getD 1 .any))).l.length ≤ 1000000, fun args => vb (oneB (dNode (args.getD 0 .any)) (dCmp (args.getD 1 .any))), fun args h => by
  have := oneR_ok (dNode (args.getD 0 .any)) (dCmp (args.getD 1 .any)) h.2.1 h.2.2; rwa [← h.1] at this, true⟩
theorem sumOneR_f : sumOneR.f = 26 := rfl
theorem sumOneR_D (args : List V) : sumOneR.D args = (args = [.agg (Node.enc (dNode (args.getD 0 .any))), .agg (Cmp.enc (dCmp (args.getD 1 .any)))] ∧ okN (dNode (args.getD 0 .any)) ∧ ((dCmp (args.getD 1 .any))).l.length ≤ 1000000) := rfl
theorem sumOneR_flat : sumOneR.flat = true := rfl
theorem sumOneR_r (args : List V) : sumOneR.r args = vb (oneB (dNode (args.getD 0 .any)) (dCmp (args.getD 1 .any))) := rfl
end Go.Proofs.Ytcjephhkgccmgaa
