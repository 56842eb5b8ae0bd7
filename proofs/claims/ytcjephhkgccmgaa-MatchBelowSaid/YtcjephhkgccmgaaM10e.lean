/- Layer 10: which node a selector is about. -/
import Derived.Test.YtcjephhkgccmgaaM10d
namespace Go.Proofs.Ytcjephhkgccmgaa
open Go.Sx
set_option linter.unusedSimpArgs false
set_option maxHeartbeats 4000000
set_option maxRecDepth 20000

def dCmps (v : V) : List Cmp := v.es.map dCmpL
theorem dCmps_map (sz : Nat) (l : List Cmp) : dCmps (.slc sz (l.map Cmp.enc)) = l := by
  simp [dCmps, V.es, Function.comp_def, dCmpL_enc]
theorem dSels_one (s : Sel) : dSels (.slc 1 [[.slc 2 (s.map Cmp.enc)]]) = [s] := dSels_map [s]
def okNs (l : List Node) : Prop := ∀ k, k < l.length → okN (l.getD k .zero)
theorem doc_docP {l : List Node} (hl : l.length ≤ 1000) (hn : okNs l) (h : isDoc l) : docP l := by
  refine ⟨hl, fun k hk => ⟨hn k hk, ?_, stood_par h.2 k hk⟩⟩
  by_cases h0 : k = 0
  · subst h0
    have := (standR_zero.1 (h.2 0 hk)).1
    omega
  · have := stood_ge h.2 k (by omega) hk
    omega
theorem up_all (l : List Node) (hd : docP l) (s : Sel) (hs : okC s) (h0 : 0 < s.length) (k : Int) (hk : 0 ≤ k) (hk2 : k < l.length) : PCall Try.prog 25 [nodes l, vi k, .slc 2 (s.map Cmp.enc)] (vb (upN l s (s.length - 1) k.toNat)) := by
  have := up_ok l hd s hs (s.length - 1) k.toNat (by omega) (by omega)
  rw [show s.length - 1 + 1 = s.length by omega, List.take_length, Int.toNat_of_nonneg hk] at this
  exact this
def sumUp : Sum Try.prog := ⟨25, fun args => args = [nodes (dNodes (args.getD 0 .any)), vi ((args.getD 1 .any).int), .slc 2 ((dCmps (args.getD 2 .any)).map Cmp.enc)] ∧ docP (dNodes (args.getD 0 .any)) ∧ okC (dCmps (args.getD 2 .any)) ∧ 0 < ((dCmps (args.getD 2 .any))).length ∧ 0 ≤ ((args.getD 1 .any).int) ∧ ((args.getD 1 .any).int) < ((dNodes (args.getD 0 .any))).length, fun args => vb (upN (dNodes (args.getD 0 .any)) (dCmps (args.getD 2 .any)) (((dCmps (args.getD 2 .any))).length - 1) (((args.getD 1 .any).int)).toNat), fun args h => by
  have := up_all (dNodes (args.getD 0 .any)) h.2.1 (dCmps (args.getD 2 .any)) h.2.2.1 h.2.2.2.1 ((args.getD 1 .any).int) h.2.2.2.2.1 h.2.2.2.2.2; rwa [← h.1] at this, true⟩
theorem sumUp_f : sumUp.f = 25 := rfl
theorem sumUp_D (args : List V) : sumUp.D args = (args = [nodes (dNodes (args.getD 0 .any)), vi ((args.getD 1 .any).int), .slc 2 ((dCmps (args.getD 2 .any)).map Cmp.enc)] ∧ docP (dNodes (args.getD 0 .any)) ∧ okC (dCmps (args.getD 2 .any)) ∧ 0 < ((dCmps (args.getD 2 .any))).length ∧ 0 ≤ ((args.getD 1 .any).int) ∧ ((args.getD 1 .any).int) < ((dNodes (args.getD 0 .any))).length) := rfl
theorem sumUp_flat : sumUp.flat = true := rfl
theorem sumUp_r (args : List V) : sumUp.r args = vb (upN (dNodes (args.getD 0 .any)) (dCmps (args.getD 2 .any)) (((dCmps (args.getD 2 .any))).length - 1) (((args.getD 1 .any).int)).toNat) := rfl
def sumRgtL : Sum Try.prog := ⟨21, fun args => args = [sels (dSels (args.getD 0 .any))] ∧ okM (dSels (args.getD 0 .any)), fun args => vb (rgtL (dSels (args.getD 0 .any))), fun args h => by
  have := rightL_ok (dSels (args.getD 0 .any)) h.2; rwa [← h.1] at this, true⟩
theorem sumRgtL_f : sumRgtL.f = 21 := rfl
theorem sumRgtL_D (args : List V) : sumRgtL.D args = (args = [sels (dSels (args.getD 0 .any))] ∧ okM (dSels (args.getD 0 .any))) := rfl
theorem sumRgtL_flat : sumRgtL.flat = true := rfl
theorem sumRgtL_r (args : List V) : sumRgtL.r args = vb (rgtL (dSels (args.getD 0 .any))) := rfl
def isM (l : List Node) (k : Int) (s : Sel) : Bool := docB l && decide (0 ≤ k ∧ k < l.length) && rgtL [s] && upN l s (s.length - 1) k.toNat
theorem rgtL_pos {s : Sel} (h : rgtL [s] = true) : 0 < s.length ∧ s.length ≤ 64 := by
  unfold rgtL at h
  rw [decide_eq_true_eq] at h
  have := h.2 0 (by simp)
  unfold rgtS at this
  rw [decide_eq_true_eq] at this
  obtain ⟨h1, h2, _⟩ := this
  simp only [List.getD_cons_zero] at h1 h2
  omega
theorem okM_one {s : Sel} (hs : okC s) : okM [s] := ⟨by simp, fun i hi => by
  have : i = 0 := by simp at hi; omega
  subst this; exact hs⟩
theorem isM_ok (l : List Node) (k : Int) (s : Sel) (hl : l.length ≤ 1000) (hn : okNs l) (hs : okC s) : PCall Try.prog 15 [nodes l, vi k, .agg (selE s)] (vb (isM l k s)) := by
  refine PCall.of (Orc.cons sumChkT (Orc.cons sumRgtL (Orc.cons sumUp (Orc.nil _)))) c15_ok (by simp [c15]) fun w0 own0 => ?_
  have ho := okM_one hs
  unfold isM
  by_cases hD : docB l = true
  · have hI := (docB_iff l).1 hD
    have hP := doc_docP hl hn hI
    have c0 : (if 0 ≤ badR l ∨ l.length = 0 then (5 : Int) else 0) = 0 := by
      unfold docB at hD; rw [decide_eq_true_eq] at hD; rw [if_neg]; omega
    by_cases h1 : 0 ≤ k
    · by_cases h2 : k < (l.length : Int)
      · cases hr : rgtL [s] with
        | true =>
          obtain ⟨r1, _⟩ := rgtL_pos hr
          simp only [c15, nodes, selE, sels, dNodes_map, dSels_one, dCmps_map, chkOf, bad_eq, c0, hl, hD, hP, hs, h1, h2, ho, hr, r1, List.map_cons, List.map_nil, on_gcall, off_gcall, flat_gcall, sumChkT_f, sumChkT_D, sumChkT_flat, sumChkT_r, sumRgtL_f, sumRgtL_D, sumRgtL_flat, sumRgtL_r, sumUp_f, sumUp_D, sumUp_flat, sumUp_r, go_sem, reduceCtorEq, reduceIte, Nat.reduceEqDiff, Nat.reduceAdd, Nat.reduceSub, Nat.reduceMul, Nat.reduceLT, Nat.reduceLeDiff, Nat.reduceBEq, Int.reduceEq, Int.reduceLT, Int.reduceLE, Int.reduceAdd, Int.reduceSub, Int.reduceNeg, Int.reduceToNat]
        | false =>
          simp only [c15, nodes, selE, sels, dNodes_map, dSels_one, dCmps_map, chkOf, bad_eq, c0, hl, hD, hP, hs, h1, h2, ho, hr, List.map_cons, List.map_nil, on_gcall, off_gcall, flat_gcall, sumChkT_f, sumChkT_D, sumChkT_flat, sumChkT_r, sumRgtL_f, sumRgtL_D, sumRgtL_flat, sumRgtL_r, sumUp_f, sumUp_D, sumUp_flat, sumUp_r, go_sem, reduceCtorEq, reduceIte, Nat.reduceEqDiff, Nat.reduceAdd, Nat.reduceSub, Nat.reduceMul, Nat.reduceLT, Nat.reduceLeDiff, Nat.reduceBEq, Int.reduceEq, Int.reduceLT, Int.reduceLE, Int.reduceAdd, Int.reduceSub, Int.reduceNeg, Int.reduceToNat]
      · simp only [c15, nodes, selE, sels, dNodes_map, dSels_one, dCmps_map, chkOf, bad_eq, c0, hl, hD, hP, hs, h1, h2, ho, List.map_cons, List.map_nil, on_gcall, off_gcall, flat_gcall, sumChkT_f, sumChkT_D, sumChkT_flat, sumChkT_r, sumRgtL_f, sumRgtL_D, sumRgtL_flat, sumRgtL_r, sumUp_f, sumUp_D, sumUp_flat, sumUp_r, go_sem, reduceCtorEq, reduceIte, Nat.reduceEqDiff, Nat.reduceAdd, Nat.reduceSub, Nat.reduceMul, Nat.reduceLT, Nat.reduceLeDiff, Nat.reduceBEq, Int.reduceEq, Int.reduceLT, Int.reduceLE, Int.reduceAdd, Int.reduceSub, Int.reduceNeg, Int.reduceToNat]
    · simp only [c15, nodes, selE, sels, dNodes_map, dSels_one, dCmps_map, chkOf, bad_eq, c0, hl, hD, hP, hs, h1, ho, List.map_cons, List.map_nil, on_gcall, off_gcall, flat_gcall, sumChkT_f, sumChkT_D, sumChkT_flat, sumChkT_r, sumRgtL_f, sumRgtL_D, sumRgtL_flat, sumRgtL_r, sumUp_f, sumUp_D, sumUp_flat, sumUp_r, go_sem, reduceCtorEq, reduceIte, Nat.reduceEqDiff, Nat.reduceAdd, Nat.reduceSub, Nat.reduceMul, Nat.reduceLT, Nat.reduceLeDiff, Nat.reduceBEq, Int.reduceEq, Int.reduceLT, Int.reduceLE, Int.reduceAdd, Int.reduceSub, Int.reduceNeg, Int.reduceToNat]
  · have c0 : (if 0 ≤ badR l ∨ l.length = 0 then (5 : Int) else 0) = 5 := by
      unfold docB at hD; rw [decide_eq_true_eq] at hD; rw [if_pos]; omega
    simp only [c15, nodes, selE, sels, dNodes_map, dSels_one, dCmps_map, chkOf, bad_eq, c0, hl, hD, hs, ho, List.map_cons, List.map_nil, on_gcall, off_gcall, flat_gcall, sumChkT_f, sumChkT_D, sumChkT_flat, sumChkT_r, sumRgtL_f, sumRgtL_D, sumRgtL_flat, sumRgtL_r, sumUp_f, sumUp_D, sumUp_flat, sumUp_r, go_sem, reduceCtorEq, reduceIte, Nat.reduceEqDiff, Nat.reduceAdd, Nat.reduceSub, Nat.reduceMul, Nat.reduceLT, Nat.reduceLeDiff, Nat.reduceBEq, Int.reduceEq, Int.reduceLT, Int.reduceLE, Int.reduceAdd, Int.reduceSub, Int.reduceNeg, Int.reduceToNat]
def sumIsM : Sum Try.prog := ⟨15, fun args => args = [nodes (dNodes (args.getD 0 .any)), vi ((args.getD 1 .any).int), .agg (selE (dSel (args.getD 2 .any)))] ∧ ((dNodes (args.getD 0 .any))).length ≤ 1000 ∧ okNs (dNodes (args.getD 0 .any)) ∧ okC (dSel (args.getD 2 .any)), fun args => vb (isM (dNodes (args.getD 0 .any)) ((args.getD 1 .any).int) (dSel (args.getD 2 .any))), fun args h => by
  have := isM_ok (dNodes (args.getD 0 .any)) ((args.getD 1 .any).int) (dSel (args.getD 2 .any)) h.2.1 h.2.2.1 h.2.2.2; rwa [← h.1] at this, true⟩
theorem sumIsM_f : sumIsM.f = 15 := rfl
theorem sumIsM_D (args : List V) : sumIsM.D args = (args = [nodes (dNodes (args.getD 0 .any)), vi ((args.getD 1 .any).int), .agg (selE (dSel (args.getD 2 .any)))] ∧ ((dNodes (args.getD 0 .any))).length ≤ 1000 ∧ okNs (dNodes (args.getD 0 .any)) ∧ okC (dSel (args.getD 2 .any))) := rfl
theorem sumIsM_flat : sumIsM.flat = true := rfl
theorem sumIsM_r (args : List V) : sumIsM.r args = vb (isM (dNodes (args.getD 0 .any)) ((args.getD 1 .any).int) (dSel (args.getD 2 .any))) := rfl
end Go.Proofs.Ytcjephhkgccmgaa
