/- Layer 9: classes and attributes (as in T9b). -/
import Derived.Test.YtcjephhkgccmgaaM10a
namespace Go.Proofs.Ytcjephhkgccmgaa
open Go.Sx
set_option linter.unusedSimpArgs false
set_option maxHeartbeats 4000000
set_option maxRecDepth 20000

def ixS (l : List ByteArray) (x : ByteArray) : Int := fst (fun i => decide (x = l.getD i ⟨#[]⟩)) (l.length - 0) 0
theorem ixS_mem (l : List ByteArray) (x : ByteArray) : 0 ≤ ixS l x ↔ x ∈ l := by
  unfold ixS
  rcases fst_spec (fun i => decide (x = l.getD i ⟨#[]⟩)) (l.length - 0) 0 with ⟨h1, h2⟩ | ⟨m, h1, h2, h3, h4, h5⟩
  · rw [h1]
    refine ⟨fun h => by omega, fun h => ?_⟩
    obtain ⟨i, hi, rfl⟩ := List.getElem_of_mem h
    have := h2 i (by omega) (by omega)
    simp [List.getD_eq_getElem?_getD, hi] at this
  · rw [h1]
    refine ⟨fun _ => ?_, fun _ => by omega⟩
    simp only [decide_eq_true_eq] at h4
    rw [h4, List.getD_eq_getElem?_getD, List.getElem?_eq_getElem (by omega)]
    exact List.getElem_mem _
theorem ixS_ok (l : List ByteArray) (x : ByteArray) (hl : l.length ≤ 1000000) : PCall Try.prog 49 [strs l, vs x] (vi (ixS l x)) := by
  refine PCall.of (Orc.nil _) c49_ok (by simp [c49]) fun w0 own0 => ?_
  simp only [c49, strs, go_sem, wpR_gcall, reduceCtorEq, reduceIte, Nat.reduceEqDiff, Nat.reduceAdd, Nat.reduceSub, Nat.reduceMul, Nat.reduceLT, Nat.reduceLeDiff, Nat.reduceBEq, Int.reduceEq, Int.reduceLT, Int.reduceLE, Int.reduceAdd, Int.reduceSub, Int.reduceNeg, Int.reduceToNat]
  refine SemC.lp (α := Nat) (fun k => [(0, .slc 1 (l.map fun n => [vs n])), (1, vs x), (7, vi l.length), (8, vi k)]) (fun _ => ⟨[], 0⟩)
    (fun k => k ≤ l.length ∧ fst (fun i => decide (x = l.getD i ⟨#[]⟩)) (l.length - k) k = ixS l x) (fun k => l.length - k) 0 ⟨Nat.zero_le _, rfl⟩ (St.mk (by simp [Agrees, upd_at, initE_at])) fun k hk => ?_
  obtain ⟨h1, h2⟩ := hk
  by_cases hkl : k = l.length
  · subst hkl
    rw [fst_end] at h2
    simp only [Int.lt_irrefl, ← h2, go_sem, wpR_gcall, reduceCtorEq, reduceIte, Nat.reduceEqDiff, Nat.reduceAdd, Nat.reduceSub, Nat.reduceMul, Nat.reduceLT, Nat.reduceLeDiff, Nat.reduceBEq, Int.reduceEq, Int.reduceLT, Int.reduceLE, Int.reduceAdd, Int.reduceSub, Int.reduceNeg, Int.reduceToNat]
  · have e1 : (k : Int) < (l.length : Int) := by omega
    rw [fst_step _ _ _ (by omega)] at h2
    simp only [decide_eq_true_eq] at h2
    simp only [e1, getD_strs, go_sem, wpR_gcall, reduceCtorEq, reduceIte, Nat.reduceEqDiff, Nat.reduceAdd, Nat.reduceSub, Nat.reduceMul, Nat.reduceLT, Nat.reduceLeDiff, Nat.reduceBEq, Int.reduceEq, Int.reduceLT, Int.reduceLE, Int.reduceAdd, Int.reduceSub, Int.reduceNeg, Int.reduceToNat]
    refine ⟨by omega, fun h => by rw [if_pos h] at h2; exact h2, fun h => ⟨by omega, k + 1, ⟨by omega, by rw [if_neg h] at h2; exact h2⟩, by omega, by omega⟩⟩
def sumIxS : Sum Try.prog := ⟨49, fun args => args = [strs (dStrs (args.getD 0 .any)), vs ((args.getD 1 .any).str)] ∧ ((dStrs (args.getD 0 .any))).length ≤ 1000000, fun args => vi (ixS (dStrs (args.getD 0 .any)) ((args.getD 1 .any).str)), fun args h => by
  have := ixS_ok (dStrs (args.getD 0 .any)) ((args.getD 1 .any).str) h.2; rwa [← h.1] at this, true⟩
theorem sumIxS_f : sumIxS.f = 49 := rfl
theorem sumIxS_D (args : List V) : sumIxS.D args = (args = [strs (dStrs (args.getD 0 .any)), vs ((args.getD 1 .any).str)] ∧ ((dStrs (args.getD 0 .any))).length ≤ 1000000) := rfl
theorem sumIxS_flat : sumIxS.flat = true := rfl
theorem sumIxS_r (args : List V) : sumIxS.r args = vi (ixS (dStrs (args.getD 0 .any)) ((args.getD 1 .any).str)) := rfl
def hasS (l : List ByteArray) (x : ByteArray) : Bool := decide (0 ≤ ixS l x)
theorem hasS_iff (l : List ByteArray) (x : ByteArray) : hasS l x = true ↔ x ∈ l := by
  unfold hasS; rw [decide_eq_true_eq]; exact ixS_mem l x
theorem conS_ok (l : List ByteArray) (x : ByteArray) (hl : l.length ≤ 1000000) : PCall Try.prog 47 [strs l, vs x] (vb (hasS l x)) := by
  refine PCall.of (Orc.cons sumIxS (Orc.nil _)) c47_ok (by simp [c47]) fun w0 own0 => ?_
  simp only [c47, strs, dStrs_map, sumIxS_f, sumIxS_D, sumIxS_flat, sumIxS_r, hasS, go_sem, wpR_gcall, reduceCtorEq, reduceIte, Nat.reduceEqDiff, Nat.reduceAdd, Nat.reduceSub, Nat.reduceMul, Nat.reduceLT, Nat.reduceLeDiff, Nat.reduceBEq, Int.reduceEq, Int.reduceLT, Int.reduceLE, Int.reduceAdd, Int.reduceSub, Int.reduceNeg, Int.reduceToNat]
  exact hl
def sumConS : Sum Try.prog := ⟨47, fun args => args = [strs (dStrs (args.getD 0 .any)), vs ((args.getD 1 .any).str)] ∧ ((dStrs (args.getD 0 .any))).length ≤ 1000000, fun args => vb (hasS (dStrs (args.getD 0 .any)) ((args.getD 1 .any).str)), fun args h => by
  have := conS_ok (dStrs (args.getD 0 .any)) ((args.getD 1 .any).str) h.2; rwa [← h.1] at this, true⟩
theorem sumConS_f : sumConS.f = 47 := rfl
theorem sumConS_D (args : List V) : sumConS.D args = (args = [strs (dStrs (args.getD 0 .any)), vs ((args.getD 1 .any).str)] ∧ ((dStrs (args.getD 0 .any))).length ≤ 1000000) := rfl
theorem sumConS_flat : sumConS.flat = true := rfl
theorem sumConS_r (args : List V) : sumConS.r args = vb (hasS (dStrs (args.getD 0 .any)) ((args.getD 1 .any).str)) := rfl
def attrV (name : ByteArray) : List (ByteArray × ByteArray) → ByteArray
  | [] => ⟨#[]⟩
  | p :: r => if p.1 = name then p.2 else attrV name r
theorem attrV_drop (name : ByteArray) (l : List (ByteArray × ByteArray)) (k : Nat) (h : k < l.length) : attrV name (l.drop k) = if (l.getD k (⟨#[]⟩, ⟨#[]⟩)).1 = name then (l.getD k (⟨#[]⟩, ⟨#[]⟩)).2 else attrV name (l.drop (k + 1)) := by
  rw [List.drop_eq_getElem_cons h]
  have e : l.getD k (⟨#[]⟩, ⟨#[]⟩) = l[k] := by rw [List.getD_eq_getElem?_getD, List.getElem?_eq_getElem h]; rfl
  rw [e]; rfl
theorem attrT_ok (n : Node) (name : ByteArray) (hl : n.attrs.length ≤ 1000000) : PCall Try.prog 46 [.agg n.enc, vs name] (vs (attrV name n.attrs)) := by
  refine PCall.of (Orc.nil _) c46_ok (by simp [c46]) fun w0 own0 => ?_
  simp only [c46, Node.enc, go_sem, wpR_gcall, reduceCtorEq, reduceIte, Nat.reduceEqDiff, Nat.reduceAdd, Nat.reduceSub, Nat.reduceMul, Nat.reduceLT, Nat.reduceLeDiff, Nat.reduceBEq, Int.reduceEq, Int.reduceLT, Int.reduceLE, Int.reduceAdd, Int.reduceSub, Int.reduceNeg, Int.reduceToNat]
  refine SemC.lp (α := Nat) (fun k => [(1, vs name), (2, .ptr 0 0 0 0), (8, vi n.attrs.length), (9, vi k)]) (fun _ => ⟨[⟨0, 6, [n.enc], false, []⟩], 1⟩)
    (fun k => k ≤ n.attrs.length ∧ attrV name (n.attrs.drop k) = attrV name n.attrs) (fun k => n.attrs.length - k) 0 ⟨Nat.zero_le _, rfl⟩ (St.mk (by simp [Agrees, upd_at, initE_at, Node.enc])) fun k hk => ?_
  obtain ⟨h1, h2⟩ := hk
  by_cases hkl : k = n.attrs.length
  · subst hkl
    rw [List.drop_length] at h2
    simp only [Node.enc, Int.lt_irrefl, ← h2, attrV, go_sem, wpR_gcall, reduceCtorEq, reduceIte, Nat.reduceEqDiff, Nat.reduceAdd, Nat.reduceSub, Nat.reduceMul, Nat.reduceLT, Nat.reduceLeDiff, Nat.reduceBEq, Int.reduceEq, Int.reduceLT, Int.reduceLE, Int.reduceAdd, Int.reduceSub, Int.reduceNeg, Int.reduceToNat]
  · have e1 : (k : Int) < (n.attrs.length : Int) := by omega
    rw [attrV_drop _ _ _ (by omega)] at h2
    simp only [Node.enc, e1, getD_prs2, go_sem, wpR_gcall, reduceCtorEq, reduceIte, Nat.reduceEqDiff, Nat.reduceAdd, Nat.reduceSub, Nat.reduceMul, Nat.reduceLT, Nat.reduceLeDiff, Nat.reduceBEq, Int.reduceEq, Int.reduceLT, Int.reduceLE, Int.reduceAdd, Int.reduceSub, Int.reduceNeg, Int.reduceToNat]
    refine ⟨by omega, fun h => ⟨by omega, by rw [if_pos h] at h2; exact h2⟩, fun h => ⟨by omega, k + 1, ⟨by omega, by rw [if_neg h] at h2; exact h2⟩, by omega, by omega⟩⟩
theorem clsT_ok (n : Node) (name : ByteArray) (hl : n.cls.length ≤ 1000000) : PCall Try.prog 43 [.agg n.enc, vs name] (vb (hasS n.cls name)) := by
  refine PCall.of (Orc.cons sumConS (Orc.nil _)) c43_ok (by simp [c43]) fun w0 own0 => ?_
  simp only [c43, Node.enc, strs, dStrs_map, sumConS_f, sumConS_D, sumConS_flat, sumConS_r, go_sem, wpR_gcall, reduceCtorEq, reduceIte, Nat.reduceEqDiff, Nat.reduceAdd, Nat.reduceSub, Nat.reduceMul, Nat.reduceLT, Nat.reduceLeDiff, Nat.reduceBEq, Int.reduceEq, Int.reduceLT, Int.reduceLE, Int.reduceAdd, Int.reduceSub, Int.reduceNeg, Int.reduceToNat]
  exact hl
theorem clsR_ok (n : Node) (name : ByteArray) (hl : n.cls.length ≤ 1000000) : PCall Try.prog 39 [.agg n.enc, vs name] (vb (hasS n.cls name)) := by
  refine PCall.of (Orc.nil _) c39_ok (by simp [c39]) fun w0 own0 => ?_
  simp only [c39, Node.enc, go_sem, wpR_gcall, reduceCtorEq, reduceIte, Nat.reduceEqDiff, Nat.reduceAdd, Nat.reduceSub, Nat.reduceMul, Nat.reduceLT, Nat.reduceLeDiff, Nat.reduceBEq, Int.reduceEq, Int.reduceLT, Int.reduceLE, Int.reduceAdd, Int.reduceSub, Int.reduceNeg, Int.reduceToNat]
  refine SemC.lp (α := Nat) (fun k => [(1, vs name), (2, .ptr 0 0 0 0), (5, vi k)]) (fun _ => ⟨[⟨0, 6, [n.enc], false, []⟩], 1⟩)
    (fun k => k ≤ n.cls.length ∧ ∀ i, i < k → n.cls.getD i ⟨#[]⟩ ≠ name) (fun k => n.cls.length - k) 0 ⟨Nat.zero_le _, fun i hi => by omega⟩ (St.mk (by simp [Agrees, upd_at, initE_at])) fun k hk => ?_
  obtain ⟨h1, h2⟩ := hk
  by_cases hkl : k = n.cls.length
  · subst hkl
    have hh : hasS n.cls name = false := by
      cases hb : hasS n.cls name with
      | false => rfl
      | true =>
        rw [hasS_iff] at hb
        obtain ⟨i, hi, e⟩ := List.getElem_of_mem hb
        exact absurd (by rw [List.getD_eq_getElem?_getD, List.getElem?_eq_getElem hi]; exact e) (h2 i hi)
    simp only [Node.enc, Int.lt_irrefl, hh, go_sem, wpR_gcall, reduceCtorEq, reduceIte, Nat.reduceEqDiff, Nat.reduceAdd, Nat.reduceSub, Nat.reduceMul, Nat.reduceLT, Nat.reduceLeDiff, Nat.reduceBEq, Int.reduceEq, Int.reduceLT, Int.reduceLE, Int.reduceAdd, Int.reduceSub, Int.reduceNeg, Int.reduceToNat]
  · have e1 : (k : Int) < (n.cls.length : Int) := by omega
    simp only [Node.enc, e1, getD_strs, go_sem, wpR_gcall, reduceCtorEq, reduceIte, Nat.reduceEqDiff, Nat.reduceAdd, Nat.reduceSub, Nat.reduceMul, Nat.reduceLT, Nat.reduceLeDiff, Nat.reduceBEq, Int.reduceEq, Int.reduceLT, Int.reduceLE, Int.reduceAdd, Int.reduceSub, Int.reduceNeg, Int.reduceToNat]
    refine ⟨by omega, fun h => ?_, fun h => ⟨by omega, k + 1, ⟨by omega, fun i hi => ?_⟩, by omega, by omega⟩⟩
    · have hh : hasS n.cls name = true := by
        rw [hasS_iff, ← h, List.getD_eq_getElem?_getD, List.getElem?_eq_getElem (by omega)]
        exact List.getElem_mem _
      rw [hh]
    · by_cases e : i = k
      · subst e; exact h
      · exact h2 i (by omega)
def sumAttrT : Sum Try.prog := ⟨46, fun args => args = [.agg (Node.enc (dNode (args.getD 0 .any))), vs ((args.getD 1 .any).str)] ∧ ((dNode (args.getD 0 .any))).attrs.length ≤ 1000000, fun args => vs (attrV ((args.getD 1 .any).str) ((dNode (args.getD 0 .any))).attrs), fun args h => by
  have := attrT_ok (dNode (args.getD 0 .any)) ((args.getD 1 .any).str) h.2; rwa [← h.1] at this, true⟩
theorem sumAttrT_f : sumAttrT.f = 46 := rfl
theorem sumAttrT_D (args : List V) : sumAttrT.D args = (args = [.agg (Node.enc (dNode (args.getD 0 .any))), vs ((args.getD 1 .any).str)] ∧ ((dNode (args.getD 0 .any))).attrs.length ≤ 1000000) := rfl
theorem sumAttrT_flat : sumAttrT.flat = true := rfl
theorem sumAttrT_r (args : List V) : sumAttrT.r args = vs (attrV ((args.getD 1 .any).str) ((dNode (args.getD 0 .any))).attrs) := rfl
def sumClsT : Sum Try.prog := ⟨43, fun args => args = [.agg (Node.enc (dNode (args.getD 0 .any))), vs ((args.getD 1 .any).str)] ∧ ((dNode (args.getD 0 .any))).cls.length ≤ 1000000, fun args => vb (hasS ((dNode (args.getD 0 .any))).cls ((args.getD 1 .any).str)), fun args h => by
  have := clsT_ok (dNode (args.getD 0 .any)) ((args.getD 1 .any).str) h.2; rwa [← h.1] at this, true⟩
theorem sumClsT_f : sumClsT.f = 43 := rfl
theorem sumClsT_D (args : List V) : sumClsT.D args = (args = [.agg (Node.enc (dNode (args.getD 0 .any))), vs ((args.getD 1 .any).str)] ∧ ((dNode (args.getD 0 .any))).cls.length ≤ 1000000) := rfl
theorem sumClsT_flat : sumClsT.flat = true := rfl
theorem sumClsT_r (args : List V) : sumClsT.r args = vb (hasS ((dNode (args.getD 0 .any))).cls ((args.getD 1 .any).str)) := rfl
def sumClsR : Sum Try.prog := ⟨39, fun args => args = [.agg (Node.enc (dNode (args.getD 0 .any))), vs ((args.getD 1 .any).str)] ∧ ((dNode (args.getD 0 .any))).cls.length ≤ 1000000, fun args => vb (hasS ((dNode (args.getD 0 .any))).cls ((args.getD 1 .any).str)), fun args h => by
  have := clsR_ok (dNode (args.getD 0 .any)) ((args.getD 1 .any).str) h.2; rwa [← h.1] at this, true⟩
theorem sumClsR_f : sumClsR.f = 39 := rfl
theorem sumClsR_D (args : List V) : sumClsR.D args = (args = [.agg (Node.enc (dNode (args.getD 0 .any))), vs ((args.getD 1 .any).str)] ∧ ((dNode (args.getD 0 .any))).cls.length ≤ 1000000) := rfl
theorem sumClsR_flat : sumClsR.flat = true := rfl
theorem sumClsR_r (args : List V) : sumClsR.r args = vb (hasS ((dNode (args.getD 0 .any))).cls ((args.getD 1 .any).str)) := rfl
theorem dSmp_mk (k : Int) (a b : ByteArray) : dSmpV (.agg [.c (.int .i64 k), .c (.string a), .c (.string b)]) = ⟨k, a, b⟩ := rfl
theorem dSmp_mkp (k : Int) (a b : ByteArray) : dSmpV (.pp [.c (.int .i64 k), .c (.string a), .c (.string b)]) = ⟨k, a, b⟩ := rfl
end Go.Proofs.Ytcjephhkgccmgaa
