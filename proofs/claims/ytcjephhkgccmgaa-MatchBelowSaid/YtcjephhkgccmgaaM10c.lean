/- Layer 10: which node a simple selector is about. -/
import Derived.Test.YtcjephhkgccmgaaM10b
namespace Go.Proofs.Ytcjephhkgccmgaa
open Go.Sx
set_option linter.unusedSimpArgs false
set_option maxHeartbeats 4000000
set_option maxRecDepth 20000

def dPr (v : V) : ByteArray × ByteArray := ((v.cs.getD 0 .any).str, (v.cs.getD 1 .any).str)
def dSms (v : V) : List Smp := v.es.map dSmp
theorem dSms_map (sz : Nat) (l : List Smp) : dSms (.slc sz (l.map Smp.enc)) = l := dSmps sz l
theorem dPr_mk (a b : ByteArray) : dPr (.agg [.c (.string a), .c (.string b)]) = (a, b) := rfl
theorem s1_ok (p : ByteArray × ByteArray) (s : Smp) : PCall Try.prog 45 [.agg [vs p.1, vs p.2], .pp s.enc] (vb (decide (p.1 = s.text))) := by
  refine PCall.of (Orc.nil _) c45_ok (by simp [c45]) fun w0 own0 => ?_
  simp only [c45, Smp.enc, go_sem, wpR_gcall, reduceCtorEq, reduceIte, Nat.reduceEqDiff, Nat.reduceAdd, Nat.reduceSub, Nat.reduceMul, Nat.reduceLT, Nat.reduceLeDiff, Nat.reduceBEq, Int.reduceEq, Int.reduceLT, Int.reduceLE, Int.reduceAdd, Int.reduceSub, Int.reduceNeg, Int.reduceToNat]
def sumS1 : Sum Try.prog := ⟨45, fun args => args = [.agg [vs (dPr (args.getD 0 .any)).1, vs (dPr (args.getD 0 .any)).2], .pp (Smp.enc (dSmpV (args.getD 1 .any)))], fun args => vb (decide (((dPr (args.getD 0 .any))).1 = ((dSmpV (args.getD 1 .any))).text)), fun args h => by
  have := s1_ok (dPr (args.getD 0 .any)) (dSmpV (args.getD 1 .any)); rwa [← h] at this, true⟩
theorem sumS1_f : sumS1.f = 45 := rfl
theorem sumS1_D (args : List V) : sumS1.D args = (args = [.agg [vs (dPr (args.getD 0 .any)).1, vs (dPr (args.getD 0 .any)).2], .pp (Smp.enc (dSmpV (args.getD 1 .any)))]) := rfl
theorem sumS1_flat : sumS1.flat = true := rfl
theorem sumS1_r (args : List V) : sumS1.r args = vb (decide (((dPr (args.getD 0 .any))).1 = ((dSmpV (args.getD 1 .any))).text)) := rfl
def ixA (s : Smp) (l : List (ByteArray × ByteArray)) : Int := fst (fun i => decide ((l.getD i (⟨#[]⟩, ⟨#[]⟩)).1 = s.text)) (l.length - 0) 0
theorem ixA_ok (s : Smp) (l : List (ByteArray × ByteArray)) (hl : l.length ≤ 1000000) : PCall Try.prog 48 [.slc 2 (l.map fun p => [vs p.1, vs p.2]), .fn 45 [.pp s.enc]] (vi (ixA s l)) := by
  refine PCall.of (Orc.cons sumS1 (Orc.nil _)) c48_ok (by simp [c48]) fun w0 own0 => ?_
  simp only [c48, go_sem, wpR_gcall, reduceCtorEq, reduceIte, Nat.reduceEqDiff, Nat.reduceAdd, Nat.reduceSub, Nat.reduceMul, Nat.reduceLT, Nat.reduceLeDiff, Nat.reduceBEq, Int.reduceEq, Int.reduceLT, Int.reduceLE, Int.reduceAdd, Int.reduceSub, Int.reduceNeg, Int.reduceToNat]
  refine SemC.lp (α := Nat) (fun k => [(0, .slc 2 (l.map fun p => [vs p.1, vs p.2])), (1, .fn 45 [.pp s.enc]), (7, vi l.length), (8, vi k)]) (fun _ => ⟨[], 0⟩)
    (fun k => k ≤ l.length ∧ fst (fun i => decide ((l.getD i (⟨#[]⟩, ⟨#[]⟩)).1 = s.text)) (l.length - k) k = ixA s l) (fun k => l.length - k) 0 ⟨Nat.zero_le _, rfl⟩ (St.mk (by simp [Agrees, upd_at, initE_at])) fun k hk => ?_
  obtain ⟨h1, h2⟩ := hk
  by_cases hkl : k = l.length
  · subst hkl
    rw [fst_end] at h2
    simp only [Int.lt_irrefl, ← h2, go_sem, wpR_gcall, reduceCtorEq, reduceIte, Nat.reduceEqDiff, Nat.reduceAdd, Nat.reduceSub, Nat.reduceMul, Nat.reduceLT, Nat.reduceLeDiff, Nat.reduceBEq, Int.reduceEq, Int.reduceLT, Int.reduceLE, Int.reduceAdd, Int.reduceSub, Int.reduceNeg, Int.reduceToNat]
  · have e1 : (k : Int) < (l.length : Int) := by omega
    rw [fst_step _ _ _ (by omega)] at h2
    simp only [decide_eq_true_eq] at h2
    simp only [Smp.enc, dSmp_mkp, dPr_mk, e1, getD_prs2, sumS1_f, sumS1_D, sumS1_flat, sumS1_r, go_sem, wpR_gcall, reduceCtorEq, reduceIte, Nat.reduceEqDiff, Nat.reduceAdd, Nat.reduceSub, Nat.reduceMul, Nat.reduceLT, Nat.reduceLeDiff, Nat.reduceBEq, Int.reduceEq, Int.reduceLT, Int.reduceLE, Int.reduceAdd, Int.reduceSub, Int.reduceNeg, Int.reduceToNat]
    refine ⟨by omega, fun h => by rw [if_pos h] at h2; exact h2, fun h => ⟨by omega, k + 1, ⟨by omega, by rw [if_neg h] at h2; exact h2⟩, by omega, by omega⟩⟩
def sumIxA : Sum Try.prog := ⟨48, fun args => args = [.slc 2 ((dPrs2 (args.getD 0 .any)).map fun p => [vs p.1, vs p.2]), .fn 45 [.pp (Smp.enc (dSmpV (((args.getD 1 .any).caps).getD 0 .any)))]] ∧ ((dPrs2 (args.getD 0 .any))).length ≤ 1000000, fun args => vi (ixA (dSmpV (((args.getD 1 .any).caps).getD 0 .any)) (dPrs2 (args.getD 0 .any))), fun args h => by
  have := ixA_ok (dSmpV (((args.getD 1 .any).caps).getD 0 .any)) (dPrs2 (args.getD 0 .any)) h.2; rwa [← h.1] at this, true⟩
theorem sumIxA_f : sumIxA.f = 48 := rfl
theorem sumIxA_D (args : List V) : sumIxA.D args = (args = [.slc 2 ((dPrs2 (args.getD 0 .any)).map fun p => [vs p.1, vs p.2]), .fn 45 [.pp (Smp.enc (dSmpV (((args.getD 1 .any).caps).getD 0 .any)))]] ∧ ((dPrs2 (args.getD 0 .any))).length ≤ 1000000) := rfl
theorem sumIxA_flat : sumIxA.flat = true := rfl
theorem sumIxA_r (args : List V) : sumIxA.r args = vi (ixA (dSmpV (((args.getD 1 .any).caps).getD 0 .any)) (dPrs2 (args.getD 0 .any))) := rfl
def hasA (s : Smp) (l : List (ByteArray × ByteArray)) : Bool := decide (0 ≤ ixA s l)
theorem hasA_ok (s : Smp) (l : List (ByteArray × ByteArray)) (hl : l.length ≤ 1000000) : PCall Try.prog 44 [.slc 2 (l.map fun p => [vs p.1, vs p.2]), .fn 45 [.pp s.enc]] (vb (hasA s l)) := by
  refine PCall.of (Orc.cons sumIxA (Orc.nil _)) c44_ok (by simp [c44]) fun w0 own0 => ?_
  simp only [c44, Smp.enc, dSmp_mkp, dPrs2_map, Smp.eta, hl, hasA, sumIxA_f, sumIxA_D, sumIxA_flat, sumIxA_r, go_sem, wpR_gcall, reduceCtorEq, reduceIte, Nat.reduceEqDiff, Nat.reduceAdd, Nat.reduceSub, Nat.reduceMul, Nat.reduceLT, Nat.reduceLeDiff, Nat.reduceBEq, Int.reduceEq, Int.reduceLT, Int.reduceLE, Int.reduceAdd, Int.reduceSub, Int.reduceNeg, Int.reduceToNat]
def sumHasA : Sum Try.prog := ⟨44, fun args => args = [.slc 2 ((dPrs2 (args.getD 0 .any)).map fun p => [vs p.1, vs p.2]), .fn 45 [.pp (Smp.enc (dSmpV (((args.getD 1 .any).caps).getD 0 .any)))]] ∧ ((dPrs2 (args.getD 0 .any))).length ≤ 1000000, fun args => vb (hasA (dSmpV (((args.getD 1 .any).caps).getD 0 .any)) (dPrs2 (args.getD 0 .any))), fun args h => by
  have := hasA_ok (dSmpV (((args.getD 1 .any).caps).getD 0 .any)) (dPrs2 (args.getD 0 .any)) h.2; rwa [← h.1] at this, true⟩
theorem sumHasA_f : sumHasA.f = 44 := rfl
theorem sumHasA_D (args : List V) : sumHasA.D args = (args = [.slc 2 ((dPrs2 (args.getD 0 .any)).map fun p => [vs p.1, vs p.2]), .fn 45 [.pp (Smp.enc (dSmpV (((args.getD 1 .any).caps).getD 0 .any)))]] ∧ ((dPrs2 (args.getD 0 .any))).length ≤ 1000000) := rfl
theorem sumHasA_flat : sumHasA.flat = true := rfl
theorem sumHasA_r (args : List V) : sumHasA.r args = vb (hasA (dSmpV (((args.getD 1 .any).caps).getD 0 .any)) (dPrs2 (args.getD 0 .any))) := rfl
def simB (n : Node) (s : Smp) : Bool := if s.kind = 1 then true else if s.kind = 2 then decide (n.type = s.text) else if s.kind = 3 then decide (n.id = s.text) else if s.kind = 4 then hasS n.cls s.text else hasA s n.attrs && (decide (s.kind = 5) || decide (attrV s.text n.attrs = s.val))
def okN (n : Node) : Prop := n.cls.length ≤ 1000000 ∧ n.attrs.length ≤ 1000000
theorem sim_ok (n : Node) (s : Smp) (h : okN n) : PCall Try.prog 38 [.agg n.enc, .agg s.enc] (vb (simB n s)) := by
  refine PCall.of (Orc.cons sumClsT (Orc.cons sumHasA (Orc.cons sumAttrT (Orc.nil _)))) c38_ok (by simp [c38]) fun w0 own0 => ?_
  obtain ⟨hc, ha⟩ := h
  unfold simB
  by_cases h1 : s.kind = 1
  · simp only [c38, Node.enc, Smp.enc, h1, sumClsT_f, sumClsT_D, sumClsT_flat, sumClsT_r, sumHasA_f, sumHasA_D, sumHasA_flat, sumHasA_r, sumAttrT_f, sumAttrT_D, sumAttrT_flat, sumAttrT_r, go_sem, wpR_gcall, reduceCtorEq, reduceIte, Nat.reduceEqDiff, Nat.reduceAdd, Nat.reduceSub, Nat.reduceMul, Nat.reduceLT, Nat.reduceLeDiff, Nat.reduceBEq, Int.reduceEq, Int.reduceLT, Int.reduceLE, Int.reduceAdd, Int.reduceSub, Int.reduceNeg, Int.reduceToNat]
  by_cases h2 : s.kind = 2
  · simp only [c38, Node.enc, Smp.enc, h1, h2, sumClsT_f, sumClsT_D, sumClsT_flat, sumClsT_r, sumHasA_f, sumHasA_D, sumHasA_flat, sumHasA_r, sumAttrT_f, sumAttrT_D, sumAttrT_flat, sumAttrT_r, go_sem, wpR_gcall, reduceCtorEq, reduceIte, Nat.reduceEqDiff, Nat.reduceAdd, Nat.reduceSub, Nat.reduceMul, Nat.reduceLT, Nat.reduceLeDiff, Nat.reduceBEq, Int.reduceEq, Int.reduceLT, Int.reduceLE, Int.reduceAdd, Int.reduceSub, Int.reduceNeg, Int.reduceToNat]
  by_cases h3 : s.kind = 3
  · simp only [c38, Node.enc, Smp.enc, h1, h2, h3, sumClsT_f, sumClsT_D, sumClsT_flat, sumClsT_r, sumHasA_f, sumHasA_D, sumHasA_flat, sumHasA_r, sumAttrT_f, sumAttrT_D, sumAttrT_flat, sumAttrT_r, go_sem, wpR_gcall, reduceCtorEq, reduceIte, Nat.reduceEqDiff, Nat.reduceAdd, Nat.reduceSub, Nat.reduceMul, Nat.reduceLT, Nat.reduceLeDiff, Nat.reduceBEq, Int.reduceEq, Int.reduceLT, Int.reduceLE, Int.reduceAdd, Int.reduceSub, Int.reduceNeg, Int.reduceToNat]
  by_cases h4 : s.kind = 4
  · simp only [c38, Node.enc, Smp.enc, h1, h2, h3, h4, hc, dNode_mk, sumClsT_f, sumClsT_D, sumClsT_flat, sumClsT_r, sumHasA_f, sumHasA_D, sumHasA_flat, sumHasA_r, sumAttrT_f, sumAttrT_D, sumAttrT_flat, sumAttrT_r, go_sem, wpR_gcall, reduceCtorEq, reduceIte, Nat.reduceEqDiff, Nat.reduceAdd, Nat.reduceSub, Nat.reduceMul, Nat.reduceLT, Nat.reduceLeDiff, Nat.reduceBEq, Int.reduceEq, Int.reduceLT, Int.reduceLE, Int.reduceAdd, Int.reduceSub, Int.reduceNeg, Int.reduceToNat]
  by_cases h5 : s.kind = 5
  · cases hh : hasA s n.attrs with
    | true =>
      have hh5 : hasA ⟨5, s.text, s.val⟩ n.attrs = true := hh
      simp only [c38, Node.enc, Smp.enc, h1, h2, h3, h4, h5, hh, hh5, ha, dNode_mk, dSmp_mkp, Smp.eta, dPrs2_map, sumClsT_f, sumClsT_D, sumClsT_flat, sumClsT_r, sumHasA_f, sumHasA_D, sumHasA_flat, sumHasA_r, sumAttrT_f, sumAttrT_D, sumAttrT_flat, sumAttrT_r, go_sem, wpR_gcall, reduceCtorEq, reduceIte, Nat.reduceEqDiff, Nat.reduceAdd, Nat.reduceSub, Nat.reduceMul, Nat.reduceLT, Nat.reduceLeDiff, Nat.reduceBEq, Int.reduceEq, Int.reduceLT, Int.reduceLE, Int.reduceAdd, Int.reduceSub, Int.reduceNeg, Int.reduceToNat]
    | false =>
      have hh5 : hasA ⟨5, s.text, s.val⟩ n.attrs = false := hh
      simp only [c38, Node.enc, Smp.enc, h1, h2, h3, h4, h5, hh, hh5, ha, dNode_mk, dSmp_mkp, Smp.eta, dPrs2_map, sumClsT_f, sumClsT_D, sumClsT_flat, sumClsT_r, sumHasA_f, sumHasA_D, sumHasA_flat, sumHasA_r, sumAttrT_f, sumAttrT_D, sumAttrT_flat, sumAttrT_r, go_sem, wpR_gcall, reduceCtorEq, reduceIte, Nat.reduceEqDiff, Nat.reduceAdd, Nat.reduceSub, Nat.reduceMul, Nat.reduceLT, Nat.reduceLeDiff, Nat.reduceBEq, Int.reduceEq, Int.reduceLT, Int.reduceLE, Int.reduceAdd, Int.reduceSub, Int.reduceNeg, Int.reduceToNat]
  · cases hh : hasA s n.attrs with
    | true => simp only [c38, Node.enc, Smp.enc, h1, h2, h3, h4, h5, hh, ha, dNode_mk, dSmp_mkp, Smp.eta, dPrs2_map, sumClsT_f, sumClsT_D, sumClsT_flat, sumClsT_r, sumHasA_f, sumHasA_D, sumHasA_flat, sumHasA_r, sumAttrT_f, sumAttrT_D, sumAttrT_flat, sumAttrT_r, go_sem, wpR_gcall, reduceCtorEq, reduceIte, Nat.reduceEqDiff, Nat.reduceAdd, Nat.reduceSub, Nat.reduceMul, Nat.reduceLT, Nat.reduceLeDiff, Nat.reduceBEq, Int.reduceEq, Int.reduceLT, Int.reduceLE, Int.reduceAdd, Int.reduceSub, Int.reduceNeg, Int.reduceToNat]
    | false => simp only [c38, Node.enc, Smp.enc, h1, h2, h3, h4, h5, hh, ha, dNode_mk, dSmp_mkp, Smp.eta, dPrs2_map, sumClsT_f, sumClsT_D, sumClsT_flat, sumClsT_r, sumHasA_f, sumHasA_D, sumHasA_flat, sumHasA_r, sumAttrT_f, sumAttrT_D, sumAttrT_flat, sumAttrT_r, go_sem, wpR_gcall, reduceCtorEq, reduceIte, Nat.reduceEqDiff, Nat.reduceAdd, Nat.reduceSub, Nat.reduceMul, Nat.reduceLT, Nat.reduceLeDiff, Nat.reduceBEq, Int.reduceEq, Int.reduceLT, Int.reduceLE, Int.reduceAdd, Int.reduceSub, Int.reduceNeg, Int.reduceToNat]
def sumSim : Sum Try.prog := ⟨38, fun args => args = [.agg (Node.enc (dNode (args.getD 0 .any))), .agg (Smp.enc (dSmpV (args.getD 1 .any)))] ∧ okN (dNode (args.getD 0 .any)), fun args => vb (simB (dNode (args.getD 0 .any)) (dSmpV (args.getD 1 .any))), fun args h => by
  have := sim_ok (dNode (args.getD 0 .any)) (dSmpV (args.getD 1 .any)) h.2; rwa [← h.1] at this, true⟩
theorem sumSim_f : sumSim.f = 38 := rfl
theorem sumSim_D (args : List V) : sumSim.D args = (args = [.agg (Node.enc (dNode (args.getD 0 .any))), .agg (Smp.enc (dSmpV (args.getD 1 .any)))] ∧ okN (dNode (args.getD 0 .any))) := rfl
theorem sumSim_flat : sumSim.flat = true := rfl
theorem sumSim_r (args : List V) : sumSim.r args = vb (simB (dNode (args.getD 0 .any)) (dSmpV (args.getD 1 .any))) := rfl
theorem dNode_mkp (a : Int) (b c : ByteArray) (d : List ByteArray) (e : List (ByteArray × ByteArray)) (f : ByteArray) :
    dNode (.pp [.c (.int .i64 a), .c (.string b), .c (.string c), .slc 1 (d.map fun s => [vs s]), .slc 2 (e.map fun p => [vs p.1, vs p.2]), .c (.string f)]) = ⟨a, b, c, d, e, f⟩ := dNodeL_enc ⟨a, b, c, d, e, f⟩
theorem res_slc10 (S : Nat → Bool) (h : Heap) (sz : Nat) (es : List (List V)) : res S h 10 (.slc sz es) = some (.slc sz es) := rfl
theorem one1_ok (s : Smp) (n : Node) (h : okN n) : PCall Try.prog 37 [.agg s.enc, .pp n.enc] (vb (!simB n s)) := by
  refine PCall.of (Orc.cons sumSim (Orc.nil _)) c37_ok (by simp [c37]) fun w0 own0 => ?_
  simp only [c37, Node.enc, Smp.enc, h, dNode_mk, dSmp_mk, Smp.eta, Node.eta, sumSim_f, sumSim_D, sumSim_flat, sumSim_r, go_sem, wpR_gcall, reduceCtorEq, reduceIte, Nat.reduceEqDiff, Nat.reduceAdd, Nat.reduceSub, Nat.reduceMul, Nat.reduceLT, Nat.reduceLeDiff, Nat.reduceBEq, Int.reduceEq, Int.reduceLT, Int.reduceLE, Int.reduceAdd, Int.reduceSub, Int.reduceNeg, Int.reduceToNat]
def sumOne1 : Sum Try.prog := ⟨37, fun args => args = [.agg (Smp.enc (dSmpV (args.getD 0 .any))), .pp (Node.enc (dNode (args.getD 1 .any)))] ∧ okN (dNode (args.getD 1 .any)), fun args => vb (!simB (dNode (args.getD 1 .any)) (dSmpV (args.getD 0 .any))), fun args h => by
  have := one1_ok (dSmpV (args.getD 0 .any)) (dNode (args.getD 1 .any)) h.2; rwa [← h.1] at this, true⟩
theorem sumOne1_f : sumOne1.f = 37 := rfl
theorem sumOne1_D (args : List V) : sumOne1.D args = (args = [.agg (Smp.enc (dSmpV (args.getD 0 .any))), .pp (Node.enc (dNode (args.getD 1 .any)))] ∧ okN (dNode (args.getD 1 .any))) := rfl
theorem sumOne1_flat : sumOne1.flat = true := rfl
theorem sumOne1_r (args : List V) : sumOne1.r args = vb (!simB (dNode (args.getD 1 .any)) (dSmpV (args.getD 0 .any))) := rfl
def ixC (n : Node) (l : List Smp) : Int := fst (fun i => !simB n (l.getD i default)) (l.length - 0) 0
theorem ixC_ok (n : Node) (l : List Smp) (hn : okN n) (hl : l.length ≤ 1000000) : PCall Try.prog 42 [.slc 3 (l.map Smp.enc), .fn 37 [.pp n.enc]] (vi (ixC n l)) := by
  refine PCall.of (Orc.cons sumOne1 (Orc.nil _)) c42_ok (by simp [c42]) fun w0 own0 => ?_
  simp only [c42, go_sem, wpR_gcall, reduceCtorEq, reduceIte, Nat.reduceEqDiff, Nat.reduceAdd, Nat.reduceSub, Nat.reduceMul, Nat.reduceLT, Nat.reduceLeDiff, Nat.reduceBEq, Int.reduceEq, Int.reduceLT, Int.reduceLE, Int.reduceAdd, Int.reduceSub, Int.reduceNeg, Int.reduceToNat]
  refine SemC.lp (α := Nat) (fun k => [(0, .slc 3 (l.map Smp.enc)), (1, .fn 37 [.pp n.enc]), (7, vi l.length), (8, vi k)]) (fun _ => ⟨[], 0⟩)
    (fun k => k ≤ l.length ∧ fst (fun i => !simB n (l.getD i default)) (l.length - k) k = ixC n l) (fun k => l.length - k) 0 ⟨Nat.zero_le _, rfl⟩ (St.mk (by simp [Agrees, upd_at, initE_at])) fun k hk => ?_
  obtain ⟨h1, h2⟩ := hk
  by_cases hkl : k = l.length
  · subst hkl
    rw [fst_end] at h2
    simp only [Int.lt_irrefl, ← h2, go_sem, wpR_gcall, reduceCtorEq, reduceIte, Nat.reduceEqDiff, Nat.reduceAdd, Nat.reduceSub, Nat.reduceMul, Nat.reduceLT, Nat.reduceLeDiff, Nat.reduceBEq, Int.reduceEq, Int.reduceLT, Int.reduceLE, Int.reduceAdd, Int.reduceSub, Int.reduceNeg, Int.reduceToNat]
  · have e1 : (k : Int) < (l.length : Int) := by omega
    have e0 : (0 : Int) ≤ (k : Int) := by omega
    rw [fst_step _ _ _ (by omega)] at h2
    cases hs : simB n (l.getD k default) with
    | true =>
      rw [hs] at h2
      simp only [Node.enc, Smp.enc, dNode_mkp, dSmp_mk, Smp.eta, Node.eta, hn, hs, e0, e1, getD_smps, sumOne1_f, sumOne1_D, sumOne1_flat, sumOne1_r, go_sem, wpR_gcall, reduceCtorEq, reduceIte, Nat.reduceEqDiff, Nat.reduceAdd, Nat.reduceSub, Nat.reduceMul, Nat.reduceLT, Nat.reduceLeDiff, Nat.reduceBEq, Int.reduceEq, Int.reduceLT, Int.reduceLE, Int.reduceAdd, Int.reduceSub, Int.reduceNeg, Int.reduceToNat]
      exact ⟨by omega, k + 1, ⟨by omega, h2⟩, by omega, by omega⟩
    | false =>
      rw [hs] at h2
      simp only [Node.enc, Smp.enc, dNode_mkp, dSmp_mk, Smp.eta, Node.eta, hn, hs, e0, e1, getD_smps, sumOne1_f, sumOne1_D, sumOne1_flat, sumOne1_r, go_sem, wpR_gcall, reduceCtorEq, reduceIte, Nat.reduceEqDiff, Nat.reduceAdd, Nat.reduceSub, Nat.reduceMul, Nat.reduceLT, Nat.reduceLeDiff, Nat.reduceBEq, Int.reduceEq, Int.reduceLT, Int.reduceLE, Int.reduceAdd, Int.reduceSub, Int.reduceNeg, Int.reduceToNat]
      exact h2
def sumIxC : Sum Try.prog := ⟨42, fun args => args = [.slc 3 ((dSms (args.getD 0 .any)).map Smp.enc), .fn 37 [.pp (Node.enc (dNode (((args.getD 1 .any).caps).getD 0 .any)))]] ∧ okN (dNode (((args.getD 1 .any).caps).getD 0 .any)) ∧ ((dSms (args.getD 0 .any))).length ≤ 1000000, fun args => vi (ixC (dNode (((args.getD 1 .any).caps).getD 0 .any)) (dSms (args.getD 0 .any))), fun args h => by
  have := ixC_ok (dNode (((args.getD 1 .any).caps).getD 0 .any)) (dSms (args.getD 0 .any)) h.2.1 h.2.2; rwa [← h.1] at this, true⟩
theorem sumIxC_f : sumIxC.f = 42 := rfl
theorem sumIxC_D (args : List V) : sumIxC.D args = (args = [.slc 3 ((dSms (args.getD 0 .any)).map Smp.enc), .fn 37 [.pp (Node.enc (dNode (((args.getD 1 .any).caps).getD 0 .any)))]] ∧ okN (dNode (((args.getD 1 .any).caps).getD 0 .any)) ∧ ((dSms (args.getD 0 .any))).length ≤ 1000000) := rfl
theorem sumIxC_flat : sumIxC.flat = true := rfl
theorem sumIxC_r (args : List V) : sumIxC.r args = vi (ixC (dNode (((args.getD 1 .any).caps).getD 0 .any)) (dSms (args.getD 0 .any))) := rfl
theorem hasC_ok (n : Node) (l : List Smp) (hn : okN n) (hl : l.length ≤ 1000000) : PCall Try.prog 36 [.slc 3 (l.map Smp.enc), .fn 37 [.pp n.enc]] (vb (decide (0 ≤ ixC n l))) := by
  refine PCall.of (Orc.cons sumIxC (Orc.nil _)) c36_ok (by simp [c36]) fun w0 own0 => ?_
  simp only [c36, Node.enc, dNode_mkp, Node.eta, dSms_map, hn, hl, sumIxC_f, sumIxC_D, sumIxC_flat, sumIxC_r, go_sem, wpR_gcall, reduceCtorEq, reduceIte, Nat.reduceEqDiff, Nat.reduceAdd, Nat.reduceSub, Nat.reduceMul, Nat.reduceLT, Nat.reduceLeDiff, Nat.reduceBEq, Int.reduceEq, Int.reduceLT, Int.reduceLE, Int.reduceAdd, Int.reduceSub, Int.reduceNeg, Int.reduceToNat]
def sumHasC : Sum Try.prog := ⟨36, fun args => args = [.slc 3 ((dSms (args.getD 0 .any)).map Smp.enc), .fn 37 [.pp (Node.enc (dNode (((args.getD 1 .any).caps).getD 0 .any)))]] ∧ okN (dNode (((args.getD 1 .any).caps).getD 0 .any)) ∧ ((dSms (args.getD 0 .any))).length ≤ 1000000, fun args => vb (decide (0 ≤ ixC (dNode (((args.getD 1 .any).caps).getD 0 .any)) (dSms (args.getD 0 .any)))), fun args h => by
  have := hasC_ok (dNode (((args.getD 1 .any).caps).getD 0 .any)) (dSms (args.getD 0 .any)) h.2.1 h.2.2; rwa [← h.1] at this, true⟩
theorem sumHasC_f : sumHasC.f = 36 := rfl
theorem sumHasC_D (args : List V) : sumHasC.D args = (args = [.slc 3 ((dSms (args.getD 0 .any)).map Smp.enc), .fn 37 [.pp (Node.enc (dNode (((args.getD 1 .any).caps).getD 0 .any)))]] ∧ okN (dNode (((args.getD 1 .any).caps).getD 0 .any)) ∧ ((dSms (args.getD 0 .any))).length ≤ 1000000) := rfl
theorem sumHasC_flat : sumHasC.flat = true := rfl
theorem sumHasC_r (args : List V) : sumHasC.r args = vb (decide (0 ≤ ixC (dNode (((args.getD 1 .any).caps).getD 0 .any)) (dSms (args.getD 0 .any)))) := rfl
def oneB (n : Node) (c : Cmp) : Bool := !decide (n.type = ⟨#[]⟩) && !decide (0 ≤ ixC n c.l)
theorem one_ok (n : Node) (c : Cmp) (hn : okN n) (hl : c.l.length ≤ 1000000) : PCall Try.prog 32 [.agg n.enc, .agg c.enc] (vb (oneB n c)) := by
  refine PCall.of (Orc.cons sumHasC (Orc.nil _)) c32_ok (by simp [c32]) fun w0 own0 => ?_
  unfold oneB
  by_cases h1 : n.type = ⟨#[]⟩
  · simp only [c32, Node.enc, Cmp.enc, h1, sumHasC_f, sumHasC_D, sumHasC_flat, sumHasC_r, go_sem, wpR_gcall, reduceCtorEq, reduceIte, Nat.reduceEqDiff, Nat.reduceAdd, Nat.reduceSub, Nat.reduceMul, Nat.reduceLT, Nat.reduceLeDiff, Nat.reduceBEq, Int.reduceEq, Int.reduceLT, Int.reduceLE, Int.reduceAdd, Int.reduceSub, Int.reduceNeg, Int.reduceToNat]
  · simp only [c32, Node.enc, Cmp.enc, res_slc10, dNode_mkp, Node.eta, dSms_map, h1, hn, hl, sumHasC_f, sumHasC_D, sumHasC_flat, sumHasC_r, go_sem, wpR_gcall, reduceCtorEq, reduceIte, Nat.reduceEqDiff, Nat.reduceAdd, Nat.reduceSub, Nat.reduceMul, Nat.reduceLT, Nat.reduceLeDiff, Nat.reduceBEq, Int.reduceEq, Int.reduceLT, Int.reduceLE, Int.reduceAdd, Int.reduceSub, Int.reduceNeg, Int.reduceToNat]
def sumOne : Sum Try.prog := ⟨32, fun args => args = [.agg (Node.enc (dNode (args.getD 0 .any))), .agg (Cmp.enc (dCmp (args.getD 1 .any)))] ∧ okN (dNode (args.getD 0 .any)) ∧ ((dCmp (args.getD 1 .any))).l.length ≤ 1000000, fun args => vb (oneB (dNode (args.getD 0 .any)) (dCmp (args.getD 1 .any))), fun args h => by
  have := one_ok (dNode (args.getD 0 .any)) (dCmp (args.getD 1 .any)) h.2.1 h.2.2; rwa [← h.1] at this, true⟩
theorem sumOne_f : sumOne.f = 32 := rfl
theorem sumOne_D (args : List V) : sumOne.D args = (args = [.agg (Node.enc (dNode (args.getD 0 .any))), .agg (Cmp.enc (dCmp (args.getD 1 .any)))] ∧ okN (dNode (args.getD 0 .any)) ∧ ((dCmp (args.getD 1 .any))).l.length ≤ 1000000) := rfl
theorem sumOne_flat : sumOne.flat = true := rfl
theorem sumOne_r (args : List V) : sumOne.r args = vb (oneB (dNode (args.getD 0 .any)) (dCmp (args.getD 1 .any))) := rfl
end Go.Proofs.Ytcjephhkgccmgaa
