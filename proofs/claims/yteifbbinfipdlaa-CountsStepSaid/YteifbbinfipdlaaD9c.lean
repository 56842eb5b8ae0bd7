/- Layer 9: within what a node is; which node may stand; ends. -/
import Derived.Test.YteifbbinfipdlaaD9b
namespace Go.Proofs.Yteifbbinfipdlaa
open Go.Sx
set_option linter.unusedSimpArgs false
set_option maxHeartbeats 4000000
set_option maxRecDepth 20000

def par (l : List Node) (k : Nat) : Int := (l.getD k .zero).parent
/-- Gone up from a node, down to another one at most. -/
def clb (l : List Node) (of : Int) : Nat → Int → Int
  | 0, k => k
  | f + 1, k => if of < k ∧ (l.getD k.toNat .zero).parent < k then clb l of f (l.getD k.toNat .zero).parent else k
def inN (l : List Node) (k : Int) (of : Int) : Bool := decide (clb l of k.toNat k = of)
structure InS where
  k : Int
  f : Nat
theorem in_ok (l : List Node) (k of : Int) (h0 : 0 ≤ of) (hk : k < l.length) (hl : l.length ≤ 1000000) : PCall Try.prog 36 [nodes l, vi k, vi of] (vb (inN l k of)) := by
  refine PCall.of (Orc.nil _) c36_ok (by simp [c36]) fun w0 own0 => ?_
  simp only [c36, nodes, go_sem, wpR_gcall, reduceCtorEq, reduceIte, Nat.reduceEqDiff, Nat.reduceAdd, Nat.reduceSub, Nat.reduceMul, Nat.reduceLT, Nat.reduceLeDiff, Nat.reduceBEq, Int.reduceEq, Int.reduceLT, Int.reduceLE, Int.reduceAdd, Int.reduceSub, Int.reduceNeg, Int.reduceToNat]
  unfold inN
  generalize hR : clb l of k.toNat k = R
  refine SemC.lp (α := InS) (fun a => [(0, .slc 6 (l.map Node.enc)), (1, vi a.k), (2, vi of)]) (fun _ => ⟨[], 0⟩)
    (fun a => a.k < l.length ∧ a.k.toNat ≤ a.f ∧ clb l of a.f a.k = R) (fun a => a.k.toNat) ⟨k, k.toNat⟩ ⟨hk, Nat.le_refl _, hR⟩ (St.mk (by simp [Agrees, upd_at, initE_at])) fun a ha => ?_
  obtain ⟨k, f⟩ := a
  simp only at ha
  obtain ⟨h1, h2, h3⟩ := ha
  simp only [nodeAt, go_sem, wpR_gcall, reduceCtorEq, reduceIte, Nat.reduceEqDiff, Nat.reduceAdd, Nat.reduceSub, Nat.reduceMul, Nat.reduceLT, Nat.reduceLeDiff, Nat.reduceBEq, Int.reduceEq, Int.reduceLT, Int.reduceLE, Int.reduceAdd, Int.reduceSub, Int.reduceNeg, Int.reduceToNat]
  generalize hP : (l.getD k.toNat .zero).parent = p at *
  cases f with
  | zero =>
    simp only [clb] at h3
    subst h3
    exact ⟨fun h => by omega, fun h => by omega, fun _ => rfl⟩
  | succ f =>
    simp only [clb, hP] at h3
    refine ⟨fun h => by omega, fun h => ⟨by omega, ⟨p, f⟩, ⟨by dsimp only; omega, by dsimp only; omega, by rw [if_pos h] at h3; exact h3⟩, by dsimp only; omega, rfl⟩, fun h => ?_⟩
    rw [if_neg (by omega)] at h3
    rw [h3]
def endT (l : List Node) (k : Nat) : Int := if fst (fun i => decide (par l i < k)) (l.length - (k + 1)) (k + 1) < 0 then l.length else fst (fun i => decide (par l i < k)) (l.length - (k + 1)) (k + 1)
theorem endT_ok (l : List Node) (k : Nat) (hk : k < l.length) (hl : l.length ≤ 1000000) : PCall Try.prog 53 [nodes l, vi k] (vi (endT l k)) := by
  refine PCall.of (Orc.nil _) c53_ok (by simp [c53]) fun w0 own0 => ?_
  simp only [c53, nodes, go_sem, wpR_gcall, reduceCtorEq, reduceIte, Nat.reduceEqDiff, Nat.reduceAdd, Nat.reduceSub, Nat.reduceMul, Nat.reduceLT, Nat.reduceLeDiff, Nat.reduceBEq, Int.reduceEq, Int.reduceLT, Int.reduceLE, Int.reduceAdd, Int.reduceSub, Int.reduceNeg, Int.reduceToNat]
  refine ⟨by omega, ?_⟩
  unfold endT
  generalize hR : fst (fun i => decide (par l i < k)) (l.length - (k + 1)) (k + 1) = R
  refine SemC.lp (α := Nat) (fun a => [(0, .slc 6 (l.map Node.enc)), (1, vi k), (5, vi a)]) (fun _ => ⟨[], 0⟩)
    (fun a => a ≤ l.length ∧ fst (fun i => decide (par l i < k)) (l.length - a) a = R) (fun a => l.length - a) (k + 1) ⟨by omega, hR⟩ (St.mk (by simp [Agrees, upd_at, initE_at])) fun a ha => ?_
  obtain ⟨h1, h2⟩ := ha
  by_cases hal : a = l.length
  · subst hal
    rw [fst_end] at h2
    subst h2
    simp only [Int.lt_irrefl, go_sem, wpR_gcall, reduceCtorEq, reduceIte, Nat.reduceEqDiff, Nat.reduceAdd, Nat.reduceSub, Nat.reduceMul, Nat.reduceLT, Nat.reduceLeDiff, Nat.reduceBEq, Int.reduceEq, Int.reduceLT, Int.reduceLE, Int.reduceAdd, Int.reduceSub, Int.reduceNeg, Int.reduceToNat]
  · have e1 : (a : Int) < (l.length : Int) := by omega
    rw [fst_step _ _ _ (by omega)] at h2
    simp only [decide_eq_true_eq] at h2
    simp only [e1, nodeAt, go_sem, wpR_gcall, reduceCtorEq, reduceIte, Nat.reduceEqDiff, Nat.reduceAdd, Nat.reduceSub, Nat.reduceMul, Nat.reduceLT, Nat.reduceLeDiff, Nat.reduceBEq, Int.reduceEq, Int.reduceLT, Int.reduceLE, Int.reduceAdd, Int.reduceSub, Int.reduceNeg, Int.reduceToNat]
    have e : (l.getD a .zero).parent = par l a := rfl
    rw [e]
    refine ⟨by omega, fun h => ?_, fun h => ⟨by omega, a + 1, ⟨by omega, by rw [if_neg h] at h2; exact h2⟩, by omega, by omega⟩⟩
    rw [if_pos h] at h2
    rw [← h2, if_neg (by omega)]
def mayB (n : Node) : Bool := decide (n.type = ⟨#[]⟩ ∧ (n.id ≠ ⟨#[]⟩ ∨ 0 < n.cls.length ∨ 0 < n.attrs.length))
def mayT (n : Node) (o : List Int) (l : List Node) : Bool := if o = [] then decide (n.parent = -1 ∧ n.type ≠ ⟨#[]⟩) else if mayB n = true then false else decide (n.parent ∈ o ∧ (l.getD n.parent.toNat .zero).type ≠ ⟨#[]⟩)
theorem mayB_iff (n : Node) : (n.type = ⟨#[]⟩ ∧ ((¬ n.id = ⟨#[]⟩ ∨ 0 < (n.cls.length : Int)) ∨ 0 < (n.attrs.length : Int))) ↔ mayB n = true := by
  simp only [mayB, decide_eq_true_eq, ne_eq]
  constructor
  · rintro ⟨h, (h1 | h1) | h1⟩
    · exact ⟨h, .inl h1⟩
    · exact ⟨h, .inr (.inl (by omega))⟩
    · exact ⟨h, .inr (.inr (by omega))⟩
  · rintro ⟨h, h1 | h1 | h1⟩
    · exact ⟨h, .inl (.inl h1)⟩
    · exact ⟨h, .inl (.inr (by omega))⟩
    · exact ⟨h, .inr (by omega)⟩
theorem mayB_not (n : Node) (h : ¬ n.type = ⟨#[]⟩ ∨ (n.id = ⟨#[]⟩ ∧ ¬ 0 < (n.cls.length : Int)) ∧ ¬ 0 < (n.attrs.length : Int)) : ¬ mayB n = true := by
  rw [← mayB_iff]
  rintro ⟨a, (b | b) | b⟩
  · rcases h with h | h
    · exact h a
    · exact b h.1.1
  · rcases h with h | h
    · exact h a
    · exact h.1.2 b
  · rcases h with h | h
    · exact h a
    · exact h.2 b
theorem may_ok (n : Node) (o : List Int) (l : List Node) (hl : o.length ≤ 1000000) (ho : ∀ x ∈ o, 0 ≤ x ∧ x < l.length) : PCall Try.prog 51 [.agg n.enc, ints o, nodes l] (vb (mayT n o l)) := by
  refine PCall.of (Orc.cons sumConI (Orc.nil _)) c51_ok (by simp [c51]) fun w0 own0 => ?_
  simp only [c51, nodes, ints, Node.enc, nodeAt, go_sem, wpR_gcall, reduceCtorEq, reduceIte, Nat.reduceEqDiff, Nat.reduceAdd, Nat.reduceSub, Nat.reduceMul, Nat.reduceLT, Nat.reduceLeDiff, Nat.reduceBEq, Int.reduceEq, Int.reduceLT, Int.reduceLE, Int.reduceAdd, Int.reduceSub, Int.reduceNeg, Int.reduceToNat]
  have ho0 : (o.length : Int) = 0 ↔ o = [] := by rw [← List.length_eq_zero_iff]; omega
  by_cases h0 : o = []
  · subst h0
    refine ⟨fun _ => ?_, fun h => absurd rfl h⟩
    simp [mayT]
  · rw [ho0]
    simp only [mayT, if_neg h0]
    refine ⟨fun h => absurd h h0, fun _ => ⟨fun h => by grind, fun h => by grind, fun h => ?_, fun h => ⟨hl, fun hp => ⟨hp, ho _ hp⟩, ?_⟩⟩⟩
    · rw [if_pos ((mayB_iff n).1 h)]
    · rw [if_neg (mayB_not n h)]
      simp
def sumIn : Sum Try.prog := ⟨36, fun args => args = [nodes (dNodes (args.getD 0 .any)), vi ((args.getD 1 .any).int), vi ((args.getD 2 .any).int)] ∧ 0 ≤ ((args.getD 2 .any).int) ∧ ((args.getD 1 .any).int) < ((dNodes (args.getD 0 .any))).length ∧ ((dNodes (args.getD 0 .any))).length ≤ 1000000, fun args => vb (inN (dNodes (args.getD 0 .any)) ((args.getD 1 .any).int) ((args.getD 2 .any).int)), fun args h => by
  have := in_ok (dNodes (args.getD 0 .any)) ((args.getD 1 .any).int) ((args.getD 2 .any).int) h.2.1 h.2.2.1 h.2.2.2; rwa [← h.1] at this, true⟩
theorem sumIn_f : sumIn.f = 36 := rfl
theorem sumIn_D (args : List V) : sumIn.D args = (args = [nodes (dNodes (args.getD 0 .any)), vi ((args.getD 1 .any).int), vi ((args.getD 2 .any).int)] ∧ 0 ≤ ((args.getD 2 .any).int) ∧ ((args.getD 1 .any).int) < ((dNodes (args.getD 0 .any))).length ∧ ((dNodes (args.getD 0 .any))).length ≤ 1000000) := rfl
theorem sumIn_flat : sumIn.flat = true := rfl
theorem sumIn_r (args : List V) : sumIn.r args = vb (inN (dNodes (args.getD 0 .any)) ((args.getD 1 .any).int) ((args.getD 2 .any).int)) := rfl
attribute [go_sem] sumIn_f sumIn_D sumIn_flat sumIn_r
def endD (l : List Node) (k : Int) : Prop := 0 ≤ k ∧ k < l.length ∧ l.length ≤ 1000000
def sumEndT : Sum Try.prog := ⟨53, fun args => args = [nodes (dNodes (args.getD 0 .any)), vi ((args.getD 1 .any).int)] ∧ endD (dNodes (args.getD 0 .any)) ((args.getD 1 .any).int), fun args => vi (endT (dNodes (args.getD 0 .any)) (((args.getD 1 .any).int)).toNat), fun args h => by
  have := (by have h1 := h.2; have h2 := endT_ok (dNodes (args.getD 0 .any)) (((args.getD 1 .any).int)).toNat (by have := h1.1; have := h1.2.1; omega) h1.2.2; rw [Int.toNat_of_nonneg h1.1] at h2; exact h2 : PCall Try.prog 53 [nodes (dNodes (args.getD 0 .any)), vi ((args.getD 1 .any).int)] (vi (endT (dNodes (args.getD 0 .any)) (((args.getD 1 .any).int)).toNat))); rwa [← h.1] at this, true⟩
theorem sumEndT_f : sumEndT.f = 53 := rfl
theorem sumEndT_D (args : List V) : sumEndT.D args = (args = [nodes (dNodes (args.getD 0 .any)), vi ((args.getD 1 .any).int)] ∧ endD (dNodes (args.getD 0 .any)) ((args.getD 1 .any).int)) := rfl
theorem sumEndT_flat : sumEndT.flat = true := rfl
theorem sumEndT_r (args : List V) : sumEndT.r args = vi (endT (dNodes (args.getD 0 .any)) (((args.getD 1 .any).int)).toNat) := rfl
attribute [go_sem] sumEndT_f sumEndT_D sumEndT_flat sumEndT_r
def mayD (o : List Int) (l : List Node) : Prop := o.length ≤ 1000000 ∧ ∀ x ∈ o, 0 ≤ x ∧ x < l.length
def sumMay : Sum Try.prog := ⟨51, fun args => args = [.agg (Node.enc (dNode (args.getD 0 .any))), ints (dInts (args.getD 1 .any)), nodes (dNodes (args.getD 2 .any))] ∧ mayD (dInts (args.getD 1 .any)) (dNodes (args.getD 2 .any)), fun args => vb (mayT (dNode (args.getD 0 .any)) (dInts (args.getD 1 .any)) (dNodes (args.getD 2 .any))), fun args h => by
  have := may_ok (dNode (args.getD 0 .any)) (dInts (args.getD 1 .any)) (dNodes (args.getD 2 .any)) h.2.1 h.2.2; rwa [← h.1] at this, true⟩
theorem sumMay_f : sumMay.f = 51 := rfl
theorem sumMay_D (args : List V) : sumMay.D args = (args = [.agg (Node.enc (dNode (args.getD 0 .any))), ints (dInts (args.getD 1 .any)), nodes (dNodes (args.getD 2 .any))] ∧ mayD (dInts (args.getD 1 .any)) (dNodes (args.getD 2 .any))) := rfl
theorem sumMay_flat : sumMay.flat = true := rfl
theorem sumMay_r (args : List V) : sumMay.r args = vb (mayT (dNode (args.getD 0 .any)) (dInts (args.getD 1 .any)) (dNodes (args.getD 2 .any))) := rfl
attribute [go_sem] sumMay_f sumMay_D sumMay_flat sumMay_r
def standR (l : List Node) (k : Nat) : Bool := if k = 0 then decide ((l.getD k .zero).parent = -1 ∧ (l.getD k .zero).type ≠ ⟨#[]⟩) else if mayB (l.getD k .zero) = true then false
  else decide (0 ≤ par l k ∧ par l k < k ∧ inN l (k - 1) (par l k) = true ∧ (l.getD (par l k).toNat .zero).type ≠ ⟨#[]⟩)
theorem stand_ok (l : List Node) (k : Nat) (hk : k < l.length) (hl : l.length ≤ 1000000) : PCall Try.prog 50 [nodes l, vi k] (vb (standR l k)) := by
  refine PCall.of (Orc.cons sumIn (Orc.nil _)) c50_ok (by simp [c50]) fun w0 own0 => ?_
  have hc := clsV_in l k hk
  have ha := attV_in l k hk
  simp only [c50, nodes, dNodes_map, Node.enc, nodeAt, hc, ha, go_sem, wpR_gcall, reduceCtorEq, reduceIte, Nat.reduceEqDiff, Nat.reduceAdd, Nat.reduceSub, Nat.reduceMul, Nat.reduceLT, Nat.reduceLeDiff, Nat.reduceBEq, Int.reduceEq, Int.reduceLT, Int.reduceLE, Int.reduceAdd, Int.reduceSub, Int.reduceNeg, Int.reduceToNat]
  by_cases h0 : k = 0
  · subst h0
    refine ⟨by omega, fun _ => by simp [standR], fun h => absurd rfl h⟩
  · simp only [standR, if_neg h0]
    refine ⟨by omega, fun h => by omega, fun _ => ⟨fun h => by grind, fun h => by grind, fun h => ?_, fun h => ⟨fun hp => ⟨hp, by omega, by omega⟩, fun hp => ⟨hp, hp.1, by omega, hl⟩, fun hp => ⟨hp, hp.1.1, by omega⟩, ?_⟩⟩⟩
    · rw [if_pos ((mayB_iff _).1 h)]
    · rw [if_neg (mayB_not _ h)]
      simp [par, Bool.and_assoc]
def sumStand : Sum Try.prog := ⟨50, fun args => args = [nodes (dNodes (args.getD 0 .any)), vi ((args.getD 1 .any).int)] ∧ endD (dNodes (args.getD 0 .any)) ((args.getD 1 .any).int), fun args => vb (standR (dNodes (args.getD 0 .any)) (((args.getD 1 .any).int)).toNat), fun args h => by
  have := (by have h1 := h.2; have h2 := stand_ok (dNodes (args.getD 0 .any)) (((args.getD 1 .any).int)).toNat (by have := h1.1; have := h1.2.1; omega) h1.2.2; rw [Int.toNat_of_nonneg h1.1] at h2; exact h2 : PCall Try.prog 50 [nodes (dNodes (args.getD 0 .any)), vi ((args.getD 1 .any).int)] (vb (standR (dNodes (args.getD 0 .any)) (((args.getD 1 .any).int)).toNat))); rwa [← h.1] at this, true⟩
theorem sumStand_f : sumStand.f = 50 := rfl
theorem sumStand_D (args : List V) : sumStand.D args = (args = [nodes (dNodes (args.getD 0 .any)), vi ((args.getD 1 .any).int)] ∧ endD (dNodes (args.getD 0 .any)) ((args.getD 1 .any).int)) := rfl
theorem sumStand_flat : sumStand.flat = true := rfl
theorem sumStand_r (args : List V) : sumStand.r args = vb (standR (dNodes (args.getD 0 .any)) (((args.getD 1 .any).int)).toNat) := rfl
attribute [go_sem] sumStand_f sumStand_D sumStand_flat sumStand_r
/-- The first node that may not stand, by the document. -/
def badR (l : List Node) : Int := fst (fun k => !standR l k) (l.length - 0) 0
def chkOf (l : List Node) (b : Int) : V := .tup [vi (if 0 ≤ b then b else 0), vi (if 0 ≤ b ∨ l.length = 0 then 5 else 0)]
theorem chkOf_ok (l : List Node) (h : ¬ l.length = 0) : V.tup [V.c (Value.int IntKind.i64 0), V.c (Value.int IntKind.i64 0)] = chkOf l (-1) := by
  simp only [chkOf]; rw [if_neg (by omega), if_neg (by omega)]
theorem chkOf_nil (l : List Node) (h : l.length = 0) : V.tup [V.c (Value.int IntKind.i64 0), V.c (Value.int IntKind.i64 5)] = chkOf l (-1) := by
  simp only [chkOf]; rw [if_neg (by omega), if_pos (by omega)]
theorem chkOf_bad (l : List Node) (k : Nat) : V.tup [V.c (Value.int IntKind.i64 k), V.c (Value.int IntKind.i64 5)] = chkOf l k := by
  simp only [chkOf]; rw [if_pos (by omega), if_pos (by omega)]
theorem chkR_ok (l : List Node) (hl : l.length ≤ 1000) : PCall Try.prog 35 [nodes l] (chkOf l (badR l)) := by
  refine PCall.of (Orc.cons sumStand (Orc.nil _)) c35_ok (by simp [c35]) fun w0 own0 => ?_
  have e0 : ¬ (4096 : Int) < (l.length : Int) := by omega
  simp only [c35, nodes, e0, go_sem, wpR_gcall, reduceCtorEq, reduceIte, Nat.reduceEqDiff, Nat.reduceAdd, Nat.reduceSub, Nat.reduceMul, Nat.reduceLT, Nat.reduceLeDiff, Nat.reduceBEq, Int.reduceEq, Int.reduceLT, Int.reduceLE, Int.reduceAdd, Int.reduceSub, Int.reduceNeg, Int.reduceToNat]
  unfold badR
  generalize hR : fst (fun k => !standR l k) (l.length - 0) 0 = R
  refine SemC.lp (α := Nat) (fun a => [(0, .slc 6 (l.map Node.enc)), (4, vi a)]) (fun _ => ⟨[], 0⟩)
    (fun a => a ≤ l.length ∧ fst (fun k => !standR l k) (l.length - a) a = R) (fun a => l.length - a) 0 ⟨by omega, hR⟩ (St.mk (by simp [Agrees, upd_at, initE_at])) fun a ha => ?_
  obtain ⟨h1, h2⟩ := ha
  by_cases hal : a = l.length
  · subst hal
    rw [fst_end] at h2
    subst h2
    simp only [Int.lt_irrefl, go_sem, wpR_gcall, reduceCtorEq, reduceIte, Nat.reduceEqDiff, Nat.reduceAdd, Nat.reduceSub, Nat.reduceMul, Nat.reduceLT, Nat.reduceLeDiff, Nat.reduceBEq, Int.reduceEq, Int.reduceLT, Int.reduceLE, Int.reduceAdd, Int.reduceSub, Int.reduceNeg, Int.reduceToNat]
    exact ⟨fun h => chkOf_nil l (by omega), fun h => chkOf_ok l (by omega)⟩
  · have e1 : (a : Int) < (l.length : Int) := by omega
    rw [fst_step _ _ _ (by omega)] at h2
    simp only [Bool.not_eq_true'] at h2
    simp only [e1, nodeAt, nodes, dNodes_map, go_sem, wpR_gcall, reduceCtorEq, reduceIte, Nat.reduceEqDiff, Nat.reduceAdd, Nat.reduceSub, Nat.reduceMul, Nat.reduceLT, Nat.reduceLeDiff, Nat.reduceBEq, Int.reduceEq, Int.reduceLT, Int.reduceLE, Int.reduceAdd, Int.reduceSub, Int.reduceNeg, Int.reduceToNat]
    refine ⟨⟨by omega, by omega, by omega⟩, fun h => ?_, fun h => ⟨by omega, a + 1, ⟨by omega, by rw [if_neg (by simp [h])] at h2; exact h2⟩, by omega, by omega⟩⟩
    rw [if_pos h] at h2
    subst h2
    exact chkOf_bad l a
end Go.Proofs.Yteifbbinfipdlaa
