/- Layer 9: what is in a node, its children, its text. -/
import Derived.Test.YteifbbinfipdlaaD9e
namespace Go.Proofs.Yteifbbinfipdlaa
open Go.Sx
set_option linter.unusedSimpArgs false
set_option maxHeartbeats 4000000
set_option maxRecDepth 20000

def isB (l : List Node) (k : Int) : Bool := docB l && decide (0 ≤ k ∧ k < l.length)
theorem isB_iff (l : List Node) (k : Int) : isB l k = true ↔ isDoc l ∧ 0 ≤ k ∧ k < l.length := by
  unfold isB; rw [Bool.and_eq_true, docB_iff, decide_eq_true_eq]
def sumChkT : Sum Try.prog := ⟨42, fun args => args = [nodes (dNodes (args.getD 0 .any))] ∧ ((dNodes (args.getD 0 .any))).length ≤ 1000, fun args => chkOf (dNodes (args.getD 0 .any)) (badT (dNodes (args.getD 0 .any))), fun args h => by
  have := chkT_ok (dNodes (args.getD 0 .any)) h.2; rwa [← h.1] at this, false⟩
theorem sumChkT_f : sumChkT.f = 42 := rfl
theorem sumChkT_D (args : List V) : sumChkT.D args = (args = [nodes (dNodes (args.getD 0 .any))] ∧ ((dNodes (args.getD 0 .any))).length ≤ 1000) := rfl
theorem sumChkT_flat : sumChkT.flat = false := rfl
theorem sumChkT_r (args : List V) : sumChkT.r args = chkOf (dNodes (args.getD 0 .any)) (badT (dNodes (args.getD 0 .any))) := rfl
attribute [go_sem] sumChkT_f sumChkT_D sumChkT_flat sumChkT_r
theorem is_ok (l : List Node) (k : Int) (hl : l.length ≤ 1000) : PCall Try.prog 52 [nodes l, vi k] (vb (isB l k)) := by
  refine PCall.of (Orc.cons sumChkT (Orc.nil _)) c52_ok (by simp [c52]) fun w0 own0 => ?_
  simp only [c52, nodes, dNodes_map, chkOf, bad_eq, go_sem, wpR_gcall, reduceCtorEq, reduceIte, Nat.reduceEqDiff, Nat.reduceAdd, Nat.reduceSub, Nat.reduceMul, Nat.reduceLT, Nat.reduceLeDiff, Nat.reduceBEq, Int.reduceEq, Int.reduceLT, Int.reduceLE, Int.reduceAdd, Int.reduceSub, Int.reduceNeg, Int.reduceToNat]
  refine ⟨hl, ?_⟩
  have e : decide ((if 0 ≤ badR l ∨ l.length = 0 then (5 : Int) else 0) = 0) = docB l := by
    unfold docB
    rw [decide_eq_decide]
    split <;> omega
  rw [e, Bool.and_assoc, ← Bool.decide_and]
  rfl
def sumIs : Sum Try.prog := ⟨52, fun args => args = [nodes (dNodes (args.getD 0 .any)), vi ((args.getD 1 .any).int)] ∧ ((dNodes (args.getD 0 .any))).length ≤ 1000, fun args => vb (isB (dNodes (args.getD 0 .any)) ((args.getD 1 .any).int)), fun args h => by
  have := is_ok (dNodes (args.getD 0 .any)) ((args.getD 1 .any).int) h.2; rwa [← h.1] at this, true⟩
theorem sumIs_f : sumIs.f = 52 := rfl
theorem sumIs_D (args : List V) : sumIs.D args = (args = [nodes (dNodes (args.getD 0 .any)), vi ((args.getD 1 .any).int)] ∧ ((dNodes (args.getD 0 .any))).length ≤ 1000) := rfl
theorem sumIs_flat : sumIs.flat = true := rfl
theorem sumIs_r (args : List V) : sumIs.r args = vb (isB (dNodes (args.getD 0 .any)) ((args.getD 1 .any).int)) := rfl
attribute [go_sem] sumIs_f sumIs_D sumIs_flat sumIs_r
def endV (l : List Node) (k : Int) : Int := if isB l k = true then endN l k.toNat else -1
theorem end_ok (l : List Node) (k : Int) (hl : l.length ≤ 1000) : PCall Try.prog 48 [nodes l, vi k] (vi (endV l k)) := by
  refine PCall.of (Orc.cons sumIs (Orc.cons sumEndT (Orc.nil _))) c48_ok (by simp [c48]) fun w0 own0 => ?_
  simp only [c48, nodes, dNodes_map, go_sem, wpR_gcall, reduceCtorEq, reduceIte, Nat.reduceEqDiff, Nat.reduceAdd, Nat.reduceSub, Nat.reduceMul, Nat.reduceLT, Nat.reduceLeDiff, Nat.reduceBEq, Int.reduceEq, Int.reduceLT, Int.reduceLE, Int.reduceAdd, Int.reduceSub, Int.reduceNeg, Int.reduceToNat]
  refine ⟨hl, fun h => ?_, fun h => ?_⟩
  · unfold endV; rw [h]; rfl
  · have h' := (isB_iff l k).1 h
    refine ⟨⟨by omega, by omega, by omega⟩, ?_⟩
    unfold endV; rw [h, if_pos rfl, (endN_spec l k.toNat (by omega)).1]
def sumEnd : Sum Try.prog := ⟨48, fun args => args = [nodes (dNodes (args.getD 0 .any)), vi ((args.getD 1 .any).int)] ∧ ((dNodes (args.getD 0 .any))).length ≤ 1000, fun args => vi (endV (dNodes (args.getD 0 .any)) ((args.getD 1 .any).int)), fun args h => by
  have := end_ok (dNodes (args.getD 0 .any)) ((args.getD 1 .any).int) h.2; rwa [← h.1] at this, true⟩
theorem sumEnd_f : sumEnd.f = 48 := rfl
theorem sumEnd_D (args : List V) : sumEnd.D args = (args = [nodes (dNodes (args.getD 0 .any)), vi ((args.getD 1 .any).int)] ∧ ((dNodes (args.getD 0 .any))).length ≤ 1000) := rfl
theorem sumEnd_flat : sumEnd.flat = true := rfl
theorem sumEnd_r (args : List V) : sumEnd.r args = vi (endV (dNodes (args.getD 0 .any)) ((args.getD 1 .any).int)) := rfl
attribute [go_sem] sumEnd_f sumEnd_D sumEnd_flat sumEnd_r
structure KiS where
  n : Nat
  ver : Nat
  clk : Nat

structure FwS where
  i : Nat
  clk : Nat
section
variable {cx : Cx} {rest : C} {Q : Post} {e : Nat → V} {h : Heap}
theorem on_gcall (d : Option Nat) (t : Nat) (want : Bool) (f : FuncId) (xs : List X) (r : List AOp) (h1 : enB (e t) want = true) (h2 : (asB (e t).un).2 = true) (h3 : cx.T.flat f = false) :
    wpR cx (⟨d, some (t, want), none, .call f xs⟩ :: r) rest Q e h = (goks e xs = true ∧ cx.T.pre f (xs.map (uval e)) h ∧ wpR cx r rest Q (putE e d (cx.T.v f (xs.map (uval e)) h)) (cx.T.hp f (xs.map (uval e)) h)) := by
  rw [wpR_gcall]
  simp only [h1, h2, h3, Bool.false_eq_true, if_false, forall_const, implies_true, true_and, reduceCtorEq, false_implies, and_true, Bool.true_eq_false]
theorem off_gcall (d : Option Nat) (t : Nat) (want : Bool) (f : FuncId) (xs : List X) (r : List AOp) (h1 : enB (e t) want = false) (h2 : (e t).gok = true → (asB (e t).un).2 = true) (h3 : cx.T.flat f = false) :
    wpR cx (⟨d, some (t, want), none, .call f xs⟩ :: r) rest Q e h = wpR cx r rest Q (putE e d (.c undef)) h := by
  rw [wpR_gcall]
  simp only [h1, h3, Bool.false_eq_true, if_false, false_implies, true_and, forall_const]
  exact propext ⟨fun k => k.2, fun k => ⟨h2, k⟩⟩
theorem flat_gcall (d : Option Nat) (t : Nat) (want : Bool) (f : FuncId) (xs : List X) (r : List AOp) (h3 : cx.T.flat f = true) :
    wpR cx (⟨d, some (t, want), none, .call f xs⟩ :: r) rest Q e h = (((e t).gok = true → (asB (e t).un).2 = true) ∧ (enB (e t) want = true → goks e xs = true ∧ cx.T.qpre f (xs.map (uval e)) h) ∧ wpR cx r rest Q (putE e d (.gd (enB (e t) want) (.c (cx.T.qv f (xs.map (uval e)) h)))) h) := by
  rw [wpR_gcall]
  simp only [h3, if_true]
end
end Go.Proofs.Yteifbbinfipdlaa
