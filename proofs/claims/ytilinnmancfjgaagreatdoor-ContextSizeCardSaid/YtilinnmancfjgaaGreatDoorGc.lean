/- Guarded calls, one way at a time. -/
import Derived.Test.YtilinnmancfjgaaGreatDoorE4
namespace Go.Sx
def C.hd : C → C
  | .seq a _ => a
  | c => c
def C.tl : C → C
  | .seq _ b => b
  | c => c
end Go.Sx
namespace Go.Proofs.YtilinnmancfjgaaGreatDoor
open Go.Sx
set_option linter.unusedSimpArgs false
section
variable {cx : Cx} {rest : C} {Q : Post} {e : Nat → V} {h : Heap}
theorem on_gcall (d : Option Nat) (t : Nat) (want : Bool) (f : FuncId) (xs : List X) (r : List AOp) (h1 : enB (e t) want = true) (h2 : (asB (e t).un).2 = true) (h3 : cx.T.flat f = false) :
    wpR cx (⟨d, some (t, want), none, .call f xs⟩ :: r) rest Q e h = (goks e xs = true ∧ cx.T.pre f (xs.map (uval e)) h ∧ wpR cx r rest Q (putE e d (cx.T.v f (xs.map (uval e)) h)) (cx.T.hp f (xs.map (uval e)) h)) := by
  rw [wpR_gcall]
  simp only [h1, h2, h3, Bool.false_eq_true, if_false, forall_const, implies_true, true_and, reduceCtorEq, false_implies, and_true, Bool.true_eq_false]
theorem off_gcall (d : Option Nat) (t : Nat) (want : Bool) (f : FuncId) (xs : List X) (r : List AOp) (h1 : enB (e t) want = false) (h2 : (e t).gok = true → (asB (e t).un).2 = true) (h3 : cx.T.flat f = false) :
    wpR cx (⟨d, some (t, want), none, .call f xs⟩ :: r) rest Q e h = wpR cx r rest Q (putE e d (.c undef)) h := by
  rw [wpR_gcall]
  simp only [h1, h3, Bool.false_eq_true, if_false, false_implies, true_and, forall_const]
  exact propext ⟨fun k => k.2, fun k => ⟨h2, k⟩⟩
theorem flat_gcall (d : Option Nat) (t : Nat) (want : Bool) (f : FuncId) (xs : List X) (r : List AOp) (h3 : cx.T.flat f = true) :
    wpR cx (⟨d, some (t, want), none, .call f xs⟩ :: r) rest Q e h = (((e t).gok = true → (asB (e t).un).2 = true) ∧ (enB (e t) want = true → goks e xs = true ∧ cx.T.qpre f (xs.map (uval e)) h) ∧ wpR cx r rest Q (putE e d (.gd (enB (e t) want) (.c (cx.T.qv f (xs.map (uval e)) h)))) h) := by
  rw [wpR_gcall]
  simp only [h3, if_true]
end
end Go.Proofs.YtilinnmancfjgaaGreatDoor
