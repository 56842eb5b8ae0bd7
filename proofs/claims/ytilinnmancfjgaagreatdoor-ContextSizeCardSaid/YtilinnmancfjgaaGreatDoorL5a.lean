/- Tokens, rows of numbers; the small functions of layer 5. -/
import Derived.Test.YtilinnmancfjgaaGreatDoorCd
import Derived.Test.YtilinnmancfjgaaGreatDoorE4
namespace Go.Proofs.YtilinnmancfjgaaGreatDoor
open Go.Sx
set_option linter.unusedSimpArgs false
set_option maxHeartbeats 4000000

def closing (t : Tok) : ByteArray :=
  if t.kind = 3 ∨ t.kind = 12 ∧ t.text = ⟨#[40]⟩ then ⟨#[41]⟩ else if t.kind = 12 ∧ t.text = ⟨#[91]⟩ then ⟨#[93]⟩ else if t.kind = 12 ∧ t.text = ⟨#[123]⟩ then ⟨#[125]⟩ else ⟨#[]⟩

def skip (ends : List Int) (k : Int) : Int := if k < 0 ∨ (ends.length : Int) ≤ k ∨ ends.getD k.toNat 0 < k then k + 1 else min (ends.getD k.toNat 0 + 1) ends.length

theorem skip_ok (l : List Int) (k : Int) (hk : -9223372036854775808 ≤ k) (hk' : k < 9223372036854775807) (hl : l.getD k.toNat 0 < 9223372036854775807) : PCall Tryz.prog 55 [ints l, vi k] (vi (skip l k)) := by
  refine PCall.of (Orc.nil _) c55_ok (by simp [c55]) fun w0 own0 => ?_
  simp only [c55, ints, getD_ints, res_c, inR_iff, Option.some.injEq, go_sem, wpR_gcall, reduceCtorEq, reduceIte, Nat.reduceEqDiff, Nat.reduceAdd, Nat.reduceSub, Nat.reduceMul, Nat.reduceLT, Nat.reduceLeDiff, Nat.reduceBEq, Int.reduceEq, Int.reduceLT, Int.reduceLE, Int.reduceAdd, Int.reduceSub, Int.reduceNeg, Int.reduceToNat]
  unfold skip
  grind
theorem opens_ok (t : Tok) : PCall Tryz.prog 78 [.agg t.enc] (vs (closing t)) := by
  refine PCall.of (Orc.nil _) c78_ok (by simp [c78]) fun w0 own0 => ?_
  simp only [c78, Tok.enc, res_c, inR_iff, Option.some.injEq, go_sem, wpR_gcall, reduceCtorEq, reduceIte, Nat.reduceEqDiff, Nat.reduceAdd, Nat.reduceSub, Nat.reduceMul, Nat.reduceLT, Nat.reduceLeDiff, Nat.reduceBEq, Int.reduceEq, Int.reduceLT, Int.reduceLE, Int.reduceAdd, Int.reduceSub, Int.reduceNeg, Int.reduceToNat]
  unfold closing
  grind
end Go.Proofs.YtilinnmancfjgaaGreatDoor
