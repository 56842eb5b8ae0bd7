/- Tokens, rows of numbers; the small functions of layer 5. -/
import Derived.Test.YtlcblcjpebabkaaCd
import Derived.Test.YtlcblcjpebabkaaE4
namespace Go.Proofs.Ytlcblcjpebabkaa
open Go.Sx
set_option linter.unusedSimpArgs false
set_option maxHeartbeats 4000000

def closing (t : Tok) : ByteArray :=
  if t.kind = 3 ∨ t.kind = 12 ∧ t.text = ⟨#[40]⟩ then ⟨#[41]⟩ else if t.kind = 12 ∧ t.text = ⟨#[91]⟩ then ⟨#[93]⟩ else if t.kind = 12 ∧ t.text = ⟨#[123]⟩ then ⟨#[125]⟩ else ⟨#[]⟩

def skip (ends : List Int) (k : Int) : Int := if k < 0 ∨ (ends.length : Int) ≤ k ∨ ends.getD k.toNat 0 < k then k + 1 else min (ends.getD k.toNat 0 + 1) ends.length

theorem close_ok (t : Tok) : PCall Try.prog 45 [.agg t.enc] (vs (closing t)) := by
  refine PCall.of (Orc.nil _) c45_ok (by simp [c45]) fun w0 own0 => ?_
  simp only [c45, Tok.enc, res_c, inR_iff, Option.some.injEq, go_sem, wpR_gcall, reduceCtorEq, reduceIte, Nat.reduceEqDiff, Nat.reduceAdd, Nat.reduceSub, Nat.reduceMul, Nat.reduceLT, Nat.reduceLeDiff, Nat.reduceBEq, Int.reduceEq, Int.reduceLT, Int.reduceLE, Int.reduceAdd, Int.reduceSub, Int.reduceNeg, Int.reduceToNat]
  unfold closing
  grind
theorem refSkip_ok (l : List Int) (k : Int) (hk : -9223372036854775808 ≤ k) (hk' : k < 9223372036854775807) (hl : l.getD k.toNat 0 < 9223372036854775807) : PCall Try.prog 58 [ints l, vi k] (vi (skip l k)) := by
  refine PCall.of (Orc.nil _) c58_ok (by simp [c58]) fun w0 own0 => ?_
  simp only [c58, ints, getD_ints, res_c, inR_iff, Option.some.injEq, go_sem, wpR_gcall, reduceCtorEq, reduceIte, Nat.reduceEqDiff, Nat.reduceAdd, Nat.reduceSub, Nat.reduceMul, Nat.reduceLT, Nat.reduceLeDiff, Nat.reduceBEq, Int.reduceEq, Int.reduceLT, Int.reduceLE, Int.reduceAdd, Int.reduceSub, Int.reduceNeg, Int.reduceToNat]
  unfold skip
  grind
end Go.Proofs.Ytlcblcjpebabkaa
