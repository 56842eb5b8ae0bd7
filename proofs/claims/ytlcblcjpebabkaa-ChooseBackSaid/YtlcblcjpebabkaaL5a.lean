/- Tokens, rows of numbers; the small functions of layer 5. -/
import Derived.Test.YtlcblcjpebabkaaCd
import Derived.Test.YtlcblcjpebabkaaE4
namespace Go.Proofs.Ytlcblcjpebabkaa
open Go.Sx
set_option linter.unusedSimpArgs false
set_option maxHeartbeats 4000000

def closing (t : Tok) : ByteArray :=
  if t.kind = 3 ∨ t.kind = 12 ∧ t.text = ⟨#[40]⟩ then ⟨#[41]⟩ else if t.kind = 12 ∧ t.text = ⟨#[91]⟩ then ⟨#[93]⟩ else if t.kind = 12 ∧ t.text = ⟨#[123]⟩ then ⟨#[125]⟩ else ⟨#[]⟩

def skip (ends : List Int) (k : Int) : Int := if k < 0 ∨ (ends.length : Int) ≤ k ∨ ends.getD k.toNat 0 < k then k + 1 else min (ends.getD k.toNat 0 + 1) ends.length

theorem skip_ok (l : List Int) (k : Int) (hk : -9223372036854775808 ≤ k) (hk' : k < 9223372036854775807) (hl : l.getD k.toNat 0 < 9223372036854775807) : PCall Try.prog 54 [ints l, vi k] (vi (skip l k)) := by
  refine PCall.of (Orc.nil _) c54_ok (by simp [c54]) fun w0 own0 => ?_
  simp only [c54, ints, getD_ints, res_c, inR_iff, Option.some.injEq, go_sem, wpR_gcall, reduceCtorEq, reduceIte, Nat.reduceEqDiff, Nat.reduceAdd, Nat.reduceSub, Nat.reduceMul, Nat.reduceLT, Nat.reduceLeDiff, Nat.reduceBEq, Int.reduceEq, Int.reduceLT, Int.reduceLE, Int.reduceAdd, Int.reduceSub, Int.reduceNeg, Int.reduceToNat]
  unfold skip
  grind
theorem opens_ok (t : Tok) : PCall Try.prog 37 [.agg t.enc] (vs (closing t)) := by
  refine PCall.of (Orc.nil _) c37_ok (by simp [c37]) fun w0 own0 => ?_
  simp only [c37, Tok.enc, res_c, inR_iff, Option.some.injEq, go_sem, wpR_gcall, reduceCtorEq, reduceIte, Nat.reduceEqDiff, Nat.reduceAdd, Nat.reduceSub, Nat.reduceMul, Nat.reduceLT, Nat.reduceLeDiff, Nat.reduceBEq, Int.reduceEq, Int.reduceLT, Int.reduceLE, Int.reduceAdd, Int.reduceSub, Int.reduceNeg, Int.reduceToNat]
  unfold closing
  grind
theorem within_ok (n a b : Int) : PCall Try.prog 38 [vi n, vi a, vi b] (vb (decide (0 ≤ a ∧ a ≤ b ∧ b ≤ n))) := by
  refine PCall.of (Orc.nil _) c38_ok (by simp [c38]) fun w0 own0 => ?_
  simp only [c38, ints, getD_ints, res_c, inR_iff, Option.some.injEq, go_sem, wpR_gcall, reduceCtorEq, reduceIte, Nat.reduceEqDiff, Nat.reduceAdd, Nat.reduceSub, Nat.reduceMul, Nat.reduceLT, Nat.reduceLeDiff, Nat.reduceBEq, Int.reduceEq, Int.reduceLT, Int.reduceLE, Int.reduceAdd, Int.reduceSub, Int.reduceNeg, Int.reduceToNat]
  grind
theorem isKind_ok (t : Tok) (k : Int) : PCall Try.prog 39 [.agg t.enc, .pp [vi k]] (vb (decide (t.kind = k))) := by
  refine PCall.of (Orc.nil _) c39_ok (by simp [c39]) fun w0 own0 => ?_
  simp only [c39, Tok.enc, res_c, inR_iff, Option.some.injEq, go_sem, wpR_gcall, reduceCtorEq, reduceIte, Nat.reduceEqDiff, Nat.reduceAdd, Nat.reduceSub, Nat.reduceMul, Nat.reduceLT, Nat.reduceLeDiff, Nat.reduceBEq, Int.reduceEq, Int.reduceLT, Int.reduceLE, Int.reduceAdd, Int.reduceSub, Int.reduceNeg, Int.reduceToNat]
end Go.Proofs.Ytlcblcjpebabkaa
