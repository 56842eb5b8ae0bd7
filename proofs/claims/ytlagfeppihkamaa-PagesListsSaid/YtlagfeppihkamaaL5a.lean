/- Tokens, rows of numbers; the small functions of layer 5. -/
import Derived.Test.YtlagfeppihkamaaCd
import Derived.Test.YtlagfeppihkamaaE4
namespace Go.Proofs.Ytlagfeppihkamaa
open Go.Sx
set_option linter.unusedSimpArgs false
set_option maxHeartbeats 4000000

def closing (t : Tok) : ByteArray :=
  if t.kind = 3 ∨ t.kind = 12 ∧ t.text = ⟨#[40]⟩ then ⟨#[41]⟩ else if t.kind = 12 ∧ t.text = ⟨#[91]⟩ then ⟨#[93]⟩ else if t.kind = 12 ∧ t.text = ⟨#[123]⟩ then ⟨#[125]⟩ else ⟨#[]⟩

def skip (ends : List Int) (k : Int) : Int := if k < 0 ∨ (ends.length : Int) ≤ k ∨ ends.getD k.toNat 0 < k then k + 1 else min (ends.getD k.toNat 0 + 1) ends.length

theorem skip_ok (l : List Int) (k : Int) (hk : -9223372036854775808 ≤ k) (hk' : k < 9223372036854775807) (hl : l.getD k.toNat 0 < 9223372036854775807) : PCall Try.prog 56 [ints l, vi k] (vi (skip l k)) := by
  refine PCall.of (Orc.nil _) c56_ok (by simp [c56]) fun w0 own0 => ?_
  simp only [c56, ints, getD_ints, res_c, inR_iff, Option.some.injEq, go_sem, wpR_gcall, reduceCtorEq, reduceIte, Nat.reduceEqDiff, Nat.reduceAdd, Nat.reduceSub, Nat.reduceMul, Nat.reduceLT, Nat.reduceLeDiff, Nat.reduceBEq, Int.reduceEq, Int.reduceLT, Int.reduceLE, Int.reduceAdd, Int.reduceSub, Int.reduceNeg, Int.reduceToNat]
  unfold skip
  grind
theorem opens_ok (t : Tok) : PCall Try.prog 34 [.agg t.enc] (vs (closing t)) := by
  refine PCall.of (Orc.nil _) c34_ok (by simp [c34]) fun w0 own0 => ?_
  simp only [c34, Tok.enc, res_c, inR_iff, Option.some.injEq, go_sem, wpR_gcall, reduceCtorEq, reduceIte, Nat.reduceEqDiff, Nat.reduceAdd, Nat.reduceSub, Nat.reduceMul, Nat.reduceLT, Nat.reduceLeDiff, Nat.reduceBEq, Int.reduceEq, Int.reduceLT, Int.reduceLE, Int.reduceAdd, Int.reduceSub, Int.reduceNeg, Int.reduceToNat]
  unfold closing
  grind
theorem close_ok (t : Tok) : PCall Try.prog 40 [.agg t.enc] (vs (closing t)) := by
  refine PCall.of (Orc.nil _) c40_ok (by simp [c40]) fun w0 own0 => ?_
  simp only [c40, Tok.enc, res_c, inR_iff, Option.some.injEq, go_sem, wpR_gcall, reduceCtorEq, reduceIte, Nat.reduceEqDiff, Nat.reduceAdd, Nat.reduceSub, Nat.reduceMul, Nat.reduceLT, Nat.reduceLeDiff, Nat.reduceBEq, Int.reduceEq, Int.reduceLT, Int.reduceLE, Int.reduceAdd, Int.reduceSub, Int.reduceNeg, Int.reduceToNat]
  unfold closing
  grind
theorem refSkip_ok (l : List Int) (k : Int) (hk : -9223372036854775808 ≤ k) (hk' : k < 9223372036854775807) (hl : l.getD k.toNat 0 < 9223372036854775807) : PCall Try.prog 58 [ints l, vi k] (vi (skip l k)) := by
  refine PCall.of (Orc.nil _) c58_ok (by simp [c58]) fun w0 own0 => ?_
  simp only [c58, ints, getD_ints, res_c, inR_iff, Option.some.injEq, go_sem, wpR_gcall, reduceCtorEq, reduceIte, Nat.reduceEqDiff, Nat.reduceAdd, Nat.reduceSub, Nat.reduceMul, Nat.reduceLT, Nat.reduceLeDiff, Nat.reduceBEq, Int.reduceEq, Int.reduceLT, Int.reduceLE, Int.reduceAdd, Int.reduceSub, Int.reduceNeg, Int.reduceToNat]
  unfold skip
  grind
theorem within_ok (n a b : Int) : PCall Try.prog 35 [vi n, vi a, vi b] (vb (decide (0 ≤ a ∧ a ≤ b ∧ b ≤ n))) := by
  refine PCall.of (Orc.nil _) c35_ok (by simp [c35]) fun w0 own0 => ?_
  simp only [c35, ints, getD_ints, res_c, inR_iff, Option.some.injEq, go_sem, wpR_gcall, reduceCtorEq, reduceIte, Nat.reduceEqDiff, Nat.reduceAdd, Nat.reduceSub, Nat.reduceMul, Nat.reduceLT, Nat.reduceLeDiff, Nat.reduceBEq, Int.reduceEq, Int.reduceLT, Int.reduceLE, Int.reduceAdd, Int.reduceSub, Int.reduceNeg, Int.reduceToNat]
  grind
theorem isKind_ok (t : Tok) (k : Int) : PCall Try.prog 36 [.agg t.enc, .pp [vi k]] (vb (decide (t.kind = k))) := by
  refine PCall.of (Orc.nil _) c36_ok (by simp [c36]) fun w0 own0 => ?_
  simp only [c36, Tok.enc, res_c, inR_iff, Option.some.injEq, go_sem, wpR_gcall, reduceCtorEq, reduceIte, Nat.reduceEqDiff, Nat.reduceAdd, Nat.reduceSub, Nat.reduceMul, Nat.reduceLT, Nat.reduceLeDiff, Nat.reduceBEq, Int.reduceEq, Int.reduceLT, Int.reduceLE, Int.reduceAdd, Int.reduceSub, Int.reduceNeg, Int.reduceToNat]
end Go.Proofs.Ytlagfeppihkamaa
