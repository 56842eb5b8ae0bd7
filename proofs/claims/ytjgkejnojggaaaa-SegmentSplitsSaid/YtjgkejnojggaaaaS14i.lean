/- Segments: what the document fixes. -/
import Derived.Test.YtjgkejnojggaaaaS14h
namespace Go.Proofs.Ytjgkejnojggaaaa
open Go.Sx
set_option linter.unusedSimpArgs false
set_option maxHeartbeats 4000000
set_option maxRecDepth 20000

def aw4 : Doc := ⟨[⟨-1, ⟨#[104, 116, 109, 108]⟩, ⟨#[]⟩, [], [], ⟨#[]⟩⟩, ⟨0, ⟨#[112]⟩, ⟨#[]⟩, [], [], ⟨#[]⟩⟩, ⟨0, ⟨#[112]⟩, ⟨#[]⟩, [], [], ⟨#[]⟩⟩], [false, false, false], [0, 0, 2], [0, 0, 0], [⟨#[]⟩, ⟨#[]⟩, ⟨#[]⟩]⟩
def aw4V : V := .agg [.slc 6 [[vi (-1), vs ⟨#[104, 116, 109, 108]⟩, vs ⟨#[]⟩, vnil, vnil, vs ⟨#[]⟩], [vi 0, vs ⟨#[112]⟩, vs ⟨#[]⟩, vnil, vnil, vs ⟨#[]⟩], [vi 0, vs ⟨#[112]⟩, vs ⟨#[]⟩, vnil, vnil, vs ⟨#[]⟩]], .slc 1 [[vb false], [vb false], [vb false]], .slc 1 [[vi 0], [vi 0], [vi 2]], .slc 1 [[vi 0], [vi 0], [vi 0]], .slc 1 [[vs ⟨#[]⟩], [vs ⟨#[]⟩], [vs ⟨#[]⟩]]]
theorem aw4Sub : Sub 3 aw4V (.agg aw4.enc) := by
  simp [Sub, F2, aw4V, aw4, Doc.enc, Node.enc]
theorem PCall.aw4 {f : FuncId} {args : List V} {r : V} (h : PCall Try.prog f (.agg aw4.enc :: args) r) : PCall Try.prog f (aw4V :: args) r := by
  refine PCall.asub 3 h ⟨aw4Sub, ?_⟩
  have : ∀ l : List V, F2 (Sub 3) l l := by
    intro l
    induction l with
    | nil => trivial
    | cons a l ih => exact ⟨Sub.rfl 3 a, ih⟩
  exact this args
theorem aw4Len : aw4.l.length ≤ 1000 := by decide
theorem aw4S1 : okS [[0, 1, 2]] := ⟨by decide, by decide⟩
theorem aw4S2 : okS [[0, 1], [2]] := ⟨by decide, by decide⟩
theorem aw4C1 : chkS aw4 [[0, 1, 2]] = (0, 7) := by kernel_rfl
theorem aw4C2 : chkS aw4 [[0, 1], [2]] = (0, 0) := by kernel_rfl
theorem aw4W : whlV aw4 = [[0, 1], [2]] := by kernel_rfl
theorem aw4B : brkS aw4 [[0, 1], [2]] 1 = 2 := by kernel_rfl
def sumY1 : Sum Try.prog := ⟨10, fun args => args = [aw4V, .slc 1 [[.slc 1 [[vi 0], [vi 1], [vi 2]]]]] ∨ args = [aw4V, .slc 1 [[.slc 1 [[vi 0], [vi 1]]], [.slc 1 [[vi 2]]]]], fun args => .tup [vi 0, vi (if (args.getD 1 .any).es.length = 1 then 7 else 0)], fun args h => by
  rcases h with h | h
  · have := PCall.aw4 (segChk_ok aw4 [[0, 1, 2]] aw4Len aw4S1); rw [aw4C1] at this; rw [h]; exact this
  · have := PCall.aw4 (segChk_ok aw4 [[0, 1], [2]] aw4Len aw4S2); rw [aw4C2] at this; rw [h]; exact this, false⟩
theorem sumY1_f : sumY1.f = 10 := rfl
theorem sumY1_D (args : List V) : sumY1.D args = (args = [aw4V, .slc 1 [[.slc 1 [[vi 0], [vi 1], [vi 2]]]]] ∨ args = [aw4V, .slc 1 [[.slc 1 [[vi 0], [vi 1]]], [.slc 1 [[vi 2]]]]]) := rfl
theorem sumY1_flat : sumY1.flat = false := rfl
theorem sumY1_r (args : List V) : sumY1.r args = .tup [vi 0, vi (if (args.getD 1 .any).es.length = 1 then 7 else 0)] := rfl
def sumY2 : Sum Try.prog := ⟨16, fun args => args = [aw4V], fun args => .slc 1 [[.slc 1 [[vi 0], [vi 1]]], [.slc 1 [[vi 2]]]], fun args h => by
  have := PCall.aw4 (whole_ok aw4 aw4Len); rw [aw4W] at this; rw [h]; exact this, false⟩
theorem sumY2_f : sumY2.f = 16 := rfl
theorem sumY2_D (args : List V) : sumY2.D args = (args = [aw4V]) := rfl
theorem sumY2_flat : sumY2.flat = false := rfl
theorem sumY2_r (args : List V) : sumY2.r args = .slc 1 [[.slc 1 [[vi 0], [vi 1]]], [.slc 1 [[vi 2]]]] := rfl
def sumY3 : Sum Try.prog := ⟨21, fun args => args = [aw4V, .slc 1 [[.slc 1 [[vi 0], [vi 1]]], [.slc 1 [[vi 2]]]], vi 1], fun args => vi 2, fun args h => by
  have := PCall.aw4 (brkS_ok aw4 [[0, 1], [2]] 1 aw4Len aw4S2); rw [aw4B] at this; rw [h]; exact this, true⟩
theorem sumY3_f : sumY3.f = 21 := rfl
theorem sumY3_D (args : List V) : sumY3.D args = (args = [aw4V, .slc 1 [[.slc 1 [[vi 0], [vi 1]]], [.slc 1 [[vi 2]]]], vi 1]) := rfl
theorem sumY3_flat : sumY3.flat = true := rfl
theorem sumY3_r (args : List V) : sumY3.r args = vi 2 := rfl
theorem rep3 {α : Type} (x : α) : List.replicate 3 x = [x, x, x] := rfl
theorem awake14_ok : PCall Try.prog 9 [] (vb true) := by
  refine PCall.of (Orc.cons sumY1 (Orc.cons sumY2 (Orc.cons sumY3 (Orc.nil _)))) c9_ok (by simp [c9]) fun w0 own0 => ?_
  simp (maxSteps := 2000000) only [c9, aw4V, ints, wpC_seq_breg, wpFB_cons, wpFB_nil, fluP, fluV, evF, V.allK, V.isK, O.still, okP_none, vP_none, boxH, boxE, boxOK, rep3, Heap.freeze, List.mapIdx_cons, List.mapIdx_nil, on_gcall, off_gcall, flat_gcall, sumY1_f, sumY1_D, sumY1_flat, sumY1_r, sumY2_f, sumY2_D, sumY2_flat, sumY2_r, sumY3_f, sumY3_D, sumY3_flat, sumY3_r, go_sem, reduceCtorEq, reduceIte, Nat.reduceEqDiff, Nat.reduceAdd, Nat.reduceSub, Nat.reduceMul, Nat.reduceLT, Nat.reduceLeDiff, Nat.reduceBEq, Int.reduceEq, Int.reduceLT, Int.reduceLE, Int.reduceAdd, Int.reduceSub, Int.reduceNeg, Int.reduceToNat]
  decide
def sumAwake14 : Sum Try.prog := ⟨9, fun args => args = [], fun args => vb true, fun args h => by
  have := awake14_ok; rwa [← h] at this, true⟩
theorem sumAwake14_f : sumAwake14.f = 9 := rfl
theorem sumAwake14_D (args : List V) : sumAwake14.D args = (args = []) := rfl
theorem sumAwake14_flat : sumAwake14.flat = true := rfl
theorem sumAwake14_r (args : List V) : sumAwake14.r args = vb true := rfl
end Go.Proofs.Ytjgkejnojggaaaa
