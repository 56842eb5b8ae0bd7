/- Flows: rows that are the same; which breaks are forced; what the document fixes. -/
import Derived.Test.YtihkcnibffddgaaF12b
namespace Go.Proofs.Ytihkcnibffddgaa
open Go.Sx
set_option linter.unusedSimpArgs false
set_option maxHeartbeats 4000000
set_option maxRecDepth 20000

theorem forced_ok (n : Int) : PCall Try.prog 18 [vi n] (vb (decide (2 ≤ n ∧ n ≤ 4))) := by
  refine PCall.of (Orc.nil _) c18_ok (by simp [c18]) fun w0 own0 => ?_
  simp only [c18, go_sem, wpR_gcall, reduceCtorEq, reduceIte, Nat.reduceEqDiff, Nat.reduceAdd, Nat.reduceSub, Nat.reduceMul, Nat.reduceLT, Nat.reduceLeDiff, Nat.reduceBEq, Int.reduceEq, Int.reduceLT, Int.reduceLE, Int.reduceAdd, Int.reduceSub, Int.reduceNeg, Int.reduceToNat]
  simp
def sumForced : Sum Try.prog := ⟨18, fun args => args = [vi ((args.getD 0 .any).int)], fun args => vb (decide (2 ≤ ((args.getD 0 .any).int) ∧ ((args.getD 0 .any).int) ≤ 4)), fun args h => by
  have := forced_ok ((args.getD 0 .any).int); rwa [← h] at this, true⟩
theorem sumForced_f : sumForced.f = 18 := rfl
theorem sumForced_D (args : List V) : sumForced.D args = (args = [vi ((args.getD 0 .any).int)]) := rfl
theorem sumForced_flat : sumForced.flat = true := rfl
theorem sumForced_r (args : List V) : sumForced.r args = vb (decide (2 ≤ ((args.getD 0 .any).int) ∧ ((args.getD 0 .any).int) ≤ 4)) := rfl
theorem same_ok (a b : List Int) (hl : a.length ≤ 1000000) : PCall Try.prog 20 [ints a, ints b] (vb (decide (a = b))) := by
  refine PCall.of (Orc.nil _) c20_ok (by simp [c20]) fun w0 own0 => ?_
  by_cases hn : a.length = b.length
  · simp only [c20, ints, hn, go_sem, wpR_gcall, reduceCtorEq, reduceIte, Nat.reduceEqDiff, Nat.reduceAdd, Nat.reduceSub, Nat.reduceMul, Nat.reduceLT, Nat.reduceLeDiff, Nat.reduceBEq, Int.reduceEq, Int.reduceLT, Int.reduceLE, Int.reduceAdd, Int.reduceSub, Int.reduceNeg, Int.reduceToNat]
    refine SemC.lp (α := Nat) (fun k => [(0, .slc 1 (a.map fun n => [vi n])), (1, .slc 1 (b.map fun n => [vi n])), (12, vi b.length), (13, vi k)]) (fun _ => ⟨[], 0⟩)
      (fun k => k ≤ b.length ∧ ∀ i, i < k → a.getD i 0 = b.getD i 0) (fun k => b.length - k) 0 ⟨Nat.zero_le _, fun i hi => by omega⟩ (St.mk (by simp [Agrees, upd_at, initE_at])) fun k hk => ?_
    obtain ⟨h1, h2⟩ := hk
    by_cases hkl : k = b.length
    · have hab : a = b := by
        apply List.ext_getElem? ; intro i
        by_cases hi : i < b.length
        · have := h2 i (by omega)
          rw [List.getD_eq_getElem?_getD, List.getD_eq_getElem?_getD, List.getElem?_eq_getElem (by omega), List.getElem?_eq_getElem hi] at this
          rw [List.getElem?_eq_getElem (by omega), List.getElem?_eq_getElem hi]
          simpa using this
        · rw [List.getElem?_eq_none (by omega), List.getElem?_eq_none (by omega)]
      subst hkl
      simp only [Int.lt_irrefl, hab, go_sem, wpR_gcall, reduceCtorEq, reduceIte, Nat.reduceEqDiff, Nat.reduceAdd, Nat.reduceSub, Nat.reduceMul, Nat.reduceLT, Nat.reduceLeDiff, Nat.reduceBEq, Int.reduceEq, Int.reduceLT, Int.reduceLE, Int.reduceAdd, Int.reduceSub, Int.reduceNeg, Int.reduceToNat]
    · have e1 : (k : Int) < (b.length : Int) := by omega
      simp only [e1, hn, go_sem, wpR_gcall, reduceCtorEq, reduceIte, Nat.reduceEqDiff, Nat.reduceAdd, Nat.reduceSub, Nat.reduceMul, Nat.reduceLT, Nat.reduceLeDiff, Nat.reduceBEq, Int.reduceEq, Int.reduceLT, Int.reduceLE, Int.reduceAdd, Int.reduceSub, Int.reduceNeg, Int.reduceToNat]
      refine ⟨by omega, by omega, fun hne => ?_, fun he => ⟨by omega, k + 1, ⟨by omega, fun i hi => ?_⟩, by omega, by omega⟩⟩
      · rw [eq_comm, decide_eq_false_iff_not]; intro h; exact hne (by rw [h])
      · by_cases e : i = k
        · rw [e]; exact he
        · exact h2 i (by omega)
  · have e : decide (a = b) = false := by rw [decide_eq_false_iff_not]; intro h; exact hn (by rw [h])
    have e1 : ¬ (a.length : Int) = (b.length : Int) := by omega
    simp only [c20, ints, e, e1, go_sem, wpR_gcall, reduceCtorEq, reduceIte, Nat.reduceEqDiff, Nat.reduceAdd, Nat.reduceSub, Nat.reduceMul, Nat.reduceLT, Nat.reduceLeDiff, Nat.reduceBEq, Int.reduceEq, Int.reduceLT, Int.reduceLE, Int.reduceAdd, Int.reduceSub, Int.reduceNeg, Int.reduceToNat]
def sumSame : Sum Try.prog := ⟨20, fun args => args = [ints (dInts (args.getD 0 .any)), ints (dInts (args.getD 1 .any))] ∧ ((dInts (args.getD 0 .any))).length ≤ 1000000, fun args => vb (decide ((dInts (args.getD 0 .any)) = (dInts (args.getD 1 .any)))), fun args h => by
  have := same_ok (dInts (args.getD 0 .any)) (dInts (args.getD 1 .any)) h.2; rwa [← h.1] at this, true⟩
theorem sumSame_f : sumSame.f = 20 := rfl
theorem sumSame_D (args : List V) : sumSame.D args = (args = [ints (dInts (args.getD 0 .any)), ints (dInts (args.getD 1 .any))] ∧ ((dInts (args.getD 0 .any))).length ≤ 1000000) := rfl
theorem sumSame_flat : sumSame.flat = true := rfl
theorem sumSame_r (args : List V) : sumSame.r args = vb (decide ((dInts (args.getD 0 .any)) = (dInts (args.getD 1 .any)))) := rfl
def aw2 : Doc := ⟨[⟨-1, ⟨#[104, 116, 109, 108]⟩, ⟨#[]⟩, [], [], ⟨#[]⟩⟩, ⟨0, ⟨#[100, 105, 118]⟩, ⟨#[]⟩, [], [], ⟨#[]⟩⟩, ⟨1, ⟨#[112]⟩, ⟨#[]⟩, [], [], ⟨#[]⟩⟩, ⟨0, ⟨#[112]⟩, ⟨#[]⟩, [], [], ⟨#[]⟩⟩], [false, false, false, false], [0, 0, 0, 2], [0, 0, 3, 0], [⟨#[]⟩, ⟨#[]⟩, ⟨#[]⟩, ⟨#[]⟩]⟩
def aw2V : V := .agg [.slc 6 [[vi (-1), vs ⟨#[104, 116, 109, 108]⟩, vs ⟨#[]⟩, vnil, vnil, vs ⟨#[]⟩], [vi 0, vs ⟨#[100, 105, 118]⟩, vs ⟨#[]⟩, vnil, vnil, vs ⟨#[]⟩], [vi 1, vs ⟨#[112]⟩, vs ⟨#[]⟩, vnil, vnil, vs ⟨#[]⟩], [vi 0, vs ⟨#[112]⟩, vs ⟨#[]⟩, vnil, vnil, vs ⟨#[]⟩]], .slc 1 [[vb false], [vb false], [vb false], [vb false]], .slc 1 [[vi 0], [vi 0], [vi 0], [vi 2]], .slc 1 [[vi 0], [vi 0], [vi 3], [vi 0]], .slc 1 [[vs ⟨#[]⟩], [vs ⟨#[]⟩], [vs ⟨#[]⟩], [vs ⟨#[]⟩]]]
theorem aw2Sub : Sub 3 aw2V (.agg aw2.enc) := by
  simp [Sub, F2, aw2V, aw2, Doc.enc, Node.enc]
theorem PCall.aw2 {f : FuncId} {args : List V} {r : V} (h : PCall Try.prog f (.agg aw2.enc :: args) r) : PCall Try.prog f (aw2V :: args) r := by
  refine PCall.asub 3 h ⟨aw2Sub, ?_⟩
  have : ∀ l : List V, F2 (Sub 3) l l := by
    intro l
    induction l with
    | nil => trivial
    | cons a l ih => exact ⟨Sub.rfl 3 a, ih⟩
  exact this args
theorem aw2Len : aw2.l.length ≤ 1000 := by decide
theorem aw2R : rightB aw2 = true := by kernel_rfl
theorem aw2A : ahdV aw2 3 = 3 := by kernel_rfl
theorem aw2P3 : ptV aw2 3 = true := by kernel_rfl
theorem aw2P2 : ptV aw2 2 = false := by kernel_rfl
theorem aw2I : inV aw2 = [0, 1, 2, 3] := by kernel_rfl
theorem aw2J : joinT [2, 1] = 2 := by kernel_rfl
def sumW1 : Sum Try.prog := ⟨22, fun args => args = [aw2V], fun _ => vb true, fun args h => by
  have := PCall.aw2 (rightT_ok aw2 aw2Len); rw [aw2R] at this; rw [h]; exact this, true⟩
theorem sumW1_f : sumW1.f = 22 := rfl
theorem sumW1_D (args : List V) : sumW1.D args = (args = [aw2V]) := rfl
theorem sumW1_flat : sumW1.flat = true := rfl
theorem sumW1_r (args : List V) : sumW1.r args = vb true := rfl
def sumW2 : Sum Try.prog := ⟨14, fun args => args = [aw2V, vi 3], fun _ => vi 3, fun args h => by
  have := PCall.aw2 (ahd_ok aw2 3 aw2Len); rw [aw2A] at this; rw [h]; exact this, true⟩
theorem sumW2_f : sumW2.f = 14 := rfl
theorem sumW2_D (args : List V) : sumW2.D args = (args = [aw2V, vi 3]) := rfl
theorem sumW2_flat : sumW2.flat = true := rfl
theorem sumW2_r (args : List V) : sumW2.r args = vi 3 := rfl
def sumW3 : Sum Try.prog := ⟨23, fun args => args = [aw2V, vi 3] ∨ args = [aw2V, vi 2], fun args => vb (decide ((args.getD 1 .any).int = 3)), fun args h => by
  rcases h with h | h
  · have := PCall.aw2 (point_ok aw2 3 aw2Len); rw [aw2P3] at this; rw [h]; simpa [V.int] using this
  · have := PCall.aw2 (point_ok aw2 2 aw2Len); rw [aw2P2] at this; rw [h]; simpa [V.int] using this, true⟩
theorem sumW3_f : sumW3.f = 23 := rfl
theorem sumW3_D (args : List V) : sumW3.D args = (args = [aw2V, vi 3] ∨ args = [aw2V, vi 2]) := rfl
theorem sumW3_flat : sumW3.flat = true := rfl
theorem sumW3_r (args : List V) : sumW3.r args = vb (decide ((args.getD 1 .any).int = 3)) := rfl
def sumW4 : Sum Try.prog := ⟨13, fun args => args = [aw2V], fun _ => ints [0, 1, 2, 3], fun args h => by
  have := PCall.aw2 (inA_ok aw2 aw2Len); rw [aw2I] at this; rw [h]; exact this, false⟩
theorem sumW4_f : sumW4.f = 13 := rfl
theorem sumW4_D (args : List V) : sumW4.D args = (args = [aw2V]) := rfl
theorem sumW4_flat : sumW4.flat = false := rfl
theorem sumW4_r (args : List V) : sumW4.r args = ints [0, 1, 2, 3] := rfl
def sumW5 : Sum Try.prog := ⟨16, fun args => args = [.slc 1 [[vi 2], [vi 1]]], fun _ => vi 2, fun args h => by
  have := join_ok [2, 1] (by decide); rw [aw2J] at this; rw [h]; exact this, true⟩
theorem sumW5_f : sumW5.f = 16 := rfl
theorem sumW5_D (args : List V) : sumW5.D args = (args = [.slc 1 [[vi 2], [vi 1]]]) := rfl
theorem sumW5_flat : sumW5.flat = true := rfl
theorem sumW5_r (args : List V) : sumW5.r args = vi 2 := rfl
theorem rep4 {α : Type} (x : α) : List.replicate 4 x = [x, x, x, x] := rfl
theorem awake12_ok : PCall Try.prog 12 [] (vb true) := by
  refine PCall.of (Orc.cons sumW1 (Orc.cons sumW2 (Orc.cons sumW3 (Orc.cons sumW4 (Orc.cons sumW5 (Orc.cons sumForced (Orc.nil _))))))) c12_ok (by simp [c12]) fun w0 own0 => ?_
  simp (maxSteps := 2000000) only [c12, aw2V, ints, wpC_seq_breg, wpFB_cons, wpFB_nil, fluP, fluV, evF, V.allK, V.isK, O.still, okP_none, vP_none, boxH, boxE, boxOK, rep4, Heap.freeze, List.mapIdx_cons, List.mapIdx_nil, on_gcall, off_gcall, flat_gcall, sumW1_f, sumW1_D, sumW1_flat, sumW1_r, sumW2_f, sumW2_D, sumW2_flat, sumW2_r, sumW3_f, sumW3_D, sumW3_flat, sumW3_r, sumW4_f, sumW4_D, sumW4_flat, sumW4_r, sumW5_f, sumW5_D, sumW5_flat, sumW5_r, sumForced_f, sumForced_D, sumForced_flat, sumForced_r, go_sem, reduceCtorEq, reduceIte, Nat.reduceEqDiff, Nat.reduceAdd, Nat.reduceSub, Nat.reduceMul, Nat.reduceLT, Nat.reduceLeDiff, Nat.reduceBEq, Int.reduceEq, Int.reduceLT, Int.reduceLE, Int.reduceAdd, Int.reduceSub, Int.reduceNeg, Int.reduceToNat]
  decide
def sumAwake12 : Sum Try.prog := ⟨12, fun args => args = [], fun args => vb true, fun args h => by
  have := awake12_ok; rwa [← h] at this, true⟩
theorem sumAwake12_f : sumAwake12.f = 12 := rfl
theorem sumAwake12_D (args : List V) : sumAwake12.D args = (args = []) := rfl
theorem sumAwake12_flat : sumAwake12.flat = true := rfl
theorem sumAwake12_r (args : List V) : sumAwake12.r args = vb true := rfl
end Go.Proofs.Ytihkcnibffddgaa
