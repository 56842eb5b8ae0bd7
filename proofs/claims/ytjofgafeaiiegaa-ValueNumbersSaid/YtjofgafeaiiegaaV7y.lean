/- Layer 7: the law of numbers. -/
import Derived.Test.YtjofgafeaiiegaaV7w
namespace Go.Proofs.Ytjofgafeaiiegaa
open Go.Sx
set_option linter.unusedSimpArgs false
set_option maxHeartbeats 8000000
set_option maxRecDepth 20000

def cW : ByteArray := ⟨#[99]⟩
def cT : Tok := ⟨2, cW, 0⟩
def nT (n : Int) : Tok := ⟨8, ⟨#[]⟩, n⟩
theorem nil_parts : ptB ([] : List Tok) = true ∧ pl ([] : List Tok) = [] := ⟨rfl, rfl⟩
theorem n_parts (n : Int) : ptB [nT n] = true ∧ pl [nT n] = [⟨nT n, []⟩] := by
  obtain ⟨a, b, _⟩ := pl_cons (t := nT n) (b := []) (by show (8 : Int) ≠ 3; decide) (by show (8 : Int) ≠ 12; decide) nil_parts.1
  refine ⟨a, ?_⟩
  rw [b, nil_parts.2, if_neg (by show ¬ (8 : Int) = 1; decide)]; rfl
theorem c_parts {l : List Tok} (h : ptB l = true) : ptB (cT :: l) = true ∧ pl (cT :: l) = ⟨cT, []⟩ :: pl l := by
  obtain ⟨a, b, _⟩ := pl_cons (t := cT) (b := l) (by decide) (by decide) h
  refine ⟨a, ?_⟩
  rw [b, if_neg (by decide)]; rfl
theorem c_named : namedB ⟨cT, []⟩ = true := by decide
theorem c_isNone : isNone [⟨cT, []⟩] = false := by decide
theorem sp_one (u : Int) : spO u [cT] = some [(cW, u)] := by
  obtain ⟨a, b⟩ := c_parts nil_parts.1
  unfold spO
  rw [if_pos a, b, nil_parts.2, if_neg (by simp), c_isNone, if_neg (by simp)]
  simp only [stepsL, c_named, if_true]; rfl
theorem sp_two (u n : Int) : spO u [cT, nT n] = (cntO (nT n)).map fun m => [(cW, m)] := by
  obtain ⟨a0, b0⟩ := n_parts n
  obtain ⟨a, b⟩ := c_parts a0
  unfold spO
  rw [if_pos a, b, b0, if_neg (by simp)]
  have : isNone [(⟨cT, []⟩ : Pa), ⟨nT n, []⟩] = false := rfl
  rw [this, if_neg (by simp)]
  simp only [stepsL, c_named, if_true]
  cases cntO (nT n) with
  | some m => rfl
  | none =>
    have hn : namedB ⟨nT n, []⟩ = false := by
      unfold namedB
      rw [decide_eq_false (by show ¬ (8 : Int) = 2; decide), Bool.false_and]
    simp only [hn, Bool.false_eq_true, if_false]; rfl
theorem valueNumbers_law (x0 : V) (h0 : CellOK (.int .i64) x0) (x1 : V) (h1 : CellOK (.int .i64) x1) : PCall Try.prog 6 [x0, x1] (.c (.bool true)) := by
  cases h0 with | int _ n hn => ?_
  cases h1 with | int _ u _ => ?_
  have hnI : okI n := by
    simp [Lit.wf, IntKind.min, IntKind.max, IntKind.signed, IntKind.bits] at hn
    unfold okI; omega
  refine PCall.of (Orc.cons sumAw7 (Orc.cons sumStp (Orc.nil _))) c6_ok (by simp [c6]) fun w0 own0 => ?_
  have e1 : dToks (.slc 3 [[vi 2, vs ⟨#[99]⟩, vi 0]]) = [cT] := rfl
  have e2 : dToks (.slc 3 [[vi 2, vs ⟨#[99]⟩, vi 0], [vi 8, vs ⟨#[]⟩, vi n]]) = [cT, nT n] := rfl
  have t1 : toks [cT] = .slc 3 [[vi 2, vs ⟨#[99]⟩, vi 0]] := rfl
  have t2 : toks [cT, nT n] = .slc 3 [[vi 2, vs ⟨#[99]⟩, vi 0], [vi 8, vs ⟨#[]⟩, vi n]] := rfl
  have o1 : okQ [cT] := ⟨⟨by simp, by simp [cT, cW]; decide⟩, by simp [cT, okI]⟩
  have o2 : okQ [cT, nT n] := ⟨⟨by simp, by simp [cT, cW, nT]; decide⟩, by simp [cT, nT]; exact ⟨by unfold okI; omega, hnI⟩⟩
  have s1 := sp_one u
  have s2 := sp_two u n
  have hr := tdiv_rng hnI
  have sw : ∀ (m : Int), stps [toS (cW, m)] = .slc 3 [[vs ⟨#[99]⟩, vi m, .slc 5 []]] := fun _ => rfl
  have sn : stps [] = .slc 3 [] := rfl
  generalize [cT] = v1 at *
  generalize [cT, nT n] = v2 at *
  by_cases hm : n.tmod 1000 = 0
  · have hmt := eq_true hm
    have hc : cntO (nT n) = some (min (max (n.tdiv 1000) (-2147483648)) 2147483647) := by unfold cntO; exact if_pos ⟨rfl, hm⟩
    rw [hc, Option.map_some] at s2
    simp -implicitDefEqProofs only [c6, e1, e2, t1, t2, o1, o2, s1, s2, spV, Option.getD_some, sw, hmt, mm_eq, on_gcall, off_gcall, flat_gcall, sumAw7_f, sumAw7_D, sumAw7_flat, sumAw7_r, sumStp_f, sumStp_D, sumStp_flat, sumStp_r, go_sem, reduceCtorEq, reduceIte, Nat.reduceEqDiff, Nat.reduceAdd, Nat.reduceSub, Nat.reduceMul, Nat.reduceLT, Nat.reduceLeDiff, Nat.reduceBEq, Int.reduceEq, Int.reduceLT, Int.reduceLE, Int.reduceAdd, Int.reduceSub, Int.reduceNeg, Int.reduceToNat]
    omega
  · have hmt := eq_false hm
    have hc : cntO (nT n) = none := by unfold cntO; exact if_neg (fun h => hm h.2)
    rw [hc, Option.map_none] at s2
    simp -implicitDefEqProofs only [c6, e1, e2, t1, t2, o1, o2, s1, s2, spV, Option.getD_some, Option.getD_none, sw, sn, hmt, on_gcall, off_gcall, flat_gcall, sumAw7_f, sumAw7_D, sumAw7_flat, sumAw7_r, sumStp_f, sumStp_D, sumStp_flat, sumStp_r, go_sem, reduceCtorEq, reduceIte, Nat.reduceEqDiff, Nat.reduceAdd, Nat.reduceSub, Nat.reduceMul, Nat.reduceLT, Nat.reduceLeDiff, Nat.reduceBEq, Int.reduceEq, Int.reduceLT, Int.reduceLE, Int.reduceAdd, Int.reduceSub, Int.reduceNeg, Int.reduceToNat]
    omega
end Go.Proofs.Ytjofgafeaiiegaa
