/- Layer 17: papers, the least of numbers, tokens without Space by the document. -/
import Derived.Test.YtilinnmancfjgaaGreatDoorX17a
namespace Go.Proofs.YtilinnmancfjgaaGreatDoor
open Go.Sx
set_option linter.unusedSimpArgs false
set_option linter.unusedVariables false
set_option maxHeartbeats 8000000
set_option maxRecDepth 100000

def kA4 : ByteArray := ⟨#[97, 52]⟩
def kA5 : ByteArray := ⟨#[97, 53]⟩
def kLt : ByteArray := ⟨#[108, 101, 116, 116, 101, 114]⟩
def pps : V := .mp [.string kA4, .string kA5, .string kLt] [.agg [vi 793700, vi 1122519], .agg [vi 559370, vi 793700], .agg [vi 816000, vi 1056000]]
theorem papers_ok : PCall Tryz.prog 18 [] pps := by
  refine PCall.of (Orc.nil _) c18_ok (by simp [c18]) fun w0 own0 => ?_
  simp only [c18, pps, kA4, kA5, kLt, on_gcall, off_gcall, flat_gcall, go_sem, reduceCtorEq, reduceIte, Nat.reduceEqDiff, Nat.reduceAdd, Nat.reduceSub, Nat.reduceMul, Nat.reduceLT, Nat.reduceLeDiff, Nat.reduceBEq, Int.reduceEq, Int.reduceLT, Int.reduceLE, Int.reduceAdd, Int.reduceSub, Int.reduceNeg, Int.reduceToNat]
  rfl
def sumPps : Sum Tryz.prog := ⟨18, fun args => args = [], fun args => pps, fun args h => by
  have := papers_ok; rwa [← h] at this, false⟩
theorem sumPps_f : sumPps.f = 18 := rfl
theorem sumPps_D (args : List V) : sumPps.D args = (args = []) := rfl
theorem sumPps_flat : sumPps.flat = false := rfl
theorem sumPps_r (args : List V) : sumPps.r args = pps := rfl
attribute [go_sem] sumPps_f sumPps_D sumPps_flat sumPps_r
def minL : Int → List Int → Int
  | m, [] => m
  | m, x :: r => minL (min m x) r
theorem minS_ok (x : Int) (l : List Int) (hl : (x :: l).length ≤ 1000000) : PCall Tryz.prog 14 [ints (x :: l)] (vi (minL x l)) := by
  refine PCall.of (Orc.nil _) c14_ok (by simp [c14]) fun w0 own0 => ?_
  generalize hR : minL x l = R
  have e0 := eq_false (show ¬ (((x :: l).length : Nat) : Int) < 1 by simp <;> omega)
  have e1 := eq_true (show (0 : Int) < (((x :: l).length : Nat) : Int) by simp <;> omega)
  have hg : ((x :: l).map fun n => [vi n]).getD 0 [vi 0] = [vi x] := rfl
  generalize hL : (x :: l) = L at *
  simp only [c14, ints, e0, e1, hg, on_gcall, off_gcall, flat_gcall, go_sem, reduceCtorEq, reduceIte, Nat.reduceEqDiff, Nat.reduceAdd, Nat.reduceSub, Nat.reduceMul, Nat.reduceLT, Nat.reduceLeDiff, Nat.reduceBEq, Int.reduceEq, Int.reduceLT, Int.reduceLE, Int.reduceAdd, Int.reduceSub, Int.reduceNeg, Int.reduceToNat]
  refine SemC.lp (α := Nat × Int) (fun a => [(0, .slc 1 (L.map fun n => [vi n])), (3, vi a.2), (4, vi a.1)]) (fun _ => ⟨[], 0⟩)
    (fun a => 1 ≤ a.1 ∧ a.1 ≤ L.length ∧ minL a.2 (L.drop a.1) = R) (fun a => L.length - a.1) (1, x) ⟨Nat.le_refl _, by rw [← hL]; simp, by rw [← hL]; exact hR⟩ (St.cut ?_ ?_ ?_) fun a ha => ?_
  · simp [Agrees, upd_at, initE_at]
  · simp
  · rfl
  obtain ⟨k, m⟩ := a
  obtain ⟨h1, h2, h3⟩ := ha
  simp only at h1 h2 h3
  by_cases he : k = L.length
  · subst he
    rw [List.drop_length] at h3
    simp only [minL] at h3
    simp only [Int.lt_irrefl, h3, on_gcall, off_gcall, flat_gcall, go_sem, reduceCtorEq, reduceIte, Nat.reduceEqDiff, Nat.reduceAdd, Nat.reduceSub, Nat.reduceMul, Nat.reduceLT, Nat.reduceLeDiff, Nat.reduceBEq, Int.reduceEq, Int.reduceLT, Int.reduceLE, Int.reduceAdd, Int.reduceSub, Int.reduceNeg, Int.reduceToNat]
  · have f1 : (k : Int) < (L.length : Int) := by omega
    have f0 : (0 : Int) ≤ (k : Int) := by omega
    have hgk := getD_ints L k
    rw [List.drop_eq_getElem_cons (by omega)] at h3
    simp only [minL] at h3
    have hx : L[k] = L.getD k 0 := by rw [List.getD_eq_getElem?_getD, List.getElem?_eq_getElem (by omega)]; rfl
    rw [hx] at h3
    simp only [f0, f1, hgk, on_gcall, off_gcall, flat_gcall, go_sem, reduceCtorEq, reduceIte, Nat.reduceEqDiff, Nat.reduceAdd, Nat.reduceSub, Nat.reduceMul, Nat.reduceLT, Nat.reduceLeDiff, Nat.reduceBEq, Int.reduceEq, Int.reduceLT, Int.reduceLE, Int.reduceAdd, Int.reduceSub, Int.reduceNeg, Int.reduceToNat]
    exact ⟨by omega, (k + 1, min m (L.getD k 0)), ⟨by dsimp only <;> omega, by dsimp only <;> omega, h3⟩, by dsimp only <;> omega, by dsimp only <;> omega, rfl⟩
structure BrS where
  k : Nat
  ver : Nat
  clk : Nat
theorem bareR_ok (l : List Tok) (hl : l.length ≤ 1000000) : PCall Tryz.prog 15 [toks l] (toks (kpT l)) := by
  refine PCall.of (Orc.nil _) c15_ok (by simp [c15]) fun w0 own0 => ?_
  simp only [c15, toks, on_gcall, off_gcall, flat_gcall, go_sem, reduceCtorEq, reduceIte, Nat.reduceEqDiff, Nat.reduceAdd, Nat.reduceSub, Nat.reduceMul, Nat.reduceLT, Nat.reduceLeDiff, Nat.reduceBEq, Int.reduceEq, Int.reduceLT, Int.reduceLE, Int.reduceAdd, Int.reduceSub, Int.reduceNeg, Int.reduceToNat]
  refine SemC.lp (α := BrS) (fun a => [(0, .slc 3 (l.map Tok.enc)), (3, .ref 0 a.ver 0 (kpT (l.take a.k)).length), (4, vi a.k)])
    (fun a => ⟨[⟨a.ver, 3, (kpT (l.take a.k)).map Tok.enc, false, [vi 0, vs ⟨#[]⟩, vi 0]⟩], a.clk⟩)
    (fun a => a.k ≤ l.length) (fun a => l.length - a.k) ⟨0, 0, 1⟩ (Nat.zero_le _) (St.nil 3 3 [vi 0, vs ⟨#[]⟩, vi 0] (by simp [upd_at]) (St.cut ?_ ?_ ?_)) fun a ha => ?_
  · simp [Agrees, upd_at, initE_at, kpT]
  · simp [Heap.alloc, kpT]
  · rfl
  obtain ⟨k, ver, clk⟩ := a
  simp only at ha
  by_cases he : k = l.length
  · subst he
    rw [List.take_length]
    simp only [Int.lt_irrefl, List.take_length, Nat.le_refl, mapO_toks11, on_gcall, off_gcall, flat_gcall, go_sem, reduceCtorEq, reduceIte, Nat.reduceEqDiff, Nat.reduceAdd, Nat.reduceSub, Nat.reduceMul, Nat.reduceLT, Nat.reduceLeDiff, Nat.reduceBEq, Int.reduceEq, Int.reduceLT, Int.reduceLE, Int.reduceAdd, Int.reduceSub, Int.reduceNeg, Int.reduceToNat]
  · have f1 : (k : Int) < (l.length : Int) := by omega
    have f0 : (0 : Int) ≤ (k : Int) := by omega
    have hg := getD_tokC l k
    have hk := kpT_take l k (by omega)
    have hle := kpT_len (l.take k)
    have hl2 : (l.take k).length ≤ k := by simp; omega
    generalize l.getD k .zero = t at *
    by_cases ht : t.kind = 1
    · have hs : spB t = true := by unfold spB; simpa using ht
      rw [hs, if_pos rfl] at hk
      have ht := eq_true ht
      simp only [f0, f1, hg, ht, Tok.enc, on_gcall, off_gcall, flat_gcall, go_sem, reduceCtorEq, reduceIte, Nat.reduceEqDiff, Nat.reduceAdd, Nat.reduceSub, Nat.reduceMul, Nat.reduceLT, Nat.reduceLeDiff, Nat.reduceBEq, Int.reduceEq, Int.reduceLT, Int.reduceLE, Int.reduceAdd, Int.reduceSub, Int.reduceNeg, Int.reduceToNat]
      exact ⟨by omega, ⟨k + 1, ver, clk⟩, by dsimp only; omega, by dsimp only; omega, ⟨⟨rfl, by dsimp only; rw [hk]⟩, by dsimp only; omega⟩, ⟨rfl, by dsimp only; rw [hk]⟩, rfl⟩
    · have hs : ¬ spB t = true := by unfold spB; simpa using ht
      rw [if_neg hs] at hk
      have ht := eq_false ht
      simp only [f0, f1, hg, ht, Tok.enc, on_gcall, off_gcall, flat_gcall, go_sem, reduceCtorEq, reduceIte, Nat.reduceEqDiff, Nat.reduceAdd, Nat.reduceSub, Nat.reduceMul, Nat.reduceLT, Nat.reduceLeDiff, Nat.reduceBEq, Int.reduceEq, Int.reduceLT, Int.reduceLE, Int.reduceAdd, Int.reduceSub, Int.reduceNeg, Int.reduceToNat]
      exact ⟨⟨Nat.le_refl _, by omega, by omega⟩, by omega, ⟨k + 1, clk + 1, clk + 1 + 1⟩, by dsimp only; omega, by dsimp only; omega, ⟨⟨rfl, by dsimp only; rw [hk]; simp⟩, by dsimp only; omega⟩, ⟨rfl, by dsimp only; rw [hk, List.take_length]; simp [Tok.enc]⟩, rfl⟩
def sumBareR : Sum Tryz.prog := ⟨15, fun args => args = [toks (dToks (args.getD 0 .any))] ∧ ((dToks (args.getD 0 .any))).length ≤ 1000000, fun args => toks (kpT (dToks (args.getD 0 .any))), fun args h => by
  have := bareR_ok (dToks (args.getD 0 .any)) h.2; rwa [← h.1] at this, false⟩
theorem sumBareR_f : sumBareR.f = 15 := rfl
theorem sumBareR_D (args : List V) : sumBareR.D args = (args = [toks (dToks (args.getD 0 .any))] ∧ ((dToks (args.getD 0 .any))).length ≤ 1000000) := rfl
theorem sumBareR_flat : sumBareR.flat = false := rfl
theorem sumBareR_r (args : List V) : sumBareR.r args = toks (kpT (dToks (args.getD 0 .any))) := rfl
attribute [go_sem] sumBareR_f sumBareR_D sumBareR_flat sumBareR_r
end Go.Proofs.YtilinnmancfjgaaGreatDoor
