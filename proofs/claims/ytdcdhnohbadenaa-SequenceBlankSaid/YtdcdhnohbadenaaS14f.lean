/- Segments: few. -/
import Derived.Test.YtdcdhnohbadenaaS14e
import Derived.Test.YtdcdhnohbadenaaS14g
namespace Go.Proofs.Ytdcdhnohbadenaa
open Go.Sx
set_option linter.unusedSimpArgs false
set_option maxHeartbeats 4000000
set_option maxRecDepth 20000

theorem mapO_intss11 (S : Nat → Bool) (h : Heap) (l : List (List Int)) : mapO (mapO (res S h 11)) (l.map fun s => [V.slc 1 (s.map fun n => [vi n])]) = some (l.map fun s => [V.slc 1 (s.map fun n => [vi n])]) := by
  refine mapO_id fun x hx => ?_
  obtain ⟨s, _, rfl⟩ := List.mem_map.1 hx
  rfl
theorem getD_end {α : Type} (l : List α) (x d : α) : (l ++ [x]).getD l.length d = x := by simp [List.getD_eq_getElem?_getD]
theorem set_end {α : Type} (l : List α) (x y : α) : (l ++ [x]).set l.length y = l ++ [y] := by
  rw [List.set_append_right _ _ (Nat.le_refl _)]; simp
theorem mapO_app {α β : Type} {f : α → Option β} : ∀ {a b : List α} {a' b' : List β}, mapO f a = some a' → mapO f b = some b' → mapO f (a ++ b) = some (a' ++ b')
  | [], b, a', b', h1, h2 => by simp [mapO] at h1; subst h1; simpa using h2
  | x :: a, b, a', b', h1, h2 => by
    simp only [mapO] at h1
    split at h1
    · rename_i y ys hy hys
      obtain rfl := Option.some.inj h1
      simp only [List.cons_append, mapO, hy, mapO_app hys h2]
    · cases h1
def few14 (d : Doc) (sc : List (List Int)) : Bool := decide ((∀ i, i < sc.length → i ≤ 70 → (sc.getD i []).length ≤ 70) ∧ few12 d = true ∧ sc.length ≤ 70)
theorem few14_ok (d : Doc) (sc : List (List Int)) : PCall Try.prog 7 [.agg d.enc, intss sc] (vb (few14 d sc)) := by
  refine PCall.of (Orc.cons sumFew12 (Orc.nil _)) c7_ok (by simp [c7]) fun w0 own0 => ?_
  simp only [c7, Doc.enc, intss, go_sem, wpR_gcall, reduceCtorEq, reduceIte, Nat.reduceEqDiff, Nat.reduceAdd, Nat.reduceSub, Nat.reduceMul, Nat.reduceLT, Nat.reduceLeDiff, Nat.reduceBEq, Int.reduceEq, Int.reduceLT, Int.reduceLE, Int.reduceAdd, Int.reduceSub, Int.reduceNeg, Int.reduceToNat]
  refine SemC.lp (α := Nat) (fun n => [(1, .slc 1 (sc.map fun s => [.slc 1 (s.map fun n => [vi n])])), (2, .ptr 0 0 0 0), (5, vi n)]) (fun _ => ⟨[⟨0, 5, [d.enc], false, []⟩], 1⟩)
    (fun n => n ≤ sc.length ∧ n ≤ 71 ∧ ∀ i, i < n → (sc.getD i []).length ≤ 70) (fun n => sc.length - n) 0 ⟨Nat.zero_le _, by omega, fun i h => by omega⟩ (St.mk (by simp [Agrees, upd_at, initE_at, Doc.enc])) fun n hn => ?_
  obtain ⟨h1, h2, h3⟩ := hn
  by_cases he : n < sc.length ∧ n ≤ 70
  · have e1 : (n : Int) < (sc.length : Int) := by omega
    have e2 : (n : Int) ≤ 70 := by omega
    have e0 : (0 : Int) ≤ (n : Int) := by omega
    have hg := getD_intss sc n [vnil] (by omega)
    by_cases hl : (sc.getD n []).length ≤ 70
    · have e3 : ¬ (70 : Int) < ((sc.getD n []).length : Int) := by omega
      simp only [Doc.enc, e0, e1, e2, hg, e3, go_sem, wpR_gcall, reduceCtorEq, reduceIte, Nat.reduceEqDiff, Nat.reduceAdd, Nat.reduceSub, Nat.reduceMul, Nat.reduceLT, Nat.reduceLeDiff, Nat.reduceBEq, Int.reduceEq, Int.reduceLT, Int.reduceLE, Int.reduceAdd, Int.reduceSub, Int.reduceNeg, Int.reduceToNat]
      refine ⟨by omega, n + 1, ⟨by omega, by omega, fun i hi => ?_⟩, by omega, by omega⟩
      by_cases h : i = n
      · rw [h]; exact hl
      · exact h3 i (by omega)
    · have e3 : (70 : Int) < ((sc.getD n []).length : Int) := by omega
      have e : few14 d sc = false := by
        unfold few14; rw [decide_eq_false_iff_not]; intro h; exact hl (h.1 n (by omega) (by omega))
      simp only [Doc.enc, e0, e1, e2, hg, e3, e, go_sem, wpR_gcall, reduceCtorEq, reduceIte, Nat.reduceEqDiff, Nat.reduceAdd, Nat.reduceSub, Nat.reduceMul, Nat.reduceLT, Nat.reduceLeDiff, Nat.reduceBEq, Int.reduceEq, Int.reduceLT, Int.reduceLE, Int.reduceAdd, Int.reduceSub, Int.reduceNeg, Int.reduceToNat]
  · have hall : (∀ i, i < sc.length → i ≤ 70 → (sc.getD i []).length ≤ 70) := fun i hi h70 => h3 i (by omega)
    have e : few14 d sc = (few12 d && decide (sc.length ≤ 70)) := by
      unfold few14; rw [Bool.eq_iff_iff, decide_eq_true_eq, Bool.and_eq_true, decide_eq_true_eq]
      exact ⟨fun h => h.2, fun h => ⟨hall, h⟩⟩
    rw [e]
    by_cases e1 : (n : Int) < (sc.length : Int)
    · have e2 : ¬ (n : Int) ≤ 70 := by omega
      cases hf : few12 d with
      | true =>
        simp only [Doc.enc, dDoc_mk, Doc.eta, e1, e2, hf, sumFew12_f, sumFew12_D, sumFew12_flat, sumFew12_r, go_sem, wpR_gcall, reduceCtorEq, reduceIte, Nat.reduceEqDiff, Nat.reduceAdd, Nat.reduceSub, Nat.reduceMul, Nat.reduceLT, Nat.reduceLeDiff, Nat.reduceBEq, Int.reduceEq, Int.reduceLT, Int.reduceLE, Int.reduceAdd, Int.reduceSub, Int.reduceNeg, Int.reduceToNat]
        rw [decide_eq_decide]; omega
      | false => simp only [Doc.enc, dDoc_mk, Doc.eta, e1, e2, hf, sumFew12_f, sumFew12_D, sumFew12_flat, sumFew12_r, go_sem, wpR_gcall, reduceCtorEq, reduceIte, Nat.reduceEqDiff, Nat.reduceAdd, Nat.reduceSub, Nat.reduceMul, Nat.reduceLT, Nat.reduceLeDiff, Nat.reduceBEq, Int.reduceEq, Int.reduceLT, Int.reduceLE, Int.reduceAdd, Int.reduceSub, Int.reduceNeg, Int.reduceToNat]
    · cases hf : few12 d with
      | true =>
        simp only [Doc.enc, dDoc_mk, Doc.eta, e1, hf, sumFew12_f, sumFew12_D, sumFew12_flat, sumFew12_r, go_sem, wpR_gcall, reduceCtorEq, reduceIte, Nat.reduceEqDiff, Nat.reduceAdd, Nat.reduceSub, Nat.reduceMul, Nat.reduceLT, Nat.reduceLeDiff, Nat.reduceBEq, Int.reduceEq, Int.reduceLT, Int.reduceLE, Int.reduceAdd, Int.reduceSub, Int.reduceNeg, Int.reduceToNat]
        rw [decide_eq_decide]; omega
      | false => simp only [Doc.enc, dDoc_mk, Doc.eta, e1, hf, sumFew12_f, sumFew12_D, sumFew12_flat, sumFew12_r, go_sem, wpR_gcall, reduceCtorEq, reduceIte, Nat.reduceEqDiff, Nat.reduceAdd, Nat.reduceSub, Nat.reduceMul, Nat.reduceLT, Nat.reduceLeDiff, Nat.reduceBEq, Int.reduceEq, Int.reduceLT, Int.reduceLE, Int.reduceAdd, Int.reduceSub, Int.reduceNeg, Int.reduceToNat]
def sumFew14 : Sum Try.prog := ⟨7, fun args => args = [.agg (Doc.enc (dDoc (args.getD 0 .any))), intss (dIntss (args.getD 1 .any))], fun args => vb (few14 (dDoc (args.getD 0 .any)) (dIntss (args.getD 1 .any))), fun args h => by
  have := few14_ok (dDoc (args.getD 0 .any)) (dIntss (args.getD 1 .any)); rwa [← h] at this, true⟩
theorem sumFew14_f : sumFew14.f = 7 := rfl
theorem sumFew14_D (args : List V) : sumFew14.D args = (args = [.agg (Doc.enc (dDoc (args.getD 0 .any))), intss (dIntss (args.getD 1 .any))]) := rfl
theorem sumFew14_flat : sumFew14.flat = true := rfl
theorem sumFew14_r (args : List V) : sumFew14.r args = vb (few14 (dDoc (args.getD 0 .any)) (dIntss (args.getD 1 .any))) := rfl
theorem few14_ss {d : Doc} {sc : List (List Int)} (h : few14 d sc = true) : few12 d = true ∧ sc.length ≤ 70 ∧ ∀ t ∈ sc, t.length ≤ 70 := by
  unfold few14 at h; rw [decide_eq_true_eq] at h
  refine ⟨h.2.1, h.2.2, fun t ht => ?_⟩
  obtain ⟨i, hi, rfl⟩ := List.mem_iff_getElem.1 ht
  have := h.1 i hi (by omega)
  rwa [List.getD_eq_getElem?_getD, List.getElem?_eq_getElem hi] at this
theorem few14_okS {d : Doc} {sc : List (List Int)} (h : few14 d sc = true) : okS sc := ⟨by have := (few14_ss h).2.1; omega, fun t ht => by have := (few14_ss h).2.2 t ht; omega⟩
end Go.Proofs.Ytdcdhnohbadenaa
