/- Children in flow: what is taken out. -/
import Derived.Test.YtdcdhnohbadenaaN13f
namespace Go.Proofs.Ytdcdhnohbadenaa
open Go.Sx
set_option linter.unusedSimpArgs false
set_option maxHeartbeats 4000000
set_option maxRecDepth 20000

def kp (d : Doc) (xs : List Int) : List Int := xs.filter fun x => !runB d x.toNat
theorem kp_len (d : Doc) (xs : List Int) : (kp d xs).length ≤ xs.length := List.length_filter_le _ _
theorem kp_take (d : Doc) (xs : List Int) (j : Nat) (hj : j < xs.length) : kp d (xs.take (j + 1)) = if runB d (xs.getD j 0).toNat = true then kp d (xs.take j) else kp d (xs.take j) ++ [xs.getD j 0] := by
  rw [take_snoc xs j hj]
  unfold kp
  rw [List.filter_append]
  cases h : runB d (xs.getD j 0).toNat
  · rw [if_neg (by simp)]; congr 1; rw [List.filter_cons_of_pos (by rw [h]; rfl)]; rfl
  · rw [if_pos rfl, List.filter_cons_of_neg (by rw [h]; simp)]; simp
theorem res10_slc (S : Nat → Bool) (h : Heap) (sz : Nat) (es : List (List V)) : res S h 10 (.slc sz es) = some (.slc sz es) := rfl
theorem kp_all (d : Doc) : ∀ (xs : List Int), (∀ x ∈ xs, runB d x.toNat = false) → kp d xs = xs := fun xs h => by
  unfold kp; rw [List.filter_eq_self]; exact fun x hx => by rw [h x hx]; rfl
theorem ixF_spec (d : Doc) (xs : List Int) : (ixF d xs = -1 → kp d xs = xs) ∧ (¬ ixF d xs = -1 → ∃ i : Nat, ixF d xs = i ∧ i < xs.length ∧ runB d (xs.getD i 0).toNat = true ∧ kp d (xs.take i) = xs.take i) := by
  unfold ixF
  rcases fst_spec (fun i => runB d (xs.getD i 0).toNat) (xs.length - 0) 0 with ⟨h1, h2⟩ | ⟨m, h1, h2, h3, h4, h5⟩
  · refine ⟨fun _ => kp_all d xs fun x hx => ?_, fun h => absurd h1 h⟩
    obtain ⟨i, hi, rfl⟩ := List.getElem_of_mem hx
    have := h2 i (by omega) (by omega)
    rwa [List.getD_eq_getElem?_getD, List.getElem?_eq_getElem hi] at this
  · refine ⟨fun h => by omega, fun _ => ⟨m, h1, by omega, h4, kp_all d _ fun x hx => ?_⟩⟩
    obtain ⟨i, hi, rfl⟩ := List.getElem_of_mem hx
    have hi' : i < m := by rw [List.length_take] at hi; omega
    have := h5 i (by omega) hi'
    rw [List.getD_eq_getElem?_getD, List.getElem?_eq_getElem (by omega)] at this
    simpa using this
structure DeS where
  es : List Int
  i : Nat
  j : Nat
theorem del_call (d : Doc) (xs : List Int) (ver clk : Nat) (hD : ixD d xs) :
    CallOK Try.prog 72 [.ref 1 ver 0 xs.length, .fn 74 [.ptr 0 0 0 0]] ⟨[⟨0, 5, [d.enc], false, []⟩, ⟨ver, 1, xs.map fun n => [vi n], false, [vi 0]⟩], clk⟩
      (.ref 1 ver 0 (kp d xs).length) ⟨[⟨0, 5, [d.enc], false, []⟩, ⟨ver, 1, (kp d xs).map fun n => [vi n], false, [vi 0]⟩], clk⟩ := by
  refine CallOK.walk (Orc.cons sumIxF (Orc.cons sumK1 (Orc.nil _))) c72_ok (by simp [c72]) fun w0 own0 => ?_
  have hl := hD.1
  simp only [c72, Doc.enc, dDoc_mkp, Doc.eta, hD, List.take_length, Nat.le_refl, res10_slc, sumIxF_f, sumIxF_D, sumIxF_flat, sumIxF_r, sumK1_f, sumK1_D, sumK1_flat, sumK1_r, go_sem, wpR_gcall, reduceCtorEq, reduceIte, Nat.reduceEqDiff, Nat.reduceAdd, Nat.reduceSub, Nat.reduceMul, Nat.reduceLT, Nat.reduceLeDiff, Nat.reduceBEq, Int.reduceEq, Int.reduceLT, Int.reduceLE, Int.reduceAdd, Int.reduceSub, Int.reduceNeg, Int.reduceToNat]
  refine ⟨rfl, fun h => ?_, fun h => ?_⟩
  · have e := (ixF_spec d xs).1 h
    rw [e]; exact ⟨rfl, rfl⟩
  obtain ⟨i, hi, hil, hri, hk⟩ := (ixF_spec d xs).2 h
  rw [hi]
  refine ⟨by omega, ?_⟩
  refine SemC.lp (α := DeS) (fun a => [(0, .ref 1 ver 0 xs.length), (1, .fn 74 [.ptr 0 0 0 0]), (5, vi a.i), (6, vi a.j)])
    (fun a => ⟨[⟨0, 5, [d.enc], false, []⟩, ⟨ver, 1, a.es.map fun n => [vi n], false, [vi 0]⟩], clk⟩)
    (fun a => a.i < a.j ∧ a.j ≤ xs.length ∧ a.es.length = xs.length ∧ a.i = (kp d (xs.take a.j)).length ∧ a.es.take a.i = kp d (xs.take a.j) ∧ a.es.drop a.j = xs.drop a.j) (fun a => xs.length - a.j) ⟨xs, i, i + 1⟩ ?_
    (St.mk (by simp [Agrees, upd_at, initE_at, Doc.enc])) fun a ha => ?_
  · refine ⟨by dsimp only; omega, by dsimp only; omega, rfl, ?_, ?_, rfl⟩
    · rw [kp_take d xs i hil, if_pos hri, hk]; simp; omega
    · rw [kp_take d xs i hil, if_pos hri, hk]
  obtain ⟨es, i, j⟩ := a
  simp only at ha
  obtain ⟨h1, h2, h3, h4, h5, h6⟩ := ha
  by_cases hj : j = xs.length
  · subst hj
    rw [List.take_length] at h4 h5
    simp only [Doc.enc, Int.lt_irrefl, h3, h5, go_sem, wpR_gcall, reduceCtorEq, reduceIte, Nat.reduceEqDiff, Nat.reduceAdd, Nat.reduceSub, Nat.reduceMul, Nat.reduceLT, Nat.reduceLeDiff, Nat.reduceBEq, Int.reduceEq, Int.reduceLT, Int.reduceLE, Int.reduceAdd, Int.reduceSub, Int.reduceNeg, Int.reduceToNat]
    exact ⟨by omega, by omega, by omega, by omega⟩
  · have e1 : (j : Int) < (xs.length : Int) := by omega
    have e2 : es.getD j 0 = xs.getD j 0 := by
      rw [List.getD_eq_getElem?_getD, List.getD_eq_getElem?_getD]
      have : es[j]? = xs[j]? := by
        have := congrArg (fun l => l[0]?) h6
        simpa using this
      rw [this]
    have hkt := kp_take d xs j (by omega)
    have hm : 0 ≤ xs.getD j 0 ∧ xs.getD j 0 < d.run.length := by
      rw [List.getD_eq_getElem?_getD, List.getElem?_eq_getElem (by omega)]
      exact hD.2 _ (List.getElem_mem _)
    simp only [Doc.enc, dDoc_mkp, Doc.eta, e1, h3, e2, hm, res10_slc, sumIxF_f, sumIxF_D, sumIxF_flat, sumIxF_r, sumK1_f, sumK1_D, sumK1_flat, sumK1_r, go_sem, wpR_gcall, reduceCtorEq, reduceIte, Nat.reduceEqDiff, Nat.reduceAdd, Nat.reduceSub, Nat.reduceMul, Nat.reduceLT, Nat.reduceLeDiff, Nat.reduceBEq, Int.reduceEq, Int.reduceLT, Int.reduceLE, Int.reduceAdd, Int.reduceSub, Int.reduceNeg, Int.reduceToNat]
    have h7 : es.drop (j + 1) = xs.drop (j + 1) := by
      have := congrArg (fun l => l.drop 1) h6
      simpa [List.drop_drop] using this
    refine ⟨by omega, by omega, fun hr => ⟨by omega, by omega, by omega, by omega, ⟨es.set i (xs.getD j 0), i + 1, j + 1⟩, ⟨by dsimp only; omega, by dsimp only; omega, by simp [h3], ?_, ?_, ?_⟩, by dsimp only; omega, ⟨by dsimp only; omega, by dsimp only; omega⟩, ?_⟩, fun hr => ⟨by omega, ⟨es, i, j + 1⟩, ⟨by dsimp only; omega, by dsimp only; omega, h3, ?_, ?_, h7⟩, by dsimp only; omega, ⟨rfl, by dsimp only; omega⟩, rfl⟩⟩
    · dsimp only; rw [hkt, if_neg (by rw [hr]; simp), h4]; simp
    · dsimp only
      rw [hkt, if_neg (by rw [hr]; simp), take_snoc _ i (by simp; omega), List.take_set_of_le (by omega), h5]
      congr 2
      rw [List.getD_eq_getElem?_getD, List.getElem?_set_self (by omega)]; rfl
    · dsimp only; rw [List.drop_set_of_lt (by omega), h7]
    · dsimp only; rw [List.map_set]
    · dsimp only; rw [hkt, if_pos hr, h4]
    · dsimp only; rw [hkt, if_pos hr, h5]
end Go.Proofs.Ytdcdhnohbadenaa
