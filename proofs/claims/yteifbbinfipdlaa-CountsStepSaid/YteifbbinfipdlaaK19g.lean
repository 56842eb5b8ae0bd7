/- Layer 19: counters that do not count are taken out of the run's own memory. -/
import Derived.Test.YteifbbinfipdlaaK19f
namespace Go.Proofs.Yteifbbinfipdlaa
open Go.Sx
set_option linter.unusedSimpArgs false
set_option maxHeartbeats 8000000
set_option maxRecDepth 20000

def hq (d : Doc) (pv : List V) (k : Int) (l : List Cnt) (ver : Nat) (ob : V) (clk : Nat) : Heap :=
  ⟨[⟨0, 5, [d.enc], false, []⟩, ⟨1, 8, [pv], false, []⟩, ⟨2, 1, [[vi k]], false, []⟩, ⟨ver, 3, l.map Cnt.enc, false, [vs ⟨#[]⟩, vi 0, vi 0]⟩, ⟨4, 1, [[ob]], false, []⟩], clk⟩
theorem keepC_len (d : Doc) (k : Int) (l : List Cnt) : (keepC d k l).length ≤ l.length := List.length_filter_le _ _
theorem keepC_take (d : Doc) (k : Int) (l : List Cnt) (j : Nat) (hj : j < l.length) : keepC d k (l.take (j + 1)) = if seenB d (l.getD j .zero) k = true then keepC d k (l.take j) ++ [l.getD j .zero] else keepC d k (l.take j) := by
  rw [take_cnt l j hj]
  unfold keepC
  rw [List.filter_append]
  cases h : seenB d (l.getD j .zero) k
  · rw [if_neg (by simp), List.filter_cons_of_neg (by rw [h]; simp)]; simp
  · rw [if_pos rfl, List.filter_cons_of_pos (by rw [h])]; rfl
theorem keepC_all (d : Doc) (k : Int) (l : List Cnt) (h : ∀ c ∈ l, seenB d c k = true) : keepC d k l = l := by
  unfold keepC; rw [List.filter_eq_self]; exact h
theorem ixC_spec (d : Doc) (k : Int) (l : List Cnt) : (ixC d k l = -1 → keepC d k l = l) ∧ (¬ ixC d k l = -1 → ∃ i : Nat, ixC d k l = i ∧ i < l.length ∧ seenB d (l.getD i .zero) k = false ∧ keepC d k (l.take i) = l.take i) := by
  unfold ixC
  rcases fst_spec (fun i => !seenB d (l.getD i .zero) k) (l.length - 0) 0 with ⟨h1, h2⟩ | ⟨m, h1, h2, h3, h4, h5⟩
  · refine ⟨fun _ => keepC_all d k l fun x hx => ?_, fun h => absurd h1 h⟩
    obtain ⟨i, hi, rfl⟩ := List.getElem_of_mem hx
    have := h2 i (by omega) (by omega)
    rw [List.getD_eq_getElem?_getD, List.getElem?_eq_getElem hi] at this
    simpa using this
  · refine ⟨fun h => by omega, fun _ => ⟨m, h1, by omega, by simpa using h4, keepC_all d k _ fun x hx => ?_⟩⟩
    obtain ⟨i, hi, rfl⟩ := List.getElem_of_mem hx
    have hi' : i < m := by rw [List.length_take] at hi; omega
    have := h5 i (by omega) hi'
    rw [List.getD_eq_getElem?_getD, List.getElem?_eq_getElem (by omega)] at this
    simpa using this
def ckD (d : Doc) (k : Int) (l : List Cnt) : Nat := if ixC d k l = -1 then 0 else l.length - ((ixC d k l).toNat + 1)
structure DeC where
  es : List Cnt
  i : Nat
  j : Nat
theorem delC_call (d : Doc) (pv : List V) (k : Int) (l : List Cnt) (ver : Nat) (ob : V) (clk : Nat) (hd : d.l.length ≤ 1000) (hl : l.length ≤ 1000000) :
    CallOK Try.prog 26 [.ref 3 ver 0 l.length, .fn 27 [.ptr 0 0 0 0, .ptr 2 2 0 0]] (hq d pv k l ver ob clk)
      (.ref 3 ver 0 (keepC d k l).length) (hq d pv k (keepC d k l) ver ob (clk + ckD d k l)) := by
  refine CallOK.walk (Orc.cons sumIxC (Orc.cons sumSeen1 (Orc.nil _))) c26_ok (by simp [c26]) fun w0 own0 => ?_
  have hD := ixCD_at d k l hd hl
  have hV := ixCV_at d k l
  simp only [Doc.enc] at hD hV
  by_cases h : ixC d k l = -1
  · have e := (ixC_spec d k l).1 h
    have hck : ckD d k l = 0 := by unfold ckD; rw [if_pos h]
    rw [e, hck]
    have h := eq_true h
    simp only [c26, hq, Doc.enc, hD, hV, h, List.take_length, Nat.le_refl, res10_slcC, mapO_cnts11, go_sem, wpR_gcall, reduceCtorEq, reduceIte, Nat.reduceEqDiff, Nat.reduceAdd, Nat.reduceSub, Nat.reduceMul, Nat.reduceLT, Nat.reduceLeDiff, Nat.reduceBEq, Int.reduceEq, Int.reduceLT, Int.reduceLE, Int.reduceAdd, Int.reduceSub, Int.reduceNeg, Int.reduceToNat]
    rw [Nat.add_zero]
  obtain ⟨i0, hi, hil, hri, hk⟩ := (ixC_spec d k l).2 h
  have hck : ckD d k l = l.length - (i0 + 1) := by unfold ckD; rw [if_neg h, hi, Int.toNat_natCast]
  rw [hck]
  rw [hi] at hV
  have hne := eq_false (show ¬ (i0 : Int) = -1 by omega)
  simp only [c26, hq, Doc.enc, hD, hV, hne, List.take_length, Nat.le_refl, res10_slcC, mapO_cnts11, go_sem, wpR_gcall, reduceCtorEq, reduceIte, Nat.reduceEqDiff, Nat.reduceAdd, Nat.reduceSub, Nat.reduceMul, Nat.reduceLT, Nat.reduceLeDiff, Nat.reduceBEq, Int.reduceEq, Int.reduceLT, Int.reduceLE, Int.reduceAdd, Int.reduceSub, Int.reduceNeg, Int.reduceToNat]
  refine ⟨by omega, ?_⟩
  refine SemC.lp (α := DeC) (fun a => [(0, .ref 3 ver 0 l.length), (1, .fn 27 [.ptr 0 0 0 0, .ptr 2 2 0 0]), (5, vi a.i), (6, vi a.j)])
    (fun a => hq d pv k a.es ver ob (clk + (a.j - (i0 + 1))))
    (fun a => i0 < a.j ∧ a.i < a.j ∧ a.j ≤ l.length ∧ a.es.length = l.length ∧ a.i = (keepC d k (l.take a.j)).length ∧ a.es.take a.i = keepC d k (l.take a.j) ∧ a.es.drop a.j = l.drop a.j) (fun a => l.length - a.j) ⟨l, i0, i0 + 1⟩ ?_
    (St.cut ?_ ?_ ?_) fun a ha => ?_
  · refine ⟨by dsimp only; omega, by dsimp only; omega, by dsimp only; omega, rfl, ?_, ?_, rfl⟩
    · rw [keepC_take d k l i0 hil, if_neg (by rw [hri]; simp), hk]; simp; omega
    · rw [keepC_take d k l i0 hil, if_neg (by rw [hri]; simp), hk]
  · simp [Agrees, upd_at, initE_at]
  · simp [hq, Doc.enc]
  · simp [hq]
  obtain ⟨es, i, j⟩ := a
  simp only at ha
  obtain ⟨h0, h1, h2, h3, h4, h5, h6⟩ := ha
  by_cases hj : j = l.length
  · subst hj
    rw [List.take_length] at h4 h5
    simp only [hq, Doc.enc, Int.lt_irrefl, h3, h5, go_sem, wpR_gcall, reduceCtorEq, reduceIte, Nat.reduceEqDiff, Nat.reduceAdd, Nat.reduceSub, Nat.reduceMul, Nat.reduceLT, Nat.reduceLeDiff, Nat.reduceBEq, Int.reduceEq, Int.reduceLT, Int.reduceLE, Int.reduceAdd, Int.reduceSub, Int.reduceNeg, Int.reduceToNat]
    exact ⟨⟨by omega, by omega, by omega⟩, ⟨by omega, by omega⟩, ⟨by omega, by omega⟩, by omega⟩
  · have e1 : (j : Int) < (l.length : Int) := by omega
    have e0 : (0 : Int) ≤ (j : Int) := by omega
    have e0i : (0 : Int) ≤ (i : Int) := by omega
    have e2 : es.getD j .zero = l.getD j .zero := by
      rw [List.getD_eq_getElem?_getD, List.getD_eq_getElem?_getD]
      have : es[j]? = l[j]? := by
        have := congrArg (fun l => l[0]?) h6
        simpa using this
      rw [this]
    have hkt := keepC_take d k l j (by omega)
    have hg := getD_cnts es j
    have h7 : es.drop (j + 1) = l.drop (j + 1) := by
      have := congrArg (fun l => l.drop 1) h6
      simpa [List.drop_drop] using this
    rw [e2] at hg
    generalize l.getD j .zero = c at *
    cases hs : seenB d c k with
    | true =>
      rw [hs] at hkt
      simp only [hq, Doc.enc, Cnt.enc, dDoc_mkp19, Doc.eta, dCnt_mk, dCnt_eta, e0, e0i, e1, hg, hs, hd, h3, res10_slcC, mapO_cnts11, go_sem, wpR_gcall, reduceCtorEq, reduceIte, Nat.reduceEqDiff, Nat.reduceAdd, Nat.reduceSub, Nat.reduceMul, Nat.reduceLT, Nat.reduceLeDiff, Nat.reduceBEq, Int.reduceEq, Int.reduceLT, Int.reduceLE, Int.reduceAdd, Int.reduceSub, Int.reduceNeg, Int.reduceToNat]
      have hgi : List.drop 3 ((es.map Cnt.enc).getD i [vs ⟨#[]⟩, vi 0, vi 0]) = [] := by rw [getD_cnts]; rfl
      refine ⟨by omega, by omega, by omega, by omega, by omega, ⟨es.set i c, i + 1, j + 1⟩, ⟨by dsimp only; omega, by dsimp only; omega, by dsimp only; omega, by simp [h3], ?_, ?_, ?_⟩, by dsimp only; omega, ⟨by dsimp only; omega, by dsimp only; omega⟩, ?_, by dsimp only; omega⟩
      · dsimp only; rw [hkt, if_pos rfl, List.length_append, ← h4]; rfl
      · dsimp only
        rw [hkt, if_pos rfl, take_cnt _ i (by simp; omega), List.take_set_of_le (by omega), h5]
        congr 2
        rw [List.getD_eq_getElem?_getD, List.getElem?_set_self (by omega)]; rfl
      · dsimp only; rw [List.drop_set_of_lt (by omega), h7]
      · dsimp only; rw [hgi, List.map_set]; rfl
    | false =>
      rw [hs] at hkt
      simp only [hq, Doc.enc, Cnt.enc, dDoc_mkp19, Doc.eta, dCnt_mk, dCnt_eta, e0, e0i, e1, hg, hs, hd, h3, res10_slcC, mapO_cnts11, go_sem, wpR_gcall, reduceCtorEq, reduceIte, Nat.reduceEqDiff, Nat.reduceAdd, Nat.reduceSub, Nat.reduceMul, Nat.reduceLT, Nat.reduceLeDiff, Nat.reduceBEq, Int.reduceEq, Int.reduceLT, Int.reduceLE, Int.reduceAdd, Int.reduceSub, Int.reduceNeg, Int.reduceToNat]
      exact ⟨by omega, by omega, ⟨es, i, j + 1⟩, ⟨by dsimp only; omega, by dsimp only; omega, by dsimp only; omega, h3, by dsimp only; rw [hkt, if_neg (by simp)]; exact h4, by dsimp only; rw [hkt, if_neg (by simp)]; exact h5, h7⟩, by dsimp only; omega, ⟨rfl, by dsimp only; omega⟩, rfl, by dsimp only; omega⟩
end Go.Proofs.Yteifbbinfipdlaa
