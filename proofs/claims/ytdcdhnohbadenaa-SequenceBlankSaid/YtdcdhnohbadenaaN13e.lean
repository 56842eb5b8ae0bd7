/- Flows: siblings by the document; children with what holds of them. -/
import Derived.Test.YtdcdhnohbadenaaN13d
namespace Go.Proofs.Ytdcdhnohbadenaa
open Go.Sx
set_option linter.unusedSimpArgs false
set_option maxHeartbeats 4000000
set_option maxRecDepth 20000

def kD (d : Doc) (k : Int) : Prop := okL d ∧ 0 ≤ k ∧ k < d.l.length ∧ isN d k.toNat = true
def sumKidsR12 : Sum Try.prog := ⟨54, fun args => args = [.agg (Doc.enc (dDoc (args.getD 0 .any))), vi ((args.getD 1 .any).int)] ∧ kD (dDoc (args.getD 0 .any)) ((args.getD 1 .any).int), fun args => ints (kids (dDoc (args.getD 0 .any)) (((args.getD 1 .any).int)).toNat), fun args h => by
  have := (by have h1 := h.2; have h2 := kidsR12_ok (dDoc (args.getD 0 .any)) (((args.getD 1 .any).int)).toNat h1.1; rw [Int.toNat_of_nonneg h1.2.1, rk_kids h1.1.1 h1.2.2.2] at h2; exact h2 : PCall Try.prog 54 [.agg (Doc.enc (dDoc (args.getD 0 .any))), vi ((args.getD 1 .any).int)] (ints (kids (dDoc (args.getD 0 .any)) (((args.getD 1 .any).int)).toNat))); rwa [← h.1] at this, false⟩
theorem sumKidsR12_f : sumKidsR12.f = 54 := rfl
theorem sumKidsR12_D (args : List V) : sumKidsR12.D args = (args = [.agg (Doc.enc (dDoc (args.getD 0 .any))), vi ((args.getD 1 .any).int)] ∧ kD (dDoc (args.getD 0 .any)) ((args.getD 1 .any).int)) := rfl
theorem sumKidsR12_flat : sumKidsR12.flat = false := rfl
theorem sumKidsR12_r (args : List V) : sumKidsR12.r args = ints (kids (dDoc (args.getD 0 .any)) (((args.getD 1 .any).int)).toNat) := rfl
structure OlS where
  n : Nat
  o : Int
theorem oldR_ok (d : Doc) (k : Nat) (h : okL d) (hk : k < d.l.length) (hi : isN d k = true) : PCall Try.prog 27 [.agg d.enc, vi k] (vi (oldN d k)) := by
  refine PCall.of (Orc.cons sumIsR (Orc.nil _)) c27_ok (by simp [c27]) fun w0 own0 => ?_
  have hl := h.2
  simp only [c27, Doc.enc, go_sem, wpR_gcall, reduceCtorEq, reduceIte, Nat.reduceEqDiff, Nat.reduceAdd, Nat.reduceSub, Nat.reduceMul, Nat.reduceLT, Nat.reduceLeDiff, Nat.reduceBEq, Int.reduceEq, Int.reduceLT, Int.reduceLE, Int.reduceAdd, Int.reduceSub, Int.reduceNeg, Int.reduceToNat]
  refine SemC.lp (α := OlS) (fun a => [(1, vi k), (2, .ptr 0 0 0 0), (5, vi a.o), (6, vi a.n)]) (fun a => ⟨[⟨0, 5, [d.enc], false, []⟩], 1⟩)
    (fun a => a.n ≤ k ∧ a.o = lastSel (rkP d (up d k)) a.n ∧ (k = 0 → a.o = -1)) (fun a => d.l.length - a.n) ⟨0, -1⟩ ⟨by dsimp only; omega, rfl, fun _ => rfl⟩ (St.mk (by simp [Agrees, upd_at, initE_at, Doc.enc])) fun a ha => ?_
  obtain ⟨n, o⟩ := a
  simp only at ha
  obtain ⟨h1, h2, h3⟩ := ha
  by_cases hn : n = k
  · subst hn
    have e : o = oldN d n := by
      unfold oldN
      by_cases h0 : n = 0
      · rw [if_pos h0, h3 h0]
      · rw [if_neg h0, h2]
        exact lastSel_congr fun m hm => (kidP_in h.1 (isN_parent h.1 (by omega) hk hi) (by omega)).symm
    simp only [Doc.enc, Int.lt_irrefl, e, go_sem, wpR_gcall, reduceCtorEq, reduceIte, Nat.reduceEqDiff, Nat.reduceAdd, Nat.reduceSub, Nat.reduceMul, Nat.reduceLT, Nat.reduceLeDiff, Nat.reduceBEq, Int.reduceEq, Int.reduceLT, Int.reduceLE, Int.reduceAdd, Int.reduceSub, Int.reduceNeg, Int.reduceToNat]
  · have e1 : (n : Int) < (k : Int) := by omega
    have hu := h.1.up (by omega : 0 < k) hk
    have hpk : (d.l.getD k .zero).parent = (up d k : Int) := hu.1
    have hpn : (d.l.getD n .zero).parent = par d.l n := rfl
    have hth := thB_at (d := d) (k := n) (by omega)
    have e2 : (0 : Int) < (k : Int) := by omega
    have e3 : lastSel (rkP d (up d k)) (n + 1) = if rkP d (up d k) n = true then (n : Int) else lastSel (rkP d (up d k)) n := rfl
    by_cases hp : par d.l n = up d k
    · have h0 : 0 < n := by
        rcases Nat.eq_zero_or_pos n with e | e
        · subst e; rw [h.1.par0] at hp; omega
        · exact e
      have e4 : (0 : Int) < (n : Int) := by omega
      have e5 : rkP d (up d k) n = isN d n := by unfold rkP; rw [hp]; simp
      cases hin : isN d n with
      | true =>
        simp only [Doc.enc, dDoc_mk, Doc.eta, e1, e2, e4, nodeAt, hpk, hpn, hp, hth, hin, h, sumIsR_f, sumIsR_D, sumIsR_flat, sumIsR_r, go_sem, wpR_gcall, reduceCtorEq, reduceIte, Nat.reduceEqDiff, Nat.reduceAdd, Nat.reduceSub, Nat.reduceMul, Nat.reduceLT, Nat.reduceLeDiff, Nat.reduceBEq, Int.reduceEq, Int.reduceLT, Int.reduceLE, Int.reduceAdd, Int.reduceSub, Int.reduceNeg, Int.reduceToNat]
        exact ⟨by omega, by omega, by omega, ⟨n + 1, n⟩, ⟨by dsimp only; omega, by dsimp only; rw [e3, e5, hin, if_pos rfl], fun e => by omega⟩, by dsimp only; omega, rfl, by dsimp only; omega⟩
      | false =>
        simp only [Doc.enc, dDoc_mk, Doc.eta, e1, e2, e4, nodeAt, hpk, hpn, hp, hth, hin, h, sumIsR_f, sumIsR_D, sumIsR_flat, sumIsR_r, go_sem, wpR_gcall, reduceCtorEq, reduceIte, Nat.reduceEqDiff, Nat.reduceAdd, Nat.reduceSub, Nat.reduceMul, Nat.reduceLT, Nat.reduceLeDiff, Nat.reduceBEq, Int.reduceEq, Int.reduceLT, Int.reduceLE, Int.reduceAdd, Int.reduceSub, Int.reduceNeg, Int.reduceToNat]
        exact ⟨by omega, by omega, by omega, ⟨n + 1, o⟩, ⟨by dsimp only; omega, by dsimp only; rw [e3, e5, hin, if_neg (by simp), h2], fun e => by omega⟩, by dsimp only; omega, rfl, by dsimp only; omega⟩
    · have e5 : rkP d (up d k) n = false := by unfold rkP; simp [hp]
      simp only [Doc.enc, dDoc_mk, Doc.eta, e1, e2, nodeAt, hpk, hpn, hp, h, sumIsR_f, sumIsR_D, sumIsR_flat, sumIsR_r, go_sem, wpR_gcall, reduceCtorEq, reduceIte, Nat.reduceEqDiff, Nat.reduceAdd, Nat.reduceSub, Nat.reduceMul, Nat.reduceLT, Nat.reduceLeDiff, Nat.reduceBEq, Int.reduceEq, Int.reduceLT, Int.reduceLE, Int.reduceAdd, Int.reduceSub, Int.reduceNeg, Int.reduceToNat]
      exact ⟨by omega, by omega, by omega, ⟨n + 1, o⟩, ⟨by dsimp only; omega, by dsimp only; rw [e3, e5, if_neg (by simp), h2], fun e => by omega⟩, by dsimp only; omega, rfl, by dsimp only; omega⟩
def sumOldR : Sum Try.prog := ⟨27, fun args => args = [.agg (Doc.enc (dDoc (args.getD 0 .any))), vi ((args.getD 1 .any).int)] ∧ kD (dDoc (args.getD 0 .any)) ((args.getD 1 .any).int), fun args => vi (oldN (dDoc (args.getD 0 .any)) (((args.getD 1 .any).int)).toNat), fun args h => by
  have := (by have h1 := h.2; have h2 := oldR_ok (dDoc (args.getD 0 .any)) (((args.getD 1 .any).int)).toNat h1.1 (by have := h1.2.1; have := h1.2.2.1; omega) h1.2.2.2; rw [Int.toNat_of_nonneg h1.2.1] at h2; exact h2 : PCall Try.prog 27 [.agg (Doc.enc (dDoc (args.getD 0 .any))), vi ((args.getD 1 .any).int)] (vi (oldN (dDoc (args.getD 0 .any)) (((args.getD 1 .any).int)).toNat))); rwa [← h.1] at this, true⟩
theorem sumOldR_f : sumOldR.f = 27 := rfl
theorem sumOldR_D (args : List V) : sumOldR.D args = (args = [.agg (Doc.enc (dDoc (args.getD 0 .any))), vi ((args.getD 1 .any).int)] ∧ kD (dDoc (args.getD 0 .any)) ((args.getD 1 .any).int)) := rfl
theorem sumOldR_flat : sumOldR.flat = true := rfl
theorem sumOldR_r (args : List V) : sumOldR.r args = vi (oldN (dDoc (args.getD 0 .any)) (((args.getD 1 .any).int)).toNat) := rfl
theorem dDoc_mkp (l : List Node) (r : List Bool) (b a : List Int) (p : List ByteArray) : dDoc (.pp [.slc 6 (l.map Node.enc), .slc 1 (r.map fun b => [.c (.bool b)]), .slc 1 (b.map fun n => [.c (.int .i64 n)]), .slc 1 (a.map fun n => [.c (.int .i64 n)]), .slc 1 (p.map fun s => [.c (.string s)])]) = ⟨l, r, b, a, p⟩ := dDoc_enc ⟨l, r, b, a, p⟩
theorem k1_ok (d : Doc) (n : Int) (h0 : 0 ≤ n) (h1 : n < d.run.length) : PCall Try.prog 74 [vi n, .pp d.enc] (vb (runB d n.toNat)) := by
  refine PCall.of (Orc.nil _) c74_ok (by simp [c74]) fun w0 own0 => ?_
  simp only [c74, Doc.enc, getD_bools, go_sem, wpR_gcall, reduceCtorEq, reduceIte, Nat.reduceEqDiff, Nat.reduceAdd, Nat.reduceSub, Nat.reduceMul, Nat.reduceLT, Nat.reduceLeDiff, Nat.reduceBEq, Int.reduceEq, Int.reduceLT, Int.reduceLE, Int.reduceAdd, Int.reduceSub, Int.reduceNeg, Int.reduceToNat]
  exact ⟨by omega, rfl⟩
def sumK1 : Sum Try.prog := ⟨74, fun args => args = [vi ((args.getD 0 .any).int), .pp (Doc.enc (dDoc (args.getD 1 .any)))] ∧ 0 ≤ ((args.getD 0 .any).int) ∧ ((args.getD 0 .any).int) < ((dDoc (args.getD 1 .any))).run.length, fun args => vb (runB (dDoc (args.getD 1 .any)) (((args.getD 0 .any).int)).toNat), fun args h => by
  have := k1_ok (dDoc (args.getD 1 .any)) ((args.getD 0 .any).int) h.2.1 h.2.2; rwa [← h.1] at this, true⟩
theorem sumK1_f : sumK1.f = 74 := rfl
theorem sumK1_D (args : List V) : sumK1.D args = (args = [vi ((args.getD 0 .any).int), .pp (Doc.enc (dDoc (args.getD 1 .any)))] ∧ 0 ≤ ((args.getD 0 .any).int) ∧ ((args.getD 0 .any).int) < ((dDoc (args.getD 1 .any))).run.length) := rfl
theorem sumK1_flat : sumK1.flat = true := rfl
theorem sumK1_r (args : List V) : sumK1.r args = vb (runB (dDoc (args.getD 1 .any)) (((args.getD 0 .any).int)).toNat) := rfl
def ixF (d : Doc) (l : List Int) : Int := fst (fun i => runB d (l.getD i 0).toNat) (l.length - 0) 0
def ixD (d : Doc) (l : List Int) : Prop := l.length ≤ 1000000 ∧ ∀ x ∈ l, 0 ≤ x ∧ x < d.run.length
theorem ixF_ok (d : Doc) (l : List Int) (hl : ixD d l) : PCall Try.prog 81 [ints l, .fn 74 [.pp d.enc]] (vi (ixF d l)) := by
  refine PCall.of (Orc.cons sumK1 (Orc.nil _)) c81_ok (by simp [c81]) fun w0 own0 => ?_
  simp only [c81, ints, go_sem, wpR_gcall, reduceCtorEq, reduceIte, Nat.reduceEqDiff, Nat.reduceAdd, Nat.reduceSub, Nat.reduceMul, Nat.reduceLT, Nat.reduceLeDiff, Nat.reduceBEq, Int.reduceEq, Int.reduceLT, Int.reduceLE, Int.reduceAdd, Int.reduceSub, Int.reduceNeg, Int.reduceToNat]
  refine SemC.lp (α := Nat) (fun k => [(0, .slc 1 (l.map fun n => [vi n])), (1, .fn 74 [.pp d.enc]), (7, vi l.length), (8, vi k)]) (fun _ => ⟨[], 0⟩)
    (fun k => k ≤ l.length ∧ fst (fun i => runB d (l.getD i 0).toNat) (l.length - k) k = ixF d l) (fun k => l.length - k) 0 ⟨Nat.zero_le _, rfl⟩ (St.mk (by simp [Agrees, upd_at, initE_at])) fun k hk => ?_
  obtain ⟨h1, h2⟩ := hk
  have hl1 := hl.1
  by_cases hkl : k = l.length
  · subst hkl
    rw [fst_end] at h2
    simp only [Int.lt_irrefl, ← h2, go_sem, wpR_gcall, reduceCtorEq, reduceIte, Nat.reduceEqDiff, Nat.reduceAdd, Nat.reduceSub, Nat.reduceMul, Nat.reduceLT, Nat.reduceLeDiff, Nat.reduceBEq, Int.reduceEq, Int.reduceLT, Int.reduceLE, Int.reduceAdd, Int.reduceSub, Int.reduceNeg, Int.reduceToNat]
  · have e1 : (k : Int) < (l.length : Int) := by omega
    rw [fst_step _ _ _ (by omega)] at h2
    have hm : 0 ≤ l.getD k 0 ∧ l.getD k 0 < d.run.length := by
      rw [List.getD_eq_getElem?_getD, List.getElem?_eq_getElem (by omega)]
      exact hl.2 _ (List.getElem_mem _)
    simp only [Doc.enc, dDoc_mkp, Doc.eta, e1, sumK1_f, sumK1_D, sumK1_flat, sumK1_r, go_sem, wpR_gcall, reduceCtorEq, reduceIte, Nat.reduceEqDiff, Nat.reduceAdd, Nat.reduceSub, Nat.reduceMul, Nat.reduceLT, Nat.reduceLeDiff, Nat.reduceBEq, Int.reduceEq, Int.reduceLT, Int.reduceLE, Int.reduceAdd, Int.reduceSub, Int.reduceNeg, Int.reduceToNat]
    refine ⟨by omega, hm, fun h => by rw [if_pos h] at h2; exact h2, fun h => ⟨by omega, k + 1, ⟨by omega, by rw [if_neg (by rw [h]; simp)] at h2; exact h2⟩, by omega, by omega⟩⟩
def sumIxF : Sum Try.prog := ⟨81, fun args => args = [ints (dInts (args.getD 0 .any)), .fn 74 [.pp (Doc.enc (dDoc (((args.getD 1 .any).caps).getD 0 .any)))]] ∧ ixD (dDoc (((args.getD 1 .any).caps).getD 0 .any)) (dInts (args.getD 0 .any)), fun args => vi (ixF (dDoc (((args.getD 1 .any).caps).getD 0 .any)) (dInts (args.getD 0 .any))), fun args h => by
  have := ixF_ok (dDoc (((args.getD 1 .any).caps).getD 0 .any)) (dInts (args.getD 0 .any)) h.2; rwa [← h.1] at this, true⟩
theorem sumIxF_f : sumIxF.f = 81 := rfl
theorem sumIxF_D (args : List V) : sumIxF.D args = (args = [ints (dInts (args.getD 0 .any)), .fn 74 [.pp (Doc.enc (dDoc (((args.getD 1 .any).caps).getD 0 .any)))]] ∧ ixD (dDoc (((args.getD 1 .any).caps).getD 0 .any)) (dInts (args.getD 0 .any))) := rfl
theorem sumIxF_flat : sumIxF.flat = true := rfl
theorem sumIxF_r (args : List V) : sumIxF.r args = vi (ixF (dDoc (((args.getD 1 .any).caps).getD 0 .any)) (dInts (args.getD 0 .any))) := rfl
end Go.Proofs.Ytdcdhnohbadenaa
