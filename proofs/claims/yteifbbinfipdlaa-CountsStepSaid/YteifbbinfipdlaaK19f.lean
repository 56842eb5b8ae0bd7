/- Layer 19: which counters count at a node; the others are taken out. -/
import Derived.Test.YteifbbinfipdlaaK19e
import Derived.Test.YteifbbinfipdlaaN13d
namespace Go.Proofs.Yteifbbinfipdlaa
open Go.Sx
set_option linter.unusedSimpArgs false
set_option maxHeartbeats 4000000
set_option maxRecDepth 20000

def seenB (d : Doc) (c : Cnt) (k : Int) : Bool :=
  if c.maker ≤ 0 ∨ (d.l.length : Int) ≤ c.maker then decide (c.maker = 0) else decide (par d.l c.maker.toNat ≤ k) && decide (k < endV d.l (par d.l c.maker.toNat))
theorem getD_nodes19 (l : List Node) (i : Nat) (h : i < l.length) (z : List V) : (l.map Node.enc).getD i z = (l.getD i .zero).enc := by
  simp [List.getD_eq_getElem?_getD, h]
theorem seen_ok (d : Doc) (c : Cnt) (k : Int) (hd : d.l.length ≤ 1000) : PCall Try.prog 28 [.agg d.enc, .agg c.enc, vi k] (vb (seenB d c k)) := by
  refine PCall.of (Orc.cons sumEnd (Orc.nil _)) c28_ok (by simp [c28]) fun w0 own0 => ?_
  by_cases h1 : c.maker ≤ 0
  · have hs : seenB d c k = decide (c.maker = 0) := by unfold seenB; rw [if_pos (.inl h1)]
    have h1 := eq_true h1
    simp only [c28, Doc.enc, Cnt.enc, hs, h1, on_gcall, off_gcall, flat_gcall, go_sem, reduceCtorEq, reduceIte, Nat.reduceEqDiff, Nat.reduceAdd, Nat.reduceSub, Nat.reduceMul, Nat.reduceLT, Nat.reduceLeDiff, Nat.reduceBEq, Int.reduceEq, Int.reduceLT, Int.reduceLE, Int.reduceAdd, Int.reduceSub, Int.reduceNeg, Int.reduceToNat]
  by_cases h2 : (d.l.length : Int) ≤ c.maker
  · have hs : seenB d c k = decide (c.maker = 0) := by unfold seenB; rw [if_pos (.inr h2)]
    have h1 := eq_false h1; have h2 := eq_true h2
    simp only [c28, Doc.enc, Cnt.enc, hs, h1, h2, on_gcall, off_gcall, flat_gcall, go_sem, reduceCtorEq, reduceIte, Nat.reduceEqDiff, Nat.reduceAdd, Nat.reduceSub, Nat.reduceMul, Nat.reduceLT, Nat.reduceLeDiff, Nat.reduceBEq, Int.reduceEq, Int.reduceLT, Int.reduceLE, Int.reduceAdd, Int.reduceSub, Int.reduceNeg, Int.reduceToNat]
  have hs : seenB d c k = (decide (par d.l c.maker.toNat ≤ k) && decide (k < endV d.l (par d.l c.maker.toNat))) := by unfold seenB; rw [if_neg (by omega)]
  have e0 : (0 : Int) ≤ c.maker := by omega
  have e1 : c.maker < (d.l.length : Int) := by omega
  have h1 := eq_false h1; have h2 := eq_false h2
  have hg := fun z => getD_nodes19 d.l c.maker.toNat (by omega) z
  have hp : (d.l.getD c.maker.toNat .zero).parent = par d.l c.maker.toNat := rfl
  by_cases h3 : par d.l c.maker.toNat ≤ k
  · have h3' := eq_true h3
    have h3d := decide_eq_true h3
    simp only [c28, Doc.enc, Cnt.enc, Node.enc, hs, h1, h2, e0, e1, hg, hp, h3', h3d, hd, dNodes_map, on_gcall, off_gcall, flat_gcall, go_sem, reduceCtorEq, reduceIte, Nat.reduceEqDiff, Nat.reduceAdd, Nat.reduceSub, Nat.reduceMul, Nat.reduceLT, Nat.reduceLeDiff, Nat.reduceBEq, Int.reduceEq, Int.reduceLT, Int.reduceLE, Int.reduceAdd, Int.reduceSub, Int.reduceNeg, Int.reduceToNat]
    rfl
  · have h3' := eq_false h3
    have h3d := decide_eq_false h3
    simp only [c28, Doc.enc, Cnt.enc, Node.enc, hs, h1, h2, e0, e1, hg, hp, h3', h3d, hd, dNodes_map, on_gcall, off_gcall, flat_gcall, go_sem, reduceCtorEq, reduceIte, Nat.reduceEqDiff, Nat.reduceAdd, Nat.reduceSub, Nat.reduceMul, Nat.reduceLT, Nat.reduceLeDiff, Nat.reduceBEq, Int.reduceEq, Int.reduceLT, Int.reduceLE, Int.reduceAdd, Int.reduceSub, Int.reduceNeg, Int.reduceToNat]
def dCnt (v : V) : Cnt := dCntL v.cs
theorem dCnt_mk (a : ByteArray) (b c : Int) : dCnt (.agg [.c (.string a), .c (.int .i64 b), .c (.int .i64 c)]) = ⟨a, b, c⟩ := rfl
theorem dCnt_eta (c : Cnt) : (⟨c.name, c.n, c.maker⟩ : Cnt) = c := rfl
theorem dDoc_mkp19 (l : List Node) (r : List Bool) (b a : List Int) (p : List ByteArray) : dDoc (.pp [.slc 6 (l.map Node.enc), .slc 1 (r.map fun b => [.c (.bool b)]), .slc 1 (b.map fun n => [.c (.int .i64 n)]), .slc 1 (a.map fun n => [.c (.int .i64 n)]), .slc 1 (p.map fun s => [.c (.string s)])]) = ⟨l, r, b, a, p⟩ := dDoc_enc ⟨l, r, b, a, p⟩
theorem dDoc_encp (d : Doc) : dDoc (.pp d.enc) = d := dDoc_enc d
def sumSeen : Sum Try.prog := ⟨28, fun args => args = [.agg (Doc.enc (dDoc (args.getD 0 .any))), .agg (Cnt.enc (dCnt (args.getD 1 .any))), vi ((args.getD 2 .any).int)] ∧ ((dDoc (args.getD 0 .any))).l.length ≤ 1000, fun args => vb (seenB (dDoc (args.getD 0 .any)) (dCnt (args.getD 1 .any)) ((args.getD 2 .any).int)), fun args h => by
  have := seen_ok (dDoc (args.getD 0 .any)) (dCnt (args.getD 1 .any)) ((args.getD 2 .any).int) h.2; rwa [← h.1] at this, true⟩
theorem sumSeen_f : sumSeen.f = 28 := rfl
theorem sumSeen_D (args : List V) : sumSeen.D args = (args = [.agg (Doc.enc (dDoc (args.getD 0 .any))), .agg (Cnt.enc (dCnt (args.getD 1 .any))), vi ((args.getD 2 .any).int)] ∧ ((dDoc (args.getD 0 .any))).l.length ≤ 1000) := rfl
theorem sumSeen_flat : sumSeen.flat = true := rfl
theorem sumSeen_r (args : List V) : sumSeen.r args = vb (seenB (dDoc (args.getD 0 .any)) (dCnt (args.getD 1 .any)) ((args.getD 2 .any).int)) := rfl
attribute [go_sem] sumSeen_f sumSeen_D sumSeen_flat sumSeen_r
theorem seen1_ok (d : Doc) (c : Cnt) (k : Int) (hd : d.l.length ≤ 1000) : PCall Try.prog 27 [.agg c.enc, .pp d.enc, .pp [vi k]] (vb (!seenB d c k)) := by
  refine PCall.of (Orc.cons sumSeen (Orc.nil _)) c27_ok (by simp [c27]) fun w0 own0 => ?_
  simp only [c27, Doc.enc, Cnt.enc, dDoc_mk, Doc.eta, dCnt_mk, dCnt_eta, hd, go_sem, wpR_gcall, reduceCtorEq, reduceIte, Nat.reduceEqDiff, Nat.reduceAdd, Nat.reduceSub, Nat.reduceMul, Nat.reduceLT, Nat.reduceLeDiff, Nat.reduceBEq, Int.reduceEq, Int.reduceLT, Int.reduceLE, Int.reduceAdd, Int.reduceSub, Int.reduceNeg, Int.reduceToNat]
def sumSeen1 : Sum Try.prog := ⟨27, fun args => args = [.agg (Cnt.enc (dCnt (args.getD 0 .any))), .pp (Doc.enc (dDoc (args.getD 1 .any))), .pp [vi ((((args.getD 2 .any).cs).getD 0 .any).int)]] ∧ ((dDoc (args.getD 1 .any))).l.length ≤ 1000, fun args => vb (!seenB (dDoc (args.getD 1 .any)) (dCnt (args.getD 0 .any)) ((((args.getD 2 .any).cs).getD 0 .any).int)), fun args h => by
  have := seen1_ok (dDoc (args.getD 1 .any)) (dCnt (args.getD 0 .any)) ((((args.getD 2 .any).cs).getD 0 .any).int) h.2; rwa [← h.1] at this, true⟩
theorem sumSeen1_f : sumSeen1.f = 27 := rfl
theorem sumSeen1_D (args : List V) : sumSeen1.D args = (args = [.agg (Cnt.enc (dCnt (args.getD 0 .any))), .pp (Doc.enc (dDoc (args.getD 1 .any))), .pp [vi ((((args.getD 2 .any).cs).getD 0 .any).int)]] ∧ ((dDoc (args.getD 1 .any))).l.length ≤ 1000) := rfl
theorem sumSeen1_flat : sumSeen1.flat = true := rfl
theorem sumSeen1_r (args : List V) : sumSeen1.r args = vb (!seenB (dDoc (args.getD 1 .any)) (dCnt (args.getD 0 .any)) ((((args.getD 2 .any).cs).getD 0 .any).int)) := rfl
attribute [go_sem] sumSeen1_f sumSeen1_D sumSeen1_flat sumSeen1_r
def keepC (d : Doc) (k : Int) (l : List Cnt) : List Cnt := l.filter fun c => seenB d c k
def ixC (d : Doc) (k : Int) (l : List Cnt) : Int := fst (fun i => !seenB d (l.getD i .zero) k) (l.length - 0) 0
theorem ixC_ok (d : Doc) (k : Int) (l : List Cnt) (hd : d.l.length ≤ 1000) (hl : l.length ≤ 1000000) : PCall Try.prog 47 [cnts l, .fn 27 [.pp d.enc, .pp [vi k]]] (vi (ixC d k l)) := by
  refine PCall.of (Orc.cons sumSeen1 (Orc.nil _)) c47_ok (by simp [c47]) fun w0 own0 => ?_
  simp only [c47, cnts, go_sem, wpR_gcall, reduceCtorEq, reduceIte, Nat.reduceEqDiff, Nat.reduceAdd, Nat.reduceSub, Nat.reduceMul, Nat.reduceLT, Nat.reduceLeDiff, Nat.reduceBEq, Int.reduceEq, Int.reduceLT, Int.reduceLE, Int.reduceAdd, Int.reduceSub, Int.reduceNeg, Int.reduceToNat]
  refine SemC.lp (α := Nat) (fun j => [(0, .slc 3 (l.map Cnt.enc)), (1, .fn 27 [.pp d.enc, .pp [vi k]]), (7, vi l.length), (8, vi j)]) (fun _ => ⟨[], 0⟩)
    (fun j => j ≤ l.length ∧ fst (fun i => !seenB d (l.getD i .zero) k) (l.length - j) j = ixC d k l) (fun j => l.length - j) 0 ⟨Nat.zero_le _, rfl⟩ (St.mk (by simp [Agrees, upd_at, initE_at])) fun j hj => ?_
  obtain ⟨h1, h2⟩ := hj
  by_cases hkl : j = l.length
  · subst hkl
    rw [fst_end] at h2
    simp only [Int.lt_irrefl, ← h2, go_sem, wpR_gcall, reduceCtorEq, reduceIte, Nat.reduceEqDiff, Nat.reduceAdd, Nat.reduceSub, Nat.reduceMul, Nat.reduceLT, Nat.reduceLeDiff, Nat.reduceBEq, Int.reduceEq, Int.reduceLT, Int.reduceLE, Int.reduceAdd, Int.reduceSub, Int.reduceNeg, Int.reduceToNat]
  · have e1 : (j : Int) < (l.length : Int) := by omega
    have e0 : (0 : Int) ≤ (j : Int) := by omega
    rw [fst_step _ _ _ (by omega)] at h2
    have hg := getD_cnts l j
    generalize l.getD j .zero = c at *
    cases hs : seenB d c k with
    | true =>
      rw [hs] at h2
      simp only [e0, e1, hg, hs, Doc.enc, Cnt.enc, dDoc_mkp19, Doc.eta, dCnt_mk, dCnt_eta, hd, go_sem, wpR_gcall, reduceCtorEq, reduceIte, Nat.reduceEqDiff, Nat.reduceAdd, Nat.reduceSub, Nat.reduceMul, Nat.reduceLT, Nat.reduceLeDiff, Nat.reduceBEq, Int.reduceEq, Int.reduceLT, Int.reduceLE, Int.reduceAdd, Int.reduceSub, Int.reduceNeg, Int.reduceToNat]
      exact ⟨by omega, j + 1, ⟨by omega, by simpa using h2⟩, by omega, by omega⟩
    | false =>
      rw [hs] at h2
      simp only [e0, e1, hg, hs, Doc.enc, Cnt.enc, dDoc_mkp19, Doc.eta, dCnt_mk, dCnt_eta, hd, go_sem, wpR_gcall, reduceCtorEq, reduceIte, Nat.reduceEqDiff, Nat.reduceAdd, Nat.reduceSub, Nat.reduceMul, Nat.reduceLT, Nat.reduceLeDiff, Nat.reduceBEq, Int.reduceEq, Int.reduceLT, Int.reduceLE, Int.reduceAdd, Int.reduceSub, Int.reduceNeg, Int.reduceToNat]
      simpa using h2
def ixCD (args : List V) : Prop := args = [cnts (dCnts (args.getD 0 .any)), .fn 27 [.pp (Doc.enc (dDoc (((args.getD 1 .any).caps).getD 0 .any))), .pp [vi (((((args.getD 1 .any).caps).getD 1 .any).cs).getD 0 .any).int]]] ∧ (dDoc (((args.getD 1 .any).caps).getD 0 .any)).l.length ≤ 1000 ∧ (dCnts (args.getD 0 .any)).length ≤ 1000000
def ixCV (args : List V) : V := vi (ixC (dDoc (((args.getD 1 .any).caps).getD 0 .any)) (((((args.getD 1 .any).caps).getD 1 .any).cs).getD 0 .any).int (dCnts (args.getD 0 .any)))
def sumIxC : Sum Try.prog := ⟨47, ixCD, ixCV, fun args h => by
  obtain ⟨h1, h2, h3⟩ := h
  have := ixC_ok _ (((((args.getD 1 .any).caps).getD 1 .any).cs).getD 0 .any).int _ h2 h3
  rwa [← h1] at this, true⟩
theorem sumIxC_f : sumIxC.f = 47 := rfl
theorem sumIxC_D (args : List V) : sumIxC.D args = ixCD args := rfl
theorem sumIxC_flat : sumIxC.flat = true := rfl
theorem sumIxC_r (args : List V) : sumIxC.r args = ixCV args := rfl
attribute [go_sem] sumIxC_f sumIxC_D sumIxC_flat sumIxC_r
theorem ixCD_at (d : Doc) (k : Int) (l : List Cnt) (hd : d.l.length ≤ 1000) (hl : l.length ≤ 1000000) : ixCD [.slc 3 (l.map Cnt.enc), .fn 27 [.pp d.enc, .pp [vi k]]] := by
  refine ⟨?_, ?_, ?_⟩
  · simp only [List.getD_cons_zero, List.getD_cons_succ, V.caps, dCnts_map, dDoc_encp, cnts]; rfl
  · simp only [List.getD_cons_zero, List.getD_cons_succ, V.caps, dDoc_encp]; exact hd
  · simp only [List.getD_cons_zero, dCnts_map]; exact hl
theorem ixCV_at (d : Doc) (k : Int) (l : List Cnt) : ixCV [.slc 3 (l.map Cnt.enc), .fn 27 [.pp d.enc, .pp [vi k]]] = vi (ixC d k l) := by
  unfold ixCV
  simp only [List.getD_cons_zero, List.getD_cons_succ, V.caps, dCnts_map, dDoc_encp]; rfl
end Go.Proofs.Yteifbbinfipdlaa
