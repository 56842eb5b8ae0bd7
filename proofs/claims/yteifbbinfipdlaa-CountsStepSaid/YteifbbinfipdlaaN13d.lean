/- Flows: what is in flow. -/
import Derived.Test.YteifbbinfipdlaaN13b
import Derived.Test.YteifbbinfipdlaaN13c
namespace Go.Proofs.Yteifbbinfipdlaa
open Go.Sx
set_option linter.unusedSimpArgs false
set_option maxHeartbeats 4000000
set_option maxRecDepth 20000

def okL (d : Doc) : Prop := okD d ∧ d.l.length ≤ 1000
theorem okL.run {d : Doc} (h : okL d) : d.run.length = d.l.length := h.1.len.1
theorem okL.page {d : Doc} (h : okL d) : d.page.length = d.l.length := h.1.len.2.2.2
theorem endV_at {d : Doc} (h : okL d) {k : Nat} (hk : k < d.l.length) : endV d.l k = endN d.l k := by
  unfold endV
  rw [if_pos ((isB_iff _ _).2 ⟨h.1.doc, by omega, by omega⟩), Int.toNat_natCast]
theorem inT_ok (d : Doc) (h : okL d) : PCall Try.prog 44 [.agg d.enc] (ints (inL d)) := by
  refine PCall.of (Orc.cons sumEnd (Orc.nil _)) c44_ok (by simp [c44]) fun w0 own0 => ?_
  simp only [c44, Doc.enc, go_sem, wpR_gcall, reduceCtorEq, reduceIte, Nat.reduceEqDiff, Nat.reduceAdd, Nat.reduceSub, Nat.reduceMul, Nat.reduceLT, Nat.reduceLeDiff, Nat.reduceBEq, Int.reduceEq, Int.reduceLT, Int.reduceLE, Int.reduceAdd, Int.reduceSub, Int.reduceNeg, Int.reduceToNat]
  refine SemC.lp (α := KiS) (fun a => [(1, .ptr 0 0 0 0), (3, .ref 1 a.ver 0 (selTo (isN d) a.n).length), (4, vi a.n)])
    (fun a => ⟨[⟨0, 5, [d.enc], false, []⟩, ⟨a.ver, 1, (selTo (isN d) a.n).map fun n => [vi n], false, [vi 0]⟩], a.clk⟩)
    (fun a => a.n ≤ d.l.length ∧ (a.n < d.l.length → a.n = 0 ∨ isN d (up d a.n) = true)) (fun a => d.l.length - a.n) ⟨0, 1, 2⟩ ⟨by simp, fun _ => .inl rfl⟩
    (St.nil 3 1 [vi 0] (by simp [upd_at]) (St.cut ?_ ?_ ?_)) fun a ha => ?_
  · simp [Agrees, upd_at, initE_at, selTo]
  · simp [Heap.alloc, selTo, Doc.enc]
  · rfl
  obtain ⟨k, ver, clk⟩ := a
  simp only at ha
  obtain ⟨h1, h2⟩ := ha
  have hlen := selTo_len (isN d) k
  have hl := h.2
  by_cases hk : k = d.l.length
  · subst hk
    simp only [Doc.enc, Int.lt_irrefl, ints, inL, List.take_length, Nat.le_refl, go_sem, wpR_gcall, reduceCtorEq, reduceIte, Nat.reduceEqDiff, Nat.reduceAdd, Nat.reduceSub, Nat.reduceMul, Nat.reduceLT, Nat.reduceLeDiff, Nat.reduceBEq, Int.reduceEq, Int.reduceLT, Int.reduceLE, Int.reduceAdd, Int.reduceSub, Int.reduceNeg, Int.reduceToNat]
  · have e1 : (k : Int) < (d.l.length : Int) := by omega
    have hp := h2 (by omega)
    cases hr : runB d k with
    | true =>
      obtain ⟨o1, o2⟩ := in_over h.1 (by omega) hr hp
      have hs := endN_spec d.l k (by omega)
      unfold runB at hr
      simp only [Doc.enc, e1, nodes, dNodes_map, getD_bools, h.run, hr, endV_at h (show k < d.l.length by omega), go_sem, wpR_gcall, reduceCtorEq, reduceIte, Nat.reduceEqDiff, Nat.reduceAdd, Nat.reduceSub, Nat.reduceMul, Nat.reduceLT, Nat.reduceLeDiff, Nat.reduceBEq, Int.reduceEq, Int.reduceLT, Int.reduceLE, Int.reduceAdd, Int.reduceSub, Int.reduceNeg, Int.reduceToNat]
      exact ⟨by omega, by omega, by omega, by omega, ⟨endN d.l k, ver, clk⟩, ⟨by dsimp only; omega, fun hh => .inr (o2 hh)⟩, by dsimp only; omega, ⟨⟨rfl, by dsimp only; rw [o1]⟩, by dsimp only; omega⟩, ⟨rfl, by dsimp only; rw [o1]⟩, rfl⟩
    | false =>
      obtain ⟨o1, o2⟩ := in_go h.1 (by omega) hr hp
      have e2 : selTo (isN d) (k + 1) = selTo (isN d) k ++ [(k : Int)] := by simp only [selTo, o1, if_true]
      unfold runB at hr
      simp only [Doc.enc, e1, nodes, dNodes_map, getD_bools, h.run, hr, List.take_length, Nat.le_refl, go_sem, wpR_gcall, reduceCtorEq, reduceIte, Nat.reduceEqDiff, Nat.reduceAdd, Nat.reduceSub, Nat.reduceMul, Nat.reduceLT, Nat.reduceLeDiff, Nat.reduceBEq, Int.reduceEq, Int.reduceLT, Int.reduceLE, Int.reduceAdd, Int.reduceSub, Int.reduceNeg, Int.reduceToNat]
      exact ⟨by omega, by omega, by omega, ⟨k + 1, clk + 1, clk + 1 + 1⟩, ⟨by dsimp only; omega, fun hh => .inr (o2 hh)⟩, by dsimp only; omega, ⟨⟨rfl, by dsimp only; rw [e2]; simp⟩, by dsimp only; omega⟩, ⟨rfl, by dsimp only; rw [e2]; simp⟩, rfl⟩
def sumInT : Sum Try.prog := ⟨44, fun args => args = [.agg (Doc.enc (dDoc (args.getD 0 .any)))] ∧ okL (dDoc (args.getD 0 .any)), fun args => ints (inL (dDoc (args.getD 0 .any))), fun args h => by
  have := inT_ok (dDoc (args.getD 0 .any)) h.2; rwa [← h.1] at this, false⟩
theorem sumInT_f : sumInT.f = 44 := rfl
theorem sumInT_D (args : List V) : sumInT.D args = (args = [.agg (Doc.enc (dDoc (args.getD 0 .any)))] ∧ okL (dDoc (args.getD 0 .any))) := rfl
theorem sumInT_flat : sumInT.flat = false := rfl
theorem sumInT_r (args : List V) : sumInT.r args = ints (inL (dDoc (args.getD 0 .any))) := rfl
attribute [go_sem] sumInT_f sumInT_D sumInT_flat sumInT_r
def inV (d : Doc) : List Int := if rightB d = true then inL d else []
def thV (d : Doc) (k : Int) : Bool := rightB d && thB d k
theorem thV_in (d : Doc) (k : Int) : decide (k ∈ inV d) = thV d k := by
  unfold thV thB inV
  cases rightB d <;> simp
theorem inA_ok (d : Doc) (hl : d.l.length ≤ 1000) : PCall Try.prog 23 [.agg d.enc] (ints (inV d)) := by
  by_cases hr : rightB d = true
  · have hk : okL d := ⟨rightB_ok hr, hl⟩
    refine PCall.of (Orc.cons sumRightT (Orc.cons sumInT (Orc.nil _))) c23_ok (by simp [c23]) fun w0 own0 => ?_
    simp only [c23, Doc.enc, dDoc_mk, Doc.eta, hr, ints, inV, hl, hk, go_sem, wpR_gcall, reduceCtorEq, reduceIte, Nat.reduceEqDiff, Nat.reduceAdd, Nat.reduceSub, Nat.reduceMul, Nat.reduceLT, Nat.reduceLeDiff, Nat.reduceBEq, Int.reduceEq, Int.reduceLT, Int.reduceLE, Int.reduceAdd, Int.reduceSub, Int.reduceNeg, Int.reduceToNat]
  · refine PCall.rs 1 (r := vnil) ?_ (by unfold inV; rw [if_neg hr]; simp [Sub, ints])
    refine PCall.of (Orc.cons sumRightT (Orc.cons sumInT (Orc.nil _))) c23_ok (by simp [c23]) fun w0 own0 => ?_
    simp only [c23, Doc.enc, dDoc_mk, Doc.eta, hr, ints, hl, go_sem, wpR_gcall, reduceCtorEq, reduceIte, Nat.reduceEqDiff, Nat.reduceAdd, Nat.reduceSub, Nat.reduceMul, Nat.reduceLT, Nat.reduceLeDiff, Nat.reduceBEq, Int.reduceEq, Int.reduceLT, Int.reduceLE, Int.reduceAdd, Int.reduceSub, Int.reduceNeg, Int.reduceToNat]
def sumInA : Sum Try.prog := ⟨23, fun args => args = [.agg (Doc.enc (dDoc (args.getD 0 .any)))] ∧ ((dDoc (args.getD 0 .any))).l.length ≤ 1000, fun args => ints (inV (dDoc (args.getD 0 .any))), fun args h => by
  have := inA_ok (dDoc (args.getD 0 .any)) h.2; rwa [← h.1] at this, false⟩
theorem sumInA_f : sumInA.f = 23 := rfl
theorem sumInA_D (args : List V) : sumInA.D args = (args = [.agg (Doc.enc (dDoc (args.getD 0 .any)))] ∧ ((dDoc (args.getD 0 .any))).l.length ≤ 1000) := rfl
theorem sumInA_flat : sumInA.flat = false := rfl
theorem sumInA_r (args : List V) : sumInA.r args = ints (inV (dDoc (args.getD 0 .any))) := rfl
attribute [go_sem] sumInA_f sumInA_D sumInA_flat sumInA_r
theorem inV_len (d : Doc) : (inV d).length ≤ d.l.length := by
  unfold inV inL; split
  · exact selTo_len _ _
  · simp
theorem thB_not {d : Doc} {k : Int} (h : ¬ (0 ≤ k ∧ k < d.l.length)) : thB d k = false := by
  cases hh : thB d k with
  | false => rfl
  | true => obtain ⟨m, a, b, _⟩ := thB_iff.1 hh; omega
theorem thB_at {d : Doc} {k : Nat} (h : k < d.l.length) : thB d k = isN d k := by
  rw [Bool.eq_iff_iff, thB_iff]
  constructor
  · rintro ⟨m, a, b, c⟩
    have : k = m := by omega
    rw [this]; exact c
  · exact fun hh => ⟨k, rfl, h, hh⟩
theorem isR_ok (d : Doc) (k : Int) (h : okL d) : PCall Try.prog 13 [.agg d.enc, vi k] (vb (thB d k)) := by
  refine PCall.of (Orc.nil _) c13_ok (by simp [c13]) fun w0 own0 => ?_
  simp only [c13, Doc.enc, go_sem, wpR_gcall, reduceCtorEq, reduceIte, Nat.reduceEqDiff, Nat.reduceAdd, Nat.reduceSub, Nat.reduceMul, Nat.reduceLT, Nat.reduceLeDiff, Nat.reduceBEq, Int.reduceEq, Int.reduceLT, Int.reduceLE, Int.reduceAdd, Int.reduceSub, Int.reduceNeg, Int.reduceToNat]
  refine ⟨by omega, fun h' => ?_, fun h' => ?_⟩
  · rw [thB_not (by omega)]
  obtain ⟨k, rfl⟩ : ∃ m : Nat, k = m := ⟨k.toNat, by omega⟩
  have hk : k < d.l.length := by omega
  rw [thB_at hk]
  generalize hR : isN d k = R
  refine SemC.lp (α := Int) (fun a => [(1, vi a), (2, .ptr 0 0 0 0)]) (fun a => ⟨[⟨0, 5, [d.enc], false, []⟩], 1⟩)
    (fun a => -1 ≤ a ∧ a < d.l.length ∧ (a = -1 → R = true) ∧ (0 ≤ a → isN d a.toNat = R)) (fun a => (a + 1).toNat) k ⟨by omega, by omega, fun h => by omega, fun _ => by rw [Int.toNat_natCast]; exact hR⟩ (St.mk (by simp [Agrees, upd_at, initE_at, Doc.enc])) fun a ha => ?_
  obtain ⟨h1, h2, h3, h4⟩ := ha
  by_cases e0 : 0 ≤ a
  · obtain ⟨k, rfl⟩ : ∃ m : Nat, a = m := ⟨a.toNat, by omega⟩
    have h4 := h4 e0
    rw [Int.toNat_natCast] at h4
    have hk : k < d.l.length := by omega
    have hpar : (d.l.getD k .zero).parent = par d.l k := rfl
    have hst := isN_step h.1 hk
    simp only [Doc.enc, e0, nodeAt, hpar, getD_bools, h.run, go_sem, wpR_gcall, reduceCtorEq, reduceIte, Nat.reduceEqDiff, Nat.reduceAdd, Nat.reduceSub, Nat.reduceMul, Nat.reduceLT, Nat.reduceLeDiff, Nat.reduceBEq, Int.reduceEq, Int.reduceLT, Int.reduceLE, Int.reduceAdd, Int.reduceSub, Int.reduceNeg, Int.reduceToNat]
    refine ⟨by omega, fun hr => ?_, fun hr => ⟨by omega, par d.l k, ?_, ?_, rfl⟩⟩
    · rw [← h4, hst]; unfold runB; rw [hr]; rfl
    · by_cases k0 : k = 0
      · subst k0
        have hr' : runB d 0 = false := h.1.r0
        rw [h.1.par0]
        refine ⟨by omega, by omega, fun _ => ?_, fun h => by omega⟩
        rw [← h4, hst, hr']; rfl
      · have hu := h.1.up (by omega : 0 < k) hk
        have hr' : runB d k = false := hr
        refine ⟨by omega, by omega, fun h => by omega, fun _ => ?_⟩
        rw [hr'] at hst
        simp only [k0, decide_false, Bool.false_or, Bool.not_false, Bool.true_and] at hst
        rw [← h4, hst]; rfl
    · have := stood_par h.1.doc.2 k hk; omega
  · simp only [e0, h3 (by omega), go_sem, wpR_gcall, reduceCtorEq, reduceIte, Nat.reduceEqDiff, Nat.reduceAdd, Nat.reduceSub, Nat.reduceMul, Nat.reduceLT, Nat.reduceLeDiff, Nat.reduceBEq, Int.reduceEq, Int.reduceLT, Int.reduceLE, Int.reduceAdd, Int.reduceSub, Int.reduceNeg, Int.reduceToNat]
def sumIsR : Sum Try.prog := ⟨13, fun args => args = [.agg (Doc.enc (dDoc (args.getD 0 .any))), vi ((args.getD 1 .any).int)] ∧ okL (dDoc (args.getD 0 .any)), fun args => vb (thB (dDoc (args.getD 0 .any)) ((args.getD 1 .any).int)), fun args h => by
  have := isR_ok (dDoc (args.getD 0 .any)) ((args.getD 1 .any).int) h.2; rwa [← h.1] at this, true⟩
theorem sumIsR_f : sumIsR.f = 13 := rfl
theorem sumIsR_D (args : List V) : sumIsR.D args = (args = [.agg (Doc.enc (dDoc (args.getD 0 .any))), vi ((args.getD 1 .any).int)] ∧ okL (dDoc (args.getD 0 .any))) := rfl
theorem sumIsR_flat : sumIsR.flat = true := rfl
theorem sumIsR_r (args : List V) : sumIsR.r args = vb (thB (dDoc (args.getD 0 .any)) ((args.getD 1 .any).int)) := rfl
attribute [go_sem] sumIsR_f sumIsR_D sumIsR_flat sumIsR_r
end Go.Proofs.Yteifbbinfipdlaa
