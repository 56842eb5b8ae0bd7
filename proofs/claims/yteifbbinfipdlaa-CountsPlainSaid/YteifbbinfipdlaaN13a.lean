/- Flows: encodings, few, given, right. -/
import Derived.Test.YteifbbinfipdlaaD9f
namespace Go.Proofs.Yteifbbinfipdlaa
open Go.Sx
set_option linter.unusedSimpArgs false
set_option maxHeartbeats 4000000
set_option maxRecDepth 20000

structure Doc where
  l : List Node
  run : List Bool
  bef : List Int
  aft : List Int
  page : List ByteArray
def Doc.enc (d : Doc) : List V := [.slc 6 (d.l.map Node.enc), .slc 1 (d.run.map fun b => [vb b]), .slc 1 (d.bef.map fun n => [vi n]), .slc 1 (d.aft.map fun n => [vi n]), .slc 1 (d.page.map fun s => [vs s])]
def dDocL (l : List V) : Doc := ⟨dNodes (l.getD 0 .any), dBools (l.getD 1 .any), dInts (l.getD 2 .any), dInts (l.getD 3 .any), dStrs (l.getD 4 .any)⟩
def dDoc (v : V) : Doc := dDocL v.cs
theorem dDoc_enc (d : Doc) : dDoc (.agg d.enc) = d := by
  simp [dDoc, dDocL, Doc.enc, V.cs, dNodes_map, dBools_map, dInts_map, dStrs_map]
theorem dDoc_mk (l : List Node) (r : List Bool) (b a : List Int) (p : List ByteArray) : dDoc (.agg [.slc 6 (l.map Node.enc), .slc 1 (r.map fun b => [.c (.bool b)]), .slc 1 (b.map fun n => [.c (.int .i64 n)]), .slc 1 (a.map fun n => [.c (.int .i64 n)]), .slc 1 (p.map fun s => [.c (.string s)])]) = ⟨l, r, b, a, p⟩ := dDoc_enc ⟨l, r, b, a, p⟩
theorem Doc.eta (d : Doc) : (⟨d.l, d.run, d.bef, d.aft, d.page⟩ : Doc) = d := rfl
def runB (d : Doc) (k : Nat) : Bool := d.run.getD k false
theorem plain_ok (n : Int) : PCall Try.prog 43 [vi n] (vb (decide (0 ≤ n ∧ n ≤ 4))) := by
  refine PCall.of (Orc.nil _) c43_ok (by simp [c43]) fun w0 own0 => ?_
  simp only [c43, go_sem, wpR_gcall, reduceCtorEq, reduceIte, Nat.reduceEqDiff, Nat.reduceAdd, Nat.reduceSub, Nat.reduceMul, Nat.reduceLT, Nat.reduceLeDiff, Nat.reduceBEq, Int.reduceEq, Int.reduceLT, Int.reduceLE, Int.reduceAdd, Int.reduceSub, Int.reduceNeg, Int.reduceToNat]
  simp
def sumPlain : Sum Try.prog := ⟨43, fun args => args = [vi ((args.getD 0 .any).int)], fun args => vb (decide (0 ≤ ((args.getD 0 .any).int) ∧ ((args.getD 0 .any).int) ≤ 4)), fun args h => by
  have := plain_ok ((args.getD 0 .any).int); rwa [← h] at this, true⟩
theorem sumPlain_f : sumPlain.f = 43 := rfl
theorem sumPlain_D (args : List V) : sumPlain.D args = (args = [vi ((args.getD 0 .any).int)]) := rfl
theorem sumPlain_flat : sumPlain.flat = true := rfl
theorem sumPlain_r (args : List V) : sumPlain.r args = vb (decide (0 ≤ ((args.getD 0 .any).int) ∧ ((args.getD 0 .any).int) ≤ 4)) := rfl
attribute [go_sem] sumPlain_f sumPlain_D sumPlain_flat sumPlain_r
def lens (d : Doc) : Prop := d.run.length = d.l.length ∧ d.bef.length = d.l.length ∧ d.aft.length = d.l.length ∧ d.page.length = d.l.length
def badK (d : Doc) (k : Nat) : Prop := ¬ (0 ≤ d.bef.getD k 0 ∧ d.bef.getD k 0 ≤ 4) ∨ ¬ (0 ≤ d.aft.getD k 0 ∧ d.aft.getD k 0 ≤ 4) ∨ ((d.l.getD k .zero).type = ⟨#[]⟩ ∧ (d.run.getD k false = true ∨ d.bef.getD k 0 ≠ 0 ∨ d.aft.getD k 0 ≠ 0 ∨ d.page.getD k ⟨#[]⟩ ≠ ⟨#[]⟩))
instance (d : Doc) (k : Nat) : Decidable (badK d k) := by unfold badK; infer_instance
instance (d : Doc) : Decidable (lens d) := by unfold lens; infer_instance
def rightB (d : Doc) : Bool := docB d.l && decide (lens d ∧ d.run.getD 0 false = false ∧ ∀ k, k < d.l.length → ¬ badK d k)
theorem rightT_ok (d : Doc) (hl : d.l.length ≤ 1000) : PCall Try.prog 22 [.agg d.enc] (vb (rightB d)) := by
  refine PCall.of (Orc.cons sumChkT (Orc.cons sumPlain (Orc.nil _))) c22_ok (by simp [c22]) fun w0 own0 => ?_
  by_cases hD : docB d.l = true
  · have e0 : (if 0 ≤ badR d.l ∨ d.l.length = 0 then (5 : Int) else 0) = 0 := by
      unfold docB at hD; rw [decide_eq_true_eq] at hD; rw [if_neg]; omega
    by_cases hL : lens d
    · have hlp : 0 < d.l.length := by unfold docB at hD; rw [decide_eq_true_eq] at hD; omega
      have hr : rightB d = decide (d.run.getD 0 false = false ∧ ∀ k, k < d.l.length → ¬ badK d k) := by
        unfold rightB; rw [hD, Bool.true_and]; simp only [hL, true_and]
      obtain ⟨l1, l2, l3, l4⟩ := hL
      have hlp' : (0 : Int) < (d.l.length : Int) := by omega
      simp only [c22, Doc.enc, nodes, dNodes_map, chkOf, bad_eq, e0, l1, l2, l3, l4, hlp', getD_bools, go_sem, wpR_gcall, reduceCtorEq, reduceIte, Nat.reduceEqDiff, Nat.reduceAdd, Nat.reduceSub, Nat.reduceMul, Nat.reduceLT, Nat.reduceLeDiff, Nat.reduceBEq, Int.reduceEq, Int.reduceLT, Int.reduceLE, Int.reduceAdd, Int.reduceSub, Int.reduceNeg, Int.reduceToNat]
      refine ⟨hl, fun h => ?_, fun h => ?_⟩
      · rw [hr, eq_comm, decide_eq_false_iff_not]; exact fun hh => by rw [h] at hh; cases hh.1
      · refine SemC.lp (α := FwS) (fun a => [(1, .ptr 0 0 0 0), (55, .slc 6 (d.l.map Node.enc)), (56, vi d.l.length), (57, vi a.i)]) (fun a => ⟨[⟨0, 5, [d.enc], false, []⟩], a.clk⟩)
          (fun a => a.i ≤ d.l.length ∧ ∀ i, i < a.i → ¬ badK d i) (fun a => d.l.length - a.i) ⟨0, 1⟩ ⟨Nat.zero_le _, fun i hi => by simp at hi⟩ (St.mk (by simp [Agrees, upd_at, initE_at, Doc.enc])) fun a ha => ?_
        obtain ⟨k, clk⟩ := a
        simp only at ha
        obtain ⟨h1, h2⟩ := ha
        by_cases hkl : k = d.l.length
        · have hr' : rightB d = true := by
            rw [hr, decide_eq_true_eq]; exact ⟨h, fun i hi => h2 i (by omega)⟩
          simp only [hkl, Int.lt_irrefl, hr', go_sem, wpR_gcall, reduceCtorEq, reduceIte, Nat.reduceEqDiff, Nat.reduceAdd, Nat.reduceSub, Nat.reduceMul, Nat.reduceLT, Nat.reduceLeDiff, Nat.reduceBEq, Int.reduceEq, Int.reduceLT, Int.reduceLE, Int.reduceAdd, Int.reduceSub, Int.reduceNeg, Int.reduceToNat]
        · have e1 : (k : Int) < (d.l.length : Int) := by omega
          have hg := getD_nodes d.l k [.c (.int .i64 0), .c (.string ⟨#[]⟩), .c (.string ⟨#[]⟩), .c (.slice none 0 0), .c (.slice none 0 0), .c (.string ⟨#[]⟩)] (by omega)
          simp only [Doc.enc, e1, hg, Node.enc, l1, l2, l3, l4, getD_bools, getD_strs, go_sem, wpR_gcall, reduceCtorEq, reduceIte, Nat.reduceEqDiff, Nat.reduceAdd, Nat.reduceSub, Nat.reduceMul, Nat.reduceLT, Nat.reduceLeDiff, Nat.reduceBEq, Int.reduceEq, Int.reduceLT, Int.reduceLE, Int.reduceAdd, Int.reduceSub, Int.reduceNeg, Int.reduceToNat]
          have hb : badK d k ↔ (¬(0 ≤ d.bef.getD k 0 ∧ d.bef.getD k 0 ≤ 4) ∨ ¬(0 ≤ d.aft.getD k 0 ∧ d.aft.getD k 0 ≤ 4)) ∨ (d.l.getD k Node.zero).type = { data := #[] } ∧ (((d.run.getD k false = true ∨ ¬d.bef.getD k 0 = 0) ∨ ¬d.aft.getD k 0 = 0) ∨ ¬d.page.getD k { data := #[] } = { data := #[] }) := by
            unfold badK; simp only [ne_eq, or_assoc]
          refine ⟨by omega, by omega, fun h => ⟨h, by omega⟩, by cases d.run.getD k false <;> simp, fun h => ⟨h, by omega⟩, ?_, fun h => ⟨h, by omega⟩, ?_, by omega, fun h => ⟨h, by omega⟩, by omega, fun h => ⟨h, ?_⟩, ?_, fun h => ?_, fun h => ⟨by omega, ⟨k + 1, clk + 1⟩, ⟨by dsimp only; omega, fun i hi => ?_⟩, by dsimp only; omega, by dsimp only; omega, rfl⟩⟩
          · cases d.run.getD k false <;> simp <;> omega
          · cases d.run.getD k false <;> simp <;> omega
          · by_cases ht : (d.l.getD k Node.zero).type = { data := #[] }
            · simp only [ht, h.1, h.2, decide_true, cond_true, and_self]; rfl
            · simp only [ht, decide_false, cond_false]
          · omega
          · rw [hr, eq_comm, decide_eq_false_iff_not]; exact fun hh => hh.2 k (by omega) (hb.2 h)
          · by_cases e : i = k
            · subst e; rw [hb]; rintro (hh | hh)
              · omega
              · rcases h.2 with h' | h'
                · exact h' hh.1
                · rcases hh.2 with ((hh | hh) | hh) | hh
                  · rw [h'.1.1.1] at hh; cases hh
                  · exact hh h'.1.1.2
                  · exact hh h'.1.2
                  · exact hh h'.2
            · exact h2 i (by dsimp only at hi; omega)
    · have hr : rightB d = false := by
        unfold rightB; rw [hD, Bool.true_and, decide_eq_false_iff_not]; exact fun h => hL h.1
      unfold lens at hL
      simp only [c22, Doc.enc, nodes, dNodes_map, chkOf, bad_eq, e0, getD_bools, hr, go_sem, wpR_gcall, reduceCtorEq, reduceIte, Nat.reduceEqDiff, Nat.reduceAdd, Nat.reduceSub, Nat.reduceMul, Nat.reduceLT, Nat.reduceLeDiff, Nat.reduceBEq, Int.reduceEq, Int.reduceLT, Int.reduceLE, Int.reduceAdd, Int.reduceSub, Int.reduceNeg, Int.reduceToNat]
      exact ⟨hl, by omega, by omega, by omega, fun h => by omega, by omega, fun h => by exfalso; omega⟩
  · have e0 : (if 0 ≤ badR d.l ∨ d.l.length = 0 then (5 : Int) else 0) = 5 := by
      unfold docB at hD; rw [decide_eq_true_eq] at hD; rw [if_pos]; omega
    have hr : rightB d = false := by
      unfold rightB; simp only [hD, Bool.false_and]
    simp only [c22, Doc.enc, nodes, dNodes_map, chkOf, bad_eq, e0, getD_bools, hr, go_sem, wpR_gcall, reduceCtorEq, reduceIte, Nat.reduceEqDiff, Nat.reduceAdd, Nat.reduceSub, Nat.reduceMul, Nat.reduceLT, Nat.reduceLeDiff, Nat.reduceBEq, Int.reduceEq, Int.reduceLT, Int.reduceLE, Int.reduceAdd, Int.reduceSub, Int.reduceNeg, Int.reduceToNat]
    exact hl
def sumRightT : Sum Try.prog := ⟨22, fun args => args = [.agg (Doc.enc (dDoc (args.getD 0 .any)))] ∧ ((dDoc (args.getD 0 .any))).l.length ≤ 1000, fun args => vb (rightB (dDoc (args.getD 0 .any))), fun args h => by
  have := rightT_ok (dDoc (args.getD 0 .any)) h.2; rwa [← h.1] at this, true⟩
theorem sumRightT_f : sumRightT.f = 22 := rfl
theorem sumRightT_D (args : List V) : sumRightT.D args = (args = [.agg (Doc.enc (dDoc (args.getD 0 .any)))] ∧ ((dDoc (args.getD 0 .any))).l.length ≤ 1000) := rfl
theorem sumRightT_flat : sumRightT.flat = true := rfl
theorem sumRightT_r (args : List V) : sumRightT.r args = vb (rightB (dDoc (args.getD 0 .any))) := rfl
attribute [go_sem] sumRightT_f sumRightT_D sumRightT_flat sumRightT_r
end Go.Proofs.Yteifbbinfipdlaa
