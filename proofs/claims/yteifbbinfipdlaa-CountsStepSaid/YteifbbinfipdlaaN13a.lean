/- Flows: encodings, few, given, right. -/
import Derived.Test.YteifbbinfipdlaaD9f
namespace Go.Proofs.Yteifbbinfipdlaa
open Go.Sx
set_option linter.unusedSimpArgs false
set_option maxHeartbeats 4000000
set_option maxRecDepth 20000

structure Doc where
  l : List Node
  run : List Bool
  bef : List Int
  aft : List Int
  page : List ByteArray
def Doc.enc (d : Doc) : List V := [.slc 6 (d.l.map Node.enc), .slc 1 (d.run.map fun b => [vb b]), .slc 1 (d.bef.map fun n => [vi n]), .slc 1 (d.aft.map fun n => [vi n]), .slc 1 (d.page.map fun s => [vs s])]
def dDocL (l : List V) : Doc := ⟨dNodes (l.getD 0 .any), dBools (l.getD 1 .any), dInts (l.getD 2 .any), dInts (l.getD 3 .any), dStrs (l.getD 4 .any)⟩
def dDoc (v : V) : Doc := dDocL v.cs
theorem dDoc_enc (d : Doc) : dDoc (.agg d.enc) = d := by
  simp [dDoc, dDocL, Doc.enc, V.cs, dNodes_map, dBools_map, dInts_map, dStrs_map]
theorem dDoc_mk (l : List Node) (r : List Bool) (b a : List Int) (p : List ByteArray) : dDoc (.agg [.slc 6 (l.map Node.enc), .slc 1 (r.map fun b => [.c (.bool b)]), .slc 1 (b.map fun n => [.c (.int .i64 n)]), .slc 1 (a.map fun n => [.c (.int .i64 n)]), .slc 1 (p.map fun s => [.c (.string s)])]) = ⟨l, r, b, a, p⟩ := dDoc_enc ⟨l, r, b, a, p⟩
theorem Doc.eta (d : Doc) : (⟨d.l, d.run, d.bef, d.aft, d.page⟩ : Doc) = d := rfl
def runB (d : Doc) (k : Nat) : Bool := d.run.getD k false
def few12 (d : Doc) : Bool := decide ((∀ i, i < d.page.length → i ≤ 60 → (d.page.getD i ⟨#[]⟩).size ≤ 50) ∧ few9 d.l = true ∧ d.run.length ≤ 60 ∧ d.bef.length ≤ 60 ∧ d.aft.length ≤ 60 ∧ d.page.length ≤ 60)
theorem few12_ok (d : Doc) : PCall Try.prog 24 [.agg d.enc] (vb (few12 d)) := by
  refine PCall.of (Orc.cons sumFew9 (Orc.nil _)) c24_ok (by simp [c24]) fun w0 own0 => ?_
  simp only [c24, Doc.enc, go_sem, wpR_gcall, reduceCtorEq, reduceIte, Nat.reduceEqDiff, Nat.reduceAdd, Nat.reduceSub, Nat.reduceMul, Nat.reduceLT, Nat.reduceLeDiff, Nat.reduceBEq, Int.reduceEq, Int.reduceLT, Int.reduceLE, Int.reduceAdd, Int.reduceSub, Int.reduceNeg, Int.reduceToNat]
  refine SemC.lp (α := Nat) (fun k => [(1, .ptr 0 0 0 0), (3, vi k)]) (fun _ => ⟨[⟨0, 5, [d.enc], false, []⟩], 1⟩)
    (fun k => k ≤ d.page.length ∧ k ≤ 61 ∧ ∀ i, i < k → (d.page.getD i ⟨#[]⟩).size ≤ 50) (fun k => d.page.length - k) 0 ⟨Nat.zero_le _, by omega, fun i hi => by omega⟩ (St.mk (by simp [Agrees, upd_at, initE_at])) fun k hk => ?_
  obtain ⟨h1, h2, h3⟩ := hk
  by_cases hkl : k < d.page.length ∧ k ≤ 60
  · have e1 : (k : Int) < (d.page.length : Int) := by omega
    have e2 : (k : Int) ≤ 60 := by omega
    simp only [Doc.enc, e1, e2, getD_strs, go_sem, wpR_gcall, reduceCtorEq, reduceIte, Nat.reduceEqDiff, Nat.reduceAdd, Nat.reduceSub, Nat.reduceMul, Nat.reduceLT, Nat.reduceLeDiff, Nat.reduceBEq, Int.reduceEq, Int.reduceLT, Int.reduceLE, Int.reduceAdd, Int.reduceSub, Int.reduceNeg, Int.reduceToNat]
    refine ⟨by omega, fun h => ?_, fun h => ⟨by omega, k + 1, ⟨by omega, by omega, fun i hi => ?_⟩, by omega, by omega⟩⟩
    · have hh : few12 d = false := by
        unfold few12; rw [decide_eq_false_iff_not]; intro hh
        have := hh.1 k hkl.1 hkl.2
        simp only [ByteArray.size] at this
        simp at h this
        omega
      rw [hh]
    · by_cases e : i = k
      · subst e; simp only [ByteArray.size]; simp at h ⊢; omega
      · exact h3 i (by omega)
  · have e3 : ¬ ((k : Int) < (d.page.length : Int) ∧ (k : Int) ≤ 60) := by omega
    have hp : ∀ i, i < d.page.length → i ≤ 60 → (d.page.getD i ⟨#[]⟩).size ≤ 50 := fun i _ _ => h3 i (by omega)
    have hh : few12 d = (few9 d.l && decide ((d.run.length : Int) ≤ 60) && decide ((d.bef.length : Int) ≤ 60) && decide ((d.aft.length : Int) ≤ 60) && decide ((d.page.length : Int) ≤ 60)) := by
      unfold few12
      rw [Bool.eq_iff_iff]
      simp only [decide_eq_true_eq, Bool.and_eq_true]
      constructor
      · rintro ⟨_, a, b, c, d, e⟩; exact ⟨⟨⟨⟨a, by omega⟩, by omega⟩, by omega⟩, by omega⟩
      · rintro ⟨⟨⟨⟨a, b⟩, c⟩, d⟩, e⟩; exact ⟨hp, a, by omega, by omega, by omega, by omega⟩
    rw [hh]
    by_cases e1 : (k : Int) < (d.page.length : Int)
    · have e2 : ¬ (k : Int) ≤ 60 := by omega
      simp only [Doc.enc, e1, e2, nodes, dNodes_map, go_sem, wpR_gcall, reduceCtorEq, reduceIte, Nat.reduceEqDiff, Nat.reduceAdd, Nat.reduceSub, Nat.reduceMul, Nat.reduceLT, Nat.reduceLeDiff, Nat.reduceBEq, Int.reduceEq, Int.reduceLT, Int.reduceLE, Int.reduceAdd, Int.reduceSub, Int.reduceNeg, Int.reduceToNat]
    · simp only [Doc.enc, e1, nodes, dNodes_map, go_sem, wpR_gcall, reduceCtorEq, reduceIte, Nat.reduceEqDiff, Nat.reduceAdd, Nat.reduceSub, Nat.reduceMul, Nat.reduceLT, Nat.reduceLeDiff, Nat.reduceBEq, Int.reduceEq, Int.reduceLT, Int.reduceLE, Int.reduceAdd, Int.reduceSub, Int.reduceNeg, Int.reduceToNat]
def sumFew12 : Sum Try.prog := ⟨24, fun args => args = [.agg (Doc.enc (dDoc (args.getD 0 .any)))], fun args => vb (few12 (dDoc (args.getD 0 .any))), fun args h => by
  have := few12_ok (dDoc (args.getD 0 .any)); rwa [← h] at this, true⟩
theorem sumFew12_f : sumFew12.f = 24 := rfl
theorem sumFew12_D (args : List V) : sumFew12.D args = (args = [.agg (Doc.enc (dDoc (args.getD 0 .any)))]) := rfl
theorem sumFew12_flat : sumFew12.flat = true := rfl
theorem sumFew12_r (args : List V) : sumFew12.r args = vb (few12 (dDoc (args.getD 0 .any))) := rfl
attribute [go_sem] sumFew12_f sumFew12_D sumFew12_flat sumFew12_r
theorem given_ok (d : Doc) : PCall Try.prog 11 [.agg d.enc] (.agg d.enc) := by
  refine PCall.of (Orc.nil _) c11_ok (by simp [c11]) fun w0 own0 => ?_
  simp only [c11, Doc.enc, go_sem, wpR_gcall, reduceCtorEq, reduceIte, Nat.reduceEqDiff, Nat.reduceAdd, Nat.reduceSub, Nat.reduceMul, Nat.reduceLT, Nat.reduceLeDiff, Nat.reduceBEq, Int.reduceEq, Int.reduceLT, Int.reduceLE, Int.reduceAdd, Int.reduceSub, Int.reduceNeg, Int.reduceToNat]
def sumGiven : Sum Try.prog := ⟨11, fun args => args = [.agg (Doc.enc (dDoc (args.getD 0 .any)))], fun args => .agg (Doc.enc (dDoc (args.getD 0 .any))), fun args h => by
  have := given_ok (dDoc (args.getD 0 .any)); rwa [← h] at this, false⟩
theorem sumGiven_f : sumGiven.f = 11 := rfl
theorem sumGiven_D (args : List V) : sumGiven.D args = (args = [.agg (Doc.enc (dDoc (args.getD 0 .any)))]) := rfl
theorem sumGiven_flat : sumGiven.flat = false := rfl
theorem sumGiven_r (args : List V) : sumGiven.r args = .agg (Doc.enc (dDoc (args.getD 0 .any))) := rfl
attribute [go_sem] sumGiven_f sumGiven_D sumGiven_flat sumGiven_r
theorem plain_ok (n : Int) : PCall Try.prog 43 [vi n] (vb (decide (0 ≤ n ∧ n ≤ 4))) := by
  refine PCall.of (Orc.nil _) c43_ok (by simp [c43]) fun w0 own0 => ?_
  simp only [c43, go_sem, wpR_gcall, reduceCtorEq, reduceIte, Nat.reduceEqDiff, Nat.reduceAdd, Nat.reduceSub, Nat.reduceMul, Nat.reduceLT, Nat.reduceLeDiff, Nat.reduceBEq, Int.reduceEq, Int.reduceLT, Int.reduceLE, Int.reduceAdd, Int.reduceSub, Int.reduceNeg, Int.reduceToNat]
  simp
def sumPlain : Sum Try.prog := ⟨43, fun args => args = [vi ((args.getD 0 .any).int)], fun args => vb (decide (0 ≤ ((args.getD 0 .any).int) ∧ ((args.getD 0 .any).int) ≤ 4)), fun args h => by
  have := plain_ok ((args.getD 0 .any).int); rwa [← h] at this, true⟩
theorem sumPlain_f : sumPlain.f = 43 := rfl
theorem sumPlain_D (args : List V) : sumPlain.D args = (args = [vi ((args.getD 0 .any).int)]) := rfl
theorem sumPlain_flat : sumPlain.flat = true := rfl
theorem sumPlain_r (args : List V) : sumPlain.r args = vb (decide (0 ≤ ((args.getD 0 .any).int) ∧ ((args.getD 0 .any).int) ≤ 4)) := rfl
attribute [go_sem] sumPlain_f sumPlain_D sumPlain_flat sumPlain_r
def lens (d : Doc) : Prop := d.run.length = d.l.length ∧ d.bef.length = d.l.length ∧ d.aft.length = d.l.length ∧ d.page.length = d.l.length
def badK (d : Doc) (k : Nat) : Prop := ¬ (0 ≤ d.bef.getD k 0 ∧ d.bef.getD k 0 ≤ 4) ∨ ¬ (0 ≤ d.aft.getD k 0 ∧ d.aft.getD k 0 ≤ 4) ∨ ((d.l.getD k .zero).type = ⟨#[]⟩ ∧ (d.run.getD k false = true ∨ d.bef.getD k 0 ≠ 0 ∨ d.aft.getD k 0 ≠ 0 ∨ d.page.getD k ⟨#[]⟩ ≠ ⟨#[]⟩))
instance (d : Doc) (k : Nat) : Decidable (badK d k) := by unfold badK; infer_instance
instance (d : Doc) : Decidable (lens d) := by unfold lens; infer_instance
def rightB (d : Doc) : Bool := docB d.l && decide (lens d ∧ d.run.getD 0 false = false ∧ ∀ k, k < d.l.length → ¬ badK d k)
theorem rightT_ok (d : Doc) (hl : d.l.length ≤ 1000) : PCall Try.prog 22 [.agg d.enc] (vb (rightB d)) := by
  refine PCall.of (Orc.cons sumChkT (Orc.cons sumPlain (Orc.nil _))) c22_ok (by simp [c22]) fun w0 own0 => ?_
  by_cases hD : docB d.l = true
  · have e0 : (if 0 ≤ badR d.l ∨ d.l.length = 0 then (5 : Int) else 0) = 0 := by
      unfold docB at hD; rw [decide_eq_true_eq] at hD; rw [if_neg]; omega
    by_cases hL : lens d
    · have hlp : 0 < d.l.length := by unfold docB at hD; rw [decide_eq_true_eq] at hD; omega
      have hr : rightB d = decide (d.run.getD 0 false = false ∧ ∀ k, k < d.l.length → ¬ badK d k) := by
        unfold rightB; rw [hD, Bool.true_and]; simp only [hL, true_and]
      obtain ⟨l1, l2, l3, l4⟩ := hL
      have hlp' : (0 : Int) < (d.l.length : Int) := by omega
      simp only [c22, Doc.enc, nodes, dNodes_map, chkOf, bad_eq, e0, l1, l2, l3, l4, hlp', getD_bools, go_sem, wpR_gcall, reduceCtorEq, reduceIte, Nat.reduceEqDiff, Nat.reduceAdd, Nat.reduceSub, Nat.reduceMul, Nat.reduceLT, Nat.reduceLeDiff, Nat.reduceBEq, Int.reduceEq, Int.reduceLT, Int.reduceLE, Int.reduceAdd, Int.reduceSub, Int.reduceNeg, Int.reduceToNat]
      refine ⟨hl, fun h => ?_, fun h => ?_⟩
      · rw [hr, eq_comm, decide_eq_false_iff_not]; exact fun hh => by rw [h] at hh; cases hh.1
      · refine SemC.lp (α := FwS) (fun a => [(1, .ptr 0 0 0 0), (55, .slc 6 (d.l.map Node.enc)), (56, vi d.l.length), (57, vi a.i)]) (fun a => ⟨[⟨0, 5, [d.enc], false, []⟩], a.clk⟩)
          (fun a => a.i ≤ d.l.length ∧ ∀ i, i < a.i → ¬ badK d i) (fun a => d.l.length - a.i) ⟨0, 1⟩ ⟨Nat.zero_le _, fun i hi => by simp at hi⟩ (St.mk (by simp [Agrees, upd_at, initE_at, Doc.enc])) fun a ha => ?_
        obtain ⟨k, clk⟩ := a
        simp only at ha
        obtain ⟨h1, h2⟩ := ha
        by_cases hkl : k = d.l.length
        · have hr' : rightB d = true := by
            rw [hr, decide_eq_true_eq]; exact ⟨h, fun i hi => h2 i (by omega)⟩
          simp only [hkl, Int.lt_irrefl, hr', go_sem, wpR_gcall, reduceCtorEq, reduceIte, Nat.reduceEqDiff, Nat.reduceAdd, Nat.reduceSub, Nat.reduceMul, Nat.reduceLT, Nat.reduceLeDiff, Nat.reduceBEq, Int.reduceEq, Int.reduceLT, Int.reduceLE, Int.reduceAdd, Int.reduceSub, Int.reduceNeg, Int.reduceToNat]
        · have e1 : (k : Int) < (d.l.length : Int) := by omega
          have hg := getD_nodes d.l k [.c (.int .i64 0), .c (.string ⟨#[]⟩), .c (.string ⟨#[]⟩), .c (.slice none 0 0), .c (.slice none 0 0), .c (.string ⟨#[]⟩)] (by omega)
          simp only [Doc.enc, e1, hg, Node.enc, l1, l2, l3, l4, getD_bools, getD_strs, go_sem, wpR_gcall, reduceCtorEq, reduceIte, Nat.reduceEqDiff, Nat.reduceAdd, Nat.reduceSub, Nat.reduceMul, Nat.reduceLT, Nat.reduceLeDiff, Nat.reduceBEq, Int.reduceEq, Int.reduceLT, Int.reduceLE, Int.reduceAdd, Int.reduceSub, Int.reduceNeg, Int.reduceToNat]
          have hb : badK d k ↔ (¬(0 ≤ d.bef.getD k 0 ∧ d.bef.getD k 0 ≤ 4) ∨ ¬(0 ≤ d.aft.getD k 0 ∧ d.aft.getD k 0 ≤ 4)) ∨ (d.l.getD k Node.zero).type = { data := #[] } ∧ (((d.run.getD k false = true ∨ ¬d.bef.getD k 0 = 0) ∨ ¬d.aft.getD k 0 = 0) ∨ ¬d.page.getD k { data := #[] } = { data := #[] }) := by
            unfold badK; simp only [ne_eq, or_assoc]
          refine ⟨by omega, by omega, fun h => ⟨h, by omega⟩, by cases d.run.getD k false <;> simp, fun h => ⟨h, by omega⟩, ?_, fun h => ⟨h, by omega⟩, ?_, by omega, fun h => ⟨h, by omega⟩, by omega, fun h => ⟨h, ?_⟩, ?_, fun h => ?_, fun h => ⟨by omega, ⟨k + 1, clk + 1⟩, ⟨by dsimp only; omega, fun i hi => ?_⟩, by dsimp only; omega, by dsimp only; omega, rfl⟩⟩
          · cases d.run.getD k false <;> simp <;> omega
          · cases d.run.getD k false <;> simp <;> omega
          · by_cases ht : (d.l.getD k Node.zero).type = { data := #[] }
            · simp only [ht, h.1, h.2, decide_true, cond_true, and_self]; rfl
            · simp only [ht, decide_false, cond_false]
          · omega
          · rw [hr, eq_comm, decide_eq_false_iff_not]; exact fun hh => hh.2 k (by omega) (hb.2 h)
          · by_cases e : i = k
            · subst e; rw [hb]; rintro (hh | hh)
              · omega
              · rcases h.2 with h' | h'
                · exact h' hh.1
                · rcases hh.2 with ((hh | hh) | hh) | hh
                  · rw [h'.1.1.1] at hh; cases hh
                  · exact hh h'.1.1.2
                  · exact hh h'.1.2
                  · exact hh h'.2
            · exact h2 i (by dsimp only at hi; omega)
    · have hr : rightB d = false := by
        unfold rightB; rw [hD, Bool.true_and, decide_eq_false_iff_not]; exact fun h => hL h.1
      unfold lens at hL
      simp only [c22, Doc.enc, nodes, dNodes_map, chkOf, bad_eq, e0, getD_bools, hr, go_sem, wpR_gcall, reduceCtorEq, reduceIte, Nat.reduceEqDiff, Nat.reduceAdd, Nat.reduceSub, Nat.reduceMul, Nat.reduceLT, Nat.reduceLeDiff, Nat.reduceBEq, Int.reduceEq, Int.reduceLT, Int.reduceLE, Int.reduceAdd, Int.reduceSub, Int.reduceNeg, Int.reduceToNat]
      exact ⟨hl, by omega, by omega, by omega, fun h => by omega, by omega, fun h => by exfalso; omega⟩
  · have e0 : (if 0 ≤ badR d.l ∨ d.l.length = 0 then (5 : Int) else 0) = 5 := by
      unfold docB at hD; rw [decide_eq_true_eq] at hD; rw [if_pos]; omega
    have hr : rightB d = false := by
      unfold rightB; simp only [hD, Bool.false_and]
    simp only [c22, Doc.enc, nodes, dNodes_map, chkOf, bad_eq, e0, getD_bools, hr, go_sem, wpR_gcall, reduceCtorEq, reduceIte, Nat.reduceEqDiff, Nat.reduceAdd, Nat.reduceSub, Nat.reduceMul, Nat.reduceLT, Nat.reduceLeDiff, Nat.reduceBEq, Int.reduceEq, Int.reduceLT, Int.reduceLE, Int.reduceAdd, Int.reduceSub, Int.reduceNeg, Int.reduceToNat]
    exact hl
def sumRightT : Sum Try.prog := ⟨22, fun args => args = [.agg (Doc.enc (dDoc (args.getD 0 .any)))] ∧ ((dDoc (args.getD 0 .any))).l.length ≤ 1000, fun args => vb (rightB (dDoc (args.getD 0 .any))), fun args h => by
  have := rightT_ok (dDoc (args.getD 0 .any)) h.2; rwa [← h.1] at this, true⟩
theorem sumRightT_f : sumRightT.f = 22 := rfl
theorem sumRightT_D (args : List V) : sumRightT.D args = (args = [.agg (Doc.enc (dDoc (args.getD 0 .any)))] ∧ ((dDoc (args.getD 0 .any))).l.length ≤ 1000) := rfl
theorem sumRightT_flat : sumRightT.flat = true := rfl
theorem sumRightT_r (args : List V) : sumRightT.r args = vb (rightB (dDoc (args.getD 0 .any))) := rfl
attribute [go_sem] sumRightT_f sumRightT_D sumRightT_flat sumRightT_r
end Go.Proofs.Yteifbbinfipdlaa
