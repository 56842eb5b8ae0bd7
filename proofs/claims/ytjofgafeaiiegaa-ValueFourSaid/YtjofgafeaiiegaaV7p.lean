/- Layer 7: four lengths, by the document. -/
import Derived.Test.YtjofgafeaiiegaaV7o
namespace Go.Proofs.Ytjofgafeaiiegaa
open Go.Sx
set_option linter.unusedSimpArgs false
set_option maxHeartbeats 4000000
set_option maxRecDepth 20000

theorem lengthsR_ok (l : List Tok) (h : okT l) : PCall Try.prog 28 [toks l] (lnsR (lnsO l)) := by
  refine PCall.of (Orc.cons sumPtsR (Orc.cons sumLenR (Orc.nil _))) c28_ok (by simp [c28]) fun w0 own0 => ?_
  have h1 := h.1
  have hm := pl_mem h
  unfold lnsO
  have hlen := pl_len l
  by_cases hc : ptB l = true ∧ 1 ≤ (pl l).length ∧ (pl l).length ≤ 4
  · rw [if_pos hc]
    obtain ⟨c1, c2, c3⟩ := hc
    generalize hL : pl l = L at *
    generalize hR : (lnsL L).map fourL = R
    have g1 : ¬ ((L.length : Int) < 1) := by omega
    have g2 : ¬ ((4 : Int) < (L.length : Int)) := by omega
    have g3 : ¬ ((L.length : Int) = 0) := by omega
    simp only [c28, toks, dToks_map, h1, plV, hL, c1, g1, g2, g3, sumPtsR_f, sumPtsR_D, sumPtsR_flat, sumPtsR_r, sumLenR_f, sumLenR_D, sumLenR_flat, sumLenR_r, go_sem, wpR_gcall, reduceCtorEq, reduceIte, Nat.reduceEqDiff, Nat.reduceAdd, Nat.reduceSub, Nat.reduceMul, Nat.reduceLT, Nat.reduceLeDiff, Nat.reduceBEq, Int.reduceEq, Int.reduceLT, Int.reduceLE, Int.reduceAdd, Int.reduceSub, Int.reduceNeg, Int.reduceToNat]
    refine SemC.lp (α := LnS) (fun a => [(6, .ref 0 a.ver 0 a.out.length), (4, .slc 4 (L.map Pa.enc)), (7, vi a.k)])
      (fun a => ⟨[⟨a.ver, 1, a.out.map fun n => [vi n], false, [vi 0]⟩], a.clk⟩) (fun a => a.k ≤ L.length ∧ a.out.length = a.k ∧ ((lnsL (L.drop a.k)).map (a.out ++ ·)).map fourL = R) (fun a => L.length - a.k) ⟨0, [], 0, 1⟩
      ⟨Nat.zero_le _, rfl, by rw [← hR]; simp only [List.drop_zero, List.nil_append]; cases lnsL L <;> rfl⟩ (St.nil 6 1 [vi 0] (by simp [upd_at]) (St.cut ?_ ?_ ?_)) fun a ha => ?_
    · simp [Agrees, upd_at, initE_at]
    · simp [Heap.alloc]
    · rfl
    obtain ⟨k, out, ver, clk⟩ := a
    obtain ⟨h2, h3, h4⟩ := ha
    simp only at h2 h3 h4
    by_cases hk : k = L.length
    · subst hk
      rw [List.drop_length] at h4
      simp only [lnsL, Option.map_some, List.append_nil] at h4
      subst h4
      have hcase : (∃ a, out = [a]) ∨ (∃ a b, out = [a, b]) ∨ (∃ a b c, out = [a, b, c]) ∨ ∃ a b c d, out = [a, b, c, d] := by
        match out, h3 with
        | [], h3 => simp at h3; omega
        | [a], _ => exact .inl ⟨a, rfl⟩
        | [a, b], _ => exact .inr (.inl ⟨a, b, rfl⟩)
        | [a, b, c], _ => exact .inr (.inr (.inl ⟨a, b, c, rfl⟩))
        | [a, b, c, d], _ => exact .inr (.inr (.inr ⟨a, b, c, d, rfl⟩))
        | _ :: _ :: _ :: _ :: _ :: r, h3 => simp at h3; omega
      rcases hcase with ⟨a, rfl⟩ | ⟨a, b, rfl⟩ | ⟨a, b, c, rfl⟩ | ⟨a, b, c, d, rfl⟩
      · have hLn : (L.length : Int) = 1 := by rw [← h3]; rfl
        simp only [Int.lt_irrefl, fourL, lnsR, ints, List.map_cons, List.map_nil, sumPtsR_f, sumPtsR_D, sumPtsR_flat, sumPtsR_r, sumLenR_f, sumLenR_D, sumLenR_flat, sumLenR_r, go_sem, wpR_gcall, reduceCtorEq, reduceIte, Nat.reduceEqDiff, Nat.reduceAdd, Nat.reduceSub, Nat.reduceMul, Nat.reduceLT, Nat.reduceLeDiff, Nat.reduceBEq, Int.reduceEq, Int.reduceLT, Int.reduceLE, Int.reduceAdd, Int.reduceSub, Int.reduceNeg, Int.reduceToNat]
      · have hLn : (L.length : Int) = 2 := by rw [← h3]; rfl
        simp only [Int.lt_irrefl, fourL, lnsR, ints, List.map_cons, List.map_nil, sumPtsR_f, sumPtsR_D, sumPtsR_flat, sumPtsR_r, sumLenR_f, sumLenR_D, sumLenR_flat, sumLenR_r, go_sem, wpR_gcall, reduceCtorEq, reduceIte, Nat.reduceEqDiff, Nat.reduceAdd, Nat.reduceSub, Nat.reduceMul, Nat.reduceLT, Nat.reduceLeDiff, Nat.reduceBEq, Int.reduceEq, Int.reduceLT, Int.reduceLE, Int.reduceAdd, Int.reduceSub, Int.reduceNeg, Int.reduceToNat]
      · have hLn : (L.length : Int) = 3 := by rw [← h3]; rfl
        simp only [Int.lt_irrefl, fourL, lnsR, ints, List.map_cons, List.map_nil, sumPtsR_f, sumPtsR_D, sumPtsR_flat, sumPtsR_r, sumLenR_f, sumLenR_D, sumLenR_flat, sumLenR_r, go_sem, wpR_gcall, reduceCtorEq, reduceIte, Nat.reduceEqDiff, Nat.reduceAdd, Nat.reduceSub, Nat.reduceMul, Nat.reduceLT, Nat.reduceLeDiff, Nat.reduceBEq, Int.reduceEq, Int.reduceLT, Int.reduceLE, Int.reduceAdd, Int.reduceSub, Int.reduceNeg, Int.reduceToNat]
      · have hLn : (L.length : Int) = 4 := by rw [← h3]; rfl
        simp only [Int.lt_irrefl, fourL, lnsR, ints, List.map_cons, List.map_nil, sumPtsR_f, sumPtsR_D, sumPtsR_flat, sumPtsR_r, sumLenR_f, sumLenR_D, sumLenR_flat, sumLenR_r, go_sem, wpR_gcall, reduceCtorEq, reduceIte, Nat.reduceEqDiff, Nat.reduceAdd, Nat.reduceSub, Nat.reduceMul, Nat.reduceLT, Nat.reduceLeDiff, Nat.reduceBEq, Int.reduceEq, Int.reduceLT, Int.reduceLE, Int.reduceAdd, Int.reduceSub, Int.reduceNeg, Int.reduceToNat]
    · have e1 : (k : Int) < (L.length : Int) := by omega
      have e0 : (0 : Int) ≤ (k : Int) := by omega
      have hlt : k < L.length := by omega
      rw [lnsL_drop L k hlt] at h4
      have hg := getD_pas L k [vi 0, vs ⟨#[]⟩, vi 0, vnil] hlt
      have hx : (L.getD k default).t.text.size ≤ 1000000 := by
        have := (hm (L.getD k default) (by rw [List.getD_eq_getElem?_getD, List.getElem?_eq_getElem hlt]; exact List.getElem_mem _)).1
        exact this
      generalize L.getD k default = x at *
      have hot : out.take out.length = out := List.take_length
      have hot2 : out.take k = out := by rw [← h3]; exact hot
      cases ho : lenO x.t with
      | none =>
        rw [ho] at h4
        simp only [Option.map_none] at h4
        subst h4
        simp only [e0, e1, hg, hx, ho, cntR, lnsR, Pa.enc, Tok.enc, dTok_mk, Tok.eta, sumPtsR_f, sumPtsR_D, sumPtsR_flat, sumPtsR_r, sumLenR_f, sumLenR_D, sumLenR_flat, sumLenR_r, go_sem, wpR_gcall, reduceCtorEq, reduceIte, Nat.reduceEqDiff, Nat.reduceAdd, Nat.reduceSub, Nat.reduceMul, Nat.reduceLT, Nat.reduceLeDiff, Nat.reduceBEq, Int.reduceEq, Int.reduceLT, Int.reduceLE, Int.reduceAdd, Int.reduceSub, Int.reduceNeg, Int.reduceToNat]
      | some n =>
        rw [ho] at h4
        simp only at h4
        simp only [e0, e1, hg, hx, ho, cntR, hot, Pa.enc, Tok.enc, dTok_mk, Tok.eta, ints, sumPtsR_f, sumPtsR_D, sumPtsR_flat, sumPtsR_r, sumLenR_f, sumLenR_D, sumLenR_flat, sumLenR_r, go_sem, wpR_gcall, reduceCtorEq, reduceIte, Nat.reduceEqDiff, Nat.reduceAdd, Nat.reduceSub, Nat.reduceMul, Nat.reduceLT, Nat.reduceLeDiff, Nat.reduceBEq, Int.reduceEq, Int.reduceLT, Int.reduceLE, Int.reduceAdd, Int.reduceSub, Int.reduceNeg, Int.reduceToNat]
        refine ⟨⟨by omega, by omega, by omega⟩, by omega, ⟨k + 1, out ++ [n], clk + 1, clk + 2⟩, ⟨by dsimp only; omega, by simp; omega, ?_⟩, by dsimp only; omega, ?_⟩
        · rw [← h4]; cases lnsL (L.drop (k + 1)) <;> simp
        · simp
  · rw [if_neg hc]
    cases hb : ptB l with
    | false => simp only [c28, toks, dToks_map, h1, plV, hb, lnsR, sumPtsR_f, sumPtsR_D, sumPtsR_flat, sumPtsR_r, sumLenR_f, sumLenR_D, sumLenR_flat, sumLenR_r, go_sem, wpR_gcall, reduceCtorEq, reduceIte, Nat.reduceEqDiff, Nat.reduceAdd, Nat.reduceSub, Nat.reduceMul, Nat.reduceLT, Nat.reduceLeDiff, Nat.reduceBEq, Int.reduceEq, Int.reduceLT, Int.reduceLE, Int.reduceAdd, Int.reduceSub, Int.reduceNeg, Int.reduceToNat]
    | true =>
      have hn : (pl l).length = 0 ∨ 4 < (pl l).length := by
        rcases Nat.lt_or_ge 4 (pl l).length with hh | hh
        · exact .inr hh
        · exact .inl (Decidable.byContradiction fun hz => hc ⟨hb, by omega, hh⟩)
      rcases hn with hz | hz
      · have hz1 : ((pl l).length : Int) = 0 := by omega
        simp only [c28, toks, dToks_map, h1, plV, hb, hz1, lnsR, sumPtsR_f, sumPtsR_D, sumPtsR_flat, sumPtsR_r, sumLenR_f, sumLenR_D, sumLenR_flat, sumLenR_r, go_sem, wpR_gcall, reduceCtorEq, reduceIte, Nat.reduceEqDiff, Nat.reduceAdd, Nat.reduceSub, Nat.reduceMul, Nat.reduceLT, Nat.reduceLeDiff, Nat.reduceBEq, Int.reduceEq, Int.reduceLT, Int.reduceLE, Int.reduceAdd, Int.reduceSub, Int.reduceNeg, Int.reduceToNat]
      · have g1 : ¬ (((pl l).length : Int) < 1) := by omega
        have g2 : ((4 : Int) < ((pl l).length : Int)) := by omega
        have g3 : ¬ (((pl l).length : Int) = 0) := by omega
        simp only [c28, toks, dToks_map, h1, plV, hb, g1, g2, g3, lnsR, sumPtsR_f, sumPtsR_D, sumPtsR_flat, sumPtsR_r, sumLenR_f, sumLenR_D, sumLenR_flat, sumLenR_r, go_sem, wpR_gcall, reduceCtorEq, reduceIte, Nat.reduceEqDiff, Nat.reduceAdd, Nat.reduceSub, Nat.reduceMul, Nat.reduceLT, Nat.reduceLeDiff, Nat.reduceBEq, Int.reduceEq, Int.reduceLT, Int.reduceLE, Int.reduceAdd, Int.reduceSub, Int.reduceNeg, Int.reduceToNat]
def sumLnsR : Sum Try.prog := ⟨28, fun args => args = [toks (dToks (args.getD 0 .any))] ∧ okT (dToks (args.getD 0 .any)), fun args => lnsV (lnsO (dToks (args.getD 0 .any))), fun args h => by
  have := lnsR_sub _ (lengthsR_ok (dToks (args.getD 0 .any)) h.2); rwa [← h.1] at this, false⟩
theorem sumLnsR_f : sumLnsR.f = 28 := rfl
theorem sumLnsR_D (args : List V) : sumLnsR.D args = (args = [toks (dToks (args.getD 0 .any))] ∧ okT (dToks (args.getD 0 .any))) := rfl
theorem sumLnsR_flat : sumLnsR.flat = false := rfl
theorem sumLnsR_r (args : List V) : sumLnsR.r args = lnsV (lnsO (dToks (args.getD 0 .any))) := rfl
end Go.Proofs.Ytjofgafeaiiegaa
