/- Layer 7: page names, running elements. -/
import Derived.Test.YtjofgafeaiiegaaV7e
namespace Go.Proofs.Ytjofgafeaiiegaa
open Go.Sx
set_option linter.unusedSimpArgs false
set_option maxHeartbeats 4000000
set_option maxRecDepth 20000

def nameR : Option ByteArray → V
  | none => .tup [vs ⟨#[]⟩, vb false]
  | some s => .tup [vs s, vb true]
def soleN (l : List Tok) : Option ByteArray := (onlyP l).bind fun q => if namedB q = true then some q.t.text else none
def runP (p : Pa) : Option ByteArray := if identB p ⟨#[115, 116, 97, 116, 105, 99]⟩ = true then some ⟨#[]⟩ else if p.t.kind = 3 ∧ lowP p = ⟨#[114, 117, 110, 110, 105, 110, 103]⟩ then soleN p.al else none
def runN (l : List Tok) : Option ByteArray := (onlyP l).bind runP
theorem sole_ok (l : List Tok) (h : okT l) : PCall Try.prog 46 [toks l] (nameR (soleN l)) := by
  refine PCall.of (Orc.cons sumAl (Orc.cons sumNm (Orc.nil _))) c46_ok (by simp [c46]) fun w0 own0 => ?_
  unfold soleN
  cases hA : aloneV l with
  | none =>
    have hN : ((onlyP l).bind fun q => if namedB q = true then some q.t.text else none) = none := by
      unfold aloneV at hA
      cases hO : onlyP l with
      | none => rfl
      | some p =>
        rw [hO] at hA
        simp only at hA
        split at hA
        · cases hA
        · rename_i hk; simp [namedB, hk]
    rw [hN]
    simp only [c46, toks, dToks_map, h, hA, aloneR, nameR, dPa_mk0, okP7_0, Pa.enc, List.map_nil, go_sem, wpR_gcall, reduceCtorEq, reduceIte, Nat.reduceEqDiff, Nat.reduceAdd, Nat.reduceSub, Nat.reduceMul, Nat.reduceLT, Nat.reduceLeDiff, Nat.reduceBEq, Int.reduceEq, Int.reduceLT, Int.reduceLE, Int.reduceAdd, Int.reduceSub, Int.reduceNeg, Int.reduceToNat]
  | some p =>
    obtain ⟨hp, _, hO, hk⟩ := alone_mem h hA
    rw [hO, Option.bind_some]
    cases hn : namedB p with
    | true =>
      simp only [if_true]
      simp only [c46, toks, dToks_map, h, hA, aloneR, nameR, dPa_mk, Pa.etaT, Pa.eta', hp, hn, Pa.enc, go_sem, wpR_gcall, reduceCtorEq, reduceIte, Nat.reduceEqDiff, Nat.reduceAdd, Nat.reduceSub, Nat.reduceMul, Nat.reduceLT, Nat.reduceLeDiff, Nat.reduceBEq, Int.reduceEq, Int.reduceLT, Int.reduceLE, Int.reduceAdd, Int.reduceSub, Int.reduceNeg, Int.reduceToNat]
    | false =>
      simp only [Bool.false_eq_true, if_false]
      simp only [c46, toks, dToks_map, h, hA, aloneR, nameR, dPa_mk, Pa.etaT, Pa.eta', hp, hn, Pa.enc, go_sem, wpR_gcall, reduceCtorEq, reduceIte, Nat.reduceEqDiff, Nat.reduceAdd, Nat.reduceSub, Nat.reduceMul, Nat.reduceLT, Nat.reduceLeDiff, Nat.reduceBEq, Int.reduceEq, Int.reduceLT, Int.reduceLE, Int.reduceAdd, Int.reduceSub, Int.reduceNeg, Int.reduceToNat]
def sumSole : Sum Try.prog := ⟨46, fun args => args = [toks (dToks (args.getD 0 .any))] ∧ okT (dToks (args.getD 0 .any)), fun args => nameR (soleN (dToks (args.getD 0 .any))), fun args h => by
  have := sole_ok (dToks (args.getD 0 .any)) h.2; rwa [← h.1] at this, false⟩
theorem sumSole_f : sumSole.f = 46 := rfl
theorem sumSole_D (args : List V) : sumSole.D args = (args = [toks (dToks (args.getD 0 .any))] ∧ okT (dToks (args.getD 0 .any))) := rfl
theorem sumSole_flat : sumSole.flat = false := rfl
theorem sumSole_r (args : List V) : sumSole.r args = nameR (soleN (dToks (args.getD 0 .any))) := rfl
attribute [go_sem] sumSole_f sumSole_D sumSole_flat sumSole_r
theorem run_ok (l : List Tok) (h : okT l) : PCall Try.prog 20 [toks l] (nameR (runN l)) := by
  have h1 := h.1
  refine PCall.of (Orc.cons sumAl (Orc.cons sumIs7 (Orc.cons sumPts (Orc.cons sumLwP (Orc.cons sumSole (Orc.nil _)))))) c20_ok (by simp [c20]) fun w0 own0 => ?_
  unfold runN
  cases hO : onlyP l with
  | none =>
    have hA : aloneV l = none := by unfold aloneV; rw [hO]
    rw [Option.bind_none]
    cases hb : ptB l with
    | false => simp only [c20, toks, dToks_map, h, h1, hA, hb, plV, aloneR, nameR, dPa_mk0, okP7_0, Pa.enc, List.map_nil, go_sem, wpR_gcall, reduceCtorEq, reduceIte, Nat.reduceEqDiff, Nat.reduceAdd, Nat.reduceSub, Nat.reduceMul, Nat.reduceLT, Nat.reduceLeDiff, Nat.reduceBEq, Int.reduceEq, Int.reduceLT, Int.reduceLE, Int.reduceAdd, Int.reduceSub, Int.reduceNeg, Int.reduceToNat]
    | true =>
      have hn := (only_none hO).resolve_left (by rw [hb]; simp)
      simp only [c20, toks, dToks_map, h, h1, hA, hb, hn, plV, aloneR, nameR, dPa_mk0, okP7_0, Pa.enc, List.map_nil, go_sem, wpR_gcall, reduceCtorEq, reduceIte, Nat.reduceEqDiff, Nat.reduceAdd, Nat.reduceSub, Nat.reduceMul, Nat.reduceLT, Nat.reduceLeDiff, Nat.reduceBEq, Int.reduceEq, Int.reduceLT, Int.reduceLE, Int.reduceAdd, Int.reduceSub, Int.reduceNeg, Int.reduceToNat]
  | some p =>
    obtain ⟨hb, hpl⟩ := only_some hO
    obtain ⟨hp, hal⟩ := pl_mem h p (by rw [hpl]; simp)
    rw [Option.bind_some]
    unfold runP
    by_cases hk : p.t.kind = 2
    · have hA : aloneV l = some p := by unfold aloneV; rw [hO]; simp only [hk, if_true]
      have hk3 : ¬ (p.t.kind = 3 ∧ lowP p = ⟨#[114, 117, 110, 110, 105, 110, 103]⟩) := by omega
      cases hi : identB p ⟨#[115, 116, 97, 116, 105, 99]⟩ with
      | true =>
        simp only [if_true]
        simp only [c20, toks, dToks_map, h, hA, hi, hp, aloneR, nameR, dPa_mk, Pa.etaT, Pa.eta', Pa.enc, go_sem, wpR_gcall, reduceCtorEq, reduceIte, Nat.reduceEqDiff, Nat.reduceAdd, Nat.reduceSub, Nat.reduceMul, Nat.reduceLT, Nat.reduceLeDiff, Nat.reduceBEq, Int.reduceEq, Int.reduceLT, Int.reduceLE, Int.reduceAdd, Int.reduceSub, Int.reduceNeg, Int.reduceToNat]
      | false =>
        simp only [Bool.false_eq_true, if_false, if_neg hk3]
        simp only [c20, toks, dToks_map, h, hA, hi, hp, aloneR, nameR, dPa_mk, Pa.etaT, Pa.eta', Pa.enc, go_sem, wpR_gcall, reduceCtorEq, reduceIte, Nat.reduceEqDiff, Nat.reduceAdd, Nat.reduceSub, Nat.reduceMul, Nat.reduceLT, Nat.reduceLeDiff, Nat.reduceBEq, Int.reduceEq, Int.reduceLT, Int.reduceLE, Int.reduceAdd, Int.reduceSub, Int.reduceNeg, Int.reduceToNat]
    · have hA : aloneV l = none := by unfold aloneV; rw [hO]; simp only [hk, if_false]
      have hi : identB p ⟨#[115, 116, 97, 116, 105, 99]⟩ = false := by simp [identB, hk]
      rw [hi]
      simp only [Bool.false_eq_true, if_false]
      by_cases h3 : p.t.kind = 3
      · by_cases h4 : lowP p = ⟨#[114, 117, 110, 110, 105, 110, 103]⟩
        · simp only [h3, h4, and_self, if_true]
          have h' : okP7 ⟨⟨3, p.t.text, p.t.n⟩, p.al⟩ := hp
          have hl' : lowP ⟨⟨3, p.t.text, p.t.n⟩, p.al⟩ = ⟨#[114, 117, 110, 110, 105, 110, 103]⟩ := h4
          cases hs : soleN p.al with
          | none => simp only [c20, toks, dToks_map, h, h1, hA, hb, hpl, hal, h3, h', hl', hs, plV, aloneR, nameR, dPa_mk, Pa.etaT, Pa.eta', Pa.enc, go_sem, wpR_gcall, reduceCtorEq, reduceIte, Nat.reduceEqDiff, Nat.reduceAdd, Nat.reduceSub, Nat.reduceMul, Nat.reduceLT, Nat.reduceLeDiff, Nat.reduceBEq, Int.reduceEq, Int.reduceLT, Int.reduceLE, Int.reduceAdd, Int.reduceSub, Int.reduceNeg, Int.reduceToNat]
          | some s => simp only [c20, toks, dToks_map, h, h1, hA, hb, hpl, hal, h3, h', hl', hs, plV, aloneR, nameR, dPa_mk, Pa.etaT, Pa.eta', Pa.enc, go_sem, wpR_gcall, reduceCtorEq, reduceIte, Nat.reduceEqDiff, Nat.reduceAdd, Nat.reduceSub, Nat.reduceMul, Nat.reduceLT, Nat.reduceLeDiff, Nat.reduceBEq, Int.reduceEq, Int.reduceLT, Int.reduceLE, Int.reduceAdd, Int.reduceSub, Int.reduceNeg, Int.reduceToNat]
        · simp only [h3, h4, and_false, if_false]
          have h' : okP7 ⟨⟨3, p.t.text, p.t.n⟩, p.al⟩ := hp
          have hl' : ¬ lowP ⟨⟨3, p.t.text, p.t.n⟩, p.al⟩ = ⟨#[114, 117, 110, 110, 105, 110, 103]⟩ := h4
          simp only [c20, toks, dToks_map, h, h1, hA, hb, hpl, hal, h3, h', hl', plV, aloneR, nameR, dPa_mk, Pa.etaT, Pa.eta', Pa.enc, go_sem, wpR_gcall, reduceCtorEq, reduceIte, Nat.reduceEqDiff, Nat.reduceAdd, Nat.reduceSub, Nat.reduceMul, Nat.reduceLT, Nat.reduceLeDiff, Nat.reduceBEq, Int.reduceEq, Int.reduceLT, Int.reduceLE, Int.reduceAdd, Int.reduceSub, Int.reduceNeg, Int.reduceToNat]
      · simp only [h3, false_and, if_false]
        simp only [c20, toks, dToks_map, h, h1, hA, hb, hpl, hal, h3, hp, plV, aloneR, nameR, dPa_mk, Pa.etaT, Pa.eta', Pa.enc, go_sem, wpR_gcall, reduceCtorEq, reduceIte, Nat.reduceEqDiff, Nat.reduceAdd, Nat.reduceSub, Nat.reduceMul, Nat.reduceLT, Nat.reduceLeDiff, Nat.reduceBEq, Int.reduceEq, Int.reduceLT, Int.reduceLE, Int.reduceAdd, Int.reduceSub, Int.reduceNeg, Int.reduceToNat]
end Go.Proofs.Ytjofgafeaiiegaa
