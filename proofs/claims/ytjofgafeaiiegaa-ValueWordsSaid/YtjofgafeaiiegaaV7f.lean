/- Layer 7: page names, running elements. -/
import Derived.Test.YtjofgafeaiiegaaV7e
namespace Go.Proofs.Ytjofgafeaiiegaa
open Go.Sx
set_option linter.unusedSimpArgs false
set_option maxHeartbeats 4000000
set_option maxRecDepth 20000

def nameR : Option ByteArray → V
  | none => .tup [vs ⟨#[]⟩, vb false]
  | some s => .tup [vs s, vb true]
def nameP (p : Pa) : Option ByteArray := if identB p ⟨#[97, 117, 116, 111]⟩ = true then some ⟨#[]⟩ else if namedB p = true then some p.t.text else none
def nameN (l : List Tok) : Option ByteArray := (onlyP l).bind nameP
theorem nameP_nk {p : Pa} (h : ¬ p.t.kind = 2) : nameP p = none := by
  simp [nameP, identB, namedB, h]
theorem name_ok (l : List Tok) (h : okT l) : PCall Try.prog 18 [toks l] (nameR (nameN l)) := by
  refine PCall.of (Orc.cons sumAl (Orc.cons sumIs7 (Orc.cons sumNm (Orc.nil _)))) c18_ok (by simp [c18]) fun w0 own0 => ?_
  unfold nameN
  cases hA : aloneV l with
  | none =>
    have hN : (onlyP l).bind nameP = none := by
      unfold aloneV at hA
      cases hO : onlyP l with
      | none => rfl
      | some p =>
        rw [hO] at hA
        simp only at hA
        split at hA
        · cases hA
        · rename_i hk; exact nameP_nk hk
    rw [hN]
    simp only [c18, toks, dToks_map, h, hA, aloneR, nameR, dPa_mk0, okP7_0, Pa.enc, List.map_nil, sumAl_f, sumAl_D, sumAl_flat, sumAl_r, sumIs7_f, sumIs7_D, sumIs7_flat, sumIs7_r, sumNm_f, sumNm_D, sumNm_flat, sumNm_r, go_sem, wpR_gcall, reduceCtorEq, reduceIte, Nat.reduceEqDiff, Nat.reduceAdd, Nat.reduceSub, Nat.reduceMul, Nat.reduceLT, Nat.reduceLeDiff, Nat.reduceBEq, Int.reduceEq, Int.reduceLT, Int.reduceLE, Int.reduceAdd, Int.reduceSub, Int.reduceNeg, Int.reduceToNat]
  | some p =>
    obtain ⟨hp, _, hO, hk⟩ := alone_mem h hA
    rw [hO, Option.bind_some]
    unfold nameP
    cases hi : identB p ⟨#[97, 117, 116, 111]⟩ with
    | true =>
      simp only [if_true]
      simp only [c18, toks, dToks_map, h, hA, aloneR, nameR, dPa_mk, Pa.etaT, Pa.eta', hp, hi, Pa.enc, sumAl_f, sumAl_D, sumAl_flat, sumAl_r, sumIs7_f, sumIs7_D, sumIs7_flat, sumIs7_r, sumNm_f, sumNm_D, sumNm_flat, sumNm_r, go_sem, wpR_gcall, reduceCtorEq, reduceIte, Nat.reduceEqDiff, Nat.reduceAdd, Nat.reduceSub, Nat.reduceMul, Nat.reduceLT, Nat.reduceLeDiff, Nat.reduceBEq, Int.reduceEq, Int.reduceLT, Int.reduceLE, Int.reduceAdd, Int.reduceSub, Int.reduceNeg, Int.reduceToNat]
    | false =>
      cases hn : namedB p with
      | true =>
        simp only [Bool.false_eq_true, if_false, if_true]
        simp only [c18, toks, dToks_map, h, hA, aloneR, nameR, dPa_mk, Pa.etaT, Pa.eta', hp, hi, hn, Pa.enc, sumAl_f, sumAl_D, sumAl_flat, sumAl_r, sumIs7_f, sumIs7_D, sumIs7_flat, sumIs7_r, sumNm_f, sumNm_D, sumNm_flat, sumNm_r, go_sem, wpR_gcall, reduceCtorEq, reduceIte, Nat.reduceEqDiff, Nat.reduceAdd, Nat.reduceSub, Nat.reduceMul, Nat.reduceLT, Nat.reduceLeDiff, Nat.reduceBEq, Int.reduceEq, Int.reduceLT, Int.reduceLE, Int.reduceAdd, Int.reduceSub, Int.reduceNeg, Int.reduceToNat]
      | false =>
        simp only [Bool.false_eq_true, if_false]
        simp only [c18, toks, dToks_map, h, hA, aloneR, nameR, dPa_mk, Pa.etaT, Pa.eta', hp, hi, hn, Pa.enc, sumAl_f, sumAl_D, sumAl_flat, sumAl_r, sumIs7_f, sumIs7_D, sumIs7_flat, sumIs7_r, sumNm_f, sumNm_D, sumNm_flat, sumNm_r, go_sem, wpR_gcall, reduceCtorEq, reduceIte, Nat.reduceEqDiff, Nat.reduceAdd, Nat.reduceSub, Nat.reduceMul, Nat.reduceLT, Nat.reduceLeDiff, Nat.reduceBEq, Int.reduceEq, Int.reduceLT, Int.reduceLE, Int.reduceAdd, Int.reduceSub, Int.reduceNeg, Int.reduceToNat]
theorem nameR_ok (l : List Tok) (h : okT l) : PCall Try.prog 19 [toks l] (nameR (nameN l)) := by
  have h1 := h.1
  refine PCall.of (Orc.cons sumPtsR (Orc.cons sumId7 (Orc.cons sumNmR (Orc.nil _)))) c19_ok (by simp [c19]) fun w0 own0 => ?_
  unfold nameN
  cases hO : onlyP l with
  | none =>
    cases hb : ptB l with
    | false => simp only [c19, toks, dToks_map, h1, plV, hb, nameR, Option.bind_none, sumPtsR_f, sumPtsR_D, sumPtsR_flat, sumPtsR_r, sumId7_f, sumId7_D, sumId7_flat, sumId7_r, sumNmR_f, sumNmR_D, sumNmR_flat, sumNmR_r, go_sem, wpR_gcall, reduceCtorEq, reduceIte, Nat.reduceEqDiff, Nat.reduceAdd, Nat.reduceSub, Nat.reduceMul, Nat.reduceLT, Nat.reduceLeDiff, Nat.reduceBEq, Int.reduceEq, Int.reduceLT, Int.reduceLE, Int.reduceAdd, Int.reduceSub, Int.reduceNeg, Int.reduceToNat]
    | true =>
      have hn := (only_none hO).resolve_left (by rw [hb]; simp)
      simp only [c19, toks, dToks_map, h1, plV, hb, hn, nameR, Option.bind_none, sumPtsR_f, sumPtsR_D, sumPtsR_flat, sumPtsR_r, sumId7_f, sumId7_D, sumId7_flat, sumId7_r, sumNmR_f, sumNmR_D, sumNmR_flat, sumNmR_r, go_sem, wpR_gcall, reduceCtorEq, reduceIte, Nat.reduceEqDiff, Nat.reduceAdd, Nat.reduceSub, Nat.reduceMul, Nat.reduceLT, Nat.reduceLeDiff, Nat.reduceBEq, Int.reduceEq, Int.reduceLT, Int.reduceLE, Int.reduceAdd, Int.reduceSub, Int.reduceNeg, Int.reduceToNat]
  | some p =>
    obtain ⟨hb, hp⟩ := only_some hO
    have hok := (pl_mem h p (by rw [hp]; simp)).1
    rw [Option.bind_some]
    unfold nameP
    cases hi : identB p ⟨#[97, 117, 116, 111]⟩ with
    | true =>
      simp only [if_true]
      simp only [c19, toks, dToks_map, h1, plV, hb, hp, hok, hi, dPa_mk, Pa.etaT, Pa.eta', Pa.enc, nameR, sumPtsR_f, sumPtsR_D, sumPtsR_flat, sumPtsR_r, sumId7_f, sumId7_D, sumId7_flat, sumId7_r, sumNmR_f, sumNmR_D, sumNmR_flat, sumNmR_r, go_sem, wpR_gcall, reduceCtorEq, reduceIte, Nat.reduceEqDiff, Nat.reduceAdd, Nat.reduceSub, Nat.reduceMul, Nat.reduceLT, Nat.reduceLeDiff, Nat.reduceBEq, Int.reduceEq, Int.reduceLT, Int.reduceLE, Int.reduceAdd, Int.reduceSub, Int.reduceNeg, Int.reduceToNat]
    | false =>
      cases hn : namedB p with
      | true =>
        simp only [Bool.false_eq_true, if_false, if_true]
        simp only [c19, toks, dToks_map, h1, plV, hb, hp, hok, hi, hn, dPa_mk, Pa.etaT, Pa.eta', Pa.enc, nameR, sumPtsR_f, sumPtsR_D, sumPtsR_flat, sumPtsR_r, sumId7_f, sumId7_D, sumId7_flat, sumId7_r, sumNmR_f, sumNmR_D, sumNmR_flat, sumNmR_r, go_sem, wpR_gcall, reduceCtorEq, reduceIte, Nat.reduceEqDiff, Nat.reduceAdd, Nat.reduceSub, Nat.reduceMul, Nat.reduceLT, Nat.reduceLeDiff, Nat.reduceBEq, Int.reduceEq, Int.reduceLT, Int.reduceLE, Int.reduceAdd, Int.reduceSub, Int.reduceNeg, Int.reduceToNat]
      | false =>
        simp only [Bool.false_eq_true, if_false]
        simp only [c19, toks, dToks_map, h1, plV, hb, hp, hok, hi, hn, dPa_mk, Pa.etaT, Pa.eta', Pa.enc, nameR, sumPtsR_f, sumPtsR_D, sumPtsR_flat, sumPtsR_r, sumId7_f, sumId7_D, sumId7_flat, sumId7_r, sumNmR_f, sumNmR_D, sumNmR_flat, sumNmR_r, go_sem, wpR_gcall, reduceCtorEq, reduceIte, Nat.reduceEqDiff, Nat.reduceAdd, Nat.reduceSub, Nat.reduceMul, Nat.reduceLT, Nat.reduceLeDiff, Nat.reduceBEq, Int.reduceEq, Int.reduceLT, Int.reduceLE, Int.reduceAdd, Int.reduceSub, Int.reduceNeg, Int.reduceToNat]
def sumName : Sum Try.prog := ⟨18, fun args => args = [toks (dToks (args.getD 0 .any))] ∧ okT (dToks (args.getD 0 .any)), fun args => nameR (nameN (dToks (args.getD 0 .any))), fun args h => by
  have := name_ok (dToks (args.getD 0 .any)) h.2; rwa [← h.1] at this, false⟩
theorem sumName_f : sumName.f = 18 := rfl
theorem sumName_D (args : List V) : sumName.D args = (args = [toks (dToks (args.getD 0 .any))] ∧ okT (dToks (args.getD 0 .any))) := rfl
theorem sumName_flat : sumName.flat = false := rfl
theorem sumName_r (args : List V) : sumName.r args = nameR (nameN (dToks (args.getD 0 .any))) := rfl
def sumNameR : Sum Try.prog := ⟨19, fun args => args = [toks (dToks (args.getD 0 .any))] ∧ okT (dToks (args.getD 0 .any)), fun args => nameR (nameN (dToks (args.getD 0 .any))), fun args h => by
  have := nameR_ok (dToks (args.getD 0 .any)) h.2; rwa [← h.1] at this, false⟩
theorem sumNameR_f : sumNameR.f = 19 := rfl
theorem sumNameR_D (args : List V) : sumNameR.D args = (args = [toks (dToks (args.getD 0 .any))] ∧ okT (dToks (args.getD 0 .any))) := rfl
theorem sumNameR_flat : sumNameR.flat = false := rfl
theorem sumNameR_r (args : List V) : sumNameR.r args = nameR (nameN (dToks (args.getD 0 .any))) := rfl
def soleN (l : List Tok) : Option ByteArray := (onlyP l).bind fun q => if namedB q = true then some q.t.text else none
def runP (p : Pa) : Option ByteArray := if identB p ⟨#[115, 116, 97, 116, 105, 99]⟩ = true then some ⟨#[]⟩ else if p.t.kind = 3 ∧ lowP p = ⟨#[114, 117, 110, 110, 105, 110, 103]⟩ then soleN p.al else none
def runN (l : List Tok) : Option ByteArray := (onlyP l).bind runP
theorem sole_ok (l : List Tok) (h : okT l) : PCall Try.prog 46 [toks l] (nameR (soleN l)) := by
  refine PCall.of (Orc.cons sumAl (Orc.cons sumNm (Orc.nil _))) c46_ok (by simp [c46]) fun w0 own0 => ?_
  unfold soleN
  cases hA : aloneV l with
  | none =>
    have hN : ((onlyP l).bind fun q => if namedB q = true then some q.t.text else none) = none := by
      unfold aloneV at hA
      cases hO : onlyP l with
      | none => rfl
      | some p =>
        rw [hO] at hA
        simp only at hA
        split at hA
        · cases hA
        · rename_i hk; simp [namedB, hk]
    rw [hN]
    simp only [c46, toks, dToks_map, h, hA, aloneR, nameR, dPa_mk0, okP7_0, Pa.enc, List.map_nil, sumAl_f, sumAl_D, sumAl_flat, sumAl_r, sumNm_f, sumNm_D, sumNm_flat, sumNm_r, go_sem, wpR_gcall, reduceCtorEq, reduceIte, Nat.reduceEqDiff, Nat.reduceAdd, Nat.reduceSub, Nat.reduceMul, Nat.reduceLT, Nat.reduceLeDiff, Nat.reduceBEq, Int.reduceEq, Int.reduceLT, Int.reduceLE, Int.reduceAdd, Int.reduceSub, Int.reduceNeg, Int.reduceToNat]
  | some p =>
    obtain ⟨hp, _, hO, hk⟩ := alone_mem h hA
    rw [hO, Option.bind_some]
    cases hn : namedB p with
    | true =>
      simp only [if_true]
      simp only [c46, toks, dToks_map, h, hA, aloneR, nameR, dPa_mk, Pa.etaT, Pa.eta', hp, hn, Pa.enc, sumAl_f, sumAl_D, sumAl_flat, sumAl_r, sumNm_f, sumNm_D, sumNm_flat, sumNm_r, go_sem, wpR_gcall, reduceCtorEq, reduceIte, Nat.reduceEqDiff, Nat.reduceAdd, Nat.reduceSub, Nat.reduceMul, Nat.reduceLT, Nat.reduceLeDiff, Nat.reduceBEq, Int.reduceEq, Int.reduceLT, Int.reduceLE, Int.reduceAdd, Int.reduceSub, Int.reduceNeg, Int.reduceToNat]
    | false =>
      simp only [Bool.false_eq_true, if_false]
      simp only [c46, toks, dToks_map, h, hA, aloneR, nameR, dPa_mk, Pa.etaT, Pa.eta', hp, hn, Pa.enc, sumAl_f, sumAl_D, sumAl_flat, sumAl_r, sumNm_f, sumNm_D, sumNm_flat, sumNm_r, go_sem, wpR_gcall, reduceCtorEq, reduceIte, Nat.reduceEqDiff, Nat.reduceAdd, Nat.reduceSub, Nat.reduceMul, Nat.reduceLT, Nat.reduceLeDiff, Nat.reduceBEq, Int.reduceEq, Int.reduceLT, Int.reduceLE, Int.reduceAdd, Int.reduceSub, Int.reduceNeg, Int.reduceToNat]
def sumSole : Sum Try.prog := ⟨46, fun args => args = [toks (dToks (args.getD 0 .any))] ∧ okT (dToks (args.getD 0 .any)), fun args => nameR (soleN (dToks (args.getD 0 .any))), fun args h => by
  have := sole_ok (dToks (args.getD 0 .any)) h.2; rwa [← h.1] at this, false⟩
theorem sumSole_f : sumSole.f = 46 := rfl
theorem sumSole_D (args : List V) : sumSole.D args = (args = [toks (dToks (args.getD 0 .any))] ∧ okT (dToks (args.getD 0 .any))) := rfl
theorem sumSole_flat : sumSole.flat = false := rfl
theorem sumSole_r (args : List V) : sumSole.r args = nameR (soleN (dToks (args.getD 0 .any))) := rfl
theorem run_ok (l : List Tok) (h : okT l) : PCall Try.prog 20 [toks l] (nameR (runN l)) := by
  have h1 := h.1
  refine PCall.of (Orc.cons sumAl (Orc.cons sumIs7 (Orc.cons sumPts (Orc.cons sumLwP (Orc.cons sumSole (Orc.nil _)))))) c20_ok (by simp [c20]) fun w0 own0 => ?_
  unfold runN
  cases hO : onlyP l with
  | none =>
    have hA : aloneV l = none := by unfold aloneV; rw [hO]
    rw [Option.bind_none]
    cases hb : ptB l with
    | false => simp only [c20, toks, dToks_map, h, h1, hA, hb, plV, aloneR, nameR, dPa_mk0, okP7_0, Pa.enc, List.map_nil, sumAl_f, sumAl_D, sumAl_flat, sumAl_r, sumIs7_f, sumIs7_D, sumIs7_flat, sumIs7_r, sumPts_f, sumPts_D, sumPts_flat, sumPts_r, sumLwP_f, sumLwP_D, sumLwP_flat, sumLwP_r, sumSole_f, sumSole_D, sumSole_flat, sumSole_r, go_sem, wpR_gcall, reduceCtorEq, reduceIte, Nat.reduceEqDiff, Nat.reduceAdd, Nat.reduceSub, Nat.reduceMul, Nat.reduceLT, Nat.reduceLeDiff, Nat.reduceBEq, Int.reduceEq, Int.reduceLT, Int.reduceLE, Int.reduceAdd, Int.reduceSub, Int.reduceNeg, Int.reduceToNat]
    | true =>
      have hn := (only_none hO).resolve_left (by rw [hb]; simp)
      simp only [c20, toks, dToks_map, h, h1, hA, hb, hn, plV, aloneR, nameR, dPa_mk0, okP7_0, Pa.enc, List.map_nil, sumAl_f, sumAl_D, sumAl_flat, sumAl_r, sumIs7_f, sumIs7_D, sumIs7_flat, sumIs7_r, sumPts_f, sumPts_D, sumPts_flat, sumPts_r, sumLwP_f, sumLwP_D, sumLwP_flat, sumLwP_r, sumSole_f, sumSole_D, sumSole_flat, sumSole_r, go_sem, wpR_gcall, reduceCtorEq, reduceIte, Nat.reduceEqDiff, Nat.reduceAdd, Nat.reduceSub, Nat.reduceMul, Nat.reduceLT, Nat.reduceLeDiff, Nat.reduceBEq, Int.reduceEq, Int.reduceLT, Int.reduceLE, Int.reduceAdd, Int.reduceSub, Int.reduceNeg, Int.reduceToNat]
  | some p =>
    obtain ⟨hb, hpl⟩ := only_some hO
    obtain ⟨hp, hal⟩ := pl_mem h p (by rw [hpl]; simp)
    rw [Option.bind_some]
    unfold runP
    by_cases hk : p.t.kind = 2
    · have hA : aloneV l = some p := by unfold aloneV; rw [hO]; simp only [hk, if_true]
      have hk3 : ¬ (p.t.kind = 3 ∧ lowP p = ⟨#[114, 117, 110, 110, 105, 110, 103]⟩) := by omega
      cases hi : identB p ⟨#[115, 116, 97, 116, 105, 99]⟩ with
      | true =>
        simp only [if_true]
        simp only [c20, toks, dToks_map, h, hA, hi, hp, aloneR, nameR, dPa_mk, Pa.etaT, Pa.eta', Pa.enc, sumAl_f, sumAl_D, sumAl_flat, sumAl_r, sumIs7_f, sumIs7_D, sumIs7_flat, sumIs7_r, sumPts_f, sumPts_D, sumPts_flat, sumPts_r, sumLwP_f, sumLwP_D, sumLwP_flat, sumLwP_r, sumSole_f, sumSole_D, sumSole_flat, sumSole_r, go_sem, wpR_gcall, reduceCtorEq, reduceIte, Nat.reduceEqDiff, Nat.reduceAdd, Nat.reduceSub, Nat.reduceMul, Nat.reduceLT, Nat.reduceLeDiff, Nat.reduceBEq, Int.reduceEq, Int.reduceLT, Int.reduceLE, Int.reduceAdd, Int.reduceSub, Int.reduceNeg, Int.reduceToNat]
      | false =>
        simp only [Bool.false_eq_true, if_false, if_neg hk3]
        simp only [c20, toks, dToks_map, h, hA, hi, hp, aloneR, nameR, dPa_mk, Pa.etaT, Pa.eta', Pa.enc, sumAl_f, sumAl_D, sumAl_flat, sumAl_r, sumIs7_f, sumIs7_D, sumIs7_flat, sumIs7_r, sumPts_f, sumPts_D, sumPts_flat, sumPts_r, sumLwP_f, sumLwP_D, sumLwP_flat, sumLwP_r, sumSole_f, sumSole_D, sumSole_flat, sumSole_r, go_sem, wpR_gcall, reduceCtorEq, reduceIte, Nat.reduceEqDiff, Nat.reduceAdd, Nat.reduceSub, Nat.reduceMul, Nat.reduceLT, Nat.reduceLeDiff, Nat.reduceBEq, Int.reduceEq, Int.reduceLT, Int.reduceLE, Int.reduceAdd, Int.reduceSub, Int.reduceNeg, Int.reduceToNat]
    · have hA : aloneV l = none := by unfold aloneV; rw [hO]; simp only [hk, if_false]
      have hi : identB p ⟨#[115, 116, 97, 116, 105, 99]⟩ = false := by simp [identB, hk]
      rw [hi]
      simp only [Bool.false_eq_true, if_false]
      by_cases h3 : p.t.kind = 3
      · by_cases h4 : lowP p = ⟨#[114, 117, 110, 110, 105, 110, 103]⟩
        · simp only [h3, h4, and_self, if_true]
          have h' : okP7 ⟨⟨3, p.t.text, p.t.n⟩, p.al⟩ := hp
          have hl' : lowP ⟨⟨3, p.t.text, p.t.n⟩, p.al⟩ = ⟨#[114, 117, 110, 110, 105, 110, 103]⟩ := h4
          cases hs : soleN p.al with
          | none => simp only [c20, toks, dToks_map, h, h1, hA, hb, hpl, hal, h3, h', hl', hs, plV, aloneR, nameR, dPa_mk, Pa.etaT, Pa.eta', Pa.enc, sumAl_f, sumAl_D, sumAl_flat, sumAl_r, sumIs7_f, sumIs7_D, sumIs7_flat, sumIs7_r, sumPts_f, sumPts_D, sumPts_flat, sumPts_r, sumLwP_f, sumLwP_D, sumLwP_flat, sumLwP_r, sumSole_f, sumSole_D, sumSole_flat, sumSole_r, go_sem, wpR_gcall, reduceCtorEq, reduceIte, Nat.reduceEqDiff, Nat.reduceAdd, Nat.reduceSub, Nat.reduceMul, Nat.reduceLT, Nat.reduceLeDiff, Nat.reduceBEq, Int.reduceEq, Int.reduceLT, Int.reduceLE, Int.reduceAdd, Int.reduceSub, Int.reduceNeg, Int.reduceToNat]
          | some s => simp only [c20, toks, dToks_map, h, h1, hA, hb, hpl, hal, h3, h', hl', hs, plV, aloneR, nameR, dPa_mk, Pa.etaT, Pa.eta', Pa.enc, sumAl_f, sumAl_D, sumAl_flat, sumAl_r, sumIs7_f, sumIs7_D, sumIs7_flat, sumIs7_r, sumPts_f, sumPts_D, sumPts_flat, sumPts_r, sumLwP_f, sumLwP_D, sumLwP_flat, sumLwP_r, sumSole_f, sumSole_D, sumSole_flat, sumSole_r, go_sem, wpR_gcall, reduceCtorEq, reduceIte, Nat.reduceEqDiff, Nat.reduceAdd, Nat.reduceSub, Nat.reduceMul, Nat.reduceLT, Nat.reduceLeDiff, Nat.reduceBEq, Int.reduceEq, Int.reduceLT, Int.reduceLE, Int.reduceAdd, Int.reduceSub, Int.reduceNeg, Int.reduceToNat]
        · simp only [h3, h4, and_false, if_false]
          have h' : okP7 ⟨⟨3, p.t.text, p.t.n⟩, p.al⟩ := hp
          have hl' : ¬ lowP ⟨⟨3, p.t.text, p.t.n⟩, p.al⟩ = ⟨#[114, 117, 110, 110, 105, 110, 103]⟩ := h4
          simp only [c20, toks, dToks_map, h, h1, hA, hb, hpl, hal, h3, h', hl', plV, aloneR, nameR, dPa_mk, Pa.etaT, Pa.eta', Pa.enc, sumAl_f, sumAl_D, sumAl_flat, sumAl_r, sumIs7_f, sumIs7_D, sumIs7_flat, sumIs7_r, sumPts_f, sumPts_D, sumPts_flat, sumPts_r, sumLwP_f, sumLwP_D, sumLwP_flat, sumLwP_r, sumSole_f, sumSole_D, sumSole_flat, sumSole_r, go_sem, wpR_gcall, reduceCtorEq, reduceIte, Nat.reduceEqDiff, Nat.reduceAdd, Nat.reduceSub, Nat.reduceMul, Nat.reduceLT, Nat.reduceLeDiff, Nat.reduceBEq, Int.reduceEq, Int.reduceLT, Int.reduceLE, Int.reduceAdd, Int.reduceSub, Int.reduceNeg, Int.reduceToNat]
      · simp only [h3, false_and, if_false]
        simp only [c20, toks, dToks_map, h, h1, hA, hb, hpl, hal, h3, hp, plV, aloneR, nameR, dPa_mk, Pa.etaT, Pa.eta', Pa.enc, sumAl_f, sumAl_D, sumAl_flat, sumAl_r, sumIs7_f, sumIs7_D, sumIs7_flat, sumIs7_r, sumPts_f, sumPts_D, sumPts_flat, sumPts_r, sumLwP_f, sumLwP_D, sumLwP_flat, sumLwP_r, sumSole_f, sumSole_D, sumSole_flat, sumSole_r, go_sem, wpR_gcall, reduceCtorEq, reduceIte, Nat.reduceEqDiff, Nat.reduceAdd, Nat.reduceSub, Nat.reduceMul, Nat.reduceLT, Nat.reduceLeDiff, Nat.reduceBEq, Int.reduceEq, Int.reduceLT, Int.reduceLE, Int.reduceAdd, Int.reduceSub, Int.reduceNeg, Int.reduceToNat]
theorem runR_ok (l : List Tok) (h : okT l) : PCall Try.prog 21 [toks l] (nameR (runN l)) := by
  have h1 := h.1
  refine PCall.of (Orc.cons sumId7 (Orc.cons sumPtsR (Orc.cons sumLwR (Orc.cons sumNmR (Orc.nil _))))) c21_ok (by simp [c21]) fun w0 own0 => ?_
  unfold runN
  cases hO : onlyP l with
  | none =>
    rw [Option.bind_none]
    cases hb : ptB l with
    | false => simp only [c21, toks, dToks_map, h1, hb, plV, nameR, sumId7_f, sumId7_D, sumId7_flat, sumId7_r, sumPtsR_f, sumPtsR_D, sumPtsR_flat, sumPtsR_r, sumLwR_f, sumLwR_D, sumLwR_flat, sumLwR_r, sumNmR_f, sumNmR_D, sumNmR_flat, sumNmR_r, go_sem, wpR_gcall, reduceCtorEq, reduceIte, Nat.reduceEqDiff, Nat.reduceAdd, Nat.reduceSub, Nat.reduceMul, Nat.reduceLT, Nat.reduceLeDiff, Nat.reduceBEq, Int.reduceEq, Int.reduceLT, Int.reduceLE, Int.reduceAdd, Int.reduceSub, Int.reduceNeg, Int.reduceToNat]
    | true =>
      have hn := (only_none hO).resolve_left (by rw [hb]; simp)
      simp only [c21, toks, dToks_map, h1, hb, hn, plV, nameR, sumId7_f, sumId7_D, sumId7_flat, sumId7_r, sumPtsR_f, sumPtsR_D, sumPtsR_flat, sumPtsR_r, sumLwR_f, sumLwR_D, sumLwR_flat, sumLwR_r, sumNmR_f, sumNmR_D, sumNmR_flat, sumNmR_r, go_sem, wpR_gcall, reduceCtorEq, reduceIte, Nat.reduceEqDiff, Nat.reduceAdd, Nat.reduceSub, Nat.reduceMul, Nat.reduceLT, Nat.reduceLeDiff, Nat.reduceBEq, Int.reduceEq, Int.reduceLT, Int.reduceLE, Int.reduceAdd, Int.reduceSub, Int.reduceNeg, Int.reduceToNat]
  | some p =>
    obtain ⟨hb, hpl⟩ := only_some hO
    obtain ⟨hp, hal⟩ := pl_mem h p (by rw [hpl]; simp)
    have hal1 := hal.1
    rw [Option.bind_some]
    unfold runP
    cases hi : identB p ⟨#[115, 116, 97, 116, 105, 99]⟩ with
    | true =>
      simp only [if_true]
      simp only [c21, toks, dToks_map, h1, hb, hpl, hp, hi, plV, nameR, dPa_mk, Pa.etaT, Pa.eta', Pa.enc, sumId7_f, sumId7_D, sumId7_flat, sumId7_r, sumPtsR_f, sumPtsR_D, sumPtsR_flat, sumPtsR_r, sumLwR_f, sumLwR_D, sumLwR_flat, sumLwR_r, sumNmR_f, sumNmR_D, sumNmR_flat, sumNmR_r, go_sem, wpR_gcall, reduceCtorEq, reduceIte, Nat.reduceEqDiff, Nat.reduceAdd, Nat.reduceSub, Nat.reduceMul, Nat.reduceLT, Nat.reduceLeDiff, Nat.reduceBEq, Int.reduceEq, Int.reduceLT, Int.reduceLE, Int.reduceAdd, Int.reduceSub, Int.reduceNeg, Int.reduceToNat]
    | false =>
      simp only [Bool.false_eq_true, if_false]
      by_cases h3 : p.t.kind = 3
      · have h' : okP7 ⟨⟨3, p.t.text, p.t.n⟩, p.al⟩ := hp
        have hi' : identB ⟨⟨3, p.t.text, p.t.n⟩, p.al⟩ ⟨#[115, 116, 97, 116, 105, 99]⟩ = false := by simp [identB]
        by_cases h4 : lowP p = ⟨#[114, 117, 110, 110, 105, 110, 103]⟩
        · simp only [h3, h4, and_self, if_true]
          have hl' : lowP ⟨⟨3, p.t.text, p.t.n⟩, p.al⟩ = ⟨#[114, 117, 110, 110, 105, 110, 103]⟩ := h4
          unfold soleN
          cases hO2 : onlyP p.al with
          | none =>
            rw [Option.bind_none]
            cases hb2 : ptB p.al with
            | false => simp only [c21, toks, dToks_map, h1, hb, hpl, hal1, hb2, h3, h', hl', hi', plV, nameR, dPa_mk, Pa.etaT, Pa.eta', Pa.enc, sumId7_f, sumId7_D, sumId7_flat, sumId7_r, sumPtsR_f, sumPtsR_D, sumPtsR_flat, sumPtsR_r, sumLwR_f, sumLwR_D, sumLwR_flat, sumLwR_r, sumNmR_f, sumNmR_D, sumNmR_flat, sumNmR_r, go_sem, wpR_gcall, reduceCtorEq, reduceIte, Nat.reduceEqDiff, Nat.reduceAdd, Nat.reduceSub, Nat.reduceMul, Nat.reduceLT, Nat.reduceLeDiff, Nat.reduceBEq, Int.reduceEq, Int.reduceLT, Int.reduceLE, Int.reduceAdd, Int.reduceSub, Int.reduceNeg, Int.reduceToNat]
            | true =>
              have hn2 := (only_none hO2).resolve_left (by rw [hb2]; simp)
              simp only [c21, toks, dToks_map, h1, hb, hpl, hal1, hb2, hn2, h3, h', hl', hi', plV, nameR, dPa_mk, Pa.etaT, Pa.eta', Pa.enc, sumId7_f, sumId7_D, sumId7_flat, sumId7_r, sumPtsR_f, sumPtsR_D, sumPtsR_flat, sumPtsR_r, sumLwR_f, sumLwR_D, sumLwR_flat, sumLwR_r, sumNmR_f, sumNmR_D, sumNmR_flat, sumNmR_r, go_sem, wpR_gcall, reduceCtorEq, reduceIte, Nat.reduceEqDiff, Nat.reduceAdd, Nat.reduceSub, Nat.reduceMul, Nat.reduceLT, Nat.reduceLeDiff, Nat.reduceBEq, Int.reduceEq, Int.reduceLT, Int.reduceLE, Int.reduceAdd, Int.reduceSub, Int.reduceNeg, Int.reduceToNat]
          | some q =>
            obtain ⟨hb2, hpl2⟩ := only_some hO2
            have hq := (pl_mem hal q (by rw [hpl2]; simp)).1
            rw [Option.bind_some]
            cases hn : namedB q with
            | true =>
              simp only [if_true]
              simp only [c21, toks, dToks_map, h1, hb, hpl, hal1, hb2, hpl2, hq, hn, h3, h', hl', hi', plV, nameR, dPa_mk, Pa.etaT, Pa.eta', Pa.enc, sumId7_f, sumId7_D, sumId7_flat, sumId7_r, sumPtsR_f, sumPtsR_D, sumPtsR_flat, sumPtsR_r, sumLwR_f, sumLwR_D, sumLwR_flat, sumLwR_r, sumNmR_f, sumNmR_D, sumNmR_flat, sumNmR_r, go_sem, wpR_gcall, reduceCtorEq, reduceIte, Nat.reduceEqDiff, Nat.reduceAdd, Nat.reduceSub, Nat.reduceMul, Nat.reduceLT, Nat.reduceLeDiff, Nat.reduceBEq, Int.reduceEq, Int.reduceLT, Int.reduceLE, Int.reduceAdd, Int.reduceSub, Int.reduceNeg, Int.reduceToNat]
            | false =>
              simp only [Bool.false_eq_true, if_false]
              simp only [c21, toks, dToks_map, h1, hb, hpl, hal1, hb2, hpl2, hq, hn, h3, h', hl', hi', plV, nameR, dPa_mk, Pa.etaT, Pa.eta', Pa.enc, sumId7_f, sumId7_D, sumId7_flat, sumId7_r, sumPtsR_f, sumPtsR_D, sumPtsR_flat, sumPtsR_r, sumLwR_f, sumLwR_D, sumLwR_flat, sumLwR_r, sumNmR_f, sumNmR_D, sumNmR_flat, sumNmR_r, go_sem, wpR_gcall, reduceCtorEq, reduceIte, Nat.reduceEqDiff, Nat.reduceAdd, Nat.reduceSub, Nat.reduceMul, Nat.reduceLT, Nat.reduceLeDiff, Nat.reduceBEq, Int.reduceEq, Int.reduceLT, Int.reduceLE, Int.reduceAdd, Int.reduceSub, Int.reduceNeg, Int.reduceToNat]
        · simp only [h3, h4, and_false, if_false]
          have hl' : ¬ lowP ⟨⟨3, p.t.text, p.t.n⟩, p.al⟩ = ⟨#[114, 117, 110, 110, 105, 110, 103]⟩ := h4
          simp only [c21, toks, dToks_map, h1, hb, hpl, h3, h', hl', hi', plV, nameR, dPa_mk, Pa.etaT, Pa.eta', Pa.enc, sumId7_f, sumId7_D, sumId7_flat, sumId7_r, sumPtsR_f, sumPtsR_D, sumPtsR_flat, sumPtsR_r, sumLwR_f, sumLwR_D, sumLwR_flat, sumLwR_r, sumNmR_f, sumNmR_D, sumNmR_flat, sumNmR_r, go_sem, wpR_gcall, reduceCtorEq, reduceIte, Nat.reduceEqDiff, Nat.reduceAdd, Nat.reduceSub, Nat.reduceMul, Nat.reduceLT, Nat.reduceLeDiff, Nat.reduceBEq, Int.reduceEq, Int.reduceLT, Int.reduceLE, Int.reduceAdd, Int.reduceSub, Int.reduceNeg, Int.reduceToNat]
      · simp only [h3, false_and, if_false]
        simp only [c21, toks, dToks_map, h1, hb, hpl, hp, hi, h3, plV, nameR, dPa_mk, Pa.etaT, Pa.eta', Pa.enc, sumId7_f, sumId7_D, sumId7_flat, sumId7_r, sumPtsR_f, sumPtsR_D, sumPtsR_flat, sumPtsR_r, sumLwR_f, sumLwR_D, sumLwR_flat, sumLwR_r, sumNmR_f, sumNmR_D, sumNmR_flat, sumNmR_r, go_sem, wpR_gcall, reduceCtorEq, reduceIte, Nat.reduceEqDiff, Nat.reduceAdd, Nat.reduceSub, Nat.reduceMul, Nat.reduceLT, Nat.reduceLeDiff, Nat.reduceBEq, Int.reduceEq, Int.reduceLT, Int.reduceLE, Int.reduceAdd, Int.reduceSub, Int.reduceNeg, Int.reduceToNat]
def sumRun : Sum Try.prog := ⟨20, fun args => args = [toks (dToks (args.getD 0 .any))] ∧ okT (dToks (args.getD 0 .any)), fun args => nameR (runN (dToks (args.getD 0 .any))), fun args h => by
  have := run_ok (dToks (args.getD 0 .any)) h.2; rwa [← h.1] at this, false⟩
theorem sumRun_f : sumRun.f = 20 := rfl
theorem sumRun_D (args : List V) : sumRun.D args = (args = [toks (dToks (args.getD 0 .any))] ∧ okT (dToks (args.getD 0 .any))) := rfl
theorem sumRun_flat : sumRun.flat = false := rfl
theorem sumRun_r (args : List V) : sumRun.r args = nameR (runN (dToks (args.getD 0 .any))) := rfl
def sumRunR : Sum Try.prog := ⟨21, fun args => args = [toks (dToks (args.getD 0 .any))] ∧ okT (dToks (args.getD 0 .any)), fun args => nameR (runN (dToks (args.getD 0 .any))), fun args h => by
  have := runR_ok (dToks (args.getD 0 .any)) h.2; rwa [← h.1] at this, false⟩
theorem sumRunR_f : sumRunR.f = 21 := rfl
theorem sumRunR_D (args : List V) : sumRunR.D args = (args = [toks (dToks (args.getD 0 .any))] ∧ okT (dToks (args.getD 0 .any))) := rfl
theorem sumRunR_flat : sumRunR.flat = false := rfl
theorem sumRunR_r (args : List V) : sumRunR.r args = nameR (runN (dToks (args.getD 0 .any))) := rfl
end Go.Proofs.Ytjofgafeaiiegaa
