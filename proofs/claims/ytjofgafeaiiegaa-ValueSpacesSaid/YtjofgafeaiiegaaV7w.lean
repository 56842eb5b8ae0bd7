/- Layer 7: content lists. -/
import Derived.Test.YtjofgafeaiiegaaV7t
import Derived.Test.YtjofgafeaiiegaaV7v
import Derived.Test.YtjofgafeaiiegaaV7q
namespace Go.Proofs.Ytjofgafeaiiegaa
open Go.Sx
set_option linter.unusedSimpArgs false
set_option maxHeartbeats 8000000
set_option maxRecDepth 20000

def normalW : ByteArray := ⟨#[110, 111, 114, 109, 97, 108]⟩
def isNN (L : List Pa) : Bool := match L with | [p] => identB p noneW || identB p normalW | _ => false
structure Ct where
  l : List Itm
  none : Bool
  is : Bool
def ctO (l : List Tok) : Ct := if ptB l = true then (if isNN (pl l) = true then ⟨[], true, true⟩ else match itL false (pl l) with | some (x :: xs) => ⟨x :: xs, false, true⟩ | _ => ⟨[], false, false⟩) else ⟨[], false, false⟩
def ctV (c : Ct) : V := .tup [itms c.l, vb c.none, vb c.is]
theorem vnil_ct (b c : Bool) (F : Nat → Prop) (w : World) (v : Value) (h : PRep F w v (.tup [vnil, vb b, vb c])) : PRep F w v (ctV ⟨[], b, c⟩) := by
  cases h with
  | tup cs _ hl hx =>
    refine .tup cs _ hl fun i hi => ?_
    have := hx i hi
    match i, hi with
    | 0, _ => exact PRep.nilS 5 this
    | 1, _ => exact this
    | 2, _ => exact this
theorem okPs_pl {l : List Tok} (h : okT l) : okPs (pl l) := ⟨by have := pl_len l; have := h.1; omega, pl_mem h⟩
theorem content_ok (l : List Tok) (h : okT l) : PCall Try.prog 13 [toks l] (ctV (ctO l)) := by
  have h1 := h.1
  have hP := okPs_pl h
  have hm := pl_mem h
  have hfb := @pl_false l
  unfold ctO
  generalize hL : pl l = L at *
  have hL0 : ¬ (L.length : Int) < 0 := by omega
  cases hb : ptB l with
  | false =>
    have hz := hfb hb
    subst hz
    have hI : itL false [] = some [] := rfl
    have hd0 : dPas (.slc 4 []) = [] := rfl
    rw [if_neg (by simp)]
    refine PCall.rsub ?_ (vnil_ct false false)
    refine PCall.of (Orc.cons sumPts (Orc.cons sumIs7 (Orc.cons sumIts (Orc.nil _)))) c13_ok (by simp [c13]) fun w0 own0 => ?_
    simp only [c13, toks, dToks_map, h1, plV, hL, hb, pas, dPas_map, V.boo_c, hP, hI, itsV, itms, hd0, List.map_nil, Option.getD_some, List.length_nil, on_gcall, off_gcall, flat_gcall, go_sem, reduceCtorEq, reduceIte, Nat.reduceEqDiff, Nat.reduceAdd, Nat.reduceSub, Nat.reduceMul, Nat.reduceLT, Nat.reduceLeDiff, Nat.reduceBEq, Int.reduceEq, Int.reduceLT, Int.reduceLE, Int.reduceAdd, Int.reduceSub, Int.reduceNeg, Int.reduceToNat]
  | true =>
  rw [if_pos rfl]
  by_cases hl1 : ∃ p, L = [p]
  · obtain ⟨p, rfl⟩ := hl1
    have hp := (hm p (by simp)).1
    have hnn : isNN [p] = (identB p ⟨#[110, 111, 110, 101]⟩ || identB p ⟨#[110, 111, 114, 109, 97, 108]⟩) := rfl
    rw [hnn]
    generalize hI : itL false [p] = o
    cases hi : identB p ⟨#[110, 111, 110, 101]⟩ with
    | true =>
      rw [Bool.true_or, if_pos rfl]
      refine PCall.rsub ?_ (vnil_ct true true)
      refine PCall.of (Orc.cons sumPts (Orc.cons sumIs7 (Orc.cons sumIts (Orc.nil _)))) c13_ok (by simp [c13]) fun w0 own0 => ?_
      simp only [c13, toks, dToks_map, h1, plV, hL, hb, pas, dPas_map, V.boo_c, hP, hI, itsV, itms, hi, hp, Pa.enc, dPa_mk, Pa.eta', List.map_cons, List.map_nil, on_gcall, off_gcall, flat_gcall, go_sem, reduceCtorEq, reduceIte, Nat.reduceEqDiff, Nat.reduceAdd, Nat.reduceSub, Nat.reduceMul, Nat.reduceLT, Nat.reduceLeDiff, Nat.reduceBEq, Int.reduceEq, Int.reduceLT, Int.reduceLE, Int.reduceAdd, Int.reduceSub, Int.reduceNeg, Int.reduceToNat]
    | false =>
      rw [Bool.false_or]
      cases hi2 : identB p ⟨#[110, 111, 114, 109, 97, 108]⟩ with
      | true =>
        rw [if_pos rfl]
        refine PCall.rsub ?_ (vnil_ct true true)
        refine PCall.of (Orc.cons sumPts (Orc.cons sumIs7 (Orc.cons sumIts (Orc.nil _)))) c13_ok (by simp [c13]) fun w0 own0 => ?_
        simp only [c13, toks, dToks_map, h1, plV, hL, hb, pas, dPas_map, V.boo_c, hP, hI, itsV, itms, hi, hi2, hp, Pa.enc, dPa_mk, Pa.eta', List.map_cons, List.map_nil, on_gcall, off_gcall, flat_gcall, go_sem, reduceCtorEq, reduceIte, Nat.reduceEqDiff, Nat.reduceAdd, Nat.reduceSub, Nat.reduceMul, Nat.reduceLT, Nat.reduceLeDiff, Nat.reduceBEq, Int.reduceEq, Int.reduceLT, Int.reduceLE, Int.reduceAdd, Int.reduceSub, Int.reduceNeg, Int.reduceToNat]
      | false =>
        rw [if_neg (by simp)]
        have hpe : dPas (.slc 4 [[vi p.t.kind, vs p.t.text, vi p.t.n, .slc 3 (p.al.map Tok.enc)]]) = [p] := dPas_map 4 [p]
        match o, hI with
        | none, hI =>
          refine PCall.rsub ?_ (vnil_ct false false)
          refine PCall.of (Orc.cons sumPts (Orc.cons sumIs7 (Orc.cons sumIts (Orc.nil _)))) c13_ok (by simp [c13]) fun w0 own0 => ?_
          simp only [c13, toks, dToks_map, h1, plV, hL, hb, pas, dPas_map, V.boo_c, hP, hI, itsV, itms, hi, hi2, hp, hpe, Pa.enc, dPa_mk, Pa.eta', List.map_cons, List.map_nil, Option.getD_none, List.length_nil, on_gcall, off_gcall, flat_gcall, go_sem, reduceCtorEq, reduceIte, Nat.reduceEqDiff, Nat.reduceAdd, Nat.reduceSub, Nat.reduceMul, Nat.reduceLT, Nat.reduceLeDiff, Nat.reduceBEq, Int.reduceEq, Int.reduceLT, Int.reduceLE, Int.reduceAdd, Int.reduceSub, Int.reduceNeg, Int.reduceToNat]
        | some [], hI =>
          refine PCall.rsub ?_ (vnil_ct false false)
          refine PCall.of (Orc.cons sumPts (Orc.cons sumIs7 (Orc.cons sumIts (Orc.nil _)))) c13_ok (by simp [c13]) fun w0 own0 => ?_
          simp only [c13, toks, dToks_map, h1, plV, hL, hb, pas, dPas_map, V.boo_c, hP, hI, itsV, itms, hi, hi2, hp, hpe, Pa.enc, dPa_mk, Pa.eta', List.map_cons, List.map_nil, Option.getD_some, List.length_nil, on_gcall, off_gcall, flat_gcall, go_sem, reduceCtorEq, reduceIte, Nat.reduceEqDiff, Nat.reduceAdd, Nat.reduceSub, Nat.reduceMul, Nat.reduceLT, Nat.reduceLeDiff, Nat.reduceBEq, Int.reduceEq, Int.reduceLT, Int.reduceLE, Int.reduceAdd, Int.reduceSub, Int.reduceNeg, Int.reduceToNat]
        | some (x :: xs), hI =>
          have hpos : (0 : Int) < ((xs.length + 1 : Nat) : Int) := by omega
          refine PCall.of (Orc.cons sumPts (Orc.cons sumIs7 (Orc.cons sumIts (Orc.nil _)))) c13_ok (by simp [c13]) fun w0 own0 => ?_
          simp only [c13, toks, dToks_map, h1, plV, hL, hb, pas, dPas_map, V.boo_c, hP, hI, itsV, itms, hi, hi2, hp, hpe, hpos, ctV, Pa.enc, dPa_mk, Pa.eta', List.map_cons, List.map_nil, Option.getD_some, List.length_cons, on_gcall, off_gcall, flat_gcall, go_sem, reduceCtorEq, reduceIte, Nat.reduceEqDiff, Nat.reduceAdd, Nat.reduceSub, Nat.reduceMul, Nat.reduceLT, Nat.reduceLeDiff, Nat.reduceBEq, Int.reduceEq, Int.reduceLT, Int.reduceLE, Int.reduceAdd, Int.reduceSub, Int.reduceNeg, Int.reduceToNat]
  · have hnn : isNN L = false := by
      unfold isNN
      split
      · exact absurd ⟨_, rfl⟩ hl1
      · rfl
    have hl2 : ((L.length : Int) = 1) = False := eq_false (fun hh => hl1 (List.length_eq_one_iff.1 (by omega)))
    rw [hnn, if_neg (by simp)]
    generalize hI : itL false L = o
    match o, hI with
    | none, hI =>
      refine PCall.rsub ?_ (vnil_ct false false)
      refine PCall.of (Orc.cons sumPts (Orc.cons sumIs7 (Orc.cons sumIts (Orc.nil _)))) c13_ok (by simp [c13]) fun w0 own0 => ?_
      simp only [c13, toks, dToks_map, h1, plV, hL, hb, pas, dPas_map, V.boo_c, hP, hI, itsV, itms, hl2, Option.getD_none, List.map_nil, List.length_nil, on_gcall, off_gcall, flat_gcall, go_sem, reduceCtorEq, reduceIte, Nat.reduceEqDiff, Nat.reduceAdd, Nat.reduceSub, Nat.reduceMul, Nat.reduceLT, Nat.reduceLeDiff, Nat.reduceBEq, Int.reduceEq, Int.reduceLT, Int.reduceLE, Int.reduceAdd, Int.reduceSub, Int.reduceNeg, Int.reduceToNat]
    | some [], hI =>
      refine PCall.rsub ?_ (vnil_ct false false)
      refine PCall.of (Orc.cons sumPts (Orc.cons sumIs7 (Orc.cons sumIts (Orc.nil _)))) c13_ok (by simp [c13]) fun w0 own0 => ?_
      simp only [c13, toks, dToks_map, h1, plV, hL, hb, pas, dPas_map, V.boo_c, hP, hI, itsV, itms, hl2, Option.getD_some, List.map_nil, List.length_nil, on_gcall, off_gcall, flat_gcall, go_sem, reduceCtorEq, reduceIte, Nat.reduceEqDiff, Nat.reduceAdd, Nat.reduceSub, Nat.reduceMul, Nat.reduceLT, Nat.reduceLeDiff, Nat.reduceBEq, Int.reduceEq, Int.reduceLT, Int.reduceLE, Int.reduceAdd, Int.reduceSub, Int.reduceNeg, Int.reduceToNat]
    | some (x :: xs), hI =>
      have hpos : (0 : Int) < ((xs.length + 1 : Nat) : Int) := by omega
      refine PCall.of (Orc.cons sumPts (Orc.cons sumIs7 (Orc.cons sumIts (Orc.nil _)))) c13_ok (by simp [c13]) fun w0 own0 => ?_
      simp only [c13, toks, dToks_map, h1, plV, hL, hb, pas, dPas_map, V.boo_c, hP, hI, itsV, itms, hl2, hpos, ctV, Option.getD_some, List.length_cons, on_gcall, off_gcall, flat_gcall, go_sem, reduceCtorEq, reduceIte, Nat.reduceEqDiff, Nat.reduceAdd, Nat.reduceSub, Nat.reduceMul, Nat.reduceLT, Nat.reduceLeDiff, Nat.reduceBEq, Int.reduceEq, Int.reduceLT, Int.reduceLE, Int.reduceAdd, Int.reduceSub, Int.reduceNeg, Int.reduceToNat]
def sumCt : Sum Try.prog := ⟨13, fun args => args = [toks (dToks (args.getD 0 .any))] ∧ okT (dToks (args.getD 0 .any)), fun args => ctV (ctO (dToks (args.getD 0 .any))), fun args h => by
  have := content_ok (dToks (args.getD 0 .any)) h.2; rwa [← h.1] at this, false⟩
theorem sumCt_f : sumCt.f = 13 := rfl
theorem sumCt_D (args : List V) : sumCt.D args = (args = [toks (dToks (args.getD 0 .any))] ∧ okT (dToks (args.getD 0 .any))) := rfl
theorem sumCt_flat : sumCt.flat = false := rfl
theorem sumCt_r (args : List V) : sumCt.r args = ctV (ctO (dToks (args.getD 0 .any))) := rfl
attribute [go_sem] sumCt_f sumCt_D sumCt_flat sumCt_r
theorem itemsL_ok (a : List Itm) (h : a.length ≤ 2000000) : PCall Try.prog 15 [itms a, itms a] (vb true) := by
  refine PCall.of (Orc.nil _) c15_ok (by simp [c15]) fun w0 own0 => ?_
  simp only [c15, itms, go_sem, wpR_gcall, reduceCtorEq, reduceIte, Nat.reduceEqDiff, Nat.reduceAdd, Nat.reduceSub, Nat.reduceMul, Nat.reduceLT, Nat.reduceLeDiff, Nat.reduceBEq, Int.reduceEq, Int.reduceLT, Int.reduceLE, Int.reduceAdd, Int.reduceSub, Int.reduceNeg, Int.reduceToNat]
  refine SemC.lp (α := Nat) (fun k => [(0, .slc 5 (a.map Itm.enc)), (1, .slc 5 (a.map Itm.enc)), (12, vi a.length), (13, vi k)]) (fun _ => ⟨[], 0⟩) (fun k => k ≤ a.length) (fun k => a.length - k) 0 (Nat.zero_le _) (St.mk (by simp [Agrees, upd_at, initE_at])) fun k hk => ?_
  by_cases hkl : k = a.length
  · subst hkl
    simp only [Int.lt_irrefl, go_sem, wpR_gcall, reduceCtorEq, reduceIte, Nat.reduceEqDiff, Nat.reduceAdd, Nat.reduceSub, Nat.reduceMul, Nat.reduceLT, Nat.reduceLeDiff, Nat.reduceBEq, Int.reduceEq, Int.reduceLT, Int.reduceLE, Int.reduceAdd, Int.reduceSub, Int.reduceNeg, Int.reduceToNat]
  · have e1 : (k : Int) < (a.length : Int) := by omega
    have e0 : (0 : Int) ≤ (k : Int) := by omega
    have hg := getD_itms a k
    generalize a.getD k default = x at *
    simp only [e0, e1, hg, Itm.enc, go_sem, wpR_gcall, reduceCtorEq, reduceIte, Nat.reduceEqDiff, Nat.reduceAdd, Nat.reduceSub, Nat.reduceMul, Nat.reduceLT, Nat.reduceLeDiff, Nat.reduceBEq, Int.reduceEq, Int.reduceLT, Int.reduceLE, Int.reduceAdd, Int.reduceSub, Int.reduceNeg, Int.reduceToNat]
    exact ⟨rfl, by omega, k + 1, by omega, by omega, by omega⟩
def sumIeq : Sum Try.prog := ⟨15, fun args => args = [itms (dItms (args.getD 0 .any)), itms (dItms (args.getD 0 .any))] ∧ ((dItms (args.getD 0 .any))).length ≤ 2000000, fun args => vb true, fun args h => by
  have := itemsL_ok (dItms (args.getD 0 .any)) h.2; rwa [← h.1] at this, true⟩
theorem sumIeq_f : sumIeq.f = 15 := rfl
theorem sumIeq_D (args : List V) : sumIeq.D args = (args = [itms (dItms (args.getD 0 .any)), itms (dItms (args.getD 0 .any))] ∧ ((dItms (args.getD 0 .any))).length ≤ 2000000) := rfl
theorem sumIeq_flat : sumIeq.flat = true := rfl
theorem sumIeq_r (args : List V) : sumIeq.r args = vb true := rfl
attribute [go_sem] sumIeq_f sumIeq_D sumIeq_flat sumIeq_r
end Go.Proofs.Ytjofgafeaiiegaa
