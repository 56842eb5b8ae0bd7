/- Layer 7: named strings, by the document. -/
import Derived.Test.YtjofgafeaiiegaaV7C
namespace Go.Proofs.Ytjofgafeaiiegaa
open Go.Sx
set_option linter.unusedSimpArgs false
set_option maxHeartbeats 8000000
set_option maxRecDepth 20000

structure SwS where
  b : Nat
  i : Nat
  out : List Stp
  ver : Nat
  clk : Nat
theorem take_drop_snoc (L : List Pa) (b i : Nat) (h : b ≤ i) (h2 : i < L.length) : (L.take (i + 1)).drop b = (L.take i).drop b ++ [L.getD i default] := by
  rw [List.take_add_one, List.drop_append, List.getElem?_eq_getElem h2, List.getD_eq_getElem?_getD, List.getElem?_eq_getElem h2]
  have : b - (L.take i).length = 0 := by rw [List.length_take]; omega
  rw [this]; rfl
theorem stringsR_ok (l : List Tok) (h : okT l) : PCall Try.prog 31 [toks l] (stV2 (stO l)) := by
  have h1 := h.1
  have hP := okPs_pl h
  have hfb := @pl_false l
  unfold stO
  generalize hL : pl l = L at *
  cases hb : ptB l with
  | false =>
    have hz := hfb hb
    subst hz
    rw [if_neg (by simp)]
    refine PCall.rsub ?_ (vnil_stps false)
    refine PCall.of (Orc.cons sumPtsR (Orc.cons sumId7 (Orc.cons sumNmR (Orc.cons sumItsR (Orc.nil _))))) c31_ok (by simp [c31]) fun w0 own0 => ?_
    simp only [c31, toks, dToks_map, h1, plV, hL, hb, List.map_nil, on_gcall, off_gcall, flat_gcall, go_sem, reduceCtorEq, reduceIte, Nat.reduceEqDiff, Nat.reduceAdd, Nat.reduceSub, Nat.reduceMul, Nat.reduceLT, Nat.reduceLeDiff, Nat.reduceBEq, Int.reduceEq, Int.reduceLT, Int.reduceLE, Int.reduceAdd, Int.reduceSub, Int.reduceNeg, Int.reduceToNat]
  | true =>
  rw [if_pos rfl]
  by_cases hn : isNone L = true
  · rw [if_pos hn]
    obtain ⟨p, rfl, hi⟩ := isNone_one hn
    have hp := (hP.2 p (by simp)).1
    refine PCall.rsub ?_ (vnil_stps true)
    refine PCall.of (Orc.cons sumPtsR (Orc.cons sumId7 (Orc.cons sumNmR (Orc.cons sumItsR (Orc.nil _))))) c31_ok (by simp [c31]) fun w0 own0 => ?_
    simp only [c31, toks, dToks_map, h1, plV, hL, hb, hi, hp, Pa.enc, dPa_mk, Pa.eta', List.map_cons, List.map_nil, on_gcall, off_gcall, flat_gcall, go_sem, reduceCtorEq, reduceIte, Nat.reduceEqDiff, Nat.reduceAdd, Nat.reduceSub, Nat.reduceMul, Nat.reduceLT, Nat.reduceLeDiff, Nat.reduceBEq, Int.reduceEq, Int.reduceLT, Int.reduceLE, Int.reduceAdd, Int.reduceSub, Int.reduceNeg, Int.reduceToNat]
  rw [if_neg hn]
  refine stR_sub _ ?_
  generalize hR : strG [] L = R
  refine PCall.of (Orc.cons sumPtsR (Orc.cons sumId7 (Orc.cons sumNmR (Orc.cons sumItsR (Orc.nil _))))) c31_ok (by simp [c31]) fun w0 own0 => ?_
  have hg0 : (L.length : Int) = 1 → ∃ p0 : Pa, (L.map Pa.enc).getD 0 [vi 0, vs ⟨#[]⟩, vi 0, vnil] = p0.enc ∧ okP7 p0 ∧ identB p0 ⟨#[110, 111, 110, 101]⟩ = false := fun h1 => by
    obtain ⟨p, rfl⟩ := List.length_eq_one_iff.1 (show L.length = 1 by omega)
    refine ⟨p, rfl, (hP.2 p (by simp)).1, ?_⟩
    cases hh : identB p ⟨#[110, 111, 110, 101]⟩ with
    | false => rfl
    | true => exact absurd hh (by simpa [isNone, noneW] using hn)
  have hLn := hP.1
  by_cases hl1 : (L.length : Int) = 1
  · obtain ⟨p0, hx0, hp0, hi0⟩ := hg0 hl1
    have hl1t := eq_true hl1
    have hlp : (0 : Int) < (L.length : Int) := by omega
    simp only [c31, toks, dToks_map, h1, plV, hL, hb, hl1, hx0, hp0, hi0, Pa.enc, dPa_mk, Pa.eta', on_gcall, off_gcall, flat_gcall, go_sem, reduceCtorEq, reduceIte, Nat.reduceEqDiff, Nat.reduceAdd, Nat.reduceSub, Nat.reduceMul, Nat.reduceLT, Nat.reduceLeDiff, Nat.reduceBEq, Int.reduceEq, Int.reduceLT, Int.reduceLE, Int.reduceAdd, Int.reduceSub, Int.reduceNeg, Int.reduceToNat]
    try (refine ⟨by omega, ?_⟩)
    refine SemC.lp (α := SwS) (fun a => [(4, .slc 4 (L.map Pa.enc)), (6, .ref 0 a.ver 0 a.out.length), (7, vi a.b), (8, vi a.i)])
      (fun a => ⟨[⟨a.ver, 3, a.out.map Stp.enc, false, [vs ⟨#[]⟩, vi 0, vnil]⟩], a.clk⟩) (fun a => a.i ≤ L.length + 1 ∧ a.out.length ≤ a.i ∧ a.b ≤ a.i ∧ (a.i ≤ L.length → (strG ((L.take a.i).drop a.b) (L.drop a.i)).map (a.out ++ ·) = R) ∧ (a.i = L.length + 1 → some a.out = R)) (fun a => L.length + 1 - a.i) ⟨0, 0, [], 0, 1⟩
      ⟨Nat.zero_le _, Nat.zero_le _, Nat.le_refl _, fun _ => by rw [← hR]; simp only [List.take_zero, List.drop_zero, List.nil_append]; cases strG [] L <;> rfl, fun hh => by dsimp only at hh; omega⟩ (St.nil 6 3 [vs ⟨#[]⟩, vi 0, vnil] (by simp [upd_at]) (St.cut ?_ ?_ ?_)) fun a ha => ?_
    · simp [Agrees, upd_at, initE_at]
    · simp [Heap.alloc]
    · rfl
    obtain ⟨b, i, out, ver, clk⟩ := a
    obtain ⟨i1, i2, i3, i4, i5⟩ := ha
    simp only at i1 i2 i3 i4 i5
    have hot : out.take out.length = out := List.take_length
    by_cases hend : i = L.length + 1
    · have i6 := i5 hend
      subst i6
      have e1 : ¬ ((i : Int) ≤ (L.length : Int)) := by omega
      have hlm : List.take out.length (out.map Stp.enc) = out.map Stp.enc := by rw [List.take_of_length_le (by simp)]
      simp only [e1, hot, stR, stps, mapO_stp10, mapO_stp11, Nat.le_refl, on_gcall, off_gcall, flat_gcall, go_sem, reduceCtorEq, reduceIte, Nat.reduceEqDiff, Nat.reduceAdd, Nat.reduceSub, Nat.reduceMul, Nat.reduceLT, Nat.reduceLeDiff, Nat.reduceBEq, Int.reduceEq, Int.reduceLT, Int.reduceLE, Int.reduceAdd, Int.reduceSub, Int.reduceNeg, Int.reduceToNat]
    · have e1 : ((i : Int) ≤ (L.length : Int)) := by omega
      have e0 : (0 : Int) ≤ (i : Int) := by omega
      have i6 := i4 (by omega)
      have more : ∀ (hsep : i = L.length ∨ (i < L.length ∧ isCm (L.getD i default) = true)), (match finS ((L.take i).drop b) with | none => none | some s => if i = L.length then some (out ++ [s]) else ((strG [] (L.drop (i + 1))).map (s :: ·)).map (out ++ ·)) = R := fun hsep => by
        rcases hsep with hs | ⟨hs, hc⟩
        · rw [← i6, hs, List.drop_length, strG]
          cases finS ((L.take L.length).drop b) <;> simp
        · rw [← i6, par_drop L i hs, strG, if_pos hc]
          cases finS ((L.take i).drop b) with
          | none => rfl
          | some s => simp only [if_neg (show ¬ i = L.length by omega)]
      by_cases hsep : i = L.length ∨ (i < L.length ∧ isCm (L.getD i default) = true)
      · have hm := more hsep
        clear more i4 i5 i6
        have hguard : ∃ (g1 : Prop), True := ⟨True, trivial⟩
        have hcur : (L.take i).drop b = [] ∨ ∃ x r, (L.take i).drop b = x :: r ∧ b < i ∧ L.getD b default = x ∧ r = (L.take i).drop (b + 1) := by
          by_cases hbi : b = i
          · left; subst hbi; exact List.drop_eq_nil_of_le (by rw [List.length_take]; omega)
          · right
            have hb2 : b < (L.take i).length := by rw [List.length_take]; omega
            refine ⟨L.getD b default, (L.take i).drop (b + 1), ?_, by omega, rfl, rfl⟩
            rw [List.drop_eq_getElem_cons hb2, List.getD_eq_getElem?_getD, List.getElem?_eq_getElem (by omega)]
            simp
        have hpart : ∀ (T : Prop), T → T := fun _ t => t
        rcases hsep with hs | ⟨hs, hc⟩
        · subst hs
          have k1 : ¬ ((L.length : Int) < (L.length : Int)) := by omega
          rcases hcur with hcur | ⟨x, r, hcur, hbi, hx, hr⟩
          · have hbi : b = L.length := by
              have := congrArg List.length hcur
              simp at this; omega
            subst hbi
            rw [hcur] at hm
            simp only [finS] at hm
            subst hm
            simp only [k1, e0, e1, Pa.enc, stR, on_gcall, off_gcall, flat_gcall, go_sem, reduceCtorEq, reduceIte, Nat.reduceEqDiff, Nat.reduceAdd, Nat.reduceSub, Nat.reduceMul, Nat.reduceLT, Nat.reduceLeDiff, Nat.reduceBEq, Int.reduceEq, Int.reduceLT, Int.reduceLE, Int.reduceAdd, Int.reduceSub, Int.reduceNeg, Int.reduceToNat]
          · rw [hcur] at hm
            have kb : (((L.length : Nat) : Int) = (b : Int)) = False := eq_false (by omega)
            have kb0 : (0 : Int) ≤ (b : Int) := by omega
            have kb1 : (b : Int) < (L.length : Int) := by omega
            have hgb := getD_pas L b [vi 0, vs ⟨#[]⟩, vi 0, vnil] (by omega)
            rw [hx] at hgb
            have hmx : x ∈ L := by rw [← hx, List.getD_eq_getElem?_getD, List.getElem?_eq_getElem (by omega)]; exact List.getElem_mem _
            have hxo := (hP.2 x hmx).1
            have e3 : ((b : Int) + 1).toNat = b + 1 := by omega
            have e4 : (0 : Int) ≤ (b : Int) + 1 := by omega
            have e5 : (b : Int) + 1 ≤ ((L.length : Nat) : Int) := by omega
            have e6 : ((L.length : Nat) : Int) ≤ (L.length : Int) := by omega
            have hsl : List.take (L.length - (b + 1)) (List.drop (b + 1) (L.map Pa.enc)) = r.map Pa.enc := by
              rw [hr, List.map_drop, List.map_take, List.drop_take]
            have kr : okPs r := by
              rw [hr]
              exact ⟨by simp; omega, fun p hp => hP.2 p (List.mem_of_mem_take (List.mem_of_mem_drop hp))⟩
            cases hn2 : namedB x with
            | false =>
              rw [finS_nn hn2] at hm
              simp only at hm
              subst hm
              simp only [k1, e0, e1, kb, kb0, kb1, hgb, hxo, hn2, Pa.enc, dPa_mk, Pa.eta', stR, on_gcall, off_gcall, flat_gcall, go_sem, reduceCtorEq, reduceIte, Nat.reduceEqDiff, Nat.reduceAdd, Nat.reduceSub, Nat.reduceMul, Nat.reduceLT, Nat.reduceLeDiff, Nat.reduceBEq, Int.reduceEq, Int.reduceLT, Int.reduceLE, Int.reduceAdd, Int.reduceSub, Int.reduceNeg, Int.reduceToNat]
            | true =>
              match hI : itL true r with
              | none =>
                rw [finS_n0 (.inl hI)] at hm
                simp only at hm
                subst hm
                simp only [k1, e0, e1, e3, e4, e5, e6, hsl, kb, kb0, kb1, hgb, hxo, hn2, hI, kr, pas, dPas_map, V.boo_c, itsV, itms, Option.getD_none, Option.getD_some, List.length_nil, List.map_nil, Int.lt_irrefl, Pa.enc, dPa_mk, Pa.eta', stR, on_gcall, off_gcall, flat_gcall, go_sem, reduceCtorEq, reduceIte, Nat.reduceEqDiff, Nat.reduceAdd, Nat.reduceSub, Nat.reduceMul, Nat.reduceLT, Nat.reduceLeDiff, Nat.reduceBEq, Int.reduceEq, Int.reduceLT, Int.reduceLE, Int.reduceAdd, Int.reduceSub, Int.reduceNeg, Int.reduceToNat]
                try omega
              | some [] =>
                rw [finS_n0 (.inr hI)] at hm
                simp only at hm
                subst hm
                simp only [k1, e0, e1, e3, e4, e5, e6, hsl, kb, kb0, kb1, hgb, hxo, hn2, hI, kr, pas, dPas_map, V.boo_c, itsV, itms, Option.getD_none, Option.getD_some, List.length_nil, List.map_nil, Int.lt_irrefl, Pa.enc, dPa_mk, Pa.eta', stR, on_gcall, off_gcall, flat_gcall, go_sem, reduceCtorEq, reduceIte, Nat.reduceEqDiff, Nat.reduceAdd, Nat.reduceSub, Nat.reduceMul, Nat.reduceLT, Nat.reduceLeDiff, Nat.reduceBEq, Int.reduceEq, Int.reduceLT, Int.reduceLE, Int.reduceAdd, Int.reduceSub, Int.reduceNeg, Int.reduceToNat]
                try omega
              | some (y :: ys) =>
                rw [finS_true hn2 hI] at hm
                have hap : List.map Stp.enc out ++ [[vs x.t.text, vi 0, .slc 5 (y.enc :: List.map Itm.enc ys)]] = List.map Stp.enc (out ++ [(⟨x.t.text, 0, y :: ys⟩ : Stp)]) := by simp [Stp.enc]
                have hyp : (0 : Int) < ((ys.length + 1 : Nat) : Int) := by omega
                simp only [k1, e0, e1, e3, e4, e5, e6, hsl, kb, kb0, kb1, hgb, hxo, hn2, hI, kr, hyp, hot, hap, pas, dPas_map, V.boo_c, itsV, itms, Option.getD_some, Pa.enc, dPa_mk, Pa.eta', on_gcall, off_gcall, flat_gcall, go_sem, reduceCtorEq, reduceIte, Nat.reduceEqDiff, Nat.reduceAdd, Nat.reduceSub, Nat.reduceMul, Nat.reduceLT, Nat.reduceLeDiff, Nat.reduceBEq, Int.reduceEq, Int.reduceLT, Int.reduceLE, Int.reduceAdd, Int.reduceSub, Int.reduceNeg, Int.reduceToNat]
                simp only [if_pos] at hm
                refine ⟨by omega, ⟨by omega, by omega, by omega⟩, by omega, by omega, ⟨L.length + 1, L.length + 1, out ++ [⟨x.t.text, 0, y :: ys⟩], _, _⟩, ⟨by dsimp only; omega, by simp; omega, by dsimp only; omega, fun hh => by dsimp only at hh; omega, fun _ => hm⟩, by dsimp only; omega, ⟨⟨rfl, by simp⟩, by dsimp only; omega, by dsimp only; omega⟩, ⟨rfl, rfl⟩, rfl⟩
        · have k1 : (i : Int) < (L.length : Int) := by omega
          have hgi := getD_pas L i [vi 0, vs ⟨#[]⟩, vi 0, vnil] hs
          have hck : ((L.getD i default).t.kind = 16) = True := eq_true (by simpa [isCm] using hc)
          generalize L.getD i default = z at *
          rcases hcur with hcur | ⟨x, r, hcur, hbi, hx, hr⟩
          · have hbi : b = i := by
              have := congrArg List.length hcur
              simp at this; omega
            subst hbi
            rw [hcur] at hm
            simp only [finS] at hm
            subst hm
            simp only [k1, hgi, hck, e0, e1, Pa.enc, stR, on_gcall, off_gcall, flat_gcall, go_sem, reduceCtorEq, reduceIte, Nat.reduceEqDiff, Nat.reduceAdd, Nat.reduceSub, Nat.reduceMul, Nat.reduceLT, Nat.reduceLeDiff, Nat.reduceBEq, Int.reduceEq, Int.reduceLT, Int.reduceLE, Int.reduceAdd, Int.reduceSub, Int.reduceNeg, Int.reduceToNat]
          · rw [hcur] at hm
            have kb : (((i : Nat) : Int) = (b : Int)) = False := eq_false (by omega)
            have kb0 : (0 : Int) ≤ (b : Int) := by omega
            have kb1 : (b : Int) < (L.length : Int) := by omega
            have hgb := getD_pas L b [vi 0, vs ⟨#[]⟩, vi 0, vnil] (by omega)
            rw [hx] at hgb
            have hmx : x ∈ L := by rw [← hx, List.getD_eq_getElem?_getD, List.getElem?_eq_getElem (by omega)]; exact List.getElem_mem _
            have hxo := (hP.2 x hmx).1
            have e3 : ((b : Int) + 1).toNat = b + 1 := by omega
            have e4 : (0 : Int) ≤ (b : Int) + 1 := by omega
            have e5 : (b : Int) + 1 ≤ ((i : Nat) : Int) := by omega
            have e6 : ((i : Nat) : Int) ≤ (L.length : Int) := by omega
            have hsl : List.take (i - (b + 1)) (List.drop (b + 1) (L.map Pa.enc)) = r.map Pa.enc := by
              rw [hr, List.map_drop, List.map_take, List.drop_take]
            have kr : okPs r := by
              rw [hr]
              exact ⟨by simp; omega, fun p hp => hP.2 p (List.mem_of_mem_take (List.mem_of_mem_drop hp))⟩
            cases hn2 : namedB x with
            | false =>
              rw [finS_nn hn2] at hm
              simp only at hm
              subst hm
              simp only [k1, hgi, hck, e0, e1, kb, kb0, kb1, hgb, hxo, hn2, Pa.enc, dPa_mk, Pa.eta', stR, on_gcall, off_gcall, flat_gcall, go_sem, reduceCtorEq, reduceIte, Nat.reduceEqDiff, Nat.reduceAdd, Nat.reduceSub, Nat.reduceMul, Nat.reduceLT, Nat.reduceLeDiff, Nat.reduceBEq, Int.reduceEq, Int.reduceLT, Int.reduceLE, Int.reduceAdd, Int.reduceSub, Int.reduceNeg, Int.reduceToNat]
            | true =>
              match hI : itL true r with
              | none =>
                rw [finS_n0 (.inl hI)] at hm
                simp only at hm
                subst hm
                simp only [k1, hgi, hck, e0, e1, e3, e4, e5, e6, hsl, kb, kb0, kb1, hgb, hxo, hn2, hI, kr, pas, dPas_map, V.boo_c, itsV, itms, Option.getD_none, Option.getD_some, List.length_nil, List.map_nil, Int.lt_irrefl, Pa.enc, dPa_mk, Pa.eta', stR, on_gcall, off_gcall, flat_gcall, go_sem, reduceCtorEq, reduceIte, Nat.reduceEqDiff, Nat.reduceAdd, Nat.reduceSub, Nat.reduceMul, Nat.reduceLT, Nat.reduceLeDiff, Nat.reduceBEq, Int.reduceEq, Int.reduceLT, Int.reduceLE, Int.reduceAdd, Int.reduceSub, Int.reduceNeg, Int.reduceToNat]
                try omega
              | some [] =>
                rw [finS_n0 (.inr hI)] at hm
                simp only at hm
                subst hm
                simp only [k1, hgi, hck, e0, e1, e3, e4, e5, e6, hsl, kb, kb0, kb1, hgb, hxo, hn2, hI, kr, pas, dPas_map, V.boo_c, itsV, itms, Option.getD_none, Option.getD_some, List.length_nil, List.map_nil, Int.lt_irrefl, Pa.enc, dPa_mk, Pa.eta', stR, on_gcall, off_gcall, flat_gcall, go_sem, reduceCtorEq, reduceIte, Nat.reduceEqDiff, Nat.reduceAdd, Nat.reduceSub, Nat.reduceMul, Nat.reduceLT, Nat.reduceLeDiff, Nat.reduceBEq, Int.reduceEq, Int.reduceLT, Int.reduceLE, Int.reduceAdd, Int.reduceSub, Int.reduceNeg, Int.reduceToNat]
                try omega
              | some (y :: ys) =>
                rw [finS_true hn2 hI] at hm
                have hap : List.map Stp.enc out ++ [[vs x.t.text, vi 0, .slc 5 (y.enc :: List.map Itm.enc ys)]] = List.map Stp.enc (out ++ [(⟨x.t.text, 0, y :: ys⟩ : Stp)]) := by simp [Stp.enc]
                have hyp : (0 : Int) < ((ys.length + 1 : Nat) : Int) := by omega
                simp only [k1, hgi, hck, e0, e1, e3, e4, e5, e6, hsl, kb, kb0, kb1, hgb, hxo, hn2, hI, kr, hyp, hot, hap, pas, dPas_map, V.boo_c, itsV, itms, Option.getD_some, Pa.enc, dPa_mk, Pa.eta', on_gcall, off_gcall, flat_gcall, go_sem, reduceCtorEq, reduceIte, Nat.reduceEqDiff, Nat.reduceAdd, Nat.reduceSub, Nat.reduceMul, Nat.reduceLT, Nat.reduceLeDiff, Nat.reduceBEq, Int.reduceEq, Int.reduceLT, Int.reduceLE, Int.reduceAdd, Int.reduceSub, Int.reduceNeg, Int.reduceToNat]
                simp only [if_neg (show ¬ i = L.length by omega)] at hm
                refine ⟨by omega, ⟨by omega, by omega, by omega⟩, by omega, by omega, ⟨i + 1, i + 1, out ++ [⟨x.t.text, 0, y :: ys⟩], _, _⟩, ⟨by dsimp only; omega, by simp; omega, by dsimp only; omega, fun _ => ?_, fun hh => by dsimp only at hh; omega⟩, by dsimp only; omega, ⟨⟨rfl, by simp⟩, by dsimp only; omega, by dsimp only; omega⟩, ⟨rfl, rfl⟩, rfl⟩
                dsimp only
                rw [← hm, List.drop_eq_nil_of_le (by rw [List.length_take]; omega)]
                cases strG [] (L.drop (i + 1)) <;> simp
      · have hs : i < L.length := Decidable.byContradiction fun hh => hsep (.inl (by omega))
        have hc : isCm (L.getD i default) = false := by
          cases hh : isCm (L.getD i default) with
          | false => rfl
          | true => exact absurd (.inr ⟨hs, hh⟩) hsep
        have k1 : (i : Int) < (L.length : Int) := by omega
        have hgi := getD_pas L i [vi 0, vs ⟨#[]⟩, vi 0, vnil] hs
        have hck : ((L.getD i default).t.kind = 16) = False := eq_false (by simpa [isCm] using hc)
        have hsn := take_drop_snoc L b i i3 hs
        rw [par_drop L i hs, strG, if_neg (by rw [hc]; simp), ← hsn] at i6
        generalize L.getD i default = z at *
        simp only [k1, hgi, hck, e0, e1, Pa.enc, on_gcall, off_gcall, flat_gcall, go_sem, reduceCtorEq, reduceIte, Nat.reduceEqDiff, Nat.reduceAdd, Nat.reduceSub, Nat.reduceMul, Nat.reduceLT, Nat.reduceLeDiff, Nat.reduceBEq, Int.reduceEq, Int.reduceLT, Int.reduceLE, Int.reduceAdd, Int.reduceSub, Int.reduceNeg, Int.reduceToNat]
        exact ⟨by omega, ⟨b, i + 1, out, ver, clk⟩, ⟨by dsimp only; omega, by dsimp only; omega, by dsimp only; omega, fun _ => i6, fun hh => by dsimp only at hh; omega⟩, by dsimp only; omega, ⟨⟨rfl, rfl⟩, rfl, by dsimp only; omega⟩, ⟨rfl, rfl⟩, rfl⟩
  · have hl2 := eq_false hl1
    simp only [c31, toks, dToks_map, h1, plV, hL, hb, hl2, on_gcall, off_gcall, flat_gcall, go_sem, reduceCtorEq, reduceIte, Nat.reduceEqDiff, Nat.reduceAdd, Nat.reduceSub, Nat.reduceMul, Nat.reduceLT, Nat.reduceLeDiff, Nat.reduceBEq, Int.reduceEq, Int.reduceLT, Int.reduceLE, Int.reduceAdd, Int.reduceSub, Int.reduceNeg, Int.reduceToNat]
    refine SemC.lp (α := SwS) (fun a => [(4, .slc 4 (L.map Pa.enc)), (6, .ref 0 a.ver 0 a.out.length), (7, vi a.b), (8, vi a.i)])
      (fun a => ⟨[⟨a.ver, 3, a.out.map Stp.enc, false, [vs ⟨#[]⟩, vi 0, vnil]⟩], a.clk⟩) (fun a => a.i ≤ L.length + 1 ∧ a.out.length ≤ a.i ∧ a.b ≤ a.i ∧ (a.i ≤ L.length → (strG ((L.take a.i).drop a.b) (L.drop a.i)).map (a.out ++ ·) = R) ∧ (a.i = L.length + 1 → some a.out = R)) (fun a => L.length + 1 - a.i) ⟨0, 0, [], 0, 1⟩
      ⟨Nat.zero_le _, Nat.zero_le _, Nat.le_refl _, fun _ => by rw [← hR]; simp only [List.take_zero, List.drop_zero, List.nil_append]; cases strG [] L <;> rfl, fun hh => by dsimp only at hh; omega⟩ (St.nil 6 3 [vs ⟨#[]⟩, vi 0, vnil] (by simp [upd_at]) (St.cut ?_ ?_ ?_)) fun a ha => ?_
    · simp [Agrees, upd_at, initE_at]
    · simp [Heap.alloc]
    · rfl
    obtain ⟨b, i, out, ver, clk⟩ := a
    obtain ⟨i1, i2, i3, i4, i5⟩ := ha
    simp only at i1 i2 i3 i4 i5
    have hot : out.take out.length = out := List.take_length
    by_cases hend : i = L.length + 1
    · have i6 := i5 hend
      subst i6
      have e1 : ¬ ((i : Int) ≤ (L.length : Int)) := by omega
      have hlm : List.take out.length (out.map Stp.enc) = out.map Stp.enc := by rw [List.take_of_length_le (by simp)]
      simp only [e1, hot, stR, stps, mapO_stp10, mapO_stp11, Nat.le_refl, on_gcall, off_gcall, flat_gcall, go_sem, reduceCtorEq, reduceIte, Nat.reduceEqDiff, Nat.reduceAdd, Nat.reduceSub, Nat.reduceMul, Nat.reduceLT, Nat.reduceLeDiff, Nat.reduceBEq, Int.reduceEq, Int.reduceLT, Int.reduceLE, Int.reduceAdd, Int.reduceSub, Int.reduceNeg, Int.reduceToNat]
    · have e1 : ((i : Int) ≤ (L.length : Int)) := by omega
      have e0 : (0 : Int) ≤ (i : Int) := by omega
      have i6 := i4 (by omega)
      have more : ∀ (hsep : i = L.length ∨ (i < L.length ∧ isCm (L.getD i default) = true)), (match finS ((L.take i).drop b) with | none => none | some s => if i = L.length then some (out ++ [s]) else ((strG [] (L.drop (i + 1))).map (s :: ·)).map (out ++ ·)) = R := fun hsep => by
        rcases hsep with hs | ⟨hs, hc⟩
        · rw [← i6, hs, List.drop_length, strG]
          cases finS ((L.take L.length).drop b) <;> simp
        · rw [← i6, par_drop L i hs, strG, if_pos hc]
          cases finS ((L.take i).drop b) with
          | none => rfl
          | some s => simp only [if_neg (show ¬ i = L.length by omega)]
      by_cases hsep : i = L.length ∨ (i < L.length ∧ isCm (L.getD i default) = true)
      · have hm := more hsep
        clear more i4 i5 i6
        have hguard : ∃ (g1 : Prop), True := ⟨True, trivial⟩
        have hcur : (L.take i).drop b = [] ∨ ∃ x r, (L.take i).drop b = x :: r ∧ b < i ∧ L.getD b default = x ∧ r = (L.take i).drop (b + 1) := by
          by_cases hbi : b = i
          · left; subst hbi; exact List.drop_eq_nil_of_le (by rw [List.length_take]; omega)
          · right
            have hb2 : b < (L.take i).length := by rw [List.length_take]; omega
            refine ⟨L.getD b default, (L.take i).drop (b + 1), ?_, by omega, rfl, rfl⟩
            rw [List.drop_eq_getElem_cons hb2, List.getD_eq_getElem?_getD, List.getElem?_eq_getElem (by omega)]
            simp
        have hpart : ∀ (T : Prop), T → T := fun _ t => t
        rcases hsep with hs | ⟨hs, hc⟩
        · subst hs
          have k1 : ¬ ((L.length : Int) < (L.length : Int)) := by omega
          rcases hcur with hcur | ⟨x, r, hcur, hbi, hx, hr⟩
          · have hbi : b = L.length := by
              have := congrArg List.length hcur
              simp at this; omega
            subst hbi
            rw [hcur] at hm
            simp only [finS] at hm
            subst hm
            simp only [k1, e0, e1, Pa.enc, stR, on_gcall, off_gcall, flat_gcall, go_sem, reduceCtorEq, reduceIte, Nat.reduceEqDiff, Nat.reduceAdd, Nat.reduceSub, Nat.reduceMul, Nat.reduceLT, Nat.reduceLeDiff, Nat.reduceBEq, Int.reduceEq, Int.reduceLT, Int.reduceLE, Int.reduceAdd, Int.reduceSub, Int.reduceNeg, Int.reduceToNat]
          · rw [hcur] at hm
            have kb : (((L.length : Nat) : Int) = (b : Int)) = False := eq_false (by omega)
            have kb0 : (0 : Int) ≤ (b : Int) := by omega
            have kb1 : (b : Int) < (L.length : Int) := by omega
            have hgb := getD_pas L b [vi 0, vs ⟨#[]⟩, vi 0, vnil] (by omega)
            rw [hx] at hgb
            have hmx : x ∈ L := by rw [← hx, List.getD_eq_getElem?_getD, List.getElem?_eq_getElem (by omega)]; exact List.getElem_mem _
            have hxo := (hP.2 x hmx).1
            have e3 : ((b : Int) + 1).toNat = b + 1 := by omega
            have e4 : (0 : Int) ≤ (b : Int) + 1 := by omega
            have e5 : (b : Int) + 1 ≤ ((L.length : Nat) : Int) := by omega
            have e6 : ((L.length : Nat) : Int) ≤ (L.length : Int) := by omega
            have hsl : List.take (L.length - (b + 1)) (List.drop (b + 1) (L.map Pa.enc)) = r.map Pa.enc := by
              rw [hr, List.map_drop, List.map_take, List.drop_take]
            have kr : okPs r := by
              rw [hr]
              exact ⟨by simp; omega, fun p hp => hP.2 p (List.mem_of_mem_take (List.mem_of_mem_drop hp))⟩
            cases hn2 : namedB x with
            | false =>
              rw [finS_nn hn2] at hm
              simp only at hm
              subst hm
              simp only [k1, e0, e1, kb, kb0, kb1, hgb, hxo, hn2, Pa.enc, dPa_mk, Pa.eta', stR, on_gcall, off_gcall, flat_gcall, go_sem, reduceCtorEq, reduceIte, Nat.reduceEqDiff, Nat.reduceAdd, Nat.reduceSub, Nat.reduceMul, Nat.reduceLT, Nat.reduceLeDiff, Nat.reduceBEq, Int.reduceEq, Int.reduceLT, Int.reduceLE, Int.reduceAdd, Int.reduceSub, Int.reduceNeg, Int.reduceToNat]
            | true =>
              match hI : itL true r with
              | none =>
                rw [finS_n0 (.inl hI)] at hm
                simp only at hm
                subst hm
                simp only [k1, e0, e1, e3, e4, e5, e6, hsl, kb, kb0, kb1, hgb, hxo, hn2, hI, kr, pas, dPas_map, V.boo_c, itsV, itms, Option.getD_none, Option.getD_some, List.length_nil, List.map_nil, Int.lt_irrefl, Pa.enc, dPa_mk, Pa.eta', stR, on_gcall, off_gcall, flat_gcall, go_sem, reduceCtorEq, reduceIte, Nat.reduceEqDiff, Nat.reduceAdd, Nat.reduceSub, Nat.reduceMul, Nat.reduceLT, Nat.reduceLeDiff, Nat.reduceBEq, Int.reduceEq, Int.reduceLT, Int.reduceLE, Int.reduceAdd, Int.reduceSub, Int.reduceNeg, Int.reduceToNat]
                try omega
              | some [] =>
                rw [finS_n0 (.inr hI)] at hm
                simp only at hm
                subst hm
                simp only [k1, e0, e1, e3, e4, e5, e6, hsl, kb, kb0, kb1, hgb, hxo, hn2, hI, kr, pas, dPas_map, V.boo_c, itsV, itms, Option.getD_none, Option.getD_some, List.length_nil, List.map_nil, Int.lt_irrefl, Pa.enc, dPa_mk, Pa.eta', stR, on_gcall, off_gcall, flat_gcall, go_sem, reduceCtorEq, reduceIte, Nat.reduceEqDiff, Nat.reduceAdd, Nat.reduceSub, Nat.reduceMul, Nat.reduceLT, Nat.reduceLeDiff, Nat.reduceBEq, Int.reduceEq, Int.reduceLT, Int.reduceLE, Int.reduceAdd, Int.reduceSub, Int.reduceNeg, Int.reduceToNat]
                try omega
              | some (y :: ys) =>
                rw [finS_true hn2 hI] at hm
                have hap : List.map Stp.enc out ++ [[vs x.t.text, vi 0, .slc 5 (y.enc :: List.map Itm.enc ys)]] = List.map Stp.enc (out ++ [(⟨x.t.text, 0, y :: ys⟩ : Stp)]) := by simp [Stp.enc]
                have hyp : (0 : Int) < ((ys.length + 1 : Nat) : Int) := by omega
                simp only [k1, e0, e1, e3, e4, e5, e6, hsl, kb, kb0, kb1, hgb, hxo, hn2, hI, kr, hyp, hot, hap, pas, dPas_map, V.boo_c, itsV, itms, Option.getD_some, Pa.enc, dPa_mk, Pa.eta', on_gcall, off_gcall, flat_gcall, go_sem, reduceCtorEq, reduceIte, Nat.reduceEqDiff, Nat.reduceAdd, Nat.reduceSub, Nat.reduceMul, Nat.reduceLT, Nat.reduceLeDiff, Nat.reduceBEq, Int.reduceEq, Int.reduceLT, Int.reduceLE, Int.reduceAdd, Int.reduceSub, Int.reduceNeg, Int.reduceToNat]
                simp only [if_pos] at hm
                refine ⟨by omega, ⟨by omega, by omega, by omega⟩, by omega, by omega, ⟨L.length + 1, L.length + 1, out ++ [⟨x.t.text, 0, y :: ys⟩], _, _⟩, ⟨by dsimp only; omega, by simp; omega, by dsimp only; omega, fun hh => by dsimp only at hh; omega, fun _ => hm⟩, by dsimp only; omega, ⟨⟨rfl, by simp⟩, by dsimp only; omega, by dsimp only; omega⟩, ⟨rfl, rfl⟩, rfl⟩
        · have k1 : (i : Int) < (L.length : Int) := by omega
          have hgi := getD_pas L i [vi 0, vs ⟨#[]⟩, vi 0, vnil] hs
          have hck : ((L.getD i default).t.kind = 16) = True := eq_true (by simpa [isCm] using hc)
          generalize L.getD i default = z at *
          rcases hcur with hcur | ⟨x, r, hcur, hbi, hx, hr⟩
          · have hbi : b = i := by
              have := congrArg List.length hcur
              simp at this; omega
            subst hbi
            rw [hcur] at hm
            simp only [finS] at hm
            subst hm
            simp only [k1, hgi, hck, e0, e1, Pa.enc, stR, on_gcall, off_gcall, flat_gcall, go_sem, reduceCtorEq, reduceIte, Nat.reduceEqDiff, Nat.reduceAdd, Nat.reduceSub, Nat.reduceMul, Nat.reduceLT, Nat.reduceLeDiff, Nat.reduceBEq, Int.reduceEq, Int.reduceLT, Int.reduceLE, Int.reduceAdd, Int.reduceSub, Int.reduceNeg, Int.reduceToNat]
          · rw [hcur] at hm
            have kb : (((i : Nat) : Int) = (b : Int)) = False := eq_false (by omega)
            have kb0 : (0 : Int) ≤ (b : Int) := by omega
            have kb1 : (b : Int) < (L.length : Int) := by omega
            have hgb := getD_pas L b [vi 0, vs ⟨#[]⟩, vi 0, vnil] (by omega)
            rw [hx] at hgb
            have hmx : x ∈ L := by rw [← hx, List.getD_eq_getElem?_getD, List.getElem?_eq_getElem (by omega)]; exact List.getElem_mem _
            have hxo := (hP.2 x hmx).1
            have e3 : ((b : Int) + 1).toNat = b + 1 := by omega
            have e4 : (0 : Int) ≤ (b : Int) + 1 := by omega
            have e5 : (b : Int) + 1 ≤ ((i : Nat) : Int) := by omega
            have e6 : ((i : Nat) : Int) ≤ (L.length : Int) := by omega
            have hsl : List.take (i - (b + 1)) (List.drop (b + 1) (L.map Pa.enc)) = r.map Pa.enc := by
              rw [hr, List.map_drop, List.map_take, List.drop_take]
            have kr : okPs r := by
              rw [hr]
              exact ⟨by simp; omega, fun p hp => hP.2 p (List.mem_of_mem_take (List.mem_of_mem_drop hp))⟩
            cases hn2 : namedB x with
            | false =>
              rw [finS_nn hn2] at hm
              simp only at hm
              subst hm
              simp only [k1, hgi, hck, e0, e1, kb, kb0, kb1, hgb, hxo, hn2, Pa.enc, dPa_mk, Pa.eta', stR, on_gcall, off_gcall, flat_gcall, go_sem, reduceCtorEq, reduceIte, Nat.reduceEqDiff, Nat.reduceAdd, Nat.reduceSub, Nat.reduceMul, Nat.reduceLT, Nat.reduceLeDiff, Nat.reduceBEq, Int.reduceEq, Int.reduceLT, Int.reduceLE, Int.reduceAdd, Int.reduceSub, Int.reduceNeg, Int.reduceToNat]
            | true =>
              match hI : itL true r with
              | none =>
                rw [finS_n0 (.inl hI)] at hm
                simp only at hm
                subst hm
                simp only [k1, hgi, hck, e0, e1, e3, e4, e5, e6, hsl, kb, kb0, kb1, hgb, hxo, hn2, hI, kr, pas, dPas_map, V.boo_c, itsV, itms, Option.getD_none, Option.getD_some, List.length_nil, List.map_nil, Int.lt_irrefl, Pa.enc, dPa_mk, Pa.eta', stR, on_gcall, off_gcall, flat_gcall, go_sem, reduceCtorEq, reduceIte, Nat.reduceEqDiff, Nat.reduceAdd, Nat.reduceSub, Nat.reduceMul, Nat.reduceLT, Nat.reduceLeDiff, Nat.reduceBEq, Int.reduceEq, Int.reduceLT, Int.reduceLE, Int.reduceAdd, Int.reduceSub, Int.reduceNeg, Int.reduceToNat]
                try omega
              | some [] =>
                rw [finS_n0 (.inr hI)] at hm
                simp only at hm
                subst hm
                simp only [k1, hgi, hck, e0, e1, e3, e4, e5, e6, hsl, kb, kb0, kb1, hgb, hxo, hn2, hI, kr, pas, dPas_map, V.boo_c, itsV, itms, Option.getD_none, Option.getD_some, List.length_nil, List.map_nil, Int.lt_irrefl, Pa.enc, dPa_mk, Pa.eta', stR, on_gcall, off_gcall, flat_gcall, go_sem, reduceCtorEq, reduceIte, Nat.reduceEqDiff, Nat.reduceAdd, Nat.reduceSub, Nat.reduceMul, Nat.reduceLT, Nat.reduceLeDiff, Nat.reduceBEq, Int.reduceEq, Int.reduceLT, Int.reduceLE, Int.reduceAdd, Int.reduceSub, Int.reduceNeg, Int.reduceToNat]
                try omega
              | some (y :: ys) =>
                rw [finS_true hn2 hI] at hm
                have hap : List.map Stp.enc out ++ [[vs x.t.text, vi 0, .slc 5 (y.enc :: List.map Itm.enc ys)]] = List.map Stp.enc (out ++ [(⟨x.t.text, 0, y :: ys⟩ : Stp)]) := by simp [Stp.enc]
                have hyp : (0 : Int) < ((ys.length + 1 : Nat) : Int) := by omega
                simp only [k1, hgi, hck, e0, e1, e3, e4, e5, e6, hsl, kb, kb0, kb1, hgb, hxo, hn2, hI, kr, hyp, hot, hap, pas, dPas_map, V.boo_c, itsV, itms, Option.getD_some, Pa.enc, dPa_mk, Pa.eta', on_gcall, off_gcall, flat_gcall, go_sem, reduceCtorEq, reduceIte, Nat.reduceEqDiff, Nat.reduceAdd, Nat.reduceSub, Nat.reduceMul, Nat.reduceLT, Nat.reduceLeDiff, Nat.reduceBEq, Int.reduceEq, Int.reduceLT, Int.reduceLE, Int.reduceAdd, Int.reduceSub, Int.reduceNeg, Int.reduceToNat]
                simp only [if_neg (show ¬ i = L.length by omega)] at hm
                refine ⟨by omega, ⟨by omega, by omega, by omega⟩, by omega, by omega, ⟨i + 1, i + 1, out ++ [⟨x.t.text, 0, y :: ys⟩], _, _⟩, ⟨by dsimp only; omega, by simp; omega, by dsimp only; omega, fun _ => ?_, fun hh => by dsimp only at hh; omega⟩, by dsimp only; omega, ⟨⟨rfl, by simp⟩, by dsimp only; omega, by dsimp only; omega⟩, ⟨rfl, rfl⟩, rfl⟩
                dsimp only
                rw [← hm, List.drop_eq_nil_of_le (by rw [List.length_take]; omega)]
                cases strG [] (L.drop (i + 1)) <;> simp
      · have hs : i < L.length := Decidable.byContradiction fun hh => hsep (.inl (by omega))
        have hc : isCm (L.getD i default) = false := by
          cases hh : isCm (L.getD i default) with
          | false => rfl
          | true => exact absurd (.inr ⟨hs, hh⟩) hsep
        have k1 : (i : Int) < (L.length : Int) := by omega
        have hgi := getD_pas L i [vi 0, vs ⟨#[]⟩, vi 0, vnil] hs
        have hck : ((L.getD i default).t.kind = 16) = False := eq_false (by simpa [isCm] using hc)
        have hsn := take_drop_snoc L b i i3 hs
        rw [par_drop L i hs, strG, if_neg (by rw [hc]; simp), ← hsn] at i6
        generalize L.getD i default = z at *
        simp only [k1, hgi, hck, e0, e1, Pa.enc, on_gcall, off_gcall, flat_gcall, go_sem, reduceCtorEq, reduceIte, Nat.reduceEqDiff, Nat.reduceAdd, Nat.reduceSub, Nat.reduceMul, Nat.reduceLT, Nat.reduceLeDiff, Nat.reduceBEq, Int.reduceEq, Int.reduceLT, Int.reduceLE, Int.reduceAdd, Int.reduceSub, Int.reduceNeg, Int.reduceToNat]
        exact ⟨by omega, ⟨b, i + 1, out, ver, clk⟩, ⟨by dsimp only; omega, by dsimp only; omega, by dsimp only; omega, fun _ => i6, fun hh => by dsimp only at hh; omega⟩, by dsimp only; omega, ⟨⟨rfl, rfl⟩, rfl, by dsimp only; omega⟩, ⟨rfl, rfl⟩, rfl⟩
def sumStrR : Sum Try.prog := ⟨31, fun args => args = [toks (dToks (args.getD 0 .any))] ∧ okT (dToks (args.getD 0 .any)), fun args => stV2 (stO (dToks (args.getD 0 .any))), fun args h => by
  have := stringsR_ok (dToks (args.getD 0 .any)) h.2; rwa [← h.1] at this, false⟩
theorem sumStrR_f : sumStrR.f = 31 := rfl
theorem sumStrR_D (args : List V) : sumStrR.D args = (args = [toks (dToks (args.getD 0 .any))] ∧ okT (dToks (args.getD 0 .any))) := rfl
theorem sumStrR_flat : sumStrR.flat = false := rfl
theorem sumStrR_r (args : List V) : sumStrR.r args = stV2 (stO (dToks (args.getD 0 .any))) := rfl
attribute [go_sem] sumStrR_f sumStrR_D sumStrR_flat sumStrR_r
end Go.Proofs.Ytjofgafeaiiegaa
