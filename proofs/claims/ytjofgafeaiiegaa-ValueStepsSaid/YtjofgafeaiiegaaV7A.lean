/- Layer 7: named strings. -/
import Derived.Test.YtjofgafeaiiegaaV7w
namespace Go.Proofs.Ytjofgafeaiiegaa
open Go.Sx
set_option linter.unusedSimpArgs false
set_option maxHeartbeats 8000000
set_option maxRecDepth 20000

def isCm (p : Pa) : Bool := decide (p.t.kind = 16)
theorem cm_ok (p : Pa) : PCall Try.prog 52 [.agg p.enc] (vb (isCm p)) := by
  refine PCall.of (Orc.nil _) c52_ok (by simp [c52]) fun w0 own0 => ?_
  simp only [c52, Pa.enc, isCm, go_sem, wpR_gcall, reduceCtorEq, reduceIte, Nat.reduceEqDiff, Nat.reduceAdd, Nat.reduceSub, Nat.reduceMul, Nat.reduceLT, Nat.reduceLeDiff, Nat.reduceBEq, Int.reduceEq, Int.reduceLT, Int.reduceLE, Int.reduceAdd, Int.reduceSub, Int.reduceNeg, Int.reduceToNat]
def sumCm : Sum Try.prog := ⟨52, fun args => args = [.agg (Pa.enc (dPa (args.getD 0 .any)))], fun args => vb (isCm (dPa (args.getD 0 .any))), fun args h => by
  have := cm_ok (dPa (args.getD 0 .any)); rwa [← h] at this, true⟩
theorem sumCm_f : sumCm.f = 52 := rfl
theorem sumCm_D (args : List V) : sumCm.D args = (args = [.agg (Pa.enc (dPa (args.getD 0 .any)))]) := rfl
theorem sumCm_flat : sumCm.flat = true := rfl
theorem sumCm_r (args : List V) : sumCm.r args = vb (isCm (dPa (args.getD 0 .any))) := rfl
attribute [go_sem] sumCm_f sumCm_D sumCm_flat sumCm_r
def ixCm (L : List Pa) : Int := fst (fun i => isCm (L.getD i default)) (L.length - 0) 0
theorem ixCm_ok (L : List Pa) (hl : L.length ≤ 1000001) : PCall Try.prog 51 [pas L, .fn 52 []] (vi (ixCm L)) := by
  refine PCall.of (Orc.cons sumCm (Orc.nil _)) c51_ok (by simp [c51]) fun w0 own0 => ?_
  simp only [c51, pas, go_sem, wpR_gcall, reduceCtorEq, reduceIte, Nat.reduceEqDiff, Nat.reduceAdd, Nat.reduceSub, Nat.reduceMul, Nat.reduceLT, Nat.reduceLeDiff, Nat.reduceBEq, Int.reduceEq, Int.reduceLT, Int.reduceLE, Int.reduceAdd, Int.reduceSub, Int.reduceNeg, Int.reduceToNat]
  refine SemC.lp (α := Nat) (fun k => [(0, .slc 4 (L.map Pa.enc)), (1, .fn 52 []), (7, vi L.length), (8, vi k)]) (fun _ => ⟨[], 0⟩)
    (fun k => k ≤ L.length ∧ fst (fun i => isCm (L.getD i default)) (L.length - k) k = ixCm L) (fun k => L.length - k) 0 ⟨Nat.zero_le _, rfl⟩ (St.mk (by simp [Agrees, upd_at, initE_at])) fun k hk => ?_
  obtain ⟨h1, h2⟩ := hk
  by_cases hkl : k = L.length
  · subst hkl
    rw [fst_end] at h2
    simp only [Int.lt_irrefl, ← h2, go_sem, wpR_gcall, reduceCtorEq, reduceIte, Nat.reduceEqDiff, Nat.reduceAdd, Nat.reduceSub, Nat.reduceMul, Nat.reduceLT, Nat.reduceLeDiff, Nat.reduceBEq, Int.reduceEq, Int.reduceLT, Int.reduceLE, Int.reduceAdd, Int.reduceSub, Int.reduceNeg, Int.reduceToNat]
  · have e1 : (k : Int) < (L.length : Int) := by omega
    have e0 : (0 : Int) ≤ (k : Int) := by omega
    have hlt : k < L.length := by omega
    rw [fst_step _ _ _ hlt] at h2
    have hg := getD_pas L k [vi 0, vs ⟨#[]⟩, vi 0, vnil] hlt
    generalize L.getD k default = x at *
    simp only [e0, e1, hg, Pa.enc, dPa_mk, Pa.eta', go_sem, wpR_gcall, reduceCtorEq, reduceIte, Nat.reduceEqDiff, Nat.reduceAdd, Nat.reduceSub, Nat.reduceMul, Nat.reduceLT, Nat.reduceLeDiff, Nat.reduceBEq, Int.reduceEq, Int.reduceLT, Int.reduceLE, Int.reduceAdd, Int.reduceSub, Int.reduceNeg, Int.reduceToNat]
    cases hc : isCm x with
    | true => simp only [hc, if_true] at h2; simp [h2]
    | false =>
      simp only [hc, Bool.false_eq_true, if_false] at h2
      simp
      exact ⟨by omega, k + 1, ⟨by omega, h2⟩, by omega, by omega⟩
def sumIxCm : Sum Try.prog := ⟨51, fun args => args = [pas (dPas (args.getD 0 .any)), .fn 52 []] ∧ ((dPas (args.getD 0 .any))).length ≤ 1000001, fun args => vi (ixCm (dPas (args.getD 0 .any))), fun args h => by
  have := ixCm_ok (dPas (args.getD 0 .any)) h.2; rwa [← h.1] at this, true⟩
theorem sumIxCm_f : sumIxCm.f = 51 := rfl
theorem sumIxCm_D (args : List V) : sumIxCm.D args = (args = [pas (dPas (args.getD 0 .any)), .fn 52 []] ∧ ((dPas (args.getD 0 .any))).length ≤ 1000001) := rfl
theorem sumIxCm_flat : sumIxCm.flat = true := rfl
theorem sumIxCm_r (args : List V) : sumIxCm.r args = vi (ixCm (dPas (args.getD 0 .any))) := rfl
attribute [go_sem] sumIxCm_f sumIxCm_D sumIxCm_flat sumIxCm_r
def finS (cur : List Pa) : Option Stp := match cur with
  | [] => none
  | a :: r => if namedB a = true then (match itL true r with | some (x :: xs) => some ⟨a.t.text, 0, x :: xs⟩ | _ => none) else none
def strG : List Pa → List Pa → Option (List Stp)
  | cur, [] => (finS cur).map fun s => [s]
  | cur, p :: l => if isCm p = true then (match finS cur with | none => none | some s => (strG [] l).map (s :: ·)) else strG (cur ++ [p]) l
theorem strG_plain : ∀ (a cur l : List Pa), (∀ p ∈ a, isCm p = false) → strG cur (a ++ l) = strG (cur ++ a) l
  | [], cur, l, _ => by simp
  | p :: a, cur, l, h => by
    rw [List.cons_append, strG, if_neg (by rw [h p (by simp)]; simp), strG_plain a _ l (fun q hq => h q (by simp [hq]))]
    simp
def stO (l : List Tok) : Option (List Stp) := if ptB l = true then (if isNone (pl l) = true then some [] else strG [] (pl l)) else none
def stR : Option (List Stp) → V
  | none => .tup [vnil, vb false]
  | some l => .tup [stps l, vb true]
def stV2 (o : Option (List Stp)) : V := .tup [stps (o.getD []), vb o.isSome]
theorem stR_sub (o : Option (List Stp)) {f : FuncId} {args : List V} (h : PCall Try.prog f args (stR o)) : PCall Try.prog f args (stV2 o) := by
  cases o with
  | none => exact PCall.rsub h (vnil_stps false)
  | some l => exact h
theorem mapO_stp11 (S : Nat → Bool) (h : Heap) : ∀ l : List Stp, mapO (mapO (res S h 11)) (l.map Stp.enc) = some (l.map Stp.enc)
  | [] => rfl
  | p :: l => by
    have e : mapO (res S h 11) p.enc = some p.enc := rfl
    simp only [List.map_cons, mapO, mapO_stp11 S h l, e]
theorem mapO_stp10 (S : Nat → Bool) (h : Heap) : ∀ l : List Stp, mapO (mapO (res S h 10)) (l.map Stp.enc) = some (l.map Stp.enc)
  | [] => rfl
  | p :: l => by
    have e : mapO (res S h 10) p.enc = some p.enc := rfl
    simp only [List.map_cons, mapO, mapO_stp10 S h l, e]
theorem isNone_one {L : List Pa} (h : isNone L = true) : ∃ p, L = [p] ∧ identB p ⟨#[110, 111, 110, 101]⟩ = true := by
  unfold isNone at h
  split at h
  · exact ⟨_, rfl, h⟩
  · cases h
theorem ixCm_cases (L : List Pa) : (ixCm L = -1 ∧ strG [] L = (finS L).map fun s => [s]) ∨ ∃ m : Nat, ixCm L = m ∧ m < L.length ∧ strG [] L = (match finS (L.take m) with | none => none | some s => (strG [] (L.drop (m + 1))).map (s :: ·)) := by
  unfold ixCm
  have hg : ∀ (a : List Pa), (∀ i, i < a.length → isCm (a.getD i default) = false) → ∀ p ∈ a, isCm p = false := fun a h p hp => by
    obtain ⟨i, hi, rfl⟩ := List.getElem_of_mem hp
    have := h i hi
    rwa [List.getD_eq_getElem?_getD, List.getElem?_eq_getElem hi] at this
  rcases fst_spec (fun i => isCm (L.getD i default)) (L.length - 0) 0 with ⟨h1, h2⟩ | ⟨m, h1, h2, h3, h4, h5⟩
  · refine .inl ⟨h1, ?_⟩
    have := strG_plain L [] [] (hg L fun i hi => h2 i (by omega) (by omega))
    rw [List.append_nil, List.nil_append] at this
    rw [this]; rfl
  · have hm : m < L.length := by omega
    refine .inr ⟨m, h1, hm, ?_⟩
    have e : L = L.take m ++ L.getD m default :: L.drop (m + 1) := by
      rw [← par_drop L m hm, List.take_append_drop]
    have h6 := strG_plain (L.take m) [] (L.getD m default :: L.drop (m + 1)) (hg _ fun i hi => by
      rw [List.length_take] at hi
      have := h5 i (by omega) (by omega)
      rw [List.getD_eq_getElem?_getD, List.getElem?_take, if_pos (by omega), ← List.getD_eq_getElem?_getD]; exact this)
    rw [← e, List.nil_append] at h6
    rw [h6, strG, if_pos h4]
structure SrS where
  L : List Pa
  out : List Stp
  ver : Nat
  clk : Nat
theorem finS_true {a : Pa} {r : List Pa} {x : Itm} {xs : List Itm} (h : namedB a = true) (hI : itL true r = some (x :: xs)) : finS (a :: r) = some ⟨a.t.text, 0, x :: xs⟩ := by unfold finS; simp only [h, if_true, hI]
theorem finS_nn {a : Pa} {r : List Pa} (h : namedB a = false) : finS (a :: r) = none := by unfold finS; simp only [h, Bool.false_eq_true, if_false]
theorem finS_n0 {a : Pa} {r : List Pa} (hI : itL true r = none ∨ itL true r = some []) : finS (a :: r) = none := by
  unfold finS
  rcases hI with hI | hI <;> simp only [hI, ite_self]
theorem strings_ok (l : List Tok) (h : okT l) : PCall Try.prog 30 [toks l] (stV2 (stO l)) := by
  have h1 := h.1
  have hP := okPs_pl h
  have hfb := @pl_false l
  unfold stO
  generalize hL : pl l = L0 at *
  cases hb : ptB l with
  | false =>
    have hz := hfb hb
    subst hz
    rw [if_neg (by simp)]
    refine PCall.rsub ?_ (vnil_stps false)
    refine PCall.of (Orc.cons sumPts (Orc.cons sumIs7 (Orc.cons sumIxCm (Orc.cons sumNm (Orc.cons sumIts (Orc.nil _)))))) c30_ok (by simp [c30]) fun w0 own0 => ?_
    simp only [c30, toks, dToks_map, h1, plV, hL, hb, List.map_nil, on_gcall, off_gcall, flat_gcall, go_sem, reduceCtorEq, reduceIte, Nat.reduceEqDiff, Nat.reduceAdd, Nat.reduceSub, Nat.reduceMul, Nat.reduceLT, Nat.reduceLeDiff, Nat.reduceBEq, Int.reduceEq, Int.reduceLT, Int.reduceLE, Int.reduceAdd, Int.reduceSub, Int.reduceNeg, Int.reduceToNat]
    refine SemC.lp (α := Nat) (fun k => [(5, vb false)]) (fun _ => ⟨[], 0⟩) (fun k => True) (fun k => 0) 0 trivial (St.mk (by simp [Agrees, upd_at])) fun k hk => ?_
    simp only [on_gcall, off_gcall, flat_gcall, go_sem, reduceCtorEq, reduceIte, Nat.reduceEqDiff, Nat.reduceAdd, Nat.reduceSub, Nat.reduceMul, Nat.reduceLT, Nat.reduceLeDiff, Nat.reduceBEq, Int.reduceEq, Int.reduceLT, Int.reduceLE, Int.reduceAdd, Int.reduceSub, Int.reduceNeg, Int.reduceToNat]
  | true =>
  rw [if_pos rfl]
  by_cases hn : isNone L0 = true
  · rw [if_pos hn]
    obtain ⟨p, rfl, hi⟩ := isNone_one hn
    have hp := (hP.2 p (by simp)).1
    refine PCall.rsub ?_ (vnil_stps true)
    refine PCall.of (Orc.cons sumPts (Orc.cons sumIs7 (Orc.cons sumIxCm (Orc.cons sumNm (Orc.cons sumIts (Orc.nil _)))))) c30_ok (by simp [c30]) fun w0 own0 => ?_
    simp only [c30, toks, dToks_map, h1, plV, hL, hb, hi, hp, Pa.enc, dPa_mk, Pa.eta', List.map_cons, List.map_nil, on_gcall, off_gcall, flat_gcall, go_sem, reduceCtorEq, reduceIte, Nat.reduceEqDiff, Nat.reduceAdd, Nat.reduceSub, Nat.reduceMul, Nat.reduceLT, Nat.reduceLeDiff, Nat.reduceBEq, Int.reduceEq, Int.reduceLT, Int.reduceLE, Int.reduceAdd, Int.reduceSub, Int.reduceNeg, Int.reduceToNat]
  rw [if_neg hn]
  refine stR_sub _ ?_
  generalize hR : strG [] L0 = R
  refine PCall.of (Orc.cons sumPts (Orc.cons sumIs7 (Orc.cons sumIxCm (Orc.cons sumNm (Orc.cons sumIts (Orc.nil _)))))) c30_ok (by simp [c30]) fun w0 own0 => ?_
  have lp : ∀ (e : Nat → V) (Q : Post), e 4 = .slc 4 (L0.map Pa.enc) → e 5 = vb true → e 6 = vnil → (∀ e' h', (e' 2 = vnil ∧ e' 3 = vb false ∧ R = none) → Q .ret e' h') → True := fun _ _ _ _ _ _ => trivial
  clear lp
  by_cases hl1 : ∃ p, L0 = [p]
  · obtain ⟨p, rfl⟩ := hl1
    have hp := (hP.2 p (by simp)).1
    have hi : identB p ⟨#[110, 111, 110, 101]⟩ = false := by
      cases hh : identB p ⟨#[110, 111, 110, 101]⟩ with
      | false => rfl
      | true => exact absurd hh (by simpa [isNone, noneW] using hn)
    simp only [c30, toks, dToks_map, h1, plV, hL, hb, hi, hp, Pa.enc, dPa_mk, Pa.eta', List.map_cons, List.map_nil, on_gcall, off_gcall, flat_gcall, go_sem, reduceCtorEq, reduceIte, Nat.reduceEqDiff, Nat.reduceAdd, Nat.reduceSub, Nat.reduceMul, Nat.reduceLT, Nat.reduceLeDiff, Nat.reduceBEq, Int.reduceEq, Int.reduceLT, Int.reduceLE, Int.reduceAdd, Int.reduceSub, Int.reduceNeg, Int.reduceToNat]
    refine SemC.lp (α := SrS) (fun a => [(4, .slc 4 (a.L.map Pa.enc)), (5, vb true), (6, .ref 0 a.ver 0 a.out.length)])
      (fun a => ⟨[⟨a.ver, 3, a.out.map Stp.enc, false, [vs ⟨#[]⟩, vi 0, vnil]⟩], a.clk⟩) (fun a => okPs a.L ∧ a.out.length + a.L.length ≤ 1000001 ∧ (strG [] a.L).map (a.out ++ ·) = R) (fun a => a.L.length) ⟨[p], [], 0, 1⟩
      ⟨hP, by simp, by rw [← hR]; cases strG [] [p] <;> rfl⟩ (St.nil 6 3 [vs ⟨#[]⟩, vi 0, vnil] (by simp [upd_at]) (St.cut ?_ ?_ ?_)) fun a ha => ?_
    · simp [Agrees, upd_at, initE_at, Pa.enc]
    · simp [Heap.alloc]
    · rfl
    obtain ⟨L, out, ver, clk⟩ := a
    obtain ⟨hPL, hlen, h4⟩ := ha
    simp only at hPL hlen h4
    have hot : out.take out.length = out := List.take_length
    have hL1 := hPL.1
    have key : ∀ (one : List Pa) (e : Int), (one = [] → strG [] L = none) → True := fun _ _ _ => trivial
    clear key
    rcases ixCm_cases L with ⟨hix, hst⟩ | ⟨m, hix, hm, hst⟩
    · rw [hst] at h4
      have hone := hPL
      obtain ⟨one, hO⟩ : ∃ one, L = one := ⟨_, rfl⟩
      subst hO
      match L, hone, h4, hix, hL1, hlen, hst, hPL with
      | [], hone, h4, hix, hL1, hlen, hst, hPL =>
        simp only [finS, Option.map_none] at h4
        subst h4
        have hd0 : dPas (.slc 4 []) = [] := rfl
        simp only [hix, hL1, pas, dPas_map, V.boo_c, hd0, stR, List.map_nil, List.length_nil, Nat.zero_le, Int.lt_irrefl, on_gcall, off_gcall, flat_gcall, go_sem, reduceCtorEq, reduceIte, Nat.reduceEqDiff, Nat.reduceAdd, Nat.reduceSub, Nat.reduceMul, Nat.reduceLT, Nat.reduceLeDiff, Nat.reduceBEq, Int.reduceEq, Int.reduceLT, Int.reduceLE, Int.reduceAdd, Int.reduceSub, Int.reduceNeg, Int.reduceToNat]
      | x :: r, hone, h4, hix, hL1, hlen, hst, hPL =>
        obtain ⟨kx, kr⟩ : (okP7 x ∧ okT x.al) ∧ okPs r := ⟨hone.2 x (by simp), by have := hone.1; simp at this; omega, fun p hp => hone.2 p (by simp [hp])⟩
        have hx0 := kx.1
        have hrl : r.length ≤ 1000001 := kr.1
        have hl0 : (((r.length + 1 : Nat) : Int) = 0) = False := eq_false (by omega)
        have hlp : (0 : Int) < ((r.length + 1 : Nat) : Int) := by omega
        have hl1 : (1 : Int) ≤ ((r.length + 1 : Nat) : Int) := by omega
        have htr : r.take (r.length + 1 - 1) = r := List.take_of_length_le (by omega)
        have hpe : dPas (.slc 4 ([vi x.t.kind, vs x.t.text, vi x.t.n, .slc 3 (x.al.map Tok.enc)] :: r.map Pa.enc)) = x :: r := dPas_map 4 (x :: r)
        have hrl1 : r.length + 1 ≤ 1000001 := hone.1
        cases hn2 : namedB x with
        | false =>
          rw [finS_nn hn2] at h4
          simp only [Option.map_none] at h4
          subst h4
          simp only [hix, hL1, pas, dPas_map, V.boo_c, hpe, hrl1, hl0, hlp, hl1, htr, Int.le_refl, hx0, kr, List.map_cons, List.length_cons, Pa.enc, dPa_mk, Pa.eta', hn2, stR, on_gcall, off_gcall, flat_gcall, go_sem, reduceCtorEq, reduceIte, Nat.reduceEqDiff, Nat.reduceAdd, Nat.reduceSub, Nat.reduceMul, Nat.reduceLT, Nat.reduceLeDiff, Nat.reduceBEq, Int.reduceEq, Int.reduceLT, Int.reduceLE, Int.reduceAdd, Int.reduceSub, Int.reduceNeg, Int.reduceToNat]
        | true =>
          match hI : itL true r with
          | none =>
            rw [finS_n0 (.inl hI)] at h4
            simp only [Option.map_none] at h4
            subst h4
            simp only [hix, hL1, pas, dPas_map, V.boo_c, hpe, hrl1, hl0, hlp, hl1, htr, Int.le_refl, hx0, kr, List.map_cons, List.length_cons, Pa.enc, dPa_mk, Pa.eta', hn2, hI, itsV, itms, stR, Option.getD_none, Option.getD_some, List.length_nil, List.map_nil, Int.lt_irrefl, on_gcall, off_gcall, flat_gcall, go_sem, reduceCtorEq, reduceIte, Nat.reduceEqDiff, Nat.reduceAdd, Nat.reduceSub, Nat.reduceMul, Nat.reduceLT, Nat.reduceLeDiff, Nat.reduceBEq, Int.reduceEq, Int.reduceLT, Int.reduceLE, Int.reduceAdd, Int.reduceSub, Int.reduceNeg, Int.reduceToNat]
          | some [] =>
            rw [finS_n0 (.inr hI)] at h4
            simp only [Option.map_none] at h4
            subst h4
            simp only [hix, hL1, pas, dPas_map, V.boo_c, hpe, hrl1, hl0, hlp, hl1, htr, Int.le_refl, hx0, kr, List.map_cons, List.length_cons, Pa.enc, dPa_mk, Pa.eta', hn2, hI, itsV, itms, stR, Option.getD_none, Option.getD_some, List.length_nil, List.map_nil, Int.lt_irrefl, on_gcall, off_gcall, flat_gcall, go_sem, reduceCtorEq, reduceIte, Nat.reduceEqDiff, Nat.reduceAdd, Nat.reduceSub, Nat.reduceMul, Nat.reduceLT, Nat.reduceLeDiff, Nat.reduceBEq, Int.reduceEq, Int.reduceLT, Int.reduceLE, Int.reduceAdd, Int.reduceSub, Int.reduceNeg, Int.reduceToNat]
          | some (y :: ys) =>
            rw [finS_true hn2 hI] at h4
            have hap : List.map Stp.enc out ++ [[vs x.t.text, vi 0, .slc 5 (y.enc :: List.map Itm.enc ys)]] = List.map Stp.enc (out ++ [(⟨x.t.text, 0, y :: ys⟩ : Stp)]) := by simp [Stp.enc]
            have htS : List.take (out.length + 1) (out ++ [(⟨x.t.text, 0, y :: ys⟩ : Stp)]) = out ++ [(⟨x.t.text, 0, y :: ys⟩ : Stp)] := List.take_of_length_le (by simp)
            have hlS : (out ++ [(⟨x.t.text, 0, y :: ys⟩ : Stp)]).length = out.length + 1 := by simp
            have hyp : (0 : Int) < ((ys.length + 1 : Nat) : Int) := by omega
            simp only [Option.map_some] at h4
            subst h4
            simp only [hix, hL1, pas, dPas_map, V.boo_c, hpe, hrl1, hl0, hlp, hl1, htr, Int.le_refl, hx0, kr, List.map_cons, List.length_cons, Pa.enc, dPa_mk, Pa.eta', hn2, hI, hyp, hot, hap, htS, hlS, mapO_stp10, mapO_stp11, Nat.le_refl, itsV, itms, stR, stps, Option.getD_some, on_gcall, off_gcall, flat_gcall, go_sem, reduceCtorEq, reduceIte, Nat.reduceEqDiff, Nat.reduceAdd, Nat.reduceSub, Nat.reduceMul, Nat.reduceLT, Nat.reduceLeDiff, Nat.reduceBEq, Int.reduceEq, Int.reduceLT, Int.reduceLE, Int.reduceAdd, Int.reduceSub, Int.reduceNeg, Int.reduceToNat]
            omega
    · rw [hst] at h4
      have em1 : (0 : Int) ≤ (m : Int) := by omega
      have em2 : (m : Int) ≤ (L.length : Int) := by omega
      have emn : ¬ (m : Int) < 0 := by omega
      have emt : ((m : Int) + 1).toNat = m + 1 := by omega
      have htk : List.take m (L.map Pa.enc) = (L.take m).map Pa.enc := by rw [List.map_take]
      have hd1 : (0 : Int) ≤ (m : Int) + 1 := by omega
      have hd2 : (m : Int) + 1 ≤ (L.length : Int) := by omega
      have hdr : List.take (L.length - (m + 1)) (List.drop (m + 1) (L.map Pa.enc)) = (L.drop (m + 1)).map Pa.enc := by rw [← List.map_drop, List.take_of_length_le (by simp)]
      have hone : okPs (L.take m) := ⟨by rw [List.length_take]; omega, fun p hp => hPL.2 p (List.mem_of_mem_take hp)⟩
      have hlm : (L.take m).length = m := by rw [List.length_take]; omega
      generalize hO : L.take m = one at *
      match one, hone, h4, htk, hlm with
      | [], hone, h4, htk, hlm =>
        simp only [finS, Option.map_none] at h4
        subst h4
        have hlm0 : (0 : Int) ≤ (L.length : Int) := by omega
        have hm0 : m = 0 := by simpa using hlm.symm
        subst hm0
        have hd0 : dPas (.slc 4 []) = [] := rfl
        simp only [hix, hL1, em1, em2, emn, emt, hd1, hd2, htk, hdr, Nat.sub_zero, hO, pas, dPas_map, V.boo_c, hd0, stR, List.map_nil, List.length_nil, Nat.zero_le, Int.lt_irrefl, hlm0, on_gcall, off_gcall, flat_gcall, go_sem, reduceCtorEq, reduceIte, Nat.reduceEqDiff, Nat.reduceAdd, Nat.reduceSub, Nat.reduceMul, Nat.reduceLT, Nat.reduceLeDiff, Nat.reduceBEq, Int.reduceEq, Int.reduceLT, Int.reduceLE, Int.reduceAdd, Int.reduceSub, Int.reduceNeg, Int.reduceToNat]
      | x :: r, hone, h4, htk, hlm =>
        obtain ⟨kx, kr⟩ : (okP7 x ∧ okT x.al) ∧ okPs r := ⟨hone.2 x (by simp), by have := hone.1; simp at this; omega, fun p hp => hone.2 p (by simp [hp])⟩
        have hx0 := kx.1
        have hrl : r.length ≤ 1000001 := kr.1
        have hl0 : (((r.length + 1 : Nat) : Int) = 0) = False := eq_false (by omega)
        have hlp : (0 : Int) < ((r.length + 1 : Nat) : Int) := by omega
        have hl1 : (1 : Int) ≤ ((r.length + 1 : Nat) : Int) := by omega
        have htr : r.take (r.length + 1 - 1) = r := List.take_of_length_le (by omega)
        have hpe : dPas (.slc 4 ([vi x.t.kind, vs x.t.text, vi x.t.n, .slc 3 (x.al.map Tok.enc)] :: r.map Pa.enc)) = x :: r := dPas_map 4 (x :: r)
        have hrl1 : r.length + 1 ≤ 1000001 := hone.1
        have hml : m = r.length + 1 := by simpa using hlm.symm
        have hzm : ((m : Int) = 0) = False := eq_false (by omega)
        cases hn2 : namedB x with
        | false =>
          rw [finS_nn hn2] at h4
          simp only [Option.map_none] at h4
          subst h4
          simp only [hix, hL1, em1, em2, emn, emt, hd1, hd2, htk, hdr, Nat.sub_zero, hO, pas, dPas_map, V.boo_c, hpe, hrl1, hl0, hlp, hl1, htr, Int.le_refl, hx0, kr, List.map_cons, List.length_cons, Pa.enc, dPa_mk, Pa.eta', hn2, stR, on_gcall, off_gcall, flat_gcall, go_sem, reduceCtorEq, reduceIte, Nat.reduceEqDiff, Nat.reduceAdd, Nat.reduceSub, Nat.reduceMul, Nat.reduceLT, Nat.reduceLeDiff, Nat.reduceBEq, Int.reduceEq, Int.reduceLT, Int.reduceLE, Int.reduceAdd, Int.reduceSub, Int.reduceNeg, Int.reduceToNat]
        | true =>
          match hI : itL true r with
          | none =>
            rw [finS_n0 (.inl hI)] at h4
            simp only [Option.map_none] at h4
            subst h4
            simp only [hix, hL1, em1, em2, emn, emt, hd1, hd2, htk, hdr, Nat.sub_zero, hO, pas, dPas_map, V.boo_c, hpe, hrl1, hl0, hlp, hl1, htr, Int.le_refl, hx0, kr, List.map_cons, List.length_cons, Pa.enc, dPa_mk, Pa.eta', hn2, hI, itsV, itms, stR, Option.getD_none, Option.getD_some, List.length_nil, List.map_nil, Int.lt_irrefl, on_gcall, off_gcall, flat_gcall, go_sem, reduceCtorEq, reduceIte, Nat.reduceEqDiff, Nat.reduceAdd, Nat.reduceSub, Nat.reduceMul, Nat.reduceLT, Nat.reduceLeDiff, Nat.reduceBEq, Int.reduceEq, Int.reduceLT, Int.reduceLE, Int.reduceAdd, Int.reduceSub, Int.reduceNeg, Int.reduceToNat]
          | some [] =>
            rw [finS_n0 (.inr hI)] at h4
            simp only [Option.map_none] at h4
            subst h4
            simp only [hix, hL1, em1, em2, emn, emt, hd1, hd2, htk, hdr, Nat.sub_zero, hO, pas, dPas_map, V.boo_c, hpe, hrl1, hl0, hlp, hl1, htr, Int.le_refl, hx0, kr, List.map_cons, List.length_cons, Pa.enc, dPa_mk, Pa.eta', hn2, hI, itsV, itms, stR, Option.getD_none, Option.getD_some, List.length_nil, List.map_nil, Int.lt_irrefl, on_gcall, off_gcall, flat_gcall, go_sem, reduceCtorEq, reduceIte, Nat.reduceEqDiff, Nat.reduceAdd, Nat.reduceSub, Nat.reduceMul, Nat.reduceLT, Nat.reduceLeDiff, Nat.reduceBEq, Int.reduceEq, Int.reduceLT, Int.reduceLE, Int.reduceAdd, Int.reduceSub, Int.reduceNeg, Int.reduceToNat]
          | some (y :: ys) =>
            rw [finS_true hn2 hI] at h4
            have hap : List.map Stp.enc out ++ [[vs x.t.text, vi 0, .slc 5 (y.enc :: List.map Itm.enc ys)]] = List.map Stp.enc (out ++ [(⟨x.t.text, 0, y :: ys⟩ : Stp)]) := by simp [Stp.enc]
            have htS : List.take (out.length + 1) (out ++ [(⟨x.t.text, 0, y :: ys⟩ : Stp)]) = out ++ [(⟨x.t.text, 0, y :: ys⟩ : Stp)] := List.take_of_length_le (by simp)
            have hlS : (out ++ [(⟨x.t.text, 0, y :: ys⟩ : Stp)]).length = out.length + 1 := by simp
            have hyp : (0 : Int) < ((ys.length + 1 : Nat) : Int) := by omega
            simp only at h4
            simp only [hix, hL1, em1, em2, emn, emt, hd1, hd2, htk, hdr, Nat.sub_zero, hO, pas, dPas_map, V.boo_c, hpe, hrl1, hl0, hlp, hl1, htr, Int.le_refl, hx0, kr, List.map_cons, List.length_cons, Pa.enc, dPa_mk, Pa.eta', hn2, hI, hyp, hot, hap, htS, hlS, itsV, itms, Option.getD_some, on_gcall, off_gcall, flat_gcall, go_sem, reduceCtorEq, reduceIte, Nat.reduceEqDiff, Nat.reduceAdd, Nat.reduceSub, Nat.reduceMul, Nat.reduceLT, Nat.reduceLeDiff, Nat.reduceBEq, Int.reduceEq, Int.reduceLT, Int.reduceLE, Int.reduceAdd, Int.reduceSub, Int.reduceNeg, Int.reduceToNat]
            refine ⟨⟨by omega, by omega, by omega⟩, by omega, ⟨L.drop (m + 1), out ++ [⟨x.t.text, 0, y :: ys⟩], clk + 1, clk + 1 + 1⟩, ⟨⟨by simp; omega, fun p hp => hPL.2 p (List.mem_of_mem_drop hp)⟩, by simp; omega, ?_⟩, by simp; omega, ⟨rfl, rfl, by simp⟩, ⟨rfl, rfl⟩, rfl⟩
            rw [← h4]; cases strG [] (L.drop (m + 1)) <;> simp
  · have hl2 : ((L0.length : Int) = 1) = False := eq_false (fun hh => hl1 (List.length_eq_one_iff.1 (by omega)))
    simp only [c30, toks, dToks_map, h1, plV, hL, hb, hl2, on_gcall, off_gcall, flat_gcall, go_sem, reduceCtorEq, reduceIte, Nat.reduceEqDiff, Nat.reduceAdd, Nat.reduceSub, Nat.reduceMul, Nat.reduceLT, Nat.reduceLeDiff, Nat.reduceBEq, Int.reduceEq, Int.reduceLT, Int.reduceLE, Int.reduceAdd, Int.reduceSub, Int.reduceNeg, Int.reduceToNat]
    refine SemC.lp (α := SrS) (fun a => [(4, .slc 4 (a.L.map Pa.enc)), (5, vb true), (6, .ref 0 a.ver 0 a.out.length)])
      (fun a => ⟨[⟨a.ver, 3, a.out.map Stp.enc, false, [vs ⟨#[]⟩, vi 0, vnil]⟩], a.clk⟩) (fun a => okPs a.L ∧ a.out.length + a.L.length ≤ 1000001 ∧ (strG [] a.L).map (a.out ++ ·) = R) (fun a => a.L.length) ⟨L0, [], 0, 1⟩
      ⟨hP, by simpa using hP.1, by rw [← hR]; cases strG [] L0 <;> rfl⟩ (St.nil 6 3 [vs ⟨#[]⟩, vi 0, vnil] (by simp [upd_at]) (St.cut ?_ ?_ ?_)) fun a ha => ?_
    · simp [Agrees, upd_at, initE_at, Pa.enc]
    · simp [Heap.alloc]
    · rfl
    obtain ⟨L, out, ver, clk⟩ := a
    obtain ⟨hPL, hlen, h4⟩ := ha
    simp only at hPL hlen h4
    have hot : out.take out.length = out := List.take_length
    have hL1 := hPL.1
    have key : ∀ (one : List Pa) (e : Int), (one = [] → strG [] L = none) → True := fun _ _ _ => trivial
    clear key
    rcases ixCm_cases L with ⟨hix, hst⟩ | ⟨m, hix, hm, hst⟩
    · rw [hst] at h4
      have hone := hPL
      obtain ⟨one, hO⟩ : ∃ one, L = one := ⟨_, rfl⟩
      subst hO
      match L, hone, h4, hix, hL1, hlen, hst, hPL with
      | [], hone, h4, hix, hL1, hlen, hst, hPL =>
        simp only [finS, Option.map_none] at h4
        subst h4
        have hd0 : dPas (.slc 4 []) = [] := rfl
        simp only [hix, hL1, pas, dPas_map, V.boo_c, hd0, stR, List.map_nil, List.length_nil, Nat.zero_le, Int.lt_irrefl, on_gcall, off_gcall, flat_gcall, go_sem, reduceCtorEq, reduceIte, Nat.reduceEqDiff, Nat.reduceAdd, Nat.reduceSub, Nat.reduceMul, Nat.reduceLT, Nat.reduceLeDiff, Nat.reduceBEq, Int.reduceEq, Int.reduceLT, Int.reduceLE, Int.reduceAdd, Int.reduceSub, Int.reduceNeg, Int.reduceToNat]
      | x :: r, hone, h4, hix, hL1, hlen, hst, hPL =>
        obtain ⟨kx, kr⟩ : (okP7 x ∧ okT x.al) ∧ okPs r := ⟨hone.2 x (by simp), by have := hone.1; simp at this; omega, fun p hp => hone.2 p (by simp [hp])⟩
        have hx0 := kx.1
        have hrl : r.length ≤ 1000001 := kr.1
        have hl0 : (((r.length + 1 : Nat) : Int) = 0) = False := eq_false (by omega)
        have hlp : (0 : Int) < ((r.length + 1 : Nat) : Int) := by omega
        have hl1 : (1 : Int) ≤ ((r.length + 1 : Nat) : Int) := by omega
        have htr : r.take (r.length + 1 - 1) = r := List.take_of_length_le (by omega)
        have hpe : dPas (.slc 4 ([vi x.t.kind, vs x.t.text, vi x.t.n, .slc 3 (x.al.map Tok.enc)] :: r.map Pa.enc)) = x :: r := dPas_map 4 (x :: r)
        have hrl1 : r.length + 1 ≤ 1000001 := hone.1
        cases hn2 : namedB x with
        | false =>
          rw [finS_nn hn2] at h4
          simp only [Option.map_none] at h4
          subst h4
          simp only [hix, hL1, pas, dPas_map, V.boo_c, hpe, hrl1, hl0, hlp, hl1, htr, Int.le_refl, hx0, kr, List.map_cons, List.length_cons, Pa.enc, dPa_mk, Pa.eta', hn2, stR, on_gcall, off_gcall, flat_gcall, go_sem, reduceCtorEq, reduceIte, Nat.reduceEqDiff, Nat.reduceAdd, Nat.reduceSub, Nat.reduceMul, Nat.reduceLT, Nat.reduceLeDiff, Nat.reduceBEq, Int.reduceEq, Int.reduceLT, Int.reduceLE, Int.reduceAdd, Int.reduceSub, Int.reduceNeg, Int.reduceToNat]
        | true =>
          match hI : itL true r with
          | none =>
            rw [finS_n0 (.inl hI)] at h4
            simp only [Option.map_none] at h4
            subst h4
            simp only [hix, hL1, pas, dPas_map, V.boo_c, hpe, hrl1, hl0, hlp, hl1, htr, Int.le_refl, hx0, kr, List.map_cons, List.length_cons, Pa.enc, dPa_mk, Pa.eta', hn2, hI, itsV, itms, stR, Option.getD_none, Option.getD_some, List.length_nil, List.map_nil, Int.lt_irrefl, on_gcall, off_gcall, flat_gcall, go_sem, reduceCtorEq, reduceIte, Nat.reduceEqDiff, Nat.reduceAdd, Nat.reduceSub, Nat.reduceMul, Nat.reduceLT, Nat.reduceLeDiff, Nat.reduceBEq, Int.reduceEq, Int.reduceLT, Int.reduceLE, Int.reduceAdd, Int.reduceSub, Int.reduceNeg, Int.reduceToNat]
          | some [] =>
            rw [finS_n0 (.inr hI)] at h4
            simp only [Option.map_none] at h4
            subst h4
            simp only [hix, hL1, pas, dPas_map, V.boo_c, hpe, hrl1, hl0, hlp, hl1, htr, Int.le_refl, hx0, kr, List.map_cons, List.length_cons, Pa.enc, dPa_mk, Pa.eta', hn2, hI, itsV, itms, stR, Option.getD_none, Option.getD_some, List.length_nil, List.map_nil, Int.lt_irrefl, on_gcall, off_gcall, flat_gcall, go_sem, reduceCtorEq, reduceIte, Nat.reduceEqDiff, Nat.reduceAdd, Nat.reduceSub, Nat.reduceMul, Nat.reduceLT, Nat.reduceLeDiff, Nat.reduceBEq, Int.reduceEq, Int.reduceLT, Int.reduceLE, Int.reduceAdd, Int.reduceSub, Int.reduceNeg, Int.reduceToNat]
          | some (y :: ys) =>
            rw [finS_true hn2 hI] at h4
            have hap : List.map Stp.enc out ++ [[vs x.t.text, vi 0, .slc 5 (y.enc :: List.map Itm.enc ys)]] = List.map Stp.enc (out ++ [(⟨x.t.text, 0, y :: ys⟩ : Stp)]) := by simp [Stp.enc]
            have htS : List.take (out.length + 1) (out ++ [(⟨x.t.text, 0, y :: ys⟩ : Stp)]) = out ++ [(⟨x.t.text, 0, y :: ys⟩ : Stp)] := List.take_of_length_le (by simp)
            have hlS : (out ++ [(⟨x.t.text, 0, y :: ys⟩ : Stp)]).length = out.length + 1 := by simp
            have hyp : (0 : Int) < ((ys.length + 1 : Nat) : Int) := by omega
            simp only [Option.map_some] at h4
            subst h4
            simp only [hix, hL1, pas, dPas_map, V.boo_c, hpe, hrl1, hl0, hlp, hl1, htr, Int.le_refl, hx0, kr, List.map_cons, List.length_cons, Pa.enc, dPa_mk, Pa.eta', hn2, hI, hyp, hot, hap, htS, hlS, mapO_stp10, mapO_stp11, Nat.le_refl, itsV, itms, stR, stps, Option.getD_some, on_gcall, off_gcall, flat_gcall, go_sem, reduceCtorEq, reduceIte, Nat.reduceEqDiff, Nat.reduceAdd, Nat.reduceSub, Nat.reduceMul, Nat.reduceLT, Nat.reduceLeDiff, Nat.reduceBEq, Int.reduceEq, Int.reduceLT, Int.reduceLE, Int.reduceAdd, Int.reduceSub, Int.reduceNeg, Int.reduceToNat]
            omega
    · rw [hst] at h4
      have em1 : (0 : Int) ≤ (m : Int) := by omega
      have em2 : (m : Int) ≤ (L.length : Int) := by omega
      have emn : ¬ (m : Int) < 0 := by omega
      have emt : ((m : Int) + 1).toNat = m + 1 := by omega
      have htk : List.take m (L.map Pa.enc) = (L.take m).map Pa.enc := by rw [List.map_take]
      have hd1 : (0 : Int) ≤ (m : Int) + 1 := by omega
      have hd2 : (m : Int) + 1 ≤ (L.length : Int) := by omega
      have hdr : List.take (L.length - (m + 1)) (List.drop (m + 1) (L.map Pa.enc)) = (L.drop (m + 1)).map Pa.enc := by rw [← List.map_drop, List.take_of_length_le (by simp)]
      have hone : okPs (L.take m) := ⟨by rw [List.length_take]; omega, fun p hp => hPL.2 p (List.mem_of_mem_take hp)⟩
      have hlm : (L.take m).length = m := by rw [List.length_take]; omega
      generalize hO : L.take m = one at *
      match one, hone, h4, htk, hlm with
      | [], hone, h4, htk, hlm =>
        simp only [finS, Option.map_none] at h4
        subst h4
        have hlm0 : (0 : Int) ≤ (L.length : Int) := by omega
        have hm0 : m = 0 := by simpa using hlm.symm
        subst hm0
        have hd0 : dPas (.slc 4 []) = [] := rfl
        simp only [hix, hL1, em1, em2, emn, emt, hd1, hd2, htk, hdr, Nat.sub_zero, hO, pas, dPas_map, V.boo_c, hd0, stR, List.map_nil, List.length_nil, Nat.zero_le, Int.lt_irrefl, hlm0, on_gcall, off_gcall, flat_gcall, go_sem, reduceCtorEq, reduceIte, Nat.reduceEqDiff, Nat.reduceAdd, Nat.reduceSub, Nat.reduceMul, Nat.reduceLT, Nat.reduceLeDiff, Nat.reduceBEq, Int.reduceEq, Int.reduceLT, Int.reduceLE, Int.reduceAdd, Int.reduceSub, Int.reduceNeg, Int.reduceToNat]
      | x :: r, hone, h4, htk, hlm =>
        obtain ⟨kx, kr⟩ : (okP7 x ∧ okT x.al) ∧ okPs r := ⟨hone.2 x (by simp), by have := hone.1; simp at this; omega, fun p hp => hone.2 p (by simp [hp])⟩
        have hx0 := kx.1
        have hrl : r.length ≤ 1000001 := kr.1
        have hl0 : (((r.length + 1 : Nat) : Int) = 0) = False := eq_false (by omega)
        have hlp : (0 : Int) < ((r.length + 1 : Nat) : Int) := by omega
        have hl1 : (1 : Int) ≤ ((r.length + 1 : Nat) : Int) := by omega
        have htr : r.take (r.length + 1 - 1) = r := List.take_of_length_le (by omega)
        have hpe : dPas (.slc 4 ([vi x.t.kind, vs x.t.text, vi x.t.n, .slc 3 (x.al.map Tok.enc)] :: r.map Pa.enc)) = x :: r := dPas_map 4 (x :: r)
        have hrl1 : r.length + 1 ≤ 1000001 := hone.1
        have hml : m = r.length + 1 := by simpa using hlm.symm
        have hzm : ((m : Int) = 0) = False := eq_false (by omega)
        cases hn2 : namedB x with
        | false =>
          rw [finS_nn hn2] at h4
          simp only [Option.map_none] at h4
          subst h4
          simp only [hix, hL1, em1, em2, emn, emt, hd1, hd2, htk, hdr, Nat.sub_zero, hO, pas, dPas_map, V.boo_c, hpe, hrl1, hl0, hlp, hl1, htr, Int.le_refl, hx0, kr, List.map_cons, List.length_cons, Pa.enc, dPa_mk, Pa.eta', hn2, stR, on_gcall, off_gcall, flat_gcall, go_sem, reduceCtorEq, reduceIte, Nat.reduceEqDiff, Nat.reduceAdd, Nat.reduceSub, Nat.reduceMul, Nat.reduceLT, Nat.reduceLeDiff, Nat.reduceBEq, Int.reduceEq, Int.reduceLT, Int.reduceLE, Int.reduceAdd, Int.reduceSub, Int.reduceNeg, Int.reduceToNat]
        | true =>
          match hI : itL true r with
          | none =>
            rw [finS_n0 (.inl hI)] at h4
            simp only [Option.map_none] at h4
            subst h4
            simp only [hix, hL1, em1, em2, emn, emt, hd1, hd2, htk, hdr, Nat.sub_zero, hO, pas, dPas_map, V.boo_c, hpe, hrl1, hl0, hlp, hl1, htr, Int.le_refl, hx0, kr, List.map_cons, List.length_cons, Pa.enc, dPa_mk, Pa.eta', hn2, hI, itsV, itms, stR, Option.getD_none, Option.getD_some, List.length_nil, List.map_nil, Int.lt_irrefl, on_gcall, off_gcall, flat_gcall, go_sem, reduceCtorEq, reduceIte, Nat.reduceEqDiff, Nat.reduceAdd, Nat.reduceSub, Nat.reduceMul, Nat.reduceLT, Nat.reduceLeDiff, Nat.reduceBEq, Int.reduceEq, Int.reduceLT, Int.reduceLE, Int.reduceAdd, Int.reduceSub, Int.reduceNeg, Int.reduceToNat]
          | some [] =>
            rw [finS_n0 (.inr hI)] at h4
            simp only [Option.map_none] at h4
            subst h4
            simp only [hix, hL1, em1, em2, emn, emt, hd1, hd2, htk, hdr, Nat.sub_zero, hO, pas, dPas_map, V.boo_c, hpe, hrl1, hl0, hlp, hl1, htr, Int.le_refl, hx0, kr, List.map_cons, List.length_cons, Pa.enc, dPa_mk, Pa.eta', hn2, hI, itsV, itms, stR, Option.getD_none, Option.getD_some, List.length_nil, List.map_nil, Int.lt_irrefl, on_gcall, off_gcall, flat_gcall, go_sem, reduceCtorEq, reduceIte, Nat.reduceEqDiff, Nat.reduceAdd, Nat.reduceSub, Nat.reduceMul, Nat.reduceLT, Nat.reduceLeDiff, Nat.reduceBEq, Int.reduceEq, Int.reduceLT, Int.reduceLE, Int.reduceAdd, Int.reduceSub, Int.reduceNeg, Int.reduceToNat]
          | some (y :: ys) =>
            rw [finS_true hn2 hI] at h4
            have hap : List.map Stp.enc out ++ [[vs x.t.text, vi 0, .slc 5 (y.enc :: List.map Itm.enc ys)]] = List.map Stp.enc (out ++ [(⟨x.t.text, 0, y :: ys⟩ : Stp)]) := by simp [Stp.enc]
            have htS : List.take (out.length + 1) (out ++ [(⟨x.t.text, 0, y :: ys⟩ : Stp)]) = out ++ [(⟨x.t.text, 0, y :: ys⟩ : Stp)] := List.take_of_length_le (by simp)
            have hlS : (out ++ [(⟨x.t.text, 0, y :: ys⟩ : Stp)]).length = out.length + 1 := by simp
            have hyp : (0 : Int) < ((ys.length + 1 : Nat) : Int) := by omega
            simp only at h4
            simp only [hix, hL1, em1, em2, emn, emt, hd1, hd2, htk, hdr, Nat.sub_zero, hO, pas, dPas_map, V.boo_c, hpe, hrl1, hl0, hlp, hl1, htr, Int.le_refl, hx0, kr, List.map_cons, List.length_cons, Pa.enc, dPa_mk, Pa.eta', hn2, hI, hyp, hot, hap, htS, hlS, itsV, itms, Option.getD_some, on_gcall, off_gcall, flat_gcall, go_sem, reduceCtorEq, reduceIte, Nat.reduceEqDiff, Nat.reduceAdd, Nat.reduceSub, Nat.reduceMul, Nat.reduceLT, Nat.reduceLeDiff, Nat.reduceBEq, Int.reduceEq, Int.reduceLT, Int.reduceLE, Int.reduceAdd, Int.reduceSub, Int.reduceNeg, Int.reduceToNat]
            refine ⟨⟨by omega, by omega, by omega⟩, by omega, ⟨L.drop (m + 1), out ++ [⟨x.t.text, 0, y :: ys⟩], clk + 1, clk + 1 + 1⟩, ⟨⟨by simp; omega, fun p hp => hPL.2 p (List.mem_of_mem_drop hp)⟩, by simp; omega, ?_⟩, by simp; omega, ⟨rfl, rfl, by simp⟩, ⟨rfl, rfl⟩, rfl⟩
            rw [← h4]; cases strG [] (L.drop (m + 1)) <;> simp
def sumStr : Sum Try.prog := ⟨30, fun args => args = [toks (dToks (args.getD 0 .any))] ∧ okT (dToks (args.getD 0 .any)), fun args => stV2 (stO (dToks (args.getD 0 .any))), fun args h => by
  have := strings_ok (dToks (args.getD 0 .any)) h.2; rwa [← h.1] at this, false⟩
theorem sumStr_f : sumStr.f = 30 := rfl
theorem sumStr_D (args : List V) : sumStr.D args = (args = [toks (dToks (args.getD 0 .any))] ∧ okT (dToks (args.getD 0 .any))) := rfl
theorem sumStr_flat : sumStr.flat = false := rfl
theorem sumStr_r (args : List V) : sumStr.r args = stV2 (stO (dToks (args.getD 0 .any))) := rfl
attribute [go_sem] sumStr_f sumStr_D sumStr_flat sumStr_r
end Go.Proofs.Ytjofgafeaiiegaa
