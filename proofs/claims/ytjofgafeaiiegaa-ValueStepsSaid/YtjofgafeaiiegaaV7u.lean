/- Layer 7: what happens to counters. -/
import Derived.Test.YtjofgafeaiiegaaV7i
import Derived.Test.YtjofgafeaiiegaaV7j
import Derived.Test.YtjofgafeaiiegaaGc
import Derived.Test.YtjofgafeaiiegaaWm
namespace Go.Proofs.Ytjofgafeaiiegaa
open Go.Sx
set_option linter.unusedSimpArgs false
set_option maxHeartbeats 8000000
set_option maxRecDepth 20000

abbrev NS := ByteArray × Int
structure Stp where
  name : ByteArray
  n : Int
  items : List Itm
instance : Inhabited Stp := ⟨⟨⟨#[]⟩, 0, []⟩⟩
def Stp.enc (s : Stp) : List V := [vs s.name, vi s.n, .slc 5 (s.items.map Itm.enc)]
def stps (l : List Stp) : V := .slc 3 (l.map Stp.enc)
def dStpL (e : List V) : Stp := ⟨(e.getD 0 .any).str, (e.getD 1 .any).int, dItms (e.getD 2 .any)⟩
def dStps (v : V) : List Stp := v.es.map dStpL
theorem dStpL_enc (s : Stp) : dStpL s.enc = s := by
  simp [dStpL, Stp.enc, V.str, V.int, dItms_map]
theorem dStps_map (sz : Nat) (l : List Stp) : dStps (.slc sz (l.map Stp.enc)) = l := by
  simp [dStps, V.es, Function.comp_def, dStpL_enc]
def xE (s : NS) : List V := [vs s.1, vi s.2, vnil]
def toS (s : NS) : Stp := ⟨s.1, s.2, []⟩
theorem mapO_xE11 (S : Nat → Bool) (h : Heap) (l : List NS) : mapO (mapO (res S h 11)) (l.map xE) = some (l.map xE) := mapO_flat S h 10 _ (fun _ => rfl) l
theorem mapO_xE10 (S : Nat → Bool) (h : Heap) (l : List NS) : mapO (mapO (res S h 10)) (l.map xE) = some (l.map xE) := mapO_flat S h 9 _ (fun _ => rfl) l
def spR : Option (List NS) → V
  | none => .tup [vnil, vb false]
  | some l => .tup [.slc 3 (l.map xE), vb true]
def spV (o : Option (List NS)) : V := .tup [stps ((o.getD []).map toS), vb o.isSome]
theorem sub_xE : ∀ l : List NS, F2 (F2 (Sub 1)) (l.map xE) ((l.map toS).map Stp.enc)
  | [] => trivial
  | p :: l => ⟨⟨Sub.rfl 1 _, Sub.rfl 1 _, by simp [Sub, toS], trivial⟩, sub_xE l⟩
theorem vnil_stps (b : Bool) (F : Nat → Prop) (w : World) (v : Value) (h : PRep F w v (.tup [vnil, vb b])) : PRep F w v (.tup [stps [], vb b]) := by
  cases h with
  | tup cs _ hl hx =>
    refine .tup cs _ hl fun i hi => ?_
    have := hx i hi
    match i, hi with
    | 0, _ => exact PRep.nilS 3 this
    | 1, _ => exact this
theorem spR_sub (o : Option (List NS)) {f : FuncId} {args : List V} (h : PCall Try.prog f args (spR o)) : PCall Try.prog f args (spV o) := by
  cases o with
  | none => exact PCall.rsub h (vnil_stps false)
  | some l =>
    refine PCall.rsub h fun F w v hp => ?_
    cases hp with
    | tup cs _ hl hx =>
      refine .tup cs _ hl fun i hi => ?_
      have := hx i hi
      match i, hi with
      | 0, _ => exact Sub.prep 2 (.slc 3 (l.map xE)) (stps (l.map toS)) _ (show Sub 2 (.slc 3 (l.map xE)) (.slc 3 ((l.map toS).map Stp.enc)) from Or.inr ⟨rfl, sub_xE l⟩) this
      | 1, _ => exact this
def stepsL (u : Int) : List Pa → Option (List NS)
  | [] => some []
  | [p] => if namedB p = true then some [(p.t.text, u)] else none
  | p :: q :: l => if namedB p = true then (match cntO q.t with | some n => (stepsL u l).map ((p.t.text, n) :: ·) | none => (stepsL u (q :: l)).map ((p.t.text, u) :: ·)) else none
def noneW : ByteArray := ⟨#[110, 111, 110, 101]⟩
def isNone (L : List Pa) : Bool := match L with | [p] => identB p noneW | _ => false
def spO (u : Int) (l : List Tok) : Option (List NS) := if ptB l = true then (if pl l = [] then none else if isNone (pl l) = true then some [] else stepsL u (pl l)) else none
theorem stepsL_drop (u : Int) (L : List Pa) (k : Nat) (h : k < L.length) : stepsL u (L.drop k) = if namedB (L.getD k default) = true then (if k + 1 < L.length then (match cntO (L.getD (k + 1) default).t with | some n => (stepsL u (L.drop (k + 2))).map (((L.getD k default).t.text, n) :: ·) | none => (stepsL u (L.drop (k + 1))).map (((L.getD k default).t.text, u) :: ·)) else some [((L.getD k default).t.text, u)]) else none := by
  rw [par_drop L k h]
  by_cases h1 : k + 1 < L.length
  · rw [par_drop L (k + 1) h1, if_pos h1]; rfl
  · rw [List.drop_eq_nil_of_le (by omega), if_neg h1]; rfl
structure SpS where
  k : Nat
  out : List NS
  ver : Nat
  clk : Nat
def okQ (l : List Tok) : Prop := okT l ∧ ∀ t ∈ l, okI t.n
theorem partsL_n {l : List Tok} (h : ∀ t ∈ l, okI t.n) : ∀ {ks : List Int} {ps : List Part}, partsL l ks = some ps → ∀ p ∈ ps, okI p.t.n
  | [], ps, hp, p, hm => by simp [partsL] at hp; subst hp; cases hm
  | k :: ks, ps, hp, p, hm => by
    simp only [partsL] at hp
    split at hp
    · cases hp
    · simp only [Option.map_eq_some_iff] at hp
      obtain ⟨qs, hq, rfl⟩ := hp
      have ih := partsL_n h hq
      have hself : ∀ i : Nat, okI (l.getD i .zero).n := fun i => by
        by_cases hi : i < l.length
        · rw [List.getD_eq_getElem?_getD, List.getElem?_eq_getElem hi]; exact h _ (List.getElem_mem hi)
        · rw [List.getD_eq_getElem?_getD, List.getElem?_eq_none (by omega)]; show okI 0; unfold okI; omega
      split at hm
      · exact ih p hm
      · rcases List.mem_cons.1 hm with rfl | hm
        · exact hself _
        · exact ih p hm
theorem pl_n {l : List Tok} (h : ∀ t ∈ l, okI t.n) : ∀ p ∈ pl l, okI p.t.n := by
  intro p hp
  unfold pl at hp
  obtain ⟨q, hq, rfl⟩ := List.mem_map.1 hp
  unfold ptL at hq
  cases hO : ptO l with
  | none => rw [hO] at hq; cases hq
  | some qs =>
    rw [hO] at hq
    unfold ptO at hO
    split at hO
    · cases hO
    · exact partsL_n h hO q hq
theorem steps_ok (l : List Tok) (u : Int) (h : okQ l) : PCall Try.prog 24 [toks l, vi u] (spV (spO u l)) := by
  have h1 := h.1.1
  have hm := pl_mem h.1
  have hN := pl_n h.2
  have hlen := pl_len l
  unfold spO
  have hfb := @pl_false l
  generalize hL : pl l = L at *
  cases hb : ptB l with
  | false =>
    have hz := hfb hb
    subst hz
    rw [if_neg (by simp)]
    show PCall Try.prog 24 [toks l, vi u] (.tup [.slc 3 [], vb false])
    refine PCall.of (Orc.cons sumPts (Orc.cons sumIs7 (Orc.cons sumNm (Orc.cons sumCnt (Orc.nil _))))) c24_ok (by simp [c24]) fun w0 own0 => ?_
    simp only [c24, toks, dToks_map, h1, plV, hL, hb, spR, Bool.false_eq_true, if_false, on_gcall, off_gcall, flat_gcall, go_sem, reduceCtorEq, reduceIte, Nat.reduceEqDiff, Nat.reduceAdd, Nat.reduceSub, Nat.reduceMul, Nat.reduceLT, Nat.reduceLeDiff, Nat.reduceBEq, Int.reduceEq, Int.reduceLT, Int.reduceLE, Int.reduceAdd, Int.reduceSub, Int.reduceNeg, Int.reduceToNat]
    refine SemC.lp (α := Nat) (fun k => [(6, .slc 4 []), (7, vb false), (8, .ref 0 0 0 0), (9, vi 0)]) (fun _ => ⟨[⟨0, 3, [], false, [vs ⟨#[]⟩, vi 0, vnil]⟩], 1⟩) (fun k => k = 0) (fun k => 0) 0 rfl (St.nil 8 3 [vs ⟨#[]⟩, vi 0, vnil] (by simp [upd_at]) (St.cut ?_ ?_ ?_)) fun k hk => ?_
    · simp [Agrees, upd_at, initE_at]
    · simp [Heap.alloc]
    · rfl
    simp only [Int.lt_irrefl, List.take_nil, mapO, on_gcall, off_gcall, flat_gcall, go_sem, reduceCtorEq, reduceIte, Nat.reduceEqDiff, Nat.reduceAdd, Nat.reduceSub, Nat.reduceMul, Nat.reduceLT, Nat.reduceLeDiff, Nat.reduceBEq, Int.reduceEq, Int.reduceLT, Int.reduceLE, Int.reduceAdd, Int.reduceSub, Int.reduceNeg, Int.reduceToNat]
  | true =>
  rw [if_pos rfl]
  by_cases hz : L = []
  · rw [if_pos hz]
    subst hz
    show PCall Try.prog 24 [toks l, vi u] (.tup [.slc 3 [], vb false])
    refine PCall.of (Orc.cons sumPts (Orc.cons sumIs7 (Orc.cons sumNm (Orc.cons sumCnt (Orc.nil _))))) c24_ok (by simp [c24]) fun w0 own0 => ?_
    simp only [c24, toks, dToks_map, h1, plV, hL, hb, spR, on_gcall, off_gcall, flat_gcall, go_sem, reduceCtorEq, reduceIte, Nat.reduceEqDiff, Nat.reduceAdd, Nat.reduceSub, Nat.reduceMul, Nat.reduceLT, Nat.reduceLeDiff, Nat.reduceBEq, Int.reduceEq, Int.reduceLT, Int.reduceLE, Int.reduceAdd, Int.reduceSub, Int.reduceNeg, Int.reduceToNat]
    refine SemC.lp (α := Nat) (fun k => [(6, .slc 4 []), (7, vb true), (8, .ref 0 0 0 0), (9, vi 0)]) (fun _ => ⟨[⟨0, 3, [], false, [vs ⟨#[]⟩, vi 0, vnil]⟩], 1⟩) (fun k => k = 0) (fun k => 0) 0 rfl (St.nil 8 3 [vs ⟨#[]⟩, vi 0, vnil] (by simp [upd_at]) (St.cut ?_ ?_ ?_)) fun k hk => ?_
    · simp [Agrees, upd_at, initE_at]
    · simp [Heap.alloc]
    · rfl
    simp only [Int.lt_irrefl, List.take_nil, mapO, on_gcall, off_gcall, flat_gcall, go_sem, reduceCtorEq, reduceIte, Nat.reduceEqDiff, Nat.reduceAdd, Nat.reduceSub, Nat.reduceMul, Nat.reduceLT, Nat.reduceLeDiff, Nat.reduceBEq, Int.reduceEq, Int.reduceLT, Int.reduceLE, Int.reduceAdd, Int.reduceSub, Int.reduceNeg, Int.reduceToNat]
  rw [if_neg hz]
  have hz0 : L.length ≠ 0 := fun hh => hz (List.length_eq_zero_iff.1 hh)
  have hz1 : ((L.length : Int) = 0) = False := eq_false (by omega)
  by_cases hn : isNone L = true
  · rw [if_pos hn]
    obtain ⟨p, rfl⟩ : ∃ p, L = [p] := by
      unfold isNone at hn
      split at hn
      · exact ⟨_, rfl⟩
      · cases hn
    have hi : identB p ⟨#[110, 111, 110, 101]⟩ = true := hn
    have hp := (hm p (by simp)).1
    refine PCall.rsub ?_ (vnil_stps true)
    refine PCall.of (Orc.cons sumPts (Orc.cons sumIs7 (Orc.cons sumNm (Orc.cons sumCnt (Orc.nil _))))) c24_ok (by simp [c24]) fun w0 own0 => ?_
    simp only [c24, toks, dToks_map, h1, plV, hL, hb, hi, hp, spR, Pa.enc, dPa_mk, Pa.eta', on_gcall, off_gcall, flat_gcall, go_sem, reduceCtorEq, reduceIte, Nat.reduceEqDiff, Nat.reduceAdd, Nat.reduceSub, Nat.reduceMul, Nat.reduceLT, Nat.reduceLeDiff, Nat.reduceBEq, Int.reduceEq, Int.reduceLT, Int.reduceLE, Int.reduceAdd, Int.reduceSub, Int.reduceNeg, Int.reduceToNat]
  rw [if_neg hn]
  have hg0 : 0 < L.length := by omega
  have hx0 := getD_pas L 0 [vi 0, vs ⟨#[]⟩, vi 0, vnil] hg0
  have hp0 := (hm (L.getD 0 default) (by rw [List.getD_eq_getElem?_getD, List.getElem?_eq_getElem hg0]; exact List.getElem_mem _)).1
  have hi0 : (L.length : Int) = 1 → identB (L.getD 0 default) ⟨#[110, 111, 110, 101]⟩ = false := fun h1 => by
    obtain ⟨p, rfl⟩ := List.length_eq_one_iff.1 (show L.length = 1 by omega)
    cases hh : identB p ⟨#[110, 111, 110, 101]⟩ with
    | false => exact hh
    | true => exact absurd hh (by simpa [isNone, noneW] using hn)
  generalize hR : stepsL u L = R
  have hLn : L.length ≤ 1000001 := by have := h.1.1; omega
  generalize L.getD 0 default = p0 at *
  have start : ∀ Q : Prop, (∀ hlt : (L.length : Int) = 1 ∨ ¬ (L.length : Int) = 1, Q) → Q := fun Q f => f (Decidable.em _)
  refine start _ fun hl1 => ?_
  refine spR_sub R ?_
  refine PCall.of (Orc.cons sumPts (Orc.cons sumIs7 (Orc.cons sumNm (Orc.cons sumCnt (Orc.nil _))))) c24_ok (by simp [c24]) fun w0 own0 => ?_
  clear start
  rcases hl1 with hl1 | hl1
  · simp only [c24, toks, dToks_map, h1, plV, hL, hb, hz1, hl1, hi0 hl1, hx0, hp0, Pa.enc, dPa_mk, Pa.eta', on_gcall, off_gcall, flat_gcall, go_sem, reduceCtorEq, reduceIte, Nat.reduceEqDiff, Nat.reduceAdd, Nat.reduceSub, Nat.reduceMul, Nat.reduceLT, Nat.reduceLeDiff, Nat.reduceBEq, Int.reduceEq, Int.reduceLT, Int.reduceLE, Int.reduceAdd, Int.reduceSub, Int.reduceNeg, Int.reduceToNat]
    try (refine ⟨by omega, ?_⟩)
    refine SemC.lp (α := SpS) (fun a => [(1, vi u), (6, .slc 4 (L.map Pa.enc)), (7, vb true), (8, .ref 0 a.ver 0 a.out.length), (9, vi a.k)])
      (fun a => ⟨[⟨a.ver, 3, a.out.map xE, false, [vs ⟨#[]⟩, vi 0, vnil]⟩], a.clk⟩) (fun a => a.k ≤ L.length ∧ a.out.length ≤ a.k ∧ (stepsL u (L.drop a.k)).map (a.out ++ ·) = R ∧ (0 < a.k → 0 < a.out.length)) (fun a => L.length - a.k) ⟨0, [], 0, 1⟩
      ⟨Nat.zero_le _, Nat.zero_le _, by rw [← hR]; simp only [List.drop_zero, List.nil_append]; cases stepsL u L <;> rfl, fun hh => absurd hh (Nat.lt_irrefl 0)⟩ (St.nil 8 3 [vs ⟨#[]⟩, vi 0, vnil] (by simp [upd_at]) (St.cut ?_ ?_ ?_)) fun a ha => ?_
    · simp [Agrees, upd_at, initE_at]
    · simp [Heap.alloc]
    · rfl
    obtain ⟨k, out, ver, clk⟩ := a
    obtain ⟨h2, h3, h4, h5⟩ := ha
    simp only at h2 h3 h4 h5
    by_cases hk : k = L.length
    · subst hk
      have hop : ((0 : Int) < (out.length : Int)) = True := eq_true (by have := h5 (by omega); omega)
      rw [List.drop_length] at h4
      simp only [stepsL, Option.map_some, List.append_nil] at h4
      subst h4
      simp only [Int.lt_irrefl, hop, spR, List.take_length, take_mapl, mapO_xE11, mapO_xE10, Nat.le_refl, on_gcall, off_gcall, flat_gcall, go_sem, reduceCtorEq, reduceIte, Nat.reduceEqDiff, Nat.reduceAdd, Nat.reduceSub, Nat.reduceMul, Nat.reduceLT, Nat.reduceLeDiff, Nat.reduceBEq, Int.reduceEq, Int.reduceLT, Int.reduceLE, Int.reduceAdd, Int.reduceSub, Int.reduceNeg, Int.reduceToNat]
    · have e1 : (k : Int) < (L.length : Int) := by omega
      have e0 : (0 : Int) ≤ (k : Int) := by omega
      have hlt : k < L.length := by omega
      have hg := getD_pas L k [vi 0, vs ⟨#[]⟩, vi 0, vnil] hlt
      have hx := (hm (L.getD k default) (by rw [List.getD_eq_getElem?_getD, List.getElem?_eq_getElem hlt]; exact List.getElem_mem _)).1
      have hxn := hN (L.getD k default) (by rw [List.getD_eq_getElem?_getD, List.getElem?_eq_getElem hlt]; exact List.getElem_mem _)
      have hot : out.take out.length = out := List.take_length
      rw [stepsL_drop u L k hlt] at h4
      by_cases hn2 : namedB (L.getD k default) = true
      · rw [if_pos hn2] at h4
        by_cases hk1 : k + 1 < L.length
        · have hg1 := getD_pas L (k + 1) [vi 0, vs ⟨#[]⟩, vi 0, vnil] hk1
          have hyn := hN (L.getD (k + 1) default) (by rw [List.getD_eq_getElem?_getD, List.getElem?_eq_getElem hk1]; exact List.getElem_mem _)
          have e2 : ((k : Int) + 1 < (L.length : Int)) = True := eq_true (by omega)
          have e3 : ((k : Int) + 1).toNat = k + 1 := by omega
          have e4 : (0 : Int) ≤ (k : Int) + 1 := by omega
          rw [if_pos hk1] at h4
          generalize L.getD (k + 1) default = y at *
          generalize L.getD k default = x at *
          cases hc : cntO y.t with
          | none =>
            rw [hc] at h4
            simp only at h4
            simp only [e0, e1, e2, e3, e4, hg, hg1, hx, hn2, hyn, hc, cntR, hot, xE, Pa.enc, dPa_mk, Pa.eta', on_gcall, off_gcall, flat_gcall, go_sem, reduceCtorEq, reduceIte, Nat.reduceEqDiff, Nat.reduceAdd, Nat.reduceSub, Nat.reduceMul, Nat.reduceLT, Nat.reduceLeDiff, Nat.reduceBEq, Int.reduceEq, Int.reduceLT, Int.reduceLE, Int.reduceAdd, Int.reduceSub, Int.reduceNeg, Int.reduceToNat]
            refine ⟨by omega, by omega, ⟨by omega, by omega, by omega⟩, by omega, ⟨k + 1, out ++ [(x.t.text, u)], _, _⟩, ⟨by dsimp only; omega, by simp; omega, ?_, by simp⟩, by dsimp only; omega, ⟨⟨rfl, by simp⟩, by dsimp only; omega⟩, ⟨rfl, by simp [xE]⟩, rfl⟩
            rw [← h4]; cases stepsL u (L.drop (k + 1)) <;> simp
          | some n =>
            rw [hc] at h4
            simp only at h4
            simp only [e0, e1, e2, e3, e4, hg, hg1, hx, hn2, hyn, hc, cntR, hot, xE, Pa.enc, dPa_mk, Pa.eta', on_gcall, off_gcall, flat_gcall, go_sem, reduceCtorEq, reduceIte, Nat.reduceEqDiff, Nat.reduceAdd, Nat.reduceSub, Nat.reduceMul, Nat.reduceLT, Nat.reduceLeDiff, Nat.reduceBEq, Int.reduceEq, Int.reduceLT, Int.reduceLE, Int.reduceAdd, Int.reduceSub, Int.reduceNeg, Int.reduceToNat]
            refine ⟨by omega, by omega, by omega, ⟨by omega, by omega, by omega⟩, by omega, ⟨k + 2, out ++ [(x.t.text, n)], _, _⟩, ⟨by dsimp only; omega, by simp; omega, ?_, by simp⟩, by dsimp only; omega, ⟨⟨rfl, by simp⟩, by dsimp only; omega⟩, ⟨rfl, by simp [xE]⟩, rfl⟩
            rw [← h4]; cases stepsL u (L.drop (k + 2)) <;> simp
        · have e2 : ((k : Int) + 1 < (L.length : Int)) = False := eq_false (by omega)
          rw [if_neg hk1] at h4
          generalize L.getD k default = x at *
          simp only [e0, e1, e2, hg, hx, hn2, hot, xE, Pa.enc, dPa_mk, Pa.eta', on_gcall, off_gcall, flat_gcall, go_sem, reduceCtorEq, reduceIte, Nat.reduceEqDiff, Nat.reduceAdd, Nat.reduceSub, Nat.reduceMul, Nat.reduceLT, Nat.reduceLeDiff, Nat.reduceBEq, Int.reduceEq, Int.reduceLT, Int.reduceLE, Int.reduceAdd, Int.reduceSub, Int.reduceNeg, Int.reduceToNat]
          refine ⟨by omega, ⟨by omega, by omega, by omega⟩, by omega, ⟨k + 1, out ++ [(x.t.text, u)], _, _⟩, ⟨by dsimp only; omega, by simp; omega, ?_, by simp⟩, by dsimp only; omega, ⟨⟨rfl, by simp⟩, by dsimp only; omega⟩, ⟨rfl, by simp [xE]⟩, rfl⟩
          rw [← h4, List.drop_eq_nil_of_le (by dsimp only; omega)]; simp [stepsL]
      · rw [if_neg hn2] at h4
        have hn3 : namedB (L.getD k default) = false := by simpa using hn2
        generalize L.getD k default = x at *
        simp only [Option.map_none] at h4
        subst h4
        simp only [e0, e1, hg, hx, hn3, spR, Pa.enc, dPa_mk, Pa.eta', on_gcall, off_gcall, flat_gcall, go_sem, reduceCtorEq, reduceIte, Nat.reduceEqDiff, Nat.reduceAdd, Nat.reduceSub, Nat.reduceMul, Nat.reduceLT, Nat.reduceLeDiff, Nat.reduceBEq, Int.reduceEq, Int.reduceLT, Int.reduceLE, Int.reduceAdd, Int.reduceSub, Int.reduceNeg, Int.reduceToNat]
  · simp only [c24, toks, dToks_map, h1, plV, hL, hb, hz1, hl1, Pa.enc, dPa_mk, Pa.eta', on_gcall, off_gcall, flat_gcall, go_sem, reduceCtorEq, reduceIte, Nat.reduceEqDiff, Nat.reduceAdd, Nat.reduceSub, Nat.reduceMul, Nat.reduceLT, Nat.reduceLeDiff, Nat.reduceBEq, Int.reduceEq, Int.reduceLT, Int.reduceLE, Int.reduceAdd, Int.reduceSub, Int.reduceNeg, Int.reduceToNat]
    refine SemC.lp (α := SpS) (fun a => [(1, vi u), (6, .slc 4 (L.map Pa.enc)), (7, vb true), (8, .ref 0 a.ver 0 a.out.length), (9, vi a.k)])
      (fun a => ⟨[⟨a.ver, 3, a.out.map xE, false, [vs ⟨#[]⟩, vi 0, vnil]⟩], a.clk⟩) (fun a => a.k ≤ L.length ∧ a.out.length ≤ a.k ∧ (stepsL u (L.drop a.k)).map (a.out ++ ·) = R ∧ (0 < a.k → 0 < a.out.length)) (fun a => L.length - a.k) ⟨0, [], 0, 1⟩
      ⟨Nat.zero_le _, Nat.zero_le _, by rw [← hR]; simp only [List.drop_zero, List.nil_append]; cases stepsL u L <;> rfl, fun hh => absurd hh (Nat.lt_irrefl 0)⟩ (St.nil 8 3 [vs ⟨#[]⟩, vi 0, vnil] (by simp [upd_at]) (St.cut ?_ ?_ ?_)) fun a ha => ?_
    · simp [Agrees, upd_at, initE_at]
    · simp [Heap.alloc]
    · rfl
    obtain ⟨k, out, ver, clk⟩ := a
    obtain ⟨h2, h3, h4, h5⟩ := ha
    simp only at h2 h3 h4 h5
    by_cases hk : k = L.length
    · subst hk
      have hop : ((0 : Int) < (out.length : Int)) = True := eq_true (by have := h5 (by omega); omega)
      rw [List.drop_length] at h4
      simp only [stepsL, Option.map_some, List.append_nil] at h4
      subst h4
      simp only [Int.lt_irrefl, hop, spR, List.take_length, take_mapl, mapO_xE11, mapO_xE10, Nat.le_refl, on_gcall, off_gcall, flat_gcall, go_sem, reduceCtorEq, reduceIte, Nat.reduceEqDiff, Nat.reduceAdd, Nat.reduceSub, Nat.reduceMul, Nat.reduceLT, Nat.reduceLeDiff, Nat.reduceBEq, Int.reduceEq, Int.reduceLT, Int.reduceLE, Int.reduceAdd, Int.reduceSub, Int.reduceNeg, Int.reduceToNat]
    · have e1 : (k : Int) < (L.length : Int) := by omega
      have e0 : (0 : Int) ≤ (k : Int) := by omega
      have hlt : k < L.length := by omega
      have hg := getD_pas L k [vi 0, vs ⟨#[]⟩, vi 0, vnil] hlt
      have hx := (hm (L.getD k default) (by rw [List.getD_eq_getElem?_getD, List.getElem?_eq_getElem hlt]; exact List.getElem_mem _)).1
      have hxn := hN (L.getD k default) (by rw [List.getD_eq_getElem?_getD, List.getElem?_eq_getElem hlt]; exact List.getElem_mem _)
      have hot : out.take out.length = out := List.take_length
      rw [stepsL_drop u L k hlt] at h4
      by_cases hn2 : namedB (L.getD k default) = true
      · rw [if_pos hn2] at h4
        by_cases hk1 : k + 1 < L.length
        · have hg1 := getD_pas L (k + 1) [vi 0, vs ⟨#[]⟩, vi 0, vnil] hk1
          have hyn := hN (L.getD (k + 1) default) (by rw [List.getD_eq_getElem?_getD, List.getElem?_eq_getElem hk1]; exact List.getElem_mem _)
          have e2 : ((k : Int) + 1 < (L.length : Int)) = True := eq_true (by omega)
          have e3 : ((k : Int) + 1).toNat = k + 1 := by omega
          have e4 : (0 : Int) ≤ (k : Int) + 1 := by omega
          rw [if_pos hk1] at h4
          generalize L.getD (k + 1) default = y at *
          generalize L.getD k default = x at *
          cases hc : cntO y.t with
          | none =>
            rw [hc] at h4
            simp only at h4
            simp only [e0, e1, e2, e3, e4, hg, hg1, hx, hn2, hyn, hc, cntR, hot, xE, Pa.enc, dPa_mk, Pa.eta', on_gcall, off_gcall, flat_gcall, go_sem, reduceCtorEq, reduceIte, Nat.reduceEqDiff, Nat.reduceAdd, Nat.reduceSub, Nat.reduceMul, Nat.reduceLT, Nat.reduceLeDiff, Nat.reduceBEq, Int.reduceEq, Int.reduceLT, Int.reduceLE, Int.reduceAdd, Int.reduceSub, Int.reduceNeg, Int.reduceToNat]
            refine ⟨by omega, by omega, ⟨by omega, by omega, by omega⟩, by omega, ⟨k + 1, out ++ [(x.t.text, u)], _, _⟩, ⟨by dsimp only; omega, by simp; omega, ?_, by simp⟩, by dsimp only; omega, ⟨⟨rfl, by simp⟩, by dsimp only; omega⟩, ⟨rfl, by simp [xE]⟩, rfl⟩
            rw [← h4]; cases stepsL u (L.drop (k + 1)) <;> simp
          | some n =>
            rw [hc] at h4
            simp only at h4
            simp only [e0, e1, e2, e3, e4, hg, hg1, hx, hn2, hyn, hc, cntR, hot, xE, Pa.enc, dPa_mk, Pa.eta', on_gcall, off_gcall, flat_gcall, go_sem, reduceCtorEq, reduceIte, Nat.reduceEqDiff, Nat.reduceAdd, Nat.reduceSub, Nat.reduceMul, Nat.reduceLT, Nat.reduceLeDiff, Nat.reduceBEq, Int.reduceEq, Int.reduceLT, Int.reduceLE, Int.reduceAdd, Int.reduceSub, Int.reduceNeg, Int.reduceToNat]
            refine ⟨by omega, by omega, by omega, ⟨by omega, by omega, by omega⟩, by omega, ⟨k + 2, out ++ [(x.t.text, n)], _, _⟩, ⟨by dsimp only; omega, by simp; omega, ?_, by simp⟩, by dsimp only; omega, ⟨⟨rfl, by simp⟩, by dsimp only; omega⟩, ⟨rfl, by simp [xE]⟩, rfl⟩
            rw [← h4]; cases stepsL u (L.drop (k + 2)) <;> simp
        · have e2 : ((k : Int) + 1 < (L.length : Int)) = False := eq_false (by omega)
          rw [if_neg hk1] at h4
          generalize L.getD k default = x at *
          simp only [e0, e1, e2, hg, hx, hn2, hot, xE, Pa.enc, dPa_mk, Pa.eta', on_gcall, off_gcall, flat_gcall, go_sem, reduceCtorEq, reduceIte, Nat.reduceEqDiff, Nat.reduceAdd, Nat.reduceSub, Nat.reduceMul, Nat.reduceLT, Nat.reduceLeDiff, Nat.reduceBEq, Int.reduceEq, Int.reduceLT, Int.reduceLE, Int.reduceAdd, Int.reduceSub, Int.reduceNeg, Int.reduceToNat]
          refine ⟨by omega, ⟨by omega, by omega, by omega⟩, by omega, ⟨k + 1, out ++ [(x.t.text, u)], _, _⟩, ⟨by dsimp only; omega, by simp; omega, ?_, by simp⟩, by dsimp only; omega, ⟨⟨rfl, by simp⟩, by dsimp only; omega⟩, ⟨rfl, by simp [xE]⟩, rfl⟩
          rw [← h4, List.drop_eq_nil_of_le (by dsimp only; omega)]; simp [stepsL]
      · rw [if_neg hn2] at h4
        have hn3 : namedB (L.getD k default) = false := by simpa using hn2
        generalize L.getD k default = x at *
        simp only [Option.map_none] at h4
        subst h4
        simp only [e0, e1, hg, hx, hn3, spR, Pa.enc, dPa_mk, Pa.eta', on_gcall, off_gcall, flat_gcall, go_sem, reduceCtorEq, reduceIte, Nat.reduceEqDiff, Nat.reduceAdd, Nat.reduceSub, Nat.reduceMul, Nat.reduceLT, Nat.reduceLeDiff, Nat.reduceBEq, Int.reduceEq, Int.reduceLT, Int.reduceLE, Int.reduceAdd, Int.reduceSub, Int.reduceNeg, Int.reduceToNat]
def sumStp : Sum Try.prog := ⟨24, fun args => args = [toks (dToks (args.getD 0 .any)), vi ((args.getD 1 .any).int)] ∧ okQ (dToks (args.getD 0 .any)), fun args => spV (spO ((args.getD 1 .any).int) (dToks (args.getD 0 .any))), fun args h => by
  have := steps_ok (dToks (args.getD 0 .any)) ((args.getD 1 .any).int) h.2; rwa [← h.1] at this, false⟩
theorem sumStp_f : sumStp.f = 24 := rfl
theorem sumStp_D (args : List V) : sumStp.D args = (args = [toks (dToks (args.getD 0 .any)), vi ((args.getD 1 .any).int)] ∧ okQ (dToks (args.getD 0 .any))) := rfl
theorem sumStp_flat : sumStp.flat = false := rfl
theorem sumStp_r (args : List V) : sumStp.r args = spV (spO ((args.getD 1 .any).int) (dToks (args.getD 0 .any))) := rfl
attribute [go_sem] sumStp_f sumStp_D sumStp_flat sumStp_r
end Go.Proofs.Ytjofgafeaiiegaa
