/- Layer 7: what happens to counters, by the document. -/
import Derived.Test.YtjofgafeaiiegaaV7u
namespace Go.Proofs.Ytjofgafeaiiegaa
open Go.Sx
set_option linter.unusedSimpArgs false
set_option maxHeartbeats 8000000
set_option maxRecDepth 20000

def setLast (out : List NS) (n : Int) : List NS := out.set (out.length - 1) ((out.getD (out.length - 1) default).1, n)
def refL (u : Int) : Bool → List Pa → List NS → Option (List NS)
  | _, [], out => some out
  | prev, p :: l, out => match (if prev = true then cntO p.t else none) with
    | some n => refL u false l (setLast out n)
    | none => if namedB p = true then refL u true l (out ++ [(p.t.text, u)]) else none
theorem setLast_app (out : List NS) (a : ByteArray) (b n : Int) : setLast (out ++ [(a, b)]) n = out ++ [(a, n)] := by
  unfold setLast
  have e : (out ++ [(a, b)]).length - 1 = out.length := by simp
  rw [e]
  simp
theorem refL_both (u : Int) : ∀ (m : Nat) (l : List Pa), l.length ≤ m → ∀ out : List NS, refL u false l out = (stepsL u l).map (out ++ ·) ∧ ∀ nm, refL u true l (out ++ [(nm, u)]) = match l with
    | [] => some (out ++ [(nm, u)])
    | q :: l' => match cntO q.t with
      | some n => (stepsL u l').map ((out ++ [(nm, n)]) ++ ·)
      | none => (stepsL u (q :: l')).map ((out ++ [(nm, u)]) ++ ·)
  | 0, l, h, out => by
    have : l = [] := List.length_eq_zero_iff.1 (by omega)
    subst this
    exact ⟨by simp [refL, stepsL], fun nm => rfl⟩
  | m + 1, [], h, out => ⟨by simp [refL, stepsL], fun nm => rfl⟩
  | m + 1, p :: l, h, out => by
    have ih := fun (out : List NS) => refL_both u m l (by simpa using h) out
    have h1 : ∀ out : List NS, refL u false (p :: l) out = (stepsL u (p :: l)).map (out ++ ·) := fun out => by
      simp only [refL, Bool.false_eq_true, if_false]
      by_cases hn : namedB p = true
      · rw [if_pos hn, (ih out).2]
        match l with
        | [] => simp [stepsL, hn]
        | q :: l' =>
          simp only [stepsL, hn, if_true]
          cases cntO q.t with
          | none => simp only; cases stepsL u (q :: l') <;> simp
          | some n => simp only; cases stepsL u l' <;> simp
      · rw [if_neg hn]
        match l with
        | [] => simp [stepsL, hn]
        | q :: l' => simp [stepsL, hn]
    refine ⟨h1 out, fun nm => ?_⟩
    cases hc : cntO p.t with
    | some n =>
      simp only [refL, if_true, hc]
      rw [setLast_app, (ih _).1]
    | none =>
      have : refL u true (p :: l) (out ++ [(nm, u)]) = refL u false (p :: l) (out ++ [(nm, u)]) := by
        simp only [refL, if_true, hc, Bool.false_eq_true, if_false]
      rw [this, h1]
      simp only [hc]
theorem refL_eq (u : Int) (l : List Pa) (out : List NS) : refL u false l out = (stepsL u l).map (out ++ ·) := (refL_both u l.length l (Nat.le_refl _) out).1
def prevB (L : List Pa) (k : Nat) : Bool := decide (0 < k) && decide ((L.getD (k - 1) default).t.kind = 2)
theorem named_k {p : Pa} (h : namedB p = true) : p.t.kind = 2 := by
  unfold namedB at h
  simp only [Bool.and_eq_true, decide_eq_true_eq] at h
  exact h.1
theorem mm_eq (n : Int) : max (min n 2147483647) (-2147483648) = min (max n (-2147483648)) 2147483647 := by omega
theorem stepsR_ok (l : List Tok) (u : Int) (h : okQ l) : PCall Try.prog 29 [toks l, vi u] (spV (spO u l)) := by
  have h1 := h.1.1
  have hm := pl_mem h.1
  have hN := pl_n h.2
  have hlen := pl_len l
  unfold spO
  have hfb := @pl_false l
  generalize hL : pl l = L at *
  cases hb : ptB l with
  | false =>
    have hz := hfb hb
    subst hz
    rw [if_neg (by simp)]
    refine PCall.rsub ?_ (vnil_stps false)
    refine PCall.of (Orc.cons sumPtsR (Orc.cons sumId7 (Orc.cons sumNmR (Orc.nil _)))) c29_ok (by simp [c29]) fun w0 own0 => ?_
    simp only [c29, toks, dToks_map, h1, plV, hL, hb, spR, Bool.false_eq_true, if_false, on_gcall, off_gcall, flat_gcall, go_sem, reduceCtorEq, reduceIte, Nat.reduceEqDiff, Nat.reduceAdd, Nat.reduceSub, Nat.reduceMul, Nat.reduceLT, Nat.reduceLeDiff, Nat.reduceBEq, Int.reduceEq, Int.reduceLT, Int.reduceLE, Int.reduceAdd, Int.reduceSub, Int.reduceNeg, Int.reduceToNat]
  | true =>
  rw [if_pos rfl]
  by_cases hz : L = []
  · rw [if_pos hz]
    subst hz
    refine PCall.rsub ?_ (vnil_stps false)
    refine PCall.of (Orc.cons sumPtsR (Orc.cons sumId7 (Orc.cons sumNmR (Orc.nil _)))) c29_ok (by simp [c29]) fun w0 own0 => ?_
    simp only [c29, toks, dToks_map, h1, plV, hL, hb, spR, on_gcall, off_gcall, flat_gcall, go_sem, reduceCtorEq, reduceIte, Nat.reduceEqDiff, Nat.reduceAdd, Nat.reduceSub, Nat.reduceMul, Nat.reduceLT, Nat.reduceLeDiff, Nat.reduceBEq, Int.reduceEq, Int.reduceLT, Int.reduceLE, Int.reduceAdd, Int.reduceSub, Int.reduceNeg, Int.reduceToNat]
  rw [if_neg hz]
  have hz0 : L.length ≠ 0 := fun hh => hz (List.length_eq_zero_iff.1 hh)
  have hz1 : ((L.length : Int) = 0) = False := eq_false (by omega)
  by_cases hn : isNone L = true
  · rw [if_pos hn]
    obtain ⟨p, rfl⟩ : ∃ p, L = [p] := by
      unfold isNone at hn
      split at hn
      · exact ⟨_, rfl⟩
      · cases hn
    have hi : identB p ⟨#[110, 111, 110, 101]⟩ = true := hn
    have hp := (hm p (by simp)).1
    refine PCall.rsub ?_ (vnil_stps true)
    refine PCall.of (Orc.cons sumPtsR (Orc.cons sumId7 (Orc.cons sumNmR (Orc.nil _)))) c29_ok (by simp [c29]) fun w0 own0 => ?_
    simp only [c29, toks, dToks_map, h1, plV, hL, hb, hi, hp, spR, Pa.enc, dPa_mk, Pa.eta', on_gcall, off_gcall, flat_gcall, go_sem, reduceCtorEq, reduceIte, Nat.reduceEqDiff, Nat.reduceAdd, Nat.reduceSub, Nat.reduceMul, Nat.reduceLT, Nat.reduceLeDiff, Nat.reduceBEq, Int.reduceEq, Int.reduceLT, Int.reduceLE, Int.reduceAdd, Int.reduceSub, Int.reduceNeg, Int.reduceToNat]
  rw [if_neg hn]
  have hg0 : 0 < L.length := by omega
  have hx0 := getD_pas L 0 [vi 0, vs ⟨#[]⟩, vi 0, vnil] hg0
  have hp0 := (hm (L.getD 0 default) (by rw [List.getD_eq_getElem?_getD, List.getElem?_eq_getElem hg0]; exact List.getElem_mem _)).1
  have hi0 : (L.length : Int) = 1 → identB (L.getD 0 default) ⟨#[110, 111, 110, 101]⟩ = false := fun h1 => by
    obtain ⟨p, rfl⟩ := List.length_eq_one_iff.1 (show L.length = 1 by omega)
    cases hh : identB p ⟨#[110, 111, 110, 101]⟩ with
    | false => exact hh
    | true => exact absurd hh (by simpa [isNone, noneW] using hn)
  generalize hR : stepsL u L = R
  have hLn : L.length ≤ 1000001 := by have := h.1.1; omega
  generalize L.getD 0 default = p0 at *
  have start : ∀ Q : Prop, (∀ hlt : (L.length : Int) = 1 ∨ ¬ (L.length : Int) = 1, Q) → Q := fun Q f => f (Decidable.em _)
  refine start _ fun hl1 => ?_
  refine spR_sub R ?_
  refine PCall.of (Orc.cons sumPtsR (Orc.cons sumId7 (Orc.cons sumNmR (Orc.nil _)))) c29_ok (by simp [c29]) fun w0 own0 => ?_
  clear start
  rcases hl1 with hl1 | hl1
  · simp only [c29, toks, dToks_map, h1, plV, hL, hb, hz1, hl1, hi0 hl1, hx0, hp0, Pa.enc, dPa_mk, Pa.eta', on_gcall, off_gcall, flat_gcall, go_sem, reduceCtorEq, reduceIte, Nat.reduceEqDiff, Nat.reduceAdd, Nat.reduceSub, Nat.reduceMul, Nat.reduceLT, Nat.reduceLeDiff, Nat.reduceBEq, Int.reduceEq, Int.reduceLT, Int.reduceLE, Int.reduceAdd, Int.reduceSub, Int.reduceNeg, Int.reduceToNat]
    try (refine ⟨by omega, ?_⟩)
    refine SemC.lp (α := SpS) (fun a => [(1, vi u), (6, .slc 4 (L.map Pa.enc)), (8, .ref 0 a.ver 0 a.out.length), (9, vi a.k)])
      (fun a => ⟨[⟨a.ver, 3, a.out.map xE, false, [vs ⟨#[]⟩, vi 0, vnil]⟩], a.clk⟩) (fun a => a.k ≤ L.length ∧ a.out.length ≤ a.k ∧ refL u (prevB L a.k) (L.drop a.k) a.out = R ∧ (0 < a.k → 0 < a.out.length)) (fun a => L.length - a.k) ⟨0, [], 0, 1⟩
      ⟨Nat.zero_le _, Nat.zero_le _, by rw [← hR]; exact (refL_eq u L []).trans (by cases stepsL u L <;> rfl), fun hh => absurd hh (Nat.lt_irrefl 0)⟩ (St.nil 8 3 [vs ⟨#[]⟩, vi 0, vnil] (by simp [upd_at]) (St.cut ?_ ?_ ?_)) fun a ha => ?_
    · simp [Agrees, upd_at, initE_at]
    · simp [Heap.alloc]
    · rfl
    obtain ⟨k, out, ver, clk⟩ := a
    obtain ⟨h2, h3, h4, h5⟩ := ha
    simp only at h2 h3 h4 h5
    by_cases hk : k = L.length
    · subst hk
      have hop : ((0 : Int) < (out.length : Int)) = True := eq_true (by have := h5 (by omega); omega)
      rw [List.drop_length] at h4
      simp only [refL] at h4
      subst h4
      simp only [Int.lt_irrefl, hop, spR, List.take_length, take_mapl, mapO_xE11, mapO_xE10, Nat.le_refl, on_gcall, off_gcall, flat_gcall, go_sem, reduceCtorEq, reduceIte, Nat.reduceEqDiff, Nat.reduceAdd, Nat.reduceSub, Nat.reduceMul, Nat.reduceLT, Nat.reduceLeDiff, Nat.reduceBEq, Int.reduceEq, Int.reduceLT, Int.reduceLE, Int.reduceAdd, Int.reduceSub, Int.reduceNeg, Int.reduceToNat]
    · have e1 : (k : Int) < (L.length : Int) := by omega
      have e0 : (0 : Int) ≤ (k : Int) := by omega
      have hlt : k < L.length := by omega
      have hg := getD_pas L k [vi 0, vs ⟨#[]⟩, vi 0, vnil] hlt
      have hx := (hm (L.getD k default) (by rw [List.getD_eq_getElem?_getD, List.getElem?_eq_getElem hlt]; exact List.getElem_mem _)).1
      have hxn := hN (L.getD k default) (by rw [List.getD_eq_getElem?_getD, List.getElem?_eq_getElem hlt]; exact List.getElem_mem _)
      have hot : out.take out.length = out := List.take_length
      rw [par_drop L k hlt] at h4
      have hprev : prevB L (k + 1) = decide ((L.getD k default).t.kind = 2) := by simp [prevB]
      have hpv : prevB L k = (decide (0 < k) && decide ((L.getD (k - 1) default).t.kind = 2)) := rfl
      have e3 : ((k : Int) - 1).toNat = k - 1 := by omega
      have hg1 := getD_pas L (k - 1) [vi 0, vs ⟨#[]⟩, vi 0, vnil] (by omega)
      generalize L.getD (k - 1) default = y at *
      generalize L.getD k default = x at *
      simp only [refL] at h4
      have notA : ∀ f1 : (if prevB L k = true then cntO x.t else none) = none, (if namedB x = true then refL u true (L.drop (k + 1)) (out ++ [(x.t.text, u)]) else none) = R := fun f1 => by rw [f1] at h4; exact h4
      by_cases c8 : x.t.kind = 8
      · have c8t := eq_true c8
        have hn3 : namedB x = false := by unfold namedB; rw [decide_eq_false (by rw [c8]; decide), Bool.false_and]
        have notC : ∀ f1 : (if prevB L k = true then cntO x.t else none) = none, none = R := fun f1 => by have := notA f1; rwa [hn3, if_neg (by simp)] at this
        by_cases cm : x.t.n.tmod 1000 = 0
        · have cmt := eq_true cm
          by_cases ck : 0 < k
          · have ckt : ((0 : Int) < (k : Int)) = True := eq_true (by omega)
            have e6 : (0 : Int) ≤ (k : Int) - 1 := by omega
            have e7 : (k : Int) - 1 < (L.length : Int) := by omega
            by_cases cp : y.t.kind = 2
            · have cpt := eq_true cp
              have hc : cntO x.t = some (min (max (x.t.n.tdiv 1000) (-2147483648)) 2147483647) := by unfold cntO; rw [if_pos ⟨c8, cm⟩]
              rw [hpv, decide_eq_true ck, decide_eq_true cp, Bool.true_and, if_pos rfl, hc] at h4
              simp only at h4
              have h50 := h5 ck
              have e5 : ((out.length : Int) - 1).toNat = out.length - 1 := by omega
              have e8 : (0 : Int) ≤ (out.length : Int) - 1 := by omega
              have e9 : (out.length : Int) - 1 < (out.length : Int) := by omega
              have hr := tdiv_rng hxn
              have hgo : (out.map xE).getD (out.length - 1) [vs ⟨#[]⟩, vi 0, vnil] = xE (out.getD (out.length - 1) default) := by
                simp [List.getD_eq_getElem?_getD, show out.length - 1 < out.length by omega]
              simp only [e0, e1, e3, e5, e6, e7, e8, e9, hg, hg1, hgo, hx, c8t, cmt, ckt, cpt, mm_eq, xE, Pa.enc, dPa_mk, Pa.eta', on_gcall, off_gcall, flat_gcall, go_sem, reduceCtorEq, reduceIte, Nat.reduceEqDiff, Nat.reduceAdd, Nat.reduceSub, Nat.reduceMul, Nat.reduceLT, Nat.reduceLeDiff, Nat.reduceBEq, Int.reduceEq, Int.reduceLT, Int.reduceLE, Int.reduceAdd, Int.reduceSub, Int.reduceNeg, Int.reduceToNat]
              refine ⟨by omega, by omega, by omega, ⟨hr, by omega⟩, by omega, by omega, ⟨k + 1, setLast out (min (max (x.t.n.tdiv 1000) (-2147483648)) 2147483647), ver, clk + 1⟩, ⟨by dsimp only; omega, by simp [setLast]; omega, ?_, fun _ => by simp [setLast]; omega⟩, by dsimp only; omega, ⟨⟨rfl, by simp [setLast]⟩, by dsimp only; omega⟩, ⟨rfl, ?_⟩, rfl⟩
              · dsimp only; rw [hprev, decide_eq_false (by rw [c8]; decide)]; exact h4
              · simp [setLast, List.map_set, xE]
            · have cpt := eq_false cp
              have := notC (by rw [hpv, decide_eq_false cp, Bool.and_false, if_neg (by simp)])
              subst this
              simp only [e0, e1, e3, e6, e7, hg, hg1, hx, hn3, c8t, cmt, ckt, cpt, spR, Pa.enc, dPa_mk, Pa.eta', on_gcall, off_gcall, flat_gcall, go_sem, reduceCtorEq, reduceIte, Nat.reduceEqDiff, Nat.reduceAdd, Nat.reduceSub, Nat.reduceMul, Nat.reduceLT, Nat.reduceLeDiff, Nat.reduceBEq, Int.reduceEq, Int.reduceLT, Int.reduceLE, Int.reduceAdd, Int.reduceSub, Int.reduceNeg, Int.reduceToNat]
              omega
          · have ckt : ((0 : Int) < (k : Int)) = False := eq_false (by omega)
            have := notC (by rw [hpv, decide_eq_false ck, Bool.false_and, if_neg (by simp)])
            subst this
            simp only [e0, e1, e3, hg, hx, hn3, c8t, cmt, ckt, spR, Pa.enc, dPa_mk, Pa.eta', on_gcall, off_gcall, flat_gcall, go_sem, reduceCtorEq, reduceIte, Nat.reduceEqDiff, Nat.reduceAdd, Nat.reduceSub, Nat.reduceMul, Nat.reduceLT, Nat.reduceLeDiff, Nat.reduceBEq, Int.reduceEq, Int.reduceLT, Int.reduceLE, Int.reduceAdd, Int.reduceSub, Int.reduceNeg, Int.reduceToNat]
            omega
        · have cmt := eq_false cm
          have := notC (by have : cntO x.t = none := (by unfold cntO; rw [if_neg (fun hh => cm hh.2)]); rw [this]; split <;> rfl)
          subst this
          simp only [e0, e1, e3, hg, hx, hn3, c8t, cmt, spR, Pa.enc, dPa_mk, Pa.eta', on_gcall, off_gcall, flat_gcall, go_sem, reduceCtorEq, reduceIte, Nat.reduceEqDiff, Nat.reduceAdd, Nat.reduceSub, Nat.reduceMul, Nat.reduceLT, Nat.reduceLeDiff, Nat.reduceBEq, Int.reduceEq, Int.reduceLT, Int.reduceLE, Int.reduceAdd, Int.reduceSub, Int.reduceNeg, Int.reduceToNat]
          omega
      · have c8t := eq_false c8
        have h6 := notA (by have : cntO x.t = none := (by unfold cntO; rw [if_neg (fun hh => c8 hh.1)]); rw [this]; split <;> rfl)
        cases hn3 : namedB x with
        | true =>
          rw [hn3, if_pos rfl] at h6
          simp only [e0, e1, e3, hg, hx, hn3, hot, c8t, xE, Pa.enc, dPa_mk, Pa.eta', on_gcall, off_gcall, flat_gcall, go_sem, reduceCtorEq, reduceIte, Nat.reduceEqDiff, Nat.reduceAdd, Nat.reduceSub, Nat.reduceMul, Nat.reduceLT, Nat.reduceLeDiff, Nat.reduceBEq, Int.reduceEq, Int.reduceLT, Int.reduceLE, Int.reduceAdd, Int.reduceSub, Int.reduceNeg, Int.reduceToNat]
          refine ⟨⟨by omega, by omega, by omega⟩, by omega, ⟨k + 1, out ++ [(x.t.text, u)], _, _⟩, ⟨by dsimp only; omega, by simp; omega, ?_, by simp⟩, by dsimp only; omega, ⟨⟨rfl, by simp⟩, by dsimp only; omega⟩, ⟨rfl, by simp [xE]⟩, rfl⟩
          dsimp only
          rw [hprev, decide_eq_true (named_k hn3)]; exact h6
        | false =>
          rw [hn3, if_neg (by simp)] at h6
          subst h6
          simp only [e0, e1, e3, hg, hx, hn3, c8t, spR, Pa.enc, dPa_mk, Pa.eta', on_gcall, off_gcall, flat_gcall, go_sem, reduceCtorEq, reduceIte, Nat.reduceEqDiff, Nat.reduceAdd, Nat.reduceSub, Nat.reduceMul, Nat.reduceLT, Nat.reduceLeDiff, Nat.reduceBEq, Int.reduceEq, Int.reduceLT, Int.reduceLE, Int.reduceAdd, Int.reduceSub, Int.reduceNeg, Int.reduceToNat]
  · simp only [c29, toks, dToks_map, h1, plV, hL, hb, hz1, hl1, Pa.enc, dPa_mk, Pa.eta', on_gcall, off_gcall, flat_gcall, go_sem, reduceCtorEq, reduceIte, Nat.reduceEqDiff, Nat.reduceAdd, Nat.reduceSub, Nat.reduceMul, Nat.reduceLT, Nat.reduceLeDiff, Nat.reduceBEq, Int.reduceEq, Int.reduceLT, Int.reduceLE, Int.reduceAdd, Int.reduceSub, Int.reduceNeg, Int.reduceToNat]
    refine SemC.lp (α := SpS) (fun a => [(1, vi u), (6, .slc 4 (L.map Pa.enc)), (8, .ref 0 a.ver 0 a.out.length), (9, vi a.k)])
      (fun a => ⟨[⟨a.ver, 3, a.out.map xE, false, [vs ⟨#[]⟩, vi 0, vnil]⟩], a.clk⟩) (fun a => a.k ≤ L.length ∧ a.out.length ≤ a.k ∧ refL u (prevB L a.k) (L.drop a.k) a.out = R ∧ (0 < a.k → 0 < a.out.length)) (fun a => L.length - a.k) ⟨0, [], 0, 1⟩
      ⟨Nat.zero_le _, Nat.zero_le _, by rw [← hR]; exact (refL_eq u L []).trans (by cases stepsL u L <;> rfl), fun hh => absurd hh (Nat.lt_irrefl 0)⟩ (St.nil 8 3 [vs ⟨#[]⟩, vi 0, vnil] (by simp [upd_at]) (St.cut ?_ ?_ ?_)) fun a ha => ?_
    · simp [Agrees, upd_at, initE_at]
    · simp [Heap.alloc]
    · rfl
    obtain ⟨k, out, ver, clk⟩ := a
    obtain ⟨h2, h3, h4, h5⟩ := ha
    simp only at h2 h3 h4 h5
    by_cases hk : k = L.length
    · subst hk
      have hop : ((0 : Int) < (out.length : Int)) = True := eq_true (by have := h5 (by omega); omega)
      rw [List.drop_length] at h4
      simp only [refL] at h4
      subst h4
      simp only [Int.lt_irrefl, hop, spR, List.take_length, take_mapl, mapO_xE11, mapO_xE10, Nat.le_refl, on_gcall, off_gcall, flat_gcall, go_sem, reduceCtorEq, reduceIte, Nat.reduceEqDiff, Nat.reduceAdd, Nat.reduceSub, Nat.reduceMul, Nat.reduceLT, Nat.reduceLeDiff, Nat.reduceBEq, Int.reduceEq, Int.reduceLT, Int.reduceLE, Int.reduceAdd, Int.reduceSub, Int.reduceNeg, Int.reduceToNat]
    · have e1 : (k : Int) < (L.length : Int) := by omega
      have e0 : (0 : Int) ≤ (k : Int) := by omega
      have hlt : k < L.length := by omega
      have hg := getD_pas L k [vi 0, vs ⟨#[]⟩, vi 0, vnil] hlt
      have hx := (hm (L.getD k default) (by rw [List.getD_eq_getElem?_getD, List.getElem?_eq_getElem hlt]; exact List.getElem_mem _)).1
      have hxn := hN (L.getD k default) (by rw [List.getD_eq_getElem?_getD, List.getElem?_eq_getElem hlt]; exact List.getElem_mem _)
      have hot : out.take out.length = out := List.take_length
      rw [par_drop L k hlt] at h4
      have hprev : prevB L (k + 1) = decide ((L.getD k default).t.kind = 2) := by simp [prevB]
      have hpv : prevB L k = (decide (0 < k) && decide ((L.getD (k - 1) default).t.kind = 2)) := rfl
      have e3 : ((k : Int) - 1).toNat = k - 1 := by omega
      have hg1 := getD_pas L (k - 1) [vi 0, vs ⟨#[]⟩, vi 0, vnil] (by omega)
      generalize L.getD (k - 1) default = y at *
      generalize L.getD k default = x at *
      simp only [refL] at h4
      have notA : ∀ f1 : (if prevB L k = true then cntO x.t else none) = none, (if namedB x = true then refL u true (L.drop (k + 1)) (out ++ [(x.t.text, u)]) else none) = R := fun f1 => by rw [f1] at h4; exact h4
      by_cases c8 : x.t.kind = 8
      · have c8t := eq_true c8
        have hn3 : namedB x = false := by unfold namedB; rw [decide_eq_false (by rw [c8]; decide), Bool.false_and]
        have notC : ∀ f1 : (if prevB L k = true then cntO x.t else none) = none, none = R := fun f1 => by have := notA f1; rwa [hn3, if_neg (by simp)] at this
        by_cases cm : x.t.n.tmod 1000 = 0
        · have cmt := eq_true cm
          by_cases ck : 0 < k
          · have ckt : ((0 : Int) < (k : Int)) = True := eq_true (by omega)
            have e6 : (0 : Int) ≤ (k : Int) - 1 := by omega
            have e7 : (k : Int) - 1 < (L.length : Int) := by omega
            by_cases cp : y.t.kind = 2
            · have cpt := eq_true cp
              have hc : cntO x.t = some (min (max (x.t.n.tdiv 1000) (-2147483648)) 2147483647) := by unfold cntO; rw [if_pos ⟨c8, cm⟩]
              rw [hpv, decide_eq_true ck, decide_eq_true cp, Bool.true_and, if_pos rfl, hc] at h4
              simp only at h4
              have h50 := h5 ck
              have e5 : ((out.length : Int) - 1).toNat = out.length - 1 := by omega
              have e8 : (0 : Int) ≤ (out.length : Int) - 1 := by omega
              have e9 : (out.length : Int) - 1 < (out.length : Int) := by omega
              have hr := tdiv_rng hxn
              have hgo : (out.map xE).getD (out.length - 1) [vs ⟨#[]⟩, vi 0, vnil] = xE (out.getD (out.length - 1) default) := by
                simp [List.getD_eq_getElem?_getD, show out.length - 1 < out.length by omega]
              simp only [e0, e1, e3, e5, e6, e7, e8, e9, hg, hg1, hgo, hx, c8t, cmt, ckt, cpt, mm_eq, xE, Pa.enc, dPa_mk, Pa.eta', on_gcall, off_gcall, flat_gcall, go_sem, reduceCtorEq, reduceIte, Nat.reduceEqDiff, Nat.reduceAdd, Nat.reduceSub, Nat.reduceMul, Nat.reduceLT, Nat.reduceLeDiff, Nat.reduceBEq, Int.reduceEq, Int.reduceLT, Int.reduceLE, Int.reduceAdd, Int.reduceSub, Int.reduceNeg, Int.reduceToNat]
              refine ⟨by omega, by omega, by omega, ⟨hr, by omega⟩, by omega, by omega, ⟨k + 1, setLast out (min (max (x.t.n.tdiv 1000) (-2147483648)) 2147483647), ver, clk + 1⟩, ⟨by dsimp only; omega, by simp [setLast]; omega, ?_, fun _ => by simp [setLast]; omega⟩, by dsimp only; omega, ⟨⟨rfl, by simp [setLast]⟩, by dsimp only; omega⟩, ⟨rfl, ?_⟩, rfl⟩
              · dsimp only; rw [hprev, decide_eq_false (by rw [c8]; decide)]; exact h4
              · simp [setLast, List.map_set, xE]
            · have cpt := eq_false cp
              have := notC (by rw [hpv, decide_eq_false cp, Bool.and_false, if_neg (by simp)])
              subst this
              simp only [e0, e1, e3, e6, e7, hg, hg1, hx, hn3, c8t, cmt, ckt, cpt, spR, Pa.enc, dPa_mk, Pa.eta', on_gcall, off_gcall, flat_gcall, go_sem, reduceCtorEq, reduceIte, Nat.reduceEqDiff, Nat.reduceAdd, Nat.reduceSub, Nat.reduceMul, Nat.reduceLT, Nat.reduceLeDiff, Nat.reduceBEq, Int.reduceEq, Int.reduceLT, Int.reduceLE, Int.reduceAdd, Int.reduceSub, Int.reduceNeg, Int.reduceToNat]
              omega
          · have ckt : ((0 : Int) < (k : Int)) = False := eq_false (by omega)
            have := notC (by rw [hpv, decide_eq_false ck, Bool.false_and, if_neg (by simp)])
            subst this
            simp only [e0, e1, e3, hg, hx, hn3, c8t, cmt, ckt, spR, Pa.enc, dPa_mk, Pa.eta', on_gcall, off_gcall, flat_gcall, go_sem, reduceCtorEq, reduceIte, Nat.reduceEqDiff, Nat.reduceAdd, Nat.reduceSub, Nat.reduceMul, Nat.reduceLT, Nat.reduceLeDiff, Nat.reduceBEq, Int.reduceEq, Int.reduceLT, Int.reduceLE, Int.reduceAdd, Int.reduceSub, Int.reduceNeg, Int.reduceToNat]
            omega
        · have cmt := eq_false cm
          have := notC (by have : cntO x.t = none := (by unfold cntO; rw [if_neg (fun hh => cm hh.2)]); rw [this]; split <;> rfl)
          subst this
          simp only [e0, e1, e3, hg, hx, hn3, c8t, cmt, spR, Pa.enc, dPa_mk, Pa.eta', on_gcall, off_gcall, flat_gcall, go_sem, reduceCtorEq, reduceIte, Nat.reduceEqDiff, Nat.reduceAdd, Nat.reduceSub, Nat.reduceMul, Nat.reduceLT, Nat.reduceLeDiff, Nat.reduceBEq, Int.reduceEq, Int.reduceLT, Int.reduceLE, Int.reduceAdd, Int.reduceSub, Int.reduceNeg, Int.reduceToNat]
          omega
      · have c8t := eq_false c8
        have h6 := notA (by have : cntO x.t = none := (by unfold cntO; rw [if_neg (fun hh => c8 hh.1)]); rw [this]; split <;> rfl)
        cases hn3 : namedB x with
        | true =>
          rw [hn3, if_pos rfl] at h6
          simp only [e0, e1, e3, hg, hx, hn3, hot, c8t, xE, Pa.enc, dPa_mk, Pa.eta', on_gcall, off_gcall, flat_gcall, go_sem, reduceCtorEq, reduceIte, Nat.reduceEqDiff, Nat.reduceAdd, Nat.reduceSub, Nat.reduceMul, Nat.reduceLT, Nat.reduceLeDiff, Nat.reduceBEq, Int.reduceEq, Int.reduceLT, Int.reduceLE, Int.reduceAdd, Int.reduceSub, Int.reduceNeg, Int.reduceToNat]
          refine ⟨⟨by omega, by omega, by omega⟩, by omega, ⟨k + 1, out ++ [(x.t.text, u)], _, _⟩, ⟨by dsimp only; omega, by simp; omega, ?_, by simp⟩, by dsimp only; omega, ⟨⟨rfl, by simp⟩, by dsimp only; omega⟩, ⟨rfl, by simp [xE]⟩, rfl⟩
          dsimp only
          rw [hprev, decide_eq_true (named_k hn3)]; exact h6
        | false =>
          rw [hn3, if_neg (by simp)] at h6
          subst h6
          simp only [e0, e1, e3, hg, hx, hn3, c8t, spR, Pa.enc, dPa_mk, Pa.eta', on_gcall, off_gcall, flat_gcall, go_sem, reduceCtorEq, reduceIte, Nat.reduceEqDiff, Nat.reduceAdd, Nat.reduceSub, Nat.reduceMul, Nat.reduceLT, Nat.reduceLeDiff, Nat.reduceBEq, Int.reduceEq, Int.reduceLT, Int.reduceLE, Int.reduceAdd, Int.reduceSub, Int.reduceNeg, Int.reduceToNat]
def sumStpR : Sum Try.prog := ⟨29, fun args => args = [toks (dToks (args.getD 0 .any)), vi ((args.getD 1 .any).int)] ∧ okQ (dToks (args.getD 0 .any)), fun args => spV (spO ((args.getD 1 .any).int) (dToks (args.getD 0 .any))), fun args h => by
  have := stepsR_ok (dToks (args.getD 0 .any)) ((args.getD 1 .any).int) h.2; rwa [← h.1] at this, false⟩
theorem sumStpR_f : sumStpR.f = 29 := rfl
theorem sumStpR_D (args : List V) : sumStpR.D args = (args = [toks (dToks (args.getD 0 .any)), vi ((args.getD 1 .any).int)] ∧ okQ (dToks (args.getD 0 .any))) := rfl
theorem sumStpR_flat : sumStpR.flat = false := rfl
theorem sumStpR_r (args : List V) : sumStpR.r args = spV (spO ((args.getD 1 .any).int) (dToks (args.getD 0 .any))) := rfl
attribute [go_sem] sumStpR_f sumStpR_D sumStpR_flat sumStpR_r
end Go.Proofs.Ytjofgafeaiiegaa
