/- Layer 10: arguments; the law of weights. -/
import Derived.Test.YtcjephhkgccmgaaM10o
import Derived.Test.YtcjephhkgccmgaaAw
import Derived.Laws.IdiomArrays
namespace Go.Proofs.Ytcjephhkgccmgaa
open Go.Sx
set_option linter.unusedSimpArgs false
set_option maxHeartbeats 4000000
set_option maxRecDepth 20000

abbrev smpC : List Cell := [.int .i64, .str, .str]
abbrev cmpC : List Cell := [.int .i64, .slc smpC]
abbrev selC : List Cell := [.slc cmpC]
abbrev w3C : List Cell := [.int .i64, .int .i64, .int .i64]
theorem maxLen_big : maxLen = big := by decide
theorem rows_of {α : Type} (enc : α → List V) (ok : α → Prop) : ∀ (es : List (List V)), (∀ e ∈ es, ∃ n : α, e = enc n ∧ ok n) → ∃ l : List α, es = l.map enc ∧ ∀ x ∈ l, ok x
  | [], _ => ⟨[], rfl, by simp⟩
  | e :: es, h => by
    obtain ⟨l, hl, ho⟩ := rows_of enc ok es fun e' he => h e' (by simp [he])
    obtain ⟨n, hn, hok⟩ := h e (by simp)
    exact ⟨n :: l, by rw [hl, hn]; rfl, fun x hx => by rcases List.mem_cons.1 hx with rfl | hx; exact hok; exact ho x hx⟩
theorem getD_mem {α : Type} {l : List α} {i : Nat} {d : α} (h : i < l.length) : l.getD i d ∈ l := by
  rw [List.getD_eq_getElem?_getD, List.getElem?_eq_getElem h]; exact List.getElem_mem _
theorem smps_of {x : V} (h : CellOK (.slc smpC) x) : ∃ l : List Smp, x = .slc 3 (l.map Smp.enc) ∧ l.length ≤ big := by
  cases h with
  | slc cs ess hl h h2 =>
    obtain ⟨l, rfl, _⟩ := rows_of Smp.enc (fun _ => True) ess fun e he => by
      have hlen := h e he
      have a0 := h2 e he 0 _ rfl
      have a1 := h2 e he 1 _ rfl
      have a2 := h2 e he 2 _ rfl
      match e, hlen with
      | [a, b, c], _ =>
        simp only [List.getD_cons_zero, List.getD_cons_succ] at a0 a1 a2
        cases a0; cases a1; cases a2
        exact ⟨⟨_, _, _⟩, rfl, trivial⟩
    exact ⟨l, rfl, by rw [← maxLen_big]; simpa using hl⟩
theorem selL_of {xs : List V} (hl : xs.length = 1) (h : ∀ i c, selC[i]? = some c → CellOK c (xs.getD i .any)) : ∃ s : Sel, xs = selE s ∧ memS s := by
  have a0 := h 0 _ rfl
  clear h
  match xs, hl with
  | [a], _ =>
    simp only [List.getD_cons_zero] at a0
    cases a0 with
    | slc cs ess hl h3 h2 =>
      obtain ⟨l, rfl, ho⟩ := rows_of Cmp.enc (fun c => c.l.length ≤ big) ess fun e he => by
        have hlen := h3 e he
        have a0 := h2 e he 0 _ rfl
        have a1 := h2 e he 1 _ rfl
        match e, hlen with
        | [a, b], _ =>
          simp only [List.getD_cons_zero, List.getD_cons_succ] at a0 a1
          obtain ⟨l, rfl, hb⟩ := smps_of a1
          cases a0
          exact ⟨⟨_, l⟩, rfl, hb⟩
      exact ⟨l, rfl, by rw [← maxLen_big]; simpa using hl, fun i hi => ho _ (getD_mem hi)⟩
theorem sels_of {x : V} (h : CellOK (.slc selC) x) : ∃ l : List Sel, x = sels l ∧ memL l := by
  cases h with
  | slc cs ess hl h h2 =>
    obtain ⟨l, rfl, ho⟩ := rows_of selE memS ess fun e he => selL_of (h e he) (h2 e he)
    exact ⟨l, rfl, by rw [← maxLen_big]; simpa using hl, fun i hi => ho _ (getD_mem hi)⟩
theorem w3_of {xs : List V} (hl : xs.length = 3) (h : ∀ i c, w3C[i]? = some c → CellOK c (xs.getD i .any)) : ∃ w : W3, xs = w.enc := by
  have a0 := h 0 _ rfl
  have a1 := h 1 _ rfl
  have a2 := h 2 _ rfl
  match xs, hl with
  | [a, b, c], _ =>
    simp only [List.getD_cons_zero, List.getD_cons_succ] at a0 a1 a2
    cases a0; cases a1; cases a2
    exact ⟨⟨_, _, _⟩, rfl⟩
/-- An argument that is an array of three numbers. -/
theorem got_arr3 {P : Program} {w : World} {H : Type} {enc : TypeId × Value → H} {base : Nat} {spare : Nat → Bool} {held : Bool} {r : Reach} {b0 : Nat} {t e : TypeId} {v : Value} {d : DataW H} {ps : List MemPlace} (he : P.underlying e = some (.int .i64)) (hce : P.cellsOf e = 1) (hct : P.cellsOf t = 3)
    (hs : P.underlying t = some (.array 3 e)) (hval : Value.okWide P w r b0 t v) (hd : DataW.Trod enc P w base spare held t v d ps) :
    ∃ xs : List V, xs.length = 3 ∧ (∀ i c, w3C[i]? = some c → CellOK c (xs.getD i .any)) ∧ PRep (fun b => b < w.heap.size) w v (.agg xs) := by
  obtain ⟨m, hm⟩ := hd
  have hv : ∃ vs, v = .agg vs ∧ vs.size = 3 := by
    simp only [Value.okWide, hs] at hval
    obtain ⟨cs, h1, h2, _⟩ := hval
    exact ⟨cs, h1, by rw [h2, hct]⟩
  obtain ⟨vs, rfl, hsz⟩ := hv
  obtain ⟨l⟩ := vs
  match l, hsz with
  | [c0, c1, c2], _ =>
    obtain ⟨y0, y1, y2, n, _, h0, h1, h2⟩ := ChangeShapes.trod_array3 hs hce hm
    obtain ⟨z0, rfl, _, w0⟩ := by simpa using DataW.trod_int he h0
    obtain ⟨z1, rfl, _, w1⟩ := by simpa using DataW.trod_int he h1
    obtain ⟨z2, rfl, _, w2⟩ := by simpa using DataW.trod_int he h2
    refine ⟨[vi z0, vi z1, vi z2], rfl, fun i c hc => ?_, .agg _ _ rfl (fun i hi => ?_) (fun i hi => ?_)⟩
    · match i, hc with
      | 0, hc => cases hc; exact .int _ _ w0
      | 1, hc => cases hc; exact .int _ _ w1
      | 2, hc => cases hc; exact .int _ _ w2
    · match i, hi with
      | 0, _ => rfl
      | 1, _ => rfl
      | 2, _ => rfl
    · match i, hi with
      | 0, _ => exact .c _
      | 1, _ => exact .c _
      | 2, _ => exact .c _
def sumAwake10 : Sum Try.prog := ⟨11, fun args => args = [], fun args => vb true, fun args h => by
  have := awake_ok; rwa [← h] at this, true⟩
theorem sumAwake10_f : sumAwake10.f = 11 := rfl
theorem sumAwake10_D (args : List V) : sumAwake10.D args = (args = []) := rfl
theorem sumAwake10_flat : sumAwake10.flat = true := rfl
theorem sumAwake10_r (args : List V) : sumAwake10.r args = vb true := rfl
theorem w3_ext {x y : W3} (h1 : x.a = y.a) (h2 : x.b = y.b) (h3 : x.c = y.c) : x = y := by
  cases x; cases y; simp_all
theorem matchAbove_law (x : List V) (hl : x.length = 3) (h : ∀ i c, w3C[i]? = some c → CellOK c (x.getD i .any)) (y : List V) (hl2 : y.length = 3) (h2 : ∀ i c, w3C[i]? = some c → CellOK c (y.getD i .any)) (z : List V) (hl3 : z.length = 3) (h3 : ∀ i c, w3C[i]? = some c → CellOK c (z.getD i .any)) :
    PCall Try.prog 5 [.agg x, .agg y, .agg z] (.c (.bool true)) := by
  obtain ⟨a, rfl⟩ := w3_of hl h
  obtain ⟨b, rfl⟩ := w3_of hl2 h2
  obtain ⟨c, rfl⟩ := w3_of hl3 h3
  refine PCall.of (Orc.cons sumAwake10 (Orc.cons sumAbv (Orc.cons sumAbvR (Orc.nil _)))) c5_ok (by simp [c5]) fun w0 own0 => ?_
  have ab := abv_iff a b
  have ba := abv_iff b a
  have bc := abv_iff b c
  have ac := abv_iff a c
  cases h1 : abv a b <;> cases h2 : abv b a <;> cases h3 : abv b c <;> cases h4 : abv a c <;> rw [h1] at ab <;> rw [h2] at ba <;> rw [h3] at bc <;> rw [h4] at ac <;>
    simp only [Bool.false_eq_true, false_iff, true_iff] at ab ba bc ac <;> first | (exfalso; omega) |
    (simp only [c5, W3.enc, dW3_mk, W3.eta, h1, h2, h3, h4, wpC_seq_areg, wpC_areg, wpFR_nil, wpFR_cons, fluP, fluV, evF, V.allK, V.isK, O.still, okP_none, vP_none, on_gcall, off_gcall, flat_gcall, sumAwake10_f, sumAwake10_D, sumAwake10_flat, sumAwake10_r, sumAbv_f, sumAbv_D, sumAbv_flat, sumAbv_r, sumAbvR_f, sumAbvR_D, sumAbvR_flat, sumAbvR_r, go_sem, reduceCtorEq, reduceIte, Nat.reduceEqDiff, Nat.reduceAdd, Nat.reduceSub, Nat.reduceMul, Nat.reduceLT, Nat.reduceLeDiff, Nat.reduceBEq, Int.reduceEq, Int.reduceLT, Int.reduceLE, Int.reduceAdd, Int.reduceSub, Int.reduceNeg, Int.reduceToNat]
     exact ⟨rfl, by omega⟩)
end Go.Proofs.Ytcjephhkgccmgaa
