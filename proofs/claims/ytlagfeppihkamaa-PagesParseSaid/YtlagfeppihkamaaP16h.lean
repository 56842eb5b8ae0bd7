/- Layer 16: the law of parsing. -/
import Derived.Test.YtlagfeppihkamaaP16g
import Derived.Test.YtlagfeppihkamaaP16c
namespace Go.Proofs.Ytlagfeppihkamaa
open Go.Sx
set_option linter.unusedSimpArgs false
set_option maxHeartbeats 8000000
set_option maxRecDepth 100000

abbrev tokC : List Cell := [.int .i64, .str, .int .i64]
theorem toks_of {x : V} (h : CellOK (.slc tokC) x) : ∃ l : List Tok, x = toks l := by
  cases h with
  | slc cs ess hl h h2 =>
    refine ⟨ess.map dTokL, ?_⟩
    unfold toks
    have e : (ess.map dTokL).map Tok.enc = ess := by
      rw [List.map_map]
      conv => rhs; rw [← List.map_id ess]
      apply List.map_congr_left
      intro es hes
      have hlen := h es hes
      have a0 := h2 es hes 0 _ rfl
      have a1 := h2 es hes 1 _ rfl
      have a2 := h2 es hes 2 _ rfl
      match es, hlen with
      | [a, b, c], _ =>
        simp only [List.getD_cons_zero, List.getD_cons_succ] at a0 a1 a2
        cases a0; cases a1; cases a2
        rfl
    rw [e]
    rfl
theorem few_ok16 {l : List Tok} (h : few l = true) : okT16 l := by
  unfold few at h
  rw [decide_eq_true_eq] at h
  refine ⟨by have := h.1; omega, fun t ht => ?_⟩
  obtain ⟨i, hi, rfl⟩ := List.mem_iff_getElem.1 ht
  have := h.2 i hi
  rw [List.getD_eq_getElem?_getD, List.getElem?_eq_getElem hi] at this
  have : l[i].text.size ≤ 100 := this
  omega
theorem prsL_len (l : List Tok) : ∀ (P : List (Int × Int)) (xs : List PSel), prsL l P = some xs → xs.length = P.length
  | [], xs, h => by simp [prsL] at h; subst h; rfl
  | p :: P, xs, h => by
    simp only [prsL] at h
    split at h
    · cases h
    · simp only [Option.map_eq_some_iff] at h
      obtain ⟨ys, hy, rfl⟩ := h
      simp [prsL_len l P ys hy]
theorem psO_len {l : List Tok} (h : okT16 l) : ((psO l).getD []).length ≤ 1000001 := by
  unfold psO
  split
  · simp
  · rename_i hd
    have hd : deep l = false := by simpa using hd
    split
    · simp
    · cases hx : prsL l (splL l) with
      | none => simp
      | some xs =>
        have h1 := prsL_len _ _ _ hx
        have h2 := (splL_rng hd).1
        have h3 := h.1
        simp only [Option.getD_some]; omega
def PSel.v (s : PSel) : Value := .agg #[.string s.name, .int .i64 s.first, .int .i64 s.blank, .int .i64 s.left, .int .i64 s.right]
theorem ps_prep {F : Nat → Prop} {w : World} {v : Value} {x : PSel} (h : PRep F w v (.agg x.enc)) : PRep F w v (.c x.v) := by
  cases h with
  | agg cs xs hl h1 h =>
    have e0 := h 0 (by simp [PSel.enc])
    have e1 := h 1 (by simp [PSel.enc])
    have e2 := h 2 (by simp [PSel.enc])
    have e3 := h 3 (by simp [PSel.enc])
    have e4 := h 4 (by simp [PSel.enc])
    simp only [PSel.enc, List.getD_cons_zero, List.getD_cons_succ] at e0 e1 e2 e3 e4
    obtain ⟨l⟩ := cs
    match l, hl with
    | [a, b, c, d, e], _ =>
      have e0 : PRep F w a (.c (.string x.name)) := e0
      have e1 : PRep F w b (.c (.int .i64 x.first)) := e1
      have e2 : PRep F w c (.c (.int .i64 x.blank)) := e2
      have e3 : PRep F w d (.c (.int .i64 x.left)) := e3
      have e4 : PRep F w e (.c (.int .i64 x.right)) := e4
      cases e0; cases e1; cases e2; cases e3; cases e4
      exact .c _
def sumGvC : Sum Try.prog := ⟨11, fun args => args = [.agg (PSel.enc (dPSel (args.getD 0 .any)))], fun args => .c (PSel.v (dPSel (args.getD 0 .any))), fun args h => by
  have := PCall.rsub (given16_ok (dPSel (args.getD 0 .any))) fun _ _ _ h => ps_prep h; rwa [← h] at this, true⟩
theorem sumGvC_f : sumGvC.f = 11 := rfl
theorem sumGvC_D (args : List V) : sumGvC.D args = (args = [.agg (PSel.enc (dPSel (args.getD 0 .any)))]) := rfl
theorem sumGvC_flat : sumGvC.flat = true := rfl
theorem sumGvC_r (args : List V) : sumGvC.r args = .c (PSel.v (dPSel (args.getD 0 .any))) := rfl
attribute [go_sem] sumGvC_f sumGvC_D sumGvC_flat sumGvC_r
theorem pagesParse_law (x : V) (h : CellOK (.slc tokC) x) : PCall Try.prog 3 [x] (.c (.bool true)) := by
  obtain ⟨l, rfl⟩ := toks_of h
  refine PCall.of (Orc.cons sumFew (Orc.cons sumAw16 (Orc.cons sumPar (Orc.cons sumParR (Orc.cons sumGvC (Orc.nil _)))))) c3_ok (by simp [c3]) fun w0 own0 => ?_
  have hb : c3.body = .seq c3.body.hd (.seq c3.body.tl.hd c3.body.tl.tl) := rfl
  cases hf : few l with
  | false =>
    rw [hb]
    generalize c3.body.tl.tl = rest
    simp only [c3, C.hd, C.tl, toks, dToks_map, hf, on_gcall, off_gcall, flat_gcall, sumFew_f, sumFew_D, sumFew_flat, sumFew_r, go_sem, reduceCtorEq, reduceIte, Nat.reduceEqDiff, Nat.reduceAdd, Nat.reduceSub, Nat.reduceMul, Nat.reduceLT, Nat.reduceLeDiff, Nat.reduceBEq, Int.reduceEq, Int.reduceLT, Int.reduceLE, Int.reduceAdd, Int.reduceSub, Int.reduceNeg, Int.reduceToNat]
  | true =>
    have hT := few_ok16 hf
    have hln := psO_len hT
    generalize hO : psO l = o at *
    generalize hX : o.getD [] = X at *
    simp only [c3, toks, dToks_map, hf, hT, hO, psV, hX, psels, on_gcall, off_gcall, flat_gcall, sumFew_f, sumFew_D, sumFew_flat, sumFew_r, go_sem, reduceCtorEq, reduceIte, Nat.reduceEqDiff, Nat.reduceAdd, Nat.reduceSub, Nat.reduceMul, Nat.reduceLT, Nat.reduceLeDiff, Nat.reduceBEq, Int.reduceEq, Int.reduceLT, Int.reduceLE, Int.reduceAdd, Int.reduceSub, Int.reduceNeg, Int.reduceToNat]
    refine SemC.lp (α := Nat) (fun k => [(3, .slc 5 (X.map PSel.enc)), (5, .slc 5 (X.map PSel.enc)), (33, vi X.length), (34, vi k)]) (fun _ => ⟨[], 0⟩)
      (fun k => k ≤ X.length) (fun k => X.length - k) 0 (Nat.zero_le _) (St.cut ?_ ?_ ?_) fun k hk => ?_
    · simp [Agrees, upd_at, initE_at]
    · simp
    · rfl
    by_cases hkl : k = X.length
    · subst hkl
      simp only [Int.lt_irrefl, on_gcall, off_gcall, flat_gcall, sumFew_f, sumFew_D, sumFew_flat, sumFew_r, go_sem, reduceCtorEq, reduceIte, Nat.reduceEqDiff, Nat.reduceAdd, Nat.reduceSub, Nat.reduceMul, Nat.reduceLT, Nat.reduceLeDiff, Nat.reduceBEq, Int.reduceEq, Int.reduceLT, Int.reduceLE, Int.reduceAdd, Int.reduceSub, Int.reduceNeg, Int.reduceToNat]
    · have e1 : (k : Int) < (X.length : Int) := by omega
      have e0 : (0 : Int) ≤ (k : Int) := by omega
      have hg := getD_psels X k
      generalize X.getD k default = s at *
      simp only [e0, e1, hg, PSel.enc, dPSel_mk, PSel.eta', PSel.v, List.toList_toArray, on_gcall, off_gcall, flat_gcall, sumFew_f, sumFew_D, sumFew_flat, sumFew_r, go_sem, reduceCtorEq, reduceIte, Nat.reduceEqDiff, Nat.reduceAdd, Nat.reduceSub, Nat.reduceMul, Nat.reduceLT, Nat.reduceLeDiff, Nat.reduceBEq, Int.reduceEq, Int.reduceLT, Int.reduceLE, Int.reduceAdd, Int.reduceSub, Int.reduceNeg, Int.reduceToNat]
      exact ⟨rfl, by omega, k + 1, by omega, by omega, by omega⟩
end Go.Proofs.Ytlagfeppihkamaa
