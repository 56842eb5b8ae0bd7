/- Layer 17: tokens without Space. -/
import Derived.Test.YtilinnmancfjgaaGreatDoorCd
import Derived.Test.YtilinnmancfjgaaGreatDoorGc
import Derived.Test.YtilinnmancfjgaaGreatDoorV7b
namespace Go.Proofs.YtilinnmancfjgaaGreatDoor
open Go.Sx
set_option linter.unusedSimpArgs false
set_option linter.unusedVariables false
set_option maxHeartbeats 8000000
set_option maxRecDepth 100000

theorem getD_tokC (l : List Tok) (j : Nat) : (l.map Tok.enc).getD j [vi 0, vs ⟨#[]⟩, vi 0] = (l.getD j .zero).enc := by
  have : [vi 0, vs ⟨#[]⟩, vi 0] = Tok.zero.enc := rfl
  rw [this]
  simp only [List.getD_eq_getElem?_getD, List.getElem?_map]
  cases l[j]? <;> rfl
def spB (t : Tok) : Bool := decide (t.kind = 1)
def kpT (l : List Tok) : List Tok := l.filter fun t => decide (t.kind ≠ 1)
theorem br1_ok (t : Tok) : PCall Tryz.prog 31 [.agg t.enc] (vb (spB t)) := by
  refine PCall.of (Orc.nil _) c31_ok (by simp [c31]) fun w0 own0 => ?_
  simp only [c31, Tok.enc, spB, go_sem, wpR_gcall, reduceCtorEq, reduceIte, Nat.reduceEqDiff, Nat.reduceAdd, Nat.reduceSub, Nat.reduceMul, Nat.reduceLT, Nat.reduceLeDiff, Nat.reduceBEq, Int.reduceEq, Int.reduceLT, Int.reduceLE, Int.reduceAdd, Int.reduceSub, Int.reduceNeg, Int.reduceToNat]
theorem dTok_eta8 (t : Tok) : (⟨t.kind, t.text, t.n⟩ : Tok) = t := rfl
def sumBr1 : Sum Tryz.prog := ⟨31, fun args => args = [.agg (Tok.enc (dTok (args.getD 0 .any)))], fun args => vb (spB (dTok (args.getD 0 .any))), fun args h => by
  have := br1_ok (dTok (args.getD 0 .any)); rwa [← h] at this, true⟩
theorem sumBr1_f : sumBr1.f = 31 := rfl
theorem sumBr1_D (args : List V) : sumBr1.D args = (args = [.agg (Tok.enc (dTok (args.getD 0 .any)))]) := rfl
theorem sumBr1_flat : sumBr1.flat = true := rfl
theorem sumBr1_r (args : List V) : sumBr1.r args = vb (spB (dTok (args.getD 0 .any))) := rfl
attribute [go_sem] sumBr1_f sumBr1_D sumBr1_flat sumBr1_r
def ixT (l : List Tok) : Nat → Nat → Int
  | 0, _ => -1
  | f + 1, j => if spB (l.getD j .zero) = true then (j : Int) else ixT l f (j + 1)
theorem kpT_take (l : List Tok) (j : Nat) (hj : j < l.length) : kpT (l.take (j + 1)) = if spB (l.getD j .zero) = true then kpT (l.take j) else kpT (l.take j) ++ [l.getD j .zero] := by
  have ht : l.take (j + 1) = l.take j ++ [l.getD j .zero] := by
    rw [List.take_add_one, List.getD_eq_getElem?_getD, List.getElem?_eq_getElem hj]; rfl
  rw [ht]
  unfold kpT spB
  rw [List.filter_append]
  by_cases h : (l.getD j .zero).kind = 1
  · rw [if_pos (by simpa using h), List.filter_cons_of_neg (by simpa using h)]; simp
  · rw [if_neg (by simpa using h), List.filter_cons_of_pos (by simpa using h)]; rfl
theorem ixT_spec (l : List Tok) : ∀ (f j : Nat), j + f = l.length → kpT (l.take j) = l.take j →
    (ixT l f j = -1 ∧ kpT l = l) ∨ ∃ i : Nat, ixT l f j = i ∧ i < l.length ∧ spB (l.getD i .zero) = true ∧ kpT (l.take i) = l.take i
  | 0, j, hf, hk => by
    have : j = l.length := by omega
    subst this
    rw [List.take_length] at hk
    exact .inl ⟨rfl, hk⟩
  | f + 1, j, hf, hk => by
    simp only [ixT]
    have hkt := kpT_take l j (by omega)
    by_cases h : spB (l.getD j .zero) = true
    · rw [if_pos h]; exact .inr ⟨j, rfl, by omega, h, hk⟩
    · rw [if_neg h]
      rw [if_neg h, hk] at hkt
      refine ixT_spec l f (j + 1) (by omega) ?_
      rw [hkt, List.take_add_one, List.getD_eq_getElem?_getD, List.getElem?_eq_getElem (by omega)]; rfl
def ixT0 (l : List Tok) : Int := ixT l l.length 0
theorem ixT_ok (l : List Tok) (hl : l.length ≤ 1000000) : PCall Tryz.prog 53 [toks l, .fn 31 []] (vi (ixT0 l)) := by
  refine PCall.of (Orc.cons sumBr1 (Orc.nil _)) c53_ok (by simp [c53]) fun w0 own0 => ?_
  unfold ixT0
  generalize hR : ixT l l.length 0 = R
  simp only [c53, toks, go_sem, wpR_gcall, reduceCtorEq, reduceIte, Nat.reduceEqDiff, Nat.reduceAdd, Nat.reduceSub, Nat.reduceMul, Nat.reduceLT, Nat.reduceLeDiff, Nat.reduceBEq, Int.reduceEq, Int.reduceLT, Int.reduceLE, Int.reduceAdd, Int.reduceSub, Int.reduceNeg, Int.reduceToNat]
  refine SemC.lp (α := Nat × Nat) (fun j => [(0, .slc 3 (l.map Tok.enc)), (1, .fn 31 []), (7, vi l.length), (8, vi j.1)]) (fun j => ⟨[], j.2⟩)
    (fun j => j.1 ≤ l.length ∧ ixT l (l.length - j.1) j.1 = R) (fun j => l.length - j.1) (0, 0) ⟨Nat.zero_le _, hR⟩ (St.cut ?_ ?_ ?_) fun j hj => ?_
  · simp [Agrees, upd_at, initE_at]
  · simp
  · rfl
  obtain ⟨j, clk⟩ := j
  obtain ⟨h1, h2⟩ := hj
  simp only at h1 h2
  by_cases hkl : j = l.length
  · subst hkl
    rw [Nat.sub_self] at h2
    simp only [ixT] at h2
    simp only [Int.lt_irrefl, ← h2, go_sem, wpR_gcall, reduceCtorEq, reduceIte, Nat.reduceEqDiff, Nat.reduceAdd, Nat.reduceSub, Nat.reduceMul, Nat.reduceLT, Nat.reduceLeDiff, Nat.reduceBEq, Int.reduceEq, Int.reduceLT, Int.reduceLE, Int.reduceAdd, Int.reduceSub, Int.reduceNeg, Int.reduceToNat]
  · have e1 : (j : Int) < (l.length : Int) := by omega
    have e0 : (0 : Int) ≤ (j : Int) := by omega
    obtain ⟨f, hf⟩ : ∃ f, l.length - j = f + 1 := ⟨l.length - j - 1, by omega⟩
    rw [hf] at h2
    simp only [ixT] at h2
    have hg := getD_tokC l j
    generalize l.getD j .zero = c at *
    cases hs : spB c with
    | true =>
      rw [hs] at h2
      simp only [e0, e1, hg, hs, Tok.enc, dTok_mk, dTok_eta8, go_sem, wpR_gcall, reduceCtorEq, reduceIte, Nat.reduceEqDiff, Nat.reduceAdd, Nat.reduceSub, Nat.reduceMul, Nat.reduceLT, Nat.reduceLeDiff, Nat.reduceBEq, Int.reduceEq, Int.reduceLT, Int.reduceLE, Int.reduceAdd, Int.reduceSub, Int.reduceNeg, Int.reduceToNat]
      simpa using h2
    | false =>
      rw [hs] at h2
      simp only [e0, e1, hg, hs, Tok.enc, dTok_mk, dTok_eta8, go_sem, wpR_gcall, reduceCtorEq, reduceIte, Nat.reduceEqDiff, Nat.reduceAdd, Nat.reduceSub, Nat.reduceMul, Nat.reduceLT, Nat.reduceLeDiff, Nat.reduceBEq, Int.reduceEq, Int.reduceLT, Int.reduceLE, Int.reduceAdd, Int.reduceSub, Int.reduceNeg, Int.reduceToNat]
      exact ⟨by omega, (j + 1, _), ⟨by dsimp only; omega, by dsimp only; rw [show l.length - (j + 1) = f by omega]; simpa using h2⟩, by dsimp only; omega, by dsimp only; omega, rfl⟩
def sumIxT : Sum Tryz.prog := ⟨53, fun args => args = [toks (dToks (args.getD 0 .any)), .fn 31 []] ∧ ((dToks (args.getD 0 .any))).length ≤ 1000000, fun args => vi (ixT0 (dToks (args.getD 0 .any))), fun args h => by
  have := ixT_ok (dToks (args.getD 0 .any)) h.2; rwa [← h.1] at this, true⟩
theorem sumIxT_f : sumIxT.f = 53 := rfl
theorem sumIxT_D (args : List V) : sumIxT.D args = (args = [toks (dToks (args.getD 0 .any)), .fn 31 []] ∧ ((dToks (args.getD 0 .any))).length ≤ 1000000) := rfl
theorem sumIxT_flat : sumIxT.flat = true := rfl
theorem sumIxT_r (args : List V) : sumIxT.r args = vi (ixT0 (dToks (args.getD 0 .any))) := rfl
attribute [go_sem] sumIxT_f sumIxT_D sumIxT_flat sumIxT_r
def hT8 (l : List Tok) (ver clk : Nat) : Heap := ⟨[⟨ver, 3, l.map Tok.enc, false, [vi 0, vs ⟨#[]⟩, vi 0]⟩], clk⟩
def ckT (l : List Tok) : Nat := if ixT0 l = -1 then 0 else l.length - ((ixT0 l).toNat + 1)
structure DeT where
  es : List Tok
  i : Nat
  j : Nat
theorem take_tokC (l : List Tok) (j : Nat) (hj : j < l.length) : l.take (j + 1) = l.take j ++ [l.getD j .zero] := by
  rw [List.take_add_one, List.getD_eq_getElem?_getD, List.getElem?_eq_getElem hj]; rfl
theorem kpT_len (l : List Tok) : (kpT l).length ≤ l.length := List.length_filter_le _ _
theorem delT_call (l : List Tok) (ver clk : Nat) (hl : l.length ≤ 1000000) :
    CallOK Tryz.prog 29 [.ref 0 ver 0 l.length, .fn 31 []] (hT8 l ver clk) (.ref 0 ver 0 (kpT l).length) (hT8 (kpT l) ver (clk + ckT l)) := by
  refine CallOK.walk (Orc.cons sumIxT (Orc.cons sumBr1 (Orc.nil _))) c29_ok (by simp [c29]) fun w0 own0 => ?_
  have hsp := ixT_spec l l.length 0 (by omega) rfl
  have hV : ixT0 l = ixT l l.length 0 := rfl
  rw [← hV] at hsp
  rcases hsp with ⟨h, e⟩ | ⟨i0, hi, hil, hri, hk⟩
  · have hck : ckT l = 0 := by unfold ckT; rw [if_pos h]
    rw [e, hck]
    simp only [c29, hT8, h, hl, toks, dToks_map, List.length_map, List.take_length, Nat.le_refl, mapO_toks11, go_sem, wpR_gcall, reduceCtorEq, reduceIte, Nat.reduceEqDiff, Nat.reduceAdd, Nat.reduceSub, Nat.reduceMul, Nat.reduceLT, Nat.reduceLeDiff, Nat.reduceBEq, Int.reduceEq, Int.reduceLT, Int.reduceLE, Int.reduceAdd, Int.reduceSub, Int.reduceNeg, Int.reduceToNat]
    rw [Nat.add_zero]
  have hck : ckT l = l.length - (i0 + 1) := by unfold ckT; rw [if_neg (by omega), hi, Int.toNat_natCast]
  rw [hck]
  have hne := eq_false (show ¬ (i0 : Int) = -1 by omega)
  simp only [c29, hT8, hi, hne, hl, toks, dToks_map, List.length_map, List.take_length, Nat.le_refl, mapO_toks11, go_sem, wpR_gcall, reduceCtorEq, reduceIte, Nat.reduceEqDiff, Nat.reduceAdd, Nat.reduceSub, Nat.reduceMul, Nat.reduceLT, Nat.reduceLeDiff, Nat.reduceBEq, Int.reduceEq, Int.reduceLT, Int.reduceLE, Int.reduceAdd, Int.reduceSub, Int.reduceNeg, Int.reduceToNat]
  refine ⟨by omega, ?_⟩
  refine SemC.lp (α := DeT) (fun a => [(0, .ref 0 ver 0 l.length), (1, .fn 31 []), (5, vi a.i), (6, vi a.j)])
    (fun a => hT8 a.es ver (clk + (a.j - (i0 + 1))))
    (fun a => i0 < a.j ∧ a.i < a.j ∧ a.j ≤ l.length ∧ a.es.length = l.length ∧ a.i = (kpT (l.take a.j)).length ∧ a.es.take a.i = kpT (l.take a.j) ∧ a.es.drop a.j = l.drop a.j) (fun a => l.length - a.j) ⟨l, i0, i0 + 1⟩ ?_
    (St.cut ?_ ?_ ?_) fun a ha => ?_
  · refine ⟨by dsimp only; omega, by dsimp only; omega, by dsimp only; omega, rfl, ?_, ?_, rfl⟩
    · rw [kpT_take l i0 hil, if_pos hri, hk]; simp; omega
    · rw [kpT_take l i0 hil, if_pos hri, hk]
  · simp [Agrees, upd_at, initE_at]
  · simp [hT8]
  · simp [hT8]
  obtain ⟨es, i, j⟩ := a
  simp only at ha
  obtain ⟨h0, h1, h2, h3, h4, h5, h6⟩ := ha
  by_cases hj : j = l.length
  · subst hj
    rw [List.take_length] at h4 h5
    simp only [hT8, Int.lt_irrefl, h3, h5, go_sem, wpR_gcall, reduceCtorEq, reduceIte, Nat.reduceEqDiff, Nat.reduceAdd, Nat.reduceSub, Nat.reduceMul, Nat.reduceLT, Nat.reduceLeDiff, Nat.reduceBEq, Int.reduceEq, Int.reduceLT, Int.reduceLE, Int.reduceAdd, Int.reduceSub, Int.reduceNeg, Int.reduceToNat]
    exact ⟨⟨by omega, by omega, by omega⟩, ⟨by omega, by omega⟩, ⟨by omega, by omega⟩, by omega⟩
  · have e1 : (j : Int) < (l.length : Int) := by omega
    have e0 : (0 : Int) ≤ (j : Int) := by omega
    have e0i : (0 : Int) ≤ (i : Int) := by omega
    have e2 : es.getD j .zero = l.getD j .zero := by
      rw [List.getD_eq_getElem?_getD, List.getD_eq_getElem?_getD]
      have : es[j]? = l[j]? := by
        have := congrArg (fun l => l[0]?) h6
        simpa using this
      rw [this]
    have hkt := kpT_take l j (by omega)
    have hg := getD_tokC es j
    have h7 : es.drop (j + 1) = l.drop (j + 1) := by
      have := congrArg (fun l => l.drop 1) h6
      simpa [List.drop_drop] using this
    rw [e2] at hg
    generalize l.getD j .zero = c at *
    cases hs : spB c with
    | false =>
      rw [hs] at hkt
      simp only [hT8, Tok.enc, dTok_mk, dTok_eta8, e0, e0i, e1, hg, hs, h3, mapO_toks11, go_sem, wpR_gcall, reduceCtorEq, reduceIte, Nat.reduceEqDiff, Nat.reduceAdd, Nat.reduceSub, Nat.reduceMul, Nat.reduceLT, Nat.reduceLeDiff, Nat.reduceBEq, Int.reduceEq, Int.reduceLT, Int.reduceLE, Int.reduceAdd, Int.reduceSub, Int.reduceNeg, Int.reduceToNat]
      refine ⟨by omega, by omega, by omega, by omega, by omega, ⟨es.set i c, i + 1, j + 1⟩, ⟨by dsimp only; omega, by dsimp only; omega, by dsimp only; omega, by simp [h3], ?_, ?_, ?_⟩, by dsimp only; omega, ⟨by dsimp only; omega, by dsimp only; omega⟩, ?_, by dsimp only; omega⟩
      · dsimp only; rw [hkt, if_neg (by simp), List.length_append, ← h4]; rfl
      · dsimp only
        rw [hkt, if_neg (by simp), take_tokC _ i (by simp; omega), List.take_set_of_le (by omega), h5]
        congr 2
        rw [List.getD_eq_getElem?_getD, List.getElem?_set_self (by omega)]; rfl
      · dsimp only; rw [List.drop_set_of_lt (by omega), h7]
      · dsimp only; rw [List.map_set]; rfl
    | true =>
      rw [hs] at hkt
      simp only [hT8, Tok.enc, dTok_mk, dTok_eta8, e0, e0i, e1, hg, hs, h3, mapO_toks11, go_sem, wpR_gcall, reduceCtorEq, reduceIte, Nat.reduceEqDiff, Nat.reduceAdd, Nat.reduceSub, Nat.reduceMul, Nat.reduceLT, Nat.reduceLeDiff, Nat.reduceBEq, Int.reduceEq, Int.reduceLT, Int.reduceLE, Int.reduceAdd, Int.reduceSub, Int.reduceNeg, Int.reduceToNat]
      exact ⟨by omega, by omega, ⟨es, i, j + 1⟩, ⟨by dsimp only; omega, by dsimp only; omega, by dsimp only; omega, h3, by dsimp only; rw [hkt, if_pos rfl]; exact h4, by dsimp only; rw [hkt, if_pos rfl]; exact h5, h7⟩, by dsimp only; omega, ⟨rfl, by dsimp only; omega⟩, rfl, by dsimp only; omega⟩
theorem allC_toks (l : List Tok) : (l.map Tok.enc).all (fun e => e.all V.isC) = true := by
  rw [List.all_eq_true]; intro e he; obtain ⟨n, _, rfl⟩ := List.mem_map.1 he; rfl
theorem cloneT_ok (l : List Tok) (h0 : l ≠ []) (hl : l.length ≤ 1000000) : FCall Tryz.prog 30 [toks l] 3 [vi 0, vs ⟨#[]⟩, vi 0] (l.map Tok.enc) := by
  cases l with
  | nil => exact absurd rfl h0
  | cons c l =>
    refine FCall.of (Orc.nil _) c30_ok [vi 0, vs ⟨#[]⟩, vi 0] (by simp [c30]) fun w0 own0 => ?_
    have h1 := eq_true (show (c :: l).length ≤ 1099511627776 by omega)
    have h2 := eq_true (show (c :: l).length * 32 ≤ 140737488355328 by omega)
    have hm := fun S h => mapO_toks11 S h (c :: l)
    simp only [List.length_cons] at h1 h2
    simp only [List.map_cons] at hm
    simp -implicitDefEqProofs only [c30, toks, Heap.nilV, h1, h2, hm, List.map_cons, List.length_cons, List.length_map, Nat.le_refl, List.take_length, wpC_seq_xreg, wpC_xreg, wpXR_nil, wpXR_own, wpXR_flu, xeOK, xe, argTops, openArgs, Orc.ppre_cons, Orc.pr_cons, Orc.ppre_econs, Orc.pr_econs, Orc.ppre_fcons, Orc.pr_fcons, Orc.ppre_gcons, Orc.pr_gcons, List.head?_cons, List.headD_cons, XE.val, XE.heap, efO, shutArgs, xfoot, footO, V.tops, V.top1, clashOne, noClash, Orc.flat_fcons, Orc.pre_fcons, Orc.v_fcons, Orc.hp_fcons, Orc.qpre_fcons, Orc.qv_fcons, Orc.fpre_fcons, Orc.fes_fcons, Orc.flat_gcons, Orc.pre_gcons, Orc.v_gcons, Orc.hp_gcons, Orc.qpre_gcons, Orc.qv_gcons, Orc.fpre_gcons, Orc.fes_gcons, GSum.pre, GSum.v, GSum.hp, Orc.fpre_cons, Orc.fes_cons, Orc.fpre_econs, Orc.fes_econs, FSum.pre, FSum.v, FSum.hp, fres, O.calls, List.flatMap_cons, List.flatMap_nil, List.contains_cons, List.contains_nil, Bool.not_true, Bool.not_false, Heap.freeze, List.mapIdx_cons, List.mapIdx_nil, List.elem_cons, List.elem_nil, fluP, fluV, evF, bne_iff_ne, ne_eq, Option.some.injEq, go_sem, wpR_gcall, reduceCtorEq, reduceIte, Nat.reduceEqDiff, Nat.reduceAdd, Nat.reduceSub, Nat.reduceMul, Nat.reduceLT, Nat.reduceLeDiff, Nat.reduceBEq, Int.reduceEq, Int.reduceLT, Int.reduceLE, Int.reduceAdd, Int.reduceSub, Int.reduceNeg, Int.reduceToNat]
def sumCloT : GSum Tryz.prog := ⟨30, fun args => args = [toks (dToks (args.getD 0 .any))] ∧ dToks (args.getD 0 .any) ≠ [] ∧ (dToks (args.getD 0 .any)).length ≤ 1000000, 3, [vi 0, vs ⟨#[]⟩, vi 0],
  fun args => (dToks (args.getD 0 .any)).map Tok.enc, fun args h => (by
    have := cloneT_ok (dToks (args.getD 0 .any)) h.2.1 h.2.2
    rwa [← h.1] at this), fun args => allC_toks _⟩
theorem sumCloT_f : sumCloT.f = 30 := rfl
theorem sumCloT_D (args : List V) : sumCloT.D args = (args = [toks (dToks (args.getD 0 .any))] ∧ dToks (args.getD 0 .any) ≠ [] ∧ (dToks (args.getD 0 .any)).length ≤ 1000000) := rfl
theorem sumCloT_sz : sumCloT.sz = 3 := rfl
theorem sumCloT_d : sumCloT.d = [vi 0, vs ⟨#[]⟩, vi 0] := rfl
theorem sumCloT_r (args : List V) : sumCloT.r args = (dToks (args.getD 0 .any)).map Tok.enc := rfl
attribute [go_sem] sumCloT_f sumCloT_D sumCloT_sz sumCloT_d sumCloT_r
def rsT (h : Heap) : List Tok := dToks (.slc 3 (h.blk 0).es)
def dtP (args : List V) (h : Heap) : Prop := ∃ (l : List Tok) (ver clk : Nat), args = [.ref 0 ver 0 l.length, .fn 31 []] ∧ h = hT8 l ver clk ∧ l.length ≤ 1000000
def dtV (h : Heap) : V := .ref 0 (h.blk 0).ver 0 (kpT (rsT h)).length
def dtH (h : Heap) : Heap := hT8 (kpT (rsT h)) (h.blk 0).ver (h.clk + ckT (rsT h))
theorem rsT_at (l : List Tok) (ver clk : Nat) : rsT (hT8 l ver clk) = l := by
  simp only [rsT, hT8, Heap.blk, List.getElem?_cons_zero, Option.getD_some, dToks_map]
theorem dtV_at (l : List Tok) (ver clk : Nat) : dtV (hT8 l ver clk) = .ref 0 ver 0 (kpT l).length := by unfold dtV; rw [rsT_at]; rfl
theorem dtH_at (l : List Tok) (ver clk : Nat) : dtH (hT8 l ver clk) = hT8 (kpT l) ver (clk + ckT l) := by unfold dtH; rw [rsT_at]; rfl
def sumDtE : ESum Tryz.prog := ⟨29, dtP, fun _ h => dtV h, fun _ h => dtH h, fun args h hp => by
  obtain ⟨l, ver, clk, rfl, rfl, h1⟩ := hp
  rw [dtV_at, dtH_at]; exact delT_call l ver clk h1⟩
theorem bareN_ok (l : List Tok) (h0 : l ≠ []) (hl : l.length ≤ 1000000) : PCall Tryz.prog 11 [toks l] (toks (kpT l)) := by
  refine PCall.of (Orc.gcons sumCloT (Orc.econs sumDtE (Orc.nil _))) c11_ok (by simp [c11]) fun w0 own0 => ?_
  have e1 : sumDtE.f = 29 := rfl
  have e2 : ∀ args h, sumDtE.pre args h = dtP args h := fun _ _ => rfl
  have e3 : ∀ args h, sumDtE.v args h = dtV h := fun _ _ => rfl
  have e4 : ∀ args h, sumDtE.hp args h = dtH h := fun _ _ => rfl
  have hP : dtP [.ref 0 0 0 l.length, .fn 31 []] (hT8 l 0 1) := ⟨l, 0, 1, rfl, rfl, hl⟩
  have hV := dtV_at l 0 1
  have hH := dtH_at l 0 1
  simp only [hT8] at hP hV hH
  have htl : ((kpT l).map Tok.enc).take (kpT l).length = (kpT l).map Tok.enc := List.take_of_length_le (by simp)
  simp -implicitDefEqProofs only [c11, toks, dToks_map, h0, hl, hP, hV, hH, htl, mapO_toks11, List.length_map, List.take_length, Nat.le_refl, Orc.flat_econs, Orc.pre_econs, Orc.v_econs, Orc.hp_econs, Orc.qpre_econs, Orc.qv_econs, e1, e2, e3, e4, GSum.pre, GSum.v, GSum.hp, Heap.alloc, List.nil_append, Nat.zero_add, on_gcall, off_gcall, flat_gcall, wpC_seq_xreg, wpC_xreg, wpXR_nil, wpXR_own, wpXR_flu, xeOK, xe, argTops, openArgs, Orc.ppre_cons, Orc.pr_cons, Orc.ppre_econs, Orc.pr_econs, Orc.ppre_fcons, Orc.pr_fcons, Orc.ppre_gcons, Orc.pr_gcons, List.head?_cons, List.headD_cons, XE.val, XE.heap, efO, shutArgs, xfoot, footO, V.tops, V.top1, clashOne, noClash, Orc.flat_fcons, Orc.pre_fcons, Orc.v_fcons, Orc.hp_fcons, Orc.qpre_fcons, Orc.qv_fcons, Orc.fpre_fcons, Orc.fes_fcons, Orc.flat_gcons, Orc.pre_gcons, Orc.v_gcons, Orc.hp_gcons, Orc.qpre_gcons, Orc.qv_gcons, Orc.fpre_gcons, Orc.fes_gcons, GSum.pre, GSum.v, GSum.hp, Orc.fpre_cons, Orc.fes_cons, Orc.fpre_econs, Orc.fes_econs, FSum.pre, FSum.v, FSum.hp, fres, O.calls, List.flatMap_cons, List.flatMap_nil, List.contains_cons, List.contains_nil, Bool.not_true, Bool.not_false, Heap.freeze, List.mapIdx_cons, List.mapIdx_nil, List.elem_cons, List.elem_nil, fluP, fluV, evF, bne_iff_ne, ne_eq, Option.some.injEq, go_sem, reduceCtorEq, reduceIte, Nat.reduceEqDiff, Nat.reduceAdd, Nat.reduceSub, Nat.reduceMul, Nat.reduceLT, Nat.reduceLeDiff, Nat.reduceBEq, Int.reduceEq, Int.reduceLT, Int.reduceLE, Int.reduceAdd, Int.reduceSub, Int.reduceNeg, Int.reduceToNat]
theorem ixNil_ok : PCall Tryz.prog 53 [vnil, .fn 31 []] (vi (-1)) := by
  refine PCall.of (Orc.nil _) c53_ok (by simp [c53]) fun w0 own0 => ?_
  simp only [c53, go_sem, wpR_gcall, reduceCtorEq, reduceIte, Nat.reduceEqDiff, Nat.reduceAdd, Nat.reduceSub, Nat.reduceMul, Nat.reduceLT, Nat.reduceLeDiff, Nat.reduceBEq, Int.reduceEq, Int.reduceLT, Int.reduceLE, Int.reduceAdd, Int.reduceSub, Int.reduceNeg, Int.reduceToNat]
  refine SemC.lp (α := Nat) (fun _ => [(7, vi 0), (8, vi 0)]) (fun _ => ⟨[], 0⟩) (fun _ => True) (fun j => j) 0 trivial (St.cut ?_ ?_ ?_) fun j hj => ?_
  · simp [Agrees, upd_at, initE_at]
  · simp
  · rfl
  simp only [Int.lt_irrefl, go_sem, wpR_gcall, reduceCtorEq, reduceIte, Nat.reduceEqDiff, Nat.reduceAdd, Nat.reduceSub, Nat.reduceMul, Nat.reduceLT, Nat.reduceLeDiff, Nat.reduceBEq, Int.reduceEq, Int.reduceLT, Int.reduceLE, Int.reduceAdd, Int.reduceSub, Int.reduceNeg, Int.reduceToNat]
def sumIxN : Sum Tryz.prog := ⟨53, fun args => args = [vnil, .fn 31 []], fun _ => vi (-1), fun args h => (by rw [h]; exact ixNil_ok), true⟩
theorem delNil_ok : PCall Tryz.prog 29 [vnil, .fn 31 []] vnil := by
  refine PCall.of (Orc.cons sumIxN (Orc.nil _)) c29_ok (by simp [c29]) fun w0 own0 => ?_
  have e1 : sumIxN.f = 53 := rfl
  have e2 : ∀ args, sumIxN.D args = (args = [vnil, .fn 31 []]) := fun _ => rfl
  have e3 : ∀ args, sumIxN.r args = vi (-1) := fun _ => rfl
  have e4 : sumIxN.flat = true := rfl
  simp only [c29, e1, e2, e3, e4, go_sem, wpR_gcall, reduceCtorEq, reduceIte, Nat.reduceEqDiff, Nat.reduceAdd, Nat.reduceSub, Nat.reduceMul, Nat.reduceLT, Nat.reduceLeDiff, Nat.reduceBEq, Int.reduceEq, Int.reduceLT, Int.reduceLE, Int.reduceAdd, Int.reduceSub, Int.reduceNeg, Int.reduceToNat]
def sumDelN : Sum Tryz.prog := ⟨29, fun args => args = [vnil, .fn 31 []], fun _ => vnil, fun args h => (by rw [h]; exact delNil_ok), true⟩
theorem cloNil_ok (cap : Nat) : PCall Tryz.prog 30 [.c (.slice none 0 cap)] vnil := by
  refine PCall.of (Orc.nil _) c30_ok (by simp [c30]) fun w0 own0 => ?_
  simp only [c30, Heap.nilV, Option.isNone_none, go_sem, wpR_gcall, reduceCtorEq, reduceIte, Nat.reduceEqDiff, Nat.reduceAdd, Nat.reduceSub, Nat.reduceMul, Nat.reduceLT, Nat.reduceLeDiff, Nat.reduceBEq, Int.reduceEq, Int.reduceLT, Int.reduceLE, Int.reduceAdd, Int.reduceSub, Int.reduceNeg, Int.reduceToNat]
def sumCloN : Sum Tryz.prog := ⟨30, fun args => ∃ cap, args = [.c (.slice none 0 cap)], fun _ => vnil, fun args h => (by obtain ⟨cap, rfl⟩ := h; exact cloNil_ok cap), true⟩
theorem cloSome_ok (a : Addr) (cap : Nat) : FCall Tryz.prog 30 [.c (.slice (some a) 0 cap)] 3 [vi 0, vs ⟨#[]⟩, vi 0] [] := by
  refine FCall.of (Orc.nil _) c30_ok [vi 0, vs ⟨#[]⟩, vi 0] (by simp [c30]) fun w0 own0 => ?_
  simp only [c30, Heap.nilV, Option.isNone_some, wpC_seq_xreg, wpC_xreg, wpXR_nil, wpXR_own, wpXR_flu, xeOK, xe, argTops, openArgs, Orc.ppre_cons, Orc.pr_cons, Orc.ppre_econs, Orc.pr_econs, Orc.ppre_fcons, Orc.pr_fcons, Orc.ppre_gcons, Orc.pr_gcons, List.head?_cons, List.headD_cons, XE.val, XE.heap, efO, shutArgs, xfoot, footO, V.tops, V.top1, clashOne, noClash, Orc.flat_fcons, Orc.pre_fcons, Orc.v_fcons, Orc.hp_fcons, Orc.qpre_fcons, Orc.qv_fcons, Orc.fpre_fcons, Orc.fes_fcons, Orc.flat_gcons, Orc.pre_gcons, Orc.v_gcons, Orc.hp_gcons, Orc.qpre_gcons, Orc.qv_gcons, Orc.fpre_gcons, Orc.fes_gcons, GSum.pre, GSum.v, GSum.hp, Orc.fpre_cons, Orc.fes_cons, Orc.fpre_econs, Orc.fes_econs, FSum.pre, FSum.v, FSum.hp, fres, O.calls, List.flatMap_cons, List.flatMap_nil, List.contains_cons, List.contains_nil, Bool.not_true, Bool.not_false, Heap.freeze, List.mapIdx_cons, List.mapIdx_nil, List.elem_cons, List.elem_nil, fluP, fluV, evF, bne_iff_ne, ne_eq, Option.some.injEq, go_sem, wpR_gcall, reduceCtorEq, reduceIte, Nat.reduceEqDiff, Nat.reduceAdd, Nat.reduceSub, Nat.reduceMul, Nat.reduceLT, Nat.reduceLeDiff, Nat.reduceBEq, Int.reduceEq, Int.reduceLT, Int.reduceLE, Int.reduceAdd, Int.reduceSub, Int.reduceNeg, Int.reduceToNat]
def sumCloS : GSum Tryz.prog := ⟨30, fun args => ∃ a cap, args = [.c (.slice (some a) 0 cap)], 3, [vi 0, vs ⟨#[]⟩, vi 0], fun _ => [], fun args h => (by obtain ⟨a, cap, rfl⟩ := h; exact cloSome_ok a cap), fun _ => rfl⟩
theorem bareE_c (a : Option Addr) (cap : Nat) : PCall Tryz.prog 11 [.c (.slice a 0 cap)] (.slc 3 []) := by
  cases a with
  | none =>
    refine PCall.rsub (r := vnil) ?_ fun F w v h => PRep.nilS 3 h
    refine PCall.of (Orc.cons sumCloN (Orc.cons sumDelN (Orc.nil _))) c11_ok (by simp [c11]) fun w0 own0 => ?_
    have a1 : sumCloN.f = 30 := rfl
    have a2 : ∀ cap, sumCloN.D [.c (.slice none 0 cap)] = True := fun cap => eq_true ⟨cap, rfl⟩
    have a3 : ∀ args, sumCloN.r args = vnil := fun _ => rfl
    have a4 : sumCloN.flat = true := rfl
    have e1 : sumDelN.f = 29 := rfl
    have e2 : ∀ args, sumDelN.D args = (args = [vnil, .fn 31 []]) := fun _ => rfl
    have e3 : ∀ args, sumDelN.r args = vnil := fun _ => rfl
    have e4 : sumDelN.flat = true := rfl
    simp only [c11, a1, a2, a3, a4, e1, e2, e3, e4, go_sem, wpR_gcall, reduceCtorEq, reduceIte, Nat.reduceEqDiff, Nat.reduceAdd, Nat.reduceSub, Nat.reduceMul, Nat.reduceLT, Nat.reduceLeDiff, Nat.reduceBEq, Int.reduceEq, Int.reduceLT, Int.reduceLE, Int.reduceAdd, Int.reduceSub, Int.reduceNeg, Int.reduceToNat]
  | some a =>
    refine PCall.of (Orc.gcons sumCloS (Orc.econs sumDtE (Orc.nil _))) c11_ok (by simp [c11]) fun w0 own0 => ?_
    have a1 : sumCloS.f = 30 := rfl
    have a2 : ∀ a cap, sumCloS.D [.c (.slice (some a) 0 cap)] = True := fun a cap => eq_true ⟨a, cap, rfl⟩
    have a3 : ∀ args, sumCloS.r args = [] := fun _ => rfl
    have a4 : sumCloS.sz = 3 := rfl
    have a5 : sumCloS.d = [vi 0, vs ⟨#[]⟩, vi 0] := rfl
    have e1 : sumDtE.f = 29 := rfl
    have e2 : ∀ args h, sumDtE.pre args h = dtP args h := fun _ _ => rfl
    have e3 : ∀ args h, sumDtE.v args h = dtV h := fun _ _ => rfl
    have e4 : ∀ args h, sumDtE.hp args h = dtH h := fun _ _ => rfl
    have hP : dtP [.ref 0 0 0 0, .fn 31 []] (hT8 [] 0 1) := ⟨[], 0, 1, rfl, rfl, Nat.zero_le _⟩
    have hV : dtV (hT8 [] 0 1) = .ref 0 0 0 0 := dtV_at [] 0 1
    have hH : dtH (hT8 [] 0 1) = hT8 [] 0 1 := dtH_at [] 0 1
    simp only [hT8, List.map_nil] at hP hV hH
    simp -implicitDefEqProofs only [c11, hP, hV, hH, a1, a2, a3, a4, a5, List.length_nil, Nat.le_refl, Orc.flat_econs, Orc.pre_econs, Orc.v_econs, Orc.hp_econs, Orc.qpre_econs, Orc.qv_econs, e1, e2, e3, e4, GSum.pre, GSum.v, GSum.hp, Heap.alloc, List.nil_append, Nat.zero_add, on_gcall, off_gcall, flat_gcall, wpC_seq_xreg, wpC_xreg, wpXR_nil, wpXR_own, wpXR_flu, xeOK, xe, argTops, openArgs, Orc.ppre_cons, Orc.pr_cons, Orc.ppre_econs, Orc.pr_econs, Orc.ppre_fcons, Orc.pr_fcons, Orc.ppre_gcons, Orc.pr_gcons, List.head?_cons, List.headD_cons, XE.val, XE.heap, efO, shutArgs, xfoot, footO, V.tops, V.top1, clashOne, noClash, Orc.flat_fcons, Orc.pre_fcons, Orc.v_fcons, Orc.hp_fcons, Orc.qpre_fcons, Orc.qv_fcons, Orc.fpre_fcons, Orc.fes_fcons, Orc.flat_gcons, Orc.pre_gcons, Orc.v_gcons, Orc.hp_gcons, Orc.qpre_gcons, Orc.qv_gcons, Orc.fpre_gcons, Orc.fes_gcons, GSum.pre, GSum.v, GSum.hp, Orc.fpre_cons, Orc.fes_cons, Orc.fpre_econs, Orc.fes_econs, FSum.pre, FSum.v, FSum.hp, fres, O.calls, List.flatMap_cons, List.flatMap_nil, List.contains_cons, List.contains_nil, Bool.not_true, Bool.not_false, Heap.freeze, List.mapIdx_cons, List.mapIdx_nil, List.elem_cons, List.elem_nil, fluP, fluV, evF, bne_iff_ne, ne_eq, Option.some.injEq, go_sem, reduceCtorEq, reduceIte, Nat.reduceEqDiff, Nat.reduceAdd, Nat.reduceSub, Nat.reduceMul, Nat.reduceLT, Nat.reduceLeDiff, Nat.reduceBEq, Int.reduceEq, Int.reduceLT, Int.reduceLE, Int.reduceAdd, Int.reduceSub, Int.reduceNeg, Int.reduceToNat]
theorem bare_ok (l : List Tok) (hl : l.length ≤ 1000000) : PCall Tryz.prog 11 [toks l] (toks (kpT l)) := by
  cases l with
  | nil =>
    refine ⟨(compF_ok c11_ok).1, fun F w cargs hF hs hp => ?_⟩
    have hv := hp 0 (by simp)
    simp only [List.getD_cons_zero, toks, List.map_nil] at hv
    generalize hcv : cargs.getD 0 undef = cv at hv
    cases hv with
    | slc a n cap sz es b' o' ys hn' hc hsz ha hy hry =>
    simp only [List.length_nil] at hn'
    subst hn'
    refine (bareE_c a cap).2 F w cargs hF hs fun i hi => ?_
    match i, hi with
    | 0, _ => rw [hcv]; exact .c _
    | i + 1, hi => exact absurd hi (by simp)
  | cons c l => exact bareN_ok (c :: l) (by simp) hl
def sumBare : Sum Tryz.prog := ⟨11, fun args => args = [toks (dToks (args.getD 0 .any))] ∧ ((dToks (args.getD 0 .any))).length ≤ 1000000, fun args => toks (kpT (dToks (args.getD 0 .any))), fun args h => by
  have := bare_ok (dToks (args.getD 0 .any)) h.2; rwa [← h.1] at this, false⟩
theorem sumBare_f : sumBare.f = 11 := rfl
theorem sumBare_D (args : List V) : sumBare.D args = (args = [toks (dToks (args.getD 0 .any))] ∧ ((dToks (args.getD 0 .any))).length ≤ 1000000) := rfl
theorem sumBare_flat : sumBare.flat = false := rfl
theorem sumBare_r (args : List V) : sumBare.r args = toks (kpT (dToks (args.getD 0 .any))) := rfl
attribute [go_sem] sumBare_f sumBare_D sumBare_flat sumBare_r
end Go.Proofs.YtilinnmancfjgaaGreatDoor
