/- Layer 8: the document's simple selectors in tokens. -/
import Derived.Test.YtlcblcjpebabkaaC8p
namespace Go.Proofs.Ytlcblcjpebabkaa
open Go.Sx
set_option linter.unusedSimpArgs false
set_option linter.unusedVariables false
set_option maxHeartbeats 8000000
set_option maxRecDepth 100000

theorem kindR_ok (v : List Tok) (k : Nat) : PCall Try.prog 49 [toks v, vi k] (vi (knd v k)) := by
  refine PCall.of (Orc.nil _) c49_ok (by simp [c49]) fun w0 own0 => ?_
  by_cases h : k < v.length
  · have e2 : (k : Int) < (v.length : Int) := by omega
    have e0 : (0 : Int) ≤ (k : Int) := by omega
    have hg := getD_tokC v k
    simp only [c49, knd, toks, h, e0, e2, hg, Tok.enc, if_true, go_sem, wpR_gcall, reduceCtorEq, reduceIte, Nat.reduceEqDiff, Nat.reduceAdd, Nat.reduceSub, Nat.reduceMul, Nat.reduceLT, Nat.reduceLeDiff, Nat.reduceBEq, Int.reduceEq, Int.reduceLT, Int.reduceLE, Int.reduceAdd, Int.reduceSub, Int.reduceNeg, Int.reduceToNat]
  · have e2 := eq_false (show ¬ (k : Int) < (v.length : Int) by omega)
    simp only [c49, knd, toks, h, e2, Tok.enc, if_false, go_sem, wpR_gcall, reduceCtorEq, reduceIte, Nat.reduceEqDiff, Nat.reduceAdd, Nat.reduceSub, Nat.reduceMul, Nat.reduceLT, Nat.reduceLeDiff, Nat.reduceBEq, Int.reduceEq, Int.reduceLT, Int.reduceLE, Int.reduceAdd, Int.reduceSub, Int.reduceNeg, Int.reduceToNat]
theorem kindRI_ok (v : List Tok) (k : Int) (h : 0 ≤ k) : PCall Try.prog 49 [toks v, vi k] (vi (knd v k.toNat)) := by
  have := kindR_ok v k.toNat; rwa [Int.toNat_of_nonneg h] at this
def sumKndR : Sum Try.prog := ⟨49, fun args => args = [toks (dToks (args.getD 0 .any)), vi ((args.getD 1 .any).int)] ∧ 0 ≤ ((args.getD 1 .any).int), fun args => vi (knd (dToks (args.getD 0 .any)) (((args.getD 1 .any).int)).toNat), fun args h => by
  have := kindRI_ok (dToks (args.getD 0 .any)) ((args.getD 1 .any).int) h.2; rwa [← h.1] at this, true⟩
theorem sumKndR_f : sumKndR.f = 49 := rfl
theorem sumKndR_D (args : List V) : sumKndR.D args = (args = [toks (dToks (args.getD 0 .any)), vi ((args.getD 1 .any).int)] ∧ 0 ≤ ((args.getD 1 .any).int)) := rfl
theorem sumKndR_flat : sumKndR.flat = true := rfl
theorem sumKndR_r (args : List V) : sumKndR.r args = vi (knd (dToks (args.getD 0 .any)) (((args.getD 1 .any).int)).toNat) := rfl
attribute [go_sem] sumKndR_f sumKndR_D sumKndR_flat sumKndR_r
theorem delimR_ok (v : List Tok) (k : Nat) (w : ByteArray) : PCall Try.prog 50 [toks v, vi k, vs w] (vb (dlm v k w)) := by
  refine PCall.of (Orc.cons sumKndR (Orc.nil _)) c50_ok (by simp [c50]) fun w0 own0 => ?_
  have e0 : (0 : Int) ≤ (k : Int) := by omega
  by_cases h : knd v k = 11
  · obtain ⟨h1, h2⟩ := knd_lt h (by decide)
    have e2 : (k : Int) < (v.length : Int) := by omega
    have hg := getD_tokC v k
    have e : dlm v k w = decide ((v.getD k .zero).text = w) := by
      unfold dlm
      rw [decide_eq_decide]
      exact ⟨fun hh => hh.2.2, fun hh => ⟨h1, h2, hh⟩⟩
    have h := eq_true h
    simp only [c50, toks, dToks_map, e, e0, e2, hg, h, Tok.enc, Int.toNat_natCast, go_sem, wpR_gcall, reduceCtorEq, reduceIte, Nat.reduceEqDiff, Nat.reduceAdd, Nat.reduceSub, Nat.reduceMul, Nat.reduceLT, Nat.reduceLeDiff, Nat.reduceBEq, Int.reduceEq, Int.reduceLT, Int.reduceLE, Int.reduceAdd, Int.reduceSub, Int.reduceNeg, Int.reduceToNat]
  · have e : dlm v k w = false := decide_eq_false fun hh => h (by unfold knd; rw [if_pos hh.1]; exact hh.2.1)
    have h := eq_false h
    simp only [c50, toks, dToks_map, e, e0, h, Tok.enc, Int.toNat_natCast, go_sem, wpR_gcall, reduceCtorEq, reduceIte, Nat.reduceEqDiff, Nat.reduceAdd, Nat.reduceSub, Nat.reduceMul, Nat.reduceLT, Nat.reduceLeDiff, Nat.reduceBEq, Int.reduceEq, Int.reduceLT, Int.reduceLE, Int.reduceAdd, Int.reduceSub, Int.reduceNeg, Int.reduceToNat]
theorem delimRI_ok (v : List Tok) (k : Int) (w : ByteArray) (h : 0 ≤ k) : PCall Try.prog 50 [toks v, vi k, vs w] (vb (dlm v k.toNat w)) := by
  have := delimR_ok v k.toNat w; rwa [Int.toNat_of_nonneg h] at this
def sumDlmR : Sum Try.prog := ⟨50, fun args => args = [toks (dToks (args.getD 0 .any)), vi ((args.getD 1 .any).int), vs ((args.getD 2 .any).str)] ∧ 0 ≤ ((args.getD 1 .any).int), fun args => vb (dlm (dToks (args.getD 0 .any)) (((args.getD 1 .any).int)).toNat ((args.getD 2 .any).str)), fun args h => by
  have := delimRI_ok (dToks (args.getD 0 .any)) ((args.getD 1 .any).int) ((args.getD 2 .any).str) h.2; rwa [← h.1] at this, true⟩
theorem sumDlmR_f : sumDlmR.f = 50 := rfl
theorem sumDlmR_D (args : List V) : sumDlmR.D args = (args = [toks (dToks (args.getD 0 .any)), vi ((args.getD 1 .any).int), vs ((args.getD 2 .any).str)] ∧ 0 ≤ ((args.getD 1 .any).int)) := rfl
theorem sumDlmR_flat : sumDlmR.flat = true := rfl
theorem sumDlmR_r (args : List V) : sumDlmR.r args = vb (dlm (dToks (args.getD 0 .any)) (((args.getD 1 .any).int)).toNat ((args.getD 2 .any).str)) := rfl
attribute [go_sem] sumDlmR_f sumDlmR_D sumDlmR_flat sumDlmR_r
def zS : Smp := ⟨0, ⟨#[]⟩, ⟨#[]⟩⟩
def inF (v : List Tok) : Nat → Nat → List Tok → List Tok × Nat
  | 0, k, L => (L, k)
  | f + 1, k, L => if knd v k ≠ 0 ∧ ¬ (knd v k = 13 ∧ txt v k = ⟨#[93]⟩) ∧ L.length < 4 then inF v f (k + 1) (if knd v k = 1 then L else L ++ [v.getD k .zero]) else (L, k)
def smrK (v : List Tok) (k : Nat) (r : List Tok × Nat) : Smp × Nat :=
  if knd v r.2 = 13 then match attK r.1 with | some s => (s, r.2 + 1 - k) | none => (zS, 0) else (zS, 0)
def smrR (v : List Tok) (k : Nat) : Smp × Nat :=
  if dlm v k ⟨#[42]⟩ = true then (⟨1, ⟨#[]⟩, ⟨#[]⟩⟩, 1)
  else if knd v k = 2 then (⟨2, txt v k, ⟨#[]⟩⟩, 1)
  else if knd v k = 5 then (⟨3, txt v k, ⟨#[]⟩⟩, 1)
  else if dlm v k ⟨#[46]⟩ = true ∧ knd v (k + 1) = 2 then (⟨4, txt v (k + 1), ⟨#[]⟩⟩, 2)
  else if knd v k = 12 ∧ txt v k = ⟨#[91]⟩ then smrK v k (inF v v.length (k + 1) [])
  else (zS, 0)
def srvR (r : Smp × Nat) : V := .tup [.agg r.1.enc, vi r.2]
structure InS8 where
  k : Nat
  L : List Tok
  f : Nat
  ver : Nat
  clk : Nat
theorem simpleR_ok (v : List Tok) (hl : v.length ≤ 1000000) (k : Nat) (hk : k ≤ v.length) : PCall Try.prog 48 [toks v, vi k] (srvR (smrR v k)) := by
  refine PCall.of (Orc.cons sumKndR (Orc.cons sumDlmR (Orc.nil _))) c48_ok (by simp [c48]) fun w0 own0 => ?_
  have e0 : (0 : Int) ≤ (k : Int) := by omega
  have e0' : (0 : Int) ≤ (k : Int) + 1 := by omega
  have t1 : ((k : Int) + 1).toNat = k + 1 := by omega
  have o1 := eq_true (show (k : Int) + 1 ≤ 9223372036854775807 by omega)
  have o2 := eq_true (show -9223372036854775808 ≤ (k : Int) + 1 by omega)
  unfold smrR
  by_cases h1 : dlm v k ⟨#[42]⟩ = true
  · rw [if_pos h1]
    simp -implicitDefEqProofs only [c48, srvR, toks, dToks_map, e0, h1, Int.toNat_natCast, Smp.enc, res11_agg8, on_gcall, off_gcall, flat_gcall, go_sem, reduceCtorEq, reduceIte, Nat.reduceEqDiff, Nat.reduceAdd, Nat.reduceSub, Nat.reduceMul, Nat.reduceLT, Nat.reduceLeDiff, Nat.reduceBEq, Int.reduceEq, Int.reduceLT, Int.reduceLE, Int.reduceAdd, Int.reduceSub, Int.reduceNeg, Int.reduceToNat]
  have h1 : dlm v k ⟨#[42]⟩ = false := by simpa using h1
  rw [if_neg (by rw [h1]; simp)]
  by_cases h2 : knd v k = 2
  · rw [if_pos h2]
    have hkl := (knd_lt h2 (by decide)).1
    have e2 : (k : Int) < (v.length : Int) := by omega
    have hg := getD_tokC v k
    have h2 := eq_true h2
    simp -implicitDefEqProofs only [c48, srvR, toks, txt, dToks_map, e0, e2, h1, h2, hg, Int.toNat_natCast, Smp.enc, Tok.enc, res11_agg8, on_gcall, off_gcall, flat_gcall, go_sem, reduceCtorEq, reduceIte, Nat.reduceEqDiff, Nat.reduceAdd, Nat.reduceSub, Nat.reduceMul, Nat.reduceLT, Nat.reduceLeDiff, Nat.reduceBEq, Int.reduceEq, Int.reduceLT, Int.reduceLE, Int.reduceAdd, Int.reduceSub, Int.reduceNeg, Int.reduceToNat]
  rw [if_neg h2]
  by_cases h3 : knd v k = 5
  · rw [if_pos h3]
    have hkl := (knd_lt h3 (by decide)).1
    have e2 : (k : Int) < (v.length : Int) := by omega
    have hg := getD_tokC v k
    have h2 := eq_false h2; have h3 := eq_true h3
    simp -implicitDefEqProofs only [c48, srvR, toks, txt, dToks_map, e0, e2, h1, h2, h3, hg, Int.toNat_natCast, Smp.enc, Tok.enc, res11_agg8, on_gcall, off_gcall, flat_gcall, go_sem, reduceCtorEq, reduceIte, Nat.reduceEqDiff, Nat.reduceAdd, Nat.reduceSub, Nat.reduceMul, Nat.reduceLT, Nat.reduceLeDiff, Nat.reduceBEq, Int.reduceEq, Int.reduceLT, Int.reduceLE, Int.reduceAdd, Int.reduceSub, Int.reduceNeg, Int.reduceToNat]
  rw [if_neg h3]
  have h2' := eq_false h2; have h3' := eq_false h3
  by_cases h4 : dlm v k ⟨#[46]⟩ = true ∧ knd v (k + 1) = 2
  · rw [if_pos h4]
    obtain ⟨h4, h5⟩ := h4
    have hkl := (knd_lt h5 (by decide)).1
    have e2 : (k : Int) + 1 < (v.length : Int) := by omega
    have hg := getD_tokC v (k + 1)
    have h5 := eq_true h5
    simp -implicitDefEqProofs only [c48, srvR, toks, txt, dToks_map, e0, e0', e2, t1, o1, o2, h1, h2', h3', h4, h5, hg, Int.toNat_natCast, Smp.enc, Tok.enc, res11_agg8, on_gcall, off_gcall, flat_gcall, go_sem, reduceCtorEq, reduceIte, Nat.reduceEqDiff, Nat.reduceAdd, Nat.reduceSub, Nat.reduceMul, Nat.reduceLT, Nat.reduceLeDiff, Nat.reduceBEq, Int.reduceEq, Int.reduceLT, Int.reduceLE, Int.reduceAdd, Int.reduceSub, Int.reduceNeg, Int.reduceToNat]
  rw [if_neg h4]
  by_cases h12 : knd v k = 12 ∧ txt v k = ⟨#[91]⟩
  case neg =>
    rw [if_neg h12]
    by_cases hn : knd v k = 12
    · have ht : ¬ (v.getD k .zero).text = ⟨#[91]⟩ := fun hh => h12 ⟨hn, hh⟩
      obtain ⟨hkl, hk12⟩ := knd_lt hn (by decide)
      have h4 : dlm v k ⟨#[46]⟩ = false := dlm_kind (by omega)
      have e2 : (k : Int) < (v.length : Int) := by omega
      have hg := getD_tokC v k
      have hn := eq_true hn; have ht := eq_false ht
      simp -implicitDefEqProofs only [c48, e2, h4, hn, ht, hg, srvR, zS, toks, txt, dToks_map, e0, e0', t1, o1, o2, h1, h2', h3', Int.toNat_natCast, Smp.enc, Tok.enc, res11_agg8, on_gcall, off_gcall, flat_gcall, go_sem, reduceCtorEq, reduceIte, Nat.reduceEqDiff, Nat.reduceAdd, Nat.reduceSub, Nat.reduceMul, Nat.reduceLT, Nat.reduceLeDiff, Nat.reduceBEq, Int.reduceEq, Int.reduceLT, Int.reduceLE, Int.reduceAdd, Int.reduceSub, Int.reduceNeg, Int.reduceToNat]
    · have hn := eq_false hn
      cases h5 : dlm v k ⟨#[46]⟩ with
      | true =>
        have h6 := eq_false (fun hh => h4 ⟨h5, hh⟩)
        simp -implicitDefEqProofs only [c48, h5, h6, hn, srvR, zS, toks, txt, dToks_map, e0, e0', t1, o1, o2, h1, h2', h3', Int.toNat_natCast, Smp.enc, Tok.enc, res11_agg8, on_gcall, off_gcall, flat_gcall, go_sem, reduceCtorEq, reduceIte, Nat.reduceEqDiff, Nat.reduceAdd, Nat.reduceSub, Nat.reduceMul, Nat.reduceLT, Nat.reduceLeDiff, Nat.reduceBEq, Int.reduceEq, Int.reduceLT, Int.reduceLE, Int.reduceAdd, Int.reduceSub, Int.reduceNeg, Int.reduceToNat]
      | false =>
        simp -implicitDefEqProofs only [c48, h5, hn, srvR, zS, toks, txt, dToks_map, e0, e0', t1, o1, o2, h1, h2', h3', Int.toNat_natCast, Smp.enc, Tok.enc, res11_agg8, on_gcall, off_gcall, flat_gcall, go_sem, reduceCtorEq, reduceIte, Nat.reduceEqDiff, Nat.reduceAdd, Nat.reduceSub, Nat.reduceMul, Nat.reduceLT, Nat.reduceLeDiff, Nat.reduceBEq, Int.reduceEq, Int.reduceLT, Int.reduceLE, Int.reduceAdd, Int.reduceSub, Int.reduceNeg, Int.reduceToNat]
  rw [if_pos h12]
  obtain ⟨hn, ht⟩ := h12
  obtain ⟨hkl, hk12⟩ := knd_lt hn (by decide)
  have h4 : dlm v k ⟨#[46]⟩ = false := dlm_kind (by omega)
  have e2 : (k : Int) < (v.length : Int) := by omega
  have hg := getD_tokC v k
  have ht' : (v.getD k .zero).text = ⟨#[91]⟩ := ht
  have hn := eq_true hn; have ht' := eq_true ht'
  generalize hR : inF v v.length (k + 1) [] = R
  simp -implicitDefEqProofs only [c48, toks, txt, dToks_map, e0, e0', e2, t1, o1, o2, h1, h2', h3', h4, hn, ht', hg, Int.toNat_natCast, Smp.enc, Tok.enc, res11_agg8, on_gcall, off_gcall, flat_gcall, go_sem, reduceCtorEq, reduceIte, Nat.reduceEqDiff, Nat.reduceAdd, Nat.reduceSub, Nat.reduceMul, Nat.reduceLT, Nat.reduceLeDiff, Nat.reduceBEq, Int.reduceEq, Int.reduceLT, Int.reduceLE, Int.reduceAdd, Int.reduceSub, Int.reduceNeg, Int.reduceToNat]
  refine SemC.lp (α := InS8) (fun x => [(0, .slc 3 (v.map Tok.enc)), (1, vi k), (4, .ptr 0 0 0 0), (6, .ref 1 x.ver 0 x.L.length), (7, vi x.k)])
    (fun x => ⟨[⟨0, 3, [[vi 0, vs ⟨#[]⟩, vs ⟨#[]⟩]], false, []⟩, ⟨x.ver, 3, x.L.map Tok.enc, false, [vi 0, vs ⟨#[]⟩, vi 0]⟩], x.clk⟩)
    (fun x => k < x.k ∧ x.k ≤ v.length ∧ x.L.length ≤ 4 ∧ v.length + 1 ≤ x.f + x.k ∧ inF v x.f x.k x.L = R) (fun x => v.length - x.k) ⟨k + 1, [], v.length, 1, 2⟩
    ⟨by dsimp only; omega, by dsimp only; omega, by simp, by dsimp only; omega, hR⟩ (St.nil 6 3 [vi 0, vs ⟨#[]⟩, vi 0] (by simp [upd_at]) (St.cut ?_ ?_ ?_)) fun x hx => ?_
  · simp [Agrees, upd_at, initE_at]
  · simp [Heap.alloc]
  · rfl
  clear hR e0 e0' t1 o1 o2 h1 h2 h3 h2' h3' h4 hn ht ht' e2 hg
  obtain ⟨j, L, f, ver, clk⟩ := x
  obtain ⟨g1, g2, g3, g4, g5⟩ := hx
  simp only at g1 g2 g3 g4 g5
  obtain ⟨f, rfl⟩ : ∃ g, f = g + 1 := ⟨f - 1, by omega⟩
  have f0 : (0 : Int) ≤ (j : Int) := by omega
  have hgj := getD_tokC v j
  simp only [inF] at g5
  by_cases c0 : knd v j = 0
  · rw [if_neg (fun hh => hh.1 c0)] at g5
    subst g5
    have hS : smrK v k (L, j) = (zS, 0) := if_neg (by show ¬ knd v j = 13; omega)
    rw [hS]
    have c0 := eq_true c0
    have c13 := eq_false (show ¬ knd v j = 13 by omega)
    simp -implicitDefEqProofs only [c0, c13, c48, srvR, zS, toks, dToks_map, f0, hgj, Int.toNat_natCast, Smp.enc, Tok.enc, res11_agg8, List.take_length, on_gcall, off_gcall, flat_gcall, wpC_seq_xreg, wpC_xreg, wpXR_nil, wpXR_own, wpXR_flu, xeOK, xe, argTops, openArgs, Orc.ppre_cons, Orc.pr_cons, Orc.ppre_econs, Orc.pr_econs, Orc.ppre_fcons, Orc.pr_fcons, Orc.ppre_gcons, Orc.pr_gcons, List.head?_cons, List.headD_cons, XE.val, XE.heap, efO, shutArgs, xfoot, footO, V.tops, V.top1, clashOne, noClash, Orc.flat_fcons, Orc.pre_fcons, Orc.v_fcons, Orc.hp_fcons, Orc.qpre_fcons, Orc.qv_fcons, Orc.fpre_fcons, Orc.fes_fcons, Orc.flat_gcons, Orc.pre_gcons, Orc.v_gcons, Orc.hp_gcons, Orc.qpre_gcons, Orc.qv_gcons, Orc.fpre_gcons, Orc.fes_gcons, GSum.pre, GSum.v, GSum.hp, Orc.fpre_cons, Orc.fes_cons, Orc.fpre_econs, Orc.fes_econs, FSum.pre, FSum.v, FSum.hp, fres, O.calls, List.flatMap_cons, List.flatMap_nil, List.contains_cons, List.contains_nil, Bool.not_true, Bool.not_false, Heap.freeze, List.mapIdx_cons, List.mapIdx_nil, List.elem_cons, List.elem_nil, fluP, fluV, evF, bne_iff_ne, ne_eq, Option.some.injEq, go_sem, reduceCtorEq, reduceIte, Nat.reduceEqDiff, Nat.reduceAdd, Nat.reduceSub, Nat.reduceMul, Nat.reduceLT, Nat.reduceLeDiff, Nat.reduceBEq, Int.reduceEq, Int.reduceLT, Int.reduceLE, Int.reduceAdd, Int.reduceSub, Int.reduceNeg, Int.reduceToNat]
  have hjl : j < v.length := by
    unfold knd at c0
    by_cases h : j < v.length
    · exact h
    · rw [if_neg h] at c0; exact absurd rfl c0
  have f2 : (j : Int) < (v.length : Int) := by omega
  have c0' := eq_false c0
  by_cases c4 : L.length < 4
  case neg =>
    rw [if_neg (fun hh => c4 hh.2.2)] at g5
    subst g5
    have hS : smrK v k (L, j) = (zS, 0) := by
      unfold smrK
      split
      · have : attK L = none := by
          rcases L with _ | ⟨_, _ | ⟨_, _ | ⟨_, _ | ⟨_, L⟩⟩⟩⟩ <;> first | rfl | (simp at c4)
        rw [this]
      · rfl
    rw [hS]
    have c4' := eq_false (show ¬ (L.length : Int) < 4 by omega)
    have l1 := eq_false (show ¬ (L.length : Int) = 1 by omega)
    have l3 := eq_false (show ¬ (L.length : Int) = 3 by omega)
    by_cases c13 : knd v j = 13
    · have c13 := eq_true c13
      by_cases ct : (v.getD j .zero).text = ⟨#[93]⟩
      · have ct := eq_true ct
        simp -implicitDefEqProofs only [c0', c13, ct, c4', l1, l3, f2, c48, srvR, zS, toks, dToks_map, f0, hgj, Int.toNat_natCast, Smp.enc, Tok.enc, res11_agg8, List.take_length, on_gcall, off_gcall, flat_gcall, wpC_seq_xreg, wpC_xreg, wpXR_nil, wpXR_own, wpXR_flu, xeOK, xe, argTops, openArgs, Orc.ppre_cons, Orc.pr_cons, Orc.ppre_econs, Orc.pr_econs, Orc.ppre_fcons, Orc.pr_fcons, Orc.ppre_gcons, Orc.pr_gcons, List.head?_cons, List.headD_cons, XE.val, XE.heap, efO, shutArgs, xfoot, footO, V.tops, V.top1, clashOne, noClash, Orc.flat_fcons, Orc.pre_fcons, Orc.v_fcons, Orc.hp_fcons, Orc.qpre_fcons, Orc.qv_fcons, Orc.fpre_fcons, Orc.fes_fcons, Orc.flat_gcons, Orc.pre_gcons, Orc.v_gcons, Orc.hp_gcons, Orc.qpre_gcons, Orc.qv_gcons, Orc.fpre_gcons, Orc.fes_gcons, GSum.pre, GSum.v, GSum.hp, Orc.fpre_cons, Orc.fes_cons, Orc.fpre_econs, Orc.fes_econs, FSum.pre, FSum.v, FSum.hp, fres, O.calls, List.flatMap_cons, List.flatMap_nil, List.contains_cons, List.contains_nil, Bool.not_true, Bool.not_false, Heap.freeze, List.mapIdx_cons, List.mapIdx_nil, List.elem_cons, List.elem_nil, fluP, fluV, evF, bne_iff_ne, ne_eq, Option.some.injEq, go_sem, reduceCtorEq, reduceIte, Nat.reduceEqDiff, Nat.reduceAdd, Nat.reduceSub, Nat.reduceMul, Nat.reduceLT, Nat.reduceLeDiff, Nat.reduceBEq, Int.reduceEq, Int.reduceLT, Int.reduceLE, Int.reduceAdd, Int.reduceSub, Int.reduceNeg, Int.reduceToNat]
      · have ct := eq_false ct
        simp -implicitDefEqProofs only [c0', c13, ct, c4', l1, l3, f2, c48, srvR, zS, toks, dToks_map, f0, hgj, Int.toNat_natCast, Smp.enc, Tok.enc, res11_agg8, List.take_length, on_gcall, off_gcall, flat_gcall, wpC_seq_xreg, wpC_xreg, wpXR_nil, wpXR_own, wpXR_flu, xeOK, xe, argTops, openArgs, Orc.ppre_cons, Orc.pr_cons, Orc.ppre_econs, Orc.pr_econs, Orc.ppre_fcons, Orc.pr_fcons, Orc.ppre_gcons, Orc.pr_gcons, List.head?_cons, List.headD_cons, XE.val, XE.heap, efO, shutArgs, xfoot, footO, V.tops, V.top1, clashOne, noClash, Orc.flat_fcons, Orc.pre_fcons, Orc.v_fcons, Orc.hp_fcons, Orc.qpre_fcons, Orc.qv_fcons, Orc.fpre_fcons, Orc.fes_fcons, Orc.flat_gcons, Orc.pre_gcons, Orc.v_gcons, Orc.hp_gcons, Orc.qpre_gcons, Orc.qv_gcons, Orc.fpre_gcons, Orc.fes_gcons, GSum.pre, GSum.v, GSum.hp, Orc.fpre_cons, Orc.fes_cons, Orc.fpre_econs, Orc.fes_econs, FSum.pre, FSum.v, FSum.hp, fres, O.calls, List.flatMap_cons, List.flatMap_nil, List.contains_cons, List.contains_nil, Bool.not_true, Bool.not_false, Heap.freeze, List.mapIdx_cons, List.mapIdx_nil, List.elem_cons, List.elem_nil, fluP, fluV, evF, bne_iff_ne, ne_eq, Option.some.injEq, go_sem, reduceCtorEq, reduceIte, Nat.reduceEqDiff, Nat.reduceAdd, Nat.reduceSub, Nat.reduceMul, Nat.reduceLT, Nat.reduceLeDiff, Nat.reduceBEq, Int.reduceEq, Int.reduceLT, Int.reduceLE, Int.reduceAdd, Int.reduceSub, Int.reduceNeg, Int.reduceToNat]
    · have c13 := eq_false c13
      simp -implicitDefEqProofs only [c0', c13, c4', l1, l3, f2, c48, srvR, zS, toks, dToks_map, f0, hgj, Int.toNat_natCast, Smp.enc, Tok.enc, res11_agg8, List.take_length, on_gcall, off_gcall, flat_gcall, wpC_seq_xreg, wpC_xreg, wpXR_nil, wpXR_own, wpXR_flu, xeOK, xe, argTops, openArgs, Orc.ppre_cons, Orc.pr_cons, Orc.ppre_econs, Orc.pr_econs, Orc.ppre_fcons, Orc.pr_fcons, Orc.ppre_gcons, Orc.pr_gcons, List.head?_cons, List.headD_cons, XE.val, XE.heap, efO, shutArgs, xfoot, footO, V.tops, V.top1, clashOne, noClash, Orc.flat_fcons, Orc.pre_fcons, Orc.v_fcons, Orc.hp_fcons, Orc.qpre_fcons, Orc.qv_fcons, Orc.fpre_fcons, Orc.fes_fcons, Orc.flat_gcons, Orc.pre_gcons, Orc.v_gcons, Orc.hp_gcons, Orc.qpre_gcons, Orc.qv_gcons, Orc.fpre_gcons, Orc.fes_gcons, GSum.pre, GSum.v, GSum.hp, Orc.fpre_cons, Orc.fes_cons, Orc.fpre_econs, Orc.fes_econs, FSum.pre, FSum.v, FSum.hp, fres, O.calls, List.flatMap_cons, List.flatMap_nil, List.contains_cons, List.contains_nil, Bool.not_true, Bool.not_false, Heap.freeze, List.mapIdx_cons, List.mapIdx_nil, List.elem_cons, List.elem_nil, fluP, fluV, evF, bne_iff_ne, ne_eq, Option.some.injEq, go_sem, reduceCtorEq, reduceIte, Nat.reduceEqDiff, Nat.reduceAdd, Nat.reduceSub, Nat.reduceMul, Nat.reduceLT, Nat.reduceLeDiff, Nat.reduceBEq, Int.reduceEq, Int.reduceLT, Int.reduceLE, Int.reduceAdd, Int.reduceSub, Int.reduceNeg, Int.reduceToNat]
  have c4' := eq_true (show (L.length : Int) < 4 by omega)
  by_cases c13 : knd v j = 13
  · by_cases ct : (v.getD j .zero).text = ⟨#[93]⟩
    · rw [if_neg (fun hh => hh.2.1 ⟨c13, ct⟩)] at g5
      subst g5
      have hS : smrK v k (L, j) = match attK L with | some s => (s, j + 1 - k) | none => (zS, 0) := if_pos c13
      rw [hS]
      clear hS g4
      have c13 := eq_true c13; have ct := eq_true ct
      have m1 : ((j : Int) + 1) - (k : Int) = ((j + 1 - k : Nat) : Int) := by omega
      have q1 := eq_true (show -9223372036854775808 ≤ (j : Int) + 1 by omega)
      have q2 := eq_true (show (j : Int) + 1 ≤ 9223372036854775807 by omega)
      have q3 := eq_true (show -9223372036854775808 ≤ ((j + 1 - k : Nat) : Int) by omega)
      have q4 := eq_true (show ((j + 1 - k : Nat) : Int) ≤ 9223372036854775807 by omega)
      have hz : Tok.zero.enc = [vi 0, vs ⟨#[]⟩, vi 0] := rfl
      have hf : ∀ {P : Prop} [Decidable P] {x y : Option Smp}, ¬ P → (if P then x else y) = y := fun h => if_neg h
      match L, g3, c4 with
      | [], _, _ =>
        have hA : attK [] = none := rfl
        rw [hA]
        simp -implicitDefEqProofs only [c0', c13, ct, f2, List.map_nil, List.map_cons, List.length_cons, List.length_nil, c48, srvR, zS, toks, dToks_map, f0, hgj, Int.toNat_natCast, Smp.enc, Tok.enc, res11_agg8, List.take_length, on_gcall, off_gcall, flat_gcall, wpC_seq_xreg, wpC_xreg, wpXR_nil, wpXR_own, wpXR_flu, xeOK, xe, argTops, openArgs, Orc.ppre_cons, Orc.pr_cons, Orc.ppre_econs, Orc.pr_econs, Orc.ppre_fcons, Orc.pr_fcons, Orc.ppre_gcons, Orc.pr_gcons, List.head?_cons, List.headD_cons, XE.val, XE.heap, efO, shutArgs, xfoot, footO, V.tops, V.top1, clashOne, noClash, Orc.flat_fcons, Orc.pre_fcons, Orc.v_fcons, Orc.hp_fcons, Orc.qpre_fcons, Orc.qv_fcons, Orc.fpre_fcons, Orc.fes_fcons, Orc.flat_gcons, Orc.pre_gcons, Orc.v_gcons, Orc.hp_gcons, Orc.qpre_gcons, Orc.qv_gcons, Orc.fpre_gcons, Orc.fes_gcons, GSum.pre, GSum.v, GSum.hp, Orc.fpre_cons, Orc.fes_cons, Orc.fpre_econs, Orc.fes_econs, FSum.pre, FSum.v, FSum.hp, fres, O.calls, List.flatMap_cons, List.flatMap_nil, List.contains_cons, List.contains_nil, Bool.not_true, Bool.not_false, Heap.freeze, List.mapIdx_cons, List.mapIdx_nil, List.elem_cons, List.elem_nil, fluP, fluV, evF, bne_iff_ne, ne_eq, Option.some.injEq, go_sem, reduceCtorEq, reduceIte, Nat.reduceEqDiff, Nat.reduceAdd, Nat.reduceSub, Nat.reduceMul, Nat.reduceLT, Nat.reduceLeDiff, Nat.reduceBEq, Int.reduceEq, Int.reduceLT, Int.reduceLE, Int.reduceAdd, Int.reduceSub, Int.reduceNeg, Int.reduceToNat]
      | [⟨ak, at', an⟩], _, _ =>
        have hA : attK [⟨ak, at', an⟩] = if ak = 2 then some ⟨5, at', ⟨#[]⟩⟩ else none := rfl
        rw [hA]
        by_cases h : ak = 2
        · rw [if_pos h]; have h := eq_true h
          simp -implicitDefEqProofs only [c0', c13, ct, f2, h, m1, q1, q2, q3, q4, List.map_nil, List.map_cons, List.length_cons, List.length_nil, c48, srvR, zS, toks, dToks_map, f0, hgj, Int.toNat_natCast, Smp.enc, Tok.enc, res11_agg8, List.take_length, on_gcall, off_gcall, flat_gcall, wpC_seq_xreg, wpC_xreg, wpXR_nil, wpXR_own, wpXR_flu, xeOK, xe, argTops, openArgs, Orc.ppre_cons, Orc.pr_cons, Orc.ppre_econs, Orc.pr_econs, Orc.ppre_fcons, Orc.pr_fcons, Orc.ppre_gcons, Orc.pr_gcons, List.head?_cons, List.headD_cons, XE.val, XE.heap, efO, shutArgs, xfoot, footO, V.tops, V.top1, clashOne, noClash, Orc.flat_fcons, Orc.pre_fcons, Orc.v_fcons, Orc.hp_fcons, Orc.qpre_fcons, Orc.qv_fcons, Orc.fpre_fcons, Orc.fes_fcons, Orc.flat_gcons, Orc.pre_gcons, Orc.v_gcons, Orc.hp_gcons, Orc.qpre_gcons, Orc.qv_gcons, Orc.fpre_gcons, Orc.fes_gcons, GSum.pre, GSum.v, GSum.hp, Orc.fpre_cons, Orc.fes_cons, Orc.fpre_econs, Orc.fes_econs, FSum.pre, FSum.v, FSum.hp, fres, O.calls, List.flatMap_cons, List.flatMap_nil, List.contains_cons, List.contains_nil, Bool.not_true, Bool.not_false, Heap.freeze, List.mapIdx_cons, List.mapIdx_nil, List.elem_cons, List.elem_nil, fluP, fluV, evF, bne_iff_ne, ne_eq, Option.some.injEq, go_sem, reduceCtorEq, reduceIte, Nat.reduceEqDiff, Nat.reduceAdd, Nat.reduceSub, Nat.reduceMul, Nat.reduceLT, Nat.reduceLeDiff, Nat.reduceBEq, Int.reduceEq, Int.reduceLT, Int.reduceLE, Int.reduceAdd, Int.reduceSub, Int.reduceNeg, Int.reduceToNat]
        · rw [hf h]; have h := eq_false h
          simp -implicitDefEqProofs only [c0', c13, ct, f2, h, List.map_nil, List.map_cons, List.length_cons, List.length_nil, c48, srvR, zS, toks, dToks_map, f0, hgj, Int.toNat_natCast, Smp.enc, Tok.enc, res11_agg8, List.take_length, on_gcall, off_gcall, flat_gcall, wpC_seq_xreg, wpC_xreg, wpXR_nil, wpXR_own, wpXR_flu, xeOK, xe, argTops, openArgs, Orc.ppre_cons, Orc.pr_cons, Orc.ppre_econs, Orc.pr_econs, Orc.ppre_fcons, Orc.pr_fcons, Orc.ppre_gcons, Orc.pr_gcons, List.head?_cons, List.headD_cons, XE.val, XE.heap, efO, shutArgs, xfoot, footO, V.tops, V.top1, clashOne, noClash, Orc.flat_fcons, Orc.pre_fcons, Orc.v_fcons, Orc.hp_fcons, Orc.qpre_fcons, Orc.qv_fcons, Orc.fpre_fcons, Orc.fes_fcons, Orc.flat_gcons, Orc.pre_gcons, Orc.v_gcons, Orc.hp_gcons, Orc.qpre_gcons, Orc.qv_gcons, Orc.fpre_gcons, Orc.fes_gcons, GSum.pre, GSum.v, GSum.hp, Orc.fpre_cons, Orc.fes_cons, Orc.fpre_econs, Orc.fes_econs, FSum.pre, FSum.v, FSum.hp, fres, O.calls, List.flatMap_cons, List.flatMap_nil, List.contains_cons, List.contains_nil, Bool.not_true, Bool.not_false, Heap.freeze, List.mapIdx_cons, List.mapIdx_nil, List.elem_cons, List.elem_nil, fluP, fluV, evF, bne_iff_ne, ne_eq, Option.some.injEq, go_sem, reduceCtorEq, reduceIte, Nat.reduceEqDiff, Nat.reduceAdd, Nat.reduceSub, Nat.reduceMul, Nat.reduceLT, Nat.reduceLeDiff, Nat.reduceBEq, Int.reduceEq, Int.reduceLT, Int.reduceLE, Int.reduceAdd, Int.reduceSub, Int.reduceNeg, Int.reduceToNat]
      | [a, b], _, _ =>
        have hA : attK [a, b] = none := rfl
        rw [hA]
        simp -implicitDefEqProofs only [c0', c13, ct, f2, List.map_nil, List.map_cons, List.length_cons, List.length_nil, c48, srvR, zS, toks, dToks_map, f0, hgj, Int.toNat_natCast, Smp.enc, Tok.enc, res11_agg8, List.take_length, on_gcall, off_gcall, flat_gcall, wpC_seq_xreg, wpC_xreg, wpXR_nil, wpXR_own, wpXR_flu, xeOK, xe, argTops, openArgs, Orc.ppre_cons, Orc.pr_cons, Orc.ppre_econs, Orc.pr_econs, Orc.ppre_fcons, Orc.pr_fcons, Orc.ppre_gcons, Orc.pr_gcons, List.head?_cons, List.headD_cons, XE.val, XE.heap, efO, shutArgs, xfoot, footO, V.tops, V.top1, clashOne, noClash, Orc.flat_fcons, Orc.pre_fcons, Orc.v_fcons, Orc.hp_fcons, Orc.qpre_fcons, Orc.qv_fcons, Orc.fpre_fcons, Orc.fes_fcons, Orc.flat_gcons, Orc.pre_gcons, Orc.v_gcons, Orc.hp_gcons, Orc.qpre_gcons, Orc.qv_gcons, Orc.fpre_gcons, Orc.fes_gcons, GSum.pre, GSum.v, GSum.hp, Orc.fpre_cons, Orc.fes_cons, Orc.fpre_econs, Orc.fes_econs, FSum.pre, FSum.v, FSum.hp, fres, O.calls, List.flatMap_cons, List.flatMap_nil, List.contains_cons, List.contains_nil, Bool.not_true, Bool.not_false, Heap.freeze, List.mapIdx_cons, List.mapIdx_nil, List.elem_cons, List.elem_nil, fluP, fluV, evF, bne_iff_ne, ne_eq, Option.some.injEq, go_sem, reduceCtorEq, reduceIte, Nat.reduceEqDiff, Nat.reduceAdd, Nat.reduceSub, Nat.reduceMul, Nat.reduceLT, Nat.reduceLeDiff, Nat.reduceBEq, Int.reduceEq, Int.reduceLT, Int.reduceLE, Int.reduceAdd, Int.reduceSub, Int.reduceNeg, Int.reduceToNat]
      | [⟨ak, at', an⟩, ⟨bk, bt, bn⟩, ⟨ck, ct', cn⟩], _, _ =>
        have hd : ∀ w, dlm [⟨ak, at', an⟩, ⟨bk, bt, bn⟩, ⟨ck, ct', cn⟩] 1 w = decide (bk = 11 ∧ bt = w) := fun w => by simp [dlm]
        have hdt : dToks (.slc 3 [[vi ak, vs at', vi an], [vi bk, vs bt, vi bn], [vi ck, vs ct', vi cn]]) = [⟨ak, at', an⟩, ⟨bk, bt, bn⟩, ⟨ck, ct', cn⟩] := rfl
        have htk : toks [⟨ak, at', an⟩, ⟨bk, bt, bn⟩, ⟨ck, ct', cn⟩] = .slc 3 [[vi ak, vs at', vi an], [vi bk, vs bt, vi bn], [vi ck, vs ct', vi cn]] := rfl
        have hd1 : dlm [⟨ak, at', an⟩, ⟨bk, bt, bn⟩, ⟨ck, ct', cn⟩] 1 ⟨#[61]⟩ = decide (bk = 11 ∧ bt = ⟨#[61]⟩) := hd _
        have hA : attK [⟨ak, at', an⟩, ⟨bk, bt, bn⟩, ⟨ck, ct', cn⟩] = if ak = 2 ∧ bk = 11 ∧ bt = ⟨#[61]⟩ ∧ (ck = 2 ∨ ck = 6) then some ⟨6, at', ct'⟩ else none := rfl
        rw [hA]
        by_cases h : ak = 2
        · cases hb : decide (bk = 11 ∧ bt = (⟨#[61]⟩ : ByteArray)) with
          | false =>
            have hb' := of_decide_eq_false hb
            rw [hb] at hd1
            rw [hf (fun hh => hb' ⟨hh.2.1, hh.2.2.1⟩)]
            have h := eq_true h
            simp -implicitDefEqProofs only [c0', c13, ct, f2, h, hdt, htk, hd1, List.map_nil, List.map_cons, List.length_cons, List.length_nil, c48, srvR, zS, toks, dToks_map, f0, hgj, Int.toNat_natCast, Smp.enc, Tok.enc, res11_agg8, List.take_length, on_gcall, off_gcall, flat_gcall, wpC_seq_xreg, wpC_xreg, wpXR_nil, wpXR_own, wpXR_flu, xeOK, xe, argTops, openArgs, Orc.ppre_cons, Orc.pr_cons, Orc.ppre_econs, Orc.pr_econs, Orc.ppre_fcons, Orc.pr_fcons, Orc.ppre_gcons, Orc.pr_gcons, List.head?_cons, List.headD_cons, XE.val, XE.heap, efO, shutArgs, xfoot, footO, V.tops, V.top1, clashOne, noClash, Orc.flat_fcons, Orc.pre_fcons, Orc.v_fcons, Orc.hp_fcons, Orc.qpre_fcons, Orc.qv_fcons, Orc.fpre_fcons, Orc.fes_fcons, Orc.flat_gcons, Orc.pre_gcons, Orc.v_gcons, Orc.hp_gcons, Orc.qpre_gcons, Orc.qv_gcons, Orc.fpre_gcons, Orc.fes_gcons, GSum.pre, GSum.v, GSum.hp, Orc.fpre_cons, Orc.fes_cons, Orc.fpre_econs, Orc.fes_econs, FSum.pre, FSum.v, FSum.hp, fres, O.calls, List.flatMap_cons, List.flatMap_nil, List.contains_cons, List.contains_nil, Bool.not_true, Bool.not_false, Heap.freeze, List.mapIdx_cons, List.mapIdx_nil, List.elem_cons, List.elem_nil, fluP, fluV, evF, bne_iff_ne, ne_eq, Option.some.injEq, go_sem, reduceCtorEq, reduceIte, Nat.reduceEqDiff, Nat.reduceAdd, Nat.reduceSub, Nat.reduceMul, Nat.reduceLT, Nat.reduceLeDiff, Nat.reduceBEq, Int.reduceEq, Int.reduceLT, Int.reduceLE, Int.reduceAdd, Int.reduceSub, Int.reduceNeg, Int.reduceToNat]
          | true =>
            have hb' := of_decide_eq_true hb
            rw [hb] at hd1
            by_cases hc : ck = 2
            · rw [if_pos ⟨h, hb'.1, hb'.2, .inl hc⟩]
              have h := eq_true h; have hc := eq_true hc
              simp -implicitDefEqProofs only [c0', c13, ct, f2, h, hc, hdt, htk, hd1, m1, q1, q2, q3, q4, List.map_nil, List.map_cons, List.length_cons, List.length_nil, c48, srvR, zS, toks, dToks_map, f0, hgj, Int.toNat_natCast, Smp.enc, Tok.enc, res11_agg8, List.take_length, on_gcall, off_gcall, flat_gcall, wpC_seq_xreg, wpC_xreg, wpXR_nil, wpXR_own, wpXR_flu, xeOK, xe, argTops, openArgs, Orc.ppre_cons, Orc.pr_cons, Orc.ppre_econs, Orc.pr_econs, Orc.ppre_fcons, Orc.pr_fcons, Orc.ppre_gcons, Orc.pr_gcons, List.head?_cons, List.headD_cons, XE.val, XE.heap, efO, shutArgs, xfoot, footO, V.tops, V.top1, clashOne, noClash, Orc.flat_fcons, Orc.pre_fcons, Orc.v_fcons, Orc.hp_fcons, Orc.qpre_fcons, Orc.qv_fcons, Orc.fpre_fcons, Orc.fes_fcons, Orc.flat_gcons, Orc.pre_gcons, Orc.v_gcons, Orc.hp_gcons, Orc.qpre_gcons, Orc.qv_gcons, Orc.fpre_gcons, Orc.fes_gcons, GSum.pre, GSum.v, GSum.hp, Orc.fpre_cons, Orc.fes_cons, Orc.fpre_econs, Orc.fes_econs, FSum.pre, FSum.v, FSum.hp, fres, O.calls, List.flatMap_cons, List.flatMap_nil, List.contains_cons, List.contains_nil, Bool.not_true, Bool.not_false, Heap.freeze, List.mapIdx_cons, List.mapIdx_nil, List.elem_cons, List.elem_nil, fluP, fluV, evF, bne_iff_ne, ne_eq, Option.some.injEq, go_sem, reduceCtorEq, reduceIte, Nat.reduceEqDiff, Nat.reduceAdd, Nat.reduceSub, Nat.reduceMul, Nat.reduceLT, Nat.reduceLeDiff, Nat.reduceBEq, Int.reduceEq, Int.reduceLT, Int.reduceLE, Int.reduceAdd, Int.reduceSub, Int.reduceNeg, Int.reduceToNat]
            · by_cases hc6 : ck = 6
              · rw [if_pos ⟨h, hb'.1, hb'.2, .inr hc6⟩]
                have h := eq_true h; have hc := eq_false hc; have hc6 := eq_true hc6
                simp -implicitDefEqProofs only [c0', c13, ct, f2, h, hc, hc6, hdt, htk, hd1, m1, q1, q2, q3, q4, List.map_nil, List.map_cons, List.length_cons, List.length_nil, c48, srvR, zS, toks, dToks_map, f0, hgj, Int.toNat_natCast, Smp.enc, Tok.enc, res11_agg8, List.take_length, on_gcall, off_gcall, flat_gcall, wpC_seq_xreg, wpC_xreg, wpXR_nil, wpXR_own, wpXR_flu, xeOK, xe, argTops, openArgs, Orc.ppre_cons, Orc.pr_cons, Orc.ppre_econs, Orc.pr_econs, Orc.ppre_fcons, Orc.pr_fcons, Orc.ppre_gcons, Orc.pr_gcons, List.head?_cons, List.headD_cons, XE.val, XE.heap, efO, shutArgs, xfoot, footO, V.tops, V.top1, clashOne, noClash, Orc.flat_fcons, Orc.pre_fcons, Orc.v_fcons, Orc.hp_fcons, Orc.qpre_fcons, Orc.qv_fcons, Orc.fpre_fcons, Orc.fes_fcons, Orc.flat_gcons, Orc.pre_gcons, Orc.v_gcons, Orc.hp_gcons, Orc.qpre_gcons, Orc.qv_gcons, Orc.fpre_gcons, Orc.fes_gcons, GSum.pre, GSum.v, GSum.hp, Orc.fpre_cons, Orc.fes_cons, Orc.fpre_econs, Orc.fes_econs, FSum.pre, FSum.v, FSum.hp, fres, O.calls, List.flatMap_cons, List.flatMap_nil, List.contains_cons, List.contains_nil, Bool.not_true, Bool.not_false, Heap.freeze, List.mapIdx_cons, List.mapIdx_nil, List.elem_cons, List.elem_nil, fluP, fluV, evF, bne_iff_ne, ne_eq, Option.some.injEq, go_sem, reduceCtorEq, reduceIte, Nat.reduceEqDiff, Nat.reduceAdd, Nat.reduceSub, Nat.reduceMul, Nat.reduceLT, Nat.reduceLeDiff, Nat.reduceBEq, Int.reduceEq, Int.reduceLT, Int.reduceLE, Int.reduceAdd, Int.reduceSub, Int.reduceNeg, Int.reduceToNat]
              · rw [hf (fun hh => hh.2.2.2.elim hc hc6)]
                have h := eq_true h; have hc := eq_false hc; have hc6 := eq_false hc6
                simp -implicitDefEqProofs only [c0', c13, ct, f2, h, hc, hc6, hdt, htk, hd1, List.map_nil, List.map_cons, List.length_cons, List.length_nil, c48, srvR, zS, toks, dToks_map, f0, hgj, Int.toNat_natCast, Smp.enc, Tok.enc, res11_agg8, List.take_length, on_gcall, off_gcall, flat_gcall, wpC_seq_xreg, wpC_xreg, wpXR_nil, wpXR_own, wpXR_flu, xeOK, xe, argTops, openArgs, Orc.ppre_cons, Orc.pr_cons, Orc.ppre_econs, Orc.pr_econs, Orc.ppre_fcons, Orc.pr_fcons, Orc.ppre_gcons, Orc.pr_gcons, List.head?_cons, List.headD_cons, XE.val, XE.heap, efO, shutArgs, xfoot, footO, V.tops, V.top1, clashOne, noClash, Orc.flat_fcons, Orc.pre_fcons, Orc.v_fcons, Orc.hp_fcons, Orc.qpre_fcons, Orc.qv_fcons, Orc.fpre_fcons, Orc.fes_fcons, Orc.flat_gcons, Orc.pre_gcons, Orc.v_gcons, Orc.hp_gcons, Orc.qpre_gcons, Orc.qv_gcons, Orc.fpre_gcons, Orc.fes_gcons, GSum.pre, GSum.v, GSum.hp, Orc.fpre_cons, Orc.fes_cons, Orc.fpre_econs, Orc.fes_econs, FSum.pre, FSum.v, FSum.hp, fres, O.calls, List.flatMap_cons, List.flatMap_nil, List.contains_cons, List.contains_nil, Bool.not_true, Bool.not_false, Heap.freeze, List.mapIdx_cons, List.mapIdx_nil, List.elem_cons, List.elem_nil, fluP, fluV, evF, bne_iff_ne, ne_eq, Option.some.injEq, go_sem, reduceCtorEq, reduceIte, Nat.reduceEqDiff, Nat.reduceAdd, Nat.reduceSub, Nat.reduceMul, Nat.reduceLT, Nat.reduceLeDiff, Nat.reduceBEq, Int.reduceEq, Int.reduceLT, Int.reduceLE, Int.reduceAdd, Int.reduceSub, Int.reduceNeg, Int.reduceToNat]
        · rw [hf (fun hh => h hh.1)]
          have h := eq_false h
          simp -implicitDefEqProofs only [c0', c13, ct, f2, h, hdt, htk, hd1, List.map_nil, List.map_cons, List.length_cons, List.length_nil, c48, srvR, zS, toks, dToks_map, f0, hgj, Int.toNat_natCast, Smp.enc, Tok.enc, res11_agg8, List.take_length, on_gcall, off_gcall, flat_gcall, wpC_seq_xreg, wpC_xreg, wpXR_nil, wpXR_own, wpXR_flu, xeOK, xe, argTops, openArgs, Orc.ppre_cons, Orc.pr_cons, Orc.ppre_econs, Orc.pr_econs, Orc.ppre_fcons, Orc.pr_fcons, Orc.ppre_gcons, Orc.pr_gcons, List.head?_cons, List.headD_cons, XE.val, XE.heap, efO, shutArgs, xfoot, footO, V.tops, V.top1, clashOne, noClash, Orc.flat_fcons, Orc.pre_fcons, Orc.v_fcons, Orc.hp_fcons, Orc.qpre_fcons, Orc.qv_fcons, Orc.fpre_fcons, Orc.fes_fcons, Orc.flat_gcons, Orc.pre_gcons, Orc.v_gcons, Orc.hp_gcons, Orc.qpre_gcons, Orc.qv_gcons, Orc.fpre_gcons, Orc.fes_gcons, GSum.pre, GSum.v, GSum.hp, Orc.fpre_cons, Orc.fes_cons, Orc.fpre_econs, Orc.fes_econs, FSum.pre, FSum.v, FSum.hp, fres, O.calls, List.flatMap_cons, List.flatMap_nil, List.contains_cons, List.contains_nil, Bool.not_true, Bool.not_false, Heap.freeze, List.mapIdx_cons, List.mapIdx_nil, List.elem_cons, List.elem_nil, fluP, fluV, evF, bne_iff_ne, ne_eq, Option.some.injEq, go_sem, reduceCtorEq, reduceIte, Nat.reduceEqDiff, Nat.reduceAdd, Nat.reduceSub, Nat.reduceMul, Nat.reduceLT, Nat.reduceLeDiff, Nat.reduceBEq, Int.reduceEq, Int.reduceLT, Int.reduceLE, Int.reduceAdd, Int.reduceSub, Int.reduceNeg, Int.reduceToNat]
    · rw [if_pos ⟨c0, fun hh => ct hh.2, c4⟩, if_neg (by omega)] at g5
      have c1 := eq_false (show ¬ knd v j = 1 by omega)
      have c13 := eq_true c13; have ct := eq_false ct
      simp -implicitDefEqProofs only [c0', c13, c1, ct, c4', f2, c48, srvR, zS, toks, dToks_map, f0, hgj, Int.toNat_natCast, Smp.enc, Tok.enc, res11_agg8, List.take_length, on_gcall, off_gcall, flat_gcall, wpC_seq_xreg, wpC_xreg, wpXR_nil, wpXR_own, wpXR_flu, xeOK, xe, argTops, openArgs, Orc.ppre_cons, Orc.pr_cons, Orc.ppre_econs, Orc.pr_econs, Orc.ppre_fcons, Orc.pr_fcons, Orc.ppre_gcons, Orc.pr_gcons, List.head?_cons, List.headD_cons, XE.val, XE.heap, efO, shutArgs, xfoot, footO, V.tops, V.top1, clashOne, noClash, Orc.flat_fcons, Orc.pre_fcons, Orc.v_fcons, Orc.hp_fcons, Orc.qpre_fcons, Orc.qv_fcons, Orc.fpre_fcons, Orc.fes_fcons, Orc.flat_gcons, Orc.pre_gcons, Orc.v_gcons, Orc.hp_gcons, Orc.qpre_gcons, Orc.qv_gcons, Orc.fpre_gcons, Orc.fes_gcons, GSum.pre, GSum.v, GSum.hp, Orc.fpre_cons, Orc.fes_cons, Orc.fpre_econs, Orc.fes_econs, FSum.pre, FSum.v, FSum.hp, fres, O.calls, List.flatMap_cons, List.flatMap_nil, List.contains_cons, List.contains_nil, Bool.not_true, Bool.not_false, Heap.freeze, List.mapIdx_cons, List.mapIdx_nil, List.elem_cons, List.elem_nil, fluP, fluV, evF, bne_iff_ne, ne_eq, Option.some.injEq, go_sem, reduceCtorEq, reduceIte, Nat.reduceEqDiff, Nat.reduceAdd, Nat.reduceSub, Nat.reduceMul, Nat.reduceLT, Nat.reduceLeDiff, Nat.reduceBEq, Int.reduceEq, Int.reduceLT, Int.reduceLE, Int.reduceAdd, Int.reduceSub, Int.reduceNeg, Int.reduceToNat]
      generalize v.getD j .zero = t at *
      exact ⟨⟨Nat.le_refl _, by omega, by omega⟩, by omega, ⟨j + 1, L ++ [t], f, _, _⟩, ⟨by dsimp only; omega, by dsimp only; omega, by simp; omega, by dsimp only; omega, g5⟩, by dsimp only; omega, ⟨⟨rfl, by simp⟩, by dsimp only; omega⟩, ⟨rfl, by simp [Tok.enc]⟩, rfl⟩
  · rw [if_pos ⟨c0, fun hh => c13 hh.1, c4⟩] at g5
    have c13 := eq_false c13
    by_cases c1 : knd v j = 1
    · rw [if_pos c1] at g5
      have c1 := eq_true c1
      simp -implicitDefEqProofs only [c0', c13, c1, c4', f2, c48, srvR, zS, toks, dToks_map, f0, hgj, Int.toNat_natCast, Smp.enc, Tok.enc, res11_agg8, List.take_length, on_gcall, off_gcall, flat_gcall, wpC_seq_xreg, wpC_xreg, wpXR_nil, wpXR_own, wpXR_flu, xeOK, xe, argTops, openArgs, Orc.ppre_cons, Orc.pr_cons, Orc.ppre_econs, Orc.pr_econs, Orc.ppre_fcons, Orc.pr_fcons, Orc.ppre_gcons, Orc.pr_gcons, List.head?_cons, List.headD_cons, XE.val, XE.heap, efO, shutArgs, xfoot, footO, V.tops, V.top1, clashOne, noClash, Orc.flat_fcons, Orc.pre_fcons, Orc.v_fcons, Orc.hp_fcons, Orc.qpre_fcons, Orc.qv_fcons, Orc.fpre_fcons, Orc.fes_fcons, Orc.flat_gcons, Orc.pre_gcons, Orc.v_gcons, Orc.hp_gcons, Orc.qpre_gcons, Orc.qv_gcons, Orc.fpre_gcons, Orc.fes_gcons, GSum.pre, GSum.v, GSum.hp, Orc.fpre_cons, Orc.fes_cons, Orc.fpre_econs, Orc.fes_econs, FSum.pre, FSum.v, FSum.hp, fres, O.calls, List.flatMap_cons, List.flatMap_nil, List.contains_cons, List.contains_nil, Bool.not_true, Bool.not_false, Heap.freeze, List.mapIdx_cons, List.mapIdx_nil, List.elem_cons, List.elem_nil, fluP, fluV, evF, bne_iff_ne, ne_eq, Option.some.injEq, go_sem, reduceCtorEq, reduceIte, Nat.reduceEqDiff, Nat.reduceAdd, Nat.reduceSub, Nat.reduceMul, Nat.reduceLT, Nat.reduceLeDiff, Nat.reduceBEq, Int.reduceEq, Int.reduceLT, Int.reduceLE, Int.reduceAdd, Int.reduceSub, Int.reduceNeg, Int.reduceToNat]
      exact ⟨by omega, ⟨j + 1, L, f, _, _⟩, ⟨by dsimp only; omega, by dsimp only; omega, g3, by dsimp only; omega, g5⟩, by dsimp only; omega, ⟨⟨rfl, rfl⟩, by dsimp only; omega⟩, ⟨rfl, rfl⟩, rfl⟩
    · rw [if_neg c1] at g5
      have c1 := eq_false c1
      simp -implicitDefEqProofs only [c0', c13, c1, c4', f2, c48, srvR, zS, toks, dToks_map, f0, hgj, Int.toNat_natCast, Smp.enc, Tok.enc, res11_agg8, List.take_length, on_gcall, off_gcall, flat_gcall, wpC_seq_xreg, wpC_xreg, wpXR_nil, wpXR_own, wpXR_flu, xeOK, xe, argTops, openArgs, Orc.ppre_cons, Orc.pr_cons, Orc.ppre_econs, Orc.pr_econs, Orc.ppre_fcons, Orc.pr_fcons, Orc.ppre_gcons, Orc.pr_gcons, List.head?_cons, List.headD_cons, XE.val, XE.heap, efO, shutArgs, xfoot, footO, V.tops, V.top1, clashOne, noClash, Orc.flat_fcons, Orc.pre_fcons, Orc.v_fcons, Orc.hp_fcons, Orc.qpre_fcons, Orc.qv_fcons, Orc.fpre_fcons, Orc.fes_fcons, Orc.flat_gcons, Orc.pre_gcons, Orc.v_gcons, Orc.hp_gcons, Orc.qpre_gcons, Orc.qv_gcons, Orc.fpre_gcons, Orc.fes_gcons, GSum.pre, GSum.v, GSum.hp, Orc.fpre_cons, Orc.fes_cons, Orc.fpre_econs, Orc.fes_econs, FSum.pre, FSum.v, FSum.hp, fres, O.calls, List.flatMap_cons, List.flatMap_nil, List.contains_cons, List.contains_nil, Bool.not_true, Bool.not_false, Heap.freeze, List.mapIdx_cons, List.mapIdx_nil, List.elem_cons, List.elem_nil, fluP, fluV, evF, bne_iff_ne, ne_eq, Option.some.injEq, go_sem, reduceCtorEq, reduceIte, Nat.reduceEqDiff, Nat.reduceAdd, Nat.reduceSub, Nat.reduceMul, Nat.reduceLT, Nat.reduceLeDiff, Nat.reduceBEq, Int.reduceEq, Int.reduceLT, Int.reduceLE, Int.reduceAdd, Int.reduceSub, Int.reduceNeg, Int.reduceToNat]
      generalize v.getD j .zero = t at *
      exact ⟨⟨Nat.le_refl _, by omega, by omega⟩, by omega, ⟨j + 1, L ++ [t], f, _, _⟩, ⟨by dsimp only; omega, by dsimp only; omega, by simp; omega, by dsimp only; omega, g5⟩, by dsimp only; omega, ⟨⟨rfl, by simp⟩, by dsimp only; omega⟩, ⟨rfl, by simp [Tok.enc]⟩, rfl⟩
theorem simpleRI_ok {v : List Tok} {k : Int} (h0 : 0 ≤ k) (h1 : k ≤ v.length) (hl : v.length ≤ 1000000) : PCall Try.prog 48 [toks v, vi k] (srvR (smrR v k.toNat)) := by
  have := simpleR_ok v hl k.toNat (by omega); rwa [Int.toNat_of_nonneg h0] at this
def sumSmrR : Sum Try.prog := ⟨48, fun args => args = [toks (dToks (args.getD 0 .any)), vi ((args.getD 1 .any).int)] ∧ 0 ≤ ((args.getD 1 .any).int) ∧ ((args.getD 1 .any).int) ≤ ((dToks (args.getD 0 .any))).length ∧ ((dToks (args.getD 0 .any))).length ≤ 1000000, fun args => srvR (smrR (dToks (args.getD 0 .any)) (((args.getD 1 .any).int)).toNat), fun args h => by
  have := simpleRI_ok h.2.1 h.2.2.1 h.2.2.2; rwa [← h.1] at this, false⟩
theorem sumSmrR_f : sumSmrR.f = 48 := rfl
theorem sumSmrR_D (args : List V) : sumSmrR.D args = (args = [toks (dToks (args.getD 0 .any)), vi ((args.getD 1 .any).int)] ∧ 0 ≤ ((args.getD 1 .any).int) ∧ ((args.getD 1 .any).int) ≤ ((dToks (args.getD 0 .any))).length ∧ ((dToks (args.getD 0 .any))).length ≤ 1000000) := rfl
theorem sumSmrR_flat : sumSmrR.flat = false := rfl
theorem sumSmrR_r (args : List V) : sumSmrR.r args = srvR (smrR (dToks (args.getD 0 .any)) (((args.getD 1 .any).int)).toNat) := rfl
attribute [go_sem] sumSmrR_f sumSmrR_D sumSmrR_flat sumSmrR_r
end Go.Proofs.Ytlcblcjpebabkaa
