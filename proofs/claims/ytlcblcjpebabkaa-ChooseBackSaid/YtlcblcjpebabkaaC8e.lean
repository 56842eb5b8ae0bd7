/- Layer 8: compounds and links in tokens. -/
import Derived.Test.YtlcblcjpebabkaaC8d
namespace Go.Proofs.Ytlcblcjpebabkaa
open Go.Sx
set_option linter.unusedSimpArgs false
set_option maxHeartbeats 4000000
set_option maxRecDepth 100000

def SmpD (v : List Tok) : Prop := v.length ≤ 1000000 ∧ ∀ k, k ≤ v.length → PCall Try.prog 55 [toks v, ints (endsA v), vi k] (srV (smpR v k)) ∧ ((smpR v k).ok = true → k < (smpR v k).to ∧ (smpR v k).to ≤ v.length)
theorem smpD_at {v : List Tok} {k : Int} (h0 : 0 ≤ k) (h1 : k ≤ v.length) (h : SmpD v) : PCall Try.prog 55 [toks v, ints (endsA v), vi k] (srV (smpR v k.toNat)) := by
  have := (h.2 k.toNat (by omega)).1; rwa [Int.toNat_of_nonneg h0] at this
def sumSmp : Sum Try.prog := ⟨55, fun args => args = [toks (dToks (args.getD 0 .any)), ints (endsA (dToks (args.getD 0 .any))), vi ((args.getD 2 .any).int)] ∧ 0 ≤ ((args.getD 2 .any).int) ∧ ((args.getD 2 .any).int) ≤ ((dToks (args.getD 0 .any))).length ∧ SmpD (dToks (args.getD 0 .any)), fun args => srV (smpR (dToks (args.getD 0 .any)) (((args.getD 2 .any).int)).toNat), fun args h => by
  have := smpD_at h.2.1 h.2.2.1 h.2.2.2; rwa [← h.1] at this, false⟩
theorem sumSmp_f : sumSmp.f = 55 := rfl
theorem sumSmp_D (args : List V) : sumSmp.D args = (args = [toks (dToks (args.getD 0 .any)), ints (endsA (dToks (args.getD 0 .any))), vi ((args.getD 2 .any).int)] ∧ 0 ≤ ((args.getD 2 .any).int) ∧ ((args.getD 2 .any).int) ≤ ((dToks (args.getD 0 .any))).length ∧ SmpD (dToks (args.getD 0 .any))) := rfl
theorem sumSmp_flat : sumSmp.flat = false := rfl
theorem sumSmp_r (args : List V) : sumSmp.r args = srV (smpR (dToks (args.getD 0 .any)) (((args.getD 2 .any).int)).toNat) := rfl
attribute [go_sem] sumSmp_f sumSmp_D sumSmp_flat sumSmp_r
theorem res10_ref8 (S : Nat → Bool) (h : Heap) (j ver off len : Nat) : res S h 10 (.ref j ver off len) =
    if S j && h.cur j ver && decide (off + len ≤ (h.blk j).es.length) then (mapO (mapO (res S h 9)) (((h.blk j).es.drop off).take len)).map (.slc (h.blk j).sz) else none := rfl
theorem mapO_smp9 (S : Nat → Bool) (h : Heap) (l : List Smp) : mapO (mapO (res S h 9)) (l.map Smp.enc) = some (l.map Smp.enc) := mapO_flat S h 8 _ (fun _ => rfl) l
def cmpF (v : List Tok) : Nat → Nat → List Smp → List Smp × Nat
  | 0, k, L => (L, k)
  | f + 1, k, L => if (smpR v k).ok = false ∨ (0 < L.length ∧ (smpR v k).s.kind ≤ 2) then (L, k) else cmpF v f (smpR v k).to (L ++ [(smpR v k).s])
def cmpR (v : List Tok) (k : Nat) : List Smp × Nat := cmpF v (v.length + 1) k []
def crV (r : List Smp × Nat) : V := .tup [.agg [vi 0, .slc 3 (r.1.map Smp.enc)], vi r.2, vb (decide ((0 : Int) < (r.1.length : Int)))]
structure CdS8 where
  k : Nat
  L : List Smp
  f : Nat
  ver : Nat
  clk : Nat
theorem compound_ok (v : List Tok) (hS : SmpD v) (k : Nat) (hk : k ≤ v.length) : PCall Try.prog 42 [toks v, ints (endsA v), vi k] (crV (cmpR v k)) := by
  refine PCall.of (Orc.cons sumSmp (Orc.nil _)) c42_ok (by simp [c42]) fun w0 own0 => ?_
  have hl := hS.1
  unfold cmpR
  generalize hR : cmpF v (v.length + 1) k [] = R
  simp only [c42, toks, ints, go_sem, wpR_gcall, reduceCtorEq, reduceIte, Nat.reduceEqDiff, Nat.reduceAdd, Nat.reduceSub, Nat.reduceMul, Nat.reduceLT, Nat.reduceLeDiff, Nat.reduceBEq, Int.reduceEq, Int.reduceLT, Int.reduceLE, Int.reduceAdd, Int.reduceSub, Int.reduceNeg, Int.reduceToNat]
  refine SemC.lp (α := CdS8) (fun x => [(0, .slc 3 (v.map Tok.enc)), (1, .slc 1 ((endsA v).map fun n => [vi n])), (2, vi x.k), (6, .ptr 0 0 0 0), (9, .ptr 1 1 0 0)])
    (fun x => ⟨[⟨0, 2, [[vi 0, vnil]], false, []⟩, ⟨1, 2, [[vi 0, .ref 2 x.ver 0 x.L.length]], false, []⟩, ⟨x.ver, 3, x.L.map Smp.enc, false, [vi 0, vs ⟨#[]⟩, vs ⟨#[]⟩]⟩], x.clk⟩)
    (fun x => x.k ≤ v.length ∧ x.L.length ≤ x.k ∧ v.length + 1 ≤ x.f + x.k ∧ cmpF v x.f x.k x.L = R) (fun x => v.length - x.k) ⟨k, [], v.length + 1, 2, 3⟩
    ⟨hk, by simp, by dsimp only; omega, hR⟩ (St.cell 1 0 1 3 [vi 0, vs ⟨#[]⟩, vs ⟨#[]⟩] rfl rfl (St.cut ?_ ?_ ?_)) fun x hx => ?_
  · simp [Agrees, upd_at, initE_at]
  · simp [Heap.alloc]
  · rfl
  obtain ⟨k, L, f, ver, clk⟩ := x
  obtain ⟨h1, h2, h3, h4⟩ := hx
  simp only at h1 h2 h3 h4
  obtain ⟨f, rfl⟩ : ∃ g, f = g + 1 := ⟨f - 1, by omega⟩
  have e0 : (0 : Int) ≤ (k : Int) := by omega
  have e1 : (k : Int) ≤ (v.length : Int) := by omega
  have hr := (hS.2 k h1).2
  have htl : L.take L.length = L := List.take_length
  simp only [cmpF] at h4
  generalize hrr : smpR v k = r at *
  obtain ⟨⟨kd, tx, vl⟩, to, ok⟩ := r
  simp only at hr h4
  cases ok with
  | false =>
    rw [if_pos (.inl rfl)] at h4
    subst h4
    simp only [e0, e1, hrr, hS, hl, htl, mapO_smp9, res10_ref8, Nat.le_refl, ← List.map_take, srV, crV, Smp.enc, dToks_map, toks, ints, Int.toNat_natCast, res11_agg8, wpC_seq_xreg, wpC_xreg, wpXR_nil, wpXR_own, wpXR_flu, xeOK, xe, argTops, openArgs, Orc.ppre_cons, Orc.pr_cons, Orc.ppre_econs, Orc.pr_econs, Orc.ppre_fcons, Orc.pr_fcons, Orc.ppre_gcons, Orc.pr_gcons, List.head?_cons, List.headD_cons, XE.val, XE.heap, efO, shutArgs, xfoot, footO, V.tops, V.top1, clashOne, noClash, Orc.flat_fcons, Orc.pre_fcons, Orc.v_fcons, Orc.hp_fcons, Orc.qpre_fcons, Orc.qv_fcons, Orc.fpre_fcons, Orc.fes_fcons, Orc.flat_gcons, Orc.pre_gcons, Orc.v_gcons, Orc.hp_gcons, Orc.qpre_gcons, Orc.qv_gcons, Orc.fpre_gcons, Orc.fes_gcons, GSum.pre, GSum.v, GSum.hp, Orc.fpre_cons, Orc.fes_cons, Orc.fpre_econs, Orc.fes_econs, FSum.pre, FSum.v, FSum.hp, fres, O.calls, List.flatMap_cons, List.flatMap_nil, List.contains_cons, List.contains_nil, Bool.not_true, Bool.not_false, Heap.freeze, List.mapIdx_cons, List.mapIdx_nil, List.elem_cons, List.elem_nil, fluP, fluV, evF, bne_iff_ne, ne_eq, Option.some.injEq, on_gcall, off_gcall, flat_gcall, go_sem, reduceCtorEq, reduceIte, Nat.reduceEqDiff, Nat.reduceAdd, Nat.reduceSub, Nat.reduceMul, Nat.reduceLT, Nat.reduceLeDiff, Nat.reduceBEq, Int.reduceEq, Int.reduceLT, Int.reduceLE, Int.reduceAdd, Int.reduceSub, Int.reduceNeg, Int.reduceToNat]
  | true =>
    by_cases hL : 0 < L.length ∧ kd ≤ 2
    · rw [if_pos (.inr hL)] at h4
      subst h4
      have q1 : (0 : Int) < (L.length : Int) := by omega
      have q2 := eq_true hL.2
      simp only [e0, e1, q1, q2, hrr, hS, hl, htl, mapO_smp9, res10_ref8, Nat.le_refl, ← List.map_take, srV, crV, Smp.enc, dToks_map, toks, ints, Int.toNat_natCast, res11_agg8, wpC_seq_xreg, wpC_xreg, wpXR_nil, wpXR_own, wpXR_flu, xeOK, xe, argTops, openArgs, Orc.ppre_cons, Orc.pr_cons, Orc.ppre_econs, Orc.pr_econs, Orc.ppre_fcons, Orc.pr_fcons, Orc.ppre_gcons, Orc.pr_gcons, List.head?_cons, List.headD_cons, XE.val, XE.heap, efO, shutArgs, xfoot, footO, V.tops, V.top1, clashOne, noClash, Orc.flat_fcons, Orc.pre_fcons, Orc.v_fcons, Orc.hp_fcons, Orc.qpre_fcons, Orc.qv_fcons, Orc.fpre_fcons, Orc.fes_fcons, Orc.flat_gcons, Orc.pre_gcons, Orc.v_gcons, Orc.hp_gcons, Orc.qpre_gcons, Orc.qv_gcons, Orc.fpre_gcons, Orc.fes_gcons, GSum.pre, GSum.v, GSum.hp, Orc.fpre_cons, Orc.fes_cons, Orc.fpre_econs, Orc.fes_econs, FSum.pre, FSum.v, FSum.hp, fres, O.calls, List.flatMap_cons, List.flatMap_nil, List.contains_cons, List.contains_nil, Bool.not_true, Bool.not_false, Heap.freeze, List.mapIdx_cons, List.mapIdx_nil, List.elem_cons, List.elem_nil, fluP, fluV, evF, bne_iff_ne, ne_eq, Option.some.injEq, on_gcall, off_gcall, flat_gcall, go_sem, reduceCtorEq, reduceIte, Nat.reduceEqDiff, Nat.reduceAdd, Nat.reduceSub, Nat.reduceMul, Nat.reduceLT, Nat.reduceLeDiff, Nat.reduceBEq, Int.reduceEq, Int.reduceLT, Int.reduceLE, Int.reduceAdd, Int.reduceSub, Int.reduceNeg, Int.reduceToNat]
    · rw [if_neg (fun hh => by rcases hh with h | h; · cases h
                               · exact hL h)] at h4
      obtain ⟨g1, g2⟩ := hr rfl
      by_cases q1 : 0 < L.length
      · have q2 := eq_false (fun h => hL ⟨q1, h⟩)
        have q1 : (0 : Int) < (L.length : Int) := by omega
        simp only [e0, e1, q1, q2, hrr, hS, hl, htl, mapO_smp9, res10_ref8, Nat.le_refl, ← List.map_take, srV, crV, Smp.enc, dToks_map, toks, ints, Int.toNat_natCast, res11_agg8, wpC_seq_xreg, wpC_xreg, wpXR_nil, wpXR_own, wpXR_flu, xeOK, xe, argTops, openArgs, Orc.ppre_cons, Orc.pr_cons, Orc.ppre_econs, Orc.pr_econs, Orc.ppre_fcons, Orc.pr_fcons, Orc.ppre_gcons, Orc.pr_gcons, List.head?_cons, List.headD_cons, XE.val, XE.heap, efO, shutArgs, xfoot, footO, V.tops, V.top1, clashOne, noClash, Orc.flat_fcons, Orc.pre_fcons, Orc.v_fcons, Orc.hp_fcons, Orc.qpre_fcons, Orc.qv_fcons, Orc.fpre_fcons, Orc.fes_fcons, Orc.flat_gcons, Orc.pre_gcons, Orc.v_gcons, Orc.hp_gcons, Orc.qpre_gcons, Orc.qv_gcons, Orc.fpre_gcons, Orc.fes_gcons, GSum.pre, GSum.v, GSum.hp, Orc.fpre_cons, Orc.fes_cons, Orc.fpre_econs, Orc.fes_econs, FSum.pre, FSum.v, FSum.hp, fres, O.calls, List.flatMap_cons, List.flatMap_nil, List.contains_cons, List.contains_nil, Bool.not_true, Bool.not_false, Heap.freeze, List.mapIdx_cons, List.mapIdx_nil, List.elem_cons, List.elem_nil, fluP, fluV, evF, bne_iff_ne, ne_eq, Option.some.injEq, on_gcall, off_gcall, flat_gcall, go_sem, reduceCtorEq, reduceIte, Nat.reduceEqDiff, Nat.reduceAdd, Nat.reduceSub, Nat.reduceMul, Nat.reduceLT, Nat.reduceLeDiff, Nat.reduceBEq, Int.reduceEq, Int.reduceLT, Int.reduceLE, Int.reduceAdd, Int.reduceSub, Int.reduceNeg, Int.reduceToNat]
        exact ⟨⟨by omega, by omega⟩, ⟨to, L ++ [⟨kd, tx, vl⟩], f, clk + 1 + 1, clk + 1 + 1 + 1⟩, ⟨g2, by simp; omega, by dsimp only; omega, h4⟩, by dsimp only; omega, by simp [Smp.enc]⟩
      · have q1 := eq_false (show ¬ (0 : Int) < (L.length : Int) by omega)
        simp only [e0, e1, q1, hrr, hS, hl, htl, mapO_smp9, res10_ref8, Nat.le_refl, ← List.map_take, srV, crV, Smp.enc, dToks_map, toks, ints, Int.toNat_natCast, res11_agg8, wpC_seq_xreg, wpC_xreg, wpXR_nil, wpXR_own, wpXR_flu, xeOK, xe, argTops, openArgs, Orc.ppre_cons, Orc.pr_cons, Orc.ppre_econs, Orc.pr_econs, Orc.ppre_fcons, Orc.pr_fcons, Orc.ppre_gcons, Orc.pr_gcons, List.head?_cons, List.headD_cons, XE.val, XE.heap, efO, shutArgs, xfoot, footO, V.tops, V.top1, clashOne, noClash, Orc.flat_fcons, Orc.pre_fcons, Orc.v_fcons, Orc.hp_fcons, Orc.qpre_fcons, Orc.qv_fcons, Orc.fpre_fcons, Orc.fes_fcons, Orc.flat_gcons, Orc.pre_gcons, Orc.v_gcons, Orc.hp_gcons, Orc.qpre_gcons, Orc.qv_gcons, Orc.fpre_gcons, Orc.fes_gcons, GSum.pre, GSum.v, GSum.hp, Orc.fpre_cons, Orc.fes_cons, Orc.fpre_econs, Orc.fes_econs, FSum.pre, FSum.v, FSum.hp, fres, O.calls, List.flatMap_cons, List.flatMap_nil, List.contains_cons, List.contains_nil, Bool.not_true, Bool.not_false, Heap.freeze, List.mapIdx_cons, List.mapIdx_nil, List.elem_cons, List.elem_nil, fluP, fluV, evF, bne_iff_ne, ne_eq, Option.some.injEq, on_gcall, off_gcall, flat_gcall, go_sem, reduceCtorEq, reduceIte, Nat.reduceEqDiff, Nat.reduceAdd, Nat.reduceSub, Nat.reduceMul, Nat.reduceLT, Nat.reduceLeDiff, Nat.reduceBEq, Int.reduceEq, Int.reduceLT, Int.reduceLE, Int.reduceAdd, Int.reduceSub, Int.reduceNeg, Int.reduceToNat]
        exact ⟨⟨by omega, by omega⟩, ⟨to, L ++ [⟨kd, tx, vl⟩], f, clk + 1 + 1, clk + 1 + 1 + 1⟩, ⟨g2, by simp; omega, by dsimp only; omega, h4⟩, by dsimp only; omega, by simp [Smp.enc]⟩
def lnkF (v : List Tok) : Nat → Nat → Int → Int × Nat
  | 0, k, n => (n, k)
  | f + 1, k, n => if knd v k = 1 ∨ (n ≠ 2 ∧ dlm v k ⟨#[62]⟩ = true) then lnkF v f (k + 1) (if knd v k = 11 then 2 else if n < 1 then 1 else n) else (n, k)
def lnkR (v : List Tok) (k : Nat) : Int × Nat := lnkF v (v.length + 1) k 0
structure LkS8 where
  k : Nat
  n : Int
  f : Nat
theorem link_ok (v : List Tok) (hl : v.length ≤ 1000000) (k : Nat) (hk : k ≤ v.length) : PCall Try.prog 43 [toks v, vi k] (.tup [vi (lnkR v k).1, vi (lnkR v k).2]) := by
  refine PCall.of (Orc.cons sumKnd (Orc.cons sumDlm (Orc.nil _))) c43_ok (by simp [c43]) fun w0 own0 => ?_
  unfold lnkR
  generalize hR : lnkF v (v.length + 1) k 0 = R
  simp only [c43, toks, on_gcall, off_gcall, flat_gcall, go_sem, reduceCtorEq, reduceIte, Nat.reduceEqDiff, Nat.reduceAdd, Nat.reduceSub, Nat.reduceMul, Nat.reduceLT, Nat.reduceLeDiff, Nat.reduceBEq, Int.reduceEq, Int.reduceLT, Int.reduceLE, Int.reduceAdd, Int.reduceSub, Int.reduceNeg, Int.reduceToNat]
  refine SemC.lp (α := LkS8) (fun x => [(0, .slc 3 (v.map Tok.enc)), (1, vi x.k), (6, vi x.n)]) (fun _ => ⟨[], 0⟩)
    (fun x => x.k ≤ v.length ∧ (x.n = 0 ∨ x.n = 1 ∨ x.n = 2) ∧ v.length + 1 ≤ x.f + x.k ∧ lnkF v x.f x.k x.n = R) (fun x => v.length - x.k) ⟨k, 0, v.length + 1⟩
    ⟨hk, .inl rfl, by dsimp only; omega, hR⟩ (St.cut ?_ ?_ ?_) fun x hx => ?_
  · simp [Agrees, upd_at, initE_at]
  · simp [Heap.alloc]
  · rfl
  obtain ⟨k, n, f⟩ := x
  obtain ⟨h1, h2, h3, h4⟩ := hx
  simp only at h1 h2 h3 h4
  obtain ⟨f, rfl⟩ : ∃ g, f = g + 1 := ⟨f - 1, by omega⟩
  have e0 : (0 : Int) ≤ (k : Int) := by omega
  have hg := getD_tokC v k
  simp only [lnkF] at h4
  have key : ∀ m : Int, (m = 0 ∨ m = 1 ∨ m = 2) → k < v.length → lnkF v f (k + 1) m = R → ∃ x : LkS8, (x.k ≤ v.length ∧ (x.n = 0 ∨ x.n = 1 ∨ x.n = 2) ∧ v.length + 1 ≤ x.f + x.k ∧ lnkF v x.f x.k x.n = R) ∧ v.length - x.k < v.length - k ∧ (k : Int) + 1 = x.k ∧ m = x.n :=
    fun m hm hkl hR => ⟨⟨k + 1, m, f⟩, ⟨by dsimp only; omega, hm, by dsimp only; omega, hR⟩, by dsimp only; omega, by dsimp only; omega, rfl⟩
  by_cases c1 : knd v k = 1
  · obtain ⟨hkl, hk1⟩ := knd_lt c1 (by decide)
    have e2 : (k : Int) < (v.length : Int) := by omega
    rw [if_pos (.inl c1), if_neg (by omega)] at h4
    have c1 := eq_true c1; have hk11 := eq_true hk1
    rcases h2 with rfl | rfl | rfl
    · simp only [e0, e2, c1, hk1, hg, toks, dToks_map, Int.toNat_natCast, Tok.enc, on_gcall, off_gcall, flat_gcall, go_sem, reduceCtorEq, reduceIte, Nat.reduceEqDiff, Nat.reduceAdd, Nat.reduceSub, Nat.reduceMul, Nat.reduceLT, Nat.reduceLeDiff, Nat.reduceBEq, Int.reduceEq, Int.reduceLT, Int.reduceLE, Int.reduceAdd, Int.reduceSub, Int.reduceNeg, Int.reduceToNat]
      exact ⟨by omega, key 1 (by omega) hkl h4⟩
    · simp only [e0, e2, c1, hk1, hg, toks, dToks_map, Int.toNat_natCast, Tok.enc, on_gcall, off_gcall, flat_gcall, go_sem, reduceCtorEq, reduceIte, Nat.reduceEqDiff, Nat.reduceAdd, Nat.reduceSub, Nat.reduceMul, Nat.reduceLT, Nat.reduceLeDiff, Nat.reduceBEq, Int.reduceEq, Int.reduceLT, Int.reduceLE, Int.reduceAdd, Int.reduceSub, Int.reduceNeg, Int.reduceToNat]
      exact ⟨by omega, key 1 (by omega) hkl h4⟩
    · simp only [e0, e2, c1, hk1, hg, toks, dToks_map, Int.toNat_natCast, Tok.enc, on_gcall, off_gcall, flat_gcall, go_sem, reduceCtorEq, reduceIte, Nat.reduceEqDiff, Nat.reduceAdd, Nat.reduceSub, Nat.reduceMul, Nat.reduceLT, Nat.reduceLeDiff, Nat.reduceBEq, Int.reduceEq, Int.reduceLT, Int.reduceLE, Int.reduceAdd, Int.reduceSub, Int.reduceNeg, Int.reduceToNat]
      exact ⟨by omega, key 2 (by omega) hkl h4⟩
  · by_cases c2 : n ≠ 2 ∧ dlm v k ⟨#[62]⟩ = true
    · obtain ⟨c2, c3⟩ := c2
      have hd := of_decide_eq_true c3
      have e2 : (k : Int) < (v.length : Int) := by omega
      have hk11 : knd v k = 11 := by unfold knd; rw [if_pos hd.1]; exact hd.2.1
      have hk1 := hd.2.1
      rw [if_pos (.inr ⟨c2, c3⟩), if_pos hk11] at h4
      have c1 := eq_false c1
      rcases h2 with rfl | rfl | rfl
      · simp only [e0, e2, c1, c3, hk1, hg, toks, dToks_map, Int.toNat_natCast, Tok.enc, on_gcall, off_gcall, flat_gcall, go_sem, reduceCtorEq, reduceIte, Nat.reduceEqDiff, Nat.reduceAdd, Nat.reduceSub, Nat.reduceMul, Nat.reduceLT, Nat.reduceLeDiff, Nat.reduceBEq, Int.reduceEq, Int.reduceLT, Int.reduceLE, Int.reduceAdd, Int.reduceSub, Int.reduceNeg, Int.reduceToNat]
        exact ⟨by omega, key 2 (by omega) hd.1 h4⟩
      · simp only [e0, e2, c1, c3, hk1, hg, toks, dToks_map, Int.toNat_natCast, Tok.enc, on_gcall, off_gcall, flat_gcall, go_sem, reduceCtorEq, reduceIte, Nat.reduceEqDiff, Nat.reduceAdd, Nat.reduceSub, Nat.reduceMul, Nat.reduceLT, Nat.reduceLeDiff, Nat.reduceBEq, Int.reduceEq, Int.reduceLT, Int.reduceLE, Int.reduceAdd, Int.reduceSub, Int.reduceNeg, Int.reduceToNat]
        exact ⟨by omega, key 2 (by omega) hd.1 h4⟩
      · exact absurd rfl c2
    · rw [if_neg (by rintro (h | h); · exact c1 h
                     · exact c2 h)] at h4
      subst h4
      have c1 := eq_false c1
      by_cases c3 : n = 2
      · subst c3
        simp only [e0, c1, toks, dToks_map, Int.toNat_natCast, Tok.enc, on_gcall, off_gcall, flat_gcall, go_sem, reduceCtorEq, reduceIte, Nat.reduceEqDiff, Nat.reduceAdd, Nat.reduceSub, Nat.reduceMul, Nat.reduceLT, Nat.reduceLeDiff, Nat.reduceBEq, Int.reduceEq, Int.reduceLT, Int.reduceLE, Int.reduceAdd, Int.reduceSub, Int.reduceNeg, Int.reduceToNat]
      · have c4 : dlm v k ⟨#[62]⟩ = false := by
          cases hh : dlm v k ⟨#[62]⟩ with
          | false => rfl
          | true => exact absurd ⟨c3, hh⟩ c2
        have c3 := eq_false c3
        simp only [e0, c1, c3, c4, toks, dToks_map, Int.toNat_natCast, Tok.enc, on_gcall, off_gcall, flat_gcall, go_sem, reduceCtorEq, reduceIte, Nat.reduceEqDiff, Nat.reduceAdd, Nat.reduceSub, Nat.reduceMul, Nat.reduceLT, Nat.reduceLeDiff, Nat.reduceBEq, Int.reduceEq, Int.reduceLT, Int.reduceLE, Int.reduceAdd, Int.reduceSub, Int.reduceNeg, Int.reduceToNat]
end Go.Proofs.Ytlcblcjpebabkaa
