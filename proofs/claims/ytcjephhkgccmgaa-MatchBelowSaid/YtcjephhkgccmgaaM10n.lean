/- Layer 10: the greatest weight. -/
import Derived.Test.YtcjephhkgccmgaaM10m
namespace Go.Proofs.Ytcjephhkgccmgaa
open Go.Sx
set_option linter.unusedSimpArgs false
set_option maxHeartbeats 4000000
set_option maxRecDepth 20000

def bstP (l : List Node) (k : Int) (p : W3 × Bool) (x : Sel) : W3 × Bool := if isM l k x = true then (if p.2 = false ∨ abv (wtS x) p.1 = true then (wtS x, true) else p) else p
def bstF (l : List Node) (k : Int) (p : W3 × Bool) (s : List Sel) : W3 × Bool := s.foldl (bstP l k) p
theorem bstF_drop (l : List Node) (k : Int) (p : W3 × Bool) (s : List Sel) (n : Nat) (h : n < s.length) : bstF l k p (s.drop n) = bstF l k (bstP l k p (s.getD n [])) (s.drop (n + 1)) := by
  rw [List.drop_eq_getElem_cons h, List.getD_eq_getElem?_getD, List.getElem?_eq_getElem h]; rfl
theorem dSel_mk1 (s : Sel) : dSel (.agg [.slc 2 (s.map Cmp.enc)]) = s := dSelL_enc s
structure BsS where
  n : Nat
  w : W3
  b : Bool
  clk : Nat
theorem best_ok (l : List Node) (k : Int) (s : List Sel) (hl : l.length ≤ 1000) (hn : okNs l) (hs : okM s) : PCall Try.prog 17 [nodes l, vi k, sels s] (.tup [.agg (bstF l k (⟨0, 0, 0⟩, false) s).1.enc, vb (bstF l k (⟨0, 0, 0⟩, false) s).2]) := by
  refine PCall.of (Orc.cons sumIsM (Orc.cons sumWgtT (Orc.cons sumAbv (Orc.nil _)))) c17_ok (by simp [c17]) fun w0 own0 => ?_
  obtain ⟨hs1, hs2⟩ := hs
  simp only [c17, nodes, sels, sumIsM_f, sumIsM_D, sumIsM_flat, sumIsM_r, sumWgtT_f, sumWgtT_D, sumWgtT_flat, sumWgtT_r, sumAbv_f, sumAbv_D, sumAbv_flat, sumAbv_r, go_sem, wpR_gcall, reduceCtorEq, reduceIte, Nat.reduceEqDiff, Nat.reduceAdd, Nat.reduceSub, Nat.reduceMul, Nat.reduceLT, Nat.reduceLeDiff, Nat.reduceBEq, Int.reduceEq, Int.reduceLT, Int.reduceLE, Int.reduceAdd, Int.reduceSub, Int.reduceNeg, Int.reduceToNat]
  refine SemC.lp (α := BsS) (fun a => [(0, .slc 6 (l.map Node.enc)), (1, vi k), (6, .ptr 0 0 0 0), (8, .ptr 1 1 0 0), (9, vb a.b), (13, .slc 1 (s.map selE)), (14, vi s.length), (15, vi a.n)])
    (fun a => ⟨[⟨0, 3, [[vi 0, vi 0, vi 0]], false, []⟩, ⟨1, 3, [a.w.enc], false, []⟩], a.clk⟩)
    (fun a => a.n ≤ s.length ∧ bstF l k (⟨0, 0, 0⟩, false) s = bstF l k (a.w, a.b) (s.drop a.n)) (fun a => s.length - a.n) ⟨0, ⟨0, 0, 0⟩, false, 2⟩ ⟨Nat.zero_le _, rfl⟩ (St.cut (by simp [Agrees, upd_at, initE_at]) rfl rfl) fun a ha => ?_
  obtain ⟨n, w, b, clk⟩ := a
  simp only at ha
  obtain ⟨k1, k2⟩ := ha
  by_cases he : n = s.length
  · subst he
    rw [List.drop_length] at k2
    have e : bstF l k (⟨0, 0, 0⟩, false) s = (w, b) := k2
    simp only [W3.enc, Int.lt_irrefl, e, sumIsM_f, sumIsM_D, sumIsM_flat, sumIsM_r, sumWgtT_f, sumWgtT_D, sumWgtT_flat, sumWgtT_r, sumAbv_f, sumAbv_D, sumAbv_flat, sumAbv_r, go_sem, wpR_gcall, reduceCtorEq, reduceIte, Nat.reduceEqDiff, Nat.reduceAdd, Nat.reduceSub, Nat.reduceMul, Nat.reduceLT, Nat.reduceLeDiff, Nat.reduceBEq, Int.reduceEq, Int.reduceLT, Int.reduceLE, Int.reduceAdd, Int.reduceSub, Int.reduceNeg, Int.reduceToNat]
    rfl
  · have e1 : (n : Int) < (s.length : Int) := by omega
    have e0 : (0 : Int) ≤ (n : Int) := by omega
    have hlt : n < s.length := by omega
    have hg := getD_sels s n [.c (.slice none 0 0)] hlt
    have ho := hs2 n hlt
    rw [bstF_drop l k _ s n hlt] at k2
    generalize hx : s.getD n [] = x at *
    cases hi : isM l k x with
    | false =>
      have hp : bstP l k (w, b) x = (w, b) := by unfold bstP; rw [hi, if_neg (by simp)]
      rw [hp] at k2
      simp only [W3.enc, e0, e1, hg, selE, nodes, dNodes_map, dSel_mk, hl, hn, ho, hi, sumIsM_f, sumIsM_D, sumIsM_flat, sumIsM_r, sumWgtT_f, sumWgtT_D, sumWgtT_flat, sumWgtT_r, sumAbv_f, sumAbv_D, sumAbv_flat, sumAbv_r, go_sem, wpR_gcall, reduceCtorEq, reduceIte, Nat.reduceEqDiff, Nat.reduceAdd, Nat.reduceSub, Nat.reduceMul, Nat.reduceLT, Nat.reduceLeDiff, Nat.reduceBEq, Int.reduceEq, Int.reduceLT, Int.reduceLE, Int.reduceAdd, Int.reduceSub, Int.reduceNeg, Int.reduceToNat]
      exact ⟨by omega, ⟨n + 1, w, b, clk + 1⟩, ⟨by dsimp only; omega, k2⟩, by dsimp only; omega, ⟨rfl, by dsimp only; omega⟩, ⟨rfl, rfl, rfl⟩, rfl⟩
    | true =>
      have hp : bstP l k (w, b) x = if b = false ∨ abv (wtS x) w = true then (wtS x, true) else (w, b) := by unfold bstP; rw [hi, if_pos rfl]
      rw [hp] at k2
      generalize hu : wtS x = u at *
      cases b with
      | false =>
        rw [if_pos (.inl rfl)] at k2
        simp only [W3.enc, e0, e1, hg, selE, nodes, dNodes_map, dSel_mk, hl, hn, ho, hi, hu, dW3_mk, W3.eta, on_gcall, off_gcall, flat_gcall, sumIsM_f, sumIsM_D, sumIsM_flat, sumIsM_r, sumWgtT_f, sumWgtT_D, sumWgtT_flat, sumWgtT_r, sumAbv_f, sumAbv_D, sumAbv_flat, sumAbv_r, go_sem, reduceCtorEq, reduceIte, Nat.reduceEqDiff, Nat.reduceAdd, Nat.reduceSub, Nat.reduceMul, Nat.reduceLT, Nat.reduceLeDiff, Nat.reduceBEq, Int.reduceEq, Int.reduceLT, Int.reduceLE, Int.reduceAdd, Int.reduceSub, Int.reduceNeg, Int.reduceToNat]
        exact ⟨by omega, ⟨n + 1, u, true, clk + 2⟩, ⟨by dsimp only; omega, k2⟩, by dsimp only; omega, ⟨rfl, by dsimp only; omega⟩, ⟨rfl, rfl, rfl⟩, rfl⟩
      | true =>
        cases hab : abv u w with
        | true =>
          rw [if_pos (.inr hab)] at k2
          simp only [W3.enc, e0, e1, hg, selE, nodes, dNodes_map, dSel_mk, hl, hn, ho, hi, hu, hab, dW3_mk, W3.eta, on_gcall, off_gcall, flat_gcall, sumIsM_f, sumIsM_D, sumIsM_flat, sumIsM_r, sumWgtT_f, sumWgtT_D, sumWgtT_flat, sumWgtT_r, sumAbv_f, sumAbv_D, sumAbv_flat, sumAbv_r, go_sem, reduceCtorEq, reduceIte, Nat.reduceEqDiff, Nat.reduceAdd, Nat.reduceSub, Nat.reduceMul, Nat.reduceLT, Nat.reduceLeDiff, Nat.reduceBEq, Int.reduceEq, Int.reduceLT, Int.reduceLE, Int.reduceAdd, Int.reduceSub, Int.reduceNeg, Int.reduceToNat]
          exact ⟨by omega, ⟨n + 1, u, true, clk + 2⟩, ⟨by dsimp only; omega, k2⟩, by dsimp only; omega, ⟨rfl, by dsimp only; omega⟩, ⟨rfl, rfl, rfl⟩, rfl⟩
        | false =>
          rw [if_neg (by rw [hab]; simp)] at k2
          simp only [W3.enc, e0, e1, hg, selE, nodes, dNodes_map, dSel_mk, hl, hn, ho, hi, hu, hab, dW3_mk, W3.eta, on_gcall, off_gcall, flat_gcall, sumIsM_f, sumIsM_D, sumIsM_flat, sumIsM_r, sumWgtT_f, sumWgtT_D, sumWgtT_flat, sumWgtT_r, sumAbv_f, sumAbv_D, sumAbv_flat, sumAbv_r, go_sem, reduceCtorEq, reduceIte, Nat.reduceEqDiff, Nat.reduceAdd, Nat.reduceSub, Nat.reduceMul, Nat.reduceLT, Nat.reduceLeDiff, Nat.reduceBEq, Int.reduceEq, Int.reduceLT, Int.reduceLE, Int.reduceAdd, Int.reduceSub, Int.reduceNeg, Int.reduceToNat]
          exact ⟨by omega, ⟨n + 1, w, true, clk + 2⟩, ⟨by dsimp only; omega, k2⟩, by dsimp only; omega, ⟨rfl, by dsimp only; omega⟩, ⟨rfl, rfl, rfl⟩, rfl⟩
def sumBest : Sum Try.prog := ⟨17, fun args => args = [nodes (dNodes (args.getD 0 .any)), vi ((args.getD 1 .any).int), sels (dSels (args.getD 2 .any))] ∧ ((dNodes (args.getD 0 .any))).length ≤ 1000 ∧ okNs (dNodes (args.getD 0 .any)) ∧ okM (dSels (args.getD 2 .any)), fun args => .tup [.agg (bstF (dNodes (args.getD 0 .any)) ((args.getD 1 .any).int) (⟨0, 0, 0⟩, false) (dSels (args.getD 2 .any))).1.enc, vb (bstF (dNodes (args.getD 0 .any)) ((args.getD 1 .any).int) (⟨0, 0, 0⟩, false) (dSels (args.getD 2 .any))).2], fun args h => by
  have := best_ok (dNodes (args.getD 0 .any)) ((args.getD 1 .any).int) (dSels (args.getD 2 .any)) h.2.1 h.2.2.1 h.2.2.2; rwa [← h.1] at this, false⟩
theorem sumBest_f : sumBest.f = 17 := rfl
theorem sumBest_D (args : List V) : sumBest.D args = (args = [nodes (dNodes (args.getD 0 .any)), vi ((args.getD 1 .any).int), sels (dSels (args.getD 2 .any))] ∧ ((dNodes (args.getD 0 .any))).length ≤ 1000 ∧ okNs (dNodes (args.getD 0 .any)) ∧ okM (dSels (args.getD 2 .any))) := rfl
theorem sumBest_flat : sumBest.flat = false := rfl
theorem sumBest_r (args : List V) : sumBest.r args = .tup [.agg (bstF (dNodes (args.getD 0 .any)) ((args.getD 1 .any).int) (⟨0, 0, 0⟩, false) (dSels (args.getD 2 .any))).1.enc, vb (bstF (dNodes (args.getD 0 .any)) ((args.getD 1 .any).int) (⟨0, 0, 0⟩, false) (dSels (args.getD 2 .any))).2] := rfl
end Go.Proofs.Ytcjephhkgccmgaa
