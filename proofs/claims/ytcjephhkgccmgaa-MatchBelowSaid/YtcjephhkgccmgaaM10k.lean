/- Layer 10: a selector as the document has it. -/
import Derived.Test.YtcjephhkgccmgaaM10j
namespace Go.Proofs.Ytcjephhkgccmgaa
open Go.Sx
set_option linter.unusedSimpArgs false
set_option maxHeartbeats 4000000
set_option maxRecDepth 20000

theorem getD_end {α : Type} (l : List α) (x d : α) : (l ++ [x]).getD l.length d = x := by simp [List.getD_eq_getElem?_getD]
theorem set_end {α : Type} (l : List α) (x y : α) : (l ++ [x]).set l.length y = l ++ [y] := by
  rw [List.set_append_right _ _ (Nat.le_refl _)]; simp
theorem smp_take (l : List Smp) (n : Nat) (h : n < l.length) : l.take (n + 1) = l.take n ++ [l.getD n default] := by
  rw [List.take_add_one, List.getD_eq_getElem?_getD, List.getElem?_eq_getElem h]; rfl
theorem cmp_take (l : List Cmp) (n : Nat) (h : n < l.length) : l.take (n + 1) = l.take n ++ [l.getD n default] := by
  rw [List.take_add_one, List.getD_eq_getElem?_getD, List.getElem?_eq_getElem h]; rfl
theorem mapO_smp10 (S : Nat → Bool) (h : Heap) : ∀ l : List Smp, mapO (mapO (res S h 10)) (l.map Smp.enc) = some (l.map Smp.enc)
  | [] => rfl
  | s :: l => by simp only [List.map_cons, mapO, mapO_smp10 S h l, Smp.enc]; rfl
theorem mapO_cmp11 (S : Nat → Bool) (h : Heap) : ∀ l : List Cmp, mapO (mapO (res S h 11)) (l.map Cmp.enc) = some (l.map Cmp.enc)
  | [] => rfl
  | s :: l => by simp only [List.map_cons, mapO, mapO_cmp11 S h l, Cmp.enc]; rfl
theorem mapO_cmp10 (S : Nat → Bool) (h : Heap) : ∀ l : List Cmp, mapO (mapO (res S h 10)) (l.map Cmp.enc) = some (l.map Cmp.enc)
  | [] => rfl
  | s :: l => by simp only [List.map_cons, mapO, mapO_cmp10 S h l, Cmp.enc]; rfl
structure GvS where
  n : Nat
  ver : Nat
  clk : Nat
theorem given10_ok (s : Sel) (hs : okC s) : PCall Try.prog 14 [.agg (selE s)] (.agg (selE s)) := by
  refine PCall.of (Orc.nil _) c14_ok (by simp [c14]) fun w0 own0 => ?_
  obtain ⟨hs1, hs2⟩ := hs
  simp only [c14, selE, go_sem, wpR_gcall, reduceCtorEq, reduceIte, Nat.reduceEqDiff, Nat.reduceAdd, Nat.reduceSub, Nat.reduceMul, Nat.reduceLT, Nat.reduceLeDiff, Nat.reduceBEq, Int.reduceEq, Int.reduceLT, Int.reduceLE, Int.reduceAdd, Int.reduceSub, Int.reduceNeg, Int.reduceToNat]
  refine SemC.lq (α := GvS) (fun a => [(2, .ptr 1 1 0 0), (3, .ptr 2 2 0 0), (10, .slc 2 (s.map Cmp.enc)), (11, vi s.length), (12, vi a.n)])
    (fun a => ⟨[⟨0, 1, [[.slc 2 (s.map Cmp.enc)]], false, []⟩, ⟨1, 1, [[vnil]], false, []⟩, ⟨2, 1, [[.ref 3 a.ver 0 a.n]], false, []⟩, ⟨a.ver, 2, (s.take a.n).map Cmp.enc, false, [vi 0, vnil]⟩], a.clk⟩)
    (fun a => a.n ≤ s.length) (fun a => s.length - a.n) ⟨0, 3, 4⟩ (Nat.zero_le _) (St.cell 2 0 0 2 [vi 0, vnil] rfl rfl (St.cut ?_ ?_ ?_)) fun a ha => ?_
  · simp [Agrees, upd_at, initE_at]
  · simp [Heap.alloc]
  · rfl
  obtain ⟨n, ver, clk⟩ := a
  simp only at ha
  by_cases he : n = s.length
  · subst he
    simp only [Int.lt_irrefl, List.take_length, Nat.le_refl, mapO_cmp10, go_sem, wpR_gcall, reduceCtorEq, reduceIte, Nat.reduceEqDiff, Nat.reduceAdd, Nat.reduceSub, Nat.reduceMul, Nat.reduceLT, Nat.reduceLeDiff, Nat.reduceBEq, Int.reduceEq, Int.reduceLT, Int.reduceLE, Int.reduceAdd, Int.reduceSub, Int.reduceNeg, Int.reduceToNat]
  · have e1 : (n : Int) < (s.length : Int) := by omega
    have e0 : (0 : Int) ≤ (n : Int) := by omega
    have hlt : n < s.length := by omega
    have hg := getD_cmps s n [.c (.int .i64 0), .c (.slice none 0 0)] hlt
    have hcl := hs2 n hlt
    have hts := cmp_take s n hlt
    have htl : (s.take n).length = n := by rw [List.length_take]; omega
    generalize hx : s.getD n default = c at *
    simp only [e0, e1, hg, Cmp.enc, go_sem, wpR_gcall, reduceCtorEq, reduceIte, Nat.reduceEqDiff, Nat.reduceAdd, Nat.reduceSub, Nat.reduceMul, Nat.reduceLT, Nat.reduceLeDiff, Nat.reduceBEq, Int.reduceEq, Int.reduceLT, Int.reduceLE, Int.reduceAdd, Int.reduceSub, Int.reduceNeg, Int.reduceToNat]
    refine SemC.lp (α := GvS) (fun a => [(2, .ptr 1 1 0 0), (3, .ptr 2 2 0 0), (6, .ptr 5 (clk + 1) 0 0), (10, .slc 2 (s.map Cmp.enc)), (11, vi s.length), (12, vi n), (20, .slc 3 (c.l.map Smp.enc)), (21, vi c.l.length), (22, vi a.n)])
      (fun a => ⟨[⟨0, 1, [[.slc 2 (s.map Cmp.enc)]], false, []⟩, ⟨1, 1, [[vnil]], false, []⟩, ⟨2, 1, [[.ref 3 ver 0 n]], false, []⟩, ⟨ver, 2, (s.take n).map Cmp.enc, false, [vi 0, vnil]⟩,
        ⟨clk, 2, [c.enc], false, []⟩, ⟨clk + 1, 2, [[vi c.link, .ref 6 a.ver 0 a.n]], false, []⟩, ⟨a.ver, 3, (c.l.take a.n).map Smp.enc, false, [vi 0, vs ⟨#[]⟩, vs ⟨#[]⟩]⟩], a.clk⟩)
      (fun a => a.n ≤ c.l.length) (fun a => c.l.length - a.n) ⟨0, clk + 2, clk + 3⟩ (Nat.zero_le _) (St.cell 5 0 1 3 [vi 0, vs ⟨#[]⟩, vs ⟨#[]⟩] rfl rfl (St.cut ?_ ?_ ?_)) fun a ha => ?_
    · simp [Agrees, upd_at, ev]
    · simp [Heap.alloc, Cmp.enc]
    · rfl
    obtain ⟨m, v2, clk2⟩ := a
    simp only at ha
    by_cases hm : m = c.l.length
    · subst hm
      simp only [Int.lt_irrefl, List.take_length, Cmp.enc, go_sem, wpR_gcall, reduceCtorEq, reduceIte, Nat.reduceEqDiff, Nat.reduceAdd, Nat.reduceSub, Nat.reduceMul, Nat.reduceLT, Nat.reduceLeDiff, Nat.reduceBEq, Int.reduceEq, Int.reduceLT, Int.reduceLE, Int.reduceAdd, Int.reduceSub, Int.reduceNeg, Int.reduceToNat]
      refine ⟨⟨by omega, by omega, by omega⟩, by omega, ⟨n + 1, clk2 + 1, clk2 + 2⟩, by dsimp only; omega, by dsimp only; omega, ?_⟩
      have hml : ((s.take n).map Cmp.enc).length = n := by simp; omega
      have htt : (s.take n).take n = s.take n := List.take_of_length_le (by omega)
      have hge := getD_end ((s.take n).map Cmp.enc) [vi c.link, V.ref 6 v2 0 c.l.length] []
      have hse := set_end ((s.take n).map Cmp.enc) [vi c.link, V.ref 6 v2 0 c.l.length] [vi c.link, .slc 3 (c.l.map Smp.enc)]
      rw [hml] at hge hse
      rw [htt]
      refine St.sealC (fun j => j == 6) 3 n 1 (y := .slc 3 (c.l.map Smp.enc)) rfl ?_ (St.cut ?_ ?_ ?_)
      · simp only [hge, List.getD_cons_zero, List.getD_cons_succ]
        rw [res11_ref]
        have ht3 : (c.l.map Smp.enc).take c.l.length = c.l.map Smp.enc := List.take_of_length_le (by simp)
        simp [Heap.cur, Heap.blk, ht3]
        exact mapO_smp10 _ _ c.l
      · simp [Agrees, upd_at, ev_cons]
      · simp only [Heap.freeze, List.mapIdx_cons, List.mapIdx_nil, List.set_cons_succ, List.set_cons_zero, List.length_cons, List.length_nil, Nat.zero_add, List.take_succ_cons, List.take_zero, hge, hse, hts, List.map_append, List.map_cons, List.map_nil]
        rfl
      · rfl
    · have f1 : (m : Int) < (c.l.length : Int) := by omega
      have f0 : (0 : Int) ≤ (m : Int) := by omega
      have hml : m < c.l.length := by omega
      have hgm := getD_smps c.l m
      have htm := smp_take c.l m hml
      have htl2 : (c.l.take m).length = m := by rw [List.length_take]; omega
      generalize hy : c.l.getD m default = y at *
      simp only [f0, f1, hgm, Cmp.enc, Smp.enc, htl2, go_sem, wpR_gcall, reduceCtorEq, reduceIte, Nat.reduceEqDiff, Nat.reduceAdd, Nat.reduceSub, Nat.reduceMul, Nat.reduceLT, Nat.reduceLeDiff, Nat.reduceBEq, Int.reduceEq, Int.reduceLT, Int.reduceLE, Int.reduceAdd, Int.reduceSub, Int.reduceNeg, Int.reduceToNat]
      have htt : (c.l.take m).take m = c.l.take m := List.take_of_length_le (by omega)
      refine ⟨⟨by omega, by omega, by omega⟩, by omega, ⟨m + 1, clk2 + 2, clk2 + 3⟩, by dsimp only; omega, by dsimp only; omega, by dsimp only; omega, ⟨⟨rfl, rfl⟩, rfl, ?_⟩, rfl⟩
      dsimp only
      rw [htt, htm, List.map_append]; rfl
def sumGiven10 : Sum Try.prog := ⟨14, fun args => args = [.agg (selE (dSel (args.getD 0 .any)))] ∧ okC (dSel (args.getD 0 .any)), fun args => .agg (selE (dSel (args.getD 0 .any))), fun args h => by
  have := given10_ok (dSel (args.getD 0 .any)) h.2; rwa [← h.1] at this, false⟩
theorem sumGiven10_f : sumGiven10.f = 14 := rfl
theorem sumGiven10_D (args : List V) : sumGiven10.D args = (args = [.agg (selE (dSel (args.getD 0 .any)))] ∧ okC (dSel (args.getD 0 .any))) := rfl
theorem sumGiven10_flat : sumGiven10.flat = false := rfl
theorem sumGiven10_r (args : List V) : sumGiven10.r args = .agg (selE (dSel (args.getD 0 .any))) := rfl
end Go.Proofs.Ytcjephhkgccmgaa
