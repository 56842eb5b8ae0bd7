/- The laws of layer 10: the last compounds; a child is below. -/
import Derived.Test.YtcjephhkgccmgaaM10s
namespace Go.Proofs.Ytcjephhkgccmgaa
open Go.Sx
set_option linter.unusedSimpArgs false
set_option maxHeartbeats 4000000
set_option maxRecDepth 20000

theorem getD_drop0 {α : Type} (l : List α) (i : Nat) (d : α) : (l.drop i).getD 0 d = l.getD i d := by
  simp [List.getD_eq_getElem?_getD]
theorem cut_enc (s : Sel) (i : Nat) : ((s.map Cmp.enc).drop i).set 0 [vi 0, .slc 3 ((s.getD i default).l.map Smp.enc)] = (cutS s i).map Cmp.enc := by
  unfold cutS
  rw [List.map_set, List.map_drop]; rfl
theorem cutS_okC {s : Sel} (h : okC s) {i : Nat} (hi : i < s.length) : okC (cutS s i) := by
  obtain ⟨h1, h2⟩ := h
  refine ⟨by rw [cutS_len]; omega, fun j hj => ?_⟩
  rw [cutS_len] at hj
  cases j with
  | zero => rw [cutS_zero s i hi]; exact h2 i hi
  | succ j => rw [cutS_succ]; exact h2 _ (by omega)
theorem matchLast_law (x : V) (h : CellOK (.slc nodeC) x) (y : List V) (hl : y.length = 1) (h2 : ∀ i c, selC[i]? = some c → CellOK c (y.getD i .any)) (z : V) (h3 : CellOK (.int .i64) z) : PCall Try.prog 6 [x, .agg y, z] (.c (.bool true)) := by
  obtain ⟨l, rfl⟩ := nodes_of h
  obtain ⟨s, rfl, hm⟩ := selL_of hl h2
  cases h3 with
  | int _ k hk =>
  refine PCall.of (Orc.cons sumFew9 (Orc.cons sumShort (Orc.cons sumAwake10 (Orc.cons sumIsM (Orc.nil _))))) c6_ok (by simp [c6]) fun w0 own0 => ?_
  have hds : dSels (.slc 1 [[.slc 2 (s.map Cmp.enc)]]) = [s] := dSels_map [s]
  have hb2 : 1 ≤ big := by decide
  by_cases hf : few9 l = true ∧ shrt [s] = true
  · obtain ⟨hf1, hf2⟩ := hf
    obtain ⟨l1, l2⟩ := few9_okNs hf1
    have hs := shrt_one hf2
    have l3 : l.length ≤ 1000 := by omega
    cases hi : isM l k s with
    | false => simp only [c6, nodes, selE, sels, dNodes_map, dSel_mk, hds, hf1, hf2, hb2, l2, l3, hs, hi, on_gcall, off_gcall, flat_gcall, sumFew9_f, sumFew9_D, sumFew9_flat, sumFew9_r, sumShort_f, sumShort_D, sumShort_flat, sumShort_r, sumAwake10_f, sumAwake10_D, sumAwake10_flat, sumAwake10_r, sumIsM_f, sumIsM_D, sumIsM_flat, sumIsM_r, go_sem, reduceCtorEq, reduceIte, Nat.reduceEqDiff, Nat.reduceAdd, Nat.reduceSub, Nat.reduceMul, Nat.reduceLT, Nat.reduceLeDiff, Nat.reduceBEq, Int.reduceEq, Int.reduceLT, Int.reduceLE, Int.reduceAdd, Int.reduceSub, Int.reduceNeg, Int.reduceToNat]
    | true =>
      simp only [c6, nodes, selE, sels, dNodes_map, dSel_mk, hds, hf1, hf2, hb2, l2, l3, hs, hi, on_gcall, off_gcall, flat_gcall, sumFew9_f, sumFew9_D, sumFew9_flat, sumFew9_r, sumShort_f, sumShort_D, sumShort_flat, sumShort_r, sumAwake10_f, sumAwake10_D, sumAwake10_flat, sumAwake10_r, sumIsM_f, sumIsM_D, sumIsM_flat, sumIsM_r, go_sem, reduceCtorEq, reduceIte, Nat.reduceEqDiff, Nat.reduceAdd, Nat.reduceSub, Nat.reduceMul, Nat.reduceLT, Nat.reduceLeDiff, Nat.reduceBEq, Int.reduceEq, Int.reduceLT, Int.reduceLE, Int.reduceAdd, Int.reduceSub, Int.reduceNeg, Int.reduceToNat]
      refine SemC.lp (α := LpS) (fun a => [(0, .slc 6 (l.map Node.enc)), (2, vi k), (4, .ptr 0 0 0 0), (28, vi s.length), (29, vi a.n)])
        (fun a => ⟨[⟨0, 1, [[.slc 2 (s.map Cmp.enc)]], false, []⟩], a.clk⟩) (fun a => a.n ≤ s.length) (fun a => s.length - a.n) ⟨0, 2⟩ (Nat.zero_le _) (St.cut (by simp [Agrees, upd_at, initE_at]) rfl rfl) fun a ha => ?_
      obtain ⟨n, clk⟩ := a
      simp only at ha
      by_cases he : n = s.length
      · subst he
        simp only [Int.lt_irrefl, sumFew9_f, sumFew9_D, sumFew9_flat, sumFew9_r, sumShort_f, sumShort_D, sumShort_flat, sumShort_r, sumAwake10_f, sumAwake10_D, sumAwake10_flat, sumAwake10_r, sumIsM_f, sumIsM_D, sumIsM_flat, sumIsM_r, go_sem, wpR_gcall, reduceCtorEq, reduceIte, Nat.reduceEqDiff, Nat.reduceAdd, Nat.reduceSub, Nat.reduceMul, Nat.reduceLT, Nat.reduceLeDiff, Nat.reduceBEq, Int.reduceEq, Int.reduceLT, Int.reduceLE, Int.reduceAdd, Int.reduceSub, Int.reduceNeg, Int.reduceToNat]
      · have e1 : (n : Int) < (s.length : Int) := by omega
        have e0 : (0 : Int) ≤ (n : Int) := by omega
        have hn : n < s.length := by omega
        have hc := isM_cut hi hn
        have hg := getD_cmps s n [.c (.int .i64 0), .c (.slice none 0 0)] hn
        have hlen : ((s.map Cmp.enc).drop n).length = s.length - n := by simp
        have htk : ((s.map Cmp.enc).drop n).take (s.length - n) = (s.map Cmp.enc).drop n := List.take_of_length_le (by simp)
        have e3 : 0 < s.length - n := by omega
        have e4 : (0 : Int) < ((s.length - n : Nat) : Int) := by omega
        have hcut := cut_enc s n
        have hok : okC (cutS s n) := cutS_okC hs hn
        have hcl : ((cutS s n).map Cmp.enc).length = s.length - n := by rw [List.length_map, cutS_len]
        have hct : ((cutS s n).map Cmp.enc).take (s.length - n) = (cutS s n).map Cmp.enc := List.take_of_length_le (by omega)
        have hn1 : (n : Int) ≤ (s.length : Int) := by omega
        have hle : s.length ≤ 1000000 := hs.1
        simp only [nodes, selE, dNodes_map, dSel_mk, l2, l3, hs, e0, e1, e3, e4, hlen, htk, getD_drop0, hg, hcut, hcl, hct, hok, hc, Nat.le_refl, mapO_cmp10, Cmp.enc, on_gcall, off_gcall, flat_gcall, sumFew9_f, sumFew9_D, sumFew9_flat, sumFew9_r, sumShort_f, sumShort_D, sumShort_flat, sumShort_r, sumAwake10_f, sumAwake10_D, sumAwake10_flat, sumAwake10_r, sumIsM_f, sumIsM_D, sumIsM_flat, sumIsM_r, go_sem, reduceCtorEq, reduceIte, Nat.reduceEqDiff, Nat.reduceAdd, Nat.reduceSub, Nat.reduceMul, Nat.reduceLT, Nat.reduceLeDiff, Nat.reduceBEq, Int.reduceEq, Int.reduceLT, Int.reduceLE, Int.reduceAdd, Int.reduceSub, Int.reduceNeg, Int.reduceToNat]
        exact ⟨by omega, by omega, by omega, ⟨n + 1, clk + 3⟩, by dsimp only; omega, by dsimp only; omega, by dsimp only; omega, rfl⟩
  · cases hf1 : few9 l with
    | false => simp only [c6, nodes, selE, sels, dNodes_map, dSel_mk, hds, hf1, on_gcall, off_gcall, flat_gcall, sumFew9_f, sumFew9_D, sumFew9_flat, sumFew9_r, sumShort_f, sumShort_D, sumShort_flat, sumShort_r, sumAwake10_f, sumAwake10_D, sumAwake10_flat, sumAwake10_r, sumIsM_f, sumIsM_D, sumIsM_flat, sumIsM_r, go_sem, reduceCtorEq, reduceIte, Nat.reduceEqDiff, Nat.reduceAdd, Nat.reduceSub, Nat.reduceMul, Nat.reduceLT, Nat.reduceLeDiff, Nat.reduceBEq, Int.reduceEq, Int.reduceLT, Int.reduceLE, Int.reduceAdd, Int.reduceSub, Int.reduceNeg, Int.reduceToNat]
    | true =>
      have hf2 : shrt [s] = false := by
        cases hh : shrt [s] with
        | false => rfl
        | true => exact absurd ⟨hf1, hh⟩ hf
      simp only [c6, nodes, selE, sels, dNodes_map, dSel_mk, hds, hf1, hf2, hb2, on_gcall, off_gcall, flat_gcall, sumFew9_f, sumFew9_D, sumFew9_flat, sumFew9_r, sumShort_f, sumShort_D, sumShort_flat, sumShort_r, sumAwake10_f, sumAwake10_D, sumAwake10_flat, sumAwake10_r, sumIsM_f, sumIsM_D, sumIsM_flat, sumIsM_r, go_sem, reduceCtorEq, reduceIte, Nat.reduceEqDiff, Nat.reduceAdd, Nat.reduceSub, Nat.reduceMul, Nat.reduceLT, Nat.reduceLeDiff, Nat.reduceBEq, Int.reduceEq, Int.reduceLT, Int.reduceLE, Int.reduceAdd, Int.reduceSub, Int.reduceNeg, Int.reduceToNat]
theorem bel_take (s : Sel) (n : Nat) (h : n < s.length) : (belS s).take (n + 1) = (belS s).take n ++ [belC n (s.getD n default)] := by
  rw [cmp_take (belS s) n (by rw [belS_len]; exact h), belS_get s n h]
theorem belS_okC {s : Sel} (h : okC s) : okC (belS s) := by
  obtain ⟨h1, h2⟩ := h
  refine ⟨by rw [belS_len]; omega, fun j hj => ?_⟩
  rw [belS_len] at hj
  rw [belS_get s j hj, belC_l]; exact h2 j hj
theorem matchBelow_law (x : V) (h : CellOK (.slc nodeC) x) (y : List V) (hl : y.length = 1) (h2 : ∀ i c, selC[i]? = some c → CellOK c (y.getD i .any)) : PCall Try.prog 8 [x, .agg y] (.c (.bool true)) := by
  obtain ⟨l, rfl⟩ := nodes_of h
  obtain ⟨s, rfl, hm⟩ := selL_of hl h2
  refine PCall.of (Orc.cons sumFew9 (Orc.cons sumShort (Orc.cons sumAwake10 (Orc.cons sumIsM (Orc.nil _))))) c8_ok (by simp [c8]) fun w0 own0 => ?_
  have hds : dSels (.slc 1 [[.slc 2 (s.map Cmp.enc)]]) = [s] := dSels_map [s]
  have hb2 : 1 ≤ big := by decide
  by_cases hf : few9 l = true ∧ shrt [s] = true
  · obtain ⟨hf1, hf2⟩ := hf
    obtain ⟨l1, l2⟩ := few9_okNs hf1
    have hs := shrt_one hf2
    have l3 : l.length ≤ 1000 := by omega
    have hs1 : s.length ≤ 1000000 := hs.1
    simp only [c8, nodes, selE, sels, dNodes_map, dSel_mk, hds, hf1, hf2, hb2, l2, l3, hs, on_gcall, off_gcall, flat_gcall, sumFew9_f, sumFew9_D, sumFew9_flat, sumFew9_r, sumShort_f, sumShort_D, sumShort_flat, sumShort_r, sumAwake10_f, sumAwake10_D, sumAwake10_flat, sumAwake10_r, sumIsM_f, sumIsM_D, sumIsM_flat, sumIsM_r, go_sem, reduceCtorEq, reduceIte, Nat.reduceEqDiff, Nat.reduceAdd, Nat.reduceSub, Nat.reduceMul, Nat.reduceLT, Nat.reduceLeDiff, Nat.reduceBEq, Int.reduceEq, Int.reduceLT, Int.reduceLE, Int.reduceAdd, Int.reduceSub, Int.reduceNeg, Int.reduceToNat]
    refine SemC.lp (α := GvS) (fun a => [(0, .slc 6 (l.map Node.enc)), (3, .ptr 0 0 0 0), (5, .ptr 2 2 0 0), (20, .slc 2 (s.map Cmp.enc)), (21, vi s.length), (22, vi a.n)])
      (fun a => ⟨[⟨0, 1, [[.slc 2 (s.map Cmp.enc)]], false, []⟩, ⟨1, 1, [[.slc 2 (s.map Cmp.enc)]], false, [vnil]⟩, ⟨2, 1, [[.ref 3 a.ver 0 a.n]], false, []⟩, ⟨a.ver, 2, ((belS s).take a.n).map Cmp.enc, false, [vi 0, vnil]⟩], a.clk⟩) (fun a => a.n ≤ s.length) (fun a => s.length - a.n) ⟨0, 3, 4⟩ (Nat.zero_le _)
      (St.cell 2 0 0 2 [vi 0, vnil] rfl rfl (St.cut ?_ ?_ ?_)) fun a ha => ?_
    · simp [Agrees, upd_at, initE_at]
    · simp [Heap.alloc]
    · rfl
    obtain ⟨n, ver, clk⟩ := a
    simp only at ha
    by_cases he : n = s.length
    · subst he
      have htb : (belS s).take s.length = belS s := List.take_of_length_le (by rw [belS_len]; omega)
      simp only [Int.lt_irrefl, htb, sumFew9_f, sumFew9_D, sumFew9_flat, sumFew9_r, sumShort_f, sumShort_D, sumShort_flat, sumShort_r, sumAwake10_f, sumAwake10_D, sumAwake10_flat, sumAwake10_r, sumIsM_f, sumIsM_D, sumIsM_flat, sumIsM_r, go_sem, wpR_gcall, reduceCtorEq, reduceIte, Nat.reduceEqDiff, Nat.reduceAdd, Nat.reduceSub, Nat.reduceMul, Nat.reduceLT, Nat.reduceLeDiff, Nat.reduceBEq, Int.reduceEq, Int.reduceLT, Int.reduceLE, Int.reduceAdd, Int.reduceSub, Int.reduceNeg, Int.reduceToNat]
      refine SemC.lp (α := LpS) (fun a => [(0, .slc 6 (l.map Node.enc)), (3, .ptr 0 0 0 0), (5, .ptr 2 2 0 0), (38, vi l.length), (39, vi a.n)])
        (fun _ => ⟨[⟨0, 1, [[.slc 2 (s.map Cmp.enc)]], false, []⟩, ⟨1, 1, [[.slc 2 (s.map Cmp.enc)]], false, [vnil]⟩, ⟨2, 1, [[.ref 3 ver 0 s.length]], false, []⟩, ⟨ver, 2, ((belS s).take s.length).map Cmp.enc, false, [vi 0, vnil]⟩], clk⟩) (fun a => a.n ≤ l.length) (fun a => l.length - a.n) ⟨0, 0⟩ (Nat.zero_le _) (St.cut (by simp [Agrees, upd_at, ev_cons]) (by simp [htb]) rfl) fun a ha => ?_
      obtain ⟨k, clk2⟩ := a
      simp only at ha
      by_cases hk : k = l.length
      · subst hk
        simp only [Int.lt_irrefl, sumFew9_f, sumFew9_D, sumFew9_flat, sumFew9_r, sumShort_f, sumShort_D, sumShort_flat, sumShort_r, sumAwake10_f, sumAwake10_D, sumAwake10_flat, sumAwake10_r, sumIsM_f, sumIsM_D, sumIsM_flat, sumIsM_r, go_sem, wpR_gcall, reduceCtorEq, reduceIte, Nat.reduceEqDiff, Nat.reduceAdd, Nat.reduceSub, Nat.reduceMul, Nat.reduceLT, Nat.reduceLeDiff, Nat.reduceBEq, Int.reduceEq, Int.reduceLT, Int.reduceLE, Int.reduceAdd, Int.reduceSub, Int.reduceNeg, Int.reduceToNat]
      · have e1 : (k : Int) < (l.length : Int) := by omega
        have e0 : (0 : Int) ≤ (k : Int) := by omega
        have hbl : ((belS s).map Cmp.enc).length = s.length := by rw [List.length_map, belS_len]
        have hbt : ((belS s).map Cmp.enc).take s.length = (belS s).map Cmp.enc := List.take_of_length_le (by omega)
        have hob := belS_okC hs
        cases hi : isM l k s with
        | false =>
          simp only [nodes, selE, dNodes_map, dSel_mk, l2, l3, hs, e0, e1, hi, htb, hbl, hbt, hob, Nat.le_refl, mapO_cmp10, on_gcall, off_gcall, flat_gcall, sumFew9_f, sumFew9_D, sumFew9_flat, sumFew9_r, sumShort_f, sumShort_D, sumShort_flat, sumShort_r, sumAwake10_f, sumAwake10_D, sumAwake10_flat, sumAwake10_r, sumIsM_f, sumIsM_D, sumIsM_flat, sumIsM_r, go_sem, reduceCtorEq, reduceIte, Nat.reduceEqDiff, Nat.reduceAdd, Nat.reduceSub, Nat.reduceMul, Nat.reduceLT, Nat.reduceLeDiff, Nat.reduceBEq, Int.reduceEq, Int.reduceLT, Int.reduceLE, Int.reduceAdd, Int.reduceSub, Int.reduceNeg, Int.reduceToNat]
          exact ⟨by omega, ⟨k + 1, 0⟩, by dsimp only; omega, by dsimp only; omega, by dsimp only; omega⟩
        | true =>
          have hb := isM_bel hi
          simp only [nodes, selE, dNodes_map, dSel_mk, l2, l3, hs, e0, e1, hi, hb, htb, hbl, hbt, hob, Nat.le_refl, mapO_cmp10, on_gcall, off_gcall, flat_gcall, sumFew9_f, sumFew9_D, sumFew9_flat, sumFew9_r, sumShort_f, sumShort_D, sumShort_flat, sumShort_r, sumAwake10_f, sumAwake10_D, sumAwake10_flat, sumAwake10_r, sumIsM_f, sumIsM_D, sumIsM_flat, sumIsM_r, go_sem, reduceCtorEq, reduceIte, Nat.reduceEqDiff, Nat.reduceAdd, Nat.reduceSub, Nat.reduceMul, Nat.reduceLT, Nat.reduceLeDiff, Nat.reduceBEq, Int.reduceEq, Int.reduceLT, Int.reduceLE, Int.reduceAdd, Int.reduceSub, Int.reduceNeg, Int.reduceToNat]
          exact ⟨by omega, ⟨k + 1, 0⟩, by dsimp only; omega, by dsimp only; omega, by dsimp only; omega⟩
    · have e1 : (n : Int) < (s.length : Int) := by omega
      have e0 : (0 : Int) ≤ (n : Int) := by omega
      have hn : n < s.length := by omega
      have hg := getD_cmps s n [.c (.int .i64 0), .c (.slice none 0 0)] hn
      have hbt := bel_take s n hn
      have htl : ((belS s).take n).length = n := by rw [List.length_take, belS_len]; omega
      have htt : ((belS s).take n).take n = (belS s).take n := List.take_of_length_le (by omega)
      generalize hx : s.getD n default = c at *
      by_cases h0 : (0 : Int) < (n : Int)
      · have hbc : belC n c = ⟨1, c.l⟩ := by unfold belC; rw [if_pos (by omega)]
        rw [hbc] at hbt
        simp only [e0, e1, h0, hg, Cmp.enc, htl, sumFew9_f, sumFew9_D, sumFew9_flat, sumFew9_r, sumShort_f, sumShort_D, sumShort_flat, sumShort_r, sumAwake10_f, sumAwake10_D, sumAwake10_flat, sumAwake10_r, sumIsM_f, sumIsM_D, sumIsM_flat, sumIsM_r, go_sem, wpR_gcall, reduceCtorEq, reduceIte, Nat.reduceEqDiff, Nat.reduceAdd, Nat.reduceSub, Nat.reduceMul, Nat.reduceLT, Nat.reduceLeDiff, Nat.reduceBEq, Int.reduceEq, Int.reduceLT, Int.reduceLE, Int.reduceAdd, Int.reduceSub, Int.reduceNeg, Int.reduceToNat]
        refine ⟨⟨by omega, by omega, by omega⟩, by omega, ⟨n + 1, clk + 2, clk + 3⟩, by dsimp only; omega, by dsimp only; omega, by dsimp only; omega, ⟨⟨rfl, rfl⟩, rfl, ?_⟩, rfl⟩
        dsimp only
        rw [htt, hbt, List.map_append]; rfl
      · have hbc : belC n c = c := by unfold belC; rw [if_neg (by omega)]
        rw [hbc] at hbt
        simp only [e0, e1, h0, hg, Cmp.enc, htl, sumFew9_f, sumFew9_D, sumFew9_flat, sumFew9_r, sumShort_f, sumShort_D, sumShort_flat, sumShort_r, sumAwake10_f, sumAwake10_D, sumAwake10_flat, sumAwake10_r, sumIsM_f, sumIsM_D, sumIsM_flat, sumIsM_r, go_sem, wpR_gcall, reduceCtorEq, reduceIte, Nat.reduceEqDiff, Nat.reduceAdd, Nat.reduceSub, Nat.reduceMul, Nat.reduceLT, Nat.reduceLeDiff, Nat.reduceBEq, Int.reduceEq, Int.reduceLT, Int.reduceLE, Int.reduceAdd, Int.reduceSub, Int.reduceNeg, Int.reduceToNat]
        refine ⟨⟨by omega, by omega, by omega⟩, by omega, ⟨n + 1, clk + 2, clk + 3⟩, by dsimp only; omega, by dsimp only; omega, by dsimp only; omega, ⟨⟨rfl, rfl⟩, rfl, ?_⟩, rfl⟩
        dsimp only
        rw [htt, hbt, List.map_append]; rfl
  · cases hf1 : few9 l with
    | false => simp only [c8, nodes, selE, sels, dNodes_map, dSel_mk, hds, hf1, on_gcall, off_gcall, flat_gcall, sumFew9_f, sumFew9_D, sumFew9_flat, sumFew9_r, sumShort_f, sumShort_D, sumShort_flat, sumShort_r, sumAwake10_f, sumAwake10_D, sumAwake10_flat, sumAwake10_r, sumIsM_f, sumIsM_D, sumIsM_flat, sumIsM_r, go_sem, reduceCtorEq, reduceIte, Nat.reduceEqDiff, Nat.reduceAdd, Nat.reduceSub, Nat.reduceMul, Nat.reduceLT, Nat.reduceLeDiff, Nat.reduceBEq, Int.reduceEq, Int.reduceLT, Int.reduceLE, Int.reduceAdd, Int.reduceSub, Int.reduceNeg, Int.reduceToNat]
    | true =>
      have hf2 : shrt [s] = false := by
        cases hh : shrt [s] with
        | false => rfl
        | true => exact absurd ⟨hf1, hh⟩ hf
      simp only [c8, nodes, selE, sels, dNodes_map, dSel_mk, hds, hf1, hf2, hb2, on_gcall, off_gcall, flat_gcall, sumFew9_f, sumFew9_D, sumFew9_flat, sumFew9_r, sumShort_f, sumShort_D, sumShort_flat, sumShort_r, sumAwake10_f, sumAwake10_D, sumAwake10_flat, sumAwake10_r, sumIsM_f, sumIsM_D, sumIsM_flat, sumIsM_r, go_sem, reduceCtorEq, reduceIte, Nat.reduceEqDiff, Nat.reduceAdd, Nat.reduceSub, Nat.reduceMul, Nat.reduceLT, Nat.reduceLeDiff, Nat.reduceBEq, Int.reduceEq, Int.reduceLT, Int.reduceLE, Int.reduceAdd, Int.reduceSub, Int.reduceNeg, Int.reduceToNat]
end Go.Proofs.Ytcjephhkgccmgaa
