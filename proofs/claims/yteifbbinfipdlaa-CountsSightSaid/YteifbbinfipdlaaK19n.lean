/- Layer 19: the law of what is in sight. -/
import Derived.Test.YteifbbinfipdlaaK19m
import Derived.Test.YteifbbinfipdlaaK19d
import Derived.Test.YteifbbinfipdlaaDd
namespace Go.Proofs.Yteifbbinfipdlaa
open Go.Sx
set_option linter.unusedSimpArgs false
set_option maxHeartbeats 8000000
set_option maxRecDepth 100000

abbrev itmC : List Cell := [.int .i64, .str, .str, .int .i64, .int .i64]
abbrev stepCs : List Cell := [.str, .int .i64, .slc itmC]
abbrev propC : List Cell := [.int .i64, .int .i64, .str, .slc stepCs, .slc stepCs, .slc stepCs, .slc stepCs, .str]
theorem okX_of {cs : List Cell} {x : V} (h : CellOK (.slc cs) x) : okX x := by
  cases h with
  | slc cs ess hl h h2 => exact .inr ⟨_, _, rfl⟩
theorem vsts_of {x : V} (h : CellOK (.slc stepCs) x) : ∃ l : List VSt, x = .slc 3 (l.map VSt.enc) ∧ okS l := by
  cases h with
  | slc cs ess hl h h2 =>
    have e : ∀ es ∈ ess, (VSt.enc ⟨(es.getD 0 .any).str, (es.getD 1 .any).int, es.getD 2 .any⟩ : List V) = es ∧ okX (es.getD 2 .any) := fun es hes => by
      have hlen := h es hes
      have a0 := h2 es hes 0 _ rfl
      have a1 := h2 es hes 1 _ rfl
      have a2 := h2 es hes 2 _ rfl
      match es, hlen with
      | [a, b, c], _ =>
        simp only [List.getD_cons_zero, List.getD_cons_succ] at a0 a1 a2 ⊢
        cases a0; cases a1
        exact ⟨rfl, okX_of a2⟩
    refine ⟨ess.map fun es => ⟨(es.getD 0 .any).str, (es.getD 1 .any).int, es.getD 2 .any⟩, ?_, fun s hs => ?_⟩
    · rw [List.map_map]
      congr 1
      conv => lhs; rw [← List.map_id ess]
      exact List.map_congr_left fun es hes => (e es hes).1.symm
    · obtain ⟨es, hes, rfl⟩ := List.mem_map.1 hs
      exact (e es hes).2
theorem prps_of {x : V} (h : CellOK (.slc propC) x) : ∃ l : List Prp, x = prps l ∧ ∀ p ∈ l, okX p.st ∧ okS p.r ∧ okS p.i ∧ okS p.s := by
  cases h with
  | slc cs ess hl h h2 =>
    have e : ∀ es ∈ ess, ∃ p : Prp, p.enc = es ∧ okX p.st ∧ okS p.r ∧ okS p.i ∧ okS p.s := fun es hes => by
      have hlen := h es hes
      have a0 := h2 es hes 0 _ rfl
      have a1 := h2 es hes 1 _ rfl
      have a2 := h2 es hes 2 _ rfl
      have a3 := h2 es hes 3 _ rfl
      have a4 := h2 es hes 4 _ rfl
      have a5 := h2 es hes 5 _ rfl
      have a6 := h2 es hes 6 _ rfl
      have a7 := h2 es hes 7 _ rfl
      match es, hlen with
      | [b0, b1, b2, b3, b4, b5, b6, b7], _ =>
        simp only [List.getD_cons_zero, List.getD_cons_succ] at a0 a1 a2 a3 a4 a5 a6 a7
        obtain ⟨r, rfl, h3⟩ := vsts_of a3
        obtain ⟨i, rfl, h4⟩ := vsts_of a4
        obtain ⟨s, rfl, h5⟩ := vsts_of a5
        have h6 := okX_of a6
        cases a0; cases a1; cases a2; cases a7
        exact ⟨⟨_, _, _, r, i, s, b6, _⟩, rfl, h6, h3, h4, h5⟩
    have e2 : ∀ ess : List (List V), (∀ es ∈ ess, ∃ p : Prp, p.enc = es ∧ okX p.st ∧ okS p.r ∧ okS p.i ∧ okS p.s) → ∃ l : List Prp, l.map Prp.enc = ess ∧ ∀ p ∈ l, okX p.st ∧ okS p.r ∧ okS p.i ∧ okS p.s := by
      intro ess
      induction ess with
      | nil => exact fun _ => ⟨[], rfl, fun p hp => by cases hp⟩
      | cons es ess ih =>
        intro h
        obtain ⟨p, p1, p2⟩ := h es (by simp)
        obtain ⟨l, l1, l2⟩ := ih fun x hx => h x (by simp [hx])
        refine ⟨p :: l, by rw [List.map_cons, p1, l1], fun q hq => ?_⟩
        rcases List.mem_cons.1 hq with rfl | hq
        · exact p2
        · exact l2 q hq
    obtain ⟨l, l1, l2⟩ := e2 ess e
    exact ⟨l, by unfold prps; rw [l1]; rfl, l2⟩
theorem few19_ps {d : Doc} {ps : List Prp} (h : few19 d ps = true) (hps : ∀ p ∈ ps, okX p.st ∧ okS p.r ∧ okS p.i ∧ okS p.s) : d.l.length ≤ 60 ∧ ps.length ≤ 60 ∧ okPs ps := by
  unfold few19 at h
  simp only [Bool.and_eq_true, decide_eq_true_eq] at h
  obtain ⟨⟨h1, h2⟩, h3⟩ := h
  refine ⟨few12_len h2, h3, fun p hp => ?_⟩
  obtain ⟨i, hi, e⟩ := List.getElem_of_mem hp
  have hf := h1 i hi (by omega)
  rw [List.getD_eq_getElem?_getD, List.getElem?_eq_getElem hi, Option.getD_some, e] at hf
  obtain ⟨o1, o2, o3, o4⟩ := hps p hp
  unfold fwP fwL at hf
  simp only [Bool.and_eq_true, decide_eq_true_eq] at hf
  obtain ⟨⟨⟨f1, _⟩, f2, _⟩, f3, _⟩ := hf
  exact ⟨⟨⟨o2, by omega⟩, ⟨o3, by omega⟩, ⟨o4, by omega⟩, o1⟩, f1, f2, f3⟩
theorem allC_sg {d : Doc} {ps : List Prp} (hr : rightB d = true) (hl : d.l.length ≤ 1000) :
    (allC d ps).length ≤ (inV d).length ∧ ∀ n, n < (allC d ps).length → sgA d ((inV d).getD n 0) ((allC d ps).getD n []) := by
  unfold allC
  split
  · have hpw : (inV d).Pairwise (· < ·) := by unfold inV inL; rw [if_pos hr]; exact selTo_pw _ _
    obtain ⟨h1, h2⟩ := sgA_all ⟨rightB_ok hr, hl⟩ ps (inV d) [] hpw (fun k hk => by obtain ⟨_, a, b, _⟩ := inV_mem hk; exact ⟨a, b⟩) (fun c hc => by cases hc)
    exact ⟨by omega, fun n hn => h2 n (by omega)⟩
  · exact ⟨Nat.zero_le _, fun n hn => by simp at hn⟩
theorem getD_css (L : List (List Cnt)) (i : Nat) (z : List V) (h : i < L.length) : (L.map fun l => [V.slc 3 (l.map Cnt.enc)]).getD i z = [.slc 3 ((L.getD i []).map Cnt.enc)] := by
  simp [List.getD_eq_getElem?_getD, h]
theorem allS_len {d : Doc} {ps : List Prp} (hps : okPs ps) : ∀ (ks : List Int) (now : List Cnt), ∀ x ∈ allS d ps ks now, x.length ≤ now.length + 30 * ks.length
  | [], now, x, hx => by cases hx
  | k :: ks, now, x, hx => by
    have hp : (ps.getD k.toNat .zero).r.length ≤ 10 ∧ (ps.getD k.toNat .zero).i.length ≤ 10 ∧ (ps.getD k.toNat .zero).s.length ≤ 10 := by
      by_cases h : k.toNat < ps.length
      · exact (hps _ (by rw [List.getD_eq_getElem?_getD, List.getElem?_eq_getElem h]; exact List.getElem_mem _)).2
      · rw [List.getD_eq_getElem?_getD, List.getElem?_eq_none (by omega)]
        exact ⟨Nat.zero_le _, Nat.zero_le _, Nat.zero_le _⟩
    have hs := stepC_len d (ps.getD k.toNat .zero) k now
    simp only [allS] at hx
    rw [List.length_cons]
    rcases List.mem_cons.1 hx with rfl | hx
    · omega
    · have := allS_len hps ks _ x hx
      omega
theorem allC_len {d : Doc} {ps : List Prp} (hps : okPs ps) (hd : d.l.length ≤ 1000) (n : Nat) : ((allC d ps).getD n []).length ≤ 30000 := by
  by_cases hn : n < (allC d ps).length
  · rw [List.getD_eq_getElem?_getD, List.getElem?_eq_getElem hn, Option.getD_some]
    have hm := List.getElem_mem hn
    generalize (allC d ps)[n] = x at *
    unfold allC at hm
    split at hm
    · have := allS_len hps _ _ x hm
      have := inV_len d
      simp only [List.length_nil] at *
      omega
    · cases hm
  · rw [List.getD_eq_getElem?_getD, List.getElem?_eq_none (by omega)]
    exact Nat.zero_le _
structure SgS where
  k : Int
  clk : Nat
theorem countsSight_law (xs : List V) (hxl : xs.length = 5) (hx : ∀ i c, docC[i]? = some c → CellOK c (xs.getD i .any)) (y : V) (hy : CellOK (.slc propC) y) : PCall Try.prog 6 [.agg xs, y] (.c (.bool true)) := by
  obtain ⟨d, rfl⟩ := doc_of hxl hx
  obtain ⟨ps, rfl, hps⟩ := prps_of hy
  refine PCall.of (Orc.cons sumAw19 (Orc.cons sumFew19 (Orc.cons sumRightT (Orc.cons sumInA (Orc.cons sumAllC (Orc.nil _)))))) c6_ok (by simp [c6]) fun w0 own0 => ?_
  cases hF : few19 d ps
  · simp -implicitDefEqProofs only [c6, Doc.enc, prps, dDoc_mk, Doc.eta, dPrps_map, hF, hps, on_gcall, off_gcall, flat_gcall, go_sem, reduceCtorEq, reduceIte, Nat.reduceEqDiff, Nat.reduceAdd, Nat.reduceSub, Nat.reduceMul, Nat.reduceLT, Nat.reduceLeDiff, Nat.reduceBEq, Int.reduceEq, Int.reduceLT, Int.reduceLE, Int.reduceAdd, Int.reduceSub, Int.reduceNeg, Int.reduceToNat]
    try trivial
  obtain ⟨f1, f2, f3⟩ := few19_ps hF hps
  have hd1 : d.l.length ≤ 1000 := by omega
  have hd2 : d.l.length ≤ 600 := by omega
  have hp6 : ps.length ≤ 1000000 := by omega
  cases hR : rightB d
  · simp -implicitDefEqProofs only [c6, Doc.enc, prps, dDoc_mk, Doc.eta, dPrps_map, hF, hR, hps, hd1, on_gcall, off_gcall, flat_gcall, go_sem, reduceCtorEq, reduceIte, Nat.reduceEqDiff, Nat.reduceAdd, Nat.reduceSub, Nat.reduceMul, Nat.reduceLT, Nat.reduceLeDiff, Nat.reduceBEq, Int.reduceEq, Int.reduceLT, Int.reduceLE, Int.reduceAdd, Int.reduceSub, Int.reduceNeg, Int.reduceToNat]
    try trivial
  obtain ⟨hLl, hLs⟩ := allC_sg (ps := ps) hR hd1
  have hok : okL d := ⟨rightB_ok hR, hd1⟩
  have hil := inV_len d
  have hLn := allC_len f3 hd1
  simp -implicitDefEqProofs only [c6, Doc.enc, prps, css, ints, dDoc_mk, Doc.eta, dPrps_map, hF, hR, hps, hd1, hd2, f3, hp6, on_gcall, off_gcall, flat_gcall, go_sem, reduceCtorEq, reduceIte, Nat.reduceEqDiff, Nat.reduceAdd, Nat.reduceSub, Nat.reduceMul, Nat.reduceLT, Nat.reduceLeDiff, Nat.reduceBEq, Int.reduceEq, Int.reduceLT, Int.reduceLE, Int.reduceAdd, Int.reduceSub, Int.reduceNeg, Int.reduceToNat]
  generalize allC d ps = L at *
  refine ⟨hps, ?_⟩
  refine SemC.lp (α := FwC) (fun a => [(2, .ptr 0 0 0 0), (5, .slc 1 ((inV d).map fun n => [vi n])), (25, .slc 1 (L.map fun l => [.slc 3 (l.map Cnt.enc)])), (26, vi L.length), (27, vi a.k)]) (fun a => ⟨[⟨0, 5, [d.enc], false, []⟩], a.clk⟩)
    (fun a => a.k ≤ L.length) (fun a => L.length - a.k) ⟨0, 1⟩ (Nat.zero_le _) (St.cut ?_ ?_ ?_) fun a ha => ?_
  · simp [Agrees, upd_at, ev_cons]
  · simp [Heap.alloc, Doc.enc]
  · rfl
  obtain ⟨o, clk⟩ := a
  simp only at ha
  by_cases ho : o = L.length
  · subst ho
    simp -implicitDefEqProofs only [Int.lt_irrefl, on_gcall, off_gcall, flat_gcall, go_sem, reduceCtorEq, reduceIte, Nat.reduceEqDiff, Nat.reduceAdd, Nat.reduceSub, Nat.reduceMul, Nat.reduceLT, Nat.reduceLeDiff, Nat.reduceBEq, Int.reduceEq, Int.reduceLT, Int.reduceLE, Int.reduceAdd, Int.reduceSub, Int.reduceNeg, Int.reduceToNat]
  have o1 : (o : Int) < (L.length : Int) := by omega
  have o0 : (0 : Int) ≤ (o : Int) := by omega
  have o2 := eq_true (show (o : Int) < ((inV d).length : Int) by omega)
  have hgl := fun z => getD_css L o z (by omega)
  have hsg := hLs o (by omega)
  have hll := hLn o
  have hki := inV_mem (d := d) (k := (inV d).getD o 0) (by rw [List.getD_eq_getElem?_getD, List.getElem?_eq_getElem (by omega)]; exact List.getElem_mem _)
  generalize hkk : (inV d).getD o 0 = k at *
  obtain ⟨_, k0, k1, _⟩ := hki
  generalize L.getD o [] = l at *
  simp -implicitDefEqProofs only [o0, o1, hgl, on_gcall, off_gcall, flat_gcall, go_sem, reduceCtorEq, reduceIte, Nat.reduceEqDiff, Nat.reduceAdd, Nat.reduceSub, Nat.reduceMul, Nat.reduceLT, Nat.reduceLeDiff, Nat.reduceBEq, Int.reduceEq, Int.reduceLT, Int.reduceLE, Int.reduceAdd, Int.reduceSub, Int.reduceNeg, Int.reduceToNat]
  refine SemC.lp (α := FwC) (fun a => [(2, .ptr 0 0 0 0), (5, .slc 1 ((inV d).map fun n => [vi n])), (25, .slc 1 (L.map fun l => [.slc 3 (l.map Cnt.enc)])), (26, vi L.length), (27, vi o), (6, vi o), (32, .slc 3 (l.map Cnt.enc)), (33, vi l.length), (34, vi a.k)]) (fun a => ⟨[⟨0, 5, [d.enc], false, []⟩], a.clk⟩)
    (fun a => a.k ≤ l.length) (fun a => l.length - a.k) ⟨0, clk⟩ (Nat.zero_le _) (St.cut ?_ ?_ ?_) fun a ha => ?_
  · simp [Agrees, upd_at, ev_cons]
  · simp [Doc.enc]
  · rfl
  obtain ⟨j, clk⟩ := a
  simp only at ha
  by_cases hj : j = l.length
  · subst hj
    simp -implicitDefEqProofs only [Int.lt_irrefl, Doc.enc, on_gcall, off_gcall, flat_gcall, go_sem, reduceCtorEq, reduceIte, Nat.reduceEqDiff, Nat.reduceAdd, Nat.reduceSub, Nat.reduceMul, Nat.reduceLT, Nat.reduceLeDiff, Nat.reduceBEq, Int.reduceEq, Int.reduceLT, Int.reduceLE, Int.reduceAdd, Int.reduceSub, Int.reduceNeg, Int.reduceToNat]
    exact ⟨by omega, ⟨o + 1, _⟩, by dsimp only; omega, by dsimp only; omega, by dsimp only; omega, rfl⟩
  have j1 : (j : Int) < (l.length : Int) := by omega
  have j0 : (0 : Int) ≤ (j : Int) := by omega
  have hgc := getD_cnts l j
  have hsc := hsg (l.getD j .zero) (getD_memC (by omega))
  generalize l.getD j .zero = c at *
  obtain ⟨nm, n, mk⟩ := c
  obtain ⟨s1, s2, s3, s4⟩ := hsc
  simp only [bnd] at s1 s2 s3 s4
  have m0 := eq_true s1
  have m1 := eq_false (show ¬ mk < 0 by omega)
  have m2 := eq_false (show ¬ k < mk by omega)
  have m3 := eq_false (show ¬ n < -2147483648 by omega)
  have m4 := eq_false (show ¬ (2147483647 : Int) < n by omega)
  have m5 : mk < (d.l.length : Int) := by omega
  have hgn := fun z => getD_nodes19 d.l mk.toNat (by omega) z
  have hp : (d.l.getD mk.toNat .zero).parent = par d.l mk.toNat := rfl
  generalize hq : par d.l mk.toNat = q at *
  simp -implicitDefEqProofs only [j0, j1, hgc, o0, o2, hkk, Doc.enc, Cnt.enc, m0, m1, m2, m3, m4, on_gcall, off_gcall, flat_gcall, go_sem, reduceCtorEq, reduceIte, Nat.reduceEqDiff, Nat.reduceAdd, Nat.reduceSub, Nat.reduceMul, Nat.reduceLT, Nat.reduceLeDiff, Nat.reduceBEq, Int.reduceEq, Int.reduceLT, Int.reduceLE, Int.reduceAdd, Int.reduceSub, Int.reduceNeg, Int.reduceToNat]
  refine SemC.lp (α := SgS) (fun a => [(2, .ptr 0 0 0 0), (5, .slc 1 ((inV d).map fun n => [vi n])), (25, .slc 1 (L.map fun l => [.slc 3 (l.map Cnt.enc)])), (26, vi L.length), (27, vi o), (6, vi o), (32, .slc 3 (l.map Cnt.enc)), (33, vi l.length), (34, vi j), (9, .ptr 1 clk 0 0), (10, vi a.k)]) (fun a => ⟨[⟨0, 5, [d.enc], false, []⟩, ⟨clk, 3, [[vs nm, vi n, vi mk]], false, []⟩], a.clk⟩)
    (fun a => -1 ≤ a.k ∧ a.k < d.l.length ∧ ((a.k = -1 ∧ q = -1) ∨ (0 ≤ a.k ∧ (q = -1 ∨ (0 ≤ q ∧ inN d.l a.k q = true))))) (fun a => (a.k + 1).toNat) ⟨k, clk + 1⟩ ⟨by dsimp only; omega, by dsimp only; omega, .inr ⟨k0, s4⟩⟩ (St.cut ?_ ?_ ?_) fun a ha => ?_
  · simp [Agrees, upd_at, ev_cons]
  · simp [Doc.enc, Heap.alloc]
  · rfl
  obtain ⟨t, clk2⟩ := a
  obtain ⟨t1, t2, t3⟩ := ha
  simp only at t1 t2 t3
  by_cases he : t = -1 ∨ t = q
  · have hout : t = q := by
      rcases t3 with ⟨a, b⟩ | ⟨a, _⟩
      · omega
      · rcases he with h | h
        · omega
        · exact h
    subst hout
    by_cases ht : 0 ≤ t
    · have ht := eq_true ht
      simp -implicitDefEqProofs only [ht, hgn, hp, m5, Doc.enc, Cnt.enc, Node.enc, m0, on_gcall, off_gcall, flat_gcall, go_sem, reduceCtorEq, reduceIte, Nat.reduceEqDiff, Nat.reduceAdd, Nat.reduceSub, Nat.reduceMul, Nat.reduceLT, Nat.reduceLeDiff, Nat.reduceBEq, Int.reduceEq, Int.reduceLT, Int.reduceLE, Int.reduceAdd, Int.reduceSub, Int.reduceNeg, Int.reduceToNat]
      exact ⟨by omega, ⟨j + 1, _⟩, by dsimp only; omega, by dsimp only; omega, by dsimp only; omega, rfl⟩
    · have ht := eq_false ht
      simp -implicitDefEqProofs only [ht, hgn, hp, m5, Doc.enc, Cnt.enc, Node.enc, m0, on_gcall, off_gcall, flat_gcall, go_sem, reduceCtorEq, reduceIte, Nat.reduceEqDiff, Nat.reduceAdd, Nat.reduceSub, Nat.reduceMul, Nat.reduceLT, Nat.reduceLeDiff, Nat.reduceBEq, Int.reduceEq, Int.reduceLT, Int.reduceLE, Int.reduceAdd, Int.reduceSub, Int.reduceNeg, Int.reduceToNat]
      exact ⟨by omega, ⟨j + 1, _⟩, by dsimp only; omega, by dsimp only; omega, by dsimp only; omega, rfl⟩
  · have t0 : 0 ≤ t := by omega
    have t4 := eq_true t0
    have t5 := eq_false (show ¬ t = q by omega)
    have hgt := fun z => getD_nodes19 d.l t.toNat (by omega) z
    have hpt : (d.l.getD t.toNat .zero).parent = par d.l t.toNat := rfl
    have hpr := par_rng hok.1.doc.2 t.toNat (by omega)
    have hst : (par d.l t.toNat = -1 ∧ q = -1) ∨ (0 ≤ par d.l t.toNat ∧ (q = -1 ∨ (0 ≤ q ∧ inN d.l (par d.l t.toNat) q = true))) := by
      rcases t3 with h | ⟨_, h⟩
      · omega
      · obtain ⟨tn, rfl⟩ : ∃ tn : Nat, t = tn := ⟨t.toNat, by omega⟩
        rw [Int.toNat_natCast] at *
        rcases h with h | ⟨h, h'⟩
        · by_cases hz : tn = 0
          · exact .inl ⟨hpr.2.2.1 hz, h⟩
          · exact .inr ⟨hpr.2.2.2 (by omega), .inl h⟩
        · have hle := inN_le _ _ _ h'
          rw [inN_step _ _ _ h (by omega) (by omega)] at h'
          exact .inr ⟨hpr.2.2.2 (by omega), .inr ⟨h, h'⟩⟩
    generalize hu : par d.l t.toNat = u at *
    have t6 : t < (d.l.length : Int) := t2
    simp -implicitDefEqProofs only [t4, t5, t6, hgn, hp, m5, hgt, hpt, Doc.enc, Cnt.enc, Node.enc, m0, on_gcall, off_gcall, flat_gcall, go_sem, reduceCtorEq, reduceIte, Nat.reduceEqDiff, Nat.reduceAdd, Nat.reduceSub, Nat.reduceMul, Nat.reduceLT, Nat.reduceLeDiff, Nat.reduceBEq, Int.reduceEq, Int.reduceLT, Int.reduceLE, Int.reduceAdd, Int.reduceSub, Int.reduceNeg, Int.reduceToNat]
    exact ⟨⟨u, _⟩, ⟨by dsimp only; omega, by dsimp only; omega, hst⟩, by dsimp only; omega, rfl, rfl⟩
end Go.Proofs.Yteifbbinfipdlaa
