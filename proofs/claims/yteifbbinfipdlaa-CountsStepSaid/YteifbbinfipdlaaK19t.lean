/- Layer 19: the document's own steps: where a counter stands, and a new one. -/
import Derived.Test.YteifbbinfipdlaaK19k
namespace Go.Sx
open Go
variable {h : Heap}
/-- A block that a temporary points to is laid at another place; what stands behind is forgotten. -/
theorem Weak.shiftT {cx : Cx} {e : Nat → V} (q t s L : Nat) {B : Blk} {v off n : Nat} (hB : h.bs[s]? = some B) (he : e q = .ref s v off n) (hvs : B.ver = v) (ht : t < L) (hs : L ≤ s) (hL : L ≤ h.bs.length) :
    Weak cx e h (upd e q (.ref t h.clk off n)) ⟨(h.bs.set t ⟨h.clk, B.sz, B.es, B.fz, B.d⟩).take L, h.clk + 1⟩ := fun g a w R => by
  have H0 := R.heap
  have H := R.heap.le (c := h.clk + 1) (Nat.le_succ _)
  have hs' : s < g.inf.length := by rw [H0.len]; exact (List.getElem?_eq_some_iff.1 hB).1
  have ht' : t < g.inf.length := by rw [H0.len]; omega
  obtain ⟨I, hI⟩ : ∃ I, g.inf[s]? = some I := ⟨_, List.getElem?_eq_getElem hs'⟩
  obtain ⟨ex, H1⟩ := HRel.shift (h := ⟨h.bs, h.clk + 1⟩) H hB hI ht hL (.inr hs) (u := h.clk) (fun hu => by have := H0.clk _ _ hu; omega) (Nat.lt_succ_self _) (fun k v hv => H0.clk _ _ (H0.ext.us _ _ hv))
  refine ⟨g.shift I t h.clk L, R.size, fun i => ?_, (let ⟨m, hm, hd⟩ := R.defers; ⟨m, hm, hd.mono0 ex⟩), H1⟩
  by_cases hi : i = q
  · subst hi
    simp only [upd, if_true]
    have h5 := R.tm i
    rw [he] at h5
    exact VRep.shift_ref ht' hI (by rw [show I.ver = B.ver from (H0.ok s B I hB hI).ver, hvs]) h5
  · simp only [upd, if_neg hi]
    exact (R.tm i).mono0 ex
theorem St.shiftT {cx : Cx} {st : List (Nat × V)} {hp : Heap} {e : Nat → V} (q t s L : Nat) {B : Blk} {v off n : Nat} (hB : h.bs[s]? = some B) (he : e q = .ref s v off n) (hvs : B.ver = v) (ht : t < L) (hs : L ≤ s) (hL : L ≤ h.bs.length)
    (k' : St cx st hp (upd e q (.ref t h.clk off n)) ⟨(h.bs.set t ⟨h.clk, B.sz, B.es, B.fz, B.d⟩).take L, h.clk + 1⟩) : St cx st hp e h := St.of (Weak.shiftT q t s L hB he hvs ht hs hL) k'
end Go.Sx
namespace Go.Proofs.Yteifbbinfipdlaa
open Go.Sx
set_option linter.unusedSimpArgs false
set_option linter.unusedVariables false
set_option maxHeartbeats 8000000
set_option maxRecDepth 100000

structure AtS where
  k : Nat
  clk : Nat
theorem atR_ok (l : List Cnt) (nm : ByteArray) (hl : l.length ≤ 1000000) : PCall Try.prog 38 [cnts l, vs nm] (vi (lastC l nm)) := by
  refine PCall.of (Orc.nil _) c38_ok (by simp [c38]) fun w0 own0 => ?_
  simp only [c38, cnts, go_sem, wpR_gcall, reduceCtorEq, reduceIte, Nat.reduceEqDiff, Nat.reduceAdd, Nat.reduceSub, Nat.reduceMul, Nat.reduceLT, Nat.reduceLeDiff, Nat.reduceBEq, Int.reduceEq, Int.reduceLT, Int.reduceLE, Int.reduceAdd, Int.reduceSub, Int.reduceNeg, Int.reduceToNat]
  refine SemC.lp (α := AtS) (fun a => [(0, .slc 3 (l.map Cnt.enc)), (1, vs nm), (5, vi (lastF l nm a.k)), (6, vi a.k)]) (fun a => ⟨[], a.clk⟩) (fun a => a.k ≤ l.length) (fun a => l.length - a.k) ⟨0, 0⟩ (Nat.zero_le _) (St.cut ?_ ?_ ?_) fun a ha => ?_
  · simp [Agrees, upd_at, initE_at, lastF]
  · simp
  · rfl
  obtain ⟨k, clk⟩ := a
  simp only at ha
  by_cases hk : k = l.length
  · subst hk
    simp only [Int.lt_irrefl, lastC, go_sem, wpR_gcall, reduceCtorEq, reduceIte, Nat.reduceEqDiff, Nat.reduceAdd, Nat.reduceSub, Nat.reduceMul, Nat.reduceLT, Nat.reduceLeDiff, Nat.reduceBEq, Int.reduceEq, Int.reduceLT, Int.reduceLE, Int.reduceAdd, Int.reduceSub, Int.reduceNeg, Int.reduceToNat]
  have k1 : (k : Int) < (l.length : Int) := by omega
  have k0 : (0 : Int) ≤ (k : Int) := by omega
  have hg := getD_cnts l k
  have hs : lastF l nm (k + 1) = if (l.getD k .zero).name = nm then (k : Int) else lastF l nm k := rfl
  generalize l.getD k .zero = c at *
  by_cases hn : c.name = nm
  · rw [if_pos hn] at hs
    have hn := eq_true hn
    simp only [k0, k1, hg, hn, Cnt.enc, go_sem, wpR_gcall, reduceCtorEq, reduceIte, Nat.reduceEqDiff, Nat.reduceAdd, Nat.reduceSub, Nat.reduceMul, Nat.reduceLT, Nat.reduceLeDiff, Nat.reduceBEq, Int.reduceEq, Int.reduceLT, Int.reduceLE, Int.reduceAdd, Int.reduceSub, Int.reduceNeg, Int.reduceToNat]
    exact ⟨by omega, ⟨k + 1, _⟩, by dsimp only; omega, by dsimp only; omega, ⟨hs.symm, by dsimp only; omega⟩, rfl⟩
  · rw [if_neg hn] at hs
    have hn := eq_false hn
    simp only [k0, k1, hg, hn, Cnt.enc, go_sem, wpR_gcall, reduceCtorEq, reduceIte, Nat.reduceEqDiff, Nat.reduceAdd, Nat.reduceSub, Nat.reduceMul, Nat.reduceLT, Nat.reduceLeDiff, Nat.reduceBEq, Int.reduceEq, Int.reduceLT, Int.reduceLE, Int.reduceAdd, Int.reduceSub, Int.reduceNeg, Int.reduceToNat]
    exact ⟨by omega, ⟨k + 1, _⟩, by dsimp only; omega, by dsimp only; omega, ⟨hs.symm, by dsimp only; omega⟩, rfl⟩
def sumAtR : Sum Try.prog := ⟨38, fun args => args = [cnts (dCnts (args.getD 0 .any)), vs ((args.getD 1 .any).str)] ∧ ((dCnts (args.getD 0 .any))).length ≤ 1000000, fun args => vi (lastC (dCnts (args.getD 0 .any)) ((args.getD 1 .any).str)), fun args h => by
  have := atR_ok (dCnts (args.getD 0 .any)) ((args.getD 1 .any).str) h.2; rwa [← h.1] at this, true⟩
theorem sumAtR_f : sumAtR.f = 38 := rfl
theorem sumAtR_D (args : List V) : sumAtR.D args = (args = [cnts (dCnts (args.getD 0 .any)), vs ((args.getD 1 .any).str)] ∧ ((dCnts (args.getD 0 .any))).length ≤ 1000000) := rfl
theorem sumAtR_flat : sumAtR.flat = true := rfl
theorem sumAtR_r (args : List V) : sumAtR.r args = vi (lastC (dCnts (args.getD 0 .any)) ((args.getD 1 .any).str)) := rfl
attribute [go_sem] sumAtR_f sumAtR_D sumAtR_flat sumAtR_r
theorem fin19 (S : Nat → Bool) (h : Heap) (l : List Cnt) (m : Nat) (hm : m = l.length) : (if m ≤ (l.map Cnt.enc).length then mapO (mapO (res S h 11)) ((l.map Cnt.enc).take m) else none) = some (l.map Cnt.enc) := by
  subst hm
  rw [if_pos (by simp), List.take_of_length_le (by simp), mapO_cnts11]
theorem appE (l : List Cnt) (c : Cnt) : l.map Cnt.enc ++ [[vs c.name, vi c.n, vi c.maker]] = (l ++ [c]).map Cnt.enc := by rw [List.map_append]; rfl
theorem made_ok (d : Doc) (k : Int) (l : List Cnt) (nm : ByteArray) (n : Int) (hl : l.length ≤ 100000) (hm : okMk d l) (h0 : 0 ≤ k) (h1 : k < d.l.length) :
    FCall Try.prog 37 [cnts l, .agg d.enc, vi k, vs nm, vi n] 3 [vs ⟨#[]⟩, vi 0, vi 0] ((rstC d k l nm n).map Cnt.enc) := by
  refine FCall.of (Orc.cons sumStopR (Orc.cons sumAtR (Orc.nil _))) c37_ok [vs ⟨#[]⟩, vi 0, vi 0] (by simp [c37]) fun w0 own0 => ?_
  have l6 : l.length ≤ 1000000 := by omega
  by_cases hneg : lastC l nm < 0
  · obtain ⟨b1, b2⟩ := rstC_neg d k l nm n hneg
    rw [b2]
    have hneg := eq_true hneg
    simp -implicitDefEqProofs only [c37, cnts, Doc.enc, hneg, l6, dCnts_map, List.take_length, Nat.le_refl, on_gcall, off_gcall, flat_gcall, wpC_seq_xreg, wpC_xreg, wpXR_nil, wpXR_own, wpXR_flu, xeOK, xe, argTops, openArgs, Orc.ppre_cons, Orc.pr_cons, Orc.ppre_econs, Orc.pr_econs, Orc.ppre_fcons, Orc.pr_fcons, Orc.ppre_gcons, Orc.pr_gcons, List.head?_cons, List.headD_cons, XE.val, XE.heap, efO, shutArgs, xfoot, footO, V.tops, V.top1, clashOne, noClash, Orc.flat_fcons, Orc.pre_fcons, Orc.v_fcons, Orc.hp_fcons, Orc.qpre_fcons, Orc.qv_fcons, Orc.fpre_fcons, Orc.fes_fcons, Orc.flat_gcons, Orc.pre_gcons, Orc.v_gcons, Orc.hp_gcons, Orc.qpre_gcons, Orc.qv_gcons, Orc.fpre_gcons, Orc.fes_gcons, GSum.pre, GSum.v, GSum.hp, Orc.fpre_cons, Orc.fes_cons, Orc.fpre_econs, Orc.fes_econs, FSum.pre, FSum.v, FSum.hp, fres, O.calls, List.flatMap_cons, List.flatMap_nil, List.contains_cons, List.contains_nil, Bool.not_true, Bool.not_false, Heap.freeze, List.mapIdx_cons, List.mapIdx_nil, List.elem_cons, List.elem_nil, fluP, fluV, evF, bne_iff_ne, ne_eq, Option.some.injEq, go_sem, reduceCtorEq, reduceIte, Nat.reduceEqDiff, Nat.reduceAdd, Nat.reduceSub, Nat.reduceMul, Nat.reduceLT, Nat.reduceLeDiff, Nat.reduceBEq, Int.reduceEq, Int.reduceLT, Int.reduceLE, Int.reduceAdd, Int.reduceSub, Int.reduceNeg, Int.reduceToNat]
    refine ⟨⟨by omega, by omega⟩, ⟨by omega, by omega⟩, ?_⟩
    rw [appE l ⟨nm, stopI n, k⟩]
    exact fin19 _ _ _ _ (by simp)
  have hr := lastC_rng l nm
  obtain ⟨a, ha⟩ : ∃ a : Nat, lastC l nm = a := ⟨(lastC l nm).toNat, by omega⟩
  have hal : a < l.length := by omega
  have hneg := eq_false hneg
  have hrs : rstC d k l nm n = if par d.l (l.getD a .zero).maker.toNat = par d.l k.toNat then l.set a ⟨nm, stopI n, k⟩ else l ++ [⟨nm, stopI n, k⟩] := by
    unfold rstC rstB atPar
    rw [ha, Int.toNat_natCast, decide_eq_true (show (0 : Int) ≤ (a : Int) by omega), Bool.true_and]
    simp only [decide_eq_true_eq]
  rw [hrs]
  have hg := getD_cnts l a
  have hmk := hm _ (getD_memC hal)
  generalize l.getD a .zero = c at *
  obtain ⟨cn, cv, cm⟩ := c
  simp only at hmk
  obtain ⟨m0, m1⟩ := hmk
  have a0 : (0 : Int) ≤ (a : Int) := by omega
  have a1 : (a : Int) < (l.length : Int) := by omega
  have g1 := fun z => getD_nodes19 d.l cm.toNat (by omega) z
  have g2 := fun z => getD_nodes19 d.l k.toNat (by omega) z
  have p1 : (d.l.getD cm.toNat .zero).parent = par d.l cm.toNat := rfl
  have p2 : (d.l.getD k.toNat .zero).parent = par d.l k.toNat := rfl
  rw [ha] at hneg
  by_cases he : par d.l cm.toNat = par d.l k.toNat
  · rw [if_pos he]
    rw [he] at p1
    simp -implicitDefEqProofs only [c37, cnts, Doc.enc, Cnt.enc, Node.enc, ha, hneg, a0, a1, hg, g1, g2, p1, p2, m0, m1, h0, h1, l6, dCnts_map, List.take_length, Nat.le_refl, on_gcall, off_gcall, flat_gcall, wpC_seq_xreg, wpC_xreg, wpXR_nil, wpXR_own, wpXR_flu, xeOK, xe, argTops, openArgs, Orc.ppre_cons, Orc.pr_cons, Orc.ppre_econs, Orc.pr_econs, Orc.ppre_fcons, Orc.pr_fcons, Orc.ppre_gcons, Orc.pr_gcons, List.head?_cons, List.headD_cons, XE.val, XE.heap, efO, shutArgs, xfoot, footO, V.tops, V.top1, clashOne, noClash, Orc.flat_fcons, Orc.pre_fcons, Orc.v_fcons, Orc.hp_fcons, Orc.qpre_fcons, Orc.qv_fcons, Orc.fpre_fcons, Orc.fes_fcons, Orc.flat_gcons, Orc.pre_gcons, Orc.v_gcons, Orc.hp_gcons, Orc.qpre_gcons, Orc.qv_gcons, Orc.fpre_gcons, Orc.fes_gcons, GSum.pre, GSum.v, GSum.hp, Orc.fpre_cons, Orc.fes_cons, Orc.fpre_econs, Orc.fes_econs, FSum.pre, FSum.v, FSum.hp, fres, O.calls, List.flatMap_cons, List.flatMap_nil, List.contains_cons, List.contains_nil, Bool.not_true, Bool.not_false, Heap.freeze, List.mapIdx_cons, List.mapIdx_nil, List.elem_cons, List.elem_nil, fluP, fluV, evF, bne_iff_ne, ne_eq, Option.some.injEq, go_sem, reduceCtorEq, reduceIte, Nat.reduceEqDiff, Nat.reduceAdd, Nat.reduceSub, Nat.reduceMul, Nat.reduceLT, Nat.reduceLeDiff, Nat.reduceBEq, Int.reduceEq, Int.reduceLT, Int.reduceLE, Int.reduceAdd, Int.reduceSub, Int.reduceNeg, Int.reduceToNat]
    refine ⟨⟨by omega, by omega⟩, hal, ?_⟩
    have e : (l.map Cnt.enc).set a [vs nm, vi (stopI n), vi k] = (l.set a ⟨nm, stopI n, k⟩).map Cnt.enc := by rw [List.map_set]; rfl
    rw [e]
    exact fin19 _ _ _ _ (by simp)
  · rw [if_neg he]
    have he := eq_false he
    simp -implicitDefEqProofs only [c37, cnts, Doc.enc, Cnt.enc, Node.enc, ha, hneg, a0, a1, hg, g1, g2, p1, p2, he, m0, m1, h0, h1, l6, dCnts_map, List.take_length, Nat.le_refl, on_gcall, off_gcall, flat_gcall, wpC_seq_xreg, wpC_xreg, wpXR_nil, wpXR_own, wpXR_flu, xeOK, xe, argTops, openArgs, Orc.ppre_cons, Orc.pr_cons, Orc.ppre_econs, Orc.pr_econs, Orc.ppre_fcons, Orc.pr_fcons, Orc.ppre_gcons, Orc.pr_gcons, List.head?_cons, List.headD_cons, XE.val, XE.heap, efO, shutArgs, xfoot, footO, V.tops, V.top1, clashOne, noClash, Orc.flat_fcons, Orc.pre_fcons, Orc.v_fcons, Orc.hp_fcons, Orc.qpre_fcons, Orc.qv_fcons, Orc.fpre_fcons, Orc.fes_fcons, Orc.flat_gcons, Orc.pre_gcons, Orc.v_gcons, Orc.hp_gcons, Orc.qpre_gcons, Orc.qv_gcons, Orc.fpre_gcons, Orc.fes_gcons, GSum.pre, GSum.v, GSum.hp, Orc.fpre_cons, Orc.fes_cons, Orc.fpre_econs, Orc.fes_econs, FSum.pre, FSum.v, FSum.hp, fres, O.calls, List.flatMap_cons, List.flatMap_nil, List.contains_cons, List.contains_nil, Bool.not_true, Bool.not_false, Heap.freeze, List.mapIdx_cons, List.mapIdx_nil, List.elem_cons, List.elem_nil, fluP, fluV, evF, bne_iff_ne, ne_eq, Option.some.injEq, go_sem, reduceCtorEq, reduceIte, Nat.reduceEqDiff, Nat.reduceAdd, Nat.reduceSub, Nat.reduceMul, Nat.reduceLT, Nat.reduceLeDiff, Nat.reduceBEq, Int.reduceEq, Int.reduceLT, Int.reduceLE, Int.reduceAdd, Int.reduceSub, Int.reduceNeg, Int.reduceToNat]
    refine ⟨⟨by omega, by omega⟩, ⟨by omega, by omega⟩, ?_⟩
    have e := appE l ⟨nm, stopI n, k⟩
    simp only [Cnt.enc] at e
    rw [e]
    exact fin19 _ _ _ _ (by simp)
theorem allC_cnts (l : List Cnt) : (l.map Cnt.enc).all (fun e => e.all V.isC) = true := by
  rw [List.all_eq_true]; intro e he; obtain ⟨n, _, rfl⟩ := List.mem_map.1 he; rfl
def mdD (args : List V) : Prop := args = [cnts (dCnts (args.getD 0 .any)), .agg (Doc.enc (dDoc (args.getD 1 .any))), vi (args.getD 2 .any).int, vs (args.getD 3 .any).str, vi (args.getD 4 .any).int] ∧
  (dCnts (args.getD 0 .any)).length ≤ 100000 ∧ okMk (dDoc (args.getD 1 .any)) (dCnts (args.getD 0 .any)) ∧ 0 ≤ (args.getD 2 .any).int ∧ (args.getD 2 .any).int < (dDoc (args.getD 1 .any)).l.length
def sumMadeG : GSum Try.prog := ⟨37, mdD, 3, [vs ⟨#[]⟩, vi 0, vi 0],
  fun args => (rstC (dDoc (args.getD 1 .any)) (args.getD 2 .any).int (dCnts (args.getD 0 .any)) (args.getD 3 .any).str (args.getD 4 .any).int).map Cnt.enc, fun args h => (by
    have := made_ok (dDoc (args.getD 1 .any)) (args.getD 2 .any).int (dCnts (args.getD 0 .any)) (args.getD 3 .any).str (args.getD 4 .any).int h.2.1 h.2.2.1 h.2.2.2.1 h.2.2.2.2
    rwa [← h.1] at this), fun args => allC_cnts _⟩
theorem sumMadeG_f : sumMadeG.f = 37 := rfl
theorem sumMadeG_D (args : List V) : sumMadeG.D args = (args = [cnts (dCnts (args.getD 0 .any)), .agg (Doc.enc (dDoc (args.getD 1 .any))), vi (args.getD 2 .any).int, vs (args.getD 3 .any).str, vi (args.getD 4 .any).int] ∧
  (dCnts (args.getD 0 .any)).length ≤ 100000 ∧ okMk (dDoc (args.getD 1 .any)) (dCnts (args.getD 0 .any)) ∧ 0 ≤ (args.getD 2 .any).int ∧ (args.getD 2 .any).int < (dDoc (args.getD 1 .any)).l.length) := rfl
theorem sumMadeG_sz : sumMadeG.sz = 3 := rfl
theorem sumMadeG_d : sumMadeG.d = [vs ⟨#[]⟩, vi 0, vi 0] := rfl
theorem sumMadeG_r (args : List V) : sumMadeG.r args = (rstC (dDoc (args.getD 1 .any)) (args.getD 2 .any).int (dCnts (args.getD 0 .any)) (args.getD 3 .any).str (args.getD 4 .any).int).map Cnt.enc := rfl
attribute [go_sem] sumMadeG_f sumMadeG_D sumMadeG_sz sumMadeG_d sumMadeG_r
def kpR (d : Doc) (k : Int) (c : Cnt) : Bool := decide (c.maker = 0) || (decide (0 < c.maker) && (decide (c.maker < d.l.length) && inN d.l k (par d.l c.maker.toNat)))
theorem kpR_seen {d : Doc} (hL : okL d) {k : Int} (h0 : 0 ≤ k) (h1 : k < d.l.length) (c : Cnt) : kpR d k c = seenB d c k := by
  have hd := hL.1.doc.2
  unfold kpR seenB
  by_cases hz : c.maker ≤ 0 ∨ (d.l.length : Int) ≤ c.maker
  · rw [if_pos hz]
    by_cases e : c.maker = 0
    · rw [decide_eq_true e]; rfl
    · rw [decide_eq_false e, Bool.false_or]
      rcases hz with h | h
      · rw [decide_eq_false (by omega), Bool.false_and]
      · rw [decide_eq_false (show ¬ c.maker < (d.l.length : Int) by omega), Bool.false_and, Bool.and_false]
  · rw [if_neg hz, decide_eq_false (by omega), decide_eq_true (by omega), decide_eq_true (by omega), Bool.false_or, Bool.true_and, Bool.true_and]
    have hm := (standR_pos (by omega)).1 (hd c.maker.toNat (by omega))
    generalize par d.l c.maker.toNat = p at *
    obtain ⟨p, rfl⟩ : ∃ q : Nat, p = q := ⟨p.toNat, by omega⟩
    obtain ⟨k, rfl⟩ : ∃ q : Nat, k = q := ⟨k.toNat, by omega⟩
    rw [endV_at hL (by omega)]
    by_cases h2 : p ≤ k
    · rw [decide_eq_true (show (p : Int) ≤ k by omega), Bool.true_and]
      by_cases h3 : k < endN d.l p
      · rw [decide_eq_true (show (k : Int) < endN d.l p by omega)]
        exact in_sub d.l hd p (by omega) k h2 h3
      · rw [decide_eq_false (show ¬ (k : Int) < endN d.l p by omega)]
        exact out_sub d.l hd p (by omega) k (by omega) (by omega)
    · rw [decide_eq_false (show ¬ (p : Int) ≤ k by omega), Bool.false_and]
      exact inN_low _ _ _ (by omega)
end Go.Proofs.Yteifbbinfipdlaa
