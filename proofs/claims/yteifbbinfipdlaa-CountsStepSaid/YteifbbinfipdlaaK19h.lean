/- Layer 19: a counter is made, or gets a number. -/
import Derived.Test.YteifbbinfipdlaaK19g
namespace Go.Proofs.Yteifbbinfipdlaa
open Go.Sx
set_option linter.unusedVariables false
set_option linter.unusedSimpArgs false
set_option maxHeartbeats 8000000
set_option maxRecDepth 20000

/-- The heap in which Step works: its arguments, the counters, where they are kept, and one place more. -/
def hs (d : Doc) (pv : List V) (k : Int) (l : List Cnt) (ver : Nat) (ob : V) (b : Blk) (clk : Nat) : Heap :=
  ⟨[⟨0, 5, [d.enc], false, []⟩, ⟨1, 8, [pv], false, []⟩, ⟨2, 1, [[vi k]], false, []⟩, ⟨ver, 3, l.map Cnt.enc, false, [vs ⟨#[]⟩, vi 0, vi 0]⟩, ⟨4, 1, [[ob]], false, []⟩, b], clk⟩
theorem lastF_rng (l : List Cnt) (nm : ByteArray) : ∀ k, k ≤ l.length → -1 ≤ lastF l nm k ∧ lastF l nm k < k
  | 0, _ => by simp [lastF]
  | k + 1, h => by
    have ih := lastF_rng l nm k (by omega)
    simp only [lastF]
    split <;> omega
theorem lastC_rng (l : List Cnt) (nm : ByteArray) : -1 ≤ lastC l nm ∧ lastC l nm < l.length := lastF_rng l nm l.length (Nat.le_refl _)
def atPar (d : Doc) (k : Int) (l : List Cnt) (nm : ByteArray) : Bool := decide (par d.l (l.getD (lastC l nm).toNat .zero).maker.toNat = par d.l k.toNat)
def rstB (d : Doc) (k : Int) (l : List Cnt) (nm : ByteArray) : Bool := decide (0 ≤ lastC l nm) && atPar d k l nm
def rstC (d : Doc) (k : Int) (l : List Cnt) (nm : ByteArray) (n : Int) : List Cnt := if rstB d k l nm = true then l.set (lastC l nm).toNat ⟨nm, stopI n, k⟩ else l ++ [⟨nm, stopI n, k⟩]
/-- Do all makers stand in the document? -/
def okMk (d : Doc) (l : List Cnt) : Prop := ∀ c ∈ l, 0 ≤ c.maker ∧ c.maker < d.l.length
def okX (x : V) : Prop := x = vnil ∨ ∃ m es, x = .slc m es
theorem rst_call (d : Doc) (pv : List V) (k : Int) (l : List Cnt) (ver : Nat) (ob : V) (b : Blk) (clk : Nat) (nm : ByteArray) (n : Int) (x : V) (hx : okX x) (hd : d.l.length ≤ 1000) (hl : l.length ≤ 100000) (hm : okMk d l) (h0 : 0 ≤ k) (h1 : k < d.l.length) :
    CallOK Try.prog 29 [.ref 3 ver 0 l.length, .agg d.enc, vi k, .agg [vs nm, vi n, x]] (hs d pv k l ver ob b clk)
      (.ref 3 (if rstB d k l nm = true then ver else clk + 4) 0 (rstC d k l nm n).length) (hs d pv k (rstC d k l nm n) (if rstB d k l nm = true then ver else clk + 4) ob b (if rstB d k l nm = true then clk + 3 else clk + 5)) := by
  refine CallOK.walk (Orc.cons sumStop (Orc.cons sumLast (Orc.nil _))) c29_ok (by simp [c29]) fun w0 own0 => ?_
  have hgk := fun z => getD_nodes19 d.l k.toNat (by omega) z
  have hpk : (d.l.getD k.toNat .zero).parent = par d.l k.toNat := rfl
  have hl6 : l.length ≤ 1000000 := by omega
  obtain ⟨r1, r2⟩ := lastC_rng l nm
  have hxx : (∃ m es, x = .slc m es) ∨ x = vnil := by rcases hx with h | h; exact .inr h; exact .inl h
  by_cases ha : 0 ≤ lastC l nm
  · obtain ⟨a, hat⟩ : ∃ a : Nat, lastC l nm = a := ⟨(lastC l nm).toNat, by omega⟩
    have hal : a < l.length := by omega
    have hg := getD_cnts l a
    have hmk := hm (l.getD a .zero) (by rw [List.getD_eq_getElem?_getD, List.getElem?_eq_getElem hal]; exact List.getElem_mem _)
    have hrb : rstB d k l nm = decide (par d.l (l.getD a .zero).maker.toNat = par d.l k.toNat) := by unfold rstB atPar; rw [hat]; simp
    have hrc : rstC d k l nm n = if rstB d k l nm = true then l.set a ⟨nm, stopI n, k⟩ else l ++ [⟨nm, stopI n, k⟩] := by unfold rstC; rw [hat, Int.toNat_natCast]
    have hset : (l.map Cnt.enc).set a [vs nm, vi (stopI n), vi k] = (l.set a ⟨nm, stopI n, k⟩).map Cnt.enc := by rw [List.map_set]; rfl
    generalize l.getD a .zero = c at *
    have hgm := fun z => getD_nodes19 d.l c.maker.toNat (by omega) z
    have hpm : (d.l.getD c.maker.toNat .zero).parent = par d.l c.maker.toNat := rfl
    have e0 : (0 : Int) ≤ (a : Int) := by omega
    have e1 : (a : Int) < (l.length : Int) := by omega
    obtain ⟨m0, m1⟩ := hmk
    by_cases hp : par d.l c.maker.toNat = par d.l k.toNat
    · have hp' := decide_eq_true hp
      rw [hp'] at hrb
      rw [hrb, if_pos rfl] at hrc
      rw [hrb, hrc]
      have hp := eq_true hp
      rcases hxx with ⟨m, es, rfl⟩ | rfl
      · simp only [c29, hs, Doc.enc, Cnt.enc, Node.enc, hat, hg, hgm, hpm, hgk, hpk, e0, e1, m0, m1, h0, h1, hp, hl6, cnts, dCnts_map, mapO_cnts11, List.take_length, Nat.le_refl, wpC_seq_breg, wpFB_nil, wpFB_cons, boxH, boxE, boxOK, on_gcall, off_gcall, flat_gcall, wpC_seq_xreg, wpC_xreg, wpXR_nil, wpXR_own, wpXR_flu, xeOK, xe, argTops, openArgs, Orc.ppre_cons, Orc.pr_cons, Orc.ppre_econs, Orc.pr_econs, Orc.ppre_fcons, Orc.pr_fcons, Orc.ppre_gcons, Orc.pr_gcons, List.head?_cons, List.headD_cons, XE.val, XE.heap, efO, shutArgs, xfoot, footO, V.tops, V.top1, clashOne, noClash, Orc.flat_fcons, Orc.pre_fcons, Orc.v_fcons, Orc.hp_fcons, Orc.qpre_fcons, Orc.qv_fcons, Orc.fpre_fcons, Orc.fes_fcons, Orc.flat_gcons, Orc.pre_gcons, Orc.v_gcons, Orc.hp_gcons, Orc.qpre_gcons, Orc.qv_gcons, Orc.fpre_gcons, Orc.fes_gcons, GSum.pre, GSum.v, GSum.hp, Orc.fpre_cons, Orc.fes_cons, Orc.fpre_econs, Orc.fes_econs, FSum.pre, FSum.v, FSum.hp, fres, O.calls, List.flatMap_cons, List.flatMap_nil, List.contains_cons, List.contains_nil, Bool.not_true, Bool.not_false, Heap.freeze, List.mapIdx_cons, List.mapIdx_nil, List.elem_cons, List.elem_nil, fluP, fluV, evF, bne_iff_ne, ne_eq, Option.some.injEq, go_sem, reduceCtorEq, reduceIte, Nat.reduceEqDiff, Nat.reduceAdd, Nat.reduceSub, Nat.reduceMul, Nat.reduceLT, Nat.reduceLeDiff, Nat.reduceBEq, Int.reduceEq, Int.reduceLT, Int.reduceLE, Int.reduceAdd, Int.reduceSub, Int.reduceNeg, Int.reduceToNat]
        exact ⟨hal, hal, by simp, hset⟩
      · simp only [c29, hs, Doc.enc, Cnt.enc, Node.enc, hat, hg, hgm, hpm, hgk, hpk, e0, e1, m0, m1, h0, h1, hp, hl6, cnts, dCnts_map, mapO_cnts11, List.take_length, Nat.le_refl, wpC_seq_breg, wpFB_nil, wpFB_cons, boxH, boxE, boxOK, on_gcall, off_gcall, flat_gcall, wpC_seq_xreg, wpC_xreg, wpXR_nil, wpXR_own, wpXR_flu, xeOK, xe, argTops, openArgs, Orc.ppre_cons, Orc.pr_cons, Orc.ppre_econs, Orc.pr_econs, Orc.ppre_fcons, Orc.pr_fcons, Orc.ppre_gcons, Orc.pr_gcons, List.head?_cons, List.headD_cons, XE.val, XE.heap, efO, shutArgs, xfoot, footO, V.tops, V.top1, clashOne, noClash, Orc.flat_fcons, Orc.pre_fcons, Orc.v_fcons, Orc.hp_fcons, Orc.qpre_fcons, Orc.qv_fcons, Orc.fpre_fcons, Orc.fes_fcons, Orc.flat_gcons, Orc.pre_gcons, Orc.v_gcons, Orc.hp_gcons, Orc.qpre_gcons, Orc.qv_gcons, Orc.fpre_gcons, Orc.fes_gcons, GSum.pre, GSum.v, GSum.hp, Orc.fpre_cons, Orc.fes_cons, Orc.fpre_econs, Orc.fes_econs, FSum.pre, FSum.v, FSum.hp, fres, O.calls, List.flatMap_cons, List.flatMap_nil, List.contains_cons, List.contains_nil, Bool.not_true, Bool.not_false, Heap.freeze, List.mapIdx_cons, List.mapIdx_nil, List.elem_cons, List.elem_nil, fluP, fluV, evF, bne_iff_ne, ne_eq, Option.some.injEq, go_sem, reduceCtorEq, reduceIte, Nat.reduceEqDiff, Nat.reduceAdd, Nat.reduceSub, Nat.reduceMul, Nat.reduceLT, Nat.reduceLeDiff, Nat.reduceBEq, Int.reduceEq, Int.reduceLT, Int.reduceLE, Int.reduceAdd, Int.reduceSub, Int.reduceNeg, Int.reduceToNat]
        exact ⟨hal, hal, by simp, hset⟩
    · have hp' := decide_eq_false hp
      rw [hp'] at hrb
      rw [hrb, if_neg (by simp)] at hrc
      rw [hrb, hrc]
      have hp := eq_false hp
      rcases hxx with ⟨m, es, rfl⟩ | rfl
      · simp only [c29, hs, Doc.enc, Cnt.enc, Node.enc, hat, hg, hgm, hpm, hgk, hpk, e0, e1, m0, m1, h0, h1, hp, hl6, cnts, dCnts_map, mapO_cnts11, List.take_length, Nat.le_refl, wpC_seq_breg, wpFB_nil, wpFB_cons, boxH, boxE, boxOK, on_gcall, off_gcall, flat_gcall, wpC_seq_xreg, wpC_xreg, wpXR_nil, wpXR_own, wpXR_flu, xeOK, xe, argTops, openArgs, Orc.ppre_cons, Orc.pr_cons, Orc.ppre_econs, Orc.pr_econs, Orc.ppre_fcons, Orc.pr_fcons, Orc.ppre_gcons, Orc.pr_gcons, List.head?_cons, List.headD_cons, XE.val, XE.heap, efO, shutArgs, xfoot, footO, V.tops, V.top1, clashOne, noClash, Orc.flat_fcons, Orc.pre_fcons, Orc.v_fcons, Orc.hp_fcons, Orc.qpre_fcons, Orc.qv_fcons, Orc.fpre_fcons, Orc.fes_fcons, Orc.flat_gcons, Orc.pre_gcons, Orc.v_gcons, Orc.hp_gcons, Orc.qpre_gcons, Orc.qv_gcons, Orc.fpre_gcons, Orc.fes_gcons, GSum.pre, GSum.v, GSum.hp, Orc.fpre_cons, Orc.fes_cons, Orc.fpre_econs, Orc.fes_econs, FSum.pre, FSum.v, FSum.hp, fres, O.calls, List.flatMap_cons, List.flatMap_nil, List.contains_cons, List.contains_nil, Bool.not_true, Bool.not_false, Heap.freeze, List.mapIdx_cons, List.mapIdx_nil, List.elem_cons, List.elem_nil, fluP, fluV, evF, bne_iff_ne, ne_eq, Option.some.injEq, go_sem, reduceCtorEq, reduceIte, Nat.reduceEqDiff, Nat.reduceAdd, Nat.reduceSub, Nat.reduceMul, Nat.reduceLT, Nat.reduceLeDiff, Nat.reduceBEq, Int.reduceEq, Int.reduceLT, Int.reduceLE, Int.reduceAdd, Int.reduceSub, Int.reduceNeg, Int.reduceToNat]
        exact ⟨hal, ⟨by omega, by omega⟩, by simp, by simp [Cnt.enc]⟩
      · simp only [c29, hs, Doc.enc, Cnt.enc, Node.enc, hat, hg, hgm, hpm, hgk, hpk, e0, e1, m0, m1, h0, h1, hp, hl6, cnts, dCnts_map, mapO_cnts11, List.take_length, Nat.le_refl, wpC_seq_breg, wpFB_nil, wpFB_cons, boxH, boxE, boxOK, on_gcall, off_gcall, flat_gcall, wpC_seq_xreg, wpC_xreg, wpXR_nil, wpXR_own, wpXR_flu, xeOK, xe, argTops, openArgs, Orc.ppre_cons, Orc.pr_cons, Orc.ppre_econs, Orc.pr_econs, Orc.ppre_fcons, Orc.pr_fcons, Orc.ppre_gcons, Orc.pr_gcons, List.head?_cons, List.headD_cons, XE.val, XE.heap, efO, shutArgs, xfoot, footO, V.tops, V.top1, clashOne, noClash, Orc.flat_fcons, Orc.pre_fcons, Orc.v_fcons, Orc.hp_fcons, Orc.qpre_fcons, Orc.qv_fcons, Orc.fpre_fcons, Orc.fes_fcons, Orc.flat_gcons, Orc.pre_gcons, Orc.v_gcons, Orc.hp_gcons, Orc.qpre_gcons, Orc.qv_gcons, Orc.fpre_gcons, Orc.fes_gcons, GSum.pre, GSum.v, GSum.hp, Orc.fpre_cons, Orc.fes_cons, Orc.fpre_econs, Orc.fes_econs, FSum.pre, FSum.v, FSum.hp, fres, O.calls, List.flatMap_cons, List.flatMap_nil, List.contains_cons, List.contains_nil, Bool.not_true, Bool.not_false, Heap.freeze, List.mapIdx_cons, List.mapIdx_nil, List.elem_cons, List.elem_nil, fluP, fluV, evF, bne_iff_ne, ne_eq, Option.some.injEq, go_sem, reduceCtorEq, reduceIte, Nat.reduceEqDiff, Nat.reduceAdd, Nat.reduceSub, Nat.reduceMul, Nat.reduceLT, Nat.reduceLeDiff, Nat.reduceBEq, Int.reduceEq, Int.reduceLT, Int.reduceLE, Int.reduceAdd, Int.reduceSub, Int.reduceNeg, Int.reduceToNat]
        exact ⟨hal, ⟨by omega, by omega⟩, by simp, by simp [Cnt.enc]⟩
  · have hrb : rstB d k l nm = false := by unfold rstB; rw [decide_eq_false ha]; rfl
    have hrc : rstC d k l nm n = l ++ [⟨nm, stopI n, k⟩] := by unfold rstC; rw [hrb, if_neg (by simp)]
    rw [hrb, hrc]
    have hneg := eq_false ha
    rcases hxx with ⟨m, es, rfl⟩ | rfl
    · simp only [c29, hs, Doc.enc, Cnt.enc, hneg, hl6, cnts, dCnts_map, mapO_cnts11, List.take_length, Nat.le_refl, wpC_seq_breg, wpFB_nil, wpFB_cons, boxH, boxE, boxOK, on_gcall, off_gcall, flat_gcall, wpC_seq_xreg, wpC_xreg, wpXR_nil, wpXR_own, wpXR_flu, xeOK, xe, argTops, openArgs, Orc.ppre_cons, Orc.pr_cons, Orc.ppre_econs, Orc.pr_econs, Orc.ppre_fcons, Orc.pr_fcons, Orc.ppre_gcons, Orc.pr_gcons, List.head?_cons, List.headD_cons, XE.val, XE.heap, efO, shutArgs, xfoot, footO, V.tops, V.top1, clashOne, noClash, Orc.flat_fcons, Orc.pre_fcons, Orc.v_fcons, Orc.hp_fcons, Orc.qpre_fcons, Orc.qv_fcons, Orc.fpre_fcons, Orc.fes_fcons, Orc.flat_gcons, Orc.pre_gcons, Orc.v_gcons, Orc.hp_gcons, Orc.qpre_gcons, Orc.qv_gcons, Orc.fpre_gcons, Orc.fes_gcons, GSum.pre, GSum.v, GSum.hp, Orc.fpre_cons, Orc.fes_cons, Orc.fpre_econs, Orc.fes_econs, FSum.pre, FSum.v, FSum.hp, fres, O.calls, List.flatMap_cons, List.flatMap_nil, List.contains_cons, List.contains_nil, Bool.not_true, Bool.not_false, Heap.freeze, List.mapIdx_cons, List.mapIdx_nil, List.elem_cons, List.elem_nil, fluP, fluV, evF, bne_iff_ne, ne_eq, Option.some.injEq, go_sem, reduceCtorEq, reduceIte, Nat.reduceEqDiff, Nat.reduceAdd, Nat.reduceSub, Nat.reduceMul, Nat.reduceLT, Nat.reduceLeDiff, Nat.reduceBEq, Int.reduceEq, Int.reduceLT, Int.reduceLE, Int.reduceAdd, Int.reduceSub, Int.reduceNeg, Int.reduceToNat]
      exact ⟨⟨by omega, by omega⟩, by simp, by simp [Cnt.enc]⟩
    · simp only [c29, hs, Doc.enc, Cnt.enc, hneg, hl6, cnts, dCnts_map, mapO_cnts11, List.take_length, Nat.le_refl, wpC_seq_breg, wpFB_nil, wpFB_cons, boxH, boxE, boxOK, on_gcall, off_gcall, flat_gcall, wpC_seq_xreg, wpC_xreg, wpXR_nil, wpXR_own, wpXR_flu, xeOK, xe, argTops, openArgs, Orc.ppre_cons, Orc.pr_cons, Orc.ppre_econs, Orc.pr_econs, Orc.ppre_fcons, Orc.pr_fcons, Orc.ppre_gcons, Orc.pr_gcons, List.head?_cons, List.headD_cons, XE.val, XE.heap, efO, shutArgs, xfoot, footO, V.tops, V.top1, clashOne, noClash, Orc.flat_fcons, Orc.pre_fcons, Orc.v_fcons, Orc.hp_fcons, Orc.qpre_fcons, Orc.qv_fcons, Orc.fpre_fcons, Orc.fes_fcons, Orc.flat_gcons, Orc.pre_gcons, Orc.v_gcons, Orc.hp_gcons, Orc.qpre_gcons, Orc.qv_gcons, Orc.fpre_gcons, Orc.fes_gcons, GSum.pre, GSum.v, GSum.hp, Orc.fpre_cons, Orc.fes_cons, Orc.fpre_econs, Orc.fes_econs, FSum.pre, FSum.v, FSum.hp, fres, O.calls, List.flatMap_cons, List.flatMap_nil, List.contains_cons, List.contains_nil, Bool.not_true, Bool.not_false, Heap.freeze, List.mapIdx_cons, List.mapIdx_nil, List.elem_cons, List.elem_nil, fluP, fluV, evF, bne_iff_ne, ne_eq, Option.some.injEq, go_sem, reduceCtorEq, reduceIte, Nat.reduceEqDiff, Nat.reduceAdd, Nat.reduceSub, Nat.reduceMul, Nat.reduceLT, Nat.reduceLeDiff, Nat.reduceBEq, Int.reduceEq, Int.reduceLT, Int.reduceLE, Int.reduceAdd, Int.reduceSub, Int.reduceNeg, Int.reduceToNat]
      exact ⟨⟨by omega, by omega⟩, by simp, by simp [Cnt.enc]⟩
/-! ### As what is known of a call -/
def rstP (args : List V) (h : Heap) : Prop := ∃ (d : Doc) (pv : List V) (k : Int) (l : List Cnt) (ver : Nat) (ob : V) (b : Blk) (clk : Nat) (nm : ByteArray) (n : Int) (x : V),
  args = [.ref 3 ver 0 l.length, .agg d.enc, vi k, .agg [vs nm, vi n, x]] ∧ h = hs d pv k l ver ob b clk ∧ okX x ∧ d.l.length ≤ 1000 ∧ l.length ≤ 100000 ∧ okMk d l ∧ 0 ≤ k ∧ k < d.l.length
def rsL (h : Heap) : List Cnt := dCnts (.slc 3 (h.blk 3).es)
def rsB (args : List V) (h : Heap) : Bool := rstB (dDoc (args.getD 1 .any)) (args.getD 2 .any).int (rsL h) (((args.getD 3 .any).cs).getD 0 .any).str
def rsN (args : List V) (h : Heap) : List Cnt := rstC (dDoc (args.getD 1 .any)) (args.getD 2 .any).int (rsL h) (((args.getD 3 .any).cs).getD 0 .any).str (((args.getD 3 .any).cs).getD 1 .any).int
def rsV (args : List V) (h : Heap) : V := .ref 3 (if rsB args h = true then (h.blk 3).ver else h.clk + 4) 0 (rsN args h).length
def rsH (args : List V) (h : Heap) : Heap := ⟨[h.blk 0, h.blk 1, h.blk 2, ⟨if rsB args h = true then (h.blk 3).ver else h.clk + 4, 3, (rsN args h).map Cnt.enc, false, [vs ⟨#[]⟩, vi 0, vi 0]⟩, h.blk 4, h.blk 5], if rsB args h = true then h.clk + 3 else h.clk + 5⟩
section
variable (d : Doc) (pv : List V) (k : Int) (l : List Cnt) (ver : Nat) (ob : V) (b : Blk) (clk : Nat) (nm : ByteArray) (n : Int) (x : V)
theorem rsL_at : rsL (hs d pv k l ver ob b clk) = l := by
  simp only [rsL, hs, Heap.blk, List.getElem?_cons_zero, List.getElem?_cons_succ, Option.getD_some, List.getD_eq_getElem?_getD, dCnts_map]
theorem rsB_at : rsB [.ref 3 ver 0 l.length, .agg d.enc, vi k, .agg [vs nm, vi n, x]] (hs d pv k l ver ob b clk) = rstB d k l nm := by
  have e : dDoc (.agg d.enc) = d := dDoc_enc d
  simp only [rsB, rsL_at, List.getD_cons_zero, List.getD_cons_succ, e]; rfl
theorem rsN_at : rsN [.ref 3 ver 0 l.length, .agg d.enc, vi k, .agg [vs nm, vi n, x]] (hs d pv k l ver ob b clk) = rstC d k l nm n := by
  have e : dDoc (.agg d.enc) = d := dDoc_enc d
  simp only [rsN, rsL_at, List.getD_cons_zero, List.getD_cons_succ, e]; rfl
theorem rsV_at : rsV [.ref 3 ver 0 l.length, .agg d.enc, vi k, .agg [vs nm, vi n, x]] (hs d pv k l ver ob b clk) = .ref 3 (if rstB d k l nm = true then ver else clk + 4) 0 (rstC d k l nm n).length := by
  unfold rsV; rw [rsB_at, rsN_at]; rfl
theorem rsH_at : rsH [.ref 3 ver 0 l.length, .agg d.enc, vi k, .agg [vs nm, vi n, x]] (hs d pv k l ver ob b clk) = hs d pv k (rstC d k l nm n) (if rstB d k l nm = true then ver else clk + 4) ob b (if rstB d k l nm = true then clk + 3 else clk + 5) := by
  unfold rsH; rw [rsB_at, rsN_at]; rfl
end
def sumRstE : ESum Try.prog := ⟨29, rstP, rsV, rsH, fun args h hp => by
  obtain ⟨d, pv, k, l, ver, ob, b, clk, nm, n, x, rfl, rfl, h1, h2, h3, h4, h5, h6⟩ := hp
  rw [rsV_at, rsH_at]; exact rst_call d pv k l ver ob b clk nm n x h1 h2 h3 h4 h5 h6⟩
end Go.Proofs.Yteifbbinfipdlaa
