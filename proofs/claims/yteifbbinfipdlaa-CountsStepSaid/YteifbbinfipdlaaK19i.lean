/- Layer 19: what steps do to counters. -/
import Derived.Test.YteifbbinfipdlaaK19h
namespace Go.Proofs.Yteifbbinfipdlaa
open Go.Sx
set_option linter.unusedSimpArgs false
set_option maxHeartbeats 8000000
set_option maxRecDepth 20000

structure VSt where
  name : ByteArray
  n : Int
  x : V
def VSt.zero : VSt := ⟨⟨#[]⟩, 0, vnil⟩
def VSt.enc (s : VSt) : List V := [vs s.name, vi s.n, s.x]
theorem getD_vsts (l : List VSt) (i : Nat) (z : List V) (h : i < l.length) : (l.map VSt.enc).getD i z = (l.getD i .zero).enc := by
  simp [List.getD_eq_getElem?_getD, h]
def okS (ss : List VSt) : Prop := ∀ s ∈ ss, okX s.x
theorem st3_ok (a b : Int) : PCall Try.prog 33 [vi a, vi b] (vi (stopI b)) := by
  refine PCall.of (Orc.cons sumStop (Orc.nil _)) c33_ok (by simp [c33]) fun w0 own0 => ?_
  simp only [c33, go_sem, wpR_gcall, reduceCtorEq, reduceIte, Nat.reduceEqDiff, Nat.reduceAdd, Nat.reduceSub, Nat.reduceMul, Nat.reduceLT, Nat.reduceLeDiff, Nat.reduceBEq, Int.reduceEq, Int.reduceLT, Int.reduceLE, Int.reduceAdd, Int.reduceSub, Int.reduceNeg, Int.reduceToNat]
def sumSt3 : Sum Try.prog := ⟨33, fun args => args = [vi ((args.getD 0 .any).int), vi ((args.getD 1 .any).int)], fun args => vi (stopI ((args.getD 1 .any).int)), fun args h => by
  have := st3_ok ((args.getD 0 .any).int) ((args.getD 1 .any).int); rwa [← h] at this, true⟩
theorem sumSt3_f : sumSt3.f = 33 := rfl
theorem sumSt3_D (args : List V) : sumSt3.D args = (args = [vi ((args.getD 0 .any).int), vi ((args.getD 1 .any).int)]) := rfl
theorem sumSt3_flat : sumSt3.flat = true := rfl
theorem sumSt3_r (args : List V) : sumSt3.r args = vi (stopI ((args.getD 1 .any).int)) := rfl
attribute [go_sem] sumSt3_f sumSt3_D sumSt3_flat sumSt3_r
/-- The counters, and the version of the memory that has them. -/
structure Sv where
  l : List Cnt
  ver : Nat
  clk : Nat
def chgL (d : Doc) (k : Int) (l : List Cnt) (nm : ByteArray) : List Cnt := if lastC l nm < 0 then rstC d k l nm 0 else l
def chg1 (F : Int → Int → Int) (d : Doc) (k : Int) (l : List Cnt) (s : VSt) : List Cnt :=
  (chgL d k l s.name).set (lastC (chgL d k l s.name) s.name).toNat ⟨((chgL d k l s.name).getD (lastC (chgL d k l s.name) s.name).toNat .zero).name, F ((chgL d k l s.name).getD (lastC (chgL d k l s.name) s.name).toNat .zero).n s.n, ((chgL d k l s.name).getD (lastC (chgL d k l s.name) s.name).toNat .zero).maker⟩
def chgS (F : Int → Int → Int) (d : Doc) (k : Int) (a : Sv) (s : VSt) : Sv := ⟨chg1 F d k a.l s, if lastC a.l s.name < 0 then a.clk + 5 else a.ver, if lastC a.l s.name < 0 then a.clk + 6 else a.clk + 1⟩
def chgA (F : Int → Int → Int) (d : Doc) (k : Int) (l : List Cnt) (ss : List VSt) : List Cnt := ss.foldl (chg1 F d k) l
theorem chgS_l (F : Int → Int → Int) (d : Doc) (k : Int) : ∀ (ss : List VSt) (a : Sv), (ss.foldl (chgS F d k) a).l = chgA F d k a.l ss
  | [], a => rfl
  | s :: ss, a => by
    rw [List.foldl_cons, chgS_l F d k ss]; rfl
theorem lastF_le (l : List Cnt) (nm : ByteArray) (m : Nat) (h : (l.getD m .zero).name = nm) : ∀ k, m < k → (m : Int) ≤ lastF l nm k
  | 0, hk => by omega
  | k + 1, hk => by
    simp only [lastF]
    split
    · omega
    · rename_i hn
      by_cases hm : m = k
      · subst hm; exact absurd h hn
      · exact lastF_le l nm m h k (by omega)
theorem lastC_app (l : List Cnt) (c : Cnt) : lastC (l ++ [c]) c.name = l.length := by
  have h1 := lastF_le (l ++ [c]) c.name l.length (by simp) (l.length + 1) (by omega)
  have h2 := lastC_rng (l ++ [c]) c.name
  have h3 : (l ++ [c]).length = l.length + 1 := by simp
  have h4 : lastC (l ++ [c]) c.name = lastF (l ++ [c]) c.name (l.length + 1) := by unfold lastC; rw [h3]
  omega
theorem rstC_neg (d : Doc) (k : Int) (l : List Cnt) (nm : ByteArray) (n : Int) (h : lastC l nm < 0) : rstB d k l nm = false ∧ rstC d k l nm n = l ++ [⟨nm, stopI n, k⟩] := by
  have h1 : rstB d k l nm = false := by unfold rstB; rw [decide_eq_false (by omega)]; rfl
  exact ⟨h1, by unfold rstC; rw [h1, if_neg (by simp)]⟩
/-- Where the last one of a name stands, once there is one. -/
theorem chgL_at (d : Doc) (k : Int) (l : List Cnt) (nm : ByteArray) : ∃ a : Nat, lastC (chgL d k l nm) nm = a ∧ a < (chgL d k l nm).length := by
  unfold chgL
  by_cases h : lastC l nm < 0
  · rw [if_pos h, (rstC_neg d k l nm 0 h).2]
    exact ⟨l.length, lastC_app l ⟨nm, stopI 0, k⟩, by simp⟩
  · rw [if_neg h]
    have := lastC_rng l nm
    exact ⟨(lastC l nm).toNat, by omega, by omega⟩
theorem okMk_app {d : Doc} {l : List Cnt} {c : Cnt} (h : okMk d l) (h0 : 0 ≤ c.maker) (h1 : c.maker < d.l.length) : okMk d (l ++ [c]) := fun x hx => by
  rcases List.mem_append.1 hx with hx | hx
  · exact h x hx
  · obtain rfl := List.mem_singleton.1 hx; exact ⟨h0, h1⟩
theorem okMk_set {d : Doc} {l : List Cnt} {a : Nat} {c : Cnt} (h : okMk d l) (h0 : 0 ≤ c.maker) (h1 : c.maker < d.l.length) : okMk d (l.set a c) := fun x hx => by
  rcases List.mem_or_eq_of_mem_set hx with hx | rfl
  · exact h x hx
  · exact ⟨h0, h1⟩
theorem rstC_mk {d : Doc} {k : Int} {l : List Cnt} {nm : ByteArray} {n : Int} (h : okMk d l) (h0 : 0 ≤ k) (h1 : k < d.l.length) : okMk d (rstC d k l nm n) ∧ (rstC d k l nm n).length ≤ l.length + 1 := by
  unfold rstC
  split
  · exact ⟨okMk_set h h0 h1, by simp⟩
  · exact ⟨okMk_app h h0 h1, by simp⟩
theorem chgL_mk {d : Doc} {k : Int} {l : List Cnt} {nm : ByteArray} (h : okMk d l) (h0 : 0 ≤ k) (h1 : k < d.l.length) : okMk d (chgL d k l nm) ∧ (chgL d k l nm).length ≤ l.length + 1 := by
  unfold chgL
  split
  · exact rstC_mk h h0 h1
  · exact ⟨h, by omega⟩
theorem getD_memC {l : List Cnt} {a : Nat} (h : a < l.length) : l.getD a .zero ∈ l := by
  rw [List.getD_eq_getElem?_getD, List.getElem?_eq_getElem h]; exact List.getElem_mem _
theorem chg1_mk {F : Int → Int → Int} {d : Doc} {k : Int} {l : List Cnt} {s : VSt} (h : okMk d l) (h0 : 0 ≤ k) (h1 : k < d.l.length) : okMk d (chg1 F d k l s) ∧ (chg1 F d k l s).length ≤ l.length + 1 := by
  obtain ⟨a, ha, hal⟩ := chgL_at d k l s.name
  obtain ⟨g1, g2⟩ := chgL_mk (nm := s.name) h h0 h1
  unfold chg1
  rw [ha, Int.toNat_natCast]
  have := g1 _ (getD_memC hal)
  exact ⟨okMk_set g1 this.1 this.2, by simp; omega⟩
structure ChS where
  j : Nat
  v : Sv
theorem chgA_call (d : Doc) (pv : List V) (k : Int) (ss : List VSt) (a0 : Sv) (hss : okS ss) (hl : a0.l.length + ss.length ≤ 90000) (hd : d.l.length ≤ 1000) (hm : okMk d a0.l) (h0 : 0 ≤ k) (h1 : k < d.l.length) :
    CallOK Try.prog 30 [.slc 3 (ss.map VSt.enc), .fn 32 [], .ptr 4 4 0 0, .ptr 0 0 0 0, .ptr 2 2 0 0] (hq d pv k a0.l a0.ver (.ref 3 a0.ver 0 a0.l.length) a0.clk)
      (retV [] (fun _ => .any) ⟨[], 0⟩) (hq d pv k (ss.foldl (chgS addI d k) a0).l (ss.foldl (chgS addI d k) a0).ver (.ref 3 (ss.foldl (chgS addI d k) a0).ver 0 (ss.foldl (chgS addI d k) a0).l.length) (ss.foldl (chgS addI d k) a0).clk) := by
  refine CallOK.walk (Orc.econs sumRstE (Orc.cons sumLast (Orc.cons sumAdd (Orc.cons sumSt3 (Orc.nil _))))) c30_ok (by simp [c30]) fun w0 own0 => ?_
  have e1 : sumRstE.f = 29 := rfl
  have e2 : ∀ args h, sumRstE.pre args h = rstP args h := fun _ _ => rfl
  have e3 : ∀ args h, sumRstE.v args h = rsV args h := fun _ _ => rfl
  have e4 : ∀ args h, sumRstE.hp args h = rsH args h := fun _ _ => rfl
  generalize hR : ss.foldl (chgS addI d k) a0 = R
  simp only [c30, hq, Doc.enc, cnts, dCnts_map, mapO_cnts11, List.take_length, Nat.le_refl, Orc.flat_econs, Orc.pre_econs, Orc.v_econs, Orc.hp_econs, Orc.qpre_econs, Orc.qv_econs, e1, e2, e3, e4, wpC_seq_areg, wpC_areg, wpFR_nil, wpFR_cons, on_gcall, off_gcall, flat_gcall, wpC_seq_xreg, wpC_xreg, wpXR_nil, wpXR_own, wpXR_flu, xeOK, xe, argTops, openArgs, Orc.ppre_cons, Orc.pr_cons, Orc.ppre_econs, Orc.pr_econs, Orc.ppre_fcons, Orc.pr_fcons, Orc.ppre_gcons, Orc.pr_gcons, List.head?_cons, List.headD_cons, XE.val, XE.heap, efO, shutArgs, xfoot, footO, V.tops, V.top1, clashOne, noClash, Orc.flat_fcons, Orc.pre_fcons, Orc.v_fcons, Orc.hp_fcons, Orc.qpre_fcons, Orc.qv_fcons, Orc.fpre_fcons, Orc.fes_fcons, Orc.flat_gcons, Orc.pre_gcons, Orc.v_gcons, Orc.hp_gcons, Orc.qpre_gcons, Orc.qv_gcons, Orc.fpre_gcons, Orc.fes_gcons, GSum.pre, GSum.v, GSum.hp, Orc.fpre_cons, Orc.fes_cons, Orc.fpre_econs, Orc.fes_econs, FSum.pre, FSum.v, FSum.hp, fres, O.calls, List.flatMap_cons, List.flatMap_nil, List.contains_cons, List.contains_nil, Bool.not_true, Bool.not_false, Heap.freeze, List.mapIdx_cons, List.mapIdx_nil, List.elem_cons, List.elem_nil, fluP, fluV, evF, bne_iff_ne, ne_eq, Option.some.injEq, go_sem, reduceCtorEq, reduceIte, Nat.reduceEqDiff, Nat.reduceAdd, Nat.reduceSub, Nat.reduceMul, Nat.reduceLT, Nat.reduceLeDiff, Nat.reduceBEq, Int.reduceEq, Int.reduceLT, Int.reduceLE, Int.reduceAdd, Int.reduceSub, Int.reduceNeg, Int.reduceToNat]
  refine SemC.lp (α := ChS) (fun a => [(1, .fn 32 []), (2, .ptr 4 4 0 0), (3, .ptr 0 0 0 0), (4, .ptr 2 2 0 0), (10, .slc 3 (ss.map VSt.enc)), (11, vi ss.length), (12, vi a.j)])
    (fun a => hq d pv k a.v.l a.v.ver (.ref 3 a.v.ver 0 a.v.l.length) a.v.clk)
    (fun a => a.j ≤ ss.length ∧ (ss.drop a.j).foldl (chgS addI d k) a.v = R ∧ okMk d a.v.l ∧ a.v.l.length + (ss.length - a.j) ≤ 90000) (fun a => ss.length - a.j) ⟨0, a0⟩ ⟨Nat.zero_le _, hR, hm, by dsimp only; omega⟩
    (St.cut ?_ ?_ ?_) fun a ha => ?_
  · simp [Agrees, upd_at, initE_at]
  · simp [hq, Doc.enc]
  · simp [hq]
  obtain ⟨j, l, ver, clk⟩ := a
  obtain ⟨g1, g2, g3, g4⟩ := ha
  simp only at g1 g2 g3 g4
  by_cases hj : j = ss.length
  · subst hj
    rw [List.drop_length] at g2
    simp only [List.foldl_nil] at g2
    subst g2
    simp only [hq, Doc.enc, Int.lt_irrefl, cnts, dCnts_map, mapO_cnts11, List.take_length, Nat.le_refl, Orc.flat_econs, Orc.pre_econs, Orc.v_econs, Orc.hp_econs, Orc.qpre_econs, Orc.qv_econs, e1, e2, e3, e4, wpC_seq_areg, wpC_areg, wpFR_nil, wpFR_cons, on_gcall, off_gcall, flat_gcall, wpC_seq_xreg, wpC_xreg, wpXR_nil, wpXR_own, wpXR_flu, xeOK, xe, argTops, openArgs, Orc.ppre_cons, Orc.pr_cons, Orc.ppre_econs, Orc.pr_econs, Orc.ppre_fcons, Orc.pr_fcons, Orc.ppre_gcons, Orc.pr_gcons, List.head?_cons, List.headD_cons, XE.val, XE.heap, efO, shutArgs, xfoot, footO, V.tops, V.top1, clashOne, noClash, Orc.flat_fcons, Orc.pre_fcons, Orc.v_fcons, Orc.hp_fcons, Orc.qpre_fcons, Orc.qv_fcons, Orc.fpre_fcons, Orc.fes_fcons, Orc.flat_gcons, Orc.pre_gcons, Orc.v_gcons, Orc.hp_gcons, Orc.qpre_gcons, Orc.qv_gcons, Orc.fpre_gcons, Orc.fes_gcons, GSum.pre, GSum.v, GSum.hp, Orc.fpre_cons, Orc.fes_cons, Orc.fpre_econs, Orc.fes_econs, FSum.pre, FSum.v, FSum.hp, fres, O.calls, List.flatMap_cons, List.flatMap_nil, List.contains_cons, List.contains_nil, Bool.not_true, Bool.not_false, Heap.freeze, List.mapIdx_cons, List.mapIdx_nil, List.elem_cons, List.elem_nil, fluP, fluV, evF, bne_iff_ne, ne_eq, Option.some.injEq, go_sem, reduceCtorEq, reduceIte, Nat.reduceEqDiff, Nat.reduceAdd, Nat.reduceSub, Nat.reduceMul, Nat.reduceLT, Nat.reduceLeDiff, Nat.reduceBEq, Int.reduceEq, Int.reduceLT, Int.reduceLE, Int.reduceAdd, Int.reduceSub, Int.reduceNeg, Int.reduceToNat]
  have j1 : (j : Int) < (ss.length : Int) := by omega
  have j0 : (0 : Int) ≤ (j : Int) := by omega
  have hsj := fun z => getD_vsts ss j z (by omega)
  have hdj : ss.drop j = ss.getD j .zero :: ss.drop (j + 1) := by
    rw [List.drop_eq_getElem_cons (by omega), List.getD_eq_getElem?_getD, List.getElem?_eq_getElem (by omega)]; rfl
  rw [hdj, List.foldl_cons] at g2
  have hxs : okX (ss.getD j .zero).x := hss _ (by rw [List.getD_eq_getElem?_getD, List.getElem?_eq_getElem (by omega)]; exact List.getElem_mem _)
  generalize ss.getD j .zero = s at *
  obtain ⟨nm, n, x⟩ := s
  simp only at hxs
  obtain ⟨q1, q2⟩ := chg1_mk (F := addI) (s := ⟨nm, n, x⟩) g3 h0 h1
  have fin : ∃ b : ChS, (b.j ≤ ss.length ∧ (ss.drop b.j).foldl (chgS addI d k) b.v = R ∧ okMk d b.v.l ∧ b.v.l.length + (ss.length - b.j) ≤ 90000) ∧ ss.length - b.j < ss.length - j ∧ (j : Int) + 1 = b.j ∧ b.v = chgS addI d k ⟨l, ver, clk⟩ ⟨nm, n, x⟩ :=
    ⟨⟨j + 1, chgS addI d k ⟨l, ver, clk⟩ ⟨nm, n, x⟩⟩, ⟨by dsimp only; omega, g2, q1, by dsimp only [chgS]; omega⟩, by dsimp only; omega, by dsimp only; omega, rfl⟩
  obtain ⟨aa, ha1, ha2⟩ := chgL_at d k l nm
  have hxx : (∃ m es, x = .slc m es) ∨ x = vnil := by rcases hxs with h | h; exact .inr h; exact .inl h
  have l6 : l.length ≤ 1000000 := by omega
  by_cases hneg : lastC l nm < 0
  · obtain ⟨b1, b2⟩ := rstC_neg d k l nm 0 hneg
    have hcl : chgL d k l nm = l ++ [⟨nm, stopI 0, k⟩] := by unfold chgL; rw [if_pos hneg, b2]
    have hP : rstP [.ref 3 ver 0 l.length, .agg d.enc, vi k, .agg [vs nm, vi 0, vnil]] (hs d pv k l ver (.ref 3 ver 0 l.length) ⟨clk, 3, [[vs nm, vi n, x]], false, []⟩ (clk + 1)) := ⟨d, pv, k, l, ver, _, _, clk + 1, nm, 0, vnil, rfl, rfl, .inl rfl, hd, by omega, g3, h0, h1⟩
    have hV := rsV_at d pv k l ver (.ref 3 ver 0 l.length) ⟨clk, 3, [[vs nm, vi n, x]], false, []⟩ (clk + 1) nm 0 vnil
    have hH := rsH_at d pv k l ver (.ref 3 ver 0 l.length) ⟨clk, 3, [[vs nm, vi n, x]], false, []⟩ (clk + 1) nm 0 vnil
    rw [b1, b2] at hV hH
    have hc1 : chg1 addI d k l ⟨nm, n, x⟩ = (l ++ [(⟨nm, stopI 0, k⟩ : Cnt)]).set aa ⟨((l ++ [(⟨nm, stopI 0, k⟩ : Cnt)]).getD aa .zero).name, addI ((l ++ [(⟨nm, stopI 0, k⟩ : Cnt)]).getD aa .zero).n n, ((l ++ [(⟨nm, stopI 0, k⟩ : Cnt)]).getD aa .zero).maker⟩ := by unfold chg1; rw [ha1, hcl, Int.toNat_natCast]
    have hcs : chgS addI d k ⟨l, ver, clk⟩ ⟨nm, n, x⟩ = ⟨chg1 addI d k l ⟨nm, n, x⟩, clk + 5, clk + 6⟩ := by unfold chgS; simp only [if_pos hneg]
    rw [hcl] at ha1 ha2
    rw [hc1] at hcs
    have hl1 : (l ++ [(⟨nm, stopI 0, k⟩ : Cnt)]).length = l.length + 1 := by simp
    generalize l ++ [(⟨nm, stopI 0, k⟩ : Cnt)] = l1 at *
    have hg := getD_cnts l1 aa
    have a0' : (0 : Int) ≤ (aa : Int) := by omega
    have a1 : (aa : Int) < (l1.length : Int) := by omega
    have l16 : l1.length ≤ 1000000 := by omega
    have hneg' := eq_true hneg
    simp only [hs, Doc.enc, Bool.false_eq_true, if_false] at hP hV hH
    generalize l1.getD aa .zero = c at *
    obtain ⟨bb, f1, f2, f3, f4⟩ := fin
    rw [hcs] at f4
    rcases hxx with ⟨m, es, rfl⟩ | rfl
    · simp only [hq, Doc.enc, VSt.enc, Cnt.enc, j0, j1, hsj, l6, l16, ha1, hneg', hP, hV, hH, hg, a0', a1, cnts, dCnts_map, mapO_cnts11, List.take_length, Nat.le_refl, Orc.flat_econs, Orc.pre_econs, Orc.v_econs, Orc.hp_econs, Orc.qpre_econs, Orc.qv_econs, e1, e2, e3, e4, wpC_seq_areg, wpC_areg, wpFR_nil, wpFR_cons, on_gcall, off_gcall, flat_gcall, wpC_seq_xreg, wpC_xreg, wpXR_nil, wpXR_own, wpXR_flu, xeOK, xe, argTops, openArgs, Orc.ppre_cons, Orc.pr_cons, Orc.ppre_econs, Orc.pr_econs, Orc.ppre_fcons, Orc.pr_fcons, Orc.ppre_gcons, Orc.pr_gcons, List.head?_cons, List.headD_cons, XE.val, XE.heap, efO, shutArgs, xfoot, footO, V.tops, V.top1, clashOne, noClash, Orc.flat_fcons, Orc.pre_fcons, Orc.v_fcons, Orc.hp_fcons, Orc.qpre_fcons, Orc.qv_fcons, Orc.fpre_fcons, Orc.fes_fcons, Orc.flat_gcons, Orc.pre_gcons, Orc.v_gcons, Orc.hp_gcons, Orc.qpre_gcons, Orc.qv_gcons, Orc.fpre_gcons, Orc.fes_gcons, GSum.pre, GSum.v, GSum.hp, Orc.fpre_cons, Orc.fes_cons, Orc.fpre_econs, Orc.fes_econs, FSum.pre, FSum.v, FSum.hp, fres, O.calls, List.flatMap_cons, List.flatMap_nil, List.contains_cons, List.contains_nil, Bool.not_true, Bool.not_false, Heap.freeze, List.mapIdx_cons, List.mapIdx_nil, List.elem_cons, List.elem_nil, fluP, fluV, evF, bne_iff_ne, ne_eq, Option.some.injEq, go_sem, reduceCtorEq, reduceIte, Nat.reduceEqDiff, Nat.reduceAdd, Nat.reduceSub, Nat.reduceMul, Nat.reduceLT, Nat.reduceLeDiff, Nat.reduceBEq, Int.reduceEq, Int.reduceLT, Int.reduceLE, Int.reduceAdd, Int.reduceSub, Int.reduceNeg, Int.reduceToNat]
      refine ⟨ha2, ha2, by omega, bb, f1, f2, f3, ?_⟩
      rw [f4]; exact ⟨⟨⟨rfl, by rw [List.map_set]; rfl⟩, rfl, by simp⟩, rfl⟩
    · simp only [hq, Doc.enc, VSt.enc, Cnt.enc, j0, j1, hsj, l6, l16, ha1, hneg', hP, hV, hH, hg, a0', a1, cnts, dCnts_map, mapO_cnts11, List.take_length, Nat.le_refl, Orc.flat_econs, Orc.pre_econs, Orc.v_econs, Orc.hp_econs, Orc.qpre_econs, Orc.qv_econs, e1, e2, e3, e4, wpC_seq_areg, wpC_areg, wpFR_nil, wpFR_cons, on_gcall, off_gcall, flat_gcall, wpC_seq_xreg, wpC_xreg, wpXR_nil, wpXR_own, wpXR_flu, xeOK, xe, argTops, openArgs, Orc.ppre_cons, Orc.pr_cons, Orc.ppre_econs, Orc.pr_econs, Orc.ppre_fcons, Orc.pr_fcons, Orc.ppre_gcons, Orc.pr_gcons, List.head?_cons, List.headD_cons, XE.val, XE.heap, efO, shutArgs, xfoot, footO, V.tops, V.top1, clashOne, noClash, Orc.flat_fcons, Orc.pre_fcons, Orc.v_fcons, Orc.hp_fcons, Orc.qpre_fcons, Orc.qv_fcons, Orc.fpre_fcons, Orc.fes_fcons, Orc.flat_gcons, Orc.pre_gcons, Orc.v_gcons, Orc.hp_gcons, Orc.qpre_gcons, Orc.qv_gcons, Orc.fpre_gcons, Orc.fes_gcons, GSum.pre, GSum.v, GSum.hp, Orc.fpre_cons, Orc.fes_cons, Orc.fpre_econs, Orc.fes_econs, FSum.pre, FSum.v, FSum.hp, fres, O.calls, List.flatMap_cons, List.flatMap_nil, List.contains_cons, List.contains_nil, Bool.not_true, Bool.not_false, Heap.freeze, List.mapIdx_cons, List.mapIdx_nil, List.elem_cons, List.elem_nil, fluP, fluV, evF, bne_iff_ne, ne_eq, Option.some.injEq, go_sem, reduceCtorEq, reduceIte, Nat.reduceEqDiff, Nat.reduceAdd, Nat.reduceSub, Nat.reduceMul, Nat.reduceLT, Nat.reduceLeDiff, Nat.reduceBEq, Int.reduceEq, Int.reduceLT, Int.reduceLE, Int.reduceAdd, Int.reduceSub, Int.reduceNeg, Int.reduceToNat]
      refine ⟨ha2, ha2, by omega, bb, f1, f2, f3, ?_⟩
      rw [f4]; exact ⟨⟨⟨rfl, by rw [List.map_set]; rfl⟩, rfl, by simp⟩, rfl⟩
  · have hcl : chgL d k l nm = l := by unfold chgL; rw [if_neg hneg]
    have hc1 : chg1 addI d k l ⟨nm, n, x⟩ = l.set aa ⟨(l.getD aa .zero).name, addI (l.getD aa .zero).n n, (l.getD aa .zero).maker⟩ := by unfold chg1; rw [ha1, hcl, Int.toNat_natCast]
    rw [hcl] at ha1 ha2
    have hg := getD_cnts l aa
    have a0' : (0 : Int) ≤ (aa : Int) := by omega
    have a1 : (aa : Int) < (l.length : Int) := by omega
    have hneg' := eq_false (show ¬ (aa : Int) < 0 by omega)
    have hcs : chgS addI d k ⟨l, ver, clk⟩ ⟨nm, n, x⟩ = ⟨chg1 addI d k l ⟨nm, n, x⟩, ver, clk + 1⟩ := by unfold chgS; simp only [if_neg hneg]
    rw [hc1] at hcs
    generalize l.getD aa .zero = c at *
    obtain ⟨bb, f1, f2, f3, f4⟩ := fin
    rw [hcs] at f4
    rcases hxx with ⟨m, es, rfl⟩ | rfl
    · simp only [hq, Doc.enc, VSt.enc, Cnt.enc, j0, j1, hsj, l6, ha1, hneg', hg, a0', a1, cnts, dCnts_map, mapO_cnts11, List.take_length, Nat.le_refl, Orc.flat_econs, Orc.pre_econs, Orc.v_econs, Orc.hp_econs, Orc.qpre_econs, Orc.qv_econs, e1, e2, e3, e4, wpC_seq_areg, wpC_areg, wpFR_nil, wpFR_cons, on_gcall, off_gcall, flat_gcall, wpC_seq_xreg, wpC_xreg, wpXR_nil, wpXR_own, wpXR_flu, xeOK, xe, argTops, openArgs, Orc.ppre_cons, Orc.pr_cons, Orc.ppre_econs, Orc.pr_econs, Orc.ppre_fcons, Orc.pr_fcons, Orc.ppre_gcons, Orc.pr_gcons, List.head?_cons, List.headD_cons, XE.val, XE.heap, efO, shutArgs, xfoot, footO, V.tops, V.top1, clashOne, noClash, Orc.flat_fcons, Orc.pre_fcons, Orc.v_fcons, Orc.hp_fcons, Orc.qpre_fcons, Orc.qv_fcons, Orc.fpre_fcons, Orc.fes_fcons, Orc.flat_gcons, Orc.pre_gcons, Orc.v_gcons, Orc.hp_gcons, Orc.qpre_gcons, Orc.qv_gcons, Orc.fpre_gcons, Orc.fes_gcons, GSum.pre, GSum.v, GSum.hp, Orc.fpre_cons, Orc.fes_cons, Orc.fpre_econs, Orc.fes_econs, FSum.pre, FSum.v, FSum.hp, fres, O.calls, List.flatMap_cons, List.flatMap_nil, List.contains_cons, List.contains_nil, Bool.not_true, Bool.not_false, Heap.freeze, List.mapIdx_cons, List.mapIdx_nil, List.elem_cons, List.elem_nil, fluP, fluV, evF, bne_iff_ne, ne_eq, Option.some.injEq, go_sem, reduceCtorEq, reduceIte, Nat.reduceEqDiff, Nat.reduceAdd, Nat.reduceSub, Nat.reduceMul, Nat.reduceLT, Nat.reduceLeDiff, Nat.reduceBEq, Int.reduceEq, Int.reduceLT, Int.reduceLE, Int.reduceAdd, Int.reduceSub, Int.reduceNeg, Int.reduceToNat]
      refine ⟨ha2, ha2, by omega, bb, f1, f2, f3, ?_⟩
      rw [f4]; exact ⟨⟨⟨rfl, by rw [List.map_set]; rfl⟩, rfl, by simp⟩, rfl⟩
    · simp only [hq, Doc.enc, VSt.enc, Cnt.enc, j0, j1, hsj, l6, ha1, hneg', hg, a0', a1, cnts, dCnts_map, mapO_cnts11, List.take_length, Nat.le_refl, Orc.flat_econs, Orc.pre_econs, Orc.v_econs, Orc.hp_econs, Orc.qpre_econs, Orc.qv_econs, e1, e2, e3, e4, wpC_seq_areg, wpC_areg, wpFR_nil, wpFR_cons, on_gcall, off_gcall, flat_gcall, wpC_seq_xreg, wpC_xreg, wpXR_nil, wpXR_own, wpXR_flu, xeOK, xe, argTops, openArgs, Orc.ppre_cons, Orc.pr_cons, Orc.ppre_econs, Orc.pr_econs, Orc.ppre_fcons, Orc.pr_fcons, Orc.ppre_gcons, Orc.pr_gcons, List.head?_cons, List.headD_cons, XE.val, XE.heap, efO, shutArgs, xfoot, footO, V.tops, V.top1, clashOne, noClash, Orc.flat_fcons, Orc.pre_fcons, Orc.v_fcons, Orc.hp_fcons, Orc.qpre_fcons, Orc.qv_fcons, Orc.fpre_fcons, Orc.fes_fcons, Orc.flat_gcons, Orc.pre_gcons, Orc.v_gcons, Orc.hp_gcons, Orc.qpre_gcons, Orc.qv_gcons, Orc.fpre_gcons, Orc.fes_gcons, GSum.pre, GSum.v, GSum.hp, Orc.fpre_cons, Orc.fes_cons, Orc.fpre_econs, Orc.fes_econs, FSum.pre, FSum.v, FSum.hp, fres, O.calls, List.flatMap_cons, List.flatMap_nil, List.contains_cons, List.contains_nil, Bool.not_true, Bool.not_false, Heap.freeze, List.mapIdx_cons, List.mapIdx_nil, List.elem_cons, List.elem_nil, fluP, fluV, evF, bne_iff_ne, ne_eq, Option.some.injEq, go_sem, reduceCtorEq, reduceIte, Nat.reduceEqDiff, Nat.reduceAdd, Nat.reduceSub, Nat.reduceMul, Nat.reduceLT, Nat.reduceLeDiff, Nat.reduceBEq, Int.reduceEq, Int.reduceLT, Int.reduceLE, Int.reduceAdd, Int.reduceSub, Int.reduceNeg, Int.reduceToNat]
      refine ⟨ha2, ha2, by omega, bb, f1, f2, f3, ?_⟩
      rw [f4]; exact ⟨⟨⟨rfl, by rw [List.map_set]; rfl⟩, rfl, by simp⟩, rfl⟩
theorem chgS_call (d : Doc) (pv : List V) (k : Int) (ss : List VSt) (a0 : Sv) (hss : okS ss) (hl : a0.l.length + ss.length ≤ 90000) (hd : d.l.length ≤ 1000) (hm : okMk d a0.l) (h0 : 0 ≤ k) (h1 : k < d.l.length) :
    CallOK Try.prog 30 [.slc 3 (ss.map VSt.enc), .fn 33 [], .ptr 4 4 0 0, .ptr 0 0 0 0, .ptr 2 2 0 0] (hq d pv k a0.l a0.ver (.ref 3 a0.ver 0 a0.l.length) a0.clk)
      (retV [] (fun _ => .any) ⟨[], 0⟩) (hq d pv k (ss.foldl (chgS (fun _ b => stopI b) d k) a0).l (ss.foldl (chgS (fun _ b => stopI b) d k) a0).ver (.ref 3 (ss.foldl (chgS (fun _ b => stopI b) d k) a0).ver 0 (ss.foldl (chgS (fun _ b => stopI b) d k) a0).l.length) (ss.foldl (chgS (fun _ b => stopI b) d k) a0).clk) := by
  refine CallOK.walk (Orc.econs sumRstE (Orc.cons sumLast (Orc.cons sumAdd (Orc.cons sumSt3 (Orc.nil _))))) c30_ok (by simp [c30]) fun w0 own0 => ?_
  have e1 : sumRstE.f = 29 := rfl
  have e2 : ∀ args h, sumRstE.pre args h = rstP args h := fun _ _ => rfl
  have e3 : ∀ args h, sumRstE.v args h = rsV args h := fun _ _ => rfl
  have e4 : ∀ args h, sumRstE.hp args h = rsH args h := fun _ _ => rfl
  generalize hR : ss.foldl (chgS (fun _ b => stopI b) d k) a0 = R
  simp only [c30, hq, Doc.enc, cnts, dCnts_map, mapO_cnts11, List.take_length, Nat.le_refl, Orc.flat_econs, Orc.pre_econs, Orc.v_econs, Orc.hp_econs, Orc.qpre_econs, Orc.qv_econs, e1, e2, e3, e4, wpC_seq_areg, wpC_areg, wpFR_nil, wpFR_cons, on_gcall, off_gcall, flat_gcall, wpC_seq_xreg, wpC_xreg, wpXR_nil, wpXR_own, wpXR_flu, xeOK, xe, argTops, openArgs, Orc.ppre_cons, Orc.pr_cons, Orc.ppre_econs, Orc.pr_econs, Orc.ppre_fcons, Orc.pr_fcons, Orc.ppre_gcons, Orc.pr_gcons, List.head?_cons, List.headD_cons, XE.val, XE.heap, efO, shutArgs, xfoot, footO, V.tops, V.top1, clashOne, noClash, Orc.flat_fcons, Orc.pre_fcons, Orc.v_fcons, Orc.hp_fcons, Orc.qpre_fcons, Orc.qv_fcons, Orc.fpre_fcons, Orc.fes_fcons, Orc.flat_gcons, Orc.pre_gcons, Orc.v_gcons, Orc.hp_gcons, Orc.qpre_gcons, Orc.qv_gcons, Orc.fpre_gcons, Orc.fes_gcons, GSum.pre, GSum.v, GSum.hp, Orc.fpre_cons, Orc.fes_cons, Orc.fpre_econs, Orc.fes_econs, FSum.pre, FSum.v, FSum.hp, fres, O.calls, List.flatMap_cons, List.flatMap_nil, List.contains_cons, List.contains_nil, Bool.not_true, Bool.not_false, Heap.freeze, List.mapIdx_cons, List.mapIdx_nil, List.elem_cons, List.elem_nil, fluP, fluV, evF, bne_iff_ne, ne_eq, Option.some.injEq, go_sem, reduceCtorEq, reduceIte, Nat.reduceEqDiff, Nat.reduceAdd, Nat.reduceSub, Nat.reduceMul, Nat.reduceLT, Nat.reduceLeDiff, Nat.reduceBEq, Int.reduceEq, Int.reduceLT, Int.reduceLE, Int.reduceAdd, Int.reduceSub, Int.reduceNeg, Int.reduceToNat]
  refine SemC.lp (α := ChS) (fun a => [(1, .fn 33 []), (2, .ptr 4 4 0 0), (3, .ptr 0 0 0 0), (4, .ptr 2 2 0 0), (10, .slc 3 (ss.map VSt.enc)), (11, vi ss.length), (12, vi a.j)])
    (fun a => hq d pv k a.v.l a.v.ver (.ref 3 a.v.ver 0 a.v.l.length) a.v.clk)
    (fun a => a.j ≤ ss.length ∧ (ss.drop a.j).foldl (chgS (fun _ b => stopI b) d k) a.v = R ∧ okMk d a.v.l ∧ a.v.l.length + (ss.length - a.j) ≤ 90000) (fun a => ss.length - a.j) ⟨0, a0⟩ ⟨Nat.zero_le _, hR, hm, by dsimp only; omega⟩
    (St.cut ?_ ?_ ?_) fun a ha => ?_
  · simp [Agrees, upd_at, initE_at]
  · simp [hq, Doc.enc]
  · simp [hq]
  obtain ⟨j, l, ver, clk⟩ := a
  obtain ⟨g1, g2, g3, g4⟩ := ha
  simp only at g1 g2 g3 g4
  by_cases hj : j = ss.length
  · subst hj
    rw [List.drop_length] at g2
    simp only [List.foldl_nil] at g2
    subst g2
    simp only [hq, Doc.enc, Int.lt_irrefl, cnts, dCnts_map, mapO_cnts11, List.take_length, Nat.le_refl, Orc.flat_econs, Orc.pre_econs, Orc.v_econs, Orc.hp_econs, Orc.qpre_econs, Orc.qv_econs, e1, e2, e3, e4, wpC_seq_areg, wpC_areg, wpFR_nil, wpFR_cons, on_gcall, off_gcall, flat_gcall, wpC_seq_xreg, wpC_xreg, wpXR_nil, wpXR_own, wpXR_flu, xeOK, xe, argTops, openArgs, Orc.ppre_cons, Orc.pr_cons, Orc.ppre_econs, Orc.pr_econs, Orc.ppre_fcons, Orc.pr_fcons, Orc.ppre_gcons, Orc.pr_gcons, List.head?_cons, List.headD_cons, XE.val, XE.heap, efO, shutArgs, xfoot, footO, V.tops, V.top1, clashOne, noClash, Orc.flat_fcons, Orc.pre_fcons, Orc.v_fcons, Orc.hp_fcons, Orc.qpre_fcons, Orc.qv_fcons, Orc.fpre_fcons, Orc.fes_fcons, Orc.flat_gcons, Orc.pre_gcons, Orc.v_gcons, Orc.hp_gcons, Orc.qpre_gcons, Orc.qv_gcons, Orc.fpre_gcons, Orc.fes_gcons, GSum.pre, GSum.v, GSum.hp, Orc.fpre_cons, Orc.fes_cons, Orc.fpre_econs, Orc.fes_econs, FSum.pre, FSum.v, FSum.hp, fres, O.calls, List.flatMap_cons, List.flatMap_nil, List.contains_cons, List.contains_nil, Bool.not_true, Bool.not_false, Heap.freeze, List.mapIdx_cons, List.mapIdx_nil, List.elem_cons, List.elem_nil, fluP, fluV, evF, bne_iff_ne, ne_eq, Option.some.injEq, go_sem, reduceCtorEq, reduceIte, Nat.reduceEqDiff, Nat.reduceAdd, Nat.reduceSub, Nat.reduceMul, Nat.reduceLT, Nat.reduceLeDiff, Nat.reduceBEq, Int.reduceEq, Int.reduceLT, Int.reduceLE, Int.reduceAdd, Int.reduceSub, Int.reduceNeg, Int.reduceToNat]
  have j1 : (j : Int) < (ss.length : Int) := by omega
  have j0 : (0 : Int) ≤ (j : Int) := by omega
  have hsj := fun z => getD_vsts ss j z (by omega)
  have hdj : ss.drop j = ss.getD j .zero :: ss.drop (j + 1) := by
    rw [List.drop_eq_getElem_cons (by omega), List.getD_eq_getElem?_getD, List.getElem?_eq_getElem (by omega)]; rfl
  rw [hdj, List.foldl_cons] at g2
  have hxs : okX (ss.getD j .zero).x := hss _ (by rw [List.getD_eq_getElem?_getD, List.getElem?_eq_getElem (by omega)]; exact List.getElem_mem _)
  generalize ss.getD j .zero = s at *
  obtain ⟨nm, n, x⟩ := s
  simp only at hxs
  obtain ⟨q1, q2⟩ := chg1_mk (F := (fun _ b => stopI b)) (s := ⟨nm, n, x⟩) g3 h0 h1
  have fin : ∃ b : ChS, (b.j ≤ ss.length ∧ (ss.drop b.j).foldl (chgS (fun _ b => stopI b) d k) b.v = R ∧ okMk d b.v.l ∧ b.v.l.length + (ss.length - b.j) ≤ 90000) ∧ ss.length - b.j < ss.length - j ∧ (j : Int) + 1 = b.j ∧ b.v = chgS (fun _ b => stopI b) d k ⟨l, ver, clk⟩ ⟨nm, n, x⟩ :=
    ⟨⟨j + 1, chgS (fun _ b => stopI b) d k ⟨l, ver, clk⟩ ⟨nm, n, x⟩⟩, ⟨by dsimp only; omega, g2, q1, by dsimp only [chgS]; omega⟩, by dsimp only; omega, by dsimp only; omega, rfl⟩
  obtain ⟨aa, ha1, ha2⟩ := chgL_at d k l nm
  have hxx : (∃ m es, x = .slc m es) ∨ x = vnil := by rcases hxs with h | h; exact .inr h; exact .inl h
  have l6 : l.length ≤ 1000000 := by omega
  by_cases hneg : lastC l nm < 0
  · obtain ⟨b1, b2⟩ := rstC_neg d k l nm 0 hneg
    have hcl : chgL d k l nm = l ++ [⟨nm, stopI 0, k⟩] := by unfold chgL; rw [if_pos hneg, b2]
    have hP : rstP [.ref 3 ver 0 l.length, .agg d.enc, vi k, .agg [vs nm, vi 0, vnil]] (hs d pv k l ver (.ref 3 ver 0 l.length) ⟨clk, 3, [[vs nm, vi n, x]], false, []⟩ (clk + 1)) := ⟨d, pv, k, l, ver, _, _, clk + 1, nm, 0, vnil, rfl, rfl, .inl rfl, hd, by omega, g3, h0, h1⟩
    have hV := rsV_at d pv k l ver (.ref 3 ver 0 l.length) ⟨clk, 3, [[vs nm, vi n, x]], false, []⟩ (clk + 1) nm 0 vnil
    have hH := rsH_at d pv k l ver (.ref 3 ver 0 l.length) ⟨clk, 3, [[vs nm, vi n, x]], false, []⟩ (clk + 1) nm 0 vnil
    rw [b1, b2] at hV hH
    have hc1 : chg1 (fun _ b => stopI b) d k l ⟨nm, n, x⟩ = (l ++ [(⟨nm, stopI 0, k⟩ : Cnt)]).set aa ⟨((l ++ [(⟨nm, stopI 0, k⟩ : Cnt)]).getD aa .zero).name, (fun _ b => stopI b) ((l ++ [(⟨nm, stopI 0, k⟩ : Cnt)]).getD aa .zero).n n, ((l ++ [(⟨nm, stopI 0, k⟩ : Cnt)]).getD aa .zero).maker⟩ := by unfold chg1; rw [ha1, hcl, Int.toNat_natCast]
    have hcs : chgS (fun _ b => stopI b) d k ⟨l, ver, clk⟩ ⟨nm, n, x⟩ = ⟨chg1 (fun _ b => stopI b) d k l ⟨nm, n, x⟩, clk + 5, clk + 6⟩ := by unfold chgS; simp only [if_pos hneg]
    rw [hcl] at ha1 ha2
    rw [hc1] at hcs
    have hl1 : (l ++ [(⟨nm, stopI 0, k⟩ : Cnt)]).length = l.length + 1 := by simp
    generalize l ++ [(⟨nm, stopI 0, k⟩ : Cnt)] = l1 at *
    have hg := getD_cnts l1 aa
    have a0' : (0 : Int) ≤ (aa : Int) := by omega
    have a1 : (aa : Int) < (l1.length : Int) := by omega
    have l16 : l1.length ≤ 1000000 := by omega
    have hneg' := eq_true hneg
    simp only [hs, Doc.enc, Bool.false_eq_true, if_false] at hP hV hH
    generalize l1.getD aa .zero = c at *
    obtain ⟨bb, f1, f2, f3, f4⟩ := fin
    rw [hcs] at f4
    rcases hxx with ⟨m, es, rfl⟩ | rfl
    · simp only [hq, Doc.enc, VSt.enc, Cnt.enc, j0, j1, hsj, l6, l16, ha1, hneg', hP, hV, hH, hg, a0', a1, cnts, dCnts_map, mapO_cnts11, List.take_length, Nat.le_refl, Orc.flat_econs, Orc.pre_econs, Orc.v_econs, Orc.hp_econs, Orc.qpre_econs, Orc.qv_econs, e1, e2, e3, e4, wpC_seq_areg, wpC_areg, wpFR_nil, wpFR_cons, on_gcall, off_gcall, flat_gcall, wpC_seq_xreg, wpC_xreg, wpXR_nil, wpXR_own, wpXR_flu, xeOK, xe, argTops, openArgs, Orc.ppre_cons, Orc.pr_cons, Orc.ppre_econs, Orc.pr_econs, Orc.ppre_fcons, Orc.pr_fcons, Orc.ppre_gcons, Orc.pr_gcons, List.head?_cons, List.headD_cons, XE.val, XE.heap, efO, shutArgs, xfoot, footO, V.tops, V.top1, clashOne, noClash, Orc.flat_fcons, Orc.pre_fcons, Orc.v_fcons, Orc.hp_fcons, Orc.qpre_fcons, Orc.qv_fcons, Orc.fpre_fcons, Orc.fes_fcons, Orc.flat_gcons, Orc.pre_gcons, Orc.v_gcons, Orc.hp_gcons, Orc.qpre_gcons, Orc.qv_gcons, Orc.fpre_gcons, Orc.fes_gcons, GSum.pre, GSum.v, GSum.hp, Orc.fpre_cons, Orc.fes_cons, Orc.fpre_econs, Orc.fes_econs, FSum.pre, FSum.v, FSum.hp, fres, O.calls, List.flatMap_cons, List.flatMap_nil, List.contains_cons, List.contains_nil, Bool.not_true, Bool.not_false, Heap.freeze, List.mapIdx_cons, List.mapIdx_nil, List.elem_cons, List.elem_nil, fluP, fluV, evF, bne_iff_ne, ne_eq, Option.some.injEq, go_sem, reduceCtorEq, reduceIte, Nat.reduceEqDiff, Nat.reduceAdd, Nat.reduceSub, Nat.reduceMul, Nat.reduceLT, Nat.reduceLeDiff, Nat.reduceBEq, Int.reduceEq, Int.reduceLT, Int.reduceLE, Int.reduceAdd, Int.reduceSub, Int.reduceNeg, Int.reduceToNat]
      refine ⟨ha2, ha2, by omega, bb, f1, f2, f3, ?_⟩
      rw [f4]; exact ⟨⟨⟨rfl, by rw [List.map_set]; rfl⟩, rfl, by simp⟩, rfl⟩
    · simp only [hq, Doc.enc, VSt.enc, Cnt.enc, j0, j1, hsj, l6, l16, ha1, hneg', hP, hV, hH, hg, a0', a1, cnts, dCnts_map, mapO_cnts11, List.take_length, Nat.le_refl, Orc.flat_econs, Orc.pre_econs, Orc.v_econs, Orc.hp_econs, Orc.qpre_econs, Orc.qv_econs, e1, e2, e3, e4, wpC_seq_areg, wpC_areg, wpFR_nil, wpFR_cons, on_gcall, off_gcall, flat_gcall, wpC_seq_xreg, wpC_xreg, wpXR_nil, wpXR_own, wpXR_flu, xeOK, xe, argTops, openArgs, Orc.ppre_cons, Orc.pr_cons, Orc.ppre_econs, Orc.pr_econs, Orc.ppre_fcons, Orc.pr_fcons, Orc.ppre_gcons, Orc.pr_gcons, List.head?_cons, List.headD_cons, XE.val, XE.heap, efO, shutArgs, xfoot, footO, V.tops, V.top1, clashOne, noClash, Orc.flat_fcons, Orc.pre_fcons, Orc.v_fcons, Orc.hp_fcons, Orc.qpre_fcons, Orc.qv_fcons, Orc.fpre_fcons, Orc.fes_fcons, Orc.flat_gcons, Orc.pre_gcons, Orc.v_gcons, Orc.hp_gcons, Orc.qpre_gcons, Orc.qv_gcons, Orc.fpre_gcons, Orc.fes_gcons, GSum.pre, GSum.v, GSum.hp, Orc.fpre_cons, Orc.fes_cons, Orc.fpre_econs, Orc.fes_econs, FSum.pre, FSum.v, FSum.hp, fres, O.calls, List.flatMap_cons, List.flatMap_nil, List.contains_cons, List.contains_nil, Bool.not_true, Bool.not_false, Heap.freeze, List.mapIdx_cons, List.mapIdx_nil, List.elem_cons, List.elem_nil, fluP, fluV, evF, bne_iff_ne, ne_eq, Option.some.injEq, go_sem, reduceCtorEq, reduceIte, Nat.reduceEqDiff, Nat.reduceAdd, Nat.reduceSub, Nat.reduceMul, Nat.reduceLT, Nat.reduceLeDiff, Nat.reduceBEq, Int.reduceEq, Int.reduceLT, Int.reduceLE, Int.reduceAdd, Int.reduceSub, Int.reduceNeg, Int.reduceToNat]
      refine ⟨ha2, ha2, by omega, bb, f1, f2, f3, ?_⟩
      rw [f4]; exact ⟨⟨⟨rfl, by rw [List.map_set]; rfl⟩, rfl, by simp⟩, rfl⟩
  · have hcl : chgL d k l nm = l := by unfold chgL; rw [if_neg hneg]
    have hc1 : chg1 (fun _ b => stopI b) d k l ⟨nm, n, x⟩ = l.set aa ⟨(l.getD aa .zero).name, (fun _ b => stopI b) (l.getD aa .zero).n n, (l.getD aa .zero).maker⟩ := by unfold chg1; rw [ha1, hcl, Int.toNat_natCast]
    rw [hcl] at ha1 ha2
    have hg := getD_cnts l aa
    have a0' : (0 : Int) ≤ (aa : Int) := by omega
    have a1 : (aa : Int) < (l.length : Int) := by omega
    have hneg' := eq_false (show ¬ (aa : Int) < 0 by omega)
    have hcs : chgS (fun _ b => stopI b) d k ⟨l, ver, clk⟩ ⟨nm, n, x⟩ = ⟨chg1 (fun _ b => stopI b) d k l ⟨nm, n, x⟩, ver, clk + 1⟩ := by unfold chgS; simp only [if_neg hneg]
    rw [hc1] at hcs
    generalize l.getD aa .zero = c at *
    obtain ⟨bb, f1, f2, f3, f4⟩ := fin
    rw [hcs] at f4
    rcases hxx with ⟨m, es, rfl⟩ | rfl
    · simp only [hq, Doc.enc, VSt.enc, Cnt.enc, j0, j1, hsj, l6, ha1, hneg', hg, a0', a1, cnts, dCnts_map, mapO_cnts11, List.take_length, Nat.le_refl, Orc.flat_econs, Orc.pre_econs, Orc.v_econs, Orc.hp_econs, Orc.qpre_econs, Orc.qv_econs, e1, e2, e3, e4, wpC_seq_areg, wpC_areg, wpFR_nil, wpFR_cons, on_gcall, off_gcall, flat_gcall, wpC_seq_xreg, wpC_xreg, wpXR_nil, wpXR_own, wpXR_flu, xeOK, xe, argTops, openArgs, Orc.ppre_cons, Orc.pr_cons, Orc.ppre_econs, Orc.pr_econs, Orc.ppre_fcons, Orc.pr_fcons, Orc.ppre_gcons, Orc.pr_gcons, List.head?_cons, List.headD_cons, XE.val, XE.heap, efO, shutArgs, xfoot, footO, V.tops, V.top1, clashOne, noClash, Orc.flat_fcons, Orc.pre_fcons, Orc.v_fcons, Orc.hp_fcons, Orc.qpre_fcons, Orc.qv_fcons, Orc.fpre_fcons, Orc.fes_fcons, Orc.flat_gcons, Orc.pre_gcons, Orc.v_gcons, Orc.hp_gcons, Orc.qpre_gcons, Orc.qv_gcons, Orc.fpre_gcons, Orc.fes_gcons, GSum.pre, GSum.v, GSum.hp, Orc.fpre_cons, Orc.fes_cons, Orc.fpre_econs, Orc.fes_econs, FSum.pre, FSum.v, FSum.hp, fres, O.calls, List.flatMap_cons, List.flatMap_nil, List.contains_cons, List.contains_nil, Bool.not_true, Bool.not_false, Heap.freeze, List.mapIdx_cons, List.mapIdx_nil, List.elem_cons, List.elem_nil, fluP, fluV, evF, bne_iff_ne, ne_eq, Option.some.injEq, go_sem, reduceCtorEq, reduceIte, Nat.reduceEqDiff, Nat.reduceAdd, Nat.reduceSub, Nat.reduceMul, Nat.reduceLT, Nat.reduceLeDiff, Nat.reduceBEq, Int.reduceEq, Int.reduceLT, Int.reduceLE, Int.reduceAdd, Int.reduceSub, Int.reduceNeg, Int.reduceToNat]
      refine ⟨ha2, ha2, by omega, bb, f1, f2, f3, ?_⟩
      rw [f4]; exact ⟨⟨⟨rfl, by rw [List.map_set]; rfl⟩, rfl, by simp⟩, rfl⟩
    · simp only [hq, Doc.enc, VSt.enc, Cnt.enc, j0, j1, hsj, l6, ha1, hneg', hg, a0', a1, cnts, dCnts_map, mapO_cnts11, List.take_length, Nat.le_refl, Orc.flat_econs, Orc.pre_econs, Orc.v_econs, Orc.hp_econs, Orc.qpre_econs, Orc.qv_econs, e1, e2, e3, e4, wpC_seq_areg, wpC_areg, wpFR_nil, wpFR_cons, on_gcall, off_gcall, flat_gcall, wpC_seq_xreg, wpC_xreg, wpXR_nil, wpXR_own, wpXR_flu, xeOK, xe, argTops, openArgs, Orc.ppre_cons, Orc.pr_cons, Orc.ppre_econs, Orc.pr_econs, Orc.ppre_fcons, Orc.pr_fcons, Orc.ppre_gcons, Orc.pr_gcons, List.head?_cons, List.headD_cons, XE.val, XE.heap, efO, shutArgs, xfoot, footO, V.tops, V.top1, clashOne, noClash, Orc.flat_fcons, Orc.pre_fcons, Orc.v_fcons, Orc.hp_fcons, Orc.qpre_fcons, Orc.qv_fcons, Orc.fpre_fcons, Orc.fes_fcons, Orc.flat_gcons, Orc.pre_gcons, Orc.v_gcons, Orc.hp_gcons, Orc.qpre_gcons, Orc.qv_gcons, Orc.fpre_gcons, Orc.fes_gcons, GSum.pre, GSum.v, GSum.hp, Orc.fpre_cons, Orc.fes_cons, Orc.fpre_econs, Orc.fes_econs, FSum.pre, FSum.v, FSum.hp, fres, O.calls, List.flatMap_cons, List.flatMap_nil, List.contains_cons, List.contains_nil, Bool.not_true, Bool.not_false, Heap.freeze, List.mapIdx_cons, List.mapIdx_nil, List.elem_cons, List.elem_nil, fluP, fluV, evF, bne_iff_ne, ne_eq, Option.some.injEq, go_sem, reduceCtorEq, reduceIte, Nat.reduceEqDiff, Nat.reduceAdd, Nat.reduceSub, Nat.reduceMul, Nat.reduceLT, Nat.reduceLeDiff, Nat.reduceBEq, Int.reduceEq, Int.reduceLT, Int.reduceLE, Int.reduceAdd, Int.reduceSub, Int.reduceNeg, Int.reduceToNat]
      refine ⟨ha2, ha2, by omega, bb, f1, f2, f3, ?_⟩
      rw [f4]; exact ⟨⟨⟨rfl, by rw [List.map_set]; rfl⟩, rfl, by simp⟩, rfl⟩
end Go.Proofs.Yteifbbinfipdlaa
