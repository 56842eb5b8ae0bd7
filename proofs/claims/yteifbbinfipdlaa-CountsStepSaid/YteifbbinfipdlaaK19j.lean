/- Layer 19: the counters behind a node. -/
import Derived.Test.YteifbbinfipdlaaK19i
namespace Go.Proofs.Yteifbbinfipdlaa
open Go.Sx
set_option linter.unusedSimpArgs false
set_option maxHeartbeats 8000000
set_option maxRecDepth 20000

/-! ### What is known of the calls that turn the run's own memory -/
def hpD (h : Heap) : Doc := dDocL ((h.blk 0).es.getD 0 [])
def hpK (h : Heap) : Int := (((h.blk 2).es.getD 0 []).getD 0 .any).int
section
variable (d : Doc) (pv : List V) (k : Int) (l : List Cnt) (ver : Nat) (ob : V) (clk : Nat)
theorem hpD_at : hpD (hq d pv k l ver ob clk) = d := dDoc_enc d
theorem hpK_at : hpK (hq d pv k l ver ob clk) = k := rfl
theorem hpL_at : rsL (hq d pv k l ver ob clk) = l := by
  simp only [rsL, hq, Heap.blk, List.getElem?_cons_zero, List.getElem?_cons_succ, Option.getD_some, List.getD_eq_getElem?_getD, dCnts_map]
end
def dcP (args : List V) (h : Heap) : Prop := ∃ (d : Doc) (pv : List V) (k : Int) (l : List Cnt) (ver : Nat) (ob : V) (clk : Nat),
  args = [.ref 3 ver 0 l.length, .fn 27 [.ptr 0 0 0 0, .ptr 2 2 0 0]] ∧ h = hq d pv k l ver ob clk ∧ d.l.length ≤ 1000 ∧ l.length ≤ 1000000
def dcV (h : Heap) : V := .ref 3 (h.blk 3).ver 0 (keepC (hpD h) (hpK h) (rsL h)).length
def dcH (h : Heap) : Heap := ⟨[h.blk 0, h.blk 1, h.blk 2, ⟨(h.blk 3).ver, 3, (keepC (hpD h) (hpK h) (rsL h)).map Cnt.enc, false, [vs ⟨#[]⟩, vi 0, vi 0]⟩, h.blk 4], h.clk + ckD (hpD h) (hpK h) (rsL h)⟩
theorem dcV_at (d : Doc) (pv : List V) (k : Int) (l : List Cnt) (ver : Nat) (ob : V) (clk : Nat) : dcV (hq d pv k l ver ob clk) = .ref 3 ver 0 (keepC d k l).length := by
  unfold dcV; rw [hpD_at, hpK_at, hpL_at]; rfl
theorem dcH_at (d : Doc) (pv : List V) (k : Int) (l : List Cnt) (ver : Nat) (ob : V) (clk : Nat) : dcH (hq d pv k l ver ob clk) = hq d pv k (keepC d k l) ver ob (clk + ckD d k l) := by
  unfold dcH; rw [hpD_at, hpK_at, hpL_at]; rfl
def sumDcE : ESum Try.prog := ⟨26, dcP, fun _ h => dcV h, fun _ h => dcH h, fun args h hp => by
  obtain ⟨d, pv, k, l, ver, ob, clk, rfl, rfl, h1, h2⟩ := hp
  rw [dcV_at, dcH_at]; exact delC_call d pv k l ver ob clk h1 h2⟩
def dVStL (e : List V) : VSt := ⟨(e.getD 0 .any).str, (e.getD 1 .any).int, e.getD 2 .any⟩
def dVSts (v : V) : List VSt := v.es.map dVStL
theorem dVSts_map (sz : Nat) (l : List VSt) : dVSts (.slc sz (l.map VSt.enc)) = l := by
  have : ∀ s : VSt, dVStL s.enc = s := fun _ => rfl
  simp [dVSts, V.es, Function.comp_def, this]
def fOf (v : V) : Int → Int → Int := if v.fnId = 32 then addI else fun _ b => stopI b
def cgP (args : List V) (h : Heap) : Prop := ∃ (d : Doc) (pv : List V) (k : Int) (ss : List VSt) (a : Sv) (fid : Nat),
  args = [.slc 3 (ss.map VSt.enc), .fn fid [], .ptr 4 4 0 0, .ptr 0 0 0 0, .ptr 2 2 0 0] ∧ h = hq d pv k a.l a.ver (.ref 3 a.ver 0 a.l.length) a.clk ∧ (fid = 32 ∨ fid = 33) ∧
    okS ss ∧ a.l.length + ss.length ≤ 90000 ∧ d.l.length ≤ 1000 ∧ okMk d a.l ∧ 0 ≤ k ∧ k < d.l.length
def cgS (args : List V) (h : Heap) : Sv := (dVSts (args.getD 0 .any)).foldl (chgS (fOf (args.getD 1 .any)) (hpD h) (hpK h)) ⟨rsL h, (h.blk 3).ver, h.clk⟩
def cgH (args : List V) (h : Heap) : Heap := ⟨[h.blk 0, h.blk 1, h.blk 2, ⟨(cgS args h).ver, 3, (cgS args h).l.map Cnt.enc, false, [vs ⟨#[]⟩, vi 0, vi 0]⟩, ⟨4, 1, [[.ref 3 (cgS args h).ver 0 (cgS args h).l.length]], false, []⟩], (cgS args h).clk⟩
theorem cgH_at (d : Doc) (pv : List V) (k : Int) (ss : List VSt) (a : Sv) (f : Nat) : cgH [.slc 3 (ss.map VSt.enc), .fn f [], .ptr 4 4 0 0, .ptr 0 0 0 0, .ptr 2 2 0 0] (hq d pv k a.l a.ver (.ref 3 a.ver 0 a.l.length) a.clk) =
    hq d pv k (ss.foldl (chgS (fOf (.fn f [])) d k) a).l (ss.foldl (chgS (fOf (.fn f [])) d k) a).ver (.ref 3 (ss.foldl (chgS (fOf (.fn f [])) d k) a).ver 0 (ss.foldl (chgS (fOf (.fn f [])) d k) a).l.length) (ss.foldl (chgS (fOf (.fn f [])) d k) a).clk := by
  have e : cgS [.slc 3 (ss.map VSt.enc), .fn f [], .ptr 4 4 0 0, .ptr 0 0 0 0, .ptr 2 2 0 0] (hq d pv k a.l a.ver (.ref 3 a.ver 0 a.l.length) a.clk) = ss.foldl (chgS (fOf (.fn f [])) d k) a := by
    unfold cgS
    rw [hpD_at, hpK_at, hpL_at]
    simp only [List.getD_cons_zero, List.getD_cons_succ, dVSts_map]
    rfl
  unfold cgH
  rw [e]
  rfl
def sumCgE : ESum Try.prog := ⟨30, cgP, fun _ _ => retV [] (fun _ => .any) ⟨[], 0⟩, cgH, fun args h hp => by
  obtain ⟨d, pv, k, ss, a, f, rfl, rfl, h0, h1, h2, h3, h4, h5, h6⟩ := hp
  rw [cgH_at]
  rcases h0 with rfl | rfl
  · exact chgA_call d pv k ss a h1 h2 h3 h4 h5 h6
  · exact chgS_call d pv k ss a h1 h2 h3 h4 h5 h6⟩
/-! ### Step -/
structure Prp where
  b : Int
  a : Int
  pg : ByteArray
  r : List VSt
  i : List VSt
  s : List VSt
  st : V
  run : ByteArray
def vsts (l : List VSt) : V := .slc 3 (l.map VSt.enc)
def Prp.enc (p : Prp) : List V := [vi p.b, vi p.a, vs p.pg, vsts p.r, vsts p.i, vsts p.s, p.st, vs p.run]
def rstA (d : Doc) (k : Int) (l : List Cnt) (ss : List VSt) : List Cnt := ss.foldl (fun l s => rstC d k l s.name s.n) l
def stepI (d : Doc) (p : Prp) (k : Int) (l : List Cnt) : List Cnt := chgA (fun _ b => stopI b) d k (chgA addI d k (rstA d k (keepC d k l) p.r) p.i) p.s
def stepC (d : Doc) (p : Prp) (k : Int) (l : List Cnt) : List Cnt := if k ∈ inV d then stepI d p k l else []
structure okPr (p : Prp) : Prop where
  r : okS p.r ∧ p.r.length ≤ 20000
  i : okS p.i ∧ p.i.length ≤ 20000
  s : okS p.s ∧ p.s.length ≤ 20000
  st : okX p.st
theorem keepC_mk {d : Doc} {k : Int} {l : List Cnt} (h : d.l.length ≠ 0) : okMk d (keepC d k l) := fun c hc => by
  have h1 := (List.mem_filter.1 hc).2
  unfold seenB at h1
  split at h1
  · have : c.maker = 0 := by simpa using h1
    omega
  · omega
theorem inV_mem {d : Doc} {k : Int} (h : k ∈ inV d) : rightB d = true ∧ 0 ≤ k ∧ k < d.l.length ∧ d.l.length ≠ 0 := by
  unfold inV at h
  split at h
  · rename_i hr
    unfold inL at h
    obtain ⟨m, a, b, _⟩ := selTo_mem.1 h
    exact ⟨hr, by omega, by omega, by omega⟩
  · cases h
theorem chgS_mk {F : Int → Int → Int} {d : Doc} {k : Int} (h0 : 0 ≤ k) (h1 : k < d.l.length) : ∀ (ss : List VSt) (a : Sv), okMk d a.l → okMk d (ss.foldl (chgS F d k) a).l ∧ (ss.foldl (chgS F d k) a).l.length ≤ a.l.length + ss.length
  | [], a, h => ⟨h, by simp⟩
  | s :: ss, a, h => by
    obtain ⟨q1, q2⟩ := chg1_mk (F := F) (s := s) h h0 h1
    have := chgS_mk (F := F) h0 h1 ss (chgS F d k a s) q1
    rw [List.foldl_cons]
    refine ⟨this.1, ?_⟩
    have h3 : (chgS F d k a s).l.length ≤ a.l.length + 1 := q2
    rw [List.length_cons]; omega
theorem len_rst (d : Doc) (k : Int) : ∀ (ss : List VSt) (l : List Cnt), (rstA d k l ss).length ≤ l.length + ss.length
  | [], l => by simp [rstA]
  | s :: ss, l => by
    have h1 := len_rst d k ss (rstC d k l s.name s.n)
    have h2 : (rstC d k l s.name s.n).length ≤ l.length + 1 := by unfold rstC; split <;> simp
    have h3 : rstA d k l (s :: ss) = rstA d k (rstC d k l s.name s.n) ss := rfl
    rw [h3, List.length_cons]; omega
theorem fOf_add : fOf (.fn 32 []) = addI := rfl
theorem fOf_st3 : fOf (.fn 33 []) = fun _ b => stopI b := rfl
structure StS where
  j : Nat
  v : Sv
theorem step_ok (d : Doc) (p : Prp) (k : Int) (l : List Cnt) (hd : d.l.length ≤ 1000) (hp : okPr p) (hl : l.length ≤ 20000) : PCall Try.prog 10 [cnts l, .agg d.enc, .agg p.enc, vi k] (cnts (stepC d p k l)) := by
  by_cases hk : k ∈ inV d
  · have hst : stepC d p k l = stepI d p k l := by unfold stepC; rw [if_pos hk]
    rw [hst]
    obtain ⟨hR, h0, h1, hne⟩ := inV_mem hk
    have hil := inV_len d
    have hil : (inV d).length ≤ 1000000 := by omega
    have hk := decide_eq_true hk
    have c1 : sumDcE.f = 26 := rfl
    have c2 : ∀ args h, sumDcE.pre args h = dcP args h := fun _ _ => rfl
    have c3 : ∀ args h, sumDcE.v args h = dcV h := fun _ _ => rfl
    have c4 : ∀ args h, sumDcE.hp args h = dcH h := fun _ _ => rfl
    have e1 : sumRstE.f = 29 := rfl
    have e2 : ∀ args h, sumRstE.pre args h = rstP args h := fun _ _ => rfl
    have e3 : ∀ args h, sumRstE.v args h = rsV args h := fun _ _ => rfl
    have e4 : ∀ args h, sumRstE.hp args h = rsH args h := fun _ _ => rfl
    have d1 : sumCgE.f = 30 := rfl
    have d2 : ∀ args h, sumCgE.pre args h = cgP args h := fun _ _ => rfl
    have d3 : ∀ args h, sumCgE.v args h = retV [] (fun _ => .any) ⟨[], 0⟩ := fun _ _ => rfl
    have d4 : ∀ args h, sumCgE.hp args h = cgH args h := fun _ _ => rfl
    refine PCall.of (Orc.econs sumDcE (Orc.econs sumRstE (Orc.econs sumCgE (Orc.cons sumInA (Orc.cons sumConI (Orc.nil _)))))) c10_ok (by simp [c10]) fun w0 own0 => ?_
    generalize hRes : stepI d p k l = Res
    obtain ⟨pb, pa, pg, pr, pi, ps, pst, prun⟩ := p
    obtain ⟨⟨or1, or2⟩, ⟨oi1, oi2⟩, ⟨os1, os2⟩, ost⟩ := hp
    simp only at or1 or2 oi1 oi2 os1 os2 ost
    have hxx : (∃ m es, pst = .slc m es) ∨ pst = vnil := by rcases ost with h | h; exact .inr h; exact .inl h
    have hkl := keepC_len d k l
    have hl6 : l.length ≤ 1000000 := by omega
    have hdp : dcP [.ref 3 3 0 l.length, .fn 27 [.ptr 0 0 0 0, .ptr 2 2 0 0]] (hq d [vi pb, vi pa, vs pg, vsts pr, vsts pi, vsts ps, pst, vs prun] k l 3 (.ref 3 3 0 l.length) 5) := ⟨d, _, k, l, 3, _, 5, rfl, rfl, hd, hl6⟩
    have hdv := dcV_at d [vi pb, vi pa, vs pg, vsts pr, vsts pi, vsts ps, pst, vs prun] k l 3 (.ref 3 3 0 l.length) 5
    have hdh := dcH_at d [vi pb, vi pa, vs pg, vsts pr, vsts pi, vsts ps, pst, vs prun] k l 3 (.ref 3 3 0 l.length) 5
    have m1 := eq_true (show (l.length : Int) ≤ 1099511627776 by omega)
    have m2 := eq_true (show (l.length : Int) * 32 ≤ 140737488355328 by omega)
    have m0 := eq_true (show (0 : Int) ≤ (l.length : Int) by omega)
    simp only [hq, Doc.enc, vsts] at hdp hdv hdh
    rcases hxx with ⟨mm, ees, rfl⟩ | rfl
    · simp only [c10, Doc.enc, Prp.enc, vsts, cnts, ints, dDoc_mk, Doc.eta, dInts_map, hd, hk, hil, hdp, hdv, hdh, m0, m1, m2, List.length_replicate, List.length_map, Orc.flat_econs, Orc.pre_econs, Orc.v_econs, Orc.hp_econs, Orc.qpre_econs, Orc.qv_econs, e1, e2, e3, e4, d1, d2, d3, d4, c1, c2, c3, c4, wpC_seq_areg, wpC_areg, wpFR_nil, wpFR_cons, on_gcall, off_gcall, flat_gcall, wpC_seq_xreg, wpC_xreg, wpXR_nil, wpXR_own, wpXR_flu, xeOK, xe, argTops, openArgs, Orc.ppre_cons, Orc.pr_cons, Orc.ppre_econs, Orc.pr_econs, Orc.ppre_fcons, Orc.pr_fcons, Orc.ppre_gcons, Orc.pr_gcons, List.head?_cons, List.headD_cons, XE.val, XE.heap, efO, shutArgs, xfoot, footO, V.tops, V.top1, clashOne, noClash, Orc.flat_fcons, Orc.pre_fcons, Orc.v_fcons, Orc.hp_fcons, Orc.qpre_fcons, Orc.qv_fcons, Orc.fpre_fcons, Orc.fes_fcons, Orc.flat_gcons, Orc.pre_gcons, Orc.v_gcons, Orc.hp_gcons, Orc.qpre_gcons, Orc.qv_gcons, Orc.fpre_gcons, Orc.fes_gcons, GSum.pre, GSum.v, GSum.hp, Orc.fpre_cons, Orc.fes_cons, Orc.fpre_econs, Orc.fes_econs, FSum.pre, FSum.v, FSum.hp, fres, O.calls, List.flatMap_cons, List.flatMap_nil, List.contains_cons, List.contains_nil, Bool.not_true, Bool.not_false, Heap.freeze, List.mapIdx_cons, List.mapIdx_nil, List.elem_cons, List.elem_nil, fluP, fluV, evF, bne_iff_ne, ne_eq, Option.some.injEq, go_sem, reduceCtorEq, reduceIte, Nat.reduceEqDiff, Nat.reduceAdd, Nat.reduceSub, Nat.reduceMul, Nat.reduceLT, Nat.reduceLeDiff, Nat.reduceBEq, Int.reduceEq, Int.reduceLT, Int.reduceLE, Int.reduceAdd, Int.reduceSub, Int.reduceNeg, Int.reduceToNat]
      refine SemC.lp (α := StS) (fun a => [(5, .ptr 0 0 0 0), (6, .ptr 1 1 0 0), (7, .ptr 2 2 0 0), (9, .ptr 4 4 0 0), (28, .slc 3 (pr.map VSt.enc)), (29, vi pr.length), (30, vi a.j)])
        (fun a => hq d [vi pb, vi pa, vs pg, vsts pr, vsts pi, vsts ps, .slc mm ees, vs prun] k a.v.l a.v.ver (.ref 3 a.v.ver 0 a.v.l.length) a.v.clk)
        (fun a => a.j ≤ pr.length ∧ rstA d k a.v.l (pr.drop a.j) = rstA d k (keepC d k l) pr ∧ okMk d a.v.l ∧ a.v.l.length + (pr.length - a.j) ≤ 40000) (fun a => pr.length - a.j) ⟨0, keepC d k l, 3, 5 + ckD d k l⟩
        ⟨Nat.zero_le _, rfl, keepC_mk hne, by dsimp only; omega⟩ (St.cut ?_ ?_ ?_) fun a ha => ?_
      · simp [Agrees, upd_at, initE_at]
      · simp [hq, Doc.enc, vsts]
      · simp [hq]
      obtain ⟨j, l1, ver, clk⟩ := a
      obtain ⟨g1, g2, g3, g4⟩ := ha
      simp only at g1 g2 g3 g4
      by_cases hj : j = pr.length
      · subst hj
        rw [List.drop_length] at g2
        have hl1 : l1 = rstA d k (keepC d k l) pr := g2
        have hcp := (⟨d, [vi pb, vi pa, vs pg, vsts pr, vsts pi, vsts ps, .slc mm ees, vs prun], k, pi, ⟨l1, ver, clk⟩, 32, rfl, rfl, .inl rfl, oi1, by dsimp only; omega, hd, g3, h0, h1⟩ : cgP [.slc 3 (pi.map VSt.enc), .fn 32 [], .ptr 4 4 0 0, .ptr 0 0 0 0, .ptr 2 2 0 0] (hq d [vi pb, vi pa, vs pg, vsts pr, vsts pi, vsts ps, .slc mm ees, vs prun] k l1 ver (.ref 3 ver 0 l1.length) clk))
        have hch := cgH_at d [vi pb, vi pa, vs pg, vsts pr, vsts pi, vsts ps, .slc mm ees, vs prun] k pi ⟨l1, ver, clk⟩ 32
        rw [fOf_add] at hch
        obtain ⟨n1, n2⟩ := chgS_mk (F := addI) h0 h1 pi ⟨l1, ver, clk⟩ g3
        have n3 := chgS_l addI d k pi ⟨l1, ver, clk⟩
        generalize pi.foldl (chgS addI d k) ⟨l1, ver, clk⟩ = v2 at *
        simp only at n2 n3
        have hcp2 := (⟨d, [vi pb, vi pa, vs pg, vsts pr, vsts pi, vsts ps, .slc mm ees, vs prun], k, ps, v2, 33, rfl, rfl, .inr rfl, os1, by omega, hd, n1, h0, h1⟩ : cgP [.slc 3 (ps.map VSt.enc), .fn 33 [], .ptr 4 4 0 0, .ptr 0 0 0 0, .ptr 2 2 0 0] (hq d [vi pb, vi pa, vs pg, vsts pr, vsts pi, vsts ps, .slc mm ees, vs prun] k v2.l v2.ver (.ref 3 v2.ver 0 v2.l.length) v2.clk))
        have hch2 := cgH_at d [vi pb, vi pa, vs pg, vsts pr, vsts pi, vsts ps, .slc mm ees, vs prun] k ps v2 33
        rw [fOf_st3] at hch2
        have n4 := chgS_l (fun _ b => stopI b) d k ps v2
        generalize ps.foldl (chgS (fun _ b => stopI b) d k) v2 = v3 at *
        have hfin : v3.l = Res := by rw [n4, n3, hl1, ← hRes]; rfl
        simp only [hq, Doc.enc, vsts] at hcp hch hcp2 hch2
        simp only [hq, Doc.enc, vsts, Int.lt_irrefl, hcp, hch, hcp2, hch2, V.fn.injEq, mapO_cnts11, List.take_length, Nat.le_refl, Orc.flat_econs, Orc.pre_econs, Orc.v_econs, Orc.hp_econs, Orc.qpre_econs, Orc.qv_econs, e1, e2, e3, e4, d1, d2, d3, d4, c1, c2, c3, c4, wpC_seq_areg, wpC_areg, wpFR_nil, wpFR_cons, on_gcall, off_gcall, flat_gcall, wpC_seq_xreg, wpC_xreg, wpXR_nil, wpXR_own, wpXR_flu, xeOK, xe, argTops, openArgs, Orc.ppre_cons, Orc.pr_cons, Orc.ppre_econs, Orc.pr_econs, Orc.ppre_fcons, Orc.pr_fcons, Orc.ppre_gcons, Orc.pr_gcons, List.head?_cons, List.headD_cons, XE.val, XE.heap, efO, shutArgs, xfoot, footO, V.tops, V.top1, clashOne, noClash, Orc.flat_fcons, Orc.pre_fcons, Orc.v_fcons, Orc.hp_fcons, Orc.qpre_fcons, Orc.qv_fcons, Orc.fpre_fcons, Orc.fes_fcons, Orc.flat_gcons, Orc.pre_gcons, Orc.v_gcons, Orc.hp_gcons, Orc.qpre_gcons, Orc.qv_gcons, Orc.fpre_gcons, Orc.fes_gcons, GSum.pre, GSum.v, GSum.hp, Orc.fpre_cons, Orc.fes_cons, Orc.fpre_econs, Orc.fes_econs, FSum.pre, FSum.v, FSum.hp, fres, O.calls, List.flatMap_cons, List.flatMap_nil, List.contains_cons, List.contains_nil, Bool.not_true, Bool.not_false, Heap.freeze, List.mapIdx_cons, List.mapIdx_nil, List.elem_cons, List.elem_nil, fluP, fluV, evF, bne_iff_ne, ne_eq, Option.some.injEq, go_sem, reduceCtorEq, reduceIte, Nat.reduceEqDiff, Nat.reduceAdd, Nat.reduceSub, Nat.reduceMul, Nat.reduceLT, Nat.reduceLeDiff, Nat.reduceBEq, Int.reduceEq, Int.reduceLT, Int.reduceLE, Int.reduceAdd, Int.reduceSub, Int.reduceNeg, Int.reduceToNat]
        rw [hfin]
        exact ⟨hcp, hcp2, rfl⟩
      have j1 : (j : Int) < (pr.length : Int) := by omega
      have j0 : (0 : Int) ≤ (j : Int) := by omega
      have hsj := fun z => getD_vsts pr j z (by omega)
      have hdj : pr.drop j = pr.getD j .zero :: pr.drop (j + 1) := by
        rw [List.drop_eq_getElem_cons (by omega), List.getD_eq_getElem?_getD, List.getElem?_eq_getElem (by omega)]; rfl
      rw [hdj] at g2
      have hxs : okX (pr.getD j .zero).x := or1 _ (by rw [List.getD_eq_getElem?_getD, List.getElem?_eq_getElem (by omega)]; exact List.getElem_mem _)
      generalize pr.getD j .zero = s at *
      obtain ⟨nm, n, x⟩ := s
      simp only at hxs
      obtain ⟨q1, q2⟩ := rstC_mk (nm := nm) (n := n) g3 h0 h1
      have hP : rstP [.ref 3 ver 0 l1.length, .agg d.enc, vi k, .agg [vs nm, vi n, x]] (hs d [vi pb, vi pa, vs pg, vsts pr, vsts pi, vsts ps, .slc mm ees, vs prun] k l1 ver (.ref 3 ver 0 l1.length) ⟨clk, 3, [[vs nm, vi n, x]], false, []⟩ (clk + 1)) := ⟨d, _, k, l1, ver, _, _, clk + 1, nm, n, x, rfl, rfl, hxs, hd, by omega, g3, h0, h1⟩
      have hV := rsV_at d [vi pb, vi pa, vs pg, vsts pr, vsts pi, vsts ps, .slc mm ees, vs prun] k l1 ver (.ref 3 ver 0 l1.length) ⟨clk, 3, [[vs nm, vi n, x]], false, []⟩ (clk + 1) nm n x
      have hH := rsH_at d [vi pb, vi pa, vs pg, vsts pr, vsts pi, vsts ps, .slc mm ees, vs prun] k l1 ver (.ref 3 ver 0 l1.length) ⟨clk, 3, [[vs nm, vi n, x]], false, []⟩ (clk + 1) nm n x
      have fin : rstA d k (rstC d k l1 nm n) (pr.drop (j + 1)) = rstA d k (keepC d k l) pr := g2
      generalize rstC d k l1 nm n = l2 at *
      simp only [hs, Doc.enc, vsts] at hP hV hH
      have hxx : (∃ m es, x = .slc m es) ∨ x = vnil := by rcases hxs with h | h; exact .inr h; exact .inl h
      cases hrb : rstB d k l1 nm with
      | true =>
        rw [hrb] at hV hH
        simp only [if_true] at hV hH
        rcases hxx with ⟨m, es, rfl⟩ | rfl
        · simp only [hq, Doc.enc, vsts, VSt.enc, j0, j1, hsj, hP, hV, hH, Orc.flat_econs, Orc.pre_econs, Orc.v_econs, Orc.hp_econs, Orc.qpre_econs, Orc.qv_econs, e1, e2, e3, e4, d1, d2, d3, d4, c1, c2, c3, c4, wpC_seq_areg, wpC_areg, wpFR_nil, wpFR_cons, on_gcall, off_gcall, flat_gcall, wpC_seq_xreg, wpC_xreg, wpXR_nil, wpXR_own, wpXR_flu, xeOK, xe, argTops, openArgs, Orc.ppre_cons, Orc.pr_cons, Orc.ppre_econs, Orc.pr_econs, Orc.ppre_fcons, Orc.pr_fcons, Orc.ppre_gcons, Orc.pr_gcons, List.head?_cons, List.headD_cons, XE.val, XE.heap, efO, shutArgs, xfoot, footO, V.tops, V.top1, clashOne, noClash, Orc.flat_fcons, Orc.pre_fcons, Orc.v_fcons, Orc.hp_fcons, Orc.qpre_fcons, Orc.qv_fcons, Orc.fpre_fcons, Orc.fes_fcons, Orc.flat_gcons, Orc.pre_gcons, Orc.v_gcons, Orc.hp_gcons, Orc.qpre_gcons, Orc.qv_gcons, Orc.fpre_gcons, Orc.fes_gcons, GSum.pre, GSum.v, GSum.hp, Orc.fpre_cons, Orc.fes_cons, Orc.fpre_econs, Orc.fes_econs, FSum.pre, FSum.v, FSum.hp, fres, O.calls, List.flatMap_cons, List.flatMap_nil, List.contains_cons, List.contains_nil, Bool.not_true, Bool.not_false, Heap.freeze, List.mapIdx_cons, List.mapIdx_nil, List.elem_cons, List.elem_nil, fluP, fluV, evF, bne_iff_ne, ne_eq, Option.some.injEq, go_sem, reduceCtorEq, reduceIte, Nat.reduceEqDiff, Nat.reduceAdd, Nat.reduceSub, Nat.reduceMul, Nat.reduceLT, Nat.reduceLeDiff, Nat.reduceBEq, Int.reduceEq, Int.reduceLT, Int.reduceLE, Int.reduceAdd, Int.reduceSub, Int.reduceNeg, Int.reduceToNat]
          exact ⟨by omega, ⟨j + 1, l2, ver, clk + 1 + 3⟩, ⟨by dsimp only; omega, fin, q1, by dsimp only; omega⟩, by dsimp only; omega, by dsimp only; omega, ⟨⟨rfl, rfl⟩, rfl, rfl⟩, rfl⟩
        · simp only [hq, Doc.enc, vsts, VSt.enc, j0, j1, hsj, hP, hV, hH, Orc.flat_econs, Orc.pre_econs, Orc.v_econs, Orc.hp_econs, Orc.qpre_econs, Orc.qv_econs, e1, e2, e3, e4, d1, d2, d3, d4, c1, c2, c3, c4, wpC_seq_areg, wpC_areg, wpFR_nil, wpFR_cons, on_gcall, off_gcall, flat_gcall, wpC_seq_xreg, wpC_xreg, wpXR_nil, wpXR_own, wpXR_flu, xeOK, xe, argTops, openArgs, Orc.ppre_cons, Orc.pr_cons, Orc.ppre_econs, Orc.pr_econs, Orc.ppre_fcons, Orc.pr_fcons, Orc.ppre_gcons, Orc.pr_gcons, List.head?_cons, List.headD_cons, XE.val, XE.heap, efO, shutArgs, xfoot, footO, V.tops, V.top1, clashOne, noClash, Orc.flat_fcons, Orc.pre_fcons, Orc.v_fcons, Orc.hp_fcons, Orc.qpre_fcons, Orc.qv_fcons, Orc.fpre_fcons, Orc.fes_fcons, Orc.flat_gcons, Orc.pre_gcons, Orc.v_gcons, Orc.hp_gcons, Orc.qpre_gcons, Orc.qv_gcons, Orc.fpre_gcons, Orc.fes_gcons, GSum.pre, GSum.v, GSum.hp, Orc.fpre_cons, Orc.fes_cons, Orc.fpre_econs, Orc.fes_econs, FSum.pre, FSum.v, FSum.hp, fres, O.calls, List.flatMap_cons, List.flatMap_nil, List.contains_cons, List.contains_nil, Bool.not_true, Bool.not_false, Heap.freeze, List.mapIdx_cons, List.mapIdx_nil, List.elem_cons, List.elem_nil, fluP, fluV, evF, bne_iff_ne, ne_eq, Option.some.injEq, go_sem, reduceCtorEq, reduceIte, Nat.reduceEqDiff, Nat.reduceAdd, Nat.reduceSub, Nat.reduceMul, Nat.reduceLT, Nat.reduceLeDiff, Nat.reduceBEq, Int.reduceEq, Int.reduceLT, Int.reduceLE, Int.reduceAdd, Int.reduceSub, Int.reduceNeg, Int.reduceToNat]
          exact ⟨by omega, ⟨j + 1, l2, ver, clk + 1 + 3⟩, ⟨by dsimp only; omega, fin, q1, by dsimp only; omega⟩, by dsimp only; omega, by dsimp only; omega, ⟨⟨rfl, rfl⟩, rfl, rfl⟩, rfl⟩
      | false =>
        rw [hrb] at hV hH
        simp only [Bool.false_eq_true, if_false] at hV hH
        rcases hxx with ⟨m, es, rfl⟩ | rfl
        · simp only [hq, Doc.enc, vsts, VSt.enc, j0, j1, hsj, hP, hV, hH, Orc.flat_econs, Orc.pre_econs, Orc.v_econs, Orc.hp_econs, Orc.qpre_econs, Orc.qv_econs, e1, e2, e3, e4, d1, d2, d3, d4, c1, c2, c3, c4, wpC_seq_areg, wpC_areg, wpFR_nil, wpFR_cons, on_gcall, off_gcall, flat_gcall, wpC_seq_xreg, wpC_xreg, wpXR_nil, wpXR_own, wpXR_flu, xeOK, xe, argTops, openArgs, Orc.ppre_cons, Orc.pr_cons, Orc.ppre_econs, Orc.pr_econs, Orc.ppre_fcons, Orc.pr_fcons, Orc.ppre_gcons, Orc.pr_gcons, List.head?_cons, List.headD_cons, XE.val, XE.heap, efO, shutArgs, xfoot, footO, V.tops, V.top1, clashOne, noClash, Orc.flat_fcons, Orc.pre_fcons, Orc.v_fcons, Orc.hp_fcons, Orc.qpre_fcons, Orc.qv_fcons, Orc.fpre_fcons, Orc.fes_fcons, Orc.flat_gcons, Orc.pre_gcons, Orc.v_gcons, Orc.hp_gcons, Orc.qpre_gcons, Orc.qv_gcons, Orc.fpre_gcons, Orc.fes_gcons, GSum.pre, GSum.v, GSum.hp, Orc.fpre_cons, Orc.fes_cons, Orc.fpre_econs, Orc.fes_econs, FSum.pre, FSum.v, FSum.hp, fres, O.calls, List.flatMap_cons, List.flatMap_nil, List.contains_cons, List.contains_nil, Bool.not_true, Bool.not_false, Heap.freeze, List.mapIdx_cons, List.mapIdx_nil, List.elem_cons, List.elem_nil, fluP, fluV, evF, bne_iff_ne, ne_eq, Option.some.injEq, go_sem, reduceCtorEq, reduceIte, Nat.reduceEqDiff, Nat.reduceAdd, Nat.reduceSub, Nat.reduceMul, Nat.reduceLT, Nat.reduceLeDiff, Nat.reduceBEq, Int.reduceEq, Int.reduceLT, Int.reduceLE, Int.reduceAdd, Int.reduceSub, Int.reduceNeg, Int.reduceToNat]
          exact ⟨by omega, ⟨j + 1, l2, clk + 1 + 4, clk + 1 + 5⟩, ⟨by dsimp only; omega, fin, q1, by dsimp only; omega⟩, by dsimp only; omega, by dsimp only; omega, ⟨⟨rfl, rfl⟩, rfl, rfl⟩, rfl⟩
        · simp only [hq, Doc.enc, vsts, VSt.enc, j0, j1, hsj, hP, hV, hH, Orc.flat_econs, Orc.pre_econs, Orc.v_econs, Orc.hp_econs, Orc.qpre_econs, Orc.qv_econs, e1, e2, e3, e4, d1, d2, d3, d4, c1, c2, c3, c4, wpC_seq_areg, wpC_areg, wpFR_nil, wpFR_cons, on_gcall, off_gcall, flat_gcall, wpC_seq_xreg, wpC_xreg, wpXR_nil, wpXR_own, wpXR_flu, xeOK, xe, argTops, openArgs, Orc.ppre_cons, Orc.pr_cons, Orc.ppre_econs, Orc.pr_econs, Orc.ppre_fcons, Orc.pr_fcons, Orc.ppre_gcons, Orc.pr_gcons, List.head?_cons, List.headD_cons, XE.val, XE.heap, efO, shutArgs, xfoot, footO, V.tops, V.top1, clashOne, noClash, Orc.flat_fcons, Orc.pre_fcons, Orc.v_fcons, Orc.hp_fcons, Orc.qpre_fcons, Orc.qv_fcons, Orc.fpre_fcons, Orc.fes_fcons, Orc.flat_gcons, Orc.pre_gcons, Orc.v_gcons, Orc.hp_gcons, Orc.qpre_gcons, Orc.qv_gcons, Orc.fpre_gcons, Orc.fes_gcons, GSum.pre, GSum.v, GSum.hp, Orc.fpre_cons, Orc.fes_cons, Orc.fpre_econs, Orc.fes_econs, FSum.pre, FSum.v, FSum.hp, fres, O.calls, List.flatMap_cons, List.flatMap_nil, List.contains_cons, List.contains_nil, Bool.not_true, Bool.not_false, Heap.freeze, List.mapIdx_cons, List.mapIdx_nil, List.elem_cons, List.elem_nil, fluP, fluV, evF, bne_iff_ne, ne_eq, Option.some.injEq, go_sem, reduceCtorEq, reduceIte, Nat.reduceEqDiff, Nat.reduceAdd, Nat.reduceSub, Nat.reduceMul, Nat.reduceLT, Nat.reduceLeDiff, Nat.reduceBEq, Int.reduceEq, Int.reduceLT, Int.reduceLE, Int.reduceAdd, Int.reduceSub, Int.reduceNeg, Int.reduceToNat]
          exact ⟨by omega, ⟨j + 1, l2, clk + 1 + 4, clk + 1 + 5⟩, ⟨by dsimp only; omega, fin, q1, by dsimp only; omega⟩, by dsimp only; omega, by dsimp only; omega, ⟨⟨rfl, rfl⟩, rfl, rfl⟩, rfl⟩
    · simp only [c10, Doc.enc, Prp.enc, vsts, cnts, ints, dDoc_mk, Doc.eta, dInts_map, hd, hk, hil, hdp, hdv, hdh, m0, m1, m2, List.length_replicate, List.length_map, Orc.flat_econs, Orc.pre_econs, Orc.v_econs, Orc.hp_econs, Orc.qpre_econs, Orc.qv_econs, e1, e2, e3, e4, d1, d2, d3, d4, c1, c2, c3, c4, wpC_seq_areg, wpC_areg, wpFR_nil, wpFR_cons, on_gcall, off_gcall, flat_gcall, wpC_seq_xreg, wpC_xreg, wpXR_nil, wpXR_own, wpXR_flu, xeOK, xe, argTops, openArgs, Orc.ppre_cons, Orc.pr_cons, Orc.ppre_econs, Orc.pr_econs, Orc.ppre_fcons, Orc.pr_fcons, Orc.ppre_gcons, Orc.pr_gcons, List.head?_cons, List.headD_cons, XE.val, XE.heap, efO, shutArgs, xfoot, footO, V.tops, V.top1, clashOne, noClash, Orc.flat_fcons, Orc.pre_fcons, Orc.v_fcons, Orc.hp_fcons, Orc.qpre_fcons, Orc.qv_fcons, Orc.fpre_fcons, Orc.fes_fcons, Orc.flat_gcons, Orc.pre_gcons, Orc.v_gcons, Orc.hp_gcons, Orc.qpre_gcons, Orc.qv_gcons, Orc.fpre_gcons, Orc.fes_gcons, GSum.pre, GSum.v, GSum.hp, Orc.fpre_cons, Orc.fes_cons, Orc.fpre_econs, Orc.fes_econs, FSum.pre, FSum.v, FSum.hp, fres, O.calls, List.flatMap_cons, List.flatMap_nil, List.contains_cons, List.contains_nil, Bool.not_true, Bool.not_false, Heap.freeze, List.mapIdx_cons, List.mapIdx_nil, List.elem_cons, List.elem_nil, fluP, fluV, evF, bne_iff_ne, ne_eq, Option.some.injEq, go_sem, reduceCtorEq, reduceIte, Nat.reduceEqDiff, Nat.reduceAdd, Nat.reduceSub, Nat.reduceMul, Nat.reduceLT, Nat.reduceLeDiff, Nat.reduceBEq, Int.reduceEq, Int.reduceLT, Int.reduceLE, Int.reduceAdd, Int.reduceSub, Int.reduceNeg, Int.reduceToNat]
      refine SemC.lp (α := StS) (fun a => [(5, .ptr 0 0 0 0), (6, .ptr 1 1 0 0), (7, .ptr 2 2 0 0), (9, .ptr 4 4 0 0), (28, .slc 3 (pr.map VSt.enc)), (29, vi pr.length), (30, vi a.j)])
        (fun a => hq d [vi pb, vi pa, vs pg, vsts pr, vsts pi, vsts ps, vnil, vs prun] k a.v.l a.v.ver (.ref 3 a.v.ver 0 a.v.l.length) a.v.clk)
        (fun a => a.j ≤ pr.length ∧ rstA d k a.v.l (pr.drop a.j) = rstA d k (keepC d k l) pr ∧ okMk d a.v.l ∧ a.v.l.length + (pr.length - a.j) ≤ 40000) (fun a => pr.length - a.j) ⟨0, keepC d k l, 3, 5 + ckD d k l⟩
        ⟨Nat.zero_le _, rfl, keepC_mk hne, by dsimp only; omega⟩ (St.cut ?_ ?_ ?_) fun a ha => ?_
      · simp [Agrees, upd_at, initE_at]
      · simp [hq, Doc.enc, vsts]
      · simp [hq]
      obtain ⟨j, l1, ver, clk⟩ := a
      obtain ⟨g1, g2, g3, g4⟩ := ha
      simp only at g1 g2 g3 g4
      by_cases hj : j = pr.length
      · subst hj
        rw [List.drop_length] at g2
        have hl1 : l1 = rstA d k (keepC d k l) pr := g2
        have hcp := (⟨d, [vi pb, vi pa, vs pg, vsts pr, vsts pi, vsts ps, vnil, vs prun], k, pi, ⟨l1, ver, clk⟩, 32, rfl, rfl, .inl rfl, oi1, by dsimp only; omega, hd, g3, h0, h1⟩ : cgP [.slc 3 (pi.map VSt.enc), .fn 32 [], .ptr 4 4 0 0, .ptr 0 0 0 0, .ptr 2 2 0 0] (hq d [vi pb, vi pa, vs pg, vsts pr, vsts pi, vsts ps, vnil, vs prun] k l1 ver (.ref 3 ver 0 l1.length) clk))
        have hch := cgH_at d [vi pb, vi pa, vs pg, vsts pr, vsts pi, vsts ps, vnil, vs prun] k pi ⟨l1, ver, clk⟩ 32
        rw [fOf_add] at hch
        obtain ⟨n1, n2⟩ := chgS_mk (F := addI) h0 h1 pi ⟨l1, ver, clk⟩ g3
        have n3 := chgS_l addI d k pi ⟨l1, ver, clk⟩
        generalize pi.foldl (chgS addI d k) ⟨l1, ver, clk⟩ = v2 at *
        simp only at n2 n3
        have hcp2 := (⟨d, [vi pb, vi pa, vs pg, vsts pr, vsts pi, vsts ps, vnil, vs prun], k, ps, v2, 33, rfl, rfl, .inr rfl, os1, by omega, hd, n1, h0, h1⟩ : cgP [.slc 3 (ps.map VSt.enc), .fn 33 [], .ptr 4 4 0 0, .ptr 0 0 0 0, .ptr 2 2 0 0] (hq d [vi pb, vi pa, vs pg, vsts pr, vsts pi, vsts ps, vnil, vs prun] k v2.l v2.ver (.ref 3 v2.ver 0 v2.l.length) v2.clk))
        have hch2 := cgH_at d [vi pb, vi pa, vs pg, vsts pr, vsts pi, vsts ps, vnil, vs prun] k ps v2 33
        rw [fOf_st3] at hch2
        have n4 := chgS_l (fun _ b => stopI b) d k ps v2
        generalize ps.foldl (chgS (fun _ b => stopI b) d k) v2 = v3 at *
        have hfin : v3.l = Res := by rw [n4, n3, hl1, ← hRes]; rfl
        simp only [hq, Doc.enc, vsts] at hcp hch hcp2 hch2
        simp only [hq, Doc.enc, vsts, Int.lt_irrefl, hcp, hch, hcp2, hch2, V.fn.injEq, mapO_cnts11, List.take_length, Nat.le_refl, Orc.flat_econs, Orc.pre_econs, Orc.v_econs, Orc.hp_econs, Orc.qpre_econs, Orc.qv_econs, e1, e2, e3, e4, d1, d2, d3, d4, c1, c2, c3, c4, wpC_seq_areg, wpC_areg, wpFR_nil, wpFR_cons, on_gcall, off_gcall, flat_gcall, wpC_seq_xreg, wpC_xreg, wpXR_nil, wpXR_own, wpXR_flu, xeOK, xe, argTops, openArgs, Orc.ppre_cons, Orc.pr_cons, Orc.ppre_econs, Orc.pr_econs, Orc.ppre_fcons, Orc.pr_fcons, Orc.ppre_gcons, Orc.pr_gcons, List.head?_cons, List.headD_cons, XE.val, XE.heap, efO, shutArgs, xfoot, footO, V.tops, V.top1, clashOne, noClash, Orc.flat_fcons, Orc.pre_fcons, Orc.v_fcons, Orc.hp_fcons, Orc.qpre_fcons, Orc.qv_fcons, Orc.fpre_fcons, Orc.fes_fcons, Orc.flat_gcons, Orc.pre_gcons, Orc.v_gcons, Orc.hp_gcons, Orc.qpre_gcons, Orc.qv_gcons, Orc.fpre_gcons, Orc.fes_gcons, GSum.pre, GSum.v, GSum.hp, Orc.fpre_cons, Orc.fes_cons, Orc.fpre_econs, Orc.fes_econs, FSum.pre, FSum.v, FSum.hp, fres, O.calls, List.flatMap_cons, List.flatMap_nil, List.contains_cons, List.contains_nil, Bool.not_true, Bool.not_false, Heap.freeze, List.mapIdx_cons, List.mapIdx_nil, List.elem_cons, List.elem_nil, fluP, fluV, evF, bne_iff_ne, ne_eq, Option.some.injEq, go_sem, reduceCtorEq, reduceIte, Nat.reduceEqDiff, Nat.reduceAdd, Nat.reduceSub, Nat.reduceMul, Nat.reduceLT, Nat.reduceLeDiff, Nat.reduceBEq, Int.reduceEq, Int.reduceLT, Int.reduceLE, Int.reduceAdd, Int.reduceSub, Int.reduceNeg, Int.reduceToNat]
        rw [hfin]
        exact ⟨hcp, hcp2, rfl⟩
      have j1 : (j : Int) < (pr.length : Int) := by omega
      have j0 : (0 : Int) ≤ (j : Int) := by omega
      have hsj := fun z => getD_vsts pr j z (by omega)
      have hdj : pr.drop j = pr.getD j .zero :: pr.drop (j + 1) := by
        rw [List.drop_eq_getElem_cons (by omega), List.getD_eq_getElem?_getD, List.getElem?_eq_getElem (by omega)]; rfl
      rw [hdj] at g2
      have hxs : okX (pr.getD j .zero).x := or1 _ (by rw [List.getD_eq_getElem?_getD, List.getElem?_eq_getElem (by omega)]; exact List.getElem_mem _)
      generalize pr.getD j .zero = s at *
      obtain ⟨nm, n, x⟩ := s
      simp only at hxs
      obtain ⟨q1, q2⟩ := rstC_mk (nm := nm) (n := n) g3 h0 h1
      have hP : rstP [.ref 3 ver 0 l1.length, .agg d.enc, vi k, .agg [vs nm, vi n, x]] (hs d [vi pb, vi pa, vs pg, vsts pr, vsts pi, vsts ps, vnil, vs prun] k l1 ver (.ref 3 ver 0 l1.length) ⟨clk, 3, [[vs nm, vi n, x]], false, []⟩ (clk + 1)) := ⟨d, _, k, l1, ver, _, _, clk + 1, nm, n, x, rfl, rfl, hxs, hd, by omega, g3, h0, h1⟩
      have hV := rsV_at d [vi pb, vi pa, vs pg, vsts pr, vsts pi, vsts ps, vnil, vs prun] k l1 ver (.ref 3 ver 0 l1.length) ⟨clk, 3, [[vs nm, vi n, x]], false, []⟩ (clk + 1) nm n x
      have hH := rsH_at d [vi pb, vi pa, vs pg, vsts pr, vsts pi, vsts ps, vnil, vs prun] k l1 ver (.ref 3 ver 0 l1.length) ⟨clk, 3, [[vs nm, vi n, x]], false, []⟩ (clk + 1) nm n x
      have fin : rstA d k (rstC d k l1 nm n) (pr.drop (j + 1)) = rstA d k (keepC d k l) pr := g2
      generalize rstC d k l1 nm n = l2 at *
      simp only [hs, Doc.enc, vsts] at hP hV hH
      have hxx : (∃ m es, x = .slc m es) ∨ x = vnil := by rcases hxs with h | h; exact .inr h; exact .inl h
      cases hrb : rstB d k l1 nm with
      | true =>
        rw [hrb] at hV hH
        simp only [if_true] at hV hH
        rcases hxx with ⟨m, es, rfl⟩ | rfl
        · simp only [hq, Doc.enc, vsts, VSt.enc, j0, j1, hsj, hP, hV, hH, Orc.flat_econs, Orc.pre_econs, Orc.v_econs, Orc.hp_econs, Orc.qpre_econs, Orc.qv_econs, e1, e2, e3, e4, d1, d2, d3, d4, c1, c2, c3, c4, wpC_seq_areg, wpC_areg, wpFR_nil, wpFR_cons, on_gcall, off_gcall, flat_gcall, wpC_seq_xreg, wpC_xreg, wpXR_nil, wpXR_own, wpXR_flu, xeOK, xe, argTops, openArgs, Orc.ppre_cons, Orc.pr_cons, Orc.ppre_econs, Orc.pr_econs, Orc.ppre_fcons, Orc.pr_fcons, Orc.ppre_gcons, Orc.pr_gcons, List.head?_cons, List.headD_cons, XE.val, XE.heap, efO, shutArgs, xfoot, footO, V.tops, V.top1, clashOne, noClash, Orc.flat_fcons, Orc.pre_fcons, Orc.v_fcons, Orc.hp_fcons, Orc.qpre_fcons, Orc.qv_fcons, Orc.fpre_fcons, Orc.fes_fcons, Orc.flat_gcons, Orc.pre_gcons, Orc.v_gcons, Orc.hp_gcons, Orc.qpre_gcons, Orc.qv_gcons, Orc.fpre_gcons, Orc.fes_gcons, GSum.pre, GSum.v, GSum.hp, Orc.fpre_cons, Orc.fes_cons, Orc.fpre_econs, Orc.fes_econs, FSum.pre, FSum.v, FSum.hp, fres, O.calls, List.flatMap_cons, List.flatMap_nil, List.contains_cons, List.contains_nil, Bool.not_true, Bool.not_false, Heap.freeze, List.mapIdx_cons, List.mapIdx_nil, List.elem_cons, List.elem_nil, fluP, fluV, evF, bne_iff_ne, ne_eq, Option.some.injEq, go_sem, reduceCtorEq, reduceIte, Nat.reduceEqDiff, Nat.reduceAdd, Nat.reduceSub, Nat.reduceMul, Nat.reduceLT, Nat.reduceLeDiff, Nat.reduceBEq, Int.reduceEq, Int.reduceLT, Int.reduceLE, Int.reduceAdd, Int.reduceSub, Int.reduceNeg, Int.reduceToNat]
          exact ⟨by omega, ⟨j + 1, l2, ver, clk + 1 + 3⟩, ⟨by dsimp only; omega, fin, q1, by dsimp only; omega⟩, by dsimp only; omega, by dsimp only; omega, ⟨⟨rfl, rfl⟩, rfl, rfl⟩, rfl⟩
        · simp only [hq, Doc.enc, vsts, VSt.enc, j0, j1, hsj, hP, hV, hH, Orc.flat_econs, Orc.pre_econs, Orc.v_econs, Orc.hp_econs, Orc.qpre_econs, Orc.qv_econs, e1, e2, e3, e4, d1, d2, d3, d4, c1, c2, c3, c4, wpC_seq_areg, wpC_areg, wpFR_nil, wpFR_cons, on_gcall, off_gcall, flat_gcall, wpC_seq_xreg, wpC_xreg, wpXR_nil, wpXR_own, wpXR_flu, xeOK, xe, argTops, openArgs, Orc.ppre_cons, Orc.pr_cons, Orc.ppre_econs, Orc.pr_econs, Orc.ppre_fcons, Orc.pr_fcons, Orc.ppre_gcons, Orc.pr_gcons, List.head?_cons, List.headD_cons, XE.val, XE.heap, efO, shutArgs, xfoot, footO, V.tops, V.top1, clashOne, noClash, Orc.flat_fcons, Orc.pre_fcons, Orc.v_fcons, Orc.hp_fcons, Orc.qpre_fcons, Orc.qv_fcons, Orc.fpre_fcons, Orc.fes_fcons, Orc.flat_gcons, Orc.pre_gcons, Orc.v_gcons, Orc.hp_gcons, Orc.qpre_gcons, Orc.qv_gcons, Orc.fpre_gcons, Orc.fes_gcons, GSum.pre, GSum.v, GSum.hp, Orc.fpre_cons, Orc.fes_cons, Orc.fpre_econs, Orc.fes_econs, FSum.pre, FSum.v, FSum.hp, fres, O.calls, List.flatMap_cons, List.flatMap_nil, List.contains_cons, List.contains_nil, Bool.not_true, Bool.not_false, Heap.freeze, List.mapIdx_cons, List.mapIdx_nil, List.elem_cons, List.elem_nil, fluP, fluV, evF, bne_iff_ne, ne_eq, Option.some.injEq, go_sem, reduceCtorEq, reduceIte, Nat.reduceEqDiff, Nat.reduceAdd, Nat.reduceSub, Nat.reduceMul, Nat.reduceLT, Nat.reduceLeDiff, Nat.reduceBEq, Int.reduceEq, Int.reduceLT, Int.reduceLE, Int.reduceAdd, Int.reduceSub, Int.reduceNeg, Int.reduceToNat]
          exact ⟨by omega, ⟨j + 1, l2, ver, clk + 1 + 3⟩, ⟨by dsimp only; omega, fin, q1, by dsimp only; omega⟩, by dsimp only; omega, by dsimp only; omega, ⟨⟨rfl, rfl⟩, rfl, rfl⟩, rfl⟩
      | false =>
        rw [hrb] at hV hH
        simp only [Bool.false_eq_true, if_false] at hV hH
        rcases hxx with ⟨m, es, rfl⟩ | rfl
        · simp only [hq, Doc.enc, vsts, VSt.enc, j0, j1, hsj, hP, hV, hH, Orc.flat_econs, Orc.pre_econs, Orc.v_econs, Orc.hp_econs, Orc.qpre_econs, Orc.qv_econs, e1, e2, e3, e4, d1, d2, d3, d4, c1, c2, c3, c4, wpC_seq_areg, wpC_areg, wpFR_nil, wpFR_cons, on_gcall, off_gcall, flat_gcall, wpC_seq_xreg, wpC_xreg, wpXR_nil, wpXR_own, wpXR_flu, xeOK, xe, argTops, openArgs, Orc.ppre_cons, Orc.pr_cons, Orc.ppre_econs, Orc.pr_econs, Orc.ppre_fcons, Orc.pr_fcons, Orc.ppre_gcons, Orc.pr_gcons, List.head?_cons, List.headD_cons, XE.val, XE.heap, efO, shutArgs, xfoot, footO, V.tops, V.top1, clashOne, noClash, Orc.flat_fcons, Orc.pre_fcons, Orc.v_fcons, Orc.hp_fcons, Orc.qpre_fcons, Orc.qv_fcons, Orc.fpre_fcons, Orc.fes_fcons, Orc.flat_gcons, Orc.pre_gcons, Orc.v_gcons, Orc.hp_gcons, Orc.qpre_gcons, Orc.qv_gcons, Orc.fpre_gcons, Orc.fes_gcons, GSum.pre, GSum.v, GSum.hp, Orc.fpre_cons, Orc.fes_cons, Orc.fpre_econs, Orc.fes_econs, FSum.pre, FSum.v, FSum.hp, fres, O.calls, List.flatMap_cons, List.flatMap_nil, List.contains_cons, List.contains_nil, Bool.not_true, Bool.not_false, Heap.freeze, List.mapIdx_cons, List.mapIdx_nil, List.elem_cons, List.elem_nil, fluP, fluV, evF, bne_iff_ne, ne_eq, Option.some.injEq, go_sem, reduceCtorEq, reduceIte, Nat.reduceEqDiff, Nat.reduceAdd, Nat.reduceSub, Nat.reduceMul, Nat.reduceLT, Nat.reduceLeDiff, Nat.reduceBEq, Int.reduceEq, Int.reduceLT, Int.reduceLE, Int.reduceAdd, Int.reduceSub, Int.reduceNeg, Int.reduceToNat]
          exact ⟨by omega, ⟨j + 1, l2, clk + 1 + 4, clk + 1 + 5⟩, ⟨by dsimp only; omega, fin, q1, by dsimp only; omega⟩, by dsimp only; omega, by dsimp only; omega, ⟨⟨rfl, rfl⟩, rfl, rfl⟩, rfl⟩
        · simp only [hq, Doc.enc, vsts, VSt.enc, j0, j1, hsj, hP, hV, hH, Orc.flat_econs, Orc.pre_econs, Orc.v_econs, Orc.hp_econs, Orc.qpre_econs, Orc.qv_econs, e1, e2, e3, e4, d1, d2, d3, d4, c1, c2, c3, c4, wpC_seq_areg, wpC_areg, wpFR_nil, wpFR_cons, on_gcall, off_gcall, flat_gcall, wpC_seq_xreg, wpC_xreg, wpXR_nil, wpXR_own, wpXR_flu, xeOK, xe, argTops, openArgs, Orc.ppre_cons, Orc.pr_cons, Orc.ppre_econs, Orc.pr_econs, Orc.ppre_fcons, Orc.pr_fcons, Orc.ppre_gcons, Orc.pr_gcons, List.head?_cons, List.headD_cons, XE.val, XE.heap, efO, shutArgs, xfoot, footO, V.tops, V.top1, clashOne, noClash, Orc.flat_fcons, Orc.pre_fcons, Orc.v_fcons, Orc.hp_fcons, Orc.qpre_fcons, Orc.qv_fcons, Orc.fpre_fcons, Orc.fes_fcons, Orc.flat_gcons, Orc.pre_gcons, Orc.v_gcons, Orc.hp_gcons, Orc.qpre_gcons, Orc.qv_gcons, Orc.fpre_gcons, Orc.fes_gcons, GSum.pre, GSum.v, GSum.hp, Orc.fpre_cons, Orc.fes_cons, Orc.fpre_econs, Orc.fes_econs, FSum.pre, FSum.v, FSum.hp, fres, O.calls, List.flatMap_cons, List.flatMap_nil, List.contains_cons, List.contains_nil, Bool.not_true, Bool.not_false, Heap.freeze, List.mapIdx_cons, List.mapIdx_nil, List.elem_cons, List.elem_nil, fluP, fluV, evF, bne_iff_ne, ne_eq, Option.some.injEq, go_sem, reduceCtorEq, reduceIte, Nat.reduceEqDiff, Nat.reduceAdd, Nat.reduceSub, Nat.reduceMul, Nat.reduceLT, Nat.reduceLeDiff, Nat.reduceBEq, Int.reduceEq, Int.reduceLT, Int.reduceLE, Int.reduceAdd, Int.reduceSub, Int.reduceNeg, Int.reduceToNat]
          exact ⟨by omega, ⟨j + 1, l2, clk + 1 + 4, clk + 1 + 5⟩, ⟨by dsimp only; omega, fin, q1, by dsimp only; omega⟩, by dsimp only; omega, by dsimp only; omega, ⟨⟨rfl, rfl⟩, rfl, rfl⟩, rfl⟩
  · have hst : stepC d p k l = [] := by unfold stepC; rw [if_neg hk]
    rw [hst]
    refine PCall.rsub (r := vnil) ?_ fun F w v h => PRep.nilC 3 h
    refine PCall.of (Orc.cons sumInA (Orc.cons sumConI (Orc.nil _))) c10_ok (by simp [c10]) fun w0 own0 => ?_
    have hil := inV_len d
    have hil : (inV d).length ≤ 1000000 := by omega
    have hk := decide_eq_false hk
    obtain ⟨pb, pa, pg, pr, pi, ps, pst, prun⟩ := p
    have hxx : (∃ m es, pst = .slc m es) ∨ pst = vnil := by rcases hp.st with h | h; exact .inr h; exact .inl h
    rcases hxx with ⟨m, es, rfl⟩ | rfl
    · simp only [c10, Doc.enc, Prp.enc, vsts, cnts, ints, dDoc_mk, Doc.eta, dInts_map, hd, hk, hil, wpC_seq_areg, wpC_areg, wpFR_nil, wpFR_cons, on_gcall, off_gcall, flat_gcall, wpC_seq_xreg, wpC_xreg, wpXR_nil, wpXR_own, wpXR_flu, xeOK, xe, argTops, openArgs, Orc.ppre_cons, Orc.pr_cons, Orc.ppre_econs, Orc.pr_econs, Orc.ppre_fcons, Orc.pr_fcons, Orc.ppre_gcons, Orc.pr_gcons, List.head?_cons, List.headD_cons, XE.val, XE.heap, efO, shutArgs, xfoot, footO, V.tops, V.top1, clashOne, noClash, Orc.flat_fcons, Orc.pre_fcons, Orc.v_fcons, Orc.hp_fcons, Orc.qpre_fcons, Orc.qv_fcons, Orc.fpre_fcons, Orc.fes_fcons, Orc.flat_gcons, Orc.pre_gcons, Orc.v_gcons, Orc.hp_gcons, Orc.qpre_gcons, Orc.qv_gcons, Orc.fpre_gcons, Orc.fes_gcons, GSum.pre, GSum.v, GSum.hp, Orc.fpre_cons, Orc.fes_cons, Orc.fpre_econs, Orc.fes_econs, FSum.pre, FSum.v, FSum.hp, fres, O.calls, List.flatMap_cons, List.flatMap_nil, List.contains_cons, List.contains_nil, Bool.not_true, Bool.not_false, Heap.freeze, List.mapIdx_cons, List.mapIdx_nil, List.elem_cons, List.elem_nil, fluP, fluV, evF, bne_iff_ne, ne_eq, Option.some.injEq, go_sem, reduceCtorEq, reduceIte, Nat.reduceEqDiff, Nat.reduceAdd, Nat.reduceSub, Nat.reduceMul, Nat.reduceLT, Nat.reduceLeDiff, Nat.reduceBEq, Int.reduceEq, Int.reduceLT, Int.reduceLE, Int.reduceAdd, Int.reduceSub, Int.reduceNeg, Int.reduceToNat]
    · simp only [c10, Doc.enc, Prp.enc, vsts, cnts, ints, dDoc_mk, Doc.eta, dInts_map, hd, hk, hil, wpC_seq_areg, wpC_areg, wpFR_nil, wpFR_cons, on_gcall, off_gcall, flat_gcall, wpC_seq_xreg, wpC_xreg, wpXR_nil, wpXR_own, wpXR_flu, xeOK, xe, argTops, openArgs, Orc.ppre_cons, Orc.pr_cons, Orc.ppre_econs, Orc.pr_econs, Orc.ppre_fcons, Orc.pr_fcons, Orc.ppre_gcons, Orc.pr_gcons, List.head?_cons, List.headD_cons, XE.val, XE.heap, efO, shutArgs, xfoot, footO, V.tops, V.top1, clashOne, noClash, Orc.flat_fcons, Orc.pre_fcons, Orc.v_fcons, Orc.hp_fcons, Orc.qpre_fcons, Orc.qv_fcons, Orc.fpre_fcons, Orc.fes_fcons, Orc.flat_gcons, Orc.pre_gcons, Orc.v_gcons, Orc.hp_gcons, Orc.qpre_gcons, Orc.qv_gcons, Orc.fpre_gcons, Orc.fes_gcons, GSum.pre, GSum.v, GSum.hp, Orc.fpre_cons, Orc.fes_cons, Orc.fpre_econs, Orc.fes_econs, FSum.pre, FSum.v, FSum.hp, fres, O.calls, List.flatMap_cons, List.flatMap_nil, List.contains_cons, List.contains_nil, Bool.not_true, Bool.not_false, Heap.freeze, List.mapIdx_cons, List.mapIdx_nil, List.elem_cons, List.elem_nil, fluP, fluV, evF, bne_iff_ne, ne_eq, Option.some.injEq, go_sem, reduceCtorEq, reduceIte, Nat.reduceEqDiff, Nat.reduceAdd, Nat.reduceSub, Nat.reduceMul, Nat.reduceLT, Nat.reduceLeDiff, Nat.reduceBEq, Int.reduceEq, Int.reduceLT, Int.reduceLE, Int.reduceAdd, Int.reduceSub, Int.reduceNeg, Int.reduceToNat]
end Go.Proofs.Yteifbbinfipdlaa
