/- Layer 8: which selectors are the same, and what the document has. -/
import Derived.Test.YtlcblcjpebabkaaC8b
namespace Go.Proofs.Ytlcblcjpebabkaa
open Go.Sx
set_option linter.unusedSimpArgs false
set_option maxHeartbeats 4000000
set_option maxRecDepth 20000

theorem given8_ok (s : Sel) (hs : okC s) : PCall Try.prog 17 [.agg (selE s)] (.agg (selE s)) := by
  refine PCall.of (Orc.nil _) c17_ok (by simp [c17]) fun w0 own0 => ?_
  obtain ⟨hs1, hs2⟩ := hs
  simp only [c17, selE, go_sem, wpR_gcall, reduceCtorEq, reduceIte, Nat.reduceEqDiff, Nat.reduceAdd, Nat.reduceSub, Nat.reduceMul, Nat.reduceLT, Nat.reduceLeDiff, Nat.reduceBEq, Int.reduceEq, Int.reduceLT, Int.reduceLE, Int.reduceAdd, Int.reduceSub, Int.reduceNeg, Int.reduceToNat]
  refine SemC.lq (α := GvS) (fun a => [(2, .ptr 1 1 0 0), (3, .ptr 2 2 0 0), (10, .slc 2 (s.map Cmp.enc)), (11, vi s.length), (12, vi a.n)])
    (fun a => ⟨[⟨0, 1, [[.slc 2 (s.map Cmp.enc)]], false, []⟩, ⟨1, 1, [[vnil]], false, []⟩, ⟨2, 1, [[.ref 3 a.ver 0 a.n]], false, []⟩, ⟨a.ver, 2, (s.take a.n).map Cmp.enc, false, [vi 0, vnil]⟩], a.clk⟩)
    (fun a => a.n ≤ s.length) (fun a => s.length - a.n) ⟨0, 3, 4⟩ (Nat.zero_le _) (St.cell 2 0 0 2 [vi 0, vnil] rfl rfl (St.cut ?_ ?_ ?_)) fun a ha => ?_
  · simp [Agrees, upd_at, initE_at]
  · simp [Heap.alloc]
  · rfl
  obtain ⟨n, ver, clk⟩ := a
  simp only at ha
  by_cases he : n = s.length
  · subst he
    simp only [Int.lt_irrefl, List.take_length, Nat.le_refl, mapO_cmp10, go_sem, wpR_gcall, reduceCtorEq, reduceIte, Nat.reduceEqDiff, Nat.reduceAdd, Nat.reduceSub, Nat.reduceMul, Nat.reduceLT, Nat.reduceLeDiff, Nat.reduceBEq, Int.reduceEq, Int.reduceLT, Int.reduceLE, Int.reduceAdd, Int.reduceSub, Int.reduceNeg, Int.reduceToNat]
  · have e1 : (n : Int) < (s.length : Int) := by omega
    have e0 : (0 : Int) ≤ (n : Int) := by omega
    have hlt : n < s.length := by omega
    have hg := getD_cmps s n [.c (.int .i64 0), .c (.slice none 0 0)] hlt
    have hcl := hs2 n hlt
    have hts := cmp_take s n hlt
    have htl : (s.take n).length = n := by rw [List.length_take]; omega
    generalize hx : s.getD n default = c at *
    simp only [e0, e1, hg, Cmp.enc, go_sem, wpR_gcall, reduceCtorEq, reduceIte, Nat.reduceEqDiff, Nat.reduceAdd, Nat.reduceSub, Nat.reduceMul, Nat.reduceLT, Nat.reduceLeDiff, Nat.reduceBEq, Int.reduceEq, Int.reduceLT, Int.reduceLE, Int.reduceAdd, Int.reduceSub, Int.reduceNeg, Int.reduceToNat]
    refine SemC.lp (α := GvS) (fun a => [(2, .ptr 1 1 0 0), (3, .ptr 2 2 0 0), (6, .ptr 5 (clk + 1) 0 0), (10, .slc 2 (s.map Cmp.enc)), (11, vi s.length), (12, vi n), (20, .slc 3 (c.l.map Smp.enc)), (21, vi c.l.length), (22, vi a.n)])
      (fun a => ⟨[⟨0, 1, [[.slc 2 (s.map Cmp.enc)]], false, []⟩, ⟨1, 1, [[vnil]], false, []⟩, ⟨2, 1, [[.ref 3 ver 0 n]], false, []⟩, ⟨ver, 2, (s.take n).map Cmp.enc, false, [vi 0, vnil]⟩,
        ⟨clk, 2, [c.enc], false, []⟩, ⟨clk + 1, 2, [[vi c.link, .ref 6 a.ver 0 a.n]], false, []⟩, ⟨a.ver, 3, (c.l.take a.n).map Smp.enc, false, [vi 0, vs ⟨#[]⟩, vs ⟨#[]⟩]⟩], a.clk⟩)
      (fun a => a.n ≤ c.l.length) (fun a => c.l.length - a.n) ⟨0, clk + 2, clk + 3⟩ (Nat.zero_le _) (St.cell 5 0 1 3 [vi 0, vs ⟨#[]⟩, vs ⟨#[]⟩] rfl rfl (St.cut ?_ ?_ ?_)) fun a ha => ?_
    · simp [Agrees, upd_at, ev]
    · simp [Heap.alloc, Cmp.enc]
    · rfl
    obtain ⟨m, v2, clk2⟩ := a
    simp only at ha
    by_cases hm : m = c.l.length
    · subst hm
      simp only [Int.lt_irrefl, List.take_length, Cmp.enc, go_sem, wpR_gcall, reduceCtorEq, reduceIte, Nat.reduceEqDiff, Nat.reduceAdd, Nat.reduceSub, Nat.reduceMul, Nat.reduceLT, Nat.reduceLeDiff, Nat.reduceBEq, Int.reduceEq, Int.reduceLT, Int.reduceLE, Int.reduceAdd, Int.reduceSub, Int.reduceNeg, Int.reduceToNat]
      refine ⟨⟨by omega, by omega, by omega⟩, by omega, ⟨n + 1, clk2 + 1, clk2 + 2⟩, by dsimp only; omega, by dsimp only; omega, ?_⟩
      have hml : ((s.take n).map Cmp.enc).length = n := by simp; omega
      have htt : (s.take n).take n = s.take n := List.take_of_length_le (by omega)
      have hge := getD_end ((s.take n).map Cmp.enc) [vi c.link, V.ref 6 v2 0 c.l.length] []
      have hse := set_end ((s.take n).map Cmp.enc) [vi c.link, V.ref 6 v2 0 c.l.length] [vi c.link, .slc 3 (c.l.map Smp.enc)]
      rw [hml] at hge hse
      rw [htt]
      refine St.sealC (fun j => j == 6) 3 n 1 (y := .slc 3 (c.l.map Smp.enc)) rfl ?_ (St.cut ?_ ?_ ?_)
      · simp only [hge, List.getD_cons_zero, List.getD_cons_succ]
        rw [res11_ref]
        have ht3 : (c.l.map Smp.enc).take c.l.length = c.l.map Smp.enc := List.take_of_length_le (by simp)
        simp [Heap.cur, Heap.blk, ht3]
        exact mapO_smp10 _ _ c.l
      · simp [Agrees, upd_at, ev_cons]
      · simp only [Heap.freeze, List.mapIdx_cons, List.mapIdx_nil, List.set_cons_succ, List.set_cons_zero, List.length_cons, List.length_nil, Nat.zero_add, List.take_succ_cons, List.take_zero, hge, hse, hts, List.map_append, List.map_cons, List.map_nil]
        rfl
      · rfl
    · have f1 : (m : Int) < (c.l.length : Int) := by omega
      have f0 : (0 : Int) ≤ (m : Int) := by omega
      have hml : m < c.l.length := by omega
      have hgm := getD_smps c.l m
      have htm := smp_take c.l m hml
      have htl2 : (c.l.take m).length = m := by rw [List.length_take]; omega
      generalize hy : c.l.getD m default = y at *
      simp only [f0, f1, hgm, Cmp.enc, Smp.enc, htl2, go_sem, wpR_gcall, reduceCtorEq, reduceIte, Nat.reduceEqDiff, Nat.reduceAdd, Nat.reduceSub, Nat.reduceMul, Nat.reduceLT, Nat.reduceLeDiff, Nat.reduceBEq, Int.reduceEq, Int.reduceLT, Int.reduceLE, Int.reduceAdd, Int.reduceSub, Int.reduceNeg, Int.reduceToNat]
      have htt : (c.l.take m).take m = c.l.take m := List.take_of_length_le (by omega)
      refine ⟨⟨by omega, by omega, by omega⟩, by omega, ⟨m + 1, clk2 + 2, clk2 + 3⟩, by dsimp only; omega, by dsimp only; omega, by dsimp only; omega, ⟨⟨rfl, rfl⟩, rfl, ?_⟩, rfl⟩
      dsimp only
      rw [htt, htm, List.map_append]; rfl
def sumGiven8 : Sum Try.prog := ⟨17, fun args => args = [.agg (selE (dSel (args.getD 0 .any)))] ∧ okC (dSel (args.getD 0 .any)), fun args => .agg (selE (dSel (args.getD 0 .any))), fun args h => by
  have := given8_ok (dSel (args.getD 0 .any)) h.2; rwa [← h.1] at this, false⟩
theorem sumGiven8_f : sumGiven8.f = 17 := rfl
theorem sumGiven8_D (args : List V) : sumGiven8.D args = (args = [.agg (selE (dSel (args.getD 0 .any)))] ∧ okC (dSel (args.getD 0 .any))) := rfl
theorem sumGiven8_flat : sumGiven8.flat = false := rfl
theorem sumGiven8_r (args : List V) : sumGiven8.r args = .agg (selE (dSel (args.getD 0 .any))) := rfl
attribute [go_sem] sumGiven8_f sumGiven8_D sumGiven8_flat sumGiven8_r
theorem sel_take (l : List Sel) (n : Nat) (h : n < l.length) : l.take (n + 1) = l.take n ++ [l.getD n []] := by
  rw [List.take_add_one, List.getD_eq_getElem?_getD, List.getElem?_eq_getElem h]; rfl
theorem mapO_sel11 (S : Nat → Bool) (h : Heap) : ∀ l : List Sel, mapO (mapO (res S h 11)) (l.map selE) = some (l.map selE)
  | [] => rfl
  | s :: l => by simp only [List.map_cons, mapO, mapO_sel11 S h l, selE]; rfl
theorem all8_ok (l : List Sel) (hl : okM l) : PCall Try.prog 13 [sels l] (sels l) := by
  refine PCall.of (Orc.cons sumGiven8 (Orc.nil _)) c13_ok (by simp [c13]) fun w0 own0 => ?_
  obtain ⟨h1, h2⟩ := hl
  simp only [c13, sels, go_sem, wpR_gcall, reduceCtorEq, reduceIte, Nat.reduceEqDiff, Nat.reduceAdd, Nat.reduceSub, Nat.reduceMul, Nat.reduceLT, Nat.reduceLeDiff, Nat.reduceBEq, Int.reduceEq, Int.reduceLT, Int.reduceLE, Int.reduceAdd, Int.reduceSub, Int.reduceNeg, Int.reduceToNat]
  refine SemC.lp (α := GvS) (fun a => [(3, .ref 0 a.ver 0 a.n), (6, .slc 1 (l.map selE)), (7, vi l.length), (8, vi a.n)])
    (fun a => ⟨[⟨a.ver, 1, (l.take a.n).map selE, false, [vnil]⟩], a.clk⟩)
    (fun a => a.n ≤ l.length) (fun a => l.length - a.n) ⟨0, 0, 1⟩ (Nat.zero_le _) (St.nil 3 1 [vnil] (by simp [upd_at]) (St.cut ?_ ?_ ?_)) fun a ha => ?_
  · simp [Agrees, upd_at, initE_at]
  · simp [Heap.alloc]
  · rfl
  obtain ⟨n, ver, clk⟩ := a
  simp only at ha
  by_cases he : n = l.length
  · subst he
    simp only [Int.lt_irrefl, List.take_length, Nat.le_refl, go_sem, wpR_gcall, reduceCtorEq, reduceIte, Nat.reduceEqDiff, Nat.reduceAdd, Nat.reduceSub, Nat.reduceMul, Nat.reduceLT, Nat.reduceLeDiff, Nat.reduceBEq, Int.reduceEq, Int.reduceLT, Int.reduceLE, Int.reduceAdd, Int.reduceSub, Int.reduceNeg, Int.reduceToNat]
    rw [mapO_sel11]; rfl
  · have e1 : (n : Int) < (l.length : Int) := by omega
    have e0 : (0 : Int) ≤ (n : Int) := by omega
    have hlt : n < l.length := by omega
    have hg := getD_sels l n [.c (.slice none 0 0)] hlt
    have hcl := h2 n hlt
    have hts := sel_take l n hlt
    have htl : (l.take n).length = n := by rw [List.length_take]; omega
    generalize hx : l.getD n [] = s at *
    simp only [e0, e1, hg, selE, dSel_mk, hcl, htl, go_sem, wpR_gcall, reduceCtorEq, reduceIte, Nat.reduceEqDiff, Nat.reduceAdd, Nat.reduceSub, Nat.reduceMul, Nat.reduceLT, Nat.reduceLeDiff, Nat.reduceBEq, Int.reduceEq, Int.reduceLT, Int.reduceLE, Int.reduceAdd, Int.reduceSub, Int.reduceNeg, Int.reduceToNat]
    have htt : (l.take n).take n = l.take n := List.take_of_length_le (by omega)
    refine ⟨⟨by omega, by omega, by omega⟩, by omega, ⟨n + 1, clk + 2, clk + 3⟩, by dsimp only; omega, by dsimp only; omega, ⟨⟨rfl, rfl⟩, by dsimp only; omega⟩, ⟨rfl, ?_⟩, rfl⟩
    dsimp only
    rw [htt, hts, List.map_append]; rfl
def sumAll8 : Sum Try.prog := ⟨13, fun args => args = [sels (dSels (args.getD 0 .any))] ∧ okM (dSels (args.getD 0 .any)), fun args => sels (dSels (args.getD 0 .any)), fun args h => by
  have := all8_ok (dSels (args.getD 0 .any)) h.2; rwa [← h.1] at this, false⟩
theorem sumAll8_f : sumAll8.f = 13 := rfl
theorem sumAll8_D (args : List V) : sumAll8.D args = (args = [sels (dSels (args.getD 0 .any))] ∧ okM (dSels (args.getD 0 .any))) := rfl
theorem sumAll8_flat : sumAll8.flat = false := rfl
theorem sumAll8_r (args : List V) : sumAll8.r args = sels (dSels (args.getD 0 .any)) := rfl
attribute [go_sem] sumAll8_f sumAll8_D sumAll8_flat sumAll8_r
structure SaS where
  n : Nat
  clk : Nat
def c12a : C := (c12.body.tl.tl.hd.tl.inn.inn).tl.tl.hd.inn.tl.tl.tl.inn.inn
def c12b : C := (c12a /- 12 -/).tl.tl.hd.inn.tl.tl.tl.tl.inn.inn
theorem same8_in (a b : List Sel) (k m n : Nat) (c d : Cmp) (hl : c.l.length = d.l.length) (hc : c.l.length ≤ 1000000) (w0 : World) (own0 : Sx.Own) (Q : Post) (e : Nat → V) (h : Heap) (v1 v2 clk : Nat)
    (hh : h = ⟨[⟨v1, 2, [[vi c.link, .slc 3 (c.l.map Smp.enc)]], false, []⟩, ⟨v2, 2, [[vi d.link, .slc 3 (d.l.map Smp.enc)]], false, []⟩], clk⟩)
    (t0 : e 0 = .slc 1 (a.map selE)) (t1 : e 1 = .slc 1 (b.map selE)) (t16 : e 16 = vi b.length) (t17 : e 17 = vi k) (t5 : e 5 = vi k) (t38 : e 38 = vi n) (t39 : e 39 = vi m) (t7 : e 7 = .ptr 0 v1 0 0) (t8 : e 8 = .ptr 1 v2 0 0) (t74 : e 74 = vi c.l.length) (t75 : e 75 = vi (0 : Nat))
    (hdiff : ¬ c.l = d.l → ∀ (e' : Nat → V) (h' : Heap), e' 4 = vb false → Q .ret e' h')
    (hsame : c.l = d.l → ∀ (e' : Nat → V) (clk' : Nat), e' 0 = .slc 1 (a.map selE) → e' 1 = .slc 1 (b.map selE) → e' 16 = vi b.length → e' 17 = vi k → e' 5 = vi k → e' 38 = vi n → e' 39 = vi m → Q (.exit 4) e' ⟨[⟨v1, 2, [[vi c.link, .slc 3 (c.l.map Smp.enc)]], false, []⟩, ⟨v2, 2, [[vi d.link, .slc 3 (d.l.map Smp.enc)]], false, []⟩], clk'⟩) :
    SemC ⟨Try.prog, Orc.nil _, 92, w0, own0⟩ (.loop (c12b /- 12 -/)) Q e h := by
  subst hh
  refine SemC.lp (α := SaS) (fun s => [(0, .slc 1 (a.map selE)), (1, .slc 1 (b.map selE)), (16, vi b.length), (17, vi k), (5, vi k), (38, vi n), (39, vi m), (7, .ptr 0 v1 0 0), (8, .ptr 1 v2 0 0), (74, vi c.l.length), (75, vi s.n)])
    (fun s => ⟨[⟨v1, 2, [[vi c.link, .slc 3 (c.l.map Smp.enc)]], false, []⟩, ⟨v2, 2, [[vi d.link, .slc 3 (d.l.map Smp.enc)]], false, []⟩], s.clk⟩)
    (fun s => s.n ≤ c.l.length ∧ ((c.l = d.l) ↔ (c.l.drop s.n = d.l.drop s.n))) (fun s => c.l.length - s.n) ⟨0, clk⟩ ⟨Nat.zero_le _, Iff.rfl⟩ (St.cut ⟨t0, t1, t16, t17, t5, t38, t39, t7, t8, t74, t75, trivial⟩ rfl rfl) fun s hk => ?_
  obtain ⟨j, clk3⟩ := s
  simp only at hk
  obtain ⟨j1, j3⟩ := hk
  by_cases hjl : j = c.l.length
  · subst hjl
    rw [List.drop_length, List.drop_eq_nil_of_le (by omega)] at j3
    simp only [c12b, c12a, c12, C.tl, C.hd, C.inn, Int.lt_irrefl, go_sem, wpR_gcall, reduceCtorEq, reduceIte, Nat.reduceEqDiff, Nat.reduceAdd, Nat.reduceSub, Nat.reduceMul, Nat.reduceLT, Nat.reduceLeDiff, Nat.reduceBEq, Int.reduceEq, Int.reduceLT, Int.reduceLE, Int.reduceAdd, Int.reduceSub, Int.reduceNeg, Int.reduceToNat]
    exact hsame (j3.2 rfl) _ _ (by simp [upd_at, ev_cons]) (by simp [upd_at, ev_cons]) (by simp [upd_at, ev_cons]) (by simp [upd_at, ev_cons]) (by simp [upd_at, ev_cons]) (by simp [upd_at, ev_cons]) (by simp [upd_at, ev_cons])
  · have g1 : (j : Int) < (c.l.length : Int) := by omega
    have g1' : (j : Int) < (d.l.length : Int) := by omega
    have g0 : (0 : Int) ≤ (j : Int) := by omega
    rw [drop_g c.l j default (by omega), drop_g d.l j default (by omega), List.cons.injEq] at j3
    have hge := getD_smps c.l j
    have hgf := getD_smps d.l j
    generalize hu : c.l.getD j default = u at *
    generalize hv : d.l.getD j default = v at *
    simp only [c12b, c12a, c12, C.tl, C.hd, C.inn, g0, g1, g1', hge, hgf, Smp.enc, go_sem, wpR_gcall, reduceCtorEq, reduceIte, Nat.reduceEqDiff, Nat.reduceAdd, Nat.reduceSub, Nat.reduceMul, Nat.reduceLT, Nat.reduceLeDiff, Nat.reduceBEq, Int.reduceEq, Int.reduceLT, Int.reduceLE, Int.reduceAdd, Int.reduceSub, Int.reduceNeg, Int.reduceToNat]
    refine ⟨rfl, fun h => hdiff (fun hh => ?_) _ _ (by simp [upd_at]), fun h => ⟨by omega, ⟨j + 1, clk3⟩, ⟨by dsimp only; omega, j3.trans ⟨fun hh => hh.2, fun hh => ⟨(smp_eq u v).2 h, hh⟩⟩⟩, by dsimp only; omega, by dsimp only; omega, rfl⟩⟩
    have := (smp_eq u v).1 (j3.1 hh).1
    rcases h with h | h | h
    · exact h this.1
    · exact h this.2.1
    · exact h this.2.2
theorem same8_ok (a b : List Sel) (ha : okM a) (hb : okM b) : PCall Try.prog 12 [sels a, sels b] (vb (decide (a = b))) := by
  refine PCall.of (Orc.nil _) c12_ok (by simp [c12]) fun w0 own0 => ?_
  obtain ⟨ha1, ha2⟩ := ha
  obtain ⟨hb1, hb2⟩ := hb
  by_cases hl : (a.length : Int) = (b.length : Int)
  · simp only [c12, sels, hl, go_sem, wpR_gcall, reduceCtorEq, reduceIte, Nat.reduceEqDiff, Nat.reduceAdd, Nat.reduceSub, Nat.reduceMul, Nat.reduceLT, Nat.reduceLeDiff, Nat.reduceBEq, Int.reduceEq, Int.reduceLT, Int.reduceLE, Int.reduceAdd, Int.reduceSub, Int.reduceNeg, Int.reduceToNat]
    have hl' : a.length = b.length := by omega
    refine SemC.lp (α := SaS) (fun s => [(0, .slc 1 (a.map selE)), (1, .slc 1 (b.map selE)), (16, vi b.length), (17, vi s.n)]) (fun s => ⟨[], s.clk⟩)
      (fun s => s.n ≤ a.length ∧ ((a = b) ↔ (a.drop s.n = b.drop s.n))) (fun s => a.length - s.n) ⟨0, 0⟩ ⟨Nat.zero_le _, Iff.rfl⟩ (St.cut (by simp [Agrees, upd_at, initE_at]) rfl rfl) fun s hk => ?_
    obtain ⟨k, clk⟩ := s
    simp only at hk
    obtain ⟨h1, h3⟩ := hk
    by_cases hkl : k = a.length
    · subst hkl
      rw [List.drop_length, List.drop_eq_nil_of_le (by omega)] at h3
      have e := decide_eq_true (h3.2 rfl)
      simp only [Int.lt_irrefl, hl, e, go_sem, wpR_gcall, reduceCtorEq, reduceIte, Nat.reduceEqDiff, Nat.reduceAdd, Nat.reduceSub, Nat.reduceMul, Nat.reduceLT, Nat.reduceLeDiff, Nat.reduceBEq, Int.reduceEq, Int.reduceLT, Int.reduceLE, Int.reduceAdd, Int.reduceSub, Int.reduceNeg, Int.reduceToNat]
    · have e1 : (k : Int) < (b.length : Int) := by omega
      have e1' : (k : Int) < (a.length : Int) := by omega
      have e0 : (0 : Int) ≤ (k : Int) := by omega
      rw [drop_g a k [] (by omega), drop_g b k [] (by omega), List.cons.injEq] at h3
      have hga := getD_sels a k [.c (.slice none 0 0)] (by omega)
      have hgb := getD_sels b k [.c (.slice none 0 0)] (by omega)
      obtain ⟨la1, la2⟩ := ha2 k (by omega)
      obtain ⟨lb1, lb2⟩ := hb2 k (by omega)
      generalize hx : a.getD k [] = x at *
      generalize hy : b.getD k [] = y at *
      by_cases hl2 : (x.length : Int) = (y.length : Int)
      · simp only [e0, e1, e1', hga, hgb, selE, hl2, go_sem, wpR_gcall, reduceCtorEq, reduceIte, Nat.reduceEqDiff, Nat.reduceAdd, Nat.reduceSub, Nat.reduceMul, Nat.reduceLT, Nat.reduceLeDiff, Nat.reduceBEq, Int.reduceEq, Int.reduceLT, Int.reduceLE, Int.reduceAdd, Int.reduceSub, Int.reduceNeg, Int.reduceToNat]
        have hl2' : x.length = y.length := by omega
        refine SemC.lp (α := SaS) (fun s => [(0, .slc 1 (a.map selE)), (1, .slc 1 (b.map selE)), (16, vi b.length), (17, vi k), (5, vi k), (38, vi y.length), (39, vi s.n)]) (fun s => ⟨[], s.clk⟩)
          (fun s => s.n ≤ x.length ∧ ((x = y) ↔ (x.drop s.n = y.drop s.n))) (fun s => x.length - s.n) ⟨0, clk⟩ ⟨Nat.zero_le _, Iff.rfl⟩ (St.cut (by simp [Agrees, upd_at, ev_cons]) rfl rfl) fun s hk => ?_
        obtain ⟨m, clk2⟩ := s
        simp only at hk
        obtain ⟨i1, i3⟩ := hk
        by_cases hml : m = x.length
        · subst hml
          rw [List.drop_length, List.drop_eq_nil_of_le (by omega)] at i3
          have e : x = y := i3.2 rfl
          simp only [Int.lt_irrefl, hl2, go_sem, wpR_gcall, reduceCtorEq, reduceIte, Nat.reduceEqDiff, Nat.reduceAdd, Nat.reduceSub, Nat.reduceMul, Nat.reduceLT, Nat.reduceLeDiff, Nat.reduceBEq, Int.reduceEq, Int.reduceLT, Int.reduceLE, Int.reduceAdd, Int.reduceSub, Int.reduceNeg, Int.reduceToNat]
          exact ⟨by omega, ⟨k + 1, clk2⟩, ⟨by dsimp only; omega, h3.trans ⟨fun hh => hh.2, fun hh => ⟨e, hh⟩⟩⟩, by dsimp only; omega, by dsimp only; omega, rfl⟩
        · have f1 : (m : Int) < (y.length : Int) := by omega
          have f1' : (m : Int) < (x.length : Int) := by omega
          have f0 : (0 : Int) ≤ (m : Int) := by omega
          rw [drop_g x m default (by omega), drop_g y m default (by omega), List.cons.injEq] at i3
          have hgc := getD_cmps x m [.c (.int .i64 0), .c (.slice none 0 0)] (by omega)
          have hgd := getD_cmps y m [.c (.int .i64 0), .c (.slice none 0 0)] (by omega)
          have lc := la2 m (by omega)
          have ld := lb2 m (by omega)
          generalize hc : x.getD m default = c at *
          generalize hd : y.getD m default = d at *
          simp only [e0, e1, e1', hga, hgb, selE, f0, f1, f1', hgc, hgd, Cmp.enc, go_sem, wpR_gcall, reduceCtorEq, reduceIte, Nat.reduceEqDiff, Nat.reduceAdd, Nat.reduceSub, Nat.reduceMul, Nat.reduceLT, Nat.reduceLeDiff, Nat.reduceBEq, Int.reduceEq, Int.reduceLT, Int.reduceLE, Int.reduceAdd, Int.reduceSub, Int.reduceNeg, Int.reduceToNat, wpC_seq_xreg, wpC_xreg, wpXR_nil, wpXR_own, wpXR_flu, xeOK, xe, argTops, openArgs, Orc.ppre_cons, Orc.pr_cons, Orc.ppre_econs, Orc.pr_econs, Orc.ppre_fcons, Orc.pr_fcons, Orc.ppre_gcons, Orc.pr_gcons, List.head?_cons, List.headD_cons, XE.val, XE.heap, efO, shutArgs, xfoot, footO, V.tops, V.top1, clashOne, noClash, Orc.flat_fcons, Orc.pre_fcons, Orc.v_fcons, Orc.hp_fcons, Orc.qpre_fcons, Orc.qv_fcons, Orc.fpre_fcons, Orc.fes_fcons, Orc.flat_gcons, Orc.pre_gcons, Orc.v_gcons, Orc.hp_gcons, Orc.qpre_gcons, Orc.qv_gcons, Orc.fpre_gcons, Orc.fes_gcons, GSum.pre, GSum.v, GSum.hp, Orc.fpre_cons, Orc.fes_cons, Orc.fpre_econs, Orc.fes_econs, FSum.pre, FSum.v, FSum.hp, fres, O.calls, List.flatMap_cons, List.flatMap_nil, List.contains_cons, List.contains_nil, Bool.not_true, Bool.not_false, Heap.freeze, List.mapIdx_cons, List.mapIdx_nil, List.elem_cons, List.elem_nil, fluP, fluV, evF, bne_iff_ne, ne_eq, Option.some.injEq]
          refine ⟨by omega, fun h => (decide_eq_false fun hh => ?_).symm, fun ⟨hlk, hl3⟩ => ?_⟩
          · have hcd := (i3.1 (h3.1 hh).1).1
            rw [hcd] at h
            rcases h with h | h <;> exact h rfl
          have hl3' : c.l.length = d.l.length := by omega
          refine same8_in a b k m y.length c d hl3' lc w0 own0 _ _ _ clk2 (clk2 + 1) _ rfl (by simp [upd_at, ev_cons]) (by simp [upd_at, ev_cons]) (by simp [upd_at, ev_cons]) (by simp [upd_at, ev_cons]) (by simp [upd_at, ev_cons]) (by simp [upd_at, ev_cons]) (by simp [upd_at, ev_cons]) (by simp [upd_at, ev_cons]) (by simp [upd_at, ev_cons]) (by simp [upd_at, ev_cons]) (by simp [upd_at, ev_cons])
            (fun hb e' h' t4 => ?_) (fun hb e' clk' t0 t1 t16 t17 t5 t38 t39 => ?_)
          · have e : decide (a = b) = false := decide_eq_false fun hh => hb ((cmp_eq c d).1 (i3.1 (h3.1 hh).1).1).2
            simp only [t4, e, go_sem, wpR_gcall, reduceCtorEq, reduceIte, Nat.reduceEqDiff, Nat.reduceAdd, Nat.reduceSub, Nat.reduceMul, Nat.reduceLT, Nat.reduceLeDiff, Nat.reduceBEq, Int.reduceEq, Int.reduceLT, Int.reduceLE, Int.reduceAdd, Int.reduceSub, Int.reduceNeg, Int.reduceToNat]
          · have e : c = d := (cmp_eq c d).2 ⟨hlk, hb⟩
            simp only [t0, t1, t16, t17, t5, t38, t39, go_sem, wpR_gcall, reduceCtorEq, reduceIte, Nat.reduceEqDiff, Nat.reduceAdd, Nat.reduceSub, Nat.reduceMul, Nat.reduceLT, Nat.reduceLeDiff, Nat.reduceBEq, Int.reduceEq, Int.reduceLT, Int.reduceLE, Int.reduceAdd, Int.reduceSub, Int.reduceNeg, Int.reduceToNat]
            exact ⟨by omega, ⟨m + 1, clk'⟩, ⟨by dsimp only; omega, i3.trans ⟨fun hh => hh.2, fun hh => ⟨e, hh⟩⟩⟩, by dsimp only; omega, by dsimp only; omega, rfl⟩
      · have hxy : ¬ x = y := fun h => by rw [h] at hl2; exact hl2 rfl
        have e2 : decide (a = b) = false := decide_eq_false fun hh => hxy (h3.1 hh).1
        simp only [e0, e1, e1', hga, hgb, selE, hl2, e2, go_sem, wpR_gcall, reduceCtorEq, reduceIte, Nat.reduceEqDiff, Nat.reduceAdd, Nat.reduceSub, Nat.reduceMul, Nat.reduceLT, Nat.reduceLeDiff, Nat.reduceBEq, Int.reduceEq, Int.reduceLT, Int.reduceLE, Int.reduceAdd, Int.reduceSub, Int.reduceNeg, Int.reduceToNat]
  · have e : decide (a = b) = false := by rw [decide_eq_false_iff_not]; intro h; rw [h] at hl; exact hl rfl
    simp only [c12, sels, hl, e, go_sem, wpR_gcall, reduceCtorEq, reduceIte, Nat.reduceEqDiff, Nat.reduceAdd, Nat.reduceSub, Nat.reduceMul, Nat.reduceLT, Nat.reduceLeDiff, Nat.reduceBEq, Int.reduceEq, Int.reduceLT, Int.reduceLE, Int.reduceAdd, Int.reduceSub, Int.reduceNeg, Int.reduceToNat]
def sumSame8 : Sum Try.prog := ⟨12, fun args => args = [sels (dSels (args.getD 0 .any)), sels (dSels (args.getD 1 .any))] ∧ okM (dSels (args.getD 0 .any)) ∧ okM (dSels (args.getD 1 .any)), fun args => vb (decide ((dSels (args.getD 0 .any)) = (dSels (args.getD 1 .any)))), fun args h => by
  have := same8_ok (dSels (args.getD 0 .any)) (dSels (args.getD 1 .any)) h.2.1 h.2.2; rwa [← h.1] at this, true⟩
theorem sumSame8_f : sumSame8.f = 12 := rfl
theorem sumSame8_D (args : List V) : sumSame8.D args = (args = [sels (dSels (args.getD 0 .any)), sels (dSels (args.getD 1 .any))] ∧ okM (dSels (args.getD 0 .any)) ∧ okM (dSels (args.getD 1 .any))) := rfl
theorem sumSame8_flat : sumSame8.flat = true := rfl
theorem sumSame8_r (args : List V) : sumSame8.r args = vb (decide ((dSels (args.getD 0 .any)) = (dSels (args.getD 1 .any)))) := rfl
attribute [go_sem] sumSame8_f sumSame8_D sumSame8_flat sumSame8_r
theorem few8_okM {l : List Sel} (h : few8 l = true) : okM l := by
  unfold few8 at h; rw [decide_eq_true_eq] at h
  exact ⟨by have := h.1; omega, fun i hi => fewS_okC (h.2 i hi)⟩
end Go.Proofs.Ytlcblcjpebabkaa
