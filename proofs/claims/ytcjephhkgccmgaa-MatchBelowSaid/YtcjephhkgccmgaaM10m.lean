/- Layer 10, by the document: which nodes a selector is about. -/
import Derived.Test.YtcjephhkgccmgaaM10l
namespace Go.Proofs.Ytcjephhkgccmgaa
open Go.Sx
set_option linter.unusedSimpArgs false
set_option maxHeartbeats 4000000
set_option maxRecDepth 20000

theorem goU_congr {l : List Node} (hd : docP l) {p q : Nat → Bool} (h : ∀ j, j < l.length → p j = q j) (c : Bool) : ∀ (f : Nat) (a : Int), a < l.length → goU l p c f a = goU l q c f a
  | 0, _, _ => rfl
  | f + 1, a, ha => by
    unfold goU
    by_cases h0 : a < 0
    · rw [if_pos h0, if_pos h0]
    · have hj : a.toNat < l.length := by omega
      obtain ⟨_, b1, b2⟩ := hd.2 a.toNat hj
      rw [if_neg h0, if_neg h0, h _ hj, goU_congr hd h c f (par l a.toNat) (by omega)]
def rowU (l : List Node) (s : Sel) (i : Nat) : List Bool := (List.range l.length).map (upN l s i)
theorem rowU_len (l : List Node) (s : Sel) (i : Nat) : (rowU l s i).length = l.length := by simp [rowU]
theorem rowU_get (l : List Node) (s : Sel) (i k : Nat) (h : k < l.length) : (rowU l s i).getD k false = upN l s i k := by
  simp [rowU, List.getD_eq_getElem?_getD, h]
theorem rowU_take (l : List Node) (s : Sel) (i k : Nat) (h : k < l.length) : (rowU l s i).take (k + 1) = (rowU l s i).take k ++ [upN l s i k] := by
  rw [List.take_add_one, ← rowU_get l s i k h, List.getD_eq_getElem?_getD, List.getElem?_eq_getElem (by rw [rowU_len]; exact h)]; rfl
theorem upN_row {l : List Node} (hd : docP l) (s : Sel) (i k : Nat) (hk : k < l.length) : upN l s (i + 1) k = (goU l (fun j => (rowU l s i).getD j false) (decide ((s.getD (i + 1) default).link = 2)) (k + 1) (par l k) && oneB (l.getD k .zero) (s.getD (i + 1) default)) := by
  obtain ⟨_, b1, b2⟩ := hd.2 k hk
  rw [goU_congr hd (q := upN l s i) (fun j hj => rowU_get l s i j hj) _ (k + 1) (par l k) (by omega), Bool.and_comm]
  rfl
theorem pick_or (x c y : Bool) : (if x = true then true else if c = true then false else y) = (x || (bif c then false else y)) := by cases x <;> cases c <;> rfl
def c16o : C := c16.body.tl.tl.hd.tl.inn.inn
def c16m : C := c16o.tl.hd.inn.tl.hd.tl.inn.inn
def c16n : C := c16m.tl.hd.inn.tl.tl.hd.inn.inn
structure UpS where
  b : Bool
  a : Int
theorem all_in (l : List Node) (hd : docP l) (s : Sel) (hs : okC s) (i k : Nat) (hi : i < s.length) (hi0 : 0 < i) (hk : k < l.length) (row : List Bool) (hr : row.length = l.length) (w0 : World) (own0 : Sx.Own) (Q : Post) (e : Nat → V)
    (v7 ver clk : Nat) (es : List (List V))
    (t0 : e 0 = nodes l) (t3 : e 3 = .ptr 0 0 0 0) (t5 : e 5 = bools row) (t6 : e 6 = vi i) (t7 : e 7 = .ref 1 v7 0 k) (t8 : e 8 = vi k) (t9 : e 9 = vb false) (t10 : e 10 = vi (par l k))
    (hq : ∀ e' : Nat → V, e' 0 = nodes l → e' 3 = .ptr 0 0 0 0 → e' 5 = bools row → e' 6 = vi i → e' 7 = .ref 1 v7 0 k → e' 8 = vi k → e' 9 = vb (goU l (fun j => row.getD j false) (decide ((s.getD i default).link = 2)) (k + 1) (par l k)) →
      Q (.exit 4) e' ⟨[⟨0, 1, [[.slc 2 (s.map Cmp.enc)]], true, []⟩, ⟨ver, 1, es, false, [vb false]⟩], clk⟩) :
    SemC ⟨Try.prog, (Orc.cons sumOneR (Orc.nil _)), 74, w0, own0⟩ (.loop c16n) Q e ⟨[⟨0, 1, [[.slc 2 (s.map Cmp.enc)]], true, []⟩, ⟨ver, 1, es, false, [vb false]⟩], clk⟩ := by
  obtain ⟨hn, hp1, hp2⟩ := hd.2 k hk
  have hl := hd.1
  obtain ⟨gg, hgg⟩ : ∃ gg : Nat → Int → Bool, ∀ f a, goU l (fun j => row.getD j false) (decide ((s.getD i default).link = 2)) f a = gg f a := ⟨_, fun _ _ => rfl⟩
  have hg0 : ∀ f a, a < 0 → gg f a = false := fun f a h => by
    rw [← hgg]; cases f with
    | zero => rfl
    | succ f => unfold goU; rw [if_pos h]
  have hg1 : ∀ (f j : Nat), gg (f + 1) j = (row.getD j false || (if (s.getD i default).link = 2 then false else gg f (par l j))) := fun f j => by
    rw [← hgg, ← hgg]; conv => lhs; unfold goU
    rw [if_neg (by omega), Int.toNat_natCast]
    rw [pick_or]
    by_cases h2 : (s.getD i default).link = 2
    · rw [if_pos h2, decide_eq_true h2]; rfl
    · rw [if_neg h2, decide_eq_false h2]; rfl
  simp only [hgg] at hq
  clear hgg
  refine SemC.lp (α := UpS) (fun a => [(0, nodes l), (3, .ptr 0 0 0 0), (5, bools row), (6, vi i), (7, .ref 1 v7 0 k), (8, vi k), (9, vb a.b), (10, vi a.a)])
    (fun _ => ⟨[⟨0, 1, [[.slc 2 (s.map Cmp.enc)]], true, []⟩, ⟨ver, 1, es, false, [vb false]⟩], clk⟩)
    (fun a => -1 ≤ a.a ∧ a.a < l.length ∧ ∃ f : Nat, a.a < f ∧ gg (k + 1) (par l k) = (a.b || gg f a.a)) (fun a => (a.a + 1).toNat) ⟨false, par l k⟩
    ⟨hp1, by dsimp only; omega, k + 1, by dsimp only; omega, by simp⟩ (St.mk ⟨t0, t3, t5, t6, t7, t8, t9, t10, trivial⟩) fun a ha => ?_
  obtain ⟨b, a⟩ := a
  simp only at ha
  obtain ⟨a1, a2, f, a3, a4⟩ := ha
  by_cases h0 : a < 0
  · have e1 : ¬ (0 : Int) ≤ a := by omega
    rw [hg0 f a h0, Bool.or_false] at a4
    simp only [c16n, c16m, c16o, c16, C.tl, C.hd, C.inn, nodes, bools, e1, sumOneR_f, sumOneR_D, sumOneR_flat, sumOneR_r, go_sem, wpR_gcall, reduceCtorEq, reduceIte, Nat.reduceEqDiff, Nat.reduceAdd, Nat.reduceSub, Nat.reduceMul, Nat.reduceLT, Nat.reduceLeDiff, Nat.reduceBEq, Int.reduceEq, Int.reduceLT, Int.reduceLE, Int.reduceAdd, Int.reduceSub, Int.reduceNeg, Int.reduceToNat]
    exact hq _ (by simp [upd_at, ev_cons, nodes]) (by simp [upd_at, ev_cons]) (by simp [upd_at, ev_cons, bools]) (by simp [upd_at, ev_cons]) (by simp [upd_at, ev_cons]) (by simp [upd_at, ev_cons]) (by simp [upd_at, ev_cons, a4])
  · obtain ⟨j, rfl⟩ : ∃ j : Nat, a = j := ⟨a.toNat, by omega⟩
    have hj : j < l.length := by omega
    obtain ⟨f, rfl⟩ : ∃ g, f = g + 1 := ⟨f - 1, by omega⟩
    rw [hg1 f j] at a4
    obtain ⟨_, b1, b2⟩ := hd.2 j hj
    have e0 : (0 : Int) ≤ (j : Int) := by omega
    have e1 : (j : Int) < (l.length : Int) := by omega
    have e2 : (j : Int) < (row.length : Int) := by omega
    have e3 : (0 : Int) < (i : Int) := by omega
    have e4 : (i : Int) < (s.length : Int) := by omega
    have e5 : (0 : Int) ≤ (i : Int) := by omega
    have hgj := getD_nodes l j [.c (.int .i64 0), .c (.string ⟨#[]⟩), .c (.string ⟨#[]⟩), .c (.slice none 0 0), .c (.slice none 0 0), .c (.string ⟨#[]⟩)] hj
    have hgc := getD_cmps s i [.c (.int .i64 0), .c (.slice none 0 0)] hi
    have hgr := getD_bools row j
    generalize row.getD j false = x at *
    by_cases hc : (s.getD i default).link = 2
    · rw [if_pos hc, Bool.or_false] at a4
      cases b with
      | true =>
        simp only [c16n, c16m, c16o, c16, C.tl, C.hd, C.inn, nodes, bools, e0, e1, e2, e3, e4, e5, hgc, hc, Cmp.enc, hgr, sumOneR_f, sumOneR_D, sumOneR_flat, sumOneR_r, go_sem, wpR_gcall, reduceCtorEq, reduceIte, Nat.reduceEqDiff, Nat.reduceAdd, Nat.reduceSub, Nat.reduceMul, Nat.reduceLT, Nat.reduceLeDiff, Nat.reduceBEq, Int.reduceEq, Int.reduceLT, Int.reduceLE, Int.reduceAdd, Int.reduceSub, Int.reduceNeg, Int.reduceToNat]
        exact hq _ (by simp [upd_at, ev_cons, nodes]) (by simp [upd_at, ev_cons]) (by simp [upd_at, ev_cons, bools]) (by simp [upd_at, ev_cons]) (by simp [upd_at, ev_cons]) (by simp [upd_at, ev_cons]) (by rw [a4]; simp [upd_at, ev_cons])
      | false =>
        simp only [c16n, c16m, c16o, c16, C.tl, C.hd, C.inn, nodes, bools, e0, e1, e2, e3, e4, e5, hgc, hc, Cmp.enc, hgr, sumOneR_f, sumOneR_D, sumOneR_flat, sumOneR_r, go_sem, wpR_gcall, reduceCtorEq, reduceIte, Nat.reduceEqDiff, Nat.reduceAdd, Nat.reduceSub, Nat.reduceMul, Nat.reduceLT, Nat.reduceLeDiff, Nat.reduceBEq, Int.reduceEq, Int.reduceLT, Int.reduceLE, Int.reduceAdd, Int.reduceSub, Int.reduceNeg, Int.reduceToNat]
        exact hq _ (by simp [upd_at, ev_cons, nodes]) (by simp [upd_at, ev_cons]) (by simp [upd_at, ev_cons, bools]) (by simp [upd_at, ev_cons]) (by simp [upd_at, ev_cons]) (by simp [upd_at, ev_cons]) (by rw [a4]; simp [upd_at, ev_cons])
    · rw [if_neg hc] at a4
      cases b with
      | true =>
        simp only [c16n, c16m, c16o, c16, C.tl, C.hd, C.inn, nodes, bools, e0, e1, e2, e3, e4, e5, hgc, hgj, hc, Cmp.enc, Node.enc, hgr, sumOneR_f, sumOneR_D, sumOneR_flat, sumOneR_r, go_sem, wpR_gcall, reduceCtorEq, reduceIte, Nat.reduceEqDiff, Nat.reduceAdd, Nat.reduceSub, Nat.reduceMul, Nat.reduceLT, Nat.reduceLeDiff, Nat.reduceBEq, Int.reduceEq, Int.reduceLT, Int.reduceLE, Int.reduceAdd, Int.reduceSub, Int.reduceNeg, Int.reduceToNat]
        exact ⟨⟨true, par l j⟩, ⟨b1, by dsimp only; omega, f, by dsimp only; omega, by rw [a4]; simp⟩, by dsimp only; omega, rfl, rfl⟩
      | false =>
        simp only [c16n, c16m, c16o, c16, C.tl, C.hd, C.inn, nodes, bools, e0, e1, e2, e3, e4, e5, hgc, hgj, hc, Cmp.enc, Node.enc, hgr, sumOneR_f, sumOneR_D, sumOneR_flat, sumOneR_r, go_sem, wpR_gcall, reduceCtorEq, reduceIte, Nat.reduceEqDiff, Nat.reduceAdd, Nat.reduceSub, Nat.reduceMul, Nat.reduceLT, Nat.reduceLeDiff, Nat.reduceBEq, Int.reduceEq, Int.reduceLT, Int.reduceLE, Int.reduceAdd, Int.reduceSub, Int.reduceNeg, Int.reduceToNat]
        exact ⟨⟨x, par l j⟩, ⟨b1, by dsimp only; omega, f, by dsimp only; omega, by rw [a4]; simp⟩, by dsimp only; omega, rfl, rfl⟩
theorem mapO_bools11 (S : Nat → Bool) (h : Heap) : ∀ l : List Bool, mapO (mapO (res S h 11)) (l.map fun b => [vb b]) = some (l.map fun b => [vb b])
  | [] => rfl
  | s :: l => by simp only [List.map_cons, mapO, mapO_bools11 S h l]; rfl
theorem all_ok (l : List Node) (hd : docP l) (s : Sel) (hs : okC s) (h0 : 0 < s.length) : PCall Try.prog 16 [nodes l, .agg (selE s)] (bools (rowU l s (s.length - 1))) := by
  refine PCall.of (Orc.cons sumOneR (Orc.nil _)) c16_ok (by simp [c16]) fun w0 own0 => ?_
  have hl := hd.1
  have hs1 := hs.1
  simp only [c16, nodes, selE, sumOneR_f, sumOneR_D, sumOneR_flat, sumOneR_r, go_sem, wpR_gcall, reduceCtorEq, reduceIte, Nat.reduceEqDiff, Nat.reduceAdd, Nat.reduceSub, Nat.reduceMul, Nat.reduceLT, Nat.reduceLeDiff, Nat.reduceBEq, Int.reduceEq, Int.reduceLT, Int.reduceLE, Int.reduceAdd, Int.reduceSub, Int.reduceNeg, Int.reduceToNat]
  refine SemC.lq (α := GvS) (fun a => [(0, .slc 6 (l.map Node.enc)), (3, .ptr 0 0 0 0), (5, if a.n = 0 then vnil else bools (rowU l s (a.n - 1))), (6, vi a.n)])
    (fun a => ⟨[⟨0, 1, [[.slc 2 (s.map Cmp.enc)]], true, []⟩], a.clk⟩) (fun a => a.n ≤ s.length) (fun a => s.length - a.n) ⟨0, 0, 1⟩ (Nat.zero_le _) (St.freeze (St.cut ?_ ?_ ?_)) fun a ha => ?_
  · simp [Agrees, upd_at, initE_at]
  · simp [Heap.freeze]
  · rfl
  obtain ⟨i, v0, clk⟩ := a
  simp only at ha
  by_cases he : i = s.length
  · subst he
    have hne : ¬ List.length s = 0 := by omega
    simp only [Int.lt_irrefl, hne, bools, sumOneR_f, sumOneR_D, sumOneR_flat, sumOneR_r, go_sem, wpR_gcall, reduceCtorEq, reduceIte, Nat.reduceEqDiff, Nat.reduceAdd, Nat.reduceSub, Nat.reduceMul, Nat.reduceLT, Nat.reduceLeDiff, Nat.reduceBEq, Int.reduceEq, Int.reduceLT, Int.reduceLE, Int.reduceAdd, Int.reduceSub, Int.reduceNeg, Int.reduceToNat]
  · have e1 : (i : Int) < (s.length : Int) := by omega
    have e0 : (0 : Int) ≤ (i : Int) := by omega
    have hi : i < s.length := by omega
    have hgc := getD_cmps s i [.c (.int .i64 0), .c (.slice none 0 0)] hi
    have hcl := hs.2 i hi
    simp only [e0, e1, sumOneR_f, sumOneR_D, sumOneR_flat, sumOneR_r, go_sem, wpR_gcall, reduceCtorEq, reduceIte, Nat.reduceEqDiff, Nat.reduceAdd, Nat.reduceSub, Nat.reduceMul, Nat.reduceLT, Nat.reduceLeDiff, Nat.reduceBEq, Int.reduceEq, Int.reduceLT, Int.reduceLE, Int.reduceAdd, Int.reduceSub, Int.reduceNeg, Int.reduceToNat]
    refine SemC.lp (α := GvS) (fun a => [(0, .slc 6 (l.map Node.enc)), (3, .ptr 0 0 0 0), (5, if i = 0 then vnil else bools (rowU l s (i - 1))), (6, vi i), (7, .ref 1 a.ver 0 a.n), (8, vi a.n)])
      (fun a => ⟨[⟨0, 1, [[.slc 2 (s.map Cmp.enc)]], true, []⟩, ⟨a.ver, 1, ((rowU l s i).take a.n).map fun b => [vb b], false, [vb false]⟩], a.clk⟩) (fun a => a.n ≤ l.length) (fun a => l.length - a.n) ⟨0, clk, clk + 1⟩ (Nat.zero_le _)
      (St.nil 7 1 [vb false] (by simp [upd_at]) (St.cut ?_ ?_ ?_)) fun a ha => ?_
    · simp [Agrees, upd_at, ev]
    · simp [Heap.alloc]
    · rfl
    obtain ⟨k, ver, clk2⟩ := a
    simp only at ha
    by_cases hk : k = l.length
    · subst hk
      have ht : (rowU l s i).take l.length = rowU l s i := List.take_of_length_le (by rw [rowU_len]; omega)
      simp only [Int.lt_irrefl, ht, sumOneR_f, sumOneR_D, sumOneR_flat, sumOneR_r, go_sem, wpR_gcall, reduceCtorEq, reduceIte, Nat.reduceEqDiff, Nat.reduceAdd, Nat.reduceSub, Nat.reduceMul, Nat.reduceLT, Nat.reduceLeDiff, Nat.reduceBEq, Int.reduceEq, Int.reduceLT, Int.reduceLE, Int.reduceAdd, Int.reduceSub, Int.reduceNeg, Int.reduceToNat]
      refine ⟨by omega, ⟨i + 1, v0, clk2⟩, by dsimp only; omega, by dsimp only; omega, St.seal1 5 (x := bools (rowU l s i)) ?_ (St.cut (by simp [Agrees, upd_at, ev_cons]) (by simp [Heap.freeze]) rfl)⟩
      have ht2 : ((rowU l s i).map fun b => [vb b]).take l.length = (rowU l s i).map fun b => [vb b] := List.take_of_length_le (by simp [rowU_len])
      simp only [upd_at, ev_cons, bools]
      simp [res_ref, Heap.cur, Heap.blk, rowU_len, ht2, mapO_bools11]
    · have f1 : (k : Int) < (l.length : Int) := by omega
      have f0 : (0 : Int) ≤ (k : Int) := by omega
      have hkl : k < l.length := by omega
      have hgn := getD_nodes l k [.c (.int .i64 0), .c (.string ⟨#[]⟩), .c (.string ⟨#[]⟩), .c (.slice none 0 0), .c (.slice none 0 0), .c (.string ⟨#[]⟩)] hkl
      obtain ⟨hn, hp1, hp2⟩ := hd.2 k hkl
      have hts0 := hgn
      simp only [f0, f1, hgn, Node.enc, sumOneR_f, sumOneR_D, sumOneR_flat, sumOneR_r, go_sem, wpR_gcall, reduceCtorEq, reduceIte, Nat.reduceEqDiff, Nat.reduceAdd, Nat.reduceSub, Nat.reduceMul, Nat.reduceLT, Nat.reduceLeDiff, Nat.reduceBEq, Int.reduceEq, Int.reduceLT, Int.reduceLE, Int.reduceAdd, Int.reduceSub, Int.reduceNeg, Int.reduceToNat]
      have hts := rowU_take l s i k hkl
      have htl : ((rowU l s i).take k).length = k := by rw [List.length_take, rowU_len]; omega
      have htt : ((rowU l s i).take k).take k = (rowU l s i).take k := List.take_of_length_le (by omega)
      generalize hx : s.getD i default = c at *
      by_cases hi0 : i = 0
      · subst hi0
        have hu : upN l s 0 k = oneB (l.getD k .zero) c := by rw [← hx]; rfl
        refine SemC.lp (α := Unit) (fun _ => [(0, .slc 6 (l.map Node.enc)), (3, .ptr 0 0 0 0), (5, vnil), (6, vi (0 : Nat)), (7, .ref 1 ver 0 k), (8, vi k), (9, vb true), (10, vi (l.getD k .zero).parent)])
          (fun _ => ⟨[⟨0, 1, [[.slc 2 (s.map Cmp.enc)]], true, []⟩, ⟨ver, 1, ((rowU l s 0).take k).map fun b => [vb b], false, [vb false]⟩], clk2⟩) (fun _ => True) (fun _ => 0) () trivial (St.mk (by simp [Agrees, upd_at, ev_cons])) fun _ _ => ?_
        have g0 : ¬ (0 : Int) < ((0 : Nat) : Int) := by omega
        have g1 : (0 : Int) ≤ ((0 : Nat) : Int) := by omega
        by_cases hp : 0 ≤ (l.getD k .zero).parent
        · simp only [g0, g1, hp, f0, f1, e1, hgn, hgc, hn, hcl, Node.enc, Cmp.enc, dNode_mk, Node.eta, dCmp_mk, Cmp.eta, V.boo_c, htl, htt, wpC_seq_areg, wpC_areg, wpFR_nil, wpFR_cons, fluP, fluV, evF, V.allK, V.isK, O.still, okP_none, vP_none, sumOneR_f, sumOneR_D, sumOneR_flat, sumOneR_r, go_sem, wpR_gcall, reduceCtorEq, reduceIte, Nat.reduceEqDiff, Nat.reduceAdd, Nat.reduceSub, Nat.reduceMul, Nat.reduceLT, Nat.reduceLeDiff, Nat.reduceBEq, Int.reduceEq, Int.reduceLT, Int.reduceLE, Int.reduceAdd, Int.reduceSub, Int.reduceNeg, Int.reduceToNat]
          exact ⟨by omega, ⟨by omega, by omega, by omega⟩, by omega, ⟨k + 1, clk2, clk2 + 1⟩, by dsimp only; omega, by dsimp only; omega, ⟨⟨rfl, rfl⟩, by dsimp only; omega⟩, ⟨rfl, by dsimp only; rw [hts, hu, List.map_append]; rfl⟩, rfl⟩
        · simp only [g0, g1, hp, f0, f1, e1, hgn, hgc, hn, hcl, Node.enc, Cmp.enc, dNode_mk, Node.eta, dCmp_mk, Cmp.eta, V.boo_c, htl, htt, wpC_seq_areg, wpC_areg, wpFR_nil, wpFR_cons, fluP, fluV, evF, V.allK, V.isK, O.still, okP_none, vP_none, sumOneR_f, sumOneR_D, sumOneR_flat, sumOneR_r, go_sem, wpR_gcall, reduceCtorEq, reduceIte, Nat.reduceEqDiff, Nat.reduceAdd, Nat.reduceSub, Nat.reduceMul, Nat.reduceLT, Nat.reduceLeDiff, Nat.reduceBEq, Int.reduceEq, Int.reduceLT, Int.reduceLE, Int.reduceAdd, Int.reduceSub, Int.reduceNeg, Int.reduceToNat]
          exact ⟨by omega, ⟨by omega, by omega, by omega⟩, by omega, ⟨k + 1, clk2, clk2 + 1⟩, by dsimp only; omega, by dsimp only; omega, ⟨⟨rfl, rfl⟩, by dsimp only; omega⟩, ⟨rfl, by dsimp only; rw [hts, hu, List.map_append]; rfl⟩, rfl⟩
      · obtain ⟨i', rfl⟩ : ∃ m, i = m + 1 := ⟨i - 1, by omega⟩
        have hu := upN_row hd s i' k hkl
        rw [hx] at hu
        refine all_in l hd s hs (i' + 1) k hi (by omega) hkl (rowU l s i') (rowU_len l s i') w0 own0 _ _ ver ver clk2 _ (by simp [upd_at, ev_cons, nodes]) (by simp [upd_at, ev_cons]) (by simp [upd_at, ev_cons]) (by simp [upd_at, ev_cons]) (by simp [upd_at, ev_cons]) (by simp [upd_at, ev_cons])
          (by simp [upd_at, ev_cons]; omega) (by simp [upd_at, ev_cons, par]) fun e' t0 t3 t5 t6 t7 t8 t9 => ?_
        rw [hx] at t9
        generalize goU l (fun j => (rowU l s i').getD j false) (decide (c.link = 2)) (k + 1) (par l k) = G at *
        cases G with
        | true =>
          simp only [t0, t3, t5, t6, t7, t8, t9, e0, e1, f0, f1, hgn, hgc, hn, hcl, nodes, Node.enc, Cmp.enc, dNode_mk, Node.eta, dCmp_mk, Cmp.eta, V.boo_c, htl, htt, wpC_seq_areg, wpC_areg, wpFR_nil, wpFR_cons, fluP, fluV, evF, V.allK, V.isK, O.still, okP_none, vP_none, sumOneR_f, sumOneR_D, sumOneR_flat, sumOneR_r, go_sem, wpR_gcall, reduceCtorEq, reduceIte, Nat.reduceEqDiff, Nat.reduceAdd, Nat.reduceSub, Nat.reduceMul, Nat.reduceLT, Nat.reduceLeDiff, Nat.reduceBEq, Int.reduceEq, Int.reduceLT, Int.reduceLE, Int.reduceAdd, Int.reduceSub, Int.reduceNeg, Int.reduceToNat]
          exact ⟨⟨by omega, by omega, by omega⟩, by omega, ⟨k + 1, clk2, clk2 + 1⟩, by dsimp only; omega, by dsimp only; omega, ⟨rfl, ⟨rfl, rfl⟩, by dsimp only; omega⟩, ⟨rfl, by dsimp only; rw [hts, hu, List.map_append]; rfl⟩, rfl⟩
        | false =>
          simp only [t0, t3, t5, t6, t7, t8, t9, e0, e1, f0, f1, hgn, hgc, hn, hcl, nodes, Node.enc, Cmp.enc, dNode_mk, Node.eta, dCmp_mk, Cmp.eta, V.boo_c, htl, htt, wpC_seq_areg, wpC_areg, wpFR_nil, wpFR_cons, fluP, fluV, evF, V.allK, V.isK, O.still, okP_none, vP_none, sumOneR_f, sumOneR_D, sumOneR_flat, sumOneR_r, go_sem, wpR_gcall, reduceCtorEq, reduceIte, Nat.reduceEqDiff, Nat.reduceAdd, Nat.reduceSub, Nat.reduceMul, Nat.reduceLT, Nat.reduceLeDiff, Nat.reduceBEq, Int.reduceEq, Int.reduceLT, Int.reduceLE, Int.reduceAdd, Int.reduceSub, Int.reduceNeg, Int.reduceToNat]
          exact ⟨⟨by omega, by omega, by omega⟩, by omega, ⟨k + 1, clk2, clk2 + 1⟩, by dsimp only; omega, by dsimp only; omega, ⟨rfl, ⟨rfl, rfl⟩, by dsimp only; omega⟩, ⟨rfl, by dsimp only; rw [hts, hu, List.map_append]; rfl⟩, rfl⟩
def sumAll10 : Sum Try.prog := ⟨16, fun args => args = [nodes (dNodes (args.getD 0 .any)), .agg (selE (dSel (args.getD 1 .any)))] ∧ docP (dNodes (args.getD 0 .any)) ∧ okC (dSel (args.getD 1 .any)) ∧ 0 < ((dSel (args.getD 1 .any))).length, fun args => bools (rowU (dNodes (args.getD 0 .any)) (dSel (args.getD 1 .any)) (((dSel (args.getD 1 .any))).length - 1)), fun args h => by
  have := all_ok (dNodes (args.getD 0 .any)) h.2.1 (dSel (args.getD 1 .any)) h.2.2.1 h.2.2.2; rwa [← h.1] at this, false⟩
theorem sumAll10_f : sumAll10.f = 16 := rfl
theorem sumAll10_D (args : List V) : sumAll10.D args = (args = [nodes (dNodes (args.getD 0 .any)), .agg (selE (dSel (args.getD 1 .any)))] ∧ docP (dNodes (args.getD 0 .any)) ∧ okC (dSel (args.getD 1 .any)) ∧ 0 < ((dSel (args.getD 1 .any))).length) := rfl
theorem sumAll10_flat : sumAll10.flat = false := rfl
theorem sumAll10_r (args : List V) : sumAll10.r args = bools (rowU (dNodes (args.getD 0 .any)) (dSel (args.getD 1 .any)) (((dSel (args.getD 1 .any))).length - 1)) := rfl
end Go.Proofs.Ytcjephhkgccmgaa
