/- Layer 7: four lengths of px. -/
import Derived.Test.YtjofgafeaiiegaaV7q
import Derived.Test.YtjofgafeaiiegaaWm
import Derived.Test.YtjofgafeaiiegaaTh
namespace Go.Proofs.Ytjofgafeaiiegaa
open Go.Sx
set_option linter.unusedSimpArgs false
set_option maxHeartbeats 40000000
set_option maxRecDepth 20000

def pxW : ByteArray := ⟨#[112, 120]⟩
def pxT (x : Int) : Tok := ⟨10, pxW, x⟩
def smallI (x : Int) : Prop := -1073741824 ≤ x ∧ x ≤ 1073741824
theorem px_parts : ∀ l : List Int, ptB (l.map pxT) = true ∧ pl (l.map pxT) = l.map fun x => ⟨pxT x, []⟩
  | [] => ⟨rfl, rfl⟩
  | x :: l => by
    obtain ⟨h1, h2⟩ := px_parts l
    obtain ⟨a, b, _⟩ := pl_cons (t := pxT x) (b := l.map pxT) (by show (10 : Int) ≠ 3; decide) (by show (10 : Int) ≠ 12; decide) h1
    refine ⟨a, ?_⟩
    rw [List.map_cons, b, h2, if_neg (by show ¬ (10 : Int) = 1; decide)]; rfl
theorem px_look : look unitKeys (lowB pxW) = some (1, 1) := by decide
theorem px_len {x : Int} (h : smallI x) : lenO (pxT x) = some x := by
  unfold lenO
  show (if (10 : Int) = 8 ∧ x = 0 then some 0 else if (10 : Int) = 10 then (look unitKeys (lowB pxW)).map fun u => stp ((stp x * u.1).tdiv u.2) else none) = some x
  rw [if_neg (by omega), if_pos rfl, px_look]
  unfold smallI at h
  simp only [Option.map_some, Int.mul_one, Int.tdiv_one, Option.some.injEq]
  unfold stp; omega
theorem px_lns : ∀ l : List Int, (∀ x ∈ l, smallI x) → lnsL (l.map fun x => ⟨pxT x, []⟩) = some l
  | [], _ => rfl
  | x :: l, h => by
    simp only [List.map_cons, lnsL, px_len (h x (by simp)), px_lns l (fun y hy => h y (by simp [hy])), Option.map_some]
theorem px_four {l : List Int} (h : ∀ x ∈ l, smallI x) (h1 : 1 ≤ l.length) (h4 : l.length ≤ 4) : lnsO (l.map pxT) = some (fourL l) := by
  obtain ⟨a, b⟩ := px_parts l
  unfold lnsO
  rw [b, if_pos ⟨a, by simpa using h1, by simpa using h4⟩, px_lns l h]; rfl
theorem px_five {l : List Int} (h4 : 4 < l.length) : lnsO (l.map pxT) = none := by
  obtain ⟨a, b⟩ := px_parts l
  unfold lnsO
  rw [b, if_neg]
  rintro ⟨_, _, h⟩
  rw [List.length_map] at h
  omega
theorem px_ok {l : List Int} (h : l.length ≤ 10) : okT (l.map pxT) := by
  refine ⟨by simp; omega, fun t ht => ?_⟩
  obtain ⟨x, _, rfl⟩ := List.mem_map.1 ht
  show pxW.size ≤ 1000000
  decide
structure FoS where
  k : Nat
  ver : Nat
  clk : Nat
theorem valueFour_law (x0 : V) (h0 : CellOK (.int .i64) x0) (x1 : V) (h1 : CellOK (.int .i64) x1) (x2 : V) (h2 : CellOK (.int .i64) x2) (x3 : V) (h3 : CellOK (.int .i64) x3) : PCall Try.prog 8 [x0, x1, x2, x3] (.c (.bool true)) := by
  cases h0 with | int _ a _ => ?_
  cases h1 with | int _ b _ => ?_
  cases h2 with | int _ c _ => ?_
  cases h3 with | int _ d _ => ?_
  refine PCall.ofT (Orc.cons sumAw7 (Orc.cons sumLns (Orc.nil _))) c8_ok (by simp [c8]) fun w0 own0 hb1 hb2 => ?_
  simp only [c8, on_gcall, off_gcall, flat_gcall, sumAw7_f, sumAw7_D, sumAw7_flat, sumAw7_r, sumLns_f, sumLns_D, sumLns_flat, sumLns_r, go_sem, reduceCtorEq, reduceIte, Nat.reduceEqDiff, Nat.reduceAdd, Nat.reduceSub, Nat.reduceMul, Nat.reduceLT, Nat.reduceLeDiff, Nat.reduceBEq, Int.reduceEq, Int.reduceLT, Int.reduceLE, Int.reduceAdd, Int.reduceSub, Int.reduceNeg, Int.reduceToNat]
  refine SemC.lq (α := FoS) (fun s => [(0, vi a), (1, vi b), (2, vi c), (3, vi d), (9, .ref 1 s.ver 0 s.k), (24, .agg [vi a, vi b, vi c, vi d]), (25, vi s.k)])
    (fun s => ⟨[⟨0, 4, [[vi a, vi b, vi c, vi d]], false, []⟩, ⟨s.ver, 3, ([a, b, c, d].take s.k).map fun x => [vi 10, vs pxW, vi x], false, [vi 0, vs ⟨#[]⟩, vi 0]⟩], s.clk⟩) (fun s => s.k ≤ 4 ∧ ∀ x ∈ [a, b, c, d].take s.k, smallI x) (fun s => 4 - s.k) ⟨0, 1, 2⟩
    ⟨by dsimp only; omega, by simp⟩ (St.nil 9 3 [vi 0, vs ⟨#[]⟩, vi 0] (by simp [upd_at]) (St.cut ?_ ?_ ?_)) fun s hs => ?_
  · simp [Agrees, upd_at, initE_at]
  · simp [Heap.alloc]
  · rfl
  obtain ⟨k, ver, clk⟩ := s
  obtain ⟨hk, hsm⟩ := hs
  simp only at hk hsm
  have e1 : dToks (.slc 3 [[vi 10, vs pxW, vi a]]) = [a].map pxT := rfl
  have e2 : dToks (.slc 3 [[vi 10, vs pxW, vi a], [vi 10, vs pxW, vi b]]) = [a, b].map pxT := rfl
  have e3 : dToks (.slc 3 [[vi 10, vs pxW, vi a], [vi 10, vs pxW, vi b], [vi 10, vs pxW, vi c]]) = [a, b, c].map pxT := rfl
  have e4 : dToks (.slc 3 [[vi 10, vs pxW, vi a], [vi 10, vs pxW, vi b], [vi 10, vs pxW, vi c], [vi 10, vs pxW, vi d]]) = [a, b, c, d].map pxT := rfl
  have e5 : dToks (.slc 3 [[vi 10, vs pxW, vi a], [vi 10, vs pxW, vi b], [vi 10, vs pxW, vi c], [vi 10, vs pxW, vi d], [vi 10, vs pxW, vi a]]) = [a, b, c, d, a].map pxT := rfl
  have t1 : toks ([a].map pxT) = (.slc 3 [[vi 10, vs pxW, vi a]]) := rfl
  have t2 : toks ([a, b].map pxT) = (.slc 3 [[vi 10, vs pxW, vi a], [vi 10, vs pxW, vi b]]) := rfl
  have t3 : toks ([a, b, c].map pxT) = (.slc 3 [[vi 10, vs pxW, vi a], [vi 10, vs pxW, vi b], [vi 10, vs pxW, vi c]]) := rfl
  have t4 : toks ([a, b, c, d].map pxT) = (.slc 3 [[vi 10, vs pxW, vi a], [vi 10, vs pxW, vi b], [vi 10, vs pxW, vi c], [vi 10, vs pxW, vi d]]) := rfl
  have t5 : toks ([a, b, c, d, a].map pxT) = (.slc 3 [[vi 10, vs pxW, vi a], [vi 10, vs pxW, vi b], [vi 10, vs pxW, vi c], [vi 10, vs pxW, vi d], [vi 10, vs pxW, vi a]]) := rfl
  have o1 : okT ([a].map pxT) := px_ok (by simp)
  have o2 : okT ([a, b].map pxT) := px_ok (by simp)
  have o3 : okT ([a, b, c].map pxT) := px_ok (by simp)
  have o4 : okT ([a, b, c, d].map pxT) := px_ok (by simp)
  have o5 : okT ([a, b, c, d, a].map pxT) := px_ok (by simp)
  have l5 : lnsO ([a, b, c, d, a].map pxT) = none := px_five (by simp)
  have l1 : smallI a → lnsO ([a].map pxT) = some [a, a, a, a] := fun h => px_four (by simp [h]) (by simp) (by simp)
  have l2 : smallI a → smallI b → lnsO ([a, b].map pxT) = some [a, b, a, b] := fun h h' => px_four (by simp [h, h']) (by simp) (by simp)
  have l3 : smallI a → smallI b → smallI c → lnsO ([a, b, c].map pxT) = some [a, b, c, b] := fun h h' h'' => px_four (by simp [h, h', h'']) (by simp) (by simp)
  have l4 : smallI a → smallI b → smallI c → smallI d → lnsO ([a, b, c, d].map pxT) = some [a, b, c, d] := fun h h' h'' h3 => px_four (by simp [h, h', h'', h3]) (by simp) (by simp)
  have pxe : (⟨#[112, 120]⟩ : ByteArray) = pxW := rfl
  generalize [a].map pxT = v1 at e1 t1 o1 l1
  generalize [a, b].map pxT = v2 at e2 t2 o2 l2
  generalize [a, b, c].map pxT = v3 at e3 t3 o3 l3
  generalize [a, b, c, d].map pxT = v4 at e4 t4 o4 l4
  generalize [a, b, c, d, a].map pxT = v5 at e5 t5 o5 l5
  generalize pxW = px at *
  rcases (show k = 0 ∨ k = 1 ∨ k = 2 ∨ k = 3 ∨ k = 4 by omega) with rfl | rfl | rfl | rfl | rfl
  · skip
    by_cases hq : smallI a
    · have hq1 : ¬ a < -1073741824 := by unfold smallI at hq; omega
      have hq2 : ¬ 1073741824 < a := by unfold smallI at hq; omega
      have hl := l1 hq
      simp only [hq1, hq2, pxe, e1, t1, o1, hl, lnsV, ints, Option.getD_some, List.take_zero, List.take_succ_cons, List.map_cons, List.map_nil, Option.isSome_some, on_gcall, off_gcall, flat_gcall, sumAw7_f, sumAw7_D, sumAw7_flat, sumAw7_r, sumLns_f, sumLns_D, sumLns_flat, sumLns_r, go_sem, reduceCtorEq, reduceIte, Nat.reduceEqDiff, Nat.reduceAdd, Nat.reduceSub, Nat.reduceMul, Nat.reduceLT, Nat.reduceLeDiff, Nat.reduceBEq, Int.reduceEq, Int.reduceLT, Int.reduceLE, Int.reduceAdd, Int.reduceSub, Int.reduceNeg, Int.reduceToNat]
      refine SemC.lp (α := Nat) (fun k2 => [(0, vi a), (1, vi b), (2, vi c), (3, vi d), (9, .ref 1 (clk + 1) 0 1), (13, .slc 1 [[vi a], [vi a], [vi a], [vi a]]), (15, .ptr 4 (clk + 1 + 1 + 1) 0 0), (24, .agg [vi a, vi b, vi c, vi d]), (25, vi 0), (84, vi k2)])
        (fun _ => ⟨[⟨0, 4, [[vi a, vi b, vi c, vi d]], true, []⟩, ⟨clk + 1, 3, [[vi 10, vs px, vi a]], true, [vi 0, vs ⟨#[]⟩, vi 0]⟩, ⟨clk, 3, [[vi 10, vs px, vi a]], true, [vi 0, vs ⟨#[]⟩, vi 0]⟩, ⟨clk + 1 + 1, 4, [[vi a, vi a, vi a, vi a], [vi a, vi b, vi a, vi b], [vi a, vi b, vi c, vi b], [vi a, vi b, vi c, vi d]], false, [vi 0, vi 0, vi 0, vi 0]⟩, ⟨clk + 1 + 1 + 1, 4, [[vi a, vi a, vi a, vi a]], false, []⟩], clk + 1 + 1 + 1 + 1⟩) (fun k2 => k2 ≤ 4) (fun k2 => 4 - k2) 0 (by omega) (St.cut ?_ ?_ ?_) fun k2 hk2 => ?_
      · simp [Agrees, upd_at, ev_cons]
      · simp
      · rfl
      rcases (show k2 = 0 ∨ k2 = 1 ∨ k2 = 2 ∨ k2 = 3 ∨ k2 = 4 by omega) with rfl | rfl | rfl | rfl | rfl
      all_goals simp only [on_gcall, off_gcall, flat_gcall, sumAw7_f, sumAw7_D, sumAw7_flat, sumAw7_r, sumLns_f, sumLns_D, sumLns_flat, sumLns_r, go_sem, reduceCtorEq, reduceIte, Nat.reduceEqDiff, Nat.reduceAdd, Nat.reduceSub, Nat.reduceMul, Nat.reduceLT, Nat.reduceLeDiff, Nat.reduceBEq, Int.reduceEq, Int.reduceLT, Int.reduceLE, Int.reduceAdd, Int.reduceSub, Int.reduceNeg, Int.reduceToNat]
      · exact ⟨1, by omega, by omega, rfl⟩
      · exact ⟨2, by omega, by omega, rfl⟩
      · exact ⟨3, by omega, by omega, rfl⟩
      · exact ⟨4, by omega, by omega, rfl⟩
      · refine ⟨⟨1, clk + 1, clk + 1 + 1 + 1 + 1⟩, ⟨by dsimp only; omega, ?_⟩, by dsimp only; omega, St.thaw hb1 hb2 (by simp [V.loc, V.isC]) (hp0 := ⟨[⟨0, 4, [[vi a, vi b, vi c, vi d]], true, []⟩, ⟨clk + 1, 3, [[vi 10, vs px, vi a]], true, [vi 0, vs ⟨#[]⟩, vi 0]⟩], clk + 1 + 1 + 1 + 1⟩) (St.cut ?_ ?_ ?_) ?_ ?_⟩
        · simp [hq]
        · simp [Agrees, upd_at, ev_cons]
        · simp
        · rfl
        · simp [V.loc]
        · simp [Heap.thaw]
    · have hq3 : a < -1073741824 ∨ 1073741824 < a := by unfold smallI at hq; omega
      rcases hq3 with hq3 | hq3
      · simp only [hq3, on_gcall, off_gcall, flat_gcall, sumAw7_f, sumAw7_D, sumAw7_flat, sumAw7_r, sumLns_f, sumLns_D, sumLns_flat, sumLns_r, go_sem, reduceCtorEq, reduceIte, Nat.reduceEqDiff, Nat.reduceAdd, Nat.reduceSub, Nat.reduceMul, Nat.reduceLT, Nat.reduceLeDiff, Nat.reduceBEq, Int.reduceEq, Int.reduceLT, Int.reduceLE, Int.reduceAdd, Int.reduceSub, Int.reduceNeg, Int.reduceToNat]
      · have hq4 : ¬ a < -1073741824 := by omega
        simp only [hq3, hq4, on_gcall, off_gcall, flat_gcall, sumAw7_f, sumAw7_D, sumAw7_flat, sumAw7_r, sumLns_f, sumLns_D, sumLns_flat, sumLns_r, go_sem, reduceCtorEq, reduceIte, Nat.reduceEqDiff, Nat.reduceAdd, Nat.reduceSub, Nat.reduceMul, Nat.reduceLT, Nat.reduceLeDiff, Nat.reduceBEq, Int.reduceEq, Int.reduceLT, Int.reduceLE, Int.reduceAdd, Int.reduceSub, Int.reduceNeg, Int.reduceToNat]
  · have hpv : ∀ z ∈ [a], smallI z := by simpa using hsm
    have qa : smallI a := hpv a (by simp)
    by_cases hq : smallI b
    · have hq1 : ¬ b < -1073741824 := by unfold smallI at hq; omega
      have hq2 : ¬ 1073741824 < b := by unfold smallI at hq; omega
      have hl := l2 qa hq
      simp only [hq1, hq2, pxe, e2, t2, o2, hl, lnsV, ints, Option.getD_some, List.take_zero, List.take_succ_cons, List.map_cons, List.map_nil, Option.isSome_some, on_gcall, off_gcall, flat_gcall, sumAw7_f, sumAw7_D, sumAw7_flat, sumAw7_r, sumLns_f, sumLns_D, sumLns_flat, sumLns_r, go_sem, reduceCtorEq, reduceIte, Nat.reduceEqDiff, Nat.reduceAdd, Nat.reduceSub, Nat.reduceMul, Nat.reduceLT, Nat.reduceLeDiff, Nat.reduceBEq, Int.reduceEq, Int.reduceLT, Int.reduceLE, Int.reduceAdd, Int.reduceSub, Int.reduceNeg, Int.reduceToNat]
      refine SemC.lp (α := Nat) (fun k2 => [(0, vi a), (1, vi b), (2, vi c), (3, vi d), (9, .ref 1 (clk + 1) 0 2), (13, .slc 1 [[vi a], [vi b], [vi a], [vi b]]), (15, .ptr 4 (clk + 1 + 1 + 1) 0 0), (24, .agg [vi a, vi b, vi c, vi d]), (25, vi 1), (84, vi k2)])
        (fun _ => ⟨[⟨0, 4, [[vi a, vi b, vi c, vi d]], true, []⟩, ⟨clk + 1, 3, [[vi 10, vs px, vi a], [vi 10, vs px, vi b]], true, [vi 0, vs ⟨#[]⟩, vi 0]⟩, ⟨clk, 3, [[vi 10, vs px, vi b]], true, [vi 0, vs ⟨#[]⟩, vi 0]⟩, ⟨clk + 1 + 1, 4, [[vi a, vi a, vi a, vi a], [vi a, vi b, vi a, vi b], [vi a, vi b, vi c, vi b], [vi a, vi b, vi c, vi d]], false, [vi 0, vi 0, vi 0, vi 0]⟩, ⟨clk + 1 + 1 + 1, 4, [[vi a, vi b, vi a, vi b]], false, []⟩], clk + 1 + 1 + 1 + 1⟩) (fun k2 => k2 ≤ 4) (fun k2 => 4 - k2) 0 (by omega) (St.cut ?_ ?_ ?_) fun k2 hk2 => ?_
      · simp [Agrees, upd_at, ev_cons]
      · simp
      · rfl
      rcases (show k2 = 0 ∨ k2 = 1 ∨ k2 = 2 ∨ k2 = 3 ∨ k2 = 4 by omega) with rfl | rfl | rfl | rfl | rfl
      all_goals simp only [on_gcall, off_gcall, flat_gcall, sumAw7_f, sumAw7_D, sumAw7_flat, sumAw7_r, sumLns_f, sumLns_D, sumLns_flat, sumLns_r, go_sem, reduceCtorEq, reduceIte, Nat.reduceEqDiff, Nat.reduceAdd, Nat.reduceSub, Nat.reduceMul, Nat.reduceLT, Nat.reduceLeDiff, Nat.reduceBEq, Int.reduceEq, Int.reduceLT, Int.reduceLE, Int.reduceAdd, Int.reduceSub, Int.reduceNeg, Int.reduceToNat]
      · exact ⟨1, by omega, by omega, rfl⟩
      · exact ⟨2, by omega, by omega, rfl⟩
      · exact ⟨3, by omega, by omega, rfl⟩
      · exact ⟨4, by omega, by omega, rfl⟩
      · refine ⟨⟨2, clk + 1, clk + 1 + 1 + 1 + 1⟩, ⟨by dsimp only; omega, ?_⟩, by dsimp only; omega, St.thaw hb1 hb2 (by simp [V.loc, V.isC]) (hp0 := ⟨[⟨0, 4, [[vi a, vi b, vi c, vi d]], true, []⟩, ⟨clk + 1, 3, [[vi 10, vs px, vi a], [vi 10, vs px, vi b]], true, [vi 0, vs ⟨#[]⟩, vi 0]⟩], clk + 1 + 1 + 1 + 1⟩) (St.cut ?_ ?_ ?_) ?_ ?_⟩
        · simp [hq, qa]
        · simp [Agrees, upd_at, ev_cons]
        · simp
        · rfl
        · simp [V.loc]
        · simp [Heap.thaw]
    · have hq3 : b < -1073741824 ∨ 1073741824 < b := by unfold smallI at hq; omega
      rcases hq3 with hq3 | hq3
      · simp only [hq3, on_gcall, off_gcall, flat_gcall, sumAw7_f, sumAw7_D, sumAw7_flat, sumAw7_r, sumLns_f, sumLns_D, sumLns_flat, sumLns_r, go_sem, reduceCtorEq, reduceIte, Nat.reduceEqDiff, Nat.reduceAdd, Nat.reduceSub, Nat.reduceMul, Nat.reduceLT, Nat.reduceLeDiff, Nat.reduceBEq, Int.reduceEq, Int.reduceLT, Int.reduceLE, Int.reduceAdd, Int.reduceSub, Int.reduceNeg, Int.reduceToNat]
      · have hq4 : ¬ b < -1073741824 := by omega
        simp only [hq3, hq4, on_gcall, off_gcall, flat_gcall, sumAw7_f, sumAw7_D, sumAw7_flat, sumAw7_r, sumLns_f, sumLns_D, sumLns_flat, sumLns_r, go_sem, reduceCtorEq, reduceIte, Nat.reduceEqDiff, Nat.reduceAdd, Nat.reduceSub, Nat.reduceMul, Nat.reduceLT, Nat.reduceLeDiff, Nat.reduceBEq, Int.reduceEq, Int.reduceLT, Int.reduceLE, Int.reduceAdd, Int.reduceSub, Int.reduceNeg, Int.reduceToNat]
  · have hpv : ∀ z ∈ [a, b], smallI z := by simpa using hsm
    have qa : smallI a := hpv a (by simp)
    have qb : smallI b := hpv b (by simp)
    by_cases hq : smallI c
    · have hq1 : ¬ c < -1073741824 := by unfold smallI at hq; omega
      have hq2 : ¬ 1073741824 < c := by unfold smallI at hq; omega
      have hl := l3 qa qb hq
      simp only [hq1, hq2, pxe, e3, t3, o3, hl, lnsV, ints, Option.getD_some, List.take_zero, List.take_succ_cons, List.map_cons, List.map_nil, Option.isSome_some, on_gcall, off_gcall, flat_gcall, sumAw7_f, sumAw7_D, sumAw7_flat, sumAw7_r, sumLns_f, sumLns_D, sumLns_flat, sumLns_r, go_sem, reduceCtorEq, reduceIte, Nat.reduceEqDiff, Nat.reduceAdd, Nat.reduceSub, Nat.reduceMul, Nat.reduceLT, Nat.reduceLeDiff, Nat.reduceBEq, Int.reduceEq, Int.reduceLT, Int.reduceLE, Int.reduceAdd, Int.reduceSub, Int.reduceNeg, Int.reduceToNat]
      refine SemC.lp (α := Nat) (fun k2 => [(0, vi a), (1, vi b), (2, vi c), (3, vi d), (9, .ref 1 (clk + 1) 0 3), (13, .slc 1 [[vi a], [vi b], [vi c], [vi b]]), (15, .ptr 4 (clk + 1 + 1 + 1) 0 0), (24, .agg [vi a, vi b, vi c, vi d]), (25, vi 2), (84, vi k2)])
        (fun _ => ⟨[⟨0, 4, [[vi a, vi b, vi c, vi d]], true, []⟩, ⟨clk + 1, 3, [[vi 10, vs px, vi a], [vi 10, vs px, vi b], [vi 10, vs px, vi c]], true, [vi 0, vs ⟨#[]⟩, vi 0]⟩, ⟨clk, 3, [[vi 10, vs px, vi c]], true, [vi 0, vs ⟨#[]⟩, vi 0]⟩, ⟨clk + 1 + 1, 4, [[vi a, vi a, vi a, vi a], [vi a, vi b, vi a, vi b], [vi a, vi b, vi c, vi b], [vi a, vi b, vi c, vi d]], false, [vi 0, vi 0, vi 0, vi 0]⟩, ⟨clk + 1 + 1 + 1, 4, [[vi a, vi b, vi c, vi b]], false, []⟩], clk + 1 + 1 + 1 + 1⟩) (fun k2 => k2 ≤ 4) (fun k2 => 4 - k2) 0 (by omega) (St.cut ?_ ?_ ?_) fun k2 hk2 => ?_
      · simp [Agrees, upd_at, ev_cons]
      · simp
      · rfl
      rcases (show k2 = 0 ∨ k2 = 1 ∨ k2 = 2 ∨ k2 = 3 ∨ k2 = 4 by omega) with rfl | rfl | rfl | rfl | rfl
      all_goals simp only [on_gcall, off_gcall, flat_gcall, sumAw7_f, sumAw7_D, sumAw7_flat, sumAw7_r, sumLns_f, sumLns_D, sumLns_flat, sumLns_r, go_sem, reduceCtorEq, reduceIte, Nat.reduceEqDiff, Nat.reduceAdd, Nat.reduceSub, Nat.reduceMul, Nat.reduceLT, Nat.reduceLeDiff, Nat.reduceBEq, Int.reduceEq, Int.reduceLT, Int.reduceLE, Int.reduceAdd, Int.reduceSub, Int.reduceNeg, Int.reduceToNat]
      · exact ⟨1, by omega, by omega, rfl⟩
      · exact ⟨2, by omega, by omega, rfl⟩
      · exact ⟨3, by omega, by omega, rfl⟩
      · exact ⟨4, by omega, by omega, rfl⟩
      · refine ⟨⟨3, clk + 1, clk + 1 + 1 + 1 + 1⟩, ⟨by dsimp only; omega, ?_⟩, by dsimp only; omega, St.thaw hb1 hb2 (by simp [V.loc, V.isC]) (hp0 := ⟨[⟨0, 4, [[vi a, vi b, vi c, vi d]], true, []⟩, ⟨clk + 1, 3, [[vi 10, vs px, vi a], [vi 10, vs px, vi b], [vi 10, vs px, vi c]], true, [vi 0, vs ⟨#[]⟩, vi 0]⟩], clk + 1 + 1 + 1 + 1⟩) (St.cut ?_ ?_ ?_) ?_ ?_⟩
        · simp [hq, qa, qb]
        · simp [Agrees, upd_at, ev_cons]
        · simp
        · rfl
        · simp [V.loc]
        · simp [Heap.thaw]
    · have hq3 : c < -1073741824 ∨ 1073741824 < c := by unfold smallI at hq; omega
      rcases hq3 with hq3 | hq3
      · simp only [hq3, on_gcall, off_gcall, flat_gcall, sumAw7_f, sumAw7_D, sumAw7_flat, sumAw7_r, sumLns_f, sumLns_D, sumLns_flat, sumLns_r, go_sem, reduceCtorEq, reduceIte, Nat.reduceEqDiff, Nat.reduceAdd, Nat.reduceSub, Nat.reduceMul, Nat.reduceLT, Nat.reduceLeDiff, Nat.reduceBEq, Int.reduceEq, Int.reduceLT, Int.reduceLE, Int.reduceAdd, Int.reduceSub, Int.reduceNeg, Int.reduceToNat]
      · have hq4 : ¬ c < -1073741824 := by omega
        simp only [hq3, hq4, on_gcall, off_gcall, flat_gcall, sumAw7_f, sumAw7_D, sumAw7_flat, sumAw7_r, sumLns_f, sumLns_D, sumLns_flat, sumLns_r, go_sem, reduceCtorEq, reduceIte, Nat.reduceEqDiff, Nat.reduceAdd, Nat.reduceSub, Nat.reduceMul, Nat.reduceLT, Nat.reduceLeDiff, Nat.reduceBEq, Int.reduceEq, Int.reduceLT, Int.reduceLE, Int.reduceAdd, Int.reduceSub, Int.reduceNeg, Int.reduceToNat]
  · have hpv : ∀ z ∈ [a, b, c], smallI z := by simpa using hsm
    have qa : smallI a := hpv a (by simp)
    have qb : smallI b := hpv b (by simp)
    have qc : smallI c := hpv c (by simp)
    by_cases hq : smallI d
    · have hq1 : ¬ d < -1073741824 := by unfold smallI at hq; omega
      have hq2 : ¬ 1073741824 < d := by unfold smallI at hq; omega
      have hl := l4 qa qb qc hq
      simp only [hq1, hq2, pxe, e4, t4, o4, hl, lnsV, ints, Option.getD_some, List.take_zero, List.take_succ_cons, List.map_cons, List.map_nil, Option.isSome_some, on_gcall, off_gcall, flat_gcall, sumAw7_f, sumAw7_D, sumAw7_flat, sumAw7_r, sumLns_f, sumLns_D, sumLns_flat, sumLns_r, go_sem, reduceCtorEq, reduceIte, Nat.reduceEqDiff, Nat.reduceAdd, Nat.reduceSub, Nat.reduceMul, Nat.reduceLT, Nat.reduceLeDiff, Nat.reduceBEq, Int.reduceEq, Int.reduceLT, Int.reduceLE, Int.reduceAdd, Int.reduceSub, Int.reduceNeg, Int.reduceToNat]
      refine SemC.lp (α := Nat) (fun k2 => [(0, vi a), (1, vi b), (2, vi c), (3, vi d), (9, .ref 1 (clk + 1) 0 4), (13, .slc 1 [[vi a], [vi b], [vi c], [vi d]]), (15, .ptr 4 (clk + 1 + 1 + 1) 0 0), (24, .agg [vi a, vi b, vi c, vi d]), (25, vi 3), (84, vi k2)])
        (fun _ => ⟨[⟨0, 4, [[vi a, vi b, vi c, vi d]], true, []⟩, ⟨clk + 1, 3, [[vi 10, vs px, vi a], [vi 10, vs px, vi b], [vi 10, vs px, vi c], [vi 10, vs px, vi d]], true, [vi 0, vs ⟨#[]⟩, vi 0]⟩, ⟨clk, 3, [[vi 10, vs px, vi d]], true, [vi 0, vs ⟨#[]⟩, vi 0]⟩, ⟨clk + 1 + 1, 4, [[vi a, vi a, vi a, vi a], [vi a, vi b, vi a, vi b], [vi a, vi b, vi c, vi b], [vi a, vi b, vi c, vi d]], false, [vi 0, vi 0, vi 0, vi 0]⟩, ⟨clk + 1 + 1 + 1, 4, [[vi a, vi b, vi c, vi d]], false, []⟩], clk + 1 + 1 + 1 + 1⟩) (fun k2 => k2 ≤ 4) (fun k2 => 4 - k2) 0 (by omega) (St.cut ?_ ?_ ?_) fun k2 hk2 => ?_
      · simp [Agrees, upd_at, ev_cons]
      · simp
      · rfl
      rcases (show k2 = 0 ∨ k2 = 1 ∨ k2 = 2 ∨ k2 = 3 ∨ k2 = 4 by omega) with rfl | rfl | rfl | rfl | rfl
      all_goals simp only [on_gcall, off_gcall, flat_gcall, sumAw7_f, sumAw7_D, sumAw7_flat, sumAw7_r, sumLns_f, sumLns_D, sumLns_flat, sumLns_r, go_sem, reduceCtorEq, reduceIte, Nat.reduceEqDiff, Nat.reduceAdd, Nat.reduceSub, Nat.reduceMul, Nat.reduceLT, Nat.reduceLeDiff, Nat.reduceBEq, Int.reduceEq, Int.reduceLT, Int.reduceLE, Int.reduceAdd, Int.reduceSub, Int.reduceNeg, Int.reduceToNat]
      · exact ⟨1, by omega, by omega, rfl⟩
      · exact ⟨2, by omega, by omega, rfl⟩
      · exact ⟨3, by omega, by omega, rfl⟩
      · exact ⟨4, by omega, by omega, rfl⟩
      · refine ⟨⟨4, clk + 1, clk + 1 + 1 + 1 + 1⟩, ⟨by dsimp only; omega, ?_⟩, by dsimp only; omega, St.thaw hb1 hb2 (by simp [V.loc, V.isC]) (hp0 := ⟨[⟨0, 4, [[vi a, vi b, vi c, vi d]], true, []⟩, ⟨clk + 1, 3, [[vi 10, vs px, vi a], [vi 10, vs px, vi b], [vi 10, vs px, vi c], [vi 10, vs px, vi d]], true, [vi 0, vs ⟨#[]⟩, vi 0]⟩], clk + 1 + 1 + 1 + 1⟩) (St.cut ?_ ?_ ?_) ?_ ?_⟩
        · simp [hq, qa, qb, qc]
        · simp [Agrees, upd_at, ev_cons]
        · simp
        · rfl
        · simp [V.loc]
        · simp [Heap.thaw]
    · have hq3 : d < -1073741824 ∨ 1073741824 < d := by unfold smallI at hq; omega
      rcases hq3 with hq3 | hq3
      · simp only [hq3, on_gcall, off_gcall, flat_gcall, sumAw7_f, sumAw7_D, sumAw7_flat, sumAw7_r, sumLns_f, sumLns_D, sumLns_flat, sumLns_r, go_sem, reduceCtorEq, reduceIte, Nat.reduceEqDiff, Nat.reduceAdd, Nat.reduceSub, Nat.reduceMul, Nat.reduceLT, Nat.reduceLeDiff, Nat.reduceBEq, Int.reduceEq, Int.reduceLT, Int.reduceLE, Int.reduceAdd, Int.reduceSub, Int.reduceNeg, Int.reduceToNat]
      · have hq4 : ¬ d < -1073741824 := by omega
        simp only [hq3, hq4, on_gcall, off_gcall, flat_gcall, sumAw7_f, sumAw7_D, sumAw7_flat, sumAw7_r, sumLns_f, sumLns_D, sumLns_flat, sumLns_r, go_sem, reduceCtorEq, reduceIte, Nat.reduceEqDiff, Nat.reduceAdd, Nat.reduceSub, Nat.reduceMul, Nat.reduceLT, Nat.reduceLeDiff, Nat.reduceBEq, Int.reduceEq, Int.reduceLT, Int.reduceLE, Int.reduceAdd, Int.reduceSub, Int.reduceNeg, Int.reduceToNat]
  · simp only [pxe, e5, t5, o5, l5, lnsV, ints, Option.getD_none, List.take_succ_cons, List.take_zero, List.take_nil, List.map_cons, List.map_nil, Option.isSome_none, Int.lt_irrefl, on_gcall, off_gcall, flat_gcall, sumAw7_f, sumAw7_D, sumAw7_flat, sumAw7_r, sumLns_f, sumLns_D, sumLns_flat, sumLns_r, go_sem, reduceCtorEq, reduceIte, Nat.reduceEqDiff, Nat.reduceAdd, Nat.reduceSub, Nat.reduceMul, Nat.reduceLT, Nat.reduceLeDiff, Nat.reduceBEq, Int.reduceEq, Int.reduceLT, Int.reduceLE, Int.reduceAdd, Int.reduceSub, Int.reduceNeg, Int.reduceToNat]
end Go.Proofs.Ytjofgafeaiiegaa
