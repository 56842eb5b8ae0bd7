/- Segments: few; a copy; the script of as few segments as can be. -/
import Derived.Test.YtjgkejnojggaaaaS14e
import Derived.Test.YtjgkejnojggaaaaS14g
namespace Go.Proofs.Ytjgkejnojggaaaa
open Go.Sx
set_option linter.unusedSimpArgs false
set_option maxHeartbeats 4000000
set_option maxRecDepth 20000

theorem mapO_intss11 (S : Nat → Bool) (h : Heap) (l : List (List Int)) : mapO (mapO (res S h 11)) (l.map fun s => [V.slc 1 (s.map fun n => [vi n])]) = some (l.map fun s => [V.slc 1 (s.map fun n => [vi n])]) := by
  refine mapO_id fun x hx => ?_
  obtain ⟨s, _, rfl⟩ := List.mem_map.1 hx
  rfl
theorem getD_end {α : Type} (l : List α) (x d : α) : (l ++ [x]).getD l.length d = x := by simp [List.getD_eq_getElem?_getD]
theorem set_end {α : Type} (l : List α) (x y : α) : (l ++ [x]).set l.length y = l ++ [y] := by
  rw [List.set_append_right _ _ (Nat.le_refl _)]; simp
theorem mapO_app {α β : Type} {f : α → Option β} : ∀ {a b : List α} {a' b' : List β}, mapO f a = some a' → mapO f b = some b' → mapO f (a ++ b) = some (a' ++ b')
  | [], b, a', b', h1, h2 => by simp [mapO] at h1; subst h1; simpa using h2
  | x :: a, b, a', b', h1, h2 => by
    simp only [mapO] at h1
    split at h1
    · rename_i y ys hy hys
      obtain rfl := Option.some.inj h1
      simp only [List.cons_append, mapO, hy, mapO_app hys h2]
    · cases h1
def few14 (d : Doc) (sc : List (List Int)) : Bool := decide ((∀ i, i < sc.length → i ≤ 70 → (sc.getD i []).length ≤ 70) ∧ few12 d = true ∧ sc.length ≤ 70)
theorem few14_ok (d : Doc) (sc : List (List Int)) : PCall Try.prog 8 [.agg d.enc, intss sc] (vb (few14 d sc)) := by
  refine PCall.of (Orc.cons sumFew12 (Orc.nil _)) c8_ok (by simp [c8]) fun w0 own0 => ?_
  simp only [c8, Doc.enc, intss, go_sem, wpR_gcall, reduceCtorEq, reduceIte, Nat.reduceEqDiff, Nat.reduceAdd, Nat.reduceSub, Nat.reduceMul, Nat.reduceLT, Nat.reduceLeDiff, Nat.reduceBEq, Int.reduceEq, Int.reduceLT, Int.reduceLE, Int.reduceAdd, Int.reduceSub, Int.reduceNeg, Int.reduceToNat]
  refine SemC.lp (α := Nat) (fun n => [(1, .slc 1 (sc.map fun s => [.slc 1 (s.map fun n => [vi n])])), (2, .ptr 0 0 0 0), (5, vi n)]) (fun _ => ⟨[⟨0, 5, [d.enc], false, []⟩], 1⟩)
    (fun n => n ≤ sc.length ∧ n ≤ 71 ∧ ∀ i, i < n → (sc.getD i []).length ≤ 70) (fun n => sc.length - n) 0 ⟨Nat.zero_le _, by omega, fun i h => by omega⟩ (St.mk (by simp [Agrees, upd_at, initE_at, Doc.enc])) fun n hn => ?_
  obtain ⟨h1, h2, h3⟩ := hn
  by_cases he : n < sc.length ∧ n ≤ 70
  · have e1 : (n : Int) < (sc.length : Int) := by omega
    have e2 : (n : Int) ≤ 70 := by omega
    have e0 : (0 : Int) ≤ (n : Int) := by omega
    have hg := getD_intss sc n [vnil] (by omega)
    by_cases hl : (sc.getD n []).length ≤ 70
    · have e3 : ¬ (70 : Int) < ((sc.getD n []).length : Int) := by omega
      simp only [Doc.enc, e0, e1, e2, hg, e3, go_sem, wpR_gcall, reduceCtorEq, reduceIte, Nat.reduceEqDiff, Nat.reduceAdd, Nat.reduceSub, Nat.reduceMul, Nat.reduceLT, Nat.reduceLeDiff, Nat.reduceBEq, Int.reduceEq, Int.reduceLT, Int.reduceLE, Int.reduceAdd, Int.reduceSub, Int.reduceNeg, Int.reduceToNat]
      refine ⟨by omega, n + 1, ⟨by omega, by omega, fun i hi => ?_⟩, by omega, by omega⟩
      by_cases h : i = n
      · rw [h]; exact hl
      · exact h3 i (by omega)
    · have e3 : (70 : Int) < ((sc.getD n []).length : Int) := by omega
      have e : few14 d sc = false := by
        unfold few14; rw [decide_eq_false_iff_not]; intro h; exact hl (h.1 n (by omega) (by omega))
      simp only [Doc.enc, e0, e1, e2, hg, e3, e, go_sem, wpR_gcall, reduceCtorEq, reduceIte, Nat.reduceEqDiff, Nat.reduceAdd, Nat.reduceSub, Nat.reduceMul, Nat.reduceLT, Nat.reduceLeDiff, Nat.reduceBEq, Int.reduceEq, Int.reduceLT, Int.reduceLE, Int.reduceAdd, Int.reduceSub, Int.reduceNeg, Int.reduceToNat]
  · have hall : (∀ i, i < sc.length → i ≤ 70 → (sc.getD i []).length ≤ 70) := fun i hi h70 => h3 i (by omega)
    have e : few14 d sc = (few12 d && decide (sc.length ≤ 70)) := by
      unfold few14; rw [Bool.eq_iff_iff, decide_eq_true_eq, Bool.and_eq_true, decide_eq_true_eq]
      exact ⟨fun h => h.2, fun h => ⟨hall, h⟩⟩
    rw [e]
    by_cases e1 : (n : Int) < (sc.length : Int)
    · have e2 : ¬ (n : Int) ≤ 70 := by omega
      cases hf : few12 d with
      | true =>
        simp only [Doc.enc, dDoc_mk, Doc.eta, e1, e2, hf, sumFew12_f, sumFew12_D, sumFew12_flat, sumFew12_r, go_sem, wpR_gcall, reduceCtorEq, reduceIte, Nat.reduceEqDiff, Nat.reduceAdd, Nat.reduceSub, Nat.reduceMul, Nat.reduceLT, Nat.reduceLeDiff, Nat.reduceBEq, Int.reduceEq, Int.reduceLT, Int.reduceLE, Int.reduceAdd, Int.reduceSub, Int.reduceNeg, Int.reduceToNat]
        rw [decide_eq_decide]; omega
      | false => simp only [Doc.enc, dDoc_mk, Doc.eta, e1, e2, hf, sumFew12_f, sumFew12_D, sumFew12_flat, sumFew12_r, go_sem, wpR_gcall, reduceCtorEq, reduceIte, Nat.reduceEqDiff, Nat.reduceAdd, Nat.reduceSub, Nat.reduceMul, Nat.reduceLT, Nat.reduceLeDiff, Nat.reduceBEq, Int.reduceEq, Int.reduceLT, Int.reduceLE, Int.reduceAdd, Int.reduceSub, Int.reduceNeg, Int.reduceToNat]
    · cases hf : few12 d with
      | true =>
        simp only [Doc.enc, dDoc_mk, Doc.eta, e1, hf, sumFew12_f, sumFew12_D, sumFew12_flat, sumFew12_r, go_sem, wpR_gcall, reduceCtorEq, reduceIte, Nat.reduceEqDiff, Nat.reduceAdd, Nat.reduceSub, Nat.reduceMul, Nat.reduceLT, Nat.reduceLeDiff, Nat.reduceBEq, Int.reduceEq, Int.reduceLT, Int.reduceLE, Int.reduceAdd, Int.reduceSub, Int.reduceNeg, Int.reduceToNat]
        rw [decide_eq_decide]; omega
      | false => simp only [Doc.enc, dDoc_mk, Doc.eta, e1, hf, sumFew12_f, sumFew12_D, sumFew12_flat, sumFew12_r, go_sem, wpR_gcall, reduceCtorEq, reduceIte, Nat.reduceEqDiff, Nat.reduceAdd, Nat.reduceSub, Nat.reduceMul, Nat.reduceLT, Nat.reduceLeDiff, Nat.reduceBEq, Int.reduceEq, Int.reduceLT, Int.reduceLE, Int.reduceAdd, Int.reduceSub, Int.reduceNeg, Int.reduceToNat]
def sumFew14 : Sum Try.prog := ⟨8, fun args => args = [.agg (Doc.enc (dDoc (args.getD 0 .any))), intss (dIntss (args.getD 1 .any))], fun args => vb (few14 (dDoc (args.getD 0 .any)) (dIntss (args.getD 1 .any))), fun args h => by
  have := few14_ok (dDoc (args.getD 0 .any)) (dIntss (args.getD 1 .any)); rwa [← h] at this, true⟩
theorem sumFew14_f : sumFew14.f = 8 := rfl
theorem sumFew14_D (args : List V) : sumFew14.D args = (args = [.agg (Doc.enc (dDoc (args.getD 0 .any))), intss (dIntss (args.getD 1 .any))]) := rfl
theorem sumFew14_flat : sumFew14.flat = true := rfl
theorem sumFew14_r (args : List V) : sumFew14.r args = vb (few14 (dDoc (args.getD 0 .any)) (dIntss (args.getD 1 .any))) := rfl
theorem few14_ss {d : Doc} {sc : List (List Int)} (h : few14 d sc = true) : few12 d = true ∧ sc.length ≤ 70 ∧ ∀ t ∈ sc, t.length ≤ 70 := by
  unfold few14 at h; rw [decide_eq_true_eq] at h
  refine ⟨h.2.1, h.2.2, fun t ht => ?_⟩
  obtain ⟨i, hi, rfl⟩ := List.mem_iff_getElem.1 ht
  have := h.1 i hi (by omega)
  rwa [List.getD_eq_getElem?_getD, List.getElem?_eq_getElem hi] at this
theorem few14_okS {d : Doc} {sc : List (List Int)} (h : few14 d sc = true) : okS sc := ⟨by have := (few14_ss h).2.1; omega, fun t ht => by have := (few14_ss h).2.2 t ht; omega⟩
structure OwS where
  n : Nat
  ver : Nat
  clk : Nat
theorem own14_ok (sc : List (List Int)) (hs : okS sc) : PCall Try.prog 11 [intss sc] (intss sc) := by
  refine PCall.of (Orc.nil _) c11_ok (by simp [c11]) fun w0 own0 => ?_
  obtain ⟨hs1, hs2⟩ := hs
  simp only [c11, intss, go_sem, wpR_gcall, reduceCtorEq, reduceIte, Nat.reduceEqDiff, Nat.reduceAdd, Nat.reduceSub, Nat.reduceMul, Nat.reduceLT, Nat.reduceLeDiff, Nat.reduceBEq, Int.reduceEq, Int.reduceLT, Int.reduceLE, Int.reduceAdd, Int.reduceSub, Int.reduceNeg, Int.reduceToNat]
  refine SemC.lq (α := OwS) (fun a => [(3, .ref 0 a.ver 0 a.n), (6, .slc 1 (sc.map fun s => [.slc 1 (s.map fun n => [vi n])])), (7, vi sc.length), (8, vi a.n)])
    (fun a => ⟨[⟨a.ver, 1, (sc.take a.n).map fun s => [.slc 1 (s.map fun n => [vi n])], false, [vnil]⟩], a.clk⟩) (fun a => a.n ≤ sc.length) (fun a => sc.length - a.n) ⟨0, 0, 1⟩ (Nat.zero_le _)
    (St.nil 3 1 [vnil] (by simp [upd_at]) (St.cut ?_ ?_ ?_)) fun a ha => ?_
  · simp [Agrees, upd_at, initE_at]
  · simp [Heap.alloc]
  · rfl
  obtain ⟨n, ver, clk⟩ := a
  simp only at ha
  by_cases he : n = sc.length
  · subst he
    simp only [Int.lt_irrefl, List.take_length, Nat.le_refl, mapO_intss11, go_sem, wpR_gcall, reduceCtorEq, reduceIte, Nat.reduceEqDiff, Nat.reduceAdd, Nat.reduceSub, Nat.reduceMul, Nat.reduceLT, Nat.reduceLeDiff, Nat.reduceBEq, Int.reduceEq, Int.reduceLT, Int.reduceLE, Int.reduceAdd, Int.reduceSub, Int.reduceNeg, Int.reduceToNat]
  · have e1 : (n : Int) < (sc.length : Int) := by omega
    have e0 : (0 : Int) ≤ (n : Int) := by omega
    have hg := getD_intss sc n [vnil] (by omega)
    have hsl : (sc.getD n []).length ≤ 1000000 := by
      rw [List.getD_eq_getElem?_getD, List.getElem?_eq_getElem (by omega)]; exact hs2 _ (List.getElem_mem _)
    have hts : sc.take (n + 1) = sc.take n ++ [sc.getD n []] := by
      rw [List.take_add_one, List.getD_eq_getElem?_getD, List.getElem?_eq_getElem (by omega)]; rfl
    have htl : (sc.take n).length = n := by rw [List.length_take]; omega
    generalize hseg : sc.getD n [] = t at *
    have htt : (sc.take n).take n = sc.take n := List.take_of_length_le (by omega)
    simp only [e0, e1, hg, htl, htt, go_sem, wpR_gcall, reduceCtorEq, reduceIte, Nat.reduceEqDiff, Nat.reduceAdd, Nat.reduceSub, Nat.reduceMul, Nat.reduceLT, Nat.reduceLeDiff, Nat.reduceBEq, Int.reduceEq, Int.reduceLT, Int.reduceLE, Int.reduceAdd, Int.reduceSub, Int.reduceNeg, Int.reduceToNat]
    refine ⟨⟨by omega, by omega⟩, ⟨by omega, by omega, by omega⟩, by omega, ⟨n + 1, clk + 3, clk + 4⟩, by dsimp only; omega, by dsimp only; omega, ?_⟩
    have hml : ((sc.take n).map fun s => [V.slc 1 (s.map fun n => [vi n])]).length = n := by simp; omega
    refine St.sealC (fun j => j == 1) 0 n 0 (y := .slc 1 (t.map fun n => [vi n])) rfl ?_ (St.cut ?_ ?_ ?_)
    · have := getD_end ((sc.take n).map fun s => [V.slc 1 (s.map fun n => [vi n])]) [V.ref 1 (clk + 1) 0 t.length] []
      rw [hml] at this
      simp only [this, List.getD_cons_zero]
      rw [res11_ref]
      have ht3 : (t.map fun n => [vi n]).take t.length = t.map fun n => [vi n] := List.take_of_length_le (by simp)
      simp [Heap.cur, Heap.blk, ht3]
      exact mapO_ints10 _ _ t
    · simp [Agrees, upd_at, ev_cons]
    · have := getD_end ((sc.take n).map fun s => [V.slc 1 (s.map fun n => [vi n])]) [V.ref 1 (clk + 1) 0 t.length] []
      have h2 := set_end ((sc.take n).map fun s => [V.slc 1 (s.map fun n => [vi n])]) [V.ref 1 (clk + 1) 0 t.length] [.slc 1 (t.map fun n => [vi n])]
      rw [hml] at this h2
      simp only [Heap.freeze, List.mapIdx_cons, List.set_cons_zero, List.length_cons, List.length_nil, Nat.zero_add, List.take_succ_cons, List.take_zero, this, List.set_cons_zero, h2, hts, List.map_append, List.map_cons, List.map_nil]
      rfl
    · rfl
structure WhS where
  n : Nat
  pre : List (List Int)
  last : List Int
  v1 : Nat
  v2 : Nat
  clk : Nat
def whH (d : Doc) (a : WhS) : Heap := if a.n = 0 then ⟨[⟨0, 5, [d.enc], false, []⟩, ⟨a.v1, 1, [], false, [vnil]⟩], a.clk⟩ else
  ⟨[⟨0, 5, [d.enc], false, []⟩, ⟨a.v1, 1, (a.pre.map fun s => [.slc 1 (s.map fun n => [vi n])]) ++ [[.ref 2 a.v2 0 a.last.length]], false, [vnil]⟩, ⟨a.v2, 1, a.last.map fun n => [vi n], false, [vi 0]⟩], a.clk⟩
theorem whH_zero (d : Doc) (pre : List (List Int)) (last : List Int) (v1 v2 clk : Nat) : whH d ⟨0, pre, last, v1, v2, clk⟩ = ⟨[⟨0, 5, [d.enc], false, []⟩, ⟨v1, 1, [], false, [vnil]⟩], clk⟩ := rfl
theorem whH_pos (d : Doc) (n : Nat) (h : n ≠ 0) (pre : List (List Int)) (last : List Int) (v1 v2 clk : Nat) : whH d ⟨n, pre, last, v1, v2, clk⟩ = ⟨[⟨0, 5, [d.enc], false, []⟩, ⟨v1, 1, (pre.map fun s => [.slc 1 (s.map fun n => [vi n])]) ++ [[.ref 2 v2 0 last.length]], false, [vnil]⟩, ⟨v2, 1, last.map fun n => [vi n], false, [vi 0]⟩], clk⟩ := by
  unfold whH; rw [if_neg h]
theorem whole_ok (d : Doc) (hl : d.l.length ≤ 1000) : PCall Try.prog 16 [.agg d.enc] (intss (whlV d)) := by
  refine PCall.of (Orc.cons sumInA (Orc.cons sumFrc (Orc.cons sumChanges (Orc.nil _)))) c16_ok (by simp [c16]) fun w0 own0 => ?_
  have hil : (inV d).length ≤ 1000 := by
    unfold inV; split
    · have := inL_len d; omega
    · simp
  generalize hI : inV d = l at *
  have hW : whlV d = whl d l l.length := by unfold whlV; rw [hI]
  rw [hW]
  simp only [c16, Doc.enc, dDoc_mk, Doc.eta, hl, hI, ints, intss, sumInA_f, sumInA_D, sumInA_flat, sumInA_r, sumFrc_f, sumFrc_D, sumFrc_flat, sumFrc_r, sumChanges_f, sumChanges_D, sumChanges_flat, sumChanges_r, go_sem, wpR_gcall, reduceCtorEq, reduceIte, Nat.reduceEqDiff, Nat.reduceAdd, Nat.reduceSub, Nat.reduceMul, Nat.reduceLT, Nat.reduceLeDiff, Nat.reduceBEq, Int.reduceEq, Int.reduceLT, Int.reduceLE, Int.reduceAdd, Int.reduceSub, Int.reduceNeg, Int.reduceToNat]
  refine SemC.lq (α := WhS) (fun a => [(1, .ptr 0 0 0 0), (3, .ref 1 a.v1 0 (whl d l a.n).length), (7, .slc 1 (l.map fun n => [vi n])), (8, vi l.length), (9, vi a.n)])
    (whH d) (fun a => a.n ≤ l.length ∧ (a.n ≠ 0 → whl d l a.n = a.pre ++ [a.last])) (fun a => l.length - a.n) ⟨0, [], [], 1, 0, 2⟩ ⟨Nat.zero_le _, fun h => absurd rfl h⟩
    (St.nil 3 1 [vnil] (by simp [upd_at]) (St.cut ?_ ?_ ?_)) fun a ha => ?_
  · simp [Agrees, upd_at, initE_at, whl]
  · simp [Heap.alloc, whH, Doc.enc]
  · rfl
  obtain ⟨n, pre, last, v1, v2, clk⟩ := a
  simp only at ha
  obtain ⟨h1, h2⟩ := ha
  have hwl := whl_len d l n
  by_cases he : n = l.length
  · by_cases h0 : n = 0
    · subst h0
      rw [whH_zero]
      have e : l.length = 0 := he.symm
      simp only [Doc.enc, e, whl, Int.lt_irrefl, go_sem, wpR_gcall, reduceCtorEq, reduceIte, Nat.reduceEqDiff, Nat.reduceAdd, Nat.reduceSub, Nat.reduceMul, Nat.reduceLT, Nat.reduceLeDiff, Nat.reduceBEq, Int.reduceEq, Int.reduceLT, Int.reduceLE, Int.reduceAdd, Int.reduceSub, Int.reduceNeg, Int.reduceToNat]
    · rw [whH_pos d n h0]
      have hs := h2 h0
      subst he
      rw [hs]
      simp only [Doc.enc, Int.lt_irrefl, go_sem, wpR_gcall, reduceCtorEq, reduceIte, Nat.reduceEqDiff, Nat.reduceAdd, Nat.reduceSub, Nat.reduceMul, Nat.reduceLT, Nat.reduceLeDiff, Nat.reduceBEq, Int.reduceEq, Int.reduceLT, Int.reduceLE, Int.reduceAdd, Int.reduceSub, Int.reduceNeg, Int.reduceToNat]
      rw [if_pos (by simp), List.take_of_length_le (by simp)]
      have ht3 : (last.map fun n => [vi n]).take last.length = last.map fun n => [vi n] := List.take_of_length_le (by simp)
      rw [mapO_app (mapO_intss11 _ _ pre) (show _ = some [[V.slc 1 (last.map fun n => [vi n])]] from ?_)]
      · simp
      · simp only [mapO, res11_ref]
        simp [Heap.cur, Heap.blk, ht3]
        rw [mapO_ints10]; rfl
  · have e1 : (n : Int) < (l.length : Int) := by omega
    have e0 : (0 : Int) ≤ (n : Int) := by omega
    by_cases h0 : n = 0
    · subst h0
      rw [whH_zero]
      have hw1 : whl d l 1 = [] ++ [[l.getD 0 0]] := whl_new d l 0 (by unfold newS; simp)
      simp only [Doc.enc, dDoc_mk, Doc.eta, hl, e0, e1, whl, on_gcall, off_gcall, flat_gcall, sumInA_f, sumInA_D, sumInA_flat, sumInA_r, sumFrc_f, sumFrc_D, sumFrc_flat, sumFrc_r, sumChanges_f, sumChanges_D, sumChanges_flat, sumChanges_r, go_sem, reduceCtorEq, reduceIte, Nat.reduceEqDiff, Nat.reduceAdd, Nat.reduceSub, Nat.reduceMul, Nat.reduceLT, Nat.reduceLeDiff, Nat.reduceBEq, Int.reduceEq, Int.reduceLT, Int.reduceLE, Int.reduceAdd, Int.reduceSub, Int.reduceNeg, Int.reduceToNat]
      refine ⟨fun h => ⟨h, ⟨1, [], [l.getD 0 0], clk + 1, clk + 4, clk + 5⟩, ⟨by dsimp only; omega, fun _ => hw1⟩, by dsimp only; omega, St.shiftC 1 0 0 2 4 3 rfl rfl rfl rfl (by decide) (by decide) (by simp) (by decide) (by decide) (St.cut ?_ ?_ ?_)⟩, fun h => absurd (by omega) h⟩
      · simp [Agrees, upd_at, ev_cons, hw1]
      · simp [whH, Doc.enc]
      · simp [whH]
    · have hs := h2 h0
      have hwl2 : (whl d l n).length = pre.length + 1 := by rw [hs]; simp
      have hg1 : (0 : Int) ≤ ((pre.length + 1 : Nat) : Int) - 1 := by omega
      have hml : (pre.map fun s => [V.slc 1 (s.map fun n => [vi n])]).length = pre.length := by simp
      have n0 : ¬ (n : Int) = 0 := by omega
      have hpl : pre.length + 1 ≤ 1000 := by omega
      rw [whH_pos d n h0, hwl2]
      have hseg : ∀ s : List Int, (pre ++ [s]).map (fun s => [V.slc 1 (s.map fun n => [vi n])]) = (pre.map fun s => [V.slc 1 (s.map fun n => [vi n])]) ++ [[V.slc 1 (s.map fun n => [vi n])]] := fun s => by simp
      generalize hA : (pre.map fun s => [V.slc 1 (s.map fun n => [vi n])]) = A at *
      have z1 : (((pre.length + 1 + 1 : Nat) : Int) - 1).toNat = pre.length + 1 := by omega
      have z2 : (((pre.length + 1 : Nat) : Int) - 1).toNat = pre.length := by omega
      have a1 : ∀ x : List V, (A ++ [x]).take (pre.length + 1) = A ++ [x] := fun x => List.take_of_length_le (by simp; omega)
      have a2 : ∀ x : List V, (A ++ [x]).length = pre.length + 1 := fun x => by simp; omega
      have a3 : ∀ x y : List V, (A ++ [x] ++ [y]).length = pre.length + 1 + 1 := fun x y => by simp; omega
      have a4 : ∀ x d : List V, (A ++ [x]).getD pre.length d = x := fun x d => by rw [← hml]; exact getD_end A x d
      have a5 : ∀ x y d : List V, (A ++ [x] ++ [y]).getD (pre.length + 1) d = y := fun x y d => by rw [← a2 x]; exact getD_end _ y d
      have a6 : ∀ x y : List V, (A ++ [x]).set pre.length y = A ++ [y] := fun x y => by rw [← hml]; exact set_end A x y
      have a7 : ∀ x y z : List V, (A ++ [x] ++ [y]).set (pre.length + 1) z = A ++ [x] ++ [z] := fun x y z => by rw [← a2 x]; exact set_end _ y z
      have a8 : ∀ x y d : List V, (A ++ [x] ++ [y]).getD pre.length d = x := fun x y d => by
        rw [List.getD_eq_getElem?_getD, List.getElem?_append_left (by rw [a2]; omega), ← List.getD_eq_getElem?_getD]; exact a4 x d
      have a9 : ∀ x y z : List V, (A ++ [x] ++ [y]).set pre.length z = A ++ [z] ++ [y] := fun x y z => by
        rw [List.set_append_left _ _ (by rw [a2]; omega), a6]
      have b1 : pre.length < pre.length + 1 := by omega
      have b2 : pre.length + 1 < pre.length + 1 + 1 := by omega
      have b3 : (0 : Int) ≤ ((pre.length + 1 + 1 : Nat) : Int) - 1 ∧ ((pre.length + 1 + 1 : Nat) : Int) - 1 < ((pre.length + 1 + 1 : Nat) : Int) := by omega
      have b4 : (0 : Int) ≤ ((pre.length + 1 : Nat) : Int) - 1 ∧ ((pre.length + 1 : Nat) : Int) - 1 < ((pre.length + 1 : Nat) : Int) := by omega
      have b5 : -9223372036854775808 ≤ ((pre.length + 1 + 1 : Nat) : Int) - 1 ∧ ((pre.length + 1 + 1 : Nat) : Int) - 1 ≤ 9223372036854775807 := by omega
      have b6 : -9223372036854775808 ≤ ((pre.length + 1 : Nat) : Int) - 1 ∧ ((pre.length + 1 : Nat) : Int) - 1 ≤ 9223372036854775807 := by omega
      by_cases hnew : newS d n (l.getD n 0) = true
      · have hw1 := whl_new d l n hnew
        rw [hs] at hw1
        by_cases hf : frcV d (l.getD n 0) = true
        · simp only [Doc.enc, dDoc_mk, Doc.eta, hl, e0, e1, n0, hf, z1, z2, a1, a2, a3, a4, a5, a6, a7, b1, b2, b3, b4, b5, b6, Nat.le_refl, on_gcall, off_gcall, flat_gcall, sumInA_f, sumInA_D, sumInA_flat, sumInA_r, sumFrc_f, sumFrc_D, sumFrc_flat, sumFrc_r, sumChanges_f, sumChanges_D, sumChanges_flat, sumChanges_r, go_sem, reduceCtorEq, reduceIte, Nat.reduceEqDiff, Nat.reduceAdd, Nat.reduceSub, Nat.reduceMul, Nat.reduceLT, Nat.reduceLeDiff, Nat.reduceBEq, Int.reduceEq, Int.reduceLT, Int.reduceLE, Int.reduceAdd, Int.reduceSub, Int.reduceNeg, Int.reduceToNat]
          refine ⟨⟨by omega, by omega⟩, by omega, ⟨n + 1, pre ++ [last], [l.getD n 0], clk + 1, clk + 4, clk + 5⟩, ⟨by dsimp only; omega, fun _ => hw1⟩, by dsimp only; omega,
            St.sealC (fun j => j == 2) 1 pre.length 0 (y := .slc 1 (last.map fun n => [vi n])) rfl ?_ (St.shiftC (v := clk + 1 + 1 + 1) (off := 0) (n := 1) 1 (pre.length + 1) 0 2 5 3 rfl rfl ?_ rfl (by decide) (by decide) (by simp [Heap.freeze]) (by decide) (by decide) (St.cut ?_ ?_ ?_))⟩
          · have ht3 : (last.map fun n => [vi n]).take last.length = last.map fun n => [vi n] := List.take_of_length_le (by simp)
            simp only [a8, List.getD_cons_zero]
            rw [res11_ref]
            simp [Heap.cur, Heap.blk, ht3]
            exact mapO_ints10 _ _ last
          · simp only [a8, a9, a5, List.getD_cons_zero, List.set_cons_zero]
          · simp [Agrees, upd_at, ev_cons, hw1]
          · simp only [Heap.freeze, List.mapIdx_cons, List.mapIdx_nil, List.set_cons_succ, List.set_cons_zero, a8, a9, a5, a7, List.getD_cons_zero]
            simp [whH, Doc.enc, hseg, hA]
          · simp [whH, Heap.freeze]
        · have hc : chV13 d (l.getD n 0) = true := by unfold newS at hnew; simp only [h0, hf, decide_false, Bool.false_or, Bool.or_eq_true, false_or] at hnew; simpa using hnew
          simp only [Doc.enc, dDoc_mk, Doc.eta, hl, e0, e1, n0, hf, hc, z1, z2, a1, a2, a3, a4, a5, a6, a7, b1, b2, b3, b4, b5, b6, Nat.le_refl, on_gcall, off_gcall, flat_gcall, sumInA_f, sumInA_D, sumInA_flat, sumInA_r, sumFrc_f, sumFrc_D, sumFrc_flat, sumFrc_r, sumChanges_f, sumChanges_D, sumChanges_flat, sumChanges_r, go_sem, reduceCtorEq, reduceIte, Nat.reduceEqDiff, Nat.reduceAdd, Nat.reduceSub, Nat.reduceMul, Nat.reduceLT, Nat.reduceLeDiff, Nat.reduceBEq, Int.reduceEq, Int.reduceLT, Int.reduceLE, Int.reduceAdd, Int.reduceSub, Int.reduceNeg, Int.reduceToNat]
          refine ⟨⟨by omega, by omega⟩, by omega, ⟨n + 1, pre ++ [last], [l.getD n 0], clk + 1, clk + 4, clk + 5⟩, ⟨by dsimp only; omega, fun _ => hw1⟩, by dsimp only; omega,
            St.sealC (fun j => j == 2) 1 pre.length 0 (y := .slc 1 (last.map fun n => [vi n])) rfl ?_ (St.shiftC (v := clk + 1 + 1 + 1) (off := 0) (n := 1) 1 (pre.length + 1) 0 2 5 3 rfl rfl ?_ rfl (by decide) (by decide) (by simp [Heap.freeze]) (by decide) (by decide) (St.cut ?_ ?_ ?_))⟩
          · have ht3 : (last.map fun n => [vi n]).take last.length = last.map fun n => [vi n] := List.take_of_length_le (by simp)
            simp only [a8, List.getD_cons_zero]
            rw [res11_ref]
            simp [Heap.cur, Heap.blk, ht3]
            exact mapO_ints10 _ _ last
          · simp only [a8, a9, a5, List.getD_cons_zero, List.set_cons_zero]
          · simp [Agrees, upd_at, ev_cons, hw1]
          · simp only [Heap.freeze, List.mapIdx_cons, List.mapIdx_nil, List.set_cons_succ, List.set_cons_zero, a8, a9, a5, a7, List.getD_cons_zero]
            simp [whH, Doc.enc, hseg, hA]
          · simp [whH, Heap.freeze]
      · have hw1 := whl_old d l n hnew hs
        have hf : frcV d (l.getD n 0) = false ∧ chV13 d (l.getD n 0) = false := by unfold newS at hnew; simpa [h0] using hnew
        obtain ⟨hf, hc⟩ := hf
        have ht3 : (last.map fun n => [vi n]).take last.length = last.map fun n => [vi n] := List.take_of_length_le (by simp)
        have hll : last.length ≤ n := by
          have := congrArg List.length (whl_flat d l n (by omega)).1
          rw [hs] at this; simp at this; omega
        simp only [Doc.enc, dDoc_mk, Doc.eta, hl, e0, e1, n0, hf, hc, ht3, List.length_map, z1, z2, a1, a2, a3, a4, a5, a6, a7, b1, b2, b3, b4, b5, b6, Nat.le_refl, on_gcall, off_gcall, flat_gcall, sumInA_f, sumInA_D, sumInA_flat, sumInA_r, sumFrc_f, sumFrc_D, sumFrc_flat, sumFrc_r, sumChanges_f, sumChanges_D, sumChanges_flat, sumChanges_r, go_sem, reduceCtorEq, reduceIte, Nat.reduceEqDiff, Nat.reduceAdd, Nat.reduceSub, Nat.reduceMul, Nat.reduceLT, Nat.reduceLeDiff, Nat.reduceBEq, Int.reduceEq, Int.reduceLT, Int.reduceLE, Int.reduceAdd, Int.reduceSub, Int.reduceNeg, Int.reduceToNat]
        refine ⟨⟨by omega, by omega⟩, by omega, ⟨n + 1, pre, last ++ [l.getD n 0], v1, clk + 1, clk + 2⟩, ⟨by dsimp only; omega, fun _ => hw1⟩, by dsimp only; omega, St.cut ?_ ?_ ?_⟩
        · simp [Agrees, upd_at, ev_cons, hw1]
        · simp [whH, Doc.enc, hA]
        · simp [whH]
end Go.Proofs.Ytjgkejnojggaaaa
