/- Layer 7: four lengths. -/
import Derived.Test.YtilinnmancfjgaaGreatDoorV7n
namespace Go.Proofs.YtilinnmancfjgaaGreatDoor
open Go.Sx
set_option linter.unusedSimpArgs false
set_option maxHeartbeats 4000000
set_option maxRecDepth 20000

def lnsL : List Pa → Option (List Int)
  | [] => some []
  | p :: l => match lenO p.t with | none => none | some n => (lnsL l).map (n :: ·)
def fourL : List Int → List Int
  | [a] => [a, a, a, a]
  | [a, b] => [a, b, a, b]
  | [a, b, c] => [a, b, c, b]
  | l => l
def lnsO (l : List Tok) : Option (List Int) := if ptB l = true ∧ 1 ≤ (pl l).length ∧ (pl l).length ≤ 4 then (lnsL (pl l)).map fourL else none
def lnsR : Option (List Int) → V
  | none => .tup [vnil, vb false]
  | some l => .tup [ints l, vb true]
def lnsV (o : Option (List Int)) : V := .tup [ints (o.getD []), vb o.isSome]
theorem lnsR_sub (o : Option (List Int)) {f : FuncId} {args : List V} (h : PCall Tryz.prog f args (lnsR o)) : PCall Tryz.prog f args (lnsV o) := by
  cases o with
  | some l => exact h
  | none =>
    refine PCall.rsub h fun F w v hp => ?_
    cases hp with
    | tup cs _ hl hx =>
      refine .tup cs _ hl fun i hi => ?_
      have := hx i hi
      match i, hi with
      | 0, _ => exact PRep.nilS 1 this
      | 1, _ => exact this
theorem lnsL_len : ∀ (l : List Pa) (n : List Int), lnsL l = some n → n.length = l.length
  | [], n, h => by simp [lnsL] at h; subst h; rfl
  | p :: l, n, h => by
    simp only [lnsL] at h
    split at h
    · cases h
    · simp only [Option.map_eq_some_iff] at h
      obtain ⟨m, hm, rfl⟩ := h
      simp [lnsL_len l m hm]
structure LnS where
  k : Nat
  out : List Int
  ver : Nat
  clk : Nat
theorem lnsL_drop (L : List Pa) (k : Nat) (h : k < L.length) : lnsL (L.drop k) = match lenO (L.getD k default).t with | none => none | some n => (lnsL (L.drop (k + 1))).map (n :: ·) := by
  rw [par_drop L k h]; rfl
theorem lengths_ok (l : List Tok) (h : okT l) : PCall Tryz.prog 13 [toks l] (lnsR (lnsO l)) := by
  refine PCall.of (Orc.cons sumPts (Orc.cons sumLen (Orc.nil _))) c13_ok (by simp [c13]) fun w0 own0 => ?_
  have h1 := h.1
  have hm := pl_mem h
  unfold lnsO
  have hlen := pl_len l
  by_cases hc : ptB l = true ∧ 1 ≤ (pl l).length ∧ (pl l).length ≤ 4
  · rw [if_pos hc]
    obtain ⟨c1, c2, c3⟩ := hc
    generalize hL : pl l = L at *
    generalize hR : (lnsL L).map fourL = R
    have g1 : ¬ ((L.length : Int) < 1) := by omega
    have g2 : ¬ ((4 : Int) < (L.length : Int)) := by omega
    have g3 : ¬ ((L.length : Int) = 0) := by omega
    simp only [c13, toks, dToks_map, h1, plV, hL, c1, g1, g2, g3, go_sem, wpR_gcall, reduceCtorEq, reduceIte, Nat.reduceEqDiff, Nat.reduceAdd, Nat.reduceSub, Nat.reduceMul, Nat.reduceLT, Nat.reduceLeDiff, Nat.reduceBEq, Int.reduceEq, Int.reduceLT, Int.reduceLE, Int.reduceAdd, Int.reduceSub, Int.reduceNeg, Int.reduceToNat]
    refine SemC.lp (α := LnS) (fun a => [(6, .ref 0 a.ver 0 a.out.length), (4, .slc 4 (L.map Pa.enc)), (32, .slc 4 (L.map Pa.enc)), (33, vi L.length), (34, vi a.k)])
      (fun a => ⟨[⟨a.ver, 1, a.out.map fun n => [vi n], false, [vi 0]⟩], a.clk⟩) (fun a => a.k ≤ L.length ∧ a.out.length = a.k ∧ ((lnsL (L.drop a.k)).map (a.out ++ ·)).map fourL = R) (fun a => L.length - a.k) ⟨0, [], 0, 1⟩
      ⟨Nat.zero_le _, rfl, by rw [← hR]; simp only [List.drop_zero, List.nil_append]; cases lnsL L <;> rfl⟩ (St.nil 6 1 [vi 0] (by simp [upd_at]) (St.cut ?_ ?_ ?_)) fun a ha => ?_
    · simp [Agrees, upd_at, initE_at]
    · simp [Heap.alloc]
    · rfl
    obtain ⟨k, out, ver, clk⟩ := a
    obtain ⟨h2, h3, h4⟩ := ha
    simp only at h2 h3 h4
    by_cases hk : k = L.length
    · subst hk
      rw [List.drop_length] at h4
      simp only [lnsL, Option.map_some, List.append_nil] at h4
      subst h4
      have hcase : (∃ a, out = [a]) ∨ (∃ a b, out = [a, b]) ∨ (∃ a b c, out = [a, b, c]) ∨ ∃ a b c d, out = [a, b, c, d] := by
        match out, h3 with
        | [], h3 => simp at h3; omega
        | [a], _ => exact .inl ⟨a, rfl⟩
        | [a, b], _ => exact .inr (.inl ⟨a, b, rfl⟩)
        | [a, b, c], _ => exact .inr (.inr (.inl ⟨a, b, c, rfl⟩))
        | [a, b, c, d], _ => exact .inr (.inr (.inr ⟨a, b, c, d, rfl⟩))
        | _ :: _ :: _ :: _ :: _ :: r, h3 => simp at h3; omega
      rcases hcase with ⟨a, rfl⟩ | ⟨a, b, rfl⟩ | ⟨a, b, c, rfl⟩ | ⟨a, b, c, d, rfl⟩
      · have hLn : (L.length : Int) = 1 := by rw [← h3]; rfl
        simp only [Int.lt_irrefl, fourL, lnsR, ints, List.map_cons, List.map_nil, go_sem, wpR_gcall, reduceCtorEq, reduceIte, Nat.reduceEqDiff, Nat.reduceAdd, Nat.reduceSub, Nat.reduceMul, Nat.reduceLT, Nat.reduceLeDiff, Nat.reduceBEq, Int.reduceEq, Int.reduceLT, Int.reduceLE, Int.reduceAdd, Int.reduceSub, Int.reduceNeg, Int.reduceToNat]
        refine SemC.lp (α := LnS) (fun s => [(6, .ref 0 ver 0 1), (12, .ref 6 s.ver 0 s.k), (61, .ref 1 clk 0 4), (62, vi 4), (63, vi s.k)])
          (fun s => ⟨[⟨ver, 1, [[vi a]], false, [vi 0]⟩, ⟨clk, 1, [[vi 0], [vi 0], [vi 0], [vi 0]], false, [vi 0]⟩, ⟨clk + 1, 1, [[vi 0], [vi 1], [vi 0], [vi 1]], false, [vi 0]⟩, ⟨clk + 1 + 1, 1, [[vi 0], [vi 1], [vi 2], [vi 1]], false, [vi 0]⟩, ⟨clk + 1 + 1 + 1, 1, [[vi 0], [vi 1], [vi 2], [vi 3]], false, [vi 0]⟩, ⟨clk + 1 + 1 + 1 + 1, 1, [[.ref 1 clk 0 4], [.ref 2 (clk + 1) 0 4], [.ref 3 (clk + 1 + 1) 0 4], [.ref 4 (clk + 1 + 1 + 1) 0 4]], false, [vnil]⟩, ⟨s.ver, 1, (([a, a, a, a] : List Int).take s.k).map fun n => [vi n], false, [vi 0]⟩], s.clk⟩) (fun s => s.k ≤ 4) (fun s => 4 - s.k) ⟨0, [], clk + 1 + 1 + 1 + 1 + 1, clk + 1 + 1 + 1 + 1 + 1 + 1⟩
          (by dsimp only; omega) (St.nil 12 1 [vi 0] (by simp [upd_at]) (St.cut ?_ ?_ ?_)) fun s hs => ?_
        · simp [Agrees, upd_at, ev_cons]
        · simp [Heap.alloc]
        · rfl
        obtain ⟨k2, o2, v2, clk2⟩ := s
        simp only at hs
        rcases (show k2 = 0 ∨ k2 = 1 ∨ k2 = 2 ∨ k2 = 3 ∨ k2 = 4 by omega) with rfl | rfl | rfl | rfl | rfl
        all_goals simp only [List.take_zero, List.take_succ_cons, List.take_nil, List.map_cons, List.map_nil, go_sem, wpR_gcall, reduceCtorEq, reduceIte, Nat.reduceEqDiff, Nat.reduceAdd, Nat.reduceSub, Nat.reduceMul, Nat.reduceLT, Nat.reduceLeDiff, Nat.reduceBEq, Int.reduceEq, Int.reduceLT, Int.reduceLE, Int.reduceAdd, Int.reduceSub, Int.reduceNeg, Int.reduceToNat]
        · exact ⟨⟨1, [], clk2 + 1, clk2 + 1 + 1⟩, by dsimp only; omega, by dsimp only; omega, ⟨⟨rfl, rfl⟩, rfl⟩, ⟨rfl, rfl⟩, rfl⟩
        · exact ⟨⟨2, [], clk2 + 1, clk2 + 1 + 1⟩, by dsimp only; omega, by dsimp only; omega, ⟨⟨rfl, rfl⟩, rfl⟩, ⟨rfl, rfl⟩, rfl⟩
        · exact ⟨⟨3, [], clk2 + 1, clk2 + 1 + 1⟩, by dsimp only; omega, by dsimp only; omega, ⟨⟨rfl, rfl⟩, rfl⟩, ⟨rfl, rfl⟩, rfl⟩
        · exact ⟨⟨4, [], clk2 + 1, clk2 + 1 + 1⟩, by dsimp only; omega, by dsimp only; omega, ⟨⟨rfl, rfl⟩, rfl⟩, ⟨rfl, rfl⟩, rfl⟩
      · have hLn : (L.length : Int) = 2 := by rw [← h3]; rfl
        simp only [Int.lt_irrefl, fourL, lnsR, ints, List.map_cons, List.map_nil, go_sem, wpR_gcall, reduceCtorEq, reduceIte, Nat.reduceEqDiff, Nat.reduceAdd, Nat.reduceSub, Nat.reduceMul, Nat.reduceLT, Nat.reduceLeDiff, Nat.reduceBEq, Int.reduceEq, Int.reduceLT, Int.reduceLE, Int.reduceAdd, Int.reduceSub, Int.reduceNeg, Int.reduceToNat]
        refine SemC.lp (α := LnS) (fun s => [(6, .ref 0 ver 0 2), (12, .ref 6 s.ver 0 s.k), (61, .ref 2 (clk + 1) 0 4), (62, vi 4), (63, vi s.k)])
          (fun s => ⟨[⟨ver, 1, [[vi a], [vi b]], false, [vi 0]⟩, ⟨clk, 1, [[vi 0], [vi 0], [vi 0], [vi 0]], false, [vi 0]⟩, ⟨clk + 1, 1, [[vi 0], [vi 1], [vi 0], [vi 1]], false, [vi 0]⟩, ⟨clk + 1 + 1, 1, [[vi 0], [vi 1], [vi 2], [vi 1]], false, [vi 0]⟩, ⟨clk + 1 + 1 + 1, 1, [[vi 0], [vi 1], [vi 2], [vi 3]], false, [vi 0]⟩, ⟨clk + 1 + 1 + 1 + 1, 1, [[.ref 1 clk 0 4], [.ref 2 (clk + 1) 0 4], [.ref 3 (clk + 1 + 1) 0 4], [.ref 4 (clk + 1 + 1 + 1) 0 4]], false, [vnil]⟩, ⟨s.ver, 1, (([a, b, a, b] : List Int).take s.k).map fun n => [vi n], false, [vi 0]⟩], s.clk⟩) (fun s => s.k ≤ 4) (fun s => 4 - s.k) ⟨0, [], clk + 1 + 1 + 1 + 1 + 1, clk + 1 + 1 + 1 + 1 + 1 + 1⟩
          (by dsimp only; omega) (St.nil 12 1 [vi 0] (by simp [upd_at]) (St.cut ?_ ?_ ?_)) fun s hs => ?_
        · simp [Agrees, upd_at, ev_cons]
        · simp [Heap.alloc]
        · rfl
        obtain ⟨k2, o2, v2, clk2⟩ := s
        simp only at hs
        rcases (show k2 = 0 ∨ k2 = 1 ∨ k2 = 2 ∨ k2 = 3 ∨ k2 = 4 by omega) with rfl | rfl | rfl | rfl | rfl
        all_goals simp only [List.take_zero, List.take_succ_cons, List.take_nil, List.map_cons, List.map_nil, go_sem, wpR_gcall, reduceCtorEq, reduceIte, Nat.reduceEqDiff, Nat.reduceAdd, Nat.reduceSub, Nat.reduceMul, Nat.reduceLT, Nat.reduceLeDiff, Nat.reduceBEq, Int.reduceEq, Int.reduceLT, Int.reduceLE, Int.reduceAdd, Int.reduceSub, Int.reduceNeg, Int.reduceToNat]
        · exact ⟨⟨1, [], clk2 + 1, clk2 + 1 + 1⟩, by dsimp only; omega, by dsimp only; omega, ⟨⟨rfl, rfl⟩, rfl⟩, ⟨rfl, rfl⟩, rfl⟩
        · exact ⟨⟨2, [], clk2 + 1, clk2 + 1 + 1⟩, by dsimp only; omega, by dsimp only; omega, ⟨⟨rfl, rfl⟩, rfl⟩, ⟨rfl, rfl⟩, rfl⟩
        · exact ⟨⟨3, [], clk2 + 1, clk2 + 1 + 1⟩, by dsimp only; omega, by dsimp only; omega, ⟨⟨rfl, rfl⟩, rfl⟩, ⟨rfl, rfl⟩, rfl⟩
        · exact ⟨⟨4, [], clk2 + 1, clk2 + 1 + 1⟩, by dsimp only; omega, by dsimp only; omega, ⟨⟨rfl, rfl⟩, rfl⟩, ⟨rfl, rfl⟩, rfl⟩
      · have hLn : (L.length : Int) = 3 := by rw [← h3]; rfl
        simp only [Int.lt_irrefl, fourL, lnsR, ints, List.map_cons, List.map_nil, go_sem, wpR_gcall, reduceCtorEq, reduceIte, Nat.reduceEqDiff, Nat.reduceAdd, Nat.reduceSub, Nat.reduceMul, Nat.reduceLT, Nat.reduceLeDiff, Nat.reduceBEq, Int.reduceEq, Int.reduceLT, Int.reduceLE, Int.reduceAdd, Int.reduceSub, Int.reduceNeg, Int.reduceToNat]
        refine SemC.lp (α := LnS) (fun s => [(6, .ref 0 ver 0 3), (12, .ref 6 s.ver 0 s.k), (61, .ref 3 (clk + 1 + 1) 0 4), (62, vi 4), (63, vi s.k)])
          (fun s => ⟨[⟨ver, 1, [[vi a], [vi b], [vi c]], false, [vi 0]⟩, ⟨clk, 1, [[vi 0], [vi 0], [vi 0], [vi 0]], false, [vi 0]⟩, ⟨clk + 1, 1, [[vi 0], [vi 1], [vi 0], [vi 1]], false, [vi 0]⟩, ⟨clk + 1 + 1, 1, [[vi 0], [vi 1], [vi 2], [vi 1]], false, [vi 0]⟩, ⟨clk + 1 + 1 + 1, 1, [[vi 0], [vi 1], [vi 2], [vi 3]], false, [vi 0]⟩, ⟨clk + 1 + 1 + 1 + 1, 1, [[.ref 1 clk 0 4], [.ref 2 (clk + 1) 0 4], [.ref 3 (clk + 1 + 1) 0 4], [.ref 4 (clk + 1 + 1 + 1) 0 4]], false, [vnil]⟩, ⟨s.ver, 1, (([a, b, c, b] : List Int).take s.k).map fun n => [vi n], false, [vi 0]⟩], s.clk⟩) (fun s => s.k ≤ 4) (fun s => 4 - s.k) ⟨0, [], clk + 1 + 1 + 1 + 1 + 1, clk + 1 + 1 + 1 + 1 + 1 + 1⟩
          (by dsimp only; omega) (St.nil 12 1 [vi 0] (by simp [upd_at]) (St.cut ?_ ?_ ?_)) fun s hs => ?_
        · simp [Agrees, upd_at, ev_cons]
        · simp [Heap.alloc]
        · rfl
        obtain ⟨k2, o2, v2, clk2⟩ := s
        simp only at hs
        rcases (show k2 = 0 ∨ k2 = 1 ∨ k2 = 2 ∨ k2 = 3 ∨ k2 = 4 by omega) with rfl | rfl | rfl | rfl | rfl
        all_goals simp only [List.take_zero, List.take_succ_cons, List.take_nil, List.map_cons, List.map_nil, go_sem, wpR_gcall, reduceCtorEq, reduceIte, Nat.reduceEqDiff, Nat.reduceAdd, Nat.reduceSub, Nat.reduceMul, Nat.reduceLT, Nat.reduceLeDiff, Nat.reduceBEq, Int.reduceEq, Int.reduceLT, Int.reduceLE, Int.reduceAdd, Int.reduceSub, Int.reduceNeg, Int.reduceToNat]
        · exact ⟨⟨1, [], clk2 + 1, clk2 + 1 + 1⟩, by dsimp only; omega, by dsimp only; omega, ⟨⟨rfl, rfl⟩, rfl⟩, ⟨rfl, rfl⟩, rfl⟩
        · exact ⟨⟨2, [], clk2 + 1, clk2 + 1 + 1⟩, by dsimp only; omega, by dsimp only; omega, ⟨⟨rfl, rfl⟩, rfl⟩, ⟨rfl, rfl⟩, rfl⟩
        · exact ⟨⟨3, [], clk2 + 1, clk2 + 1 + 1⟩, by dsimp only; omega, by dsimp only; omega, ⟨⟨rfl, rfl⟩, rfl⟩, ⟨rfl, rfl⟩, rfl⟩
        · exact ⟨⟨4, [], clk2 + 1, clk2 + 1 + 1⟩, by dsimp only; omega, by dsimp only; omega, ⟨⟨rfl, rfl⟩, rfl⟩, ⟨rfl, rfl⟩, rfl⟩
      · have hLn : (L.length : Int) = 4 := by rw [← h3]; rfl
        simp only [Int.lt_irrefl, fourL, lnsR, ints, List.map_cons, List.map_nil, go_sem, wpR_gcall, reduceCtorEq, reduceIte, Nat.reduceEqDiff, Nat.reduceAdd, Nat.reduceSub, Nat.reduceMul, Nat.reduceLT, Nat.reduceLeDiff, Nat.reduceBEq, Int.reduceEq, Int.reduceLT, Int.reduceLE, Int.reduceAdd, Int.reduceSub, Int.reduceNeg, Int.reduceToNat]
        refine SemC.lp (α := LnS) (fun s => [(6, .ref 0 ver 0 4), (12, .ref 6 s.ver 0 s.k), (61, .ref 4 (clk + 1 + 1 + 1) 0 4), (62, vi 4), (63, vi s.k)])
          (fun s => ⟨[⟨ver, 1, [[vi a], [vi b], [vi c], [vi d]], false, [vi 0]⟩, ⟨clk, 1, [[vi 0], [vi 0], [vi 0], [vi 0]], false, [vi 0]⟩, ⟨clk + 1, 1, [[vi 0], [vi 1], [vi 0], [vi 1]], false, [vi 0]⟩, ⟨clk + 1 + 1, 1, [[vi 0], [vi 1], [vi 2], [vi 1]], false, [vi 0]⟩, ⟨clk + 1 + 1 + 1, 1, [[vi 0], [vi 1], [vi 2], [vi 3]], false, [vi 0]⟩, ⟨clk + 1 + 1 + 1 + 1, 1, [[.ref 1 clk 0 4], [.ref 2 (clk + 1) 0 4], [.ref 3 (clk + 1 + 1) 0 4], [.ref 4 (clk + 1 + 1 + 1) 0 4]], false, [vnil]⟩, ⟨s.ver, 1, (([a, b, c, d] : List Int).take s.k).map fun n => [vi n], false, [vi 0]⟩], s.clk⟩) (fun s => s.k ≤ 4) (fun s => 4 - s.k) ⟨0, [], clk + 1 + 1 + 1 + 1 + 1, clk + 1 + 1 + 1 + 1 + 1 + 1⟩
          (by dsimp only; omega) (St.nil 12 1 [vi 0] (by simp [upd_at]) (St.cut ?_ ?_ ?_)) fun s hs => ?_
        · simp [Agrees, upd_at, ev_cons]
        · simp [Heap.alloc]
        · rfl
        obtain ⟨k2, o2, v2, clk2⟩ := s
        simp only at hs
        rcases (show k2 = 0 ∨ k2 = 1 ∨ k2 = 2 ∨ k2 = 3 ∨ k2 = 4 by omega) with rfl | rfl | rfl | rfl | rfl
        all_goals simp only [List.take_zero, List.take_succ_cons, List.take_nil, List.map_cons, List.map_nil, go_sem, wpR_gcall, reduceCtorEq, reduceIte, Nat.reduceEqDiff, Nat.reduceAdd, Nat.reduceSub, Nat.reduceMul, Nat.reduceLT, Nat.reduceLeDiff, Nat.reduceBEq, Int.reduceEq, Int.reduceLT, Int.reduceLE, Int.reduceAdd, Int.reduceSub, Int.reduceNeg, Int.reduceToNat]
        · exact ⟨⟨1, [], clk2 + 1, clk2 + 1 + 1⟩, by dsimp only; omega, by dsimp only; omega, ⟨⟨rfl, rfl⟩, rfl⟩, ⟨rfl, rfl⟩, rfl⟩
        · exact ⟨⟨2, [], clk2 + 1, clk2 + 1 + 1⟩, by dsimp only; omega, by dsimp only; omega, ⟨⟨rfl, rfl⟩, rfl⟩, ⟨rfl, rfl⟩, rfl⟩
        · exact ⟨⟨3, [], clk2 + 1, clk2 + 1 + 1⟩, by dsimp only; omega, by dsimp only; omega, ⟨⟨rfl, rfl⟩, rfl⟩, ⟨rfl, rfl⟩, rfl⟩
        · exact ⟨⟨4, [], clk2 + 1, clk2 + 1 + 1⟩, by dsimp only; omega, by dsimp only; omega, ⟨⟨rfl, rfl⟩, rfl⟩, ⟨rfl, rfl⟩, rfl⟩
    · have e1 : (k : Int) < (L.length : Int) := by omega
      have e0 : (0 : Int) ≤ (k : Int) := by omega
      have hlt : k < L.length := by omega
      rw [lnsL_drop L k hlt] at h4
      have hg := getD_pas L k [vi 0, vs ⟨#[]⟩, vi 0, vnil] hlt
      have hx : (L.getD k default).t.text.size ≤ 1000000 := by
        have := (hm (L.getD k default) (by rw [List.getD_eq_getElem?_getD, List.getElem?_eq_getElem hlt]; exact List.getElem_mem _)).1
        exact this
      generalize L.getD k default = x at *
      have hot : out.take out.length = out := List.take_length
      have hot2 : out.take k = out := by rw [← h3]; exact hot
      cases ho : lenO x.t with
      | none =>
        rw [ho] at h4
        simp only [Option.map_none] at h4
        subst h4
        simp only [e0, e1, hg, hx, ho, cntR, lnsR, Pa.enc, Tok.enc, dTok_mk, Tok.eta, go_sem, wpR_gcall, reduceCtorEq, reduceIte, Nat.reduceEqDiff, Nat.reduceAdd, Nat.reduceSub, Nat.reduceMul, Nat.reduceLT, Nat.reduceLeDiff, Nat.reduceBEq, Int.reduceEq, Int.reduceLT, Int.reduceLE, Int.reduceAdd, Int.reduceSub, Int.reduceNeg, Int.reduceToNat]
      | some n =>
        rw [ho] at h4
        simp only at h4
        simp only [e0, e1, hg, hx, ho, cntR, hot, Pa.enc, Tok.enc, dTok_mk, Tok.eta, ints, go_sem, wpR_gcall, reduceCtorEq, reduceIte, Nat.reduceEqDiff, Nat.reduceAdd, Nat.reduceSub, Nat.reduceMul, Nat.reduceLT, Nat.reduceLeDiff, Nat.reduceBEq, Int.reduceEq, Int.reduceLT, Int.reduceLE, Int.reduceAdd, Int.reduceSub, Int.reduceNeg, Int.reduceToNat]
        refine ⟨⟨by omega, by omega, by omega⟩, by omega, ⟨k + 1, out ++ [n], clk + 2, clk + 3⟩, ⟨by dsimp only; omega, by simp; omega, ?_⟩, by dsimp only; omega, ?_⟩
        · rw [← h4]; cases lnsL (L.drop (k + 1)) <;> simp
        · simp
  · rw [if_neg hc]
    cases hb : ptB l with
    | false => simp only [c13, toks, dToks_map, h1, plV, hb, lnsR, go_sem, wpR_gcall, reduceCtorEq, reduceIte, Nat.reduceEqDiff, Nat.reduceAdd, Nat.reduceSub, Nat.reduceMul, Nat.reduceLT, Nat.reduceLeDiff, Nat.reduceBEq, Int.reduceEq, Int.reduceLT, Int.reduceLE, Int.reduceAdd, Int.reduceSub, Int.reduceNeg, Int.reduceToNat]
    | true =>
      have hn : (pl l).length = 0 ∨ 4 < (pl l).length := by
        rcases Nat.lt_or_ge 4 (pl l).length with hh | hh
        · exact .inr hh
        · exact .inl (Decidable.byContradiction fun hz => hc ⟨hb, by omega, hh⟩)
      rcases hn with hz | hz
      · have hz1 : ((pl l).length : Int) = 0 := by omega
        simp only [c13, toks, dToks_map, h1, plV, hb, hz1, lnsR, go_sem, wpR_gcall, reduceCtorEq, reduceIte, Nat.reduceEqDiff, Nat.reduceAdd, Nat.reduceSub, Nat.reduceMul, Nat.reduceLT, Nat.reduceLeDiff, Nat.reduceBEq, Int.reduceEq, Int.reduceLT, Int.reduceLE, Int.reduceAdd, Int.reduceSub, Int.reduceNeg, Int.reduceToNat]
      · have g1 : ¬ (((pl l).length : Int) < 1) := by omega
        have g2 : ((4 : Int) < ((pl l).length : Int)) := by omega
        have g3 : ¬ (((pl l).length : Int) = 0) := by omega
        simp only [c13, toks, dToks_map, h1, plV, hb, g1, g2, g3, lnsR, go_sem, wpR_gcall, reduceCtorEq, reduceIte, Nat.reduceEqDiff, Nat.reduceAdd, Nat.reduceSub, Nat.reduceMul, Nat.reduceLT, Nat.reduceLeDiff, Nat.reduceBEq, Int.reduceEq, Int.reduceLT, Int.reduceLE, Int.reduceAdd, Int.reduceSub, Int.reduceNeg, Int.reduceToNat]
def sumLns : Sum Tryz.prog := ⟨13, fun args => args = [toks (dToks (args.getD 0 .any))] ∧ okT (dToks (args.getD 0 .any)), fun args => lnsV (lnsO (dToks (args.getD 0 .any))), fun args h => by
  have := lnsR_sub _ (lengths_ok (dToks (args.getD 0 .any)) h.2); rwa [← h.1] at this, false⟩
theorem sumLns_f : sumLns.f = 13 := rfl
theorem sumLns_D (args : List V) : sumLns.D args = (args = [toks (dToks (args.getD 0 .any))] ∧ okT (dToks (args.getD 0 .any))) := rfl
theorem sumLns_flat : sumLns.flat = false := rfl
theorem sumLns_r (args : List V) : sumLns.r args = lnsV (lnsO (dToks (args.getD 0 .any))) := rfl
attribute [go_sem] sumLns_f sumLns_D sumLns_flat sumLns_r
end Go.Proofs.YtilinnmancfjgaaGreatDoor
