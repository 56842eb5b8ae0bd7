/- Layer 9: which node may not stand, in one pass. -/
import Derived.Test.YteifbbinfipdlaaD9c
namespace Go.Proofs.Yteifbbinfipdlaa
open Go.Sx
set_option linter.unusedSimpArgs false
set_option maxHeartbeats 4000000
set_option maxRecDepth 20000

def popN (p : Int) (s : List Int) : Nat → Nat
  | 0 => 0
  | m + 1 => if s.getD m 0 = p then m + 1 else popN p s m
def stk (l : List Node) : Nat → List Int
  | 0 => []
  | k + 1 => (stk l k).take (popN (par l k) (stk l k) (stk l k).length) ++ [(k : Int)]
theorem stk_mem (l : List Node) : ∀ k, ∀ x ∈ stk l k, 0 ≤ x ∧ x < k
  | 0, x, h => by simp [stk] at h
  | k + 1, x, h => by
    simp only [stk, List.mem_append, List.mem_singleton] at h
    rcases h with h | h
    · have := stk_mem l k x (List.mem_of_mem_take h); omega
    · omega
theorem stk_len (l : List Node) : ∀ k, (stk l k).length ≤ k
  | 0 => Nat.le_refl _
  | k + 1 => by
    have := stk_len l k
    simp only [stk, List.length_append, List.length_take, List.length_singleton]
    omega
def badT (l : List Node) : Int := fst (fun k => !mayT (l.getD k .zero) (stk l k) l) (l.length - 0) 0
structure CkS where
  k : Nat
  es : List Int
  ver : Nat
  clk : Nat
theorem chkT_ok (l : List Node) (hl : l.length ≤ 1000) : PCall Try.prog 42 [nodes l] (chkOf l (badT l)) := by
  refine PCall.of (Orc.cons sumMay (Orc.nil _)) c42_ok (by simp [c42]) fun w0 own0 => ?_
  have e0 : ¬ (4096 : Int) < (l.length : Int) := by omega
  simp only [c42, nodes, e0, go_sem, wpR_gcall, reduceCtorEq, reduceIte, Nat.reduceEqDiff, Nat.reduceAdd, Nat.reduceSub, Nat.reduceMul, Nat.reduceLT, Nat.reduceLeDiff, Nat.reduceBEq, Int.reduceEq, Int.reduceLT, Int.reduceLE, Int.reduceAdd, Int.reduceSub, Int.reduceNeg, Int.reduceToNat]
  refine ⟨fun h0 => ?_, fun h0 => ?_⟩
  · have e : badT l = -1 := by
      unfold badT
      rw [show l.length - 0 = 0 by omega]; rfl
    rw [e]; exact chkOf_nil l (by omega)
  unfold badT
  generalize hR : fst (fun k => !mayT (l.getD k .zero) (stk l k) l) (l.length - 0) 0 = R
  refine SemC.lp (α := CkS) (fun a => [(0, .slc 6 (l.map Node.enc)), (4, .ref 0 a.ver 0 (stk l a.k).length), (15, .slc 6 (l.map Node.enc)), (16, vi l.length), (17, vi a.k)])
    (fun a => ⟨[⟨a.ver, 1, a.es.map fun n => [vi n], false, [vi 0]⟩], a.clk⟩)
    (fun a => a.k ≤ l.length ∧ a.es.take (stk l a.k).length = stk l a.k ∧ (stk l a.k).length ≤ a.es.length ∧ fst (fun k => !mayT (l.getD k .zero) (stk l k) l) (l.length - a.k) a.k = R) (fun a => l.length - a.k) ⟨0, [], 0, 1⟩ ⟨by simp, rfl, by simp [stk], hR⟩
    (St.nil 4 1 [vi 0] (by simp [upd_at]) (St.cut ?_ ?_ ?_)) fun a ha => ?_
  · simp [Agrees, upd_at, initE_at, stk]
  · simp [Heap.alloc]
  · rfl
  obtain ⟨k, es, ver, clk⟩ := a
  simp only at ha
  obtain ⟨h1, h2, h3, h4⟩ := ha
  by_cases hal : k = l.length
  · subst hal
    rw [fst_end] at h4
    subst h4
    simp only [Int.lt_irrefl, go_sem, wpR_gcall, reduceCtorEq, reduceIte, Nat.reduceEqDiff, Nat.reduceAdd, Nat.reduceSub, Nat.reduceMul, Nat.reduceLT, Nat.reduceLeDiff, Nat.reduceBEq, Int.reduceEq, Int.reduceLT, Int.reduceLE, Int.reduceAdd, Int.reduceSub, Int.reduceNeg, Int.reduceToNat]
    exact chkOf_ok l (by omega)
  · have e1 : (k : Int) < (l.length : Int) := by omega
    rw [fst_step _ _ _ (by omega)] at h4
    simp only [Bool.not_eq_true'] at h4
    have hs := stk_mem l k
    have hsl := stk_len l k
    have hst : stk l (k + 1) = (stk l k).take (popN (par l k) (stk l k) (stk l k).length) ++ [(k : Int)] := rfl
    generalize stk l k = s at *
    have hn := getD_nodes l k [.c (.int .i64 0), .c (.string ⟨#[]⟩), .c (.string ⟨#[]⟩), .c (.slice none 0 0), .c (.slice none 0 0), .c (.string ⟨#[]⟩)] (by omega)
    generalize hN : l.getD k .zero = n at *
    simp only [e1, hn, Node.enc, nodes, ints, h2, h3, dNode_mk, Node.eta, dNodes_map, go_sem, wpR_gcall, reduceCtorEq, reduceIte, Nat.reduceEqDiff, Nat.reduceAdd, Nat.reduceSub, Nat.reduceMul, Nat.reduceLT, Nat.reduceLeDiff, Nat.reduceBEq, Int.reduceEq, Int.reduceLT, Int.reduceLE, Int.reduceAdd, Int.reduceSub, Int.reduceNeg, Int.reduceToNat]
    refine ⟨by omega, ⟨by omega, fun x hx => by have := hs x hx; omega⟩, fun hm => ?_, fun hm => ?_⟩
    · rw [if_pos hm] at h4
      subst h4
      exact chkOf_bad l k
    · rw [if_neg (by simp [hm])] at h4
      have hpar : n.parent = par l k := by rw [← hN]; rfl
      refine SemC.lp (α := Nat) (fun m => [(0, .slc 6 (l.map Node.enc)), (4, .ref 0 ver 0 m), (5, vi k), (6, .ptr 1 clk 0 0), (15, .slc 6 (l.map Node.enc)), (16, vi l.length), (17, vi k)])
        (fun m => ⟨[⟨ver, 1, es.map fun n => [vi n], false, [vi 0]⟩, ⟨clk, 6, [n.enc], false, []⟩], clk + 1⟩)
        (fun m => m ≤ s.length ∧ popN (par l k) s m = popN (par l k) s s.length) (fun m => m) s.length ⟨Nat.le_refl _, rfl⟩ (St.cut ?_ ?_ ?_) fun m hm => ?_
      · simp [Agrees, upd_at, ev]
      · simp [Node.enc]
      · rfl
      obtain ⟨m1, m2⟩ := hm
      simp only [Node.enc, hpar, go_sem, wpR_gcall, reduceCtorEq, reduceIte, Nat.reduceEqDiff, Nat.reduceAdd, Nat.reduceSub, Nat.reduceMul, Nat.reduceLT, Nat.reduceLeDiff, Nat.reduceBEq, Int.reduceEq, Int.reduceLT, Int.reduceLE, Int.reduceAdd, Int.reduceSub, Int.reduceNeg, Int.reduceToNat]
      have hget : ∀ i, i < s.length → es.getD i 0 = s.getD i 0 := fun i hi => by
        have e : s.getD i 0 = (es.take s.length).getD i 0 := by rw [h2]
        rw [e, List.getD_eq_getElem?_getD, List.getD_eq_getElem?_getD, List.getElem?_take, if_pos hi]
      have htk : ∀ i, i ≤ s.length → es.take i = s.take i := fun i hi => by
        have e : (es.take s.length).take i = es.take i := by rw [List.take_take]; congr 1; omega
        rw [← e, h2]
      refine ⟨fun h => ⟨h, by omega, by omega⟩, fun h => ⟨h, by omega, by omega⟩, fun h => ⟨h, by omega⟩, fun h => ?_, fun h => ?_⟩
      · obtain ⟨m', rfl⟩ : ∃ m', m = m' + 1 := ⟨m - 1, by omega⟩
        have e2 : ((((m' + 1 : Nat) : Int) - 1)).toNat = m' := by omega
        rw [e2] at h ⊢
        rw [hget m' (by omega)] at h
        simp only [popN, if_neg h.2] at m2
        exact ⟨by omega, by omega, m', ⟨by omega, m2⟩, by omega, by omega⟩
      · have hpm : popN (par l k) s m = m := by
          cases m with
          | zero => rfl
          | succ m' =>
            have e2 : ((((m' + 1 : Nat) : Int) - 1)).toNat = m' := by omega
            rw [e2, hget m' (by omega)] at h
            simp only [popN]
            rw [if_pos (by rcases h with h | h; exact absurd (by omega) h; exact h)]
        rw [← m2, hpm] at hst
        have hlen : (s.take m).length = m := by rw [List.length_take]; omega
        refine ⟨by omega, by omega, ⟨k + 1, es.take m ++ [(k : Int)], clk + 1 + 1, clk + 1 + 1 + 1⟩, ⟨by dsimp only; omega, ?_, ?_, h4⟩, by dsimp only; omega, ⟨⟨rfl, ?_⟩, by dsimp only; omega⟩, ⟨rfl, by simp⟩, rfl⟩
        · dsimp only; rw [hst, htk m m1, List.take_of_length_le (Nat.le_refl _)]
        · dsimp only; rw [hst, htk m m1]; exact Nat.le_refl _
        · dsimp only; rw [hst, List.length_append, hlen]; rfl
end Go.Proofs.Yteifbbinfipdlaa
