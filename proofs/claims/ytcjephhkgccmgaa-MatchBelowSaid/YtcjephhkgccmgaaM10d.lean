/- Layer 10: which node compounds are about, upwards. -/
import Derived.Test.YtcjephhkgccmgaaM10c
namespace Go.Proofs.Ytcjephhkgccmgaa
open Go.Sx
set_option linter.unusedSimpArgs false
set_option maxHeartbeats 4000000
set_option maxRecDepth 20000

def docP (l : List Node) : Prop := l.length ≤ 1000 ∧ ∀ k, k < l.length → okN (l.getD k .zero) ∧ -1 ≤ par l k ∧ par l k < k
def goU (l : List Node) (p : Nat → Bool) (child : Bool) : Nat → Int → Bool
  | 0, _ => false
  | f + 1, a => if a < 0 then false else if p a.toNat = true then true else if child = true then false else goU l p child f (par l a.toNat)
def upN (l : List Node) (s : Sel) : Nat → Nat → Bool
  | 0, k => oneB (l.getD k .zero) (s.getD 0 default)
  | m + 1, k => oneB (l.getD k .zero) (s.getD (m + 1) default) && goU l (upN l s m) (decide ((s.getD (m + 1) default).link = 2)) (k + 1) (par l k)
theorem take_len (s : Sel) {m : Nat} (h : m < s.length) : (s.take (m + 1)).length = m + 1 := by rw [List.length_take]; omega
theorem take_last (s : Sel) {m : Nat} : (s.take (m + 1)).getD m default = s.getD m default := by
  rw [List.getD_eq_getElem?_getD, List.getElem?_take, if_pos (by omega), ← List.getD_eq_getElem?_getD]
theorem up_ok (l : List Node) (hd : docP l) (s : Sel) (hs : okC s) : ∀ (m k : Nat), m < s.length → k < l.length → PCall Try.prog 25 [nodes l, vi k, .slc 2 ((s.take (m + 1)).map Cmp.enc)] (vb (upN l s m k)) := by
  intro m
  induction m with
  | zero =>
    intro k hm hk
    refine PCall.of (Orc.cons sumOne (Orc.nil _)) c25_ok (by simp [c25]) fun w0 own0 => ?_
    have hlen := take_len s hm
    have hg := getD_cmps (s.take (0 + 1)) 0 [.c (.int .i64 0), .c (.slice none 0 0)] (by omega)
    rw [take_last] at hg
    have hgn := getD_nodes l k [.c (.int .i64 0), .c (.string ⟨#[]⟩), .c (.string ⟨#[]⟩), .c (.slice none 0 0), .c (.slice none 0 0), .c (.string ⟨#[]⟩)] hk
    obtain ⟨hn, _⟩ := hd.2 k hk
    have ho := hs.2 0 hm
    have e1 : (k : Int) < (l.length : Int) := by omega
    have e0 : (0 : Int) ≤ (k : Int) := by omega
    generalize hS : s.take (0 + 1) = S at *
    have e2 : ((0 + 1 : Nat) : Int) - 1 = 0 := by omega
    simp only [c25, nodes, go_sem, wpR_gcall, reduceCtorEq, reduceIte, Nat.reduceEqDiff, Nat.reduceAdd, Nat.reduceSub, Nat.reduceMul, Nat.reduceLT, Nat.reduceLeDiff, Nat.reduceBEq, Int.reduceEq, Int.reduceLT, Int.reduceLE, Int.reduceAdd, Int.reduceSub, Int.reduceNeg, Int.reduceToNat]
    refine SemC.lab (α := Unit) 0 (fun _ => []) (fun _ => ⟨[], 0⟩) (fun _ => False) (fun _ => 0) rfl ?_ fun x hx => hx.elim
    cases h1 : oneB (l.getD k .zero) (s.getD 0 default) with
    | true => simp only [upN, hlen, e2, hg, hgn, hn, ho, e0, e1, h1, Node.enc, Cmp.enc, dNode_mk, Node.eta, dCmp_mk, Cmp.eta, sumOne_f, sumOne_D, sumOne_flat, sumOne_r, go_sem, wpR_gcall, reduceCtorEq, reduceIte, Nat.reduceEqDiff, Nat.reduceAdd, Nat.reduceSub, Nat.reduceMul, Nat.reduceLT, Nat.reduceLeDiff, Nat.reduceBEq, Int.reduceEq, Int.reduceLT, Int.reduceLE, Int.reduceAdd, Int.reduceSub, Int.reduceNeg, Int.reduceToNat]
    | false => simp only [upN, hlen, e2, hg, hgn, hn, ho, e0, e1, h1, Node.enc, Cmp.enc, dNode_mk, Node.eta, dCmp_mk, Cmp.eta, sumOne_f, sumOne_D, sumOne_flat, sumOne_r, go_sem, wpR_gcall, reduceCtorEq, reduceIte, Nat.reduceEqDiff, Nat.reduceAdd, Nat.reduceSub, Nat.reduceMul, Nat.reduceLT, Nat.reduceLeDiff, Nat.reduceBEq, Int.reduceEq, Int.reduceLT, Int.reduceLE, Int.reduceAdd, Int.reduceSub, Int.reduceNeg, Int.reduceToNat]
  | succ m ih =>
    intro k hm hk
    let q : Sum Try.prog := ⟨25, fun args => ∃ j : Nat, args = [nodes l, vi j, .slc 2 ((s.take (m + 1)).map Cmp.enc)] ∧ j < l.length, fun args => vb (upN l s m ((args.getD 1 .any).int.toNat)), fun args h => by
      obtain ⟨j, rfl, h1⟩ := h
      exact ih j (by omega) h1, true⟩
    have q1 : q.f = 25 := rfl
    have q2 : ∀ args, q.D args = ∃ j : Nat, args = [nodes l, vi j, .slc 2 ((s.take (m + 1)).map Cmp.enc)] ∧ j < l.length := fun _ => rfl
    have q3 : q.flat = true := rfl
    have q4 : ∀ args, q.r args = vb (upN l s m ((args.getD 1 .any).int.toNat)) := fun _ => rfl
    clear_value q
    refine PCall.of (Orc.cons q (Orc.cons sumOne (Orc.nil _))) c25_ok (by simp [c25]) fun w0 own0 => ?_
    have hlen := take_len s hm
    have hg := getD_cmps (s.take (m + 1 + 1)) (m + 1) [.c (.int .i64 0), .c (.slice none 0 0)] (by omega)
    rw [take_last] at hg
    have hgn := getD_nodes l k [.c (.int .i64 0), .c (.string ⟨#[]⟩), .c (.string ⟨#[]⟩), .c (.slice none 0 0), .c (.slice none 0 0), .c (.string ⟨#[]⟩)] hk
    obtain ⟨hn, hp1, hp2⟩ := hd.2 k hk
    have hl := hd.1
    have ho := hs.2 (m + 1) hm
    have hsl := hs.1
    have e1 : (k : Int) < (l.length : Int) := by omega
    have e0 : (0 : Int) ≤ (k : Int) := by omega
    have e2 : ((m + 1 + 1 : Nat) : Int) - 1 = ((m + 1 : Nat) : Int) := by omega
    have e3 : ¬ ((m + 1 : Nat) : Int) = 0 := by omega
    have e4 : (0 : Int) ≤ ((m + 1 : Nat) : Int) := by omega
    have e5 : ((m + 1 : Nat) : Int) < ((m + 1 + 1 : Nat) : Int) := by omega
    have hS2 : (s.take (m + 1 + 1)).take (m + 1) = s.take (m + 1) := by rw [List.take_take, Nat.min_eq_left (by omega)]
    generalize hS : s.take (m + 1 + 1) = S at *
    simp only [c25, nodes, go_sem, wpR_gcall, reduceCtorEq, reduceIte, Nat.reduceEqDiff, Nat.reduceAdd, Nat.reduceSub, Nat.reduceMul, Nat.reduceLT, Nat.reduceLeDiff, Nat.reduceBEq, Int.reduceEq, Int.reduceLT, Int.reduceLE, Int.reduceAdd, Int.reduceSub, Int.reduceNeg, Int.reduceToNat]
    refine SemC.lab (α := Int) 0 (fun a => [(0, .slc 6 (l.map Node.enc)), (2, .slc 2 (S.map Cmp.enc)), (7, vi ((m + 1 : Nat) : Int)), (8, vi a)]) (fun _ => ⟨[], 0⟩)
      (fun a => -1 ≤ a ∧ a < l.length ∧ ∃ f : Nat, a < f ∧ upN l s (m + 1) k = goU l (upN l s m) (decide ((s.getD (m + 1) default).link = 2)) f a) (fun a => (a + 1).toNat) rfl ?_ fun a ha => ?_
    · cases h1 : oneB (l.getD k .zero) (s.getD (m + 1) default) with
      | true =>
        have hu : upN l s (m + 1) k = goU l (upN l s m) (decide ((s.getD (m + 1) default).link = 2)) (k + 1) (par l k) := by
          show (oneB _ _ && _) = _
          rw [h1]; rfl
        simp only [hlen, e2, e3, e4, e5, hg, hgn, hn, ho, e0, e1, h1, Int.toNat_natCast, Node.enc, Cmp.enc, dNode_mk, Node.eta, dCmp_mk, Cmp.eta, q1, q2, q3, q4, sumOne_f, sumOne_D, sumOne_flat, sumOne_r, go_sem, wpR_gcall, reduceCtorEq, reduceIte, Nat.reduceEqDiff, Nat.reduceAdd, Nat.reduceSub, Nat.reduceMul, Nat.reduceLT, Nat.reduceLeDiff, Nat.reduceBEq, Int.reduceEq, Int.reduceLT, Int.reduceLE, Int.reduceAdd, Int.reduceSub, Int.reduceNeg, Int.reduceToNat]
        exact ⟨⟨by omega, by omega⟩, par l k, ⟨hp1, by omega, k + 1, by omega, hu⟩, St.mk (by simp [Agrees, upd_at, initE_at, par])⟩
      | false =>
        have hu : upN l s (m + 1) k = false := by
          show (oneB _ _ && _) = _
          rw [h1]; rfl
        simp only [hu, hlen, e2, e3, e4, e5, hg, hgn, hn, ho, e0, e1, h1, Int.toNat_natCast, Node.enc, Cmp.enc, dNode_mk, Node.eta, dCmp_mk, Cmp.eta, q1, q2, q3, q4, sumOne_f, sumOne_D, sumOne_flat, sumOne_r, go_sem, wpR_gcall, reduceCtorEq, reduceIte, Nat.reduceEqDiff, Nat.reduceAdd, Nat.reduceSub, Nat.reduceMul, Nat.reduceLT, Nat.reduceLeDiff, Nat.reduceBEq, Int.reduceEq, Int.reduceLT, Int.reduceLE, Int.reduceAdd, Int.reduceSub, Int.reduceNeg, Int.reduceToNat]
        exact ⟨by omega, by omega⟩
    · obtain ⟨a1, a2, f, a3, a4⟩ := ha
      by_cases h0 : a < 0
      · have hu : upN l s (m + 1) k = false := by
          rw [a4]; cases f with
          | zero => rfl
          | succ f => unfold goU; rw [if_pos h0]
        simp only [h0, hu, q1, q2, q3, q4, sumOne_f, sumOne_D, sumOne_flat, sumOne_r, go_sem, wpR_gcall, reduceCtorEq, reduceIte, Nat.reduceEqDiff, Nat.reduceAdd, Nat.reduceSub, Nat.reduceMul, Nat.reduceLT, Nat.reduceLeDiff, Nat.reduceBEq, Int.reduceEq, Int.reduceLT, Int.reduceLE, Int.reduceAdd, Int.reduceSub, Int.reduceNeg, Int.reduceToNat]
      · obtain ⟨j, rfl⟩ : ∃ j : Nat, a = j := ⟨a.toNat, by omega⟩
        have hj : j < l.length := by omega
        obtain ⟨f, rfl⟩ : ∃ g, f = g + 1 := ⟨f - 1, by omega⟩
        have hu : upN l s (m + 1) k = if upN l s m j = true then true else if (decide ((s.getD (m + 1) default).link = 2)) = true then false else goU l (upN l s m) (decide ((s.getD (m + 1) default).link = 2)) f (par l j) := by
          rw [a4]; conv => lhs; unfold goU
          rw [if_neg h0, Int.toNat_natCast]
        obtain ⟨_, b1, b2⟩ := hd.2 j hj
        have f1 : (j : Int) < (l.length : Int) := by omega
        have f0 : (0 : Int) ≤ (j : Int) := by omega
        have hgj := getD_nodes l j [.c (.int .i64 0), .c (.string ⟨#[]⟩), .c (.string ⟨#[]⟩), .c (.slice none 0 0), .c (.slice none 0 0), .c (.string ⟨#[]⟩)] hj
        have g3 : ∃ i : Nat, (j : Int) = i ∧ i < l.length := ⟨j, rfl, hj⟩
        cases hq : upN l s m j with
        | true =>
          rw [hq, if_pos rfl] at hu
          simp only [h0, f0, f1, hu, hq, hlen, hS2, g3, nodes, Int.toNat_natCast, q1, q2, q3, q4, sumOne_f, sumOne_D, sumOne_flat, sumOne_r, go_sem, wpR_gcall, reduceCtorEq, reduceIte, Nat.reduceEqDiff, Nat.reduceAdd, Nat.reduceSub, Nat.reduceMul, Nat.reduceLT, Nat.reduceLeDiff, Nat.reduceBEq, Int.reduceEq, Int.reduceLT, Int.reduceLE, Int.reduceAdd, Int.reduceSub, Int.reduceNeg, Int.reduceToNat]
          exact ⟨⟨by omega, by omega⟩, j, ⟨rfl, by rw [Nat.sub_zero, hS2]⟩, hj⟩
        | false =>
          rw [hq, if_neg (by decide)] at hu
          by_cases hc : (s.getD (m + 1) default).link = 2
          · rw [decide_eq_true hc, if_pos rfl] at hu
            simp only [h0, f0, f1, hu, hq, hlen, hS2, hg, hc, e4, e5, g3, nodes, Cmp.enc, Int.toNat_natCast, q1, q2, q3, q4, sumOne_f, sumOne_D, sumOne_flat, sumOne_r, go_sem, wpR_gcall, reduceCtorEq, reduceIte, Nat.reduceEqDiff, Nat.reduceAdd, Nat.reduceSub, Nat.reduceMul, Nat.reduceLT, Nat.reduceLeDiff, Nat.reduceBEq, Int.reduceEq, Int.reduceLT, Int.reduceLE, Int.reduceAdd, Int.reduceSub, Int.reduceNeg, Int.reduceToNat]
            exact ⟨by omega, j, ⟨rfl, by rw [Nat.sub_zero, hS2]⟩, hj⟩
          · rw [decide_eq_false hc, if_neg (by decide)] at hu
            simp only [h0, f0, f1, hq, hlen, hS2, hg, hc, hgj, e4, e5, g3, nodes, Cmp.enc, Node.enc, Int.toNat_natCast, q1, q2, q3, q4, sumOne_f, sumOne_D, sumOne_flat, sumOne_r, go_sem, wpR_gcall, reduceCtorEq, reduceIte, Nat.reduceEqDiff, Nat.reduceAdd, Nat.reduceSub, Nat.reduceMul, Nat.reduceLT, Nat.reduceLeDiff, Nat.reduceBEq, Int.reduceEq, Int.reduceLT, Int.reduceLE, Int.reduceAdd, Int.reduceSub, Int.reduceNeg, Int.reduceToNat]
            exact ⟨by omega, ⟨j, ⟨rfl, by rw [Nat.sub_zero, hS2]⟩, hj⟩, par l j, ⟨b1, by omega, f, by omega, hu⟩, by omega, rfl⟩
end Go.Proofs.Ytcjephhkgccmgaa
