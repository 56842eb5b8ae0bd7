/- Layer 9: what is in a node, its children, its text. -/
import Derived.Test.YtcjephhkgccmgaaD9e
namespace Go.Proofs.Ytcjephhkgccmgaa
open Go.Sx
set_option linter.unusedSimpArgs false
set_option maxHeartbeats 4000000
set_option maxRecDepth 20000

def isB (l : List Node) (k : Int) : Bool := docB l && decide (0 ≤ k ∧ k < l.length)
theorem isB_iff (l : List Node) (k : Int) : isB l k = true ↔ isDoc l ∧ 0 ≤ k ∧ k < l.length := by
  unfold isB; rw [Bool.and_eq_true, docB_iff, decide_eq_true_eq]
def sumChkT : Sum Try.prog := ⟨24, fun args => args = [nodes (dNodes (args.getD 0 .any))] ∧ ((dNodes (args.getD 0 .any))).length ≤ 1000, fun args => chkOf (dNodes (args.getD 0 .any)) (badT (dNodes (args.getD 0 .any))), fun args h => by
  have := chkT_ok (dNodes (args.getD 0 .any)) h.2; rwa [← h.1] at this, false⟩
theorem sumChkT_f : sumChkT.f = 24 := rfl
theorem sumChkT_D (args : List V) : sumChkT.D args = (args = [nodes (dNodes (args.getD 0 .any))] ∧ ((dNodes (args.getD 0 .any))).length ≤ 1000) := rfl
theorem sumChkT_flat : sumChkT.flat = false := rfl
theorem sumChkT_r (args : List V) : sumChkT.r args = chkOf (dNodes (args.getD 0 .any)) (badT (dNodes (args.getD 0 .any))) := rfl
def sumChkR : Sum Try.prog := ⟨12, fun args => args = [nodes (dNodes (args.getD 0 .any))] ∧ ((dNodes (args.getD 0 .any))).length ≤ 1000, fun args => chkOf (dNodes (args.getD 0 .any)) (badR (dNodes (args.getD 0 .any))), fun args h => by
  have := chkR_ok (dNodes (args.getD 0 .any)) h.2; rwa [← h.1] at this, false⟩
theorem sumChkR_f : sumChkR.f = 12 := rfl
theorem sumChkR_D (args : List V) : sumChkR.D args = (args = [nodes (dNodes (args.getD 0 .any))] ∧ ((dNodes (args.getD 0 .any))).length ≤ 1000) := rfl
theorem sumChkR_flat : sumChkR.flat = false := rfl
theorem sumChkR_r (args : List V) : sumChkR.r args = chkOf (dNodes (args.getD 0 .any)) (badR (dNodes (args.getD 0 .any))) := rfl
def endV (l : List Node) (k : Int) : Int := if isB l k = true then endN l k.toNat else -1
def kidB (l : List Node) (k : Nat) (all : Bool) (n : Nat) : Bool := decide (par l n = k ∧ (all = true ∨ ¬ (l.getD n .zero).type = ⟨#[]⟩))
def kidsTo (l : List Node) (k : Nat) (all : Bool) : Nat → List Int
  | 0 => []
  | n + 1 => if kidB l k all n = true then kidsTo l k all n ++ [(n : Int)] else kidsTo l k all n
theorem kids_skip (l : List Node) (k : Nat) (all : Bool) (a : Nat) : ∀ d, (∀ i, a ≤ i → i < a + d → par l i ≠ k) → kidsTo l k all (a + d) = kidsTo l k all a
  | 0, _ => rfl
  | d + 1, h => by
    have ih := kids_skip l k all a d (fun i h1 h2 => h i h1 (by omega))
    rw [← Nat.add_assoc, kidsTo, if_neg, ih]
    simp only [kidB, decide_eq_true_eq]
    exact fun hh => h (a + d) (by omega) (by omega) hh.1
theorem kids_skip' (l : List Node) (k : Nat) (all : Bool) (a b : Nat) (h : a ≤ b) (hn : ∀ i, a ≤ i → i < b → par l i ≠ k) : kidsTo l k all b = kidsTo l k all a := by
  obtain ⟨d, rfl⟩ : ∃ d, b = a + d := ⟨b - a, by omega⟩
  exact kids_skip l k all a d hn
theorem kids_first (l : List Node) (hd : stood l l.length) (k : Nat) (hk : k < l.length) (all : Bool) : kidsTo l k all (k + 1) = [] := by
  rw [kids_skip' l k all 0 (k + 1) (by omega)]
  · rfl
  · intro i _ h2 h3
    have := stood_par hd i (by omega)
    omega
theorem kids_last (l : List Node) (hd : stood l l.length) (k : Nat) (hk : k < l.length) (all : Bool) : kidsTo l k all l.length = kidsTo l k all (endN l k) := by
  have hs := endN_spec l k hk
  exact kids_skip' l k all _ _ hs.2.2.1 fun i h1 h2 => no_child l hd k hk i h1 h2
theorem kids_next (l : List Node) (k c : Nat) (hc : c < l.length) (hk : k < c) (all : Bool) : kidsTo l k all (endN l c) = kidsTo l k all (c + 1) := by
  have hs := endN_spec l c hc
  refine kids_skip' l k all _ _ (by omega) fun i h1 h2 h3 => ?_
  have := hs.2.2.2.1 i (by omega) h2
  omega
theorem kids_len (l : List Node) (k : Nat) (all : Bool) : ∀ n, (kidsTo l k all n).length ≤ n
  | 0 => Nat.le_refl _
  | n + 1 => by
    have := kids_len l k all n
    simp only [kidsTo]
    split
    · simp; omega
    · omega
structure KiS where
  n : Nat
  ver : Nat
  clk : Nat

def fewN (n : Node) : Bool := decide (n.type.size ≤ 50 ∧ n.id.size ≤ 50 ∧ n.text.size ≤ 50 ∧ n.cls.length ≤ 5 ∧ n.attrs.length ≤ 5 ∧ (∀ j, j < n.cls.length → (n.cls.getD j ⟨#[]⟩).size ≤ 50) ∧ ∀ j, j < n.attrs.length → (n.attrs.getD j (⟨#[]⟩, ⟨#[]⟩)).1.size ≤ 50 ∧ (n.attrs.getD j (⟨#[]⟩, ⟨#[]⟩)).2.size ≤ 50)
def few9 (l : List Node) : Bool := decide (l.length ≤ 60 ∧ ∀ i, i < l.length → fewN (l.getD i .zero) = true)
theorem few9_not {l : List Node} {i : Nat} (hi : i < l.length) (h : ¬ fewN (l.getD i .zero) = true) : false = few9 l := by
  unfold few9
  symm
  rw [decide_eq_false_iff_not]
  exact fun hh => h (hh.2 i hi)
structure FwS where
  i : Nat
  clk : Nat
theorem few9_ok (l : List Node) : PCall Try.prog 9 [nodes l] (vb (few9 l)) := by
  refine PCall.of (Orc.nil _) c9_ok (by simp [c9]) fun w0 own0 => ?_
  simp only [c9, nodes, go_sem, wpR_gcall, reduceCtorEq, reduceIte, Nat.reduceEqDiff, Nat.reduceAdd, Nat.reduceSub, Nat.reduceMul, Nat.reduceLT, Nat.reduceLeDiff, Nat.reduceBEq, Int.reduceEq, Int.reduceLT, Int.reduceLE, Int.reduceAdd, Int.reduceSub, Int.reduceNeg, Int.reduceToNat]
  refine SemC.lp (α := FwS) (fun a => [(0, .slc 6 (l.map Node.enc)), (3, vi a.i)]) (fun a => ⟨[], a.clk⟩)
    (fun a => a.i ≤ l.length ∧ a.i ≤ 61 ∧ ∀ i, i < a.i → fewN (l.getD i .zero) = true) (fun a => l.length - a.i) ⟨0, 0⟩ ⟨by simp, by simp, fun i hi => by simp at hi⟩ (St.mk (by simp [Agrees, upd_at, initE_at])) fun a ha => ?_
  obtain ⟨i, clk⟩ := a
  simp only at ha
  obtain ⟨h1, h2, h3⟩ := ha
  by_cases hil : i < l.length ∧ i ≤ 60
  · have e1 : (i : Int) < (l.length : Int) := by omega
    have e2 : (i : Int) ≤ 60 := by omega
    have hg := getD_nodes l i [.c (.int .i64 0), .c (.string ⟨#[]⟩), .c (.string ⟨#[]⟩), .c (.slice none 0 0), .c (.slice none 0 0), .c (.string ⟨#[]⟩)] hil.1
    generalize hN : l.getD i .zero = n at *
    simp only [e1, e2, hg, Node.enc, go_sem, wpR_gcall, reduceCtorEq, reduceIte, Nat.reduceEqDiff, Nat.reduceAdd, Nat.reduceSub, Nat.reduceMul, Nat.reduceLT, Nat.reduceLeDiff, Nat.reduceBEq, Int.reduceEq, Int.reduceLT, Int.reduceLE, Int.reduceAdd, Int.reduceSub, Int.reduceNeg, Int.reduceToNat]
    have hi := hil.1
    refine ⟨by omega, by omega, by omega, by omega, by omega, fun h => ?_, fun h => ?_⟩
    · refine few9_not hi ?_
      rw [hN]; unfold fewN; rw [decide_eq_true_eq]
      rintro ⟨a1, a2, a3, a4, a5, _⟩
      omega
    have hc : (¬ ∀ j, j < n.cls.length → (n.cls.getD j ⟨#[]⟩).size ≤ 50) → false = few9 l := fun hh => by
      refine few9_not hi ?_
      rw [hN]; unfold fewN; rw [decide_eq_true_eq]
      exact fun a => hh a.2.2.2.2.2.1
    have hat : (¬ ∀ j, j < n.attrs.length → (n.attrs.getD j (⟨#[]⟩, ⟨#[]⟩)).1.size ≤ 50 ∧ (n.attrs.getD j (⟨#[]⟩, ⟨#[]⟩)).2.size ≤ 50) → false = few9 l := fun hh => by
      refine few9_not hi ?_
      rw [hN]; unfold fewN; rw [decide_eq_true_eq]
      exact fun a => hh a.2.2.2.2.2.2
    refine SemC.lp (α := Nat) (fun j => [(0, .slc 6 (l.map Node.enc)), (3, vi i), (4, .ptr 0 clk 0 0), (52, .slc 1 (n.cls.map fun s => [vs s])), (53, vi n.cls.length), (54, vi j)])
      (fun _ => ⟨[⟨clk, 6, [n.enc], false, []⟩], clk + 1⟩)
      (fun j => j ≤ n.cls.length ∧ ∀ i, i < j → (n.cls.getD i ⟨#[]⟩).size ≤ 50) (fun j => n.cls.length - j) 0 ⟨Nat.zero_le _, fun i hi => by omega⟩ (St.cut ?_ ?_ ?_) fun j hj => ?_
    · simp [Agrees, upd_at, ev]
    · simp [Node.enc]
    · rfl
    obtain ⟨j1, j2⟩ := hj
    by_cases hjl : j = n.cls.length
    · subst hjl
      simp only [Int.lt_irrefl, Node.enc, go_sem, wpR_gcall, reduceCtorEq, reduceIte, Nat.reduceEqDiff, Nat.reduceAdd, Nat.reduceSub, Nat.reduceMul, Nat.reduceLT, Nat.reduceLeDiff, Nat.reduceBEq, Int.reduceEq, Int.reduceLT, Int.reduceLE, Int.reduceAdd, Int.reduceSub, Int.reduceNeg, Int.reduceToNat]
      refine SemC.lp (α := FwS) (fun a => [(0, .slc 6 (l.map Node.enc)), (3, vi i), (63, .slc 2 (n.attrs.map fun p => [vs p.1, vs p.2])), (64, vi n.attrs.length), (65, vi a.i)])
        (fun a => ⟨[], a.clk⟩)
        (fun a => a.i ≤ n.attrs.length ∧ ∀ i, i < a.i → (n.attrs.getD i (⟨#[]⟩, ⟨#[]⟩)).1.size ≤ 50 ∧ (n.attrs.getD i (⟨#[]⟩, ⟨#[]⟩)).2.size ≤ 50) (fun a => n.attrs.length - a.i) ⟨0, clk + 1⟩ ⟨Nat.zero_le _, fun i hi => by simp at hi⟩ (St.cut ?_ ?_ ?_) fun a ha => ?_
      · simp [Agrees, upd_at, ev]
      · simp
      · rfl
      obtain ⟨j, clk⟩ := a
      simp only at ha
      obtain ⟨a1, a2⟩ := ha
      by_cases hja : j = n.attrs.length
      · subst hja
        have hfn : fewN n = true := by
          unfold fewN; rw [decide_eq_true_eq]
          exact ⟨by omega, by omega, by omega, by omega, by omega, j2, a2⟩
        simp only [Int.lt_irrefl, go_sem, wpR_gcall, reduceCtorEq, reduceIte, Nat.reduceEqDiff, Nat.reduceAdd, Nat.reduceSub, Nat.reduceMul, Nat.reduceLT, Nat.reduceLeDiff, Nat.reduceBEq, Int.reduceEq, Int.reduceLT, Int.reduceLE, Int.reduceAdd, Int.reduceSub, Int.reduceNeg, Int.reduceToNat]
        refine ⟨by omega, ⟨i + 1, clk⟩, ⟨by dsimp only; omega, by dsimp only; omega, fun j hj => ?_⟩, by dsimp only; omega, by dsimp only; omega, rfl⟩
        dsimp only at hj
        by_cases e : j = i
        · subst e; rw [hN]; exact hfn
        · exact h3 j (by omega)
      · have e3 : (j : Int) < (n.attrs.length : Int) := by omega
        simp only [e3, getD_prs2, go_sem, wpR_gcall, reduceCtorEq, reduceIte, Nat.reduceEqDiff, Nat.reduceAdd, Nat.reduceSub, Nat.reduceMul, Nat.reduceLT, Nat.reduceLeDiff, Nat.reduceBEq, Int.reduceEq, Int.reduceLT, Int.reduceLE, Int.reduceAdd, Int.reduceSub, Int.reduceNeg, Int.reduceToNat]
        refine ⟨by omega, by omega, fun hh => hat fun h2 => ?_, fun hh => ⟨by omega, ⟨j + 1, clk + 1⟩, ⟨by dsimp only; omega, fun m hm => ?_⟩, by dsimp only; omega, by dsimp only; omega, rfl⟩⟩
        · have := h2 j (by omega); omega
        · dsimp only at hm
          by_cases e : m = j
          · subst e; omega
          · exact a2 m (by omega)
    · have e3 : (j : Int) < (n.cls.length : Int) := by omega
      simp only [e3, getD_strs, go_sem, wpR_gcall, reduceCtorEq, reduceIte, Nat.reduceEqDiff, Nat.reduceAdd, Nat.reduceSub, Nat.reduceMul, Nat.reduceLT, Nat.reduceLeDiff, Nat.reduceBEq, Int.reduceEq, Int.reduceLT, Int.reduceLE, Int.reduceAdd, Int.reduceSub, Int.reduceNeg, Int.reduceToNat]
      refine ⟨by omega, fun hh => hc fun h2 => ?_, fun hh => ⟨by omega, j + 1, ⟨by omega, fun m hm => ?_⟩, by omega, by omega⟩⟩
      · have := h2 j (by omega); omega
      · by_cases e : m = j
        · subst e; omega
        · exact j2 m (by omega)
  · by_cases hlt : i < l.length
    · have e1 : (i : Int) < (l.length : Int) := by omega
      have e2 : ¬ (i : Int) ≤ 60 := by omega
      have e3 : ¬ (l.length : Int) ≤ 60 := by omega
      have e4 : few9 l = false := by
        unfold few9; rw [decide_eq_false_iff_not]; intro hh; have := hh.1; omega
      simp only [e1, e2, e3, e4, go_sem, wpR_gcall, reduceCtorEq, reduceIte, Nat.reduceEqDiff, Nat.reduceAdd, Nat.reduceSub, Nat.reduceMul, Nat.reduceLT, Nat.reduceLeDiff, Nat.reduceBEq, Int.reduceEq, Int.reduceLT, Int.reduceLE, Int.reduceAdd, Int.reduceSub, Int.reduceNeg, Int.reduceToNat]
    · have e1 : ¬ (i : Int) < (l.length : Int) := by omega
      by_cases e3 : (l.length : Int) ≤ 60
      · have e4 : few9 l = true := by
          unfold few9; rw [decide_eq_true_eq]; exact ⟨by omega, fun j hj => h3 j (by omega)⟩
        simp only [e1, e3, e4, go_sem, wpR_gcall, reduceCtorEq, reduceIte, Nat.reduceEqDiff, Nat.reduceAdd, Nat.reduceSub, Nat.reduceMul, Nat.reduceLT, Nat.reduceLeDiff, Nat.reduceBEq, Int.reduceEq, Int.reduceLT, Int.reduceLE, Int.reduceAdd, Int.reduceSub, Int.reduceNeg, Int.reduceToNat]
      · have e4 : few9 l = false := by
          unfold few9; rw [decide_eq_false_iff_not]; intro hh; have := hh.1; omega
        simp only [e1, e3, e4, go_sem, wpR_gcall, reduceCtorEq, reduceIte, Nat.reduceEqDiff, Nat.reduceAdd, Nat.reduceSub, Nat.reduceMul, Nat.reduceLT, Nat.reduceLeDiff, Nat.reduceBEq, Int.reduceEq, Int.reduceLT, Int.reduceLE, Int.reduceAdd, Int.reduceSub, Int.reduceNeg, Int.reduceToNat]
def sumFew9 : Sum Try.prog := ⟨9, fun args => args = [nodes (dNodes (args.getD 0 .any))], fun args => vb (few9 (dNodes (args.getD 0 .any))), fun args h => by
  have := few9_ok (dNodes (args.getD 0 .any)); rwa [← h] at this, true⟩
theorem sumFew9_f : sumFew9.f = 9 := rfl
theorem sumFew9_D (args : List V) : sumFew9.D args = (args = [nodes (dNodes (args.getD 0 .any))]) := rfl
theorem sumFew9_flat : sumFew9.flat = true := rfl
theorem sumFew9_r (args : List V) : sumFew9.r args = vb (few9 (dNodes (args.getD 0 .any))) := rfl
section
variable {cx : Cx} {rest : C} {Q : Post} {e : Nat → V} {h : Heap}
theorem on_gcall (d : Option Nat) (t : Nat) (want : Bool) (f : FuncId) (xs : List X) (r : List AOp) (h1 : enB (e t) want = true) (h2 : (asB (e t).un).2 = true) (h3 : cx.T.flat f = false) :
    wpR cx (⟨d, some (t, want), none, .call f xs⟩ :: r) rest Q e h = (goks e xs = true ∧ cx.T.pre f (xs.map (uval e)) h ∧ wpR cx r rest Q (putE e d (cx.T.v f (xs.map (uval e)) h)) (cx.T.hp f (xs.map (uval e)) h)) := by
  rw [wpR_gcall]
  simp only [h1, h2, h3, Bool.false_eq_true, if_false, forall_const, implies_true, true_and, reduceCtorEq, false_implies, and_true, Bool.true_eq_false]
theorem off_gcall (d : Option Nat) (t : Nat) (want : Bool) (f : FuncId) (xs : List X) (r : List AOp) (h1 : enB (e t) want = false) (h2 : (e t).gok = true → (asB (e t).un).2 = true) (h3 : cx.T.flat f = false) :
    wpR cx (⟨d, some (t, want), none, .call f xs⟩ :: r) rest Q e h = wpR cx r rest Q (putE e d (.c undef)) h := by
  rw [wpR_gcall]
  simp only [h1, h3, Bool.false_eq_true, if_false, false_implies, true_and, forall_const]
  exact propext ⟨fun k => k.2, fun k => ⟨h2, k⟩⟩
theorem flat_gcall (d : Option Nat) (t : Nat) (want : Bool) (f : FuncId) (xs : List X) (r : List AOp) (h3 : cx.T.flat f = true) :
    wpR cx (⟨d, some (t, want), none, .call f xs⟩ :: r) rest Q e h = (((e t).gok = true → (asB (e t).un).2 = true) ∧ (enB (e t) want = true → goks e xs = true ∧ cx.T.qpre f (xs.map (uval e)) h) ∧ wpR cx r rest Q (putE e d (.gd (enB (e t) want) (.c (cx.T.qv f (xs.map (uval e)) h)))) h) := by
  rw [wpR_gcall]
  simp only [h3, if_true]
end
end Go.Proofs.Ytcjephhkgccmgaa
