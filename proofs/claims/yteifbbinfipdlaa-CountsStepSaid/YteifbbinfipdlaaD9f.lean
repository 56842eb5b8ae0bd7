/- Layer 9: what is in a node, its children, its text. -/
import Derived.Test.YteifbbinfipdlaaD9e
namespace Go.Proofs.Yteifbbinfipdlaa
open Go.Sx
set_option linter.unusedSimpArgs false
set_option maxHeartbeats 4000000
set_option maxRecDepth 20000

def isB (l : List Node) (k : Int) : Bool := docB l && decide (0 ≤ k ∧ k < l.length)
theorem isB_iff (l : List Node) (k : Int) : isB l k = true ↔ isDoc l ∧ 0 ≤ k ∧ k < l.length := by
  unfold isB; rw [Bool.and_eq_true, docB_iff, decide_eq_true_eq]
def sumChkT : Sum Try.prog := ⟨42, fun args => args = [nodes (dNodes (args.getD 0 .any))] ∧ ((dNodes (args.getD 0 .any))).length ≤ 1000, fun args => chkOf (dNodes (args.getD 0 .any)) (badT (dNodes (args.getD 0 .any))), fun args h => by
  have := chkT_ok (dNodes (args.getD 0 .any)) h.2; rwa [← h.1] at this, false⟩
theorem sumChkT_f : sumChkT.f = 42 := rfl
theorem sumChkT_D (args : List V) : sumChkT.D args = (args = [nodes (dNodes (args.getD 0 .any))] ∧ ((dNodes (args.getD 0 .any))).length ≤ 1000) := rfl
theorem sumChkT_flat : sumChkT.flat = false := rfl
theorem sumChkT_r (args : List V) : sumChkT.r args = chkOf (dNodes (args.getD 0 .any)) (badT (dNodes (args.getD 0 .any))) := rfl
attribute [go_sem] sumChkT_f sumChkT_D sumChkT_flat sumChkT_r
def sumChkR : Sum Try.prog := ⟨35, fun args => args = [nodes (dNodes (args.getD 0 .any))] ∧ ((dNodes (args.getD 0 .any))).length ≤ 1000, fun args => chkOf (dNodes (args.getD 0 .any)) (badR (dNodes (args.getD 0 .any))), fun args h => by
  have := chkR_ok (dNodes (args.getD 0 .any)) h.2; rwa [← h.1] at this, false⟩
theorem sumChkR_f : sumChkR.f = 35 := rfl
theorem sumChkR_D (args : List V) : sumChkR.D args = (args = [nodes (dNodes (args.getD 0 .any))] ∧ ((dNodes (args.getD 0 .any))).length ≤ 1000) := rfl
theorem sumChkR_flat : sumChkR.flat = false := rfl
theorem sumChkR_r (args : List V) : sumChkR.r args = chkOf (dNodes (args.getD 0 .any)) (badR (dNodes (args.getD 0 .any))) := rfl
attribute [go_sem] sumChkR_f sumChkR_D sumChkR_flat sumChkR_r
theorem is_ok (l : List Node) (k : Int) (hl : l.length ≤ 1000) : PCall Try.prog 52 [nodes l, vi k] (vb (isB l k)) := by
  refine PCall.of (Orc.cons sumChkT (Orc.nil _)) c52_ok (by simp [c52]) fun w0 own0 => ?_
  simp only [c52, nodes, dNodes_map, chkOf, bad_eq, go_sem, wpR_gcall, reduceCtorEq, reduceIte, Nat.reduceEqDiff, Nat.reduceAdd, Nat.reduceSub, Nat.reduceMul, Nat.reduceLT, Nat.reduceLeDiff, Nat.reduceBEq, Int.reduceEq, Int.reduceLT, Int.reduceLE, Int.reduceAdd, Int.reduceSub, Int.reduceNeg, Int.reduceToNat]
  refine ⟨hl, ?_⟩
  have e : decide ((if 0 ≤ badR l ∨ l.length = 0 then (5 : Int) else 0) = 0) = docB l := by
    unfold docB
    rw [decide_eq_decide]
    split <;> omega
  rw [e, Bool.and_assoc, ← Bool.decide_and]
  rfl
def sumIs : Sum Try.prog := ⟨52, fun args => args = [nodes (dNodes (args.getD 0 .any)), vi ((args.getD 1 .any).int)] ∧ ((dNodes (args.getD 0 .any))).length ≤ 1000, fun args => vb (isB (dNodes (args.getD 0 .any)) ((args.getD 1 .any).int)), fun args h => by
  have := is_ok (dNodes (args.getD 0 .any)) ((args.getD 1 .any).int) h.2; rwa [← h.1] at this, true⟩
theorem sumIs_f : sumIs.f = 52 := rfl
theorem sumIs_D (args : List V) : sumIs.D args = (args = [nodes (dNodes (args.getD 0 .any)), vi ((args.getD 1 .any).int)] ∧ ((dNodes (args.getD 0 .any))).length ≤ 1000) := rfl
theorem sumIs_flat : sumIs.flat = true := rfl
theorem sumIs_r (args : List V) : sumIs.r args = vb (isB (dNodes (args.getD 0 .any)) ((args.getD 1 .any).int)) := rfl
attribute [go_sem] sumIs_f sumIs_D sumIs_flat sumIs_r
def endV (l : List Node) (k : Int) : Int := if isB l k = true then endN l k.toNat else -1
theorem end_ok (l : List Node) (k : Int) (hl : l.length ≤ 1000) : PCall Try.prog 48 [nodes l, vi k] (vi (endV l k)) := by
  refine PCall.of (Orc.cons sumIs (Orc.cons sumEndT (Orc.nil _))) c48_ok (by simp [c48]) fun w0 own0 => ?_
  simp only [c48, nodes, dNodes_map, go_sem, wpR_gcall, reduceCtorEq, reduceIte, Nat.reduceEqDiff, Nat.reduceAdd, Nat.reduceSub, Nat.reduceMul, Nat.reduceLT, Nat.reduceLeDiff, Nat.reduceBEq, Int.reduceEq, Int.reduceLT, Int.reduceLE, Int.reduceAdd, Int.reduceSub, Int.reduceNeg, Int.reduceToNat]
  refine ⟨hl, fun h => ?_, fun h => ?_⟩
  · unfold endV; rw [h]; rfl
  · have h' := (isB_iff l k).1 h
    refine ⟨⟨by omega, by omega, by omega⟩, ?_⟩
    unfold endV; rw [h, if_pos rfl, (endN_spec l k.toNat (by omega)).1]
def sumEnd : Sum Try.prog := ⟨48, fun args => args = [nodes (dNodes (args.getD 0 .any)), vi ((args.getD 1 .any).int)] ∧ ((dNodes (args.getD 0 .any))).length ≤ 1000, fun args => vi (endV (dNodes (args.getD 0 .any)) ((args.getD 1 .any).int)), fun args h => by
  have := end_ok (dNodes (args.getD 0 .any)) ((args.getD 1 .any).int) h.2; rwa [← h.1] at this, true⟩
theorem sumEnd_f : sumEnd.f = 48 := rfl
theorem sumEnd_D (args : List V) : sumEnd.D args = (args = [nodes (dNodes (args.getD 0 .any)), vi ((args.getD 1 .any).int)] ∧ ((dNodes (args.getD 0 .any))).length ≤ 1000) := rfl
theorem sumEnd_flat : sumEnd.flat = true := rfl
theorem sumEnd_r (args : List V) : sumEnd.r args = vi (endV (dNodes (args.getD 0 .any)) ((args.getD 1 .any).int)) := rfl
attribute [go_sem] sumEnd_f sumEnd_D sumEnd_flat sumEnd_r
structure KiS where
  n : Nat
  ver : Nat
  clk : Nat

def fewN (n : Node) : Bool := decide (n.type.size ≤ 50 ∧ n.id.size ≤ 50 ∧ n.text.size ≤ 50 ∧ n.cls.length ≤ 5 ∧ n.attrs.length ≤ 5 ∧ (∀ j, j < n.cls.length → (n.cls.getD j ⟨#[]⟩).size ≤ 50) ∧ ∀ j, j < n.attrs.length → (n.attrs.getD j (⟨#[]⟩, ⟨#[]⟩)).1.size ≤ 50 ∧ (n.attrs.getD j (⟨#[]⟩, ⟨#[]⟩)).2.size ≤ 50)
def few9 (l : List Node) : Bool := decide (l.length ≤ 60 ∧ ∀ i, i < l.length → fewN (l.getD i .zero) = true)
theorem few9_not {l : List Node} {i : Nat} (hi : i < l.length) (h : ¬ fewN (l.getD i .zero) = true) : false = few9 l := by
  unfold few9
  symm
  rw [decide_eq_false_iff_not]
  exact fun hh => h (hh.2 i hi)
structure FwS where
  i : Nat
  clk : Nat
theorem few9_ok (l : List Node) : PCall Try.prog 45 [nodes l] (vb (few9 l)) := by
  refine PCall.of (Orc.nil _) c45_ok (by simp [c45]) fun w0 own0 => ?_
  simp only [c45, nodes, go_sem, wpR_gcall, reduceCtorEq, reduceIte, Nat.reduceEqDiff, Nat.reduceAdd, Nat.reduceSub, Nat.reduceMul, Nat.reduceLT, Nat.reduceLeDiff, Nat.reduceBEq, Int.reduceEq, Int.reduceLT, Int.reduceLE, Int.reduceAdd, Int.reduceSub, Int.reduceNeg, Int.reduceToNat]
  refine SemC.lp (α := FwS) (fun a => [(0, .slc 6 (l.map Node.enc)), (3, vi a.i)]) (fun a => ⟨[], a.clk⟩)
    (fun a => a.i ≤ l.length ∧ a.i ≤ 61 ∧ ∀ i, i < a.i → fewN (l.getD i .zero) = true) (fun a => l.length - a.i) ⟨0, 0⟩ ⟨by simp, by simp, fun i hi => by simp at hi⟩ (St.mk (by simp [Agrees, upd_at, initE_at])) fun a ha => ?_
  obtain ⟨i, clk⟩ := a
  simp only at ha
  obtain ⟨h1, h2, h3⟩ := ha
  by_cases hil : i < l.length ∧ i ≤ 60
  · have e1 : (i : Int) < (l.length : Int) := by omega
    have e2 : (i : Int) ≤ 60 := by omega
    have hg := getD_nodes l i [.c (.int .i64 0), .c (.string ⟨#[]⟩), .c (.string ⟨#[]⟩), .c (.slice none 0 0), .c (.slice none 0 0), .c (.string ⟨#[]⟩)] hil.1
    generalize hN : l.getD i .zero = n at *
    simp only [e1, e2, hg, Node.enc, go_sem, wpR_gcall, reduceCtorEq, reduceIte, Nat.reduceEqDiff, Nat.reduceAdd, Nat.reduceSub, Nat.reduceMul, Nat.reduceLT, Nat.reduceLeDiff, Nat.reduceBEq, Int.reduceEq, Int.reduceLT, Int.reduceLE, Int.reduceAdd, Int.reduceSub, Int.reduceNeg, Int.reduceToNat]
    have hi := hil.1
    refine ⟨by omega, by omega, by omega, by omega, by omega, fun h => ?_, fun h => ?_⟩
    · refine few9_not hi ?_
      rw [hN]; unfold fewN; rw [decide_eq_true_eq]
      rintro ⟨a1, a2, a3, a4, a5, _⟩
      omega
    have hc : (¬ ∀ j, j < n.cls.length → (n.cls.getD j ⟨#[]⟩).size ≤ 50) → false = few9 l := fun hh => by
      refine few9_not hi ?_
      rw [hN]; unfold fewN; rw [decide_eq_true_eq]
      exact fun a => hh a.2.2.2.2.2.1
    have hat : (¬ ∀ j, j < n.attrs.length → (n.attrs.getD j (⟨#[]⟩, ⟨#[]⟩)).1.size ≤ 50 ∧ (n.attrs.getD j (⟨#[]⟩, ⟨#[]⟩)).2.size ≤ 50) → false = few9 l := fun hh => by
      refine few9_not hi ?_
      rw [hN]; unfold fewN; rw [decide_eq_true_eq]
      exact fun a => hh a.2.2.2.2.2.2
    refine SemC.lp (α := Nat) (fun j => [(0, .slc 6 (l.map Node.enc)), (3, vi i), (4, .ptr 0 clk 0 0), (52, .slc 1 (n.cls.map fun s => [vs s])), (53, vi n.cls.length), (54, vi j)])
      (fun _ => ⟨[⟨clk, 6, [n.enc], false, []⟩], clk + 1⟩)
      (fun j => j ≤ n.cls.length ∧ ∀ i, i < j → (n.cls.getD i ⟨#[]⟩).size ≤ 50) (fun j => n.cls.length - j) 0 ⟨Nat.zero_le _, fun i hi => by omega⟩ (St.cut ?_ ?_ ?_) fun j hj => ?_
    · simp [Agrees, upd_at, ev]
    · simp [Node.enc]
    · rfl
    obtain ⟨j1, j2⟩ := hj
    by_cases hjl : j = n.cls.length
    · subst hjl
      simp only [Int.lt_irrefl, Node.enc, go_sem, wpR_gcall, reduceCtorEq, reduceIte, Nat.reduceEqDiff, Nat.reduceAdd, Nat.reduceSub, Nat.reduceMul, Nat.reduceLT, Nat.reduceLeDiff, Nat.reduceBEq, Int.reduceEq, Int.reduceLT, Int.reduceLE, Int.reduceAdd, Int.reduceSub, Int.reduceNeg, Int.reduceToNat]
      refine SemC.lp (α := FwS) (fun a => [(0, .slc 6 (l.map Node.enc)), (3, vi i), (63, .slc 2 (n.attrs.map fun p => [vs p.1, vs p.2])), (64, vi n.attrs.length), (65, vi a.i)])
        (fun a => ⟨[], a.clk⟩)
        (fun a => a.i ≤ n.attrs.length ∧ ∀ i, i < a.i → (n.attrs.getD i (⟨#[]⟩, ⟨#[]⟩)).1.size ≤ 50 ∧ (n.attrs.getD i (⟨#[]⟩, ⟨#[]⟩)).2.size ≤ 50) (fun a => n.attrs.length - a.i) ⟨0, clk + 1⟩ ⟨Nat.zero_le _, fun i hi => by simp at hi⟩ (St.cut ?_ ?_ ?_) fun a ha => ?_
      · simp [Agrees, upd_at, ev]
      · simp
      · rfl
      obtain ⟨j, clk⟩ := a
      simp only at ha
      obtain ⟨a1, a2⟩ := ha
      by_cases hja : j = n.attrs.length
      · subst hja
        have hfn : fewN n = true := by
          unfold fewN; rw [decide_eq_true_eq]
          exact ⟨by omega, by omega, by omega, by omega, by omega, j2, a2⟩
        simp only [Int.lt_irrefl, go_sem, wpR_gcall, reduceCtorEq, reduceIte, Nat.reduceEqDiff, Nat.reduceAdd, Nat.reduceSub, Nat.reduceMul, Nat.reduceLT, Nat.reduceLeDiff, Nat.reduceBEq, Int.reduceEq, Int.reduceLT, Int.reduceLE, Int.reduceAdd, Int.reduceSub, Int.reduceNeg, Int.reduceToNat]
        refine ⟨by omega, ⟨i + 1, clk⟩, ⟨by dsimp only; omega, by dsimp only; omega, fun j hj => ?_⟩, by dsimp only; omega, by dsimp only; omega, rfl⟩
        dsimp only at hj
        by_cases e : j = i
        · subst e; rw [hN]; exact hfn
        · exact h3 j (by omega)
      · have e3 : (j : Int) < (n.attrs.length : Int) := by omega
        simp only [e3, getD_prs2, go_sem, wpR_gcall, reduceCtorEq, reduceIte, Nat.reduceEqDiff, Nat.reduceAdd, Nat.reduceSub, Nat.reduceMul, Nat.reduceLT, Nat.reduceLeDiff, Nat.reduceBEq, Int.reduceEq, Int.reduceLT, Int.reduceLE, Int.reduceAdd, Int.reduceSub, Int.reduceNeg, Int.reduceToNat]
        refine ⟨by omega, by omega, fun hh => hat fun h2 => ?_, fun hh => ⟨by omega, ⟨j + 1, clk + 1⟩, ⟨by dsimp only; omega, fun m hm => ?_⟩, by dsimp only; omega, by dsimp only; omega, rfl⟩⟩
        · have := h2 j (by omega); omega
        · dsimp only at hm
          by_cases e : m = j
          · subst e; omega
          · exact a2 m (by omega)
    · have e3 : (j : Int) < (n.cls.length : Int) := by omega
      simp only [e3, getD_strs, go_sem, wpR_gcall, reduceCtorEq, reduceIte, Nat.reduceEqDiff, Nat.reduceAdd, Nat.reduceSub, Nat.reduceMul, Nat.reduceLT, Nat.reduceLeDiff, Nat.reduceBEq, Int.reduceEq, Int.reduceLT, Int.reduceLE, Int.reduceAdd, Int.reduceSub, Int.reduceNeg, Int.reduceToNat]
      refine ⟨by omega, fun hh => hc fun h2 => ?_, fun hh => ⟨by omega, j + 1, ⟨by omega, fun m hm => ?_⟩, by omega, by omega⟩⟩
      · have := h2 j (by omega); omega
      · by_cases e : m = j
        · subst e; omega
        · exact j2 m (by omega)
  · by_cases hlt : i < l.length
    · have e1 : (i : Int) < (l.length : Int) := by omega
      have e2 : ¬ (i : Int) ≤ 60 := by omega
      have e3 : ¬ (l.length : Int) ≤ 60 := by omega
      have e4 : few9 l = false := by
        unfold few9; rw [decide_eq_false_iff_not]; intro hh; have := hh.1; omega
      simp only [e1, e2, e3, e4, go_sem, wpR_gcall, reduceCtorEq, reduceIte, Nat.reduceEqDiff, Nat.reduceAdd, Nat.reduceSub, Nat.reduceMul, Nat.reduceLT, Nat.reduceLeDiff, Nat.reduceBEq, Int.reduceEq, Int.reduceLT, Int.reduceLE, Int.reduceAdd, Int.reduceSub, Int.reduceNeg, Int.reduceToNat]
    · have e1 : ¬ (i : Int) < (l.length : Int) := by omega
      by_cases e3 : (l.length : Int) ≤ 60
      · have e4 : few9 l = true := by
          unfold few9; rw [decide_eq_true_eq]; exact ⟨by omega, fun j hj => h3 j (by omega)⟩
        simp only [e1, e3, e4, go_sem, wpR_gcall, reduceCtorEq, reduceIte, Nat.reduceEqDiff, Nat.reduceAdd, Nat.reduceSub, Nat.reduceMul, Nat.reduceLT, Nat.reduceLeDiff, Nat.reduceBEq, Int.reduceEq, Int.reduceLT, Int.reduceLE, Int.reduceAdd, Int.reduceSub, Int.reduceNeg, Int.reduceToNat]
      · have e4 : few9 l = false := by
          unfold few9; rw [decide_eq_false_iff_not]; intro hh; have := hh.1; omega
        simp only [e1, e3, e4, go_sem, wpR_gcall, reduceCtorEq, reduceIte, Nat.reduceEqDiff, Nat.reduceAdd, Nat.reduceSub, Nat.reduceMul, Nat.reduceLT, Nat.reduceLeDiff, Nat.reduceBEq, Int.reduceEq, Int.reduceLT, Int.reduceLE, Int.reduceAdd, Int.reduceSub, Int.reduceNeg, Int.reduceToNat]
def sumFew9 : Sum Try.prog := ⟨45, fun args => args = [nodes (dNodes (args.getD 0 .any))], fun args => vb (few9 (dNodes (args.getD 0 .any))), fun args h => by
  have := few9_ok (dNodes (args.getD 0 .any)); rwa [← h] at this, true⟩
theorem sumFew9_f : sumFew9.f = 45 := rfl
theorem sumFew9_D (args : List V) : sumFew9.D args = (args = [nodes (dNodes (args.getD 0 .any))]) := rfl
theorem sumFew9_flat : sumFew9.flat = true := rfl
theorem sumFew9_r (args : List V) : sumFew9.r args = vb (few9 (dNodes (args.getD 0 .any))) := rfl
attribute [go_sem] sumFew9_f sumFew9_D sumFew9_flat sumFew9_r
section
variable {cx : Cx} {rest : C} {Q : Post} {e : Nat → V} {h : Heap}
theorem on_gcall (d : Option Nat) (t : Nat) (want : Bool) (f : FuncId) (xs : List X) (r : List AOp) (h1 : enB (e t) want = true) (h2 : (asB (e t).un).2 = true) (h3 : cx.T.flat f = false) :
    wpR cx (⟨d, some (t, want), none, .call f xs⟩ :: r) rest Q e h = (goks e xs = true ∧ cx.T.pre f (xs.map (uval e)) h ∧ wpR cx r rest Q (putE e d (cx.T.v f (xs.map (uval e)) h)) (cx.T.hp f (xs.map (uval e)) h)) := by
  rw [wpR_gcall]
  simp only [h1, h2, h3, Bool.false_eq_true, if_false, forall_const, implies_true, true_and, reduceCtorEq, false_implies, and_true, Bool.true_eq_false]
theorem off_gcall (d : Option Nat) (t : Nat) (want : Bool) (f : FuncId) (xs : List X) (r : List AOp) (h1 : enB (e t) want = false) (h2 : (e t).gok = true → (asB (e t).un).2 = true) (h3 : cx.T.flat f = false) :
    wpR cx (⟨d, some (t, want), none, .call f xs⟩ :: r) rest Q e h = wpR cx r rest Q (putE e d (.c undef)) h := by
  rw [wpR_gcall]
  simp only [h1, h3, Bool.false_eq_true, if_false, false_implies, true_and, forall_const]
  exact propext ⟨fun k => k.2, fun k => ⟨h2, k⟩⟩
theorem flat_gcall (d : Option Nat) (t : Nat) (want : Bool) (f : FuncId) (xs : List X) (r : List AOp) (h3 : cx.T.flat f = true) :
    wpR cx (⟨d, some (t, want), none, .call f xs⟩ :: r) rest Q e h = (((e t).gok = true → (asB (e t).un).2 = true) ∧ (enB (e t) want = true → goks e xs = true ∧ cx.T.qpre f (xs.map (uval e)) h) ∧ wpR cx r rest Q (putE e d (.gd (enB (e t) want) (.c (cx.T.qv f (xs.map (uval e)) h)))) h) := by
  rw [wpR_gcall]
  simp only [h3, if_true]
end
end Go.Proofs.Yteifbbinfipdlaa
