/- Layer 9: the small functions. -/
import Derived.Test.YteifbbinfipdlaaCd
import Derived.Test.YteifbbinfipdlaaE4
namespace Go.Proofs.Yteifbbinfipdlaa
open Go.Sx
set_option linter.unusedSimpArgs false
set_option maxHeartbeats 4000000
set_option maxRecDepth 20000

def nodeZ : List V := [vi 0, vs ⟨#[]⟩, vs ⟨#[]⟩, vnil, vnil, vs ⟨#[]⟩]
def clsV (l : List Node) (i : Nat) : V := ((l.map Node.enc).getD i nodeZ).getD 3 .any
def attV (l : List Node) (i : Nat) : V := ((l.map Node.enc).getD i nodeZ).getD 4 .any
theorem nodeAt (l : List Node) (i : Nat) : (l.map Node.enc).getD i [.c (.int .i64 0), .c (.string ⟨#[]⟩), .c (.string ⟨#[]⟩), .c (.slice none 0 0), .c (.slice none 0 0), .c (.string ⟨#[]⟩)] =
    [vi (l.getD i .zero).parent, vs (l.getD i .zero).type, vs (l.getD i .zero).id, clsV l i, attV l i, vs (l.getD i .zero).text] := by
  by_cases h : i < l.length
  · unfold clsV attV
    rw [getD_nodes l i _ h, getD_nodes l i _ h]
    rfl
  · have h1 : (l.map Node.enc)[i]? = none := List.getElem?_eq_none (by simpa using h)
    have h2 : l[i]? = none := List.getElem?_eq_none (by omega)
    simp only [clsV, attV, List.getD_eq_getElem?_getD, h1, h2]
    rfl
theorem clsV_in (l : List Node) (i : Nat) (h : i < l.length) : clsV l i = .slc 1 ((l.getD i .zero).cls.map fun s => [vs s]) := by
  unfold clsV; rw [getD_nodes l i _ h]; rfl
theorem attV_in (l : List Node) (i : Nat) (h : i < l.length) : attV l i = .slc 2 ((l.getD i .zero).attrs.map fun p => [vs p.1, vs p.2]) := by
  unfold attV; rw [getD_nodes l i _ h]; rfl
/-- The first one of which something holds. -/
def fst (p : Nat → Bool) : Nat → Nat → Int
  | 0, _ => -1
  | f + 1, k => if p k = true then k else fst p f (k + 1)
theorem fst_spec (p : Nat → Bool) : ∀ (f k : Nat), (fst p f k = -1 ∧ ∀ i, k ≤ i → i < k + f → p i = false) ∨ ∃ m : Nat, fst p f k = m ∧ k ≤ m ∧ m < k + f ∧ p m = true ∧ ∀ i, k ≤ i → i < m → p i = false
  | 0, k => .inl ⟨rfl, fun i h1 h2 => by omega⟩
  | f + 1, k => by
    simp only [fst]
    by_cases h : p k = true
    · rw [if_pos h]; exact .inr ⟨k, rfl, Nat.le_refl _, by omega, h, fun i h1 h2 => by omega⟩
    · rw [if_neg h]
      have h' : p k = false := by simpa using h
      rcases fst_spec p f (k + 1) with ⟨h1, h2⟩ | ⟨m, h1, h2, h3, h4, h5⟩
      · refine .inl ⟨h1, fun i hi1 hi2 => ?_⟩
        by_cases e : i = k
        · subst e; exact h'
        · exact h2 i (by omega) (by omega)
      · refine .inr ⟨m, h1, by omega, by omega, h4, fun i hi1 hi2 => ?_⟩
        by_cases e : i = k
        · subst e; exact h'
        · exact h5 i (by omega) hi2
theorem fst_step (p : Nat → Bool) (n k : Nat) (h : k < n) : fst p (n - k) k = if p k = true then (k : Int) else fst p (n - (k + 1)) (k + 1) := by
  obtain ⟨f, hf⟩ : ∃ f, n - k = f + 1 := ⟨n - k - 1, by omega⟩
  rw [hf, show n - (k + 1) = f by omega]; rfl
theorem fst_end (p : Nat → Bool) (n : Nat) : fst p (n - n) n = -1 := by rw [Nat.sub_self]; rfl
def ixI (l : List Int) (x : Int) : Int := fst (fun i => decide (x = l.getD i 0)) (l.length - 0) 0
theorem ixI_mem (l : List Int) (x : Int) : 0 ≤ ixI l x ↔ x ∈ l := by
  unfold ixI
  rcases fst_spec (fun i => decide (x = l.getD i 0)) (l.length - 0) 0 with ⟨h1, h2⟩ | ⟨m, h1, h2, h3, h4, h5⟩
  · rw [h1]
    refine ⟨fun h => by omega, fun h => ?_⟩
    obtain ⟨i, hi, rfl⟩ := List.getElem_of_mem h
    have := h2 i (by omega) (by omega)
    simp [List.getD_eq_getElem?_getD, hi] at this
  · rw [h1]
    refine ⟨fun _ => ?_, fun _ => by omega⟩
    simp only [decide_eq_true_eq] at h4
    rw [h4, List.getD_eq_getElem?_getD, List.getElem?_eq_getElem (by omega)]
    exact List.getElem_mem _
theorem ixI_ok (l : List Int) (x : Int) (hl : l.length ≤ 1000000) : PCall Try.prog 46 [ints l, vi x] (vi (ixI l x)) := by
  refine PCall.of (Orc.nil _) c46_ok (by simp [c46]) fun w0 own0 => ?_
  simp only [c46, ints, go_sem, wpR_gcall, reduceCtorEq, reduceIte, Nat.reduceEqDiff, Nat.reduceAdd, Nat.reduceSub, Nat.reduceMul, Nat.reduceLT, Nat.reduceLeDiff, Nat.reduceBEq, Int.reduceEq, Int.reduceLT, Int.reduceLE, Int.reduceAdd, Int.reduceSub, Int.reduceNeg, Int.reduceToNat]
  refine SemC.lp (α := Nat) (fun k => [(0, .slc 1 (l.map fun n => [vi n])), (1, vi x), (7, vi l.length), (8, vi k)]) (fun _ => ⟨[], 0⟩)
    (fun k => k ≤ l.length ∧ fst (fun i => decide (x = l.getD i 0)) (l.length - k) k = ixI l x) (fun k => l.length - k) 0 ⟨Nat.zero_le _, rfl⟩ (St.mk (by simp [Agrees, upd_at, initE_at])) fun k hk => ?_
  obtain ⟨h1, h2⟩ := hk
  by_cases hkl : k = l.length
  · subst hkl
    rw [fst_end] at h2
    simp only [Int.lt_irrefl, ← h2, go_sem, wpR_gcall, reduceCtorEq, reduceIte, Nat.reduceEqDiff, Nat.reduceAdd, Nat.reduceSub, Nat.reduceMul, Nat.reduceLT, Nat.reduceLeDiff, Nat.reduceBEq, Int.reduceEq, Int.reduceLT, Int.reduceLE, Int.reduceAdd, Int.reduceSub, Int.reduceNeg, Int.reduceToNat]
  · have e1 : (k : Int) < (l.length : Int) := by omega
    rw [fst_step _ _ _ (by omega)] at h2
    simp only [decide_eq_true_eq] at h2
    simp only [e1, go_sem, wpR_gcall, reduceCtorEq, reduceIte, Nat.reduceEqDiff, Nat.reduceAdd, Nat.reduceSub, Nat.reduceMul, Nat.reduceLT, Nat.reduceLeDiff, Nat.reduceBEq, Int.reduceEq, Int.reduceLT, Int.reduceLE, Int.reduceAdd, Int.reduceSub, Int.reduceNeg, Int.reduceToNat]
    refine ⟨by omega, fun h => by rw [if_pos h] at h2; exact h2, fun h => ⟨by omega, k + 1, ⟨by omega, by rw [if_neg h] at h2; exact h2⟩, by omega, by omega⟩⟩
def sumIxI : Sum Try.prog := ⟨46, fun args => args = [ints (dInts (args.getD 0 .any)), vi ((args.getD 1 .any).int)] ∧ ((dInts (args.getD 0 .any))).length ≤ 1000000, fun args => vi (ixI (dInts (args.getD 0 .any)) ((args.getD 1 .any).int)), fun args h => by
  have := ixI_ok (dInts (args.getD 0 .any)) ((args.getD 1 .any).int) h.2; rwa [← h.1] at this, true⟩
theorem sumIxI_f : sumIxI.f = 46 := rfl
theorem sumIxI_D (args : List V) : sumIxI.D args = (args = [ints (dInts (args.getD 0 .any)), vi ((args.getD 1 .any).int)] ∧ ((dInts (args.getD 0 .any))).length ≤ 1000000) := rfl
theorem sumIxI_flat : sumIxI.flat = true := rfl
theorem sumIxI_r (args : List V) : sumIxI.r args = vi (ixI (dInts (args.getD 0 .any)) ((args.getD 1 .any).int)) := rfl
attribute [go_sem] sumIxI_f sumIxI_D sumIxI_flat sumIxI_r
theorem conI_ok (l : List Int) (x : Int) (hl : l.length ≤ 1000000) : PCall Try.prog 25 [ints l, vi x] (vb (decide (x ∈ l))) := by
  refine PCall.of (Orc.cons sumIxI (Orc.nil _)) c25_ok (by simp [c25]) fun w0 own0 => ?_
  simp only [c25, ints, ixI_mem, go_sem, wpR_gcall, reduceCtorEq, reduceIte, Nat.reduceEqDiff, Nat.reduceAdd, Nat.reduceSub, Nat.reduceMul, Nat.reduceLT, Nat.reduceLeDiff, Nat.reduceBEq, Int.reduceEq, Int.reduceLT, Int.reduceLE, Int.reduceAdd, Int.reduceSub, Int.reduceNeg, Int.reduceToNat]
  exact hl
def sumConI : Sum Try.prog := ⟨25, fun args => args = [ints (dInts (args.getD 0 .any)), vi ((args.getD 1 .any).int)] ∧ ((dInts (args.getD 0 .any))).length ≤ 1000000, fun args => vb (decide (((args.getD 1 .any).int) ∈ (dInts (args.getD 0 .any)))), fun args h => by
  have := conI_ok (dInts (args.getD 0 .any)) ((args.getD 1 .any).int) h.2; rwa [← h.1] at this, true⟩
theorem sumConI_f : sumConI.f = 25 := rfl
theorem sumConI_D (args : List V) : sumConI.D args = (args = [ints (dInts (args.getD 0 .any)), vi ((args.getD 1 .any).int)] ∧ ((dInts (args.getD 0 .any))).length ≤ 1000000) := rfl
theorem sumConI_flat : sumConI.flat = true := rfl
theorem sumConI_r (args : List V) : sumConI.r args = vb (decide (((args.getD 1 .any).int) ∈ (dInts (args.getD 0 .any)))) := rfl
attribute [go_sem] sumConI_f sumConI_D sumConI_flat sumConI_r
end Go.Proofs.Yteifbbinfipdlaa
