/- Layer 19: a counter that is only added to: the plain law. -/
import Derived.Test.YteifbbinfipdlaaK19o
namespace Go.Proofs.Yteifbbinfipdlaa
open Go.Sx
set_option linter.unusedSimpArgs false
set_option maxHeartbeats 4000000
set_option maxRecDepth 20000

abbrev cS : ByteArray := ⟨#[99]⟩
def nP (q : Int) (ty : ByteArray) : Node := ⟨q, ty, ⟨#[]⟩, [], [], ⟨#[]⟩⟩
def pN (n : Nat) : List Node := nP (-1) ⟨#[104, 116, 109, 108]⟩ :: nP 0 ⟨#[100, 105, 118]⟩ :: (List.replicate n (nP 1 ⟨#[112]⟩) ++ [nP 0 ⟨#[112]⟩])
def dP (n : Nat) : Doc := ⟨pN n, List.replicate (n + 3) false, List.replicate (n + 3) 0, List.replicate (n + 3) 0, List.replicate (n + 3) ⟨#[]⟩⟩
def pO : Option Int → Prp
  | none => .zero
  | some n => ⟨0, 0, ⟨#[]⟩, [], [⟨cS, n, vnil⟩], [], vnil, ⟨#[]⟩⟩
def psO (l : List Int) : List (Option Int) := none :: none :: (l.map some ++ [none])
def chkP (n : Nat) : Bool :=
  decide (inV (dP n) = (List.range (n + 3)).map fun (i : Nat) => (i : Int)) && (List.range (n + 2)).all (fun k => decide (k < 2) || seenB (dP n) ⟨⟨#[]⟩, 0, 2⟩ k) && (decide (n = 0) || !seenB (dP n) ⟨⟨#[]⟩, 0, 2⟩ ((n + 2 : Nat) : Int))
theorem chk_all : (List.range 51).all chkP = true := by kernel_rfl
theorem pN_len (n : Nat) : (pN n).length = n + 3 := by simp [pN]
theorem dP_len (n : Nat) : (dP n).l.length = n + 3 := pN_len n
theorem psO_len (l : List Int) : (psO l).length = l.length + 3 := by simp [psO]
theorem chk_at {n : Nat} (hn : n ≤ 50) : inV (dP n) = ((List.range (n + 3)).map fun (i : Nat) => (i : Int)) ∧ (∀ (k : Nat) (c : Cnt), 2 ≤ k → k < n + 2 → c.maker = 2 → seenB (dP n) c k = true) ∧ (∀ c : Cnt, c.maker = 2 → n ≠ 0 → seenB (dP n) c ((n + 2 : Nat) : Int) = false) := by
  have h := List.all_eq_true.1 chk_all n (List.mem_range.2 (by omega))
  unfold chkP at h
  simp only [Bool.and_eq_true, Bool.or_eq_true, decide_eq_true_eq, Bool.not_eq_true'] at h
  obtain ⟨⟨h1, h2⟩, h3⟩ := h
  have e : ∀ (c : Cnt) (k : Int), c.maker = 2 → seenB (dP n) c k = seenB (dP n) ⟨⟨#[]⟩, 0, 2⟩ k := fun c k h => by unfold seenB; rw [h]
  refine ⟨h1, fun k c hk hk2 hc => ?_, fun c hc hn0 => ?_⟩
  · have := List.all_eq_true.1 h2 k (List.mem_range.2 hk2)
    simp only [Bool.or_eq_true, decide_eq_true_eq] at this
    rw [e c k hc]
    exact this.resolve_left (by omega)
  · rw [e c _ hc]
    exact h3.resolve_left hn0
def sI (l : List Int) : Nat → Int
  | 0 => 0
  | k + 1 => sI l k + l.getD k 0
def bdd (l : List Int) : Prop := ∀ x ∈ l, -1048576 ≤ x ∧ x ≤ 1048576
theorem bdd_at {l : List Int} (h : bdd l) (k : Nat) : -1048576 ≤ l.getD k 0 ∧ l.getD k 0 ≤ 1048576 := by
  by_cases hk : k < l.length
  · rw [List.getD_eq_getElem?_getD, List.getElem?_eq_getElem hk]; exact h _ (List.getElem_mem _)
  · rw [List.getD_eq_getElem?_getD, List.getElem?_eq_none (by omega)]; decide
theorem sI_rng {l : List Int} (h : bdd l) : ∀ k : Nat, -(1048576 * (k : Int)) ≤ sI l k ∧ sI l k ≤ 1048576 * (k : Int)
  | 0 => by simp [sI]
  | k + 1 => by
    have h1 := sI_rng h k
    have h2 := bdd_at h k
    simp only [sI]; omega
theorem addI_small {a b : Int} (h1 : -100000000 ≤ a ∧ a ≤ 100000000) (h2 : -100000000 ≤ b ∧ b ≤ 100000000) : addI a b = a + b := by
  unfold addI stopI; omega
theorem allS_at (d : Doc) (ps : List Prp) : ∀ (ks : List Int) (now : List Cnt) (i : Nat), i < ks.length →
    (allS d ps ks now).getD i [] = stepC d (ps.getD (ks.getD i 0).toNat .zero) (ks.getD i 0) (if i = 0 then now else (allS d ps ks now).getD (i - 1) [])
  | [], now, i, h => by simp at h
  | k :: ks, now, 0, _ => rfl
  | k :: ks, now, i + 1, h => by
    simp only [allS, List.getD_cons_succ, Nat.add_one_ne_zero, if_false, Nat.add_sub_cancel]
    rw [allS_at d ps ks _ i (by simpa using h)]
    by_cases h0 : i = 0
    · subst h0; rfl
    · obtain ⟨m, rfl⟩ : ∃ m, i = m + 1 := ⟨i - 1, by omega⟩
      rw [if_neg (by omega), Nat.add_sub_cancel, List.getD_cons_succ]
def Ex (l : List Int) (i : Nat) : List Cnt := if i < 2 then [] else if i < l.length + 2 then [⟨cS, sI l (i - 1), 2⟩] else []
theorem pO_at {l : List Int} {i : Nat} (hi : i < l.length + 3) : ((psO l).map pO).getD i .zero = if 2 ≤ i ∧ i < l.length + 2 then ⟨0, 0, ⟨#[]⟩, [], [⟨cS, l.getD (i - 2) 0, vnil⟩], [], vnil, ⟨#[]⟩⟩ else .zero := by
  unfold psO
  match i, hi with
  | 0, _ => rfl
  | 1, _ => rfl
  | i + 2, hi =>
    simp only [List.map_cons, List.getD_cons_succ, List.map_append, Nat.add_sub_cancel]
    by_cases h : i < l.length
    · rw [if_pos ⟨by omega, by omega⟩]
      simp [List.getD_eq_getElem?_getD, List.getElem?_append_left, h, pO]
    · rw [if_neg (by omega)]
      have : i = l.length := by omega
      subst this
      simp [List.getD_eq_getElem?_getD, pO]
theorem step_zero (d : Doc) (k : Int) (l : List Cnt) (hk : k ∈ inV d) : stepC d .zero k l = keepC d k l := by
  unfold stepC stepI; rw [if_pos hk]; rfl
theorem step_inc (d : Doc) (k n : Int) (l : List Cnt) (hk : k ∈ inV d) : stepC d ⟨0, 0, ⟨#[]⟩, [], [⟨cS, n, vnil⟩], [], vnil, ⟨#[]⟩⟩ k l = chg1 addI d k (keepC d k l) ⟨cS, n, vnil⟩ := by
  unfold stepC stepI; rw [if_pos hk]; rfl
theorem allP {l : List Int} (hl : l.length ≤ 50) (hb : bdd l) : (allC (dP l.length) ((psO l).map pO)).length = l.length + 3 ∧ ∀ i, i < l.length + 3 → (allC (dP l.length) ((psO l).map pO)).getD i [] = Ex l i := by
  obtain ⟨c1, c2, c3⟩ := chk_at hl
  unfold allC
  rw [if_pos (by rw [List.length_map, psO_len, dP_len])]
  have hkl : (inV (dP l.length)).length = l.length + 3 := by rw [c1]; simp
  have hka : ∀ i, i < l.length + 3 → (inV (dP l.length)).getD i 0 = (i : Int) := fun i hi => by
    rw [c1]; simp [List.getD_eq_getElem?_getD, hi]
  have hin : ∀ i : Nat, i < l.length + 3 → (i : Int) ∈ inV (dP l.length) := fun i hi => by
    rw [c1]; exact List.mem_map.2 ⟨i, List.mem_range.2 hi, rfl⟩
  refine ⟨by
    have : ∀ (ks : List Int) (now : List Cnt), (allS (dP l.length) ((psO l).map pO) ks now).length = ks.length := fun ks => by
      induction ks with
      | nil => intro _; rfl
      | cons k ks ih => intro now; simp only [allS, List.length_cons, ih]
    rw [this, hkl], fun i => ?_⟩
  induction i with
  | zero =>
    intro hi
    rw [allS_at _ _ _ _ 0 (by omega), if_pos rfl, hka 0 hi, Int.toNat_natCast, pO_at hi, if_neg (by omega), step_zero _ _ _ (hin 0 hi)]
    rfl
  | succ i ih =>
    intro hi
    have hp := ih (by omega)
    rw [allS_at _ _ _ _ (i + 1) (by omega), if_neg (by omega), Nat.add_sub_cancel, hp, hka _ hi, Int.toNat_natCast, pO_at hi]
    by_cases h1 : i + 1 < 2
    · have e : Ex l i = [] := by unfold Ex; rw [if_pos (by omega)]
      have e2 : Ex l (i + 1) = [] := by unfold Ex; rw [if_pos h1]
      rw [if_neg (by omega), step_zero _ _ _ (hin _ hi), e, e2]; rfl
    · by_cases h2 : i + 1 < l.length + 2
      · rw [if_pos ⟨by omega, h2⟩, step_inc _ _ _ _ (hin _ hi)]
        have e2 : Ex l (i + 1) = [⟨cS, sI l i, 2⟩] := by unfold Ex; rw [if_neg h1, if_pos h2, Nat.add_sub_cancel]
        rw [e2]
        have b1 := bdd_at hb (i + 1 - 2)
        by_cases h3 : i = 1
        · subst h3
          have e : Ex l 1 = [] := rfl
          have h0 : lastC [] cS = -1 := rfl
          rw [e]
          show chg1 addI (dP l.length) _ [] ⟨cS, l.getD 0 0, vnil⟩ = _
          rw [chg_no (s := ⟨cS, l.getD 0 0, vnil⟩) h0]
          have b0 := bdd_at hb 0
          have : addI (stopI 0) (l.getD 0 0) = sI l 1 := by rw [show stopI 0 = 0 from rfl, addI_small (by omega) (by omega)]; simp [sI]
          simp only [this, List.nil_append]
          rfl
        · obtain ⟨m, rfl⟩ : ∃ m, i = m + 2 := ⟨i - 2, by omega⟩
          have e : Ex l (m + 2) = [⟨cS, sI l (m + 1), 2⟩] := by unfold Ex; rw [if_neg (by omega), if_pos (by omega)]; rfl
          have hk : keepC (dP l.length) ((m + 2 + 1 : Nat) : Int) [⟨cS, sI l (m + 1), 2⟩] = [⟨cS, sI l (m + 1), 2⟩] := by
            have hc := c2 (m + 2 + 1) ⟨cS, sI l (m + 1), 2⟩ (by omega) h2 rfl
            unfold keepC; rw [List.filter_cons_of_pos (by exact hc)]; rfl
          have hla : lastC ([] ++ ⟨cS, sI l (m + 1), 2⟩ :: []) cS = (([] : List Cnt).length : Int) := lastC_app [] ⟨cS, sI l (m + 1), 2⟩
          have b2 := sI_rng hb (m + 1)
          rw [e, hk]
          show chg1 addI (dP l.length) _ ([] ++ ⟨cS, sI l (m + 1), 2⟩ :: []) ⟨cS, l.getD (m + 1) 0, vnil⟩ = _
          rw [chg_at (s := ⟨cS, l.getD (m + 1) 0, vnil⟩) hla]
          have b3 := bdd_at hb (m + 1)
          have : addI (sI l (m + 1)) (l.getD (m + 1) 0) = sI l (m + 2) := by rw [addI_small (by omega) (by omega)]; rfl
          simp only [this, List.nil_append]
      · have h3 : i + 1 = l.length + 2 := by omega
        rw [if_neg (by omega), step_zero _ _ _ (hin _ hi)]
        have e2 : Ex l (i + 1) = [] := by unfold Ex; rw [if_neg h1, if_neg h2]
        rw [e2]
        by_cases h4 : l.length = 0
        · have e : Ex l i = [] := by unfold Ex; rw [if_pos (by omega)]
          rw [e]; rfl
        · have e : Ex l i = [⟨cS, sI l (i - 1), 2⟩] := by unfold Ex; rw [if_neg (by omega), if_pos (by omega)]
          have hc := c3 ⟨cS, sI l (i - 1), 2⟩ rfl h4
          rw [← h3] at hc
          rw [e]
          unfold keepC
          rw [List.filter_cons_of_neg (by rw [hc]; decide)]; rfl
end Go.Proofs.Yteifbbinfipdlaa
