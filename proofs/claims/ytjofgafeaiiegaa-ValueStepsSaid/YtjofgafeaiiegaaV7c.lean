/- Layer 7: names. -/
import Derived.Test.YtjofgafeaiiegaaV7b
namespace Go.Proofs.Ytjofgafeaiiegaa
open Go.Sx
set_option linter.unusedSimpArgs false
set_option maxHeartbeats 4000000
set_option maxRecDepth 20000

def fst (p : Nat → Bool) : Nat → Nat → Int
  | 0, _ => -1
  | f + 1, k => if p k = true then k else fst p f (k + 1)
theorem fst_spec (p : Nat → Bool) : ∀ (f k : Nat), (fst p f k = -1 ∧ ∀ i, k ≤ i → i < k + f → p i = false) ∨ ∃ m : Nat, fst p f k = m ∧ k ≤ m ∧ m < k + f ∧ p m = true ∧ ∀ i, k ≤ i → i < m → p i = false
  | 0, k => .inl ⟨rfl, fun i h1 h2 => by omega⟩
  | f + 1, k => by
    simp only [fst]
    by_cases h : p k = true
    · rw [if_pos h]; exact .inr ⟨k, rfl, Nat.le_refl _, by omega, h, fun i h1 h2 => by omega⟩
    · rw [if_neg h]
      have h' : p k = false := by simpa using h
      rcases fst_spec p f (k + 1) with ⟨h1, h2⟩ | ⟨m, h1, h2, h3, h4, h5⟩
      · refine .inl ⟨h1, fun i hi1 hi2 => ?_⟩
        by_cases e : i = k
        · subst e; exact h'
        · exact h2 i (by omega) (by omega)
      · refine .inr ⟨m, h1, by omega, by omega, h4, fun i hi1 hi2 => ?_⟩
        by_cases e : i = k
        · subst e; exact h'
        · exact h5 i (by omega) hi2
theorem fst_end (p : Nat → Bool) (n : Nat) : fst p (n - n) n = -1 := by rw [Nat.sub_self]; rfl
theorem fst_step (p : Nat → Bool) (n k : Nat) (h : k < n) : fst p (n - k) k = if p k = true then (k : Int) else fst p (n - (k + 1)) (k + 1) := by
  obtain ⟨f, hf⟩ : ∃ f, n - k = f + 1 := ⟨n - k - 1, by omega⟩
  rw [hf, show n - (k + 1) = f by omega]; rfl
def ixS (l : List ByteArray) (x : ByteArray) : Int := fst (fun i => decide (x = l.getD i ⟨#[]⟩)) (l.length - 0) 0
theorem ixS_mem (l : List ByteArray) (x : ByteArray) : 0 ≤ ixS l x ↔ x ∈ l := by
  unfold ixS
  rcases fst_spec (fun i => decide (x = l.getD i ⟨#[]⟩)) (l.length - 0) 0 with ⟨h1, h2⟩ | ⟨m, h1, h2, h3, h4, h5⟩
  · rw [h1]
    refine ⟨fun h => by omega, fun h => ?_⟩
    obtain ⟨i, hi, rfl⟩ := List.getElem_of_mem h
    have := h2 i (by omega) (by omega)
    simp [List.getD_eq_getElem?_getD, hi] at this
  · rw [h1]
    refine ⟨fun _ => ?_, fun _ => by omega⟩
    simp only [decide_eq_true_eq] at h4
    rw [h4, List.getD_eq_getElem?_getD, List.getElem?_eq_getElem (by omega)]
    exact List.getElem_mem _
theorem ixS_ok (l : List ByteArray) (x : ByteArray) (hl : l.length ≤ 1000000) : PCall Try.prog 72 [strs l, vs x] (vi (ixS l x)) := by
  refine PCall.of (Orc.nil _) c72_ok (by simp [c72]) fun w0 own0 => ?_
  simp only [c72, strs, go_sem, wpR_gcall, reduceCtorEq, reduceIte, Nat.reduceEqDiff, Nat.reduceAdd, Nat.reduceSub, Nat.reduceMul, Nat.reduceLT, Nat.reduceLeDiff, Nat.reduceBEq, Int.reduceEq, Int.reduceLT, Int.reduceLE, Int.reduceAdd, Int.reduceSub, Int.reduceNeg, Int.reduceToNat]
  refine SemC.lp (α := Nat) (fun k => [(0, .slc 1 (l.map fun n => [vs n])), (1, vs x), (7, vi l.length), (8, vi k)]) (fun _ => ⟨[], 0⟩)
    (fun k => k ≤ l.length ∧ fst (fun i => decide (x = l.getD i ⟨#[]⟩)) (l.length - k) k = ixS l x) (fun k => l.length - k) 0 ⟨Nat.zero_le _, rfl⟩ (St.mk (by simp [Agrees, upd_at, initE_at])) fun k hk => ?_
  obtain ⟨h1, h2⟩ := hk
  by_cases hkl : k = l.length
  · subst hkl
    rw [fst_end] at h2
    simp only [Int.lt_irrefl, ← h2, go_sem, wpR_gcall, reduceCtorEq, reduceIte, Nat.reduceEqDiff, Nat.reduceAdd, Nat.reduceSub, Nat.reduceMul, Nat.reduceLT, Nat.reduceLeDiff, Nat.reduceBEq, Int.reduceEq, Int.reduceLT, Int.reduceLE, Int.reduceAdd, Int.reduceSub, Int.reduceNeg, Int.reduceToNat]
  · have e1 : (k : Int) < (l.length : Int) := by omega
    rw [fst_step _ _ _ (by omega)] at h2
    simp only [decide_eq_true_eq] at h2
    simp only [e1, getD_strs, go_sem, wpR_gcall, reduceCtorEq, reduceIte, Nat.reduceEqDiff, Nat.reduceAdd, Nat.reduceSub, Nat.reduceMul, Nat.reduceLT, Nat.reduceLeDiff, Nat.reduceBEq, Int.reduceEq, Int.reduceLT, Int.reduceLE, Int.reduceAdd, Int.reduceSub, Int.reduceNeg, Int.reduceToNat]
    refine ⟨by omega, fun h => by rw [if_pos h] at h2; exact h2, fun h => ⟨by omega, k + 1, ⟨by omega, by rw [if_neg h] at h2; exact h2⟩, by omega, by omega⟩⟩
def sumIxS : Sum Try.prog := ⟨72, fun args => args = [strs (dStrs (args.getD 0 .any)), vs ((args.getD 1 .any).str)] ∧ ((dStrs (args.getD 0 .any))).length ≤ 1000000, fun args => vi (ixS (dStrs (args.getD 0 .any)) ((args.getD 1 .any).str)), fun args h => by
  have := ixS_ok (dStrs (args.getD 0 .any)) ((args.getD 1 .any).str) h.2; rwa [← h.1] at this, true⟩
theorem sumIxS_f : sumIxS.f = 72 := rfl
theorem sumIxS_D (args : List V) : sumIxS.D args = (args = [strs (dStrs (args.getD 0 .any)), vs ((args.getD 1 .any).str)] ∧ ((dStrs (args.getD 0 .any))).length ≤ 1000000) := rfl
theorem sumIxS_flat : sumIxS.flat = true := rfl
theorem sumIxS_r (args : List V) : sumIxS.r args = vi (ixS (dStrs (args.getD 0 .any)) ((args.getD 1 .any).str)) := rfl
attribute [go_sem] sumIxS_f sumIxS_D sumIxS_flat sumIxS_r
def hasS (l : List ByteArray) (x : ByteArray) : Bool := decide (0 ≤ ixS l x)
theorem hasS_iff (l : List ByteArray) (x : ByteArray) : hasS l x = true ↔ x ∈ l := by
  unfold hasS; rw [decide_eq_true_eq]; exact ixS_mem l x
theorem conS_ok (l : List ByteArray) (x : ByteArray) (hl : l.length ≤ 1000000) : PCall Try.prog 60 [strs l, vs x] (vb (hasS l x)) := by
  refine PCall.of (Orc.cons sumIxS (Orc.nil _)) c60_ok (by simp [c60]) fun w0 own0 => ?_
  simp only [c60, strs, dStrs_map, hasS, go_sem, wpR_gcall, reduceCtorEq, reduceIte, Nat.reduceEqDiff, Nat.reduceAdd, Nat.reduceSub, Nat.reduceMul, Nat.reduceLT, Nat.reduceLeDiff, Nat.reduceBEq, Int.reduceEq, Int.reduceLT, Int.reduceLE, Int.reduceAdd, Int.reduceSub, Int.reduceNeg, Int.reduceToNat]
  exact hl
def sumConS : Sum Try.prog := ⟨60, fun args => args = [strs (dStrs (args.getD 0 .any)), vs ((args.getD 1 .any).str)] ∧ ((dStrs (args.getD 0 .any))).length ≤ 1000000, fun args => vb (hasS (dStrs (args.getD 0 .any)) ((args.getD 1 .any).str)), fun args h => by
  have := conS_ok (dStrs (args.getD 0 .any)) ((args.getD 1 .any).str) h.2; rwa [← h.1] at this, true⟩
theorem sumConS_f : sumConS.f = 60 := rfl
theorem sumConS_D (args : List V) : sumConS.D args = (args = [strs (dStrs (args.getD 0 .any)), vs ((args.getD 1 .any).str)] ∧ ((dStrs (args.getD 0 .any))).length ≤ 1000000) := rfl
theorem sumConS_flat : sumConS.flat = true := rfl
theorem sumConS_r (args : List V) : sumConS.r args = vb (hasS (dStrs (args.getD 0 .any)) ((args.getD 1 .any).str)) := rfl
attribute [go_sem] sumConS_f sumConS_D sumConS_flat sumConS_r
theorem atR_ok (l : List ByteArray) (x : ByteArray) (hl : l.length ≤ 1000000) : PCall Try.prog 42 [strs l, vs x] (vi (ixS l x)) := by
  refine PCall.of (Orc.nil _) c42_ok (by simp [c42]) fun w0 own0 => ?_
  simp only [c42, strs, go_sem, wpR_gcall, reduceCtorEq, reduceIte, Nat.reduceEqDiff, Nat.reduceAdd, Nat.reduceSub, Nat.reduceMul, Nat.reduceLT, Nat.reduceLeDiff, Nat.reduceBEq, Int.reduceEq, Int.reduceLT, Int.reduceLE, Int.reduceAdd, Int.reduceSub, Int.reduceNeg, Int.reduceToNat]
  refine SemC.lp (α := Nat) (fun k => [(0, .slc 1 (l.map fun n => [vs n])), (1, vs x), (5, vi k)]) (fun _ => ⟨[], 0⟩)
    (fun k => k ≤ l.length ∧ fst (fun i => decide (x = l.getD i ⟨#[]⟩)) (l.length - k) k = ixS l x) (fun k => l.length - k) 0 ⟨Nat.zero_le _, rfl⟩ (St.mk (by simp [Agrees, upd_at, initE_at])) fun k hk => ?_
  obtain ⟨h1, h2⟩ := hk
  by_cases hkl : k = l.length
  · subst hkl
    rw [fst_end] at h2
    simp only [Int.lt_irrefl, ← h2, go_sem, wpR_gcall, reduceCtorEq, reduceIte, Nat.reduceEqDiff, Nat.reduceAdd, Nat.reduceSub, Nat.reduceMul, Nat.reduceLT, Nat.reduceLeDiff, Nat.reduceBEq, Int.reduceEq, Int.reduceLT, Int.reduceLE, Int.reduceAdd, Int.reduceSub, Int.reduceNeg, Int.reduceToNat]
  · have e1 : (k : Int) < (l.length : Int) := by omega
    rw [fst_step _ _ _ (by omega)] at h2
    simp only [decide_eq_true_eq] at h2
    simp only [e1, getD_strs, go_sem, wpR_gcall, reduceCtorEq, reduceIte, Nat.reduceEqDiff, Nat.reduceAdd, Nat.reduceSub, Nat.reduceMul, Nat.reduceLT, Nat.reduceLeDiff, Nat.reduceBEq, Int.reduceEq, Int.reduceLT, Int.reduceLE, Int.reduceAdd, Int.reduceSub, Int.reduceNeg, Int.reduceToNat]
    refine ⟨by omega, fun h => by rw [if_pos h.symm] at h2; exact h2, fun h => ⟨by omega, k + 1, ⟨by omega, by rw [if_neg (fun e => h e.symm)] at h2; exact h2⟩, by omega, by omega⟩⟩
def lowP (p : Pa) : ByteArray := lowB p.t.text
def okP7 (p : Pa) : Prop := p.t.text.size ≤ 1000000
theorem lowerP_ok (p : Pa) (h : okP7 p) : PCall Try.prog 41 [.agg p.enc] (vs (lowP p)) := by
  refine PCall.of (Orc.cons sumLow (Orc.nil _)) c41_ok (by simp [c41]) fun w0 own0 => ?_
  have h : p.t.text.size ≤ 1000000 := h
  simp only [c41, Pa.enc, lowP, h, go_sem, wpR_gcall, reduceCtorEq, reduceIte, Nat.reduceEqDiff, Nat.reduceAdd, Nat.reduceSub, Nat.reduceMul, Nat.reduceLT, Nat.reduceLeDiff, Nat.reduceBEq, Int.reduceEq, Int.reduceLT, Int.reduceLE, Int.reduceAdd, Int.reduceSub, Int.reduceNeg, Int.reduceToNat]
theorem lowR_ok (p : Pa) (h : okP7 p) : PCall Try.prog 43 [.agg p.enc] (vs (lowP p)) := by
  refine PCall.of (Orc.cons sumLowR (Orc.nil _)) c43_ok (by simp [c43]) fun w0 own0 => ?_
  have h : p.t.text.size ≤ 1000000 := h
  simp only [c43, Pa.enc, lowP, h, go_sem, wpR_gcall, reduceCtorEq, reduceIte, Nat.reduceEqDiff, Nat.reduceAdd, Nat.reduceSub, Nat.reduceMul, Nat.reduceLT, Nat.reduceLeDiff, Nat.reduceBEq, Int.reduceEq, Int.reduceLT, Int.reduceLE, Int.reduceAdd, Int.reduceSub, Int.reduceNeg, Int.reduceToNat]
def sumLwP : Sum Try.prog := ⟨41, fun args => args = [.agg (Pa.enc (dPa (args.getD 0 .any)))] ∧ okP7 (dPa (args.getD 0 .any)), fun args => vs (lowP (dPa (args.getD 0 .any))), fun args h => by
  have := lowerP_ok (dPa (args.getD 0 .any)) h.2; rwa [← h.1] at this, true⟩
theorem sumLwP_f : sumLwP.f = 41 := rfl
theorem sumLwP_D (args : List V) : sumLwP.D args = (args = [.agg (Pa.enc (dPa (args.getD 0 .any)))] ∧ okP7 (dPa (args.getD 0 .any))) := rfl
theorem sumLwP_flat : sumLwP.flat = true := rfl
theorem sumLwP_r (args : List V) : sumLwP.r args = vs (lowP (dPa (args.getD 0 .any))) := rfl
attribute [go_sem] sumLwP_f sumLwP_D sumLwP_flat sumLwP_r
def sumLwR : Sum Try.prog := ⟨43, fun args => args = [.agg (Pa.enc (dPa (args.getD 0 .any)))] ∧ okP7 (dPa (args.getD 0 .any)), fun args => vs (lowP (dPa (args.getD 0 .any))), fun args h => by
  have := lowR_ok (dPa (args.getD 0 .any)) h.2; rwa [← h.1] at this, true⟩
theorem sumLwR_f : sumLwR.f = 43 := rfl
theorem sumLwR_D (args : List V) : sumLwR.D args = (args = [.agg (Pa.enc (dPa (args.getD 0 .any)))] ∧ okP7 (dPa (args.getD 0 .any))) := rfl
theorem sumLwR_flat : sumLwR.flat = true := rfl
theorem sumLwR_r (args : List V) : sumLwR.r args = vs (lowP (dPa (args.getD 0 .any))) := rfl
attribute [go_sem] sumLwR_f sumLwR_D sumLwR_flat sumLwR_r
def badN : List ByteArray := [⟨#[110, 111, 110, 101]⟩, ⟨#[97, 117, 116, 111]⟩, ⟨#[105, 110, 105, 116, 105, 97, 108]⟩, ⟨#[105, 110, 104, 101, 114, 105, 116]⟩]
def namedB (p : Pa) : Bool := decide (p.t.kind = 2) && !hasS badN (lowP p)
def identB (p : Pa) (s : ByteArray) : Bool := decide (p.t.kind = 2) && decide (lowP p = s)
theorem dStrs_lit (a b c d : ByteArray) : dStrs (.slc 1 [[.c (.string a)], [.c (.string b)], [.c (.string c)], [.c (.string d)]]) = [a, b, c, d] := dStrs_map [a, b, c, d]
theorem named_ok (p : Pa) (h : okP7 p) : PCall Try.prog 44 [.agg p.enc] (vb (namedB p)) := by
  refine PCall.of (Orc.cons sumLwP (Orc.cons sumConS (Orc.nil _))) c44_ok (by simp [c44]) fun w0 own0 => ?_
  unfold namedB badN
  by_cases hk : p.t.kind = 2
  · simp only [c44, Pa.enc, hk, h, strs, dStrs_lit, dPa_mk, Pa.eta', go_sem, wpR_gcall, reduceCtorEq, reduceIte, Nat.reduceEqDiff, Nat.reduceAdd, Nat.reduceSub, Nat.reduceMul, Nat.reduceLT, Nat.reduceLeDiff, Nat.reduceBEq, Int.reduceEq, Int.reduceLT, Int.reduceLE, Int.reduceAdd, Int.reduceSub, Int.reduceNeg, Int.reduceToNat]
    exact ⟨h, rfl⟩
  · simp only [c44, Pa.enc, hk, h, go_sem, wpR_gcall, reduceCtorEq, reduceIte, Nat.reduceEqDiff, Nat.reduceAdd, Nat.reduceSub, Nat.reduceMul, Nat.reduceLT, Nat.reduceLeDiff, Nat.reduceBEq, Int.reduceEq, Int.reduceLT, Int.reduceLE, Int.reduceAdd, Int.reduceSub, Int.reduceNeg, Int.reduceToNat]
theorem namedR_ok (p : Pa) (h : okP7 p) : PCall Try.prog 45 [.agg p.enc] (vb (namedB p)) := by
  refine PCall.of (Orc.cons sumLwR (Orc.nil _)) c45_ok (by simp [c45]) fun w0 own0 => ?_
  have hb : hasS badN (lowP p) = true ↔ (lowP p = ⟨#[110, 111, 110, 101]⟩ ∨ lowP p = ⟨#[97, 117, 116, 111]⟩ ∨ lowP p = ⟨#[105, 110, 105, 116, 105, 97, 108]⟩ ∨ lowP p = ⟨#[105, 110, 104, 101, 114, 105, 116]⟩) := by
    rw [hasS_iff]; simp [badN]
  unfold namedB
  by_cases hk : p.t.kind = 2
  · obtain ⟨s, hs⟩ : ∃ s, lowP p = s := ⟨_, rfl⟩
    have h' : okP7 ⟨⟨2, p.t.text, p.t.n⟩, p.al⟩ := h
    have hs' : lowP ⟨⟨2, p.t.text, p.t.n⟩, p.al⟩ = s := hs
    rw [hs] at hb ⊢
    by_cases c1 : s = ⟨#[110, 111, 110, 101]⟩
    · have e : hasS badN s = true := hb.2 (.inl c1)
      subst c1
      simp only [c45, Pa.enc, hk, h', hs', dPa_mk, e, go_sem, wpR_gcall, reduceCtorEq, reduceIte, Nat.reduceEqDiff, Nat.reduceAdd, Nat.reduceSub, Nat.reduceMul, Nat.reduceLT, Nat.reduceLeDiff, Nat.reduceBEq, Int.reduceEq, Int.reduceLT, Int.reduceLE, Int.reduceAdd, Int.reduceSub, Int.reduceNeg, Int.reduceToNat]
    · by_cases c2 : s = ⟨#[97, 117, 116, 111]⟩
      · have e : hasS badN s = true := hb.2 (.inr (.inl c2))
        simp only [c45, Pa.enc, hk, h', hs', c1, dPa_mk, e, decide_eq_true c2, go_sem, wpR_gcall, reduceCtorEq, reduceIte, Nat.reduceEqDiff, Nat.reduceAdd, Nat.reduceSub, Nat.reduceMul, Nat.reduceLT, Nat.reduceLeDiff, Nat.reduceBEq, Int.reduceEq, Int.reduceLT, Int.reduceLE, Int.reduceAdd, Int.reduceSub, Int.reduceNeg, Int.reduceToNat]
        all_goals simp [c2]
      · by_cases c3 : s = ⟨#[105, 110, 105, 116, 105, 97, 108]⟩
        · have e : hasS badN s = true := hb.2 (.inr (.inr (.inl c3)))
          simp only [c45, Pa.enc, hk, h', hs', c1, c2, dPa_mk, e, go_sem, wpR_gcall, reduceCtorEq, reduceIte, Nat.reduceEqDiff, Nat.reduceAdd, Nat.reduceSub, Nat.reduceMul, Nat.reduceLT, Nat.reduceLeDiff, Nat.reduceBEq, Int.reduceEq, Int.reduceLT, Int.reduceLE, Int.reduceAdd, Int.reduceSub, Int.reduceNeg, Int.reduceToNat]
          all_goals simp [c3]
        · by_cases c4 : s = ⟨#[105, 110, 104, 101, 114, 105, 116]⟩
          · have e : hasS badN s = true := hb.2 (.inr (.inr (.inr c4)))
            simp only [c45, Pa.enc, hk, h', hs', c1, c2, c3, dPa_mk, e, go_sem, wpR_gcall, reduceCtorEq, reduceIte, Nat.reduceEqDiff, Nat.reduceAdd, Nat.reduceSub, Nat.reduceMul, Nat.reduceLT, Nat.reduceLeDiff, Nat.reduceBEq, Int.reduceEq, Int.reduceLT, Int.reduceLE, Int.reduceAdd, Int.reduceSub, Int.reduceNeg, Int.reduceToNat]
            all_goals simp [c4]
          · have e : hasS badN s = false := by
              cases hh : hasS badN s with
              | false => rfl
              | true => exact absurd (hb.1 hh) (by simp [c1, c2, c3, c4])
            simp only [c45, Pa.enc, hk, h', hs', c1, c2, c3, c4, dPa_mk, e, go_sem, wpR_gcall, reduceCtorEq, reduceIte, Nat.reduceEqDiff, Nat.reduceAdd, Nat.reduceSub, Nat.reduceMul, Nat.reduceLT, Nat.reduceLeDiff, Nat.reduceBEq, Int.reduceEq, Int.reduceLT, Int.reduceLE, Int.reduceAdd, Int.reduceSub, Int.reduceNeg, Int.reduceToNat]
  · simp only [c45, Pa.enc, hk, h, go_sem, wpR_gcall, reduceCtorEq, reduceIte, Nat.reduceEqDiff, Nat.reduceAdd, Nat.reduceSub, Nat.reduceMul, Nat.reduceLT, Nat.reduceLeDiff, Nat.reduceBEq, Int.reduceEq, Int.reduceLT, Int.reduceLE, Int.reduceAdd, Int.reduceSub, Int.reduceNeg, Int.reduceToNat]
def sumNm : Sum Try.prog := ⟨44, fun args => args = [.agg (Pa.enc (dPa (args.getD 0 .any)))] ∧ okP7 (dPa (args.getD 0 .any)), fun args => vb (namedB (dPa (args.getD 0 .any))), fun args h => by
  have := named_ok (dPa (args.getD 0 .any)) h.2; rwa [← h.1] at this, true⟩
theorem sumNm_f : sumNm.f = 44 := rfl
theorem sumNm_D (args : List V) : sumNm.D args = (args = [.agg (Pa.enc (dPa (args.getD 0 .any)))] ∧ okP7 (dPa (args.getD 0 .any))) := rfl
theorem sumNm_flat : sumNm.flat = true := rfl
theorem sumNm_r (args : List V) : sumNm.r args = vb (namedB (dPa (args.getD 0 .any))) := rfl
attribute [go_sem] sumNm_f sumNm_D sumNm_flat sumNm_r
def sumNmR : Sum Try.prog := ⟨45, fun args => args = [.agg (Pa.enc (dPa (args.getD 0 .any)))] ∧ okP7 (dPa (args.getD 0 .any)), fun args => vb (namedB (dPa (args.getD 0 .any))), fun args h => by
  have := namedR_ok (dPa (args.getD 0 .any)) h.2; rwa [← h.1] at this, true⟩
theorem sumNmR_f : sumNmR.f = 45 := rfl
theorem sumNmR_D (args : List V) : sumNmR.D args = (args = [.agg (Pa.enc (dPa (args.getD 0 .any)))] ∧ okP7 (dPa (args.getD 0 .any))) := rfl
theorem sumNmR_flat : sumNmR.flat = true := rfl
theorem sumNmR_r (args : List V) : sumNmR.r args = vb (namedB (dPa (args.getD 0 .any))) := rfl
attribute [go_sem] sumNmR_f sumNmR_D sumNmR_flat sumNmR_r
theorem isP7_ok (p : Pa) (s : ByteArray) (h : okP7 p) : PCall Try.prog 35 [.agg p.enc, vs s] (vb (identB p s)) := by
  refine PCall.of (Orc.cons sumLwP (Orc.nil _)) c35_ok (by simp [c35]) fun w0 own0 => ?_
  unfold identB
  by_cases hk : p.t.kind = 2
  · have h' : okP7 ⟨⟨2, p.t.text, p.t.n⟩, p.al⟩ := h
    have hs' : lowP ⟨⟨2, p.t.text, p.t.n⟩, p.al⟩ = lowP p := rfl
    simp only [c35, Pa.enc, hk, h', hs', dPa_mk, go_sem, wpR_gcall, reduceCtorEq, reduceIte, Nat.reduceEqDiff, Nat.reduceAdd, Nat.reduceSub, Nat.reduceMul, Nat.reduceLT, Nat.reduceLeDiff, Nat.reduceBEq, Int.reduceEq, Int.reduceLT, Int.reduceLE, Int.reduceAdd, Int.reduceSub, Int.reduceNeg, Int.reduceToNat]
  · simp only [c35, Pa.enc, hk, h, go_sem, wpR_gcall, reduceCtorEq, reduceIte, Nat.reduceEqDiff, Nat.reduceAdd, Nat.reduceSub, Nat.reduceMul, Nat.reduceLT, Nat.reduceLeDiff, Nat.reduceBEq, Int.reduceEq, Int.reduceLT, Int.reduceLE, Int.reduceAdd, Int.reduceSub, Int.reduceNeg, Int.reduceToNat]
theorem ident_ok (p : Pa) (s : ByteArray) (h : okP7 p) : PCall Try.prog 38 [.agg p.enc, vs s] (vb (identB p s)) := by
  refine PCall.of (Orc.cons sumLwR (Orc.nil _)) c38_ok (by simp [c38]) fun w0 own0 => ?_
  unfold identB
  by_cases hk : p.t.kind = 2
  · have h' : okP7 ⟨⟨2, p.t.text, p.t.n⟩, p.al⟩ := h
    have hs' : lowP ⟨⟨2, p.t.text, p.t.n⟩, p.al⟩ = lowP p := rfl
    simp only [c38, Pa.enc, hk, h', hs', dPa_mk, go_sem, wpR_gcall, reduceCtorEq, reduceIte, Nat.reduceEqDiff, Nat.reduceAdd, Nat.reduceSub, Nat.reduceMul, Nat.reduceLT, Nat.reduceLeDiff, Nat.reduceBEq, Int.reduceEq, Int.reduceLT, Int.reduceLE, Int.reduceAdd, Int.reduceSub, Int.reduceNeg, Int.reduceToNat]
  · simp only [c38, Pa.enc, hk, h, go_sem, wpR_gcall, reduceCtorEq, reduceIte, Nat.reduceEqDiff, Nat.reduceAdd, Nat.reduceSub, Nat.reduceMul, Nat.reduceLT, Nat.reduceLeDiff, Nat.reduceBEq, Int.reduceEq, Int.reduceLT, Int.reduceLE, Int.reduceAdd, Int.reduceSub, Int.reduceNeg, Int.reduceToNat]
def sumIs7 : Sum Try.prog := ⟨35, fun args => args = [.agg (Pa.enc (dPa (args.getD 0 .any))), vs ((args.getD 1 .any).str)] ∧ okP7 (dPa (args.getD 0 .any)), fun args => vb (identB (dPa (args.getD 0 .any)) ((args.getD 1 .any).str)), fun args h => by
  have := isP7_ok (dPa (args.getD 0 .any)) ((args.getD 1 .any).str) h.2; rwa [← h.1] at this, true⟩
theorem sumIs7_f : sumIs7.f = 35 := rfl
theorem sumIs7_D (args : List V) : sumIs7.D args = (args = [.agg (Pa.enc (dPa (args.getD 0 .any))), vs ((args.getD 1 .any).str)] ∧ okP7 (dPa (args.getD 0 .any))) := rfl
theorem sumIs7_flat : sumIs7.flat = true := rfl
theorem sumIs7_r (args : List V) : sumIs7.r args = vb (identB (dPa (args.getD 0 .any)) ((args.getD 1 .any).str)) := rfl
attribute [go_sem] sumIs7_f sumIs7_D sumIs7_flat sumIs7_r
def sumId7 : Sum Try.prog := ⟨38, fun args => args = [.agg (Pa.enc (dPa (args.getD 0 .any))), vs ((args.getD 1 .any).str)] ∧ okP7 (dPa (args.getD 0 .any)), fun args => vb (identB (dPa (args.getD 0 .any)) ((args.getD 1 .any).str)), fun args h => by
  have := ident_ok (dPa (args.getD 0 .any)) ((args.getD 1 .any).str) h.2; rwa [← h.1] at this, true⟩
theorem sumId7_f : sumId7.f = 38 := rfl
theorem sumId7_D (args : List V) : sumId7.D args = (args = [.agg (Pa.enc (dPa (args.getD 0 .any))), vs ((args.getD 1 .any).str)] ∧ okP7 (dPa (args.getD 0 .any))) := rfl
theorem sumId7_flat : sumId7.flat = true := rfl
theorem sumId7_r (args : List V) : sumId7.r args = vb (identB (dPa (args.getD 0 .any)) ((args.getD 1 .any).str)) := rfl
attribute [go_sem] sumId7_f sumId7_D sumId7_flat sumId7_r
end Go.Proofs.Ytjofgafeaiiegaa
