/- Layer 7: steps compared. -/
import Derived.Test.YtjofgafeaiiegaaV7A
import Derived.Test.YtjofgafeaiiegaaV7x
namespace Go.Proofs.Ytjofgafeaiiegaa
open Go.Sx
set_option linter.unusedSimpArgs false
set_option maxHeartbeats 8000000
set_option maxRecDepth 20000

theorem getD_stps (l : List Stp) (i : Nat) (d : List V) (h : i < l.length) : (l.map Stp.enc).getD i d = (l.getD i default).enc := by
  simp [List.getD_eq_getElem?_getD, h]
def okSt (l : List Stp) : Prop := l.length ≤ 2000000 ∧ ∀ s ∈ l, s.items.length ≤ 2000000
theorem stepsEq_ok (a : List Stp) (h : okSt a) : PCall Try.prog 32 [stps a, stps a] (vb true) := by
  refine PCall.of (Orc.cons sumIeq (Orc.nil _)) c32_ok (by simp [c32]) fun w0 own0 => ?_
  obtain ⟨hl, hi⟩ := h
  simp only [c32, stps, on_gcall, off_gcall, flat_gcall, go_sem, reduceCtorEq, reduceIte, Nat.reduceEqDiff, Nat.reduceAdd, Nat.reduceSub, Nat.reduceMul, Nat.reduceLT, Nat.reduceLeDiff, Nat.reduceBEq, Int.reduceEq, Int.reduceLT, Int.reduceLE, Int.reduceAdd, Int.reduceSub, Int.reduceNeg, Int.reduceToNat]
  refine SemC.lp (α := Nat) (fun k => [(0, .slc 3 (a.map Stp.enc)), (1, .slc 3 (a.map Stp.enc)), (12, vi a.length), (13, vi k)]) (fun _ => ⟨[], 0⟩) (fun k => k ≤ a.length) (fun k => a.length - k) 0 (Nat.zero_le _) (St.mk (by simp [Agrees, upd_at, initE_at])) fun k hk => ?_
  by_cases hkl : k = a.length
  · subst hkl
    simp only [Int.lt_irrefl, on_gcall, off_gcall, flat_gcall, go_sem, reduceCtorEq, reduceIte, Nat.reduceEqDiff, Nat.reduceAdd, Nat.reduceSub, Nat.reduceMul, Nat.reduceLT, Nat.reduceLeDiff, Nat.reduceBEq, Int.reduceEq, Int.reduceLT, Int.reduceLE, Int.reduceAdd, Int.reduceSub, Int.reduceNeg, Int.reduceToNat]
  · have e1 : (k : Int) < (a.length : Int) := by omega
    have e0 : (0 : Int) ≤ (k : Int) := by omega
    have hlt : k < a.length := by omega
    have hg := getD_stps a k [vs ⟨#[]⟩, vi 0, vnil] hlt
    have hx := hi (a.getD k default) (by rw [List.getD_eq_getElem?_getD, List.getElem?_eq_getElem hlt]; exact List.getElem_mem _)
    generalize a.getD k default = x at *
    simp only [e0, e1, hg, hx, Stp.enc, itms, dItms_map, on_gcall, off_gcall, flat_gcall, go_sem, reduceCtorEq, reduceIte, Nat.reduceEqDiff, Nat.reduceAdd, Nat.reduceSub, Nat.reduceMul, Nat.reduceLT, Nat.reduceLeDiff, Nat.reduceBEq, Int.reduceEq, Int.reduceLT, Int.reduceLE, Int.reduceAdd, Int.reduceSub, Int.reduceNeg, Int.reduceToNat]
    exact ⟨by omega, k + 1, by omega, by omega, by omega⟩
def sumSeq : Sum Try.prog := ⟨32, fun args => args = [stps (dStps (args.getD 0 .any)), stps (dStps (args.getD 0 .any))] ∧ okSt (dStps (args.getD 0 .any)), fun args => vb true, fun args h => by
  have := stepsEq_ok (dStps (args.getD 0 .any)) h.2; rwa [← h.1] at this, true⟩
theorem sumSeq_f : sumSeq.f = 32 := rfl
theorem sumSeq_D (args : List V) : sumSeq.D args = (args = [stps (dStps (args.getD 0 .any)), stps (dStps (args.getD 0 .any))] ∧ okSt (dStps (args.getD 0 .any))) := rfl
theorem sumSeq_flat : sumSeq.flat = true := rfl
theorem sumSeq_r (args : List V) : sumSeq.r args = vb true := rfl
attribute [go_sem] sumSeq_f sumSeq_D sumSeq_flat sumSeq_r
theorem stepsL_len (u : Int) : ∀ (L : List Pa) (xs : List NS), stepsL u L = some xs → xs.length ≤ L.length
  | [], xs, h => by simp [stepsL] at h; subst h; simp
  | [p], xs, h => by
    simp only [stepsL] at h
    split at h
    · cases h; simp
    · cases h
  | p :: q :: L, xs, h => by
    simp only [stepsL] at h
    split at h
    · split at h
      · simp only [Option.map_eq_some_iff] at h
        obtain ⟨ys, hy, rfl⟩ := h
        have := stepsL_len u L ys hy
        simp; omega
      · simp only [Option.map_eq_some_iff] at h
        obtain ⟨ys, hy, rfl⟩ := h
        have := stepsL_len u (q :: L) ys hy
        simp at this ⊢; omega
    · cases h
theorem spO_ok (u : Int) (l : List Tok) (h : okT l) : okSt (((spO u l).getD []).map toS) := by
  refine ⟨?_, fun s hs => ?_⟩
  · rw [List.length_map]
    have h1 := pl_len l
    have h2 := h.1
    unfold spO
    split
    · split
      · simp
      · split
        · simp
        · cases hx : stepsL u (pl l) with
          | none => simp
          | some xs => have := stepsL_len u _ _ hx; simp only [Option.getD_some]; omega
    · simp
  · obtain ⟨x, _, rfl⟩ := List.mem_map.1 hs
    simp [toS]
theorem finS_len {cur : List Pa} {s : Stp} (h : finS cur = some s) : s.items.length ≤ cur.length := by
  unfold finS at h
  split at h
  · cases h
  · rename_i a r
    split at h
    · split at h
      · rename_i x xs hI
        cases h
        have := itL_len _ _ _ hI
        simp only [List.length_cons] at this ⊢
        omega
      · cases h
    · cases h
theorem strG_ok : ∀ (l cur : List Pa) (n : Nat) (xs : List Stp), cur.length + l.length ≤ n → strG cur l = some xs → xs.length ≤ l.length + 1 ∧ ∀ s ∈ xs, s.items.length ≤ n
  | [], cur, n, xs, hn, h => by
    simp only [strG, Option.map_eq_some_iff] at h
    obtain ⟨s, hs, rfl⟩ := h
    have := finS_len hs
    simp at hn
    exact ⟨by simp, fun t ht => by simp at ht; subst ht; omega⟩
  | p :: l, cur, n, xs, hn, h => by
    simp only [strG] at h
    simp only [List.length_cons] at hn ⊢
    split at h
    · split at h
      · cases h
      · rename_i s hs
        simp only [Option.map_eq_some_iff] at h
        obtain ⟨ys, hy, rfl⟩ := h
        have h1 := finS_len hs
        obtain ⟨h2, h3⟩ := strG_ok l [] n ys (by simp; omega) hy
        refine ⟨by simp; omega, fun t ht => ?_⟩
        rcases List.mem_cons.1 ht with rfl | ht
        · omega
        · exact h3 t ht
    · obtain ⟨h2, h3⟩ := strG_ok l (cur ++ [p]) n xs (by simp; omega) h
      exact ⟨by omega, h3⟩
theorem stO_ok (l : List Tok) (h : okT l) : okSt ((stO l).getD []) := by
  have h1 := pl_len l
  have h2 := h.1
  unfold stO
  split
  · split
    · exact ⟨by simp, by simp⟩
    · cases hx : strG [] (pl l) with
      | none => exact ⟨by simp, by simp⟩
      | some xs =>
        obtain ⟨a, b⟩ := strG_ok (pl l) [] (pl l).length xs (by simp) hx
        exact ⟨by simp only [Option.getD_some]; omega, fun s hs => by have := b s hs; omega⟩
  · exact ⟨by simp, by simp⟩
end Go.Proofs.Ytjofgafeaiiegaa
