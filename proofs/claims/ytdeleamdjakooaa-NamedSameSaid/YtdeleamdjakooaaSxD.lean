/- Slices that are built, and appended to. -/
import Derived.Test.YtdeleamdjakooaaSxC
set_option maxHeartbeats 1000000
namespace Go.Sx
section
variable {P : Program} {g : Gh} {w w0 w1 : World} {own0 : Own} {h : Heap}

theorem fill_idx {sz n : Nat} : ∀ (ps : List (Nat × Value)) (cells : Array Value), (ps.map (·.1)).Nodup → (∀ p ∈ ps, p.1 < n ∧ p.2.cells.size = sz) → cells.size = n * sz →
    ∃ out, Instr.fill (fun i => some (i * sz, sz)) cells ps = some out ∧ out.size = n * sz ∧
      ∀ i k, i < n → k < sz → out.getD (i * sz + k) undef = match ps.find? (·.1 == i) with | some p => p.2.cells.getD k undef | none => cells.getD (i * sz + k) undef
  | [], cells, _, _, hc => ⟨cells, rfl, hc, fun _ _ _ _ => rfl⟩
  | (j, v) :: ps, cells, hnd, hall, hc => by
    obtain ⟨hj, hv⟩ := hall (j, v) (by simp)
    simp only at hj hv
    have hle : (j + 1) * sz ≤ n * sz := Nat.mul_le_mul_right _ hj
    rw [Nat.succ_mul] at hle
    obtain ⟨f1, f2⟩ := fold_set v.cells.toList 0 (j * sz) cells (by rw [hc]; simp [hv]; omega)
    simp only [List.map_cons, List.nodup_cons] at hnd
    obtain ⟨out, h1, h2, h3⟩ := fill_idx ps ((v.cells.toList.zipIdx).foldl (fun cs (c, k) => cs.setIfInBounds (j * sz + k) c) cells) hnd.2 (fun p hp => hall p (by simp [hp])) (by rw [f1, hc])
    refine ⟨out, ?_, h2, fun i k hi hk => ?_⟩
    · simp only [Instr.fill]
      have hfold : v.cells.zipIdx.foldl (fun cs (x : Value × Nat) => cs.setIfInBounds (j * sz + x.2) x.1) cells = (v.cells.toList.zipIdx).foldl (fun cs (x : Value × Nat) => cs.setIfInBounds (j * sz + x.2) x.1) cells := by
        rw [← Array.foldl_toList, Array.toList_zipIdx]
      have hcond : ¬ ((v.cells.size != sz || decide (j * sz + v.cells.size > cells.size)) = true) := by simp [hv, hc]; omega
      rw [if_neg (by simpa using hcond)]
      rw [show (v.cells.zipIdx.foldl (fun cs x => match x with | (c, k) => cs.setIfInBounds (j * sz + k) c) cells) = (v.cells.toList.zipIdx).foldl (fun cs (x : Value × Nat) => cs.setIfInBounds (j * sz + x.2) x.1) cells from hfold]
      exact h1
    · rw [h3 i k hi hk]
      have hvl : v.cells.toList.length = sz := by simpa using hv
      simp only [List.find?_cons]
      by_cases hji : j = i
      · subst hji
        have hnone : ps.find? (fun x => x.1 == j) = none := by
          rw [List.find?_eq_none]
          intro p hp hpe
          exact hnd.1 (List.mem_map.2 ⟨p, hp, by simpa using hpe⟩)
        rw [hnone]
        simp only [beq_self_eq_true]
        rw [f2, hvl, if_pos (by omega), show j * sz + k - (j * sz + 0) = k by omega]
        simp [Array.getD_eq_getD_getElem?, List.getD_eq_getElem?_getD]
      · have hbe : (j == i) = false := by simpa using hji
        simp only [hbe]
        cases ps.find? (fun x => x.1 == i) with
        | some p => rfl
        | none =>
          simp only
          rw [f2, hvl]
          refine if_neg ?_
          rcases Nat.lt_or_gt_of_ne hji with hlt | hlt
          · have : (j + 1) * sz ≤ i * sz := Nat.mul_le_mul_right _ hlt
            rw [Nat.succ_mul] at this; omega
          · have := mul_lt_of_ne (sz := sz) hk hlt; omega

theorem eff_bslice {t e : TypeId} {sz n : Nat} {z : Value} (hu : P.underlying t = some (.slice e)) {a : Option Nat} (_ha : shp P e = some a) (hs : szOf P e = some sz) (hz : zeroOf P e = some z) (H : HRel g h w w0 own0)
    {ps : List (Nat × Value)} {qs : List (Nat × X)} {ρ : X → V} (hlen : ps.length = qs.length) (hpq : ∀ (i : Nat) (p : Nat × Value) (q : Nat × X), ps[i]? = some p → qs[i]? = some q → p.1 = q.1 ∧ VRep g w p.2 (ρ q.2))
    (h0 : 0 < sz) (h1 : n * sz ≤ 16777216) (h4 : z.cells.toList.length = sz) (h5 : z.cells.toList.all (·.oneCell') = true) (h6 : (qs.map (·.1)).Nodup)
    (h7 : ∀ q ∈ qs, q.1 < n ∧ (cellsOf a.isSome (ρ q.2)).length = sz ∧ (cellsOf a.isSome (ρ q.2)).all h.isOne = true) :
    ∃ cv w' g', (Instr.buildSlice t n ps.toArray).run P w = .ok cv w' ∧ VRep g' w' cv (.ref h.bs.length h.clk 0 n) ∧ Ext g w g' w' ∧
      HRel g' (h.alloc sz (z.cells.toList.map .c) ((List.range n).map (bsAt a.isSome z.cells.toList qs ρ))) w' w0 own0 ∧ Grow w w' := by
  have hkeys : ps.map (·.1) = qs.map (·.1) := by
    apply List.ext_getElem (by simp [hlen])
    intro i hi1 hi2
    simp only [List.length_map] at hi1 hi2
    simpa using (hpq i ps[i] qs[i] (List.getElem?_eq_getElem hi1) (List.getElem?_eq_getElem hi2)).1
  have hcell : ∀ (i : Nat) (p : Nat × Value) (q : Nat × X), ps[i]? = some p → qs[i]? = some q → p.2.cells.size = sz ∧ ∀ k, k < sz → (p.2.cells.getD k undef).oneCell' = true ∧ VRep g w (p.2.cells.getD k undef) ((cellsOf a.isSome (ρ q.2)).getD k .any) := by
    intro i p q hp hq
    obtain ⟨_, hv⟩ := hpq i p q hp hq
    obtain ⟨_, h8, h9⟩ := h7 q (List.mem_of_getElem? hq)
    obtain ⟨c1, c2⟩ := cells_of H hv (by omega) h9
    exact ⟨c1.trans h8, fun k hk => c2 k (by omega)⟩
  have hzs : z.cells.size = sz := by simpa using h4
  obtain ⟨out, o1, o2, o3⟩ := fill_idx (sz := sz) (n := n) ps ((Array.range (n * sz)).map (z.cells[· % z.cells.size]!)) (by rw [hkeys]; exact h6) (fun p hp => by
    obtain ⟨i, hi, rfl⟩ := List.mem_iff_getElem.1 hp
    have hi' : i < qs.length := by omega
    obtain ⟨k1, _⟩ := hpq i _ _ (List.getElem?_eq_getElem hi) (List.getElem?_eq_getElem hi')
    exact ⟨by rw [k1]; exact (h7 _ (List.getElem_mem hi')).1, (hcell i _ _ (List.getElem?_eq_getElem hi) (List.getElem?_eq_getElem hi')).1⟩) (by simp)
  have hfind : ∀ i, (∃ p q, ps.find? (·.1 == i) = some p ∧ qs.find? (·.1 == i) = some q ∧ ∃ m : Nat, ps[m]? = some p ∧ qs[m]? = some q) ∨ (ps.find? (·.1 == i) = none ∧ qs.find? (·.1 == i) = none) := by
    intro i
    clear o1 o2 o3 hcell h6 h7 hkeys out
    induction ps generalizing qs with
    | nil => cases qs with
      | nil => exact .inr ⟨rfl, rfl⟩
      | cons q qs => simp at hlen
    | cons p ps ih => cases qs with
      | nil => simp at hlen
      | cons q qs =>
        have hk := (hpq 0 p q rfl rfl).1
        simp only [List.find?_cons]
        by_cases hb : (q.1 == i) = true
        · rw [hk, hb]; exact .inl ⟨p, q, rfl, rfl, 0, rfl, rfl⟩
        · have hb' : (q.1 == i) = false := by simpa using hb
          rw [hk, hb']
          rcases ih (by simpa using hlen) (fun m p' q' h1 h2 => hpq (m + 1) p' q' (by simpa using h1) (by simpa using h2)) with ⟨p', q', e1, e2, m, e3, e4⟩ | hn
          · exact .inl ⟨p', q', e1, e2, m + 1, by simpa using e3, by simpa using e4⟩
          · exact .inr hn
  have hrun : (Instr.buildSlice t n ps.toArray).run P w = .ok (.slice (some ⟨w.heap.size, 0, none⟩) n n) (w.alloc (.cells out e)) := by
    have hle : ¬ (16777216 < n * sz) := by omega
    simp only [Instr.buildSlice, Sem.run_bind, run_underlying hu, Result.andThen_ok, run_sizeOf hs]
    by_cases hn : n * sz = 0
    · have hn0 : n = 0 := by rcases Nat.mul_eq_zero.1 hn with h | h <;> omega
      subst hn0
      have hps : ps = [] := by
        cases ps with
        | nil => rfl
        | cons p ps =>
          have hq : 0 < qs.length := by simp at hlen; omega
          have := (h7 _ (List.getElem_mem hq)).1
          omega
      subst hps
      simp [Instr.fill] at o1 ⊢
      subst o1
      simp [newRow, Array.eq_empty_of_size_eq_zero (show (Array.range 0).size = 0 by simp)]
    · simp [hle, hn, run_zeroValue hz, o1, newRow]
  obtain ⟨ex, H'⟩ := H.new (Grow.alloc w (.cells out e)) (I := ⟨g.clk, some w.heap.size, sz, n⟩) (sz := sz) (es := (List.range n).map (bsAt a.isSome z.cells.toList qs ρ)) rfl rfl
    (fun b hb => by simp at hb; omega) (fun e he => by
      obtain ⟨i, hi, rfl⟩ := List.mem_map.1 he
      unfold bsAt
      split
      · rename_i p hp
        exact (h7 p (List.mem_of_find?_eq_some hp)).2.1
      · simpa using hzs) (by simp) (fun b hb => by
      simp at hb; subst hb
      refine ⟨out, e, heap_alloc_new w _, o2, by simp, by simp only [maxLen]; have := Nat.le_mul_of_pos_right n h0; omega, fun i k hi hk => ?_⟩
      have hi' : i < n := by simpa using hi
      rw [o3 i k hi' hk]
      have hget : ((List.range n).map (bsAt a.isSome z.cells.toList qs ρ)).getD i [] = bsAt a.isSome z.cells.toList qs ρ i := by
        simp [List.getD_eq_getElem?_getD, hi']
      rw [hget]
      unfold bsAt
      rcases hfind i with ⟨p, q, e1, e2, m, e3, e4⟩ | ⟨e1, e2⟩
      · rw [e1, e2]; exact (hcell m p q e3 e4).2 k hk
      · rw [e1, e2]
        have hidx : i * sz + k < n * sz := idx_lt hi' hk
        have hmod : (i * sz + k) % z.cells.size = k := by rw [hzs, Nat.mul_comm, Nat.mul_add_mod]; exact Nat.mod_eq_of_lt hk
        have e1 : ((Array.range (n * sz)).map (z.cells[· % z.cells.size]!)).getD (i * sz + k) undef = z.cells.getD k undef := by
          simp [hidx, hmod, show k < z.cells.size by omega]
        simp only [e1]
        exact (filled_zero (g := g) (w := w) h5).2 k (by simpa using (show k < z.cells.size by omega)))
  refine ⟨_, _, _, hrun, ?_, ex, H', Grow.alloc w _⟩
  refine .ref _ _ _ _ _ (by simp [H.clk]) fun J hJ hJv => ?_
  rw [← H.len] at hJ
  simp at hJ
  subst hJ
  exact ⟨_, n, rfl, Nat.le_refl _, by simp, fun _ => by simp⟩
end
end Go.Sx
