/- All operations that leave memory as it is. -/
import Derived.Test.YtdeleamdjakooaaSx6
namespace Go.Sx
section
variable {P : Program} {g : Gh} {w w0 w' : World} {own0 : Own} {h : Heap}

theorem getD_set_cell (cells : Array Value) (i j : Nat) (c : Value) (hi : i < cells.size) : (cells.setIfInBounds i c).getD j undef = if j = i then c else cells.getD j undef := by
  simp only [Array.getD_eq_getD_getElem?, Array.getElem?_setIfInBounds]
  by_cases h : i = j
  · subst h; simp [hi]
  · rw [if_neg h, if_neg (by omega)]
theorem fold_set : ∀ (l : List Value) (k off : Nat) (cells : Array Value), off + k + l.length ≤ cells.size →
    ((l.zipIdx k).foldl (fun cs (c, j) => cs.setIfInBounds (off + j) c) cells).size = cells.size ∧
    ∀ j, ((l.zipIdx k).foldl (fun cs (c, j) => cs.setIfInBounds (off + j) c) cells).getD j undef =
      if off + k ≤ j ∧ j < off + k + l.length then l.getD (j - (off + k)) undef else cells.getD j undef
  | [], k, off, cells, _ => ⟨rfl, fun j => by simp; intro h1 h2; omega⟩
  | c :: l, k, off, cells, h => by
    simp only [List.length_cons] at h
    obtain ⟨h1, h2⟩ := fold_set l (k + 1) off (cells.setIfInBounds (off + k) c) (by simp; omega)
    simp only [List.zipIdx_cons, List.foldl_cons]
    refine ⟨by rw [h1]; simp, fun j => ?_⟩
    rw [h2 j, getD_set_cell _ _ _ _ (by omega)]
    simp only [List.length_cons]
    by_cases hj : j = off + k
    · subst hj
      rw [if_neg (by omega), if_pos rfl, if_pos (by omega)]
      simp
    · rw [if_neg hj]
      by_cases hj2 : off + (k + 1) ≤ j ∧ j < off + (k + 1) + l.length
      · rw [if_pos hj2, if_pos (by omega), show j - (off + k) = (j - (off + (k + 1))) + 1 by omega]
        simp
      · rw [if_neg hj2, if_neg (by omega)]

/-- The cells of a value as the model has them. -/
theorem cells_of {a : Bool} {v : Value} {x : V} (H : HRel g h w w0 own0) (hv : VRep g w v x) (h0 : 0 < (cellsOf a x).length) (h1 : (cellsOf a x).all h.isOne = true) :
    v.cells.size = (cellsOf a x).length ∧ ∀ i, i < (cellsOf a x).length → (v.cells.getD i undef).oneCell' = true ∧ VRep g w (v.cells.getD i undef) ((cellsOf a x).getD i .any) := by
  have hone : ∀ i, i < (cellsOf a x).length → h.isOne ((cellsOf a x).getD i .any) = true := fun i hi => by
    rw [List.getD_eq_getElem?_getD, List.getElem?_eq_getElem hi]
    exact List.all_eq_true.1 h1 _ (List.getElem_mem _)
  cases a with
  | true =>
    obtain ⟨cs, rfl, hl, hr⟩ := cellsOf_ok hv h0
    exact ⟨hl, fun i hi => ⟨isOne_ok H (hr i hi) (hone i hi), hr i hi⟩⟩
  | false =>
    have h2 := hone 0 h0
    simp only [cellsOf] at h2 ⊢
    have ho := isOne_ok H hv h2
    have hc : v.cells = #[v] := by cases v <;> first | rfl | (simp [Value.oneCell'] at ho)
    rw [hc]
    refine ⟨rfl, fun i hi => ?_⟩
    obtain rfl : i = 0 := by simpa using hi
    exact ⟨ho, hv⟩

/-- A struct's value in the making. -/
def Filled (g : Gh) (w : World) (cells : Array Value) (cs : List V) : Prop :=
  cells.size = cs.length ∧ ∀ i, i < cs.length → (cells.getD i undef).oneCell' = true ∧ VRep g w (cells.getD i undef) (cs.getD i .any)
theorem Filled.set {cells : Array Value} {cs : List V} {off : Nat} {l : List Value} {vs : List V} (hf : Filled g w cells cs) (hl : l.length = vs.length) (hb : off + vs.length ≤ cs.length)
    (hv : ∀ i, i < vs.length → (l.getD i undef).oneCell' = true ∧ VRep g w (l.getD i undef) (vs.getD i .any)) :
    Filled g w ((l.zipIdx).foldl (fun cs (c, j) => cs.setIfInBounds (off + j) c) cells) (cs.take off ++ vs ++ cs.drop (off + vs.length)) := by
  obtain ⟨h1, h2⟩ := fold_set l 0 off cells (by rw [hf.1]; omega)
  have hlen : (cs.take off ++ vs ++ cs.drop (off + vs.length)).length = cs.length := by simp; omega
  refine ⟨by rw [h1, hf.1, hlen], fun i hi => ?_⟩
  rw [hlen] at hi
  rw [h2 i]
  simp only [Nat.add_zero, hl]
  have hget : (cs.take off ++ vs ++ cs.drop (off + vs.length)).getD i .any = if off ≤ i ∧ i < off + vs.length then vs.getD (i - off) .any else cs.getD i .any := by
    simp only [List.getD_eq_getElem?_getD, List.append_assoc]
    by_cases hi1 : i < off
    · rw [List.getElem?_append_left (by simp; omega), if_neg (by omega), List.getElem?_take, if_pos hi1]
    · rw [List.getElem?_append_right (by simp; omega)]
      have ht : (List.take off cs).length = off := by simp; omega
      rw [ht]
      by_cases hi2 : i < off + vs.length
      · rw [List.getElem?_append_left (by omega), if_pos (by omega)]
      · rw [List.getElem?_append_right (by omega), if_neg (by omega), List.getElem?_drop, show off + vs.length + (i - off - vs.length) = i by omega]
  rw [hget]
  split
  · exact hv _ (by omega)
  · exact hf.2 i hi

theorem fill_ok (H : HRel g h w w0 own0) {place : Nat → Option (Nat × Nat)} : ∀ (ps : List (Nat × Value)) (qs : List (Nat × List V)) (cells : Array Value) (cs : List V), Filled g w cells cs → ps.length = qs.length →
    (∀ (i : Nat) (p : Nat × Value) (q : Nat × List V), ps[i]? = some p → qs[i]? = some q → ∃ n, place p.1 = some (q.1, n) ∧ n = q.2.length ∧ p.2.cells.size = n ∧ q.1 + q.2.length ≤ cs.length ∧
      ∀ k, k < q.2.length → (p.2.cells.getD k undef).oneCell' = true ∧ VRep g w (p.2.cells.getD k undef) (q.2.getD k .any)) →
    ∃ out, Instr.fill place cells ps = some out ∧ Filled g w out (setPart cs qs)
  | [], [], cells, cs, hf, _, _ => ⟨cells, rfl, hf⟩
  | [], _ :: _, _, _, _, hl, _ => by simp at hl
  | _ :: _, [], _, _, _, hl, _ => by simp at hl
  | (i, v) :: ps, (off, vs) :: qs, cells, cs, hf, hl, hall => by
    obtain ⟨n, hp, hn, hsz, hle, hv⟩ := hall 0 _ _ rfl rfl
    simp only at hp hn hsz hle hv
    have hcond : ¬ ((v.cells.size ≠ n) ∨ off + v.cells.size > cells.size) := by rw [hf.1]; omega
    have hset := Filled.set (off := off) (l := v.cells.toList) (vs := vs) hf (by rw [Array.length_toList]; omega) hle (fun k hk => by simpa [Array.getD_eq_getD_getElem?, List.getD_eq_getElem?_getD] using hv k hk)
    have hlen : (cs.take off ++ vs ++ cs.drop (off + vs.length)).length = cs.length := by simp; omega
    obtain ⟨out, ho, hf'⟩ := fill_ok H ps qs _ _ hset (by simpa using hl) (fun i p q hpi hqi => by
      obtain ⟨n', a1, a2, a3, a4, a5⟩ := hall (i + 1) p q (by simpa using hpi) (by simpa using hqi)
      exact ⟨n', a1, a2, a3, by rw [hlen]; exact a4, a5⟩)
    refine ⟨out, ?_, hf'⟩
    simp only [Instr.fill, hp]
    have hfold : v.cells.zipIdx.foldl (fun cs (x : Value × Nat) => cs.setIfInBounds (off + x.2) x.1) cells = (v.cells.toList.zipIdx).foldl (fun cs (x : Value × Nat) => cs.setIfInBounds (off + x.2) x.1) cells := by
      rw [← Array.foldl_toList, Array.toList_zipIdx]
    rw [if_neg (by simpa using hcond)]
    rw [show (v.cells.zipIdx.foldl (fun cs x => match x with | (c, j) => cs.setIfInBounds (off + j) c) cells) = (v.cells.toList.zipIdx).foldl (fun cs (x : Value × Nat) => cs.setIfInBounds (off + x.2) x.1) cells from hfold]
    exact ho
theorem filled_zero {z : Value} (hz : z.cells.toList.all (·.oneCell') = true) : Filled g w z.cells (z.cells.toList.map .c) := by
  refine ⟨by simp, fun i hi => ?_⟩
  have hi' : i < z.cells.size := by simpa using hi
  have : z.cells.getD i undef = z.cells[i] := by simp [hi']
  rw [this]
  refine ⟨List.all_eq_true.1 hz _ (by simp), ?_⟩
  simp [List.getD_eq_getElem?_getD, hi']
  exact VRep.c' _
end
end Go.Sx
