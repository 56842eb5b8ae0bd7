/- The operations that make or write memory. -/
import Derived.Test.YtdeleamdjakooaaSxB
set_option maxHeartbeats 1000000
namespace Go.Sx
section
variable {P : Program} {g : Gh} {w w0 w1 : World} {own0 : Own} {h : Heap}

def EffOK (P : Program) (g : Gh) (w w0 : World) (own0 : Own) (s : Sem Next) (r : V × Heap × Bool) : Prop :=
  ∃ cv w' g', (s.run P w = .ok (.value cv) w' ∨ (s.run P w = .ok .skip w' ∧ cv = undef)) ∧ VRep g' w' cv r.1 ∧ Ext g w g' w' ∧ HRel g' r.2.1 w' w0 own0

theorem info_of {e : TypeId} {sz by' : Nat} {z : Value} (h1 : szOf P e = some sz) (h2 : bytesOf' P e = some by') (h3 : zeroOf P e = some z) : ∃ i, P.info? e = some i ∧ i.size = sz ∧ i.bytes = by' ∧ i.zero = some z := by
  unfold szOf at h1; unfold bytesOf' at h2; unfold zeroOf at h3
  cases hi : P.info? e with
  | none => simp [hi] at h1
  | some i => simp [hi] at h1 h2 h3; exact ⟨i, rfl, h1, h2, h3⟩

theorem eff_box {a : Bool} {sz : Nat} {v : Value} {x : V} {t : TypeId} (H : HRel g h w w0 own0) (hv : VRep g w v x) (h1 : (cellsOf a x).length = sz) (h0 : 0 < sz) (h2 : (cellsOf a x).all h.isOne = true) :
    ∃ cv w' g', cv = .pointer (some ⟨w.heap.size, 0, none⟩) ∧ w' = w.alloc (.cells v.cells t) ∧ VRep g' w' cv (.ptr h.bs.length h.clk 0 0) ∧ Ext g w g' w' ∧ HRel g' (h.alloc sz [] [cellsOf a x]) w' w0 own0 := by
  obtain ⟨h3, h4⟩ := cells_of H hv (by omega) h2
  obtain ⟨ex, H'⟩ := H.new (Grow.alloc w (.cells v.cells t)) (I := ⟨g.clk, some w.heap.size, sz, 1⟩) (sz := sz) (es := [cellsOf a x]) rfl rfl (fun b hb => by simp at hb; omega) (by simp [h1]) (by simp) (fun b hb => by
    simp at hb; subst hb
    refine ⟨v.cells, t, heap_alloc_new w _, by simp [h3, h1], by simp, by simp [maxLen], fun i k hi hk => ?_⟩
    obtain rfl : i = 0 := by simpa using hi
    have := h4 k (by omega)
    simpa using this)
  refine ⟨_, _, _, rfl, rfl, ?_, ex, H'⟩
  refine .ptr _ _ _ _ _ (by simp [H.clk]) fun J hJ hJv => ?_
  rw [← H.len] at hJ
  simp at hJ
  subst hJ
  exact ⟨_, rfl, by simp⟩

theorem mul_lt_of_ne {i j k sz : Nat} (hk : k < sz) (h : i < j) : i * sz + k < j * sz :=
  Nat.lt_of_lt_of_le (Nat.add_lt_add_left hk _) (by rw [← Nat.succ_mul]; exact Nat.mul_le_mul_right _ h)

theorem setPart_one (cs vs : List V) (o : Nat) (hl : o + vs.length ≤ cs.length) (k : Nat) : (setPart cs [(o, vs)]).getD k .any = if o ≤ k ∧ k < o + vs.length then vs.getD (k - o) .any else cs.getD k .any := by
  simp only [setPart, List.getD_eq_getElem?_getD, List.append_assoc]
  have ht : (List.take o cs).length = o := by simp; omega
  by_cases hi1 : k < o
  · rw [List.getElem?_append_left (by omega), if_neg (by omega), List.getElem?_take, if_pos hi1]
  · rw [List.getElem?_append_right (by omega), ht]
    by_cases hi2 : k < o + vs.length
    · rw [List.getElem?_append_left (by omega), if_pos (by omega)]
    · rw [List.getElem?_append_right (by omega), if_neg (by omega), List.getElem?_drop, show o + vs.length + (k - o - vs.length) = k by omega]
theorem setPart_len (cs vs : List V) (o : Nat) (hl : o + vs.length ≤ cs.length) : (setPart cs [(o, vs)]).length = cs.length := by
  simp [setPart]; omega
theorem seg_getD (cur : Array Value) (vs : List Value) (o k : Nat) (hl : o + vs.length ≤ cur.size) :
    ((cur.toList.take o ++ vs ++ cur.toList.drop (o + vs.length)).toArray).getD k undef = if o ≤ k ∧ k < o + vs.length then vs.getD (k - o) undef else cur.getD k undef := by
  simp only [Array.getD_eq_getD_getElem?, List.getElem?_toArray, List.append_assoc, List.getD_eq_getElem?_getD]
  have ht : (List.take o cur.toList).length = o := by simp; omega
  by_cases hi1 : k < o
  · rw [List.getElem?_append_left (by omega), if_neg (by omega), List.getElem?_take, if_pos hi1]; simp
  · rw [List.getElem?_append_right (by omega), ht]
    by_cases hi2 : k < o + vs.length
    · rw [List.getElem?_append_left (by omega), if_pos (by omega)]
    · rw [List.getElem?_append_right (by omega), if_neg (by omega), List.getElem?_drop, show o + vs.length + (k - o - vs.length) = k by omega]; simp

theorem run_storeAt {t : TypeId} {n : Option Nat} (hs : shp P t = some n) {b o : Nat} {v : Value} {cur : Array Value} {e : TypeId} (hb : w.heap[b]? = some (.cells cur e (0, 0)))
    (hn : v.cells.size = n.getD 1) (hl : o + v.cells.size ≤ cur.size) (h1 : ∀ i, i < v.cells.size → (v.cells.getD i undef).oneCell' = true) :
    (Instr.storeAt t (.pointer (some ⟨b, o, none⟩)) v).run P w = .ok () (w.setRow b (cur.toList.take o ++ v.cells.toList ++ cur.toList.drop (o + v.cells.toList.length)).toArray) := by
  have hst := run_storeCells_at P b o e v.cells.toList 0 cur w hb (by simpa using hl) (fun u hu => by
    obtain ⟨i, hi, rfl⟩ := List.mem_iff_getElem.1 hu
    have := h1 i (by simpa using hi)
    simpa [show i < v.cells.size by simpa using hi] using this)
  simp only [Nat.add_zero] at hst
  simp only [Instr.storeAt, Instr.sureAddr, storeVar, Sem.run_bind, Sem.run_pure, Result.andThen_ok, run_sizeOf (shp_sz hs), hn, ne_eq, not_true_eq_false, if_false]
  exact hst

theorem eff_store {t : TypeId} {n : Option Nat} (hs : shp P t = some n) (H : HRel g h w w0 own0) {a v : Value} {y : V} {j ver i o : Nat} (ha : VRep g w a (.ptr j ver i o)) (hv : VRep g w v y)
    (h1 : h.cur j ver = true) (h2 : (h.blk j).fz = false) (h3 : i < (h.blk j).es.length) (h4 : o + (cellsOf n.isSome y).length ≤ (h.blk j).sz) (h5 : (cellsOf n.isSome y).length = n.getD 1) (h0 : 0 < n.getD 1)
    (h6 : (cellsOf n.isSome y).all h.isOne = true) :
    ∃ w', (Instr.storeAt t a v).run P w = .ok () w' ∧ Ext g w g w' ∧
      HRel g (h.put j ⟨ver, (h.blk j).sz, (h.blk j).es.set i (setPart ((h.blk j).es.getD i (h.blk j).d) [(o, cellsOf n.isSome y)]), false, (h.blk j).d⟩) w' w0 own0 := by
  obtain ⟨c1, c2⟩ := cells_of H hv (by omega) h6
  obtain ⟨B, I, hB, hI, hbl, hBv, hIv, hk⟩ := H.cur h1
  obtain ⟨b, hb, rfl⟩ := ha.inv_ptr.2 I hI hIv
  rw [hbl] at h2 h3 h4 ⊢
  rw [getD_irr h3 B.d]
  obtain ⟨cur, e, k1, k2, k3, k4, k5⟩ := hk.here b hb
  have hlen : (B.es.getD i []).length = B.sz := hk.len _ (by rw [List.getD_eq_getElem?_getD, List.getElem?_eq_getElem h3]; exact List.getElem_mem _)
  have hle : i * I.sz + o + v.cells.size ≤ cur.size := by
    rw [k2, c1, hk.sz]
    have : (i + 1) * B.sz ≤ I.cap * B.sz := Nat.mul_le_mul_right _ (by omega)
    rw [Nat.succ_mul] at this
    omega
  have hrun := run_storeAt (w := w) hs k1 (by rw [c1, h5]) hle (fun q hq => (c2 q (by omega)).1)
  have hll : v.cells.toList.length = (cellsOf n.isSome y).length := by rw [Array.length_toList, c1]
  obtain ⟨ex, H'⟩ := H.write (w1 := w.setRow b (cur.toList.take (i * I.sz + o) ++ v.cells.toList ++ cur.toList.drop (i * I.sz + o + v.cells.toList.length)).toArray)
    (B' := ⟨ver, B.sz, B.es.set i (setPart (B.es.getD i []) [(o, cellsOf n.isSome y)]), false, B.d⟩) hI hb hIv.symm rfl rfl rfl (by simp) (fun c hc => setRow_other w b c _ hc) (hk.nf b hb h2) rfl hk.sz (fun x hx => by
      rcases List.mem_or_eq_of_mem_set hx with hx | rfl
      · exact hk.len x hx
      · rw [setPart_len _ _ _ (by rw [hlen]; exact h4), hlen]) ⟨_, e, setRow_heap w b cur _ e (0, 0) k1, by
        simp only [List.size_toArray, List.length_append, List.length_take, List.length_drop, Array.length_toList]; rw [← k2]; omega, by simpa using k3, k4, fun q r hq hr => by
      simp only [List.length_set] at hq
      simp only at hr
      rw [seg_getD _ _ _ _ (by rw [hll, ← c1]; exact hle), hll]
      simp only [hk.sz]
      by_cases hqi : q = i
      · subst hqi
        have hes : (B.es.set q (setPart (B.es.getD q []) [(o, cellsOf n.isSome y)])).getD q [] = setPart (B.es.getD q []) [(o, cellsOf n.isSome y)] := by
          simp [List.getD_eq_getElem?_getD, List.getElem?_set_self hq]
        simp only [hes]
        rw [setPart_one _ _ _ (by rw [hlen]; exact h4)]
        by_cases hr2 : o ≤ r ∧ r < o + (cellsOf n.isSome y).length
        · rw [if_pos (by omega), if_pos hr2, show q * B.sz + r - (q * B.sz + o) = r - o by omega]
          have := c2 (r - o) (by omega)
          simpa [Array.getD_eq_getD_getElem?, List.getD_eq_getElem?_getD] using this
        · rw [if_neg (by omega), if_neg hr2]
          exact k5 q r hq hr
      · have hes : (B.es.set i (setPart (B.es.getD i []) [(o, cellsOf n.isSome y)])).getD q [] = B.es.getD q [] := by
          simp [List.getD_eq_getElem?_getD, List.getElem?_set_ne (Ne.symm hqi)]
        simp only [hes]
        have hne : ¬ (i * B.sz + o ≤ q * B.sz + r ∧ q * B.sz + r < i * B.sz + o + (cellsOf n.isSome y).length) := by
          rcases Nat.lt_or_gt_of_ne hqi with hlt | hlt
          · have := mul_lt_of_ne (sz := B.sz) hr hlt; omega
          · have : (i + 1) * B.sz ≤ q * B.sz := Nat.mul_le_mul_right _ hlt
            rw [Nat.succ_mul] at this; omega
        rw [if_neg hne]
        exact k5 q r hq hr⟩
  exact ⟨_, hrun, ex, H'⟩

theorem eff_mkslice {t e : TypeId} {sz by' : Nat} {z : Value} (hu : P.underlying t = some (.slice e)) (hs : szOf P e = some sz) (hby : bytesOf' P e = some by') (hz : zeroOf P e = some z) (H : HRel g h w w0 own0) {k k' : IntKind} {n : Int}
    (h0 : 0 < sz) (h1 : 0 ≤ n) (h2 : n ≤ 1099511627776) (h3 : n * by' ≤ 140737488355328) (h4 : z.cells.toList.length = sz) (h5 : z.cells.toList.all (·.oneCell') = true) :
    ∃ cv w' g', (Instr.makeSlice t (.int k n) (.int k' n)).run P w = .ok cv w' ∧ VRep g' w' cv (.ref h.bs.length h.clk 0 n.toNat) ∧ Ext g w g' w' ∧
      HRel g' (h.alloc sz (z.cells.toList.map .c) (List.replicate n.toNat (z.cells.toList.map .c))) w' w0 own0 ∧ Grow w w' := by
  obtain ⟨i, hi, rfl, rfl, hiz⟩ := info_of hs hby hz
  have hrun := run_make (P := P) w t e i z hu hi hiz k k' n n h1 (Int.le_refl _) (by rw [Int.mul_comm]; omega) (by omega)
  have hsz : z.cells.size = i.size := by simpa using h4
  obtain ⟨ex, H'⟩ := H.new (Grow.alloc w (.cells (madeCells z.cells (n.toNat * i.size)) e)) (I := ⟨g.clk, some w.heap.size, i.size, n.toNat⟩) (sz := i.size) (es := List.replicate n.toNat (z.cells.toList.map .c)) rfl rfl
    (fun b hb => by simp at hb; omega) (fun e he => by rw [(List.mem_replicate.1 he).2]; simpa using hsz) (by simp) (fun b hb => by
      simp at hb; subst hb
      refine ⟨_, e, heap_alloc_new w _, by rw [size_madeCells], by simp, by simp only [maxLen]; omega, fun j q hj hq => ?_⟩
      simp only [List.length_replicate] at hj
      have hidx : j * i.size + q < n.toNat * i.size := idx_lt hj hq
      have e1 : (madeCells z.cells (n.toNat * i.size)).getD (j * i.size + q) undef = z.cells.getD q undef := by
        have hmod : (j * i.size + q) % z.cells.size = q := by rw [hsz, Nat.mul_comm, Nat.mul_add_mod]; exact Nat.mod_eq_of_lt hq
        simp [madeCells, hidx, hmod, show q < z.cells.size by omega]
      have e2 : (List.replicate n.toNat (z.cells.toList.map V.c)).getD j [] = z.cells.toList.map V.c := by
        simp [List.getD_eq_getElem?_getD, hj]
      rw [e1, e2]
      exact (filled_zero (g := g) (w := w) h5).2 q (by simpa using (show q < z.cells.size by omega)))
  refine ⟨_, _, _, hrun, ?_, ex, H', Grow.alloc w _⟩
  refine .ref _ _ _ _ _ (by simp [H.clk]) fun J hJ hJv => ?_
  rw [← H.len] at hJ
  simp at hJ
  subst hJ
  exact ⟨_, n.toNat, rfl, Nat.le_refl _, by simp, fun _ => by simp⟩
end
end Go.Sx
