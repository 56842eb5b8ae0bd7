/- A slice that is appended to: the theorems. -/
import Derived.Test.YtdeleamdjakooaaSxE
set_option maxHeartbeats 2000000
namespace Go.Sx
section
variable {P : Program} {g : Gh} {w w0 w1 : World} {own0 : Own} {h : Heap}

theorem grow_drew_alloc (w : World) (o : Obj) : Grow w (w.drew.alloc o) := (Grow.drew w).trans (Grow.alloc w.drew o)

theorem eff_append_nil {t ty e : TypeId} {sz by' : Nat} {z : Value} (hu : P.underlying t = some (.slice e)) (hs : szOf P e = some sz) (hby : bytesOf' P e = some by') (hz : zeroOf P e = some z) (hzs : z.cells.size = sz)
    (H : HRel g h w w0 own0) {vy : Value} {y : V} (hy : VRep g w vy y) (h1 : (h.view sz y).2 = true) (h0 : 0 < sz) (h2 : (h.view sz y).1.length ≤ 1099511627776) (h3 : (h.view sz y).1.length * by' ≤ 140737488355328) :
    ∃ cv w' g', (Builtin.append_ #[t, t] ty #[.slice none 0 0, vy]).run P w = .ok cv w' ∧ VRep g' w' cv (.ref h.bs.length h.clk 0 (h.view sz y).1.length) ∧ Ext g w g' w' ∧
      HRel g' (h.alloc sz (z.cells.toList.map .c) (h.view sz y).1) w' w0 own0 := by
  obtain ⟨i, hi, rfl, rfl, hiz⟩ := info_of hs hby hz
  obtain ⟨a, cap, b, o, xs, rfl, hcap, hlen, ha, hx⟩ := view_ok H hy h1
  generalize hm : (h.view i.size y).1.length = m at *
  by_cases hm0 : m = 0
  · subst hm0
    have hes : (h.view i.size y).1 = [] := List.eq_nil_of_length_eq_zero hm
    rw [hes]
    obtain ⟨ex, H'⟩ := H.new (Grow.refl w) (I := ⟨g.clk, none, i.size, 0⟩) (sz := i.size) (es := []) rfl rfl (by simp) (by simp) (by simp) (by simp)
    refine ⟨_, _, _, run_append_zero hu hu hs none 0 0 (Nat.le_refl _) a cap ty, ?_, ex, H'⟩
    refine .ref _ _ _ _ _ (by simp [H.clk]) fun J hJ hJv => ?_
    rw [← H.len] at hJ
    simp at hJ
    subst hJ
    simp [RefOK]
  · obtain ⟨rfl, hb⟩ := ha (by omega)
    obtain ⟨r1, r2⟩ := rowOf_cells (m := m) h0 (fun i k hi hk => ⟨(hx i k hi hk).1, (hx i k hi hk).2.1⟩)
    have hrun := run_append_nil (P := P) w t ty e i z hu hi hiz ⟨b, o, none⟩ m cap (rowOf m i.size xs) (rowOf_len _ _ _) r1 (by omega) (by omega) (by omega)
    have hge := grownCap_ge w m 0 e
    have hml : grownCap w m 0 e ≤ maxLen := grownCap_le_maxLen w m 0 e (by simp only [maxLen]; omega)
    obtain ⟨ex, H'⟩ := H.new (grow_drew_alloc w (.cells ((rowOf m i.size xs).toArray ++ Builtin.zeroCells z.cells (grownCap w m 0 e - m)) e)) (I := ⟨g.clk, some w.heap.size, i.size, grownCap w m 0 e⟩) (sz := i.size) (es := (h.view i.size y).1) rfl rfl
      (fun b hb => by simp at hb; omega) hlen (by simp) (fun b hb => by
        simp at hb; subst hb
        refine ⟨_, e, heap_alloc_new w.drew _, ?_, by simpa [hm] using hge, hml, fun j q hj hq => ?_⟩
        · simp only [Array.size_append, List.size_toArray, rowOf_len, size_zeroCells, hzs, ← Nat.add_mul]
          congr 1; omega
        · rw [hm] at hj
          have hidx := idx_lt hj hq
          have := grown_getD (olds := []) (news := rowOf m i.size xs) (z := Builtin.zeroCells z.cells (grownCap w m 0 e - m)) (i := j * i.size + q)
          simp only [List.length_nil, Nat.zero_add, Nat.not_lt_zero, if_false, rowOf_len, if_pos hidx, Nat.sub_zero] at this
          rw [show ((rowOf m i.size xs).toArray ++ Builtin.zeroCells z.cells (grownCap w m 0 e - m)) = ([].toArray ++ (rowOf m i.size xs).toArray ++ Builtin.zeroCells z.cells (grownCap w m 0 e - m)) by simp, this, rowOf_get hj hq]
          exact (hx j q hj hq).2)
    refine ⟨_, _, _, hrun, ?_, ex, H'⟩
    refine .ref _ _ _ _ _ (by simp [H.clk]) fun J hJ hJv => ?_
    rw [← H.len] at hJ
    simp at hJ
    subst hJ
    exact ⟨_, _, rfl, hge, by simp, fun _ => by simp⟩

theorem take_getD {es : List (List V)} {n i : Nat} {rest : List (List V)} (hn : n ≤ es.length) : (es.take n ++ rest).getD i [] = if i < n then es.getD i [] else rest.getD (i - n) [] := by
  simp only [List.getD_eq_getElem?_getD]
  have ht : (List.take n es).length = n := by simp; omega
  by_cases hi : i < n
  · rw [List.getElem?_append_left (by omega), if_pos hi, List.getElem?_take, if_pos hi]
  · rw [List.getElem?_append_right (by omega), ht, if_neg hi]

theorem eff_append_ref {t ty e : TypeId} {sz by' : Nat} {z : Value} (hu : P.underlying t = some (.slice e)) (hs : szOf P e = some sz) (hby : bytesOf' P e = some by') (hz : zeroOf P e = some z) (hzs : z.cells.size = sz)
    (H : HRel g h w w0 own0) {vx vy : Value} {y : V} {j ver len : Nat} (hvx : VRep g w vx (.ref j ver 0 len)) (hy : VRep g w vy y) (h1 : (h.view sz y).2 = true) (h0 : 0 < sz)
    (hc : h.cur j ver = true) (hfz : (h.blk j).fz = false) (hsz : (h.blk j).sz = sz) (hle : len ≤ (h.blk j).es.length) (h2 : len + (h.view sz y).1.length ≤ 1099511627776) (h3 : (len + (h.view sz y).1.length) * by' ≤ 140737488355328) :
    ∃ cv w' g', (Builtin.append_ #[t, t] ty #[vx, vy]).run P w = .ok cv w' ∧ VRep g' w' cv (.ref j h.clk 0 (len + (h.view sz y).1.length)) ∧ Ext g w g' w' ∧
      HRel g' ⟨h.bs.set j ⟨h.clk, sz, (h.blk j).es.take len ++ (h.view sz y).1, false, (h.blk j).d⟩, h.clk + 1⟩ w' w0 own0 := by
  obtain ⟨i, hi, rfl, rfl, hiz⟩ := info_of hs hby hz
  obtain ⟨a, cap, b, o, xs, rfl, hcap, hlen, ha, hx⟩ := view_ok H hy h1
  obtain ⟨B, I, hB, hI, hbl, hBv, hIv, hk⟩ := H.cur hc
  rw [hbl] at hfz hsz hle ⊢
  have hr := hvx.inv_ref.2 I hI hIv
  have hjlt : j < g.inf.length := (List.getElem?_eq_some_iff.1 hI).1
  have hnf : ∀ b, I.blk = some b → ¬ g.F b := fun b hb => hk.nf b hb hfz
  have hBl : ∀ e ∈ B.es.take len ++ (h.view i.size y).1, e.length = i.size := fun e he => by
    rcases List.mem_append.1 he with he | he
    · rw [← hsz]; exact hk.len e (List.mem_of_mem_take he)
    · exact hlen e he
  generalize hm : (h.view i.size y).1.length = m at *
  have hnew : (B.es.take len ++ (h.view i.size y).1).length = len + m := by simp [hm]; omega
  have mkref : ∀ {I' : Inf} {cv : Value} {w' : World}, I'.ver = g.clk → RefOK I' 0 (len + m) cv → VRep ⟨g.F, g.inf.set j I', g.clk + 1⟩ w' cv (.ref j h.clk 0 (len + m)) := by
    intro I' cv w' hv hr
    refine .ref _ _ _ _ _ (by simp [H.clk]) fun J hJ hJv => ?_
    simp only [List.getElem?_set_self hjlt] at hJ
    obtain rfl := Option.some.inj hJ
    exact hr
  -- a new array, of what was there and what is laid behind
  have grown : ∀ (olds : List Value) (old : Nat), olds.length = len * i.size → 0 < m → old < len + m → (∀ q r, q < len → r < i.size → (olds.getD (q * i.size + r) undef).oneCell' = true ∧ VRep g w (olds.getD (q * i.size + r) undef) ((B.es.getD q []).getD r .any)) →
      ∀ cv, cv = .slice (some ⟨w.heap.size, 0, none⟩) (len + m) (grownCap w (len + m) old e) →
      ∀ w', w' = w.drew.alloc (.cells (olds.toArray ++ (rowOf m i.size xs).toArray ++ Builtin.zeroCells z.cells (grownCap w (len + m) old e - (len + m))) e) →
      ∃ g', VRep g' w' cv (.ref j h.clk 0 (len + m)) ∧ Ext g w g' w' ∧ HRel g' ⟨h.bs.set j ⟨h.clk, i.size, B.es.take len ++ (h.view i.size y).1, false, B.d⟩, h.clk + 1⟩ w' w0 own0 := by
    intro olds old hol hm0 hold hcell cv hcv w' hw'
    have hge := grownCap_ge w (len + m) old e
    have hml : grownCap w (len + m) old e ≤ maxLen := grownCap_le_maxLen w (len + m) old e (by simp only [maxLen]; omega)
    have hgr : Grow w w' := hw' ▸ grow_drew_alloc w _
    obtain ⟨ex, H'⟩ := H.upd (w1 := w') (I' := ⟨g.clk, some w.heap.size, i.size, grownCap w (len + m) old e⟩) (B' := ⟨h.clk, i.size, B.es.take len ++ (h.view i.size y).1, false, B.d⟩) hI rfl H.clk.symm hgr.os hgr.tape hgr.output hgr.size
      (fun b hb _ => hgr.block b hb) (fun b hb => .inr (by simp at hb; omega)) hnf rfl rfl hBl (by simp) (fun b hb => by
        simp at hb; subst hb
        refine ⟨_, e, by rw [hw']; exact heap_alloc_new w.drew _, ?_, by rw [hnew]; exact hge, hml, fun q r hq hr => ?_⟩
        · simp only [Array.size_append, List.size_toArray, rowOf_len, size_zeroCells, hzs, hol, ← Nat.add_mul]
          congr 1; omega
        · simp only [hnew] at hq
          simp only at hr
          dsimp only
          rw [grown_getD, hol, rowOf_len, take_getD hle]
          by_cases hql : q < len
          · rw [if_pos (idx_lt hql hr), if_pos hql]
            exact hcell q r hql hr
          · have h5 : len * i.size ≤ q * i.size := Nat.mul_le_mul_right _ (by omega)
            have h6 := idx_lt (sz := i.size) hq hr
            rw [Nat.add_mul] at h6
            rw [if_neg (by omega), if_pos h6, if_neg hql]
            have h7 : q * i.size + r - len * i.size = (q - len) * i.size + r := by rw [Nat.sub_mul]; omega
            rw [h7, rowOf_get (by omega) hr]
            exact (hx (q - len) r (by omega) hr).2)
    exact ⟨_, mkref rfl (by subst hcv; exact ⟨_, _, rfl, hge, by simp, fun _ => by simp⟩), ex, H'⟩
  unfold RefOK at hr
  split at hr
  · -- nothing of it is there
    rename_i hbn
    obtain ⟨rfl, rfl, _⟩ := hr
    have hBe := hk.gone hbn
    by_cases hm0 : m = 0
    · subst hm0
      have hes : (h.view i.size y).1 = [] := List.eq_nil_of_length_eq_zero hm
      obtain ⟨ex, H'⟩ := H.upd (w1 := w) (I' := ⟨g.clk, none, i.size, 0⟩) (B' := ⟨h.clk, i.size, B.es.take 0 ++ (h.view i.size y).1, false, B.d⟩) hI rfl H.clk.symm rfl rfl rfl (Nat.le_refl _)
        (fun _ _ _ => rfl) (by simp) hnf rfl rfl hBl (by simp [hes]) (by simp)
      exact ⟨_, _, _, run_append_zero hu hu hs none 0 0 (Nat.le_refl _) a cap ty, mkref rfl (by simp [RefOK]), ex, H'⟩
    · obtain ⟨rfl, hb⟩ := ha (by omega)
      obtain ⟨r1, r2⟩ := rowOf_cells (m := m) h0 (fun i k hi hk => ⟨(hx i k hi hk).1, (hx i k hi hk).2.1⟩)
      have hrun := run_append_nil (P := P) w t ty e i z hu hi hiz ⟨b, o, none⟩ m cap (rowOf m i.size xs) (rowOf_len _ _ _) r1 (by omega) (by omega) (by rw [Nat.zero_add] at h3; omega)
      obtain ⟨g', k1, k2, k3⟩ := grown [] 0 (by simp) (by omega) (by omega) (by simp) _ rfl _ rfl
      refine ⟨_, _, g', ?_, k1, k2, k3⟩
      rw [hrun]
      simp
  · rename_i bb hbb
    obtain ⟨ax, cx, rfl, hl1, hl2, hax⟩ := hr
    obtain ⟨cur, ce, k1, k2, k3, k4, k5⟩ := hk.here bb hbb
    rw [hsz] at k2 k5
    by_cases hm0 : m = 0
    · subst hm0
      have hes : (h.view i.size y).1 = [] := List.eq_nil_of_length_eq_zero hm
      obtain ⟨ex, H'⟩ := H.upd (w1 := w) (I' := ⟨g.clk, some bb, i.size, I.cap⟩) (B' := ⟨h.clk, i.size, B.es.take len ++ (h.view i.size y).1, false, B.d⟩) hI rfl H.clk.symm rfl rfl rfl (Nat.le_refl _)
        (fun _ _ _ => rfl) (fun b hb => .inl (by rw [hbb]; exact hb)) hnf rfl rfl hBl (by simp) (fun b hb => by
          simp at hb; subst hb
          refine ⟨cur, ce, k1, k2, by rw [hnew]; simp only; omega, k4, fun q r hq hr => ?_⟩
          simp only [hnew] at hq
          rw [take_getD hle, if_pos (by omega)]
          exact k5 q r (by omega) hr)
      refine ⟨_, _, _, run_append_zero hu hu hs ax len cx hl1 a cap ty, mkref rfl ?_, ex, H'⟩
      exact ⟨ax, cx, rfl, by omega, by simpa using hl2, fun h => by simpa using hax h⟩
    · obtain ⟨rfl, hb⟩ := ha (by omega)
      obtain ⟨r1, r2⟩ := rowOf_cells (m := m) h0 (fun i k hi hk => ⟨(hx i k hi hk).1, (hx i k hi hk).2.1⟩)
      by_cases hroom : len + m ≤ cx
      · -- in place
        obtain rfl := hax (by omega)
        simp only [Nat.zero_mul] at *
        have hfit : len * i.size + (rowOf m i.size xs).length ≤ cur.size := by
          rw [rowOf_len, k2, ← Nat.add_mul]; exact Nat.mul_le_mul_right _ (by omega)
        have hf := run_firstCells_some (P := P) w i.size m ⟨b, o, none⟩ m cap _ (rowOf_len m i.size xs) r1
        have hst := run_storeCells_at P bb (len * i.size) ce _ 0 cur w k1 (by simpa using hfit) r2
        simp only [Nat.add_zero] at hst
        have hrun : (Builtin.append_ #[t, t] ty #[.slice (some ⟨bb, 0, none⟩) len cx, .slice (some ⟨b, o, none⟩) m cap]).run P w =
            .ok (.slice (some ⟨bb, 0, none⟩) (len + m) cx) (w.setRow bb (cur.toList.take (len * i.size) ++ rowOf m i.size xs ++ cur.toList.drop (len * i.size + (rowOf m i.size xs).length)).toArray) := by
          simp [Builtin.append_, run_underlying hu, sizeOf, typeInfo, hi, Builtin.lenOf, hroom, hf, Addr.add_lit, hst]
        obtain ⟨ex, H'⟩ := H.upd (w1 := w.setRow bb (cur.toList.take (len * i.size) ++ rowOf m i.size xs ++ cur.toList.drop (len * i.size + (rowOf m i.size xs).length)).toArray)
          (I' := ⟨g.clk, some bb, i.size, I.cap⟩) (B' := ⟨h.clk, i.size, B.es.take len ++ (h.view i.size y).1, false, B.d⟩) hI rfl H.clk.symm rfl rfl rfl (by simp)
          (fun c _ hc => setRow_other w bb c _ (fun e => hc (e ▸ hbb))) (fun b hb => .inl (by rw [hbb]; exact hb)) hnf rfl rfl hBl (by simp) (fun c hc => by
            simp at hc; subst hc
            refine ⟨_, ce, setRow_heap w bb cur _ ce (0, 0) k1, ?_, by rw [hnew]; simp only; omega, k4, fun q r hq hr => ?_⟩
            · simp only [List.size_toArray, List.length_append, List.length_take, List.length_drop, Array.length_toList]; rw [← k2]; omega
            · simp only [hnew] at hq
              simp only at hr
              dsimp only
              rw [seg_getD _ _ _ _ hfit, rowOf_len, take_getD hle]
              by_cases hql : q < len
              · have := idx_lt (sz := i.size) hql hr
                rw [if_neg (by omega), if_pos hql]
                exact k5 q r (by omega) hr
              · have h5 : len * i.size ≤ q * i.size := Nat.mul_le_mul_right _ (by omega)
                have h6 := idx_lt (sz := i.size) hq hr
                rw [Nat.add_mul] at h6
                rw [if_pos (by omega), if_neg hql]
                have h7 : q * i.size + r - len * i.size = (q - len) * i.size + r := by rw [Nat.sub_mul]; omega
                rw [h7, rowOf_get (by omega) hr]
                exact (hx (q - len) r (by omega) hr).2)
        exact ⟨_, _, _, hrun, mkref (I' := ⟨g.clk, some bb, i.size, I.cap⟩) rfl ⟨_, _, rfl, hroom, by simpa using hl2, fun _ => by simp⟩, ex, H'⟩
      · -- it grows
        have hcur : ∀ q r, q < len → r < i.size → q * i.size + r < cur.size := fun q r hq hr => by rw [k2]; exact Nat.lt_of_lt_of_le (idx_lt hq hr) (Nat.mul_le_mul_right _ (by omega))
        have hls : len * i.size ≤ cur.size := by rw [k2]; exact Nat.mul_le_mul_right _ (by omega)
        have hgetc : ∀ q r, q < len → r < i.size → (cur.toList.take (len * i.size)).getD (q * i.size + r) undef = cur.getD (q * i.size + r) undef := fun q r hq hr => by
          have := idx_lt (sz := i.size) hq hr
          simp [List.getD_eq_getElem?_getD, this]
        obtain ⟨g', e1, e2, e3⟩ := grown (cur.toList.take (len * i.size)) cx (by simp; omega) (by omega) (by omega) (fun q r hq hr => by
          rw [hgetc q r hq hr]; exact k5 q r (by omega) hr) _ rfl _ rfl
        refine ⟨_, _, g', ?_, e1, e2, e3⟩
        by_cases hcx : cx = 0
        · subst hcx
          obtain rfl : len = 0 := by omega
          cases ax with
          | none =>
            have hrun := run_append_nil (P := P) w t ty e i z hu hi hiz ⟨b, o, none⟩ m cap (rowOf m i.size xs) (rowOf_len _ _ _) r1 (by omega) (by omega) (by rw [Nat.zero_add] at h3; omega)
            rw [hrun]; simp
          | some ax =>
            have hrun := run_append_grow (P := P) w t ty e i z hu hi hiz ax 0 0 [] (by simp) (by simp) ⟨b, o, none⟩ m cap (rowOf m i.size xs) (rowOf_len _ _ _) r1 (by omega) (by omega) (growslice_fits (by omega) h3)
            rw [hrun]; simp
        · obtain rfl := hax (by omega)
          simp only [Nat.zero_mul] at *
          have hrun := run_append_grow (P := P) w t ty e i z hu hi hiz ⟨bb, 0, none⟩ len cx (cur.toList.take (len * i.size)) (by simp; omega) (fun q u hq => by
            rw [Addr.add_lit, Nat.zero_add, cell_of_row w bb q cur ce (0, 0) k1]
            rw [List.getElem?_take] at hq
            split at hq
            · simpa using hq
            · cases hq) ⟨b, o, none⟩ m cap (rowOf m i.size xs) (rowOf_len _ _ _) r1 (by omega) (by omega) (growslice_fits (by omega) h3)
          exact hrun

theorem cut_size {a n s : Nat} (h : a + n ≤ s) : min a s + n + (s - (a + n)) = s := by omega

theorem eff_clear {t ty e : TypeId} {sz : Nat} {z : Value} (hu : P.underlying t = some (.slice e)) (hz : zeroOf P e = some z) (hzs : z.cells.size = sz) (hz1 : z.cells.toList.all (·.oneCell') = true)
    (H : HRel g h w w0 own0) {v : Value} {j ver off len : Nat} (hv : VRep g w v (.ref j ver off len)) (h0 : 0 < len) (h00 : 0 < sz)
    (hc : h.cur j ver = true) (hfz : (h.blk j).fz = false) (hsz : (h.blk j).sz = sz) (hle : off + len ≤ (h.blk j).es.length) :
    ∃ w', (Builtin.clear_ #[t] ty #[v]).run P w = .ok (.tuple #[]) w' ∧ Ext g w g w' ∧
      HRel g (h.put j ⟨ver, (h.blk j).sz, (h.blk j).es.take off, false, (h.blk j).d⟩) w' w0 own0 := by
  obtain ⟨B, I, hB, hI, hbl, hBv, hIv, hk⟩ := H.cur hc
  rw [hbl] at hfz hsz hle ⊢
  have hr := hv.inv_ref.2 I hI hIv
  unfold RefOK at hr
  split at hr
  · obtain ⟨_, h, _⟩ := hr; omega
  · rename_i b hb
    obtain ⟨a, cap, rfl, hlc, hoc, ha⟩ := hr
    obtain rfl := ha (by omega)
    obtain ⟨cur, el, k1, k2, k3, k4, k5⟩ := hk.here b hb
    have hIs : I.sz = sz := hk.sz.trans hsz
    rw [hIs]
    have hlen : (Builtin.zeroCells z.cells len).toList.length = len * sz := by rw [Array.length_toList, size_zeroCells, hzs]
    have hfit : off * sz + len * sz ≤ cur.size := by
      rw [k2, hsz, ← Nat.add_mul]
      exact Nat.mul_le_mul_right _ (by omega)
    have hone : ∀ u ∈ (Builtin.zeroCells z.cells len).toList, u.oneCell' = true := fun u hu => by
      obtain ⟨i, hi, rfl⟩ := List.mem_iff_getElem.1 hu
      have hi' : i < len * sz := by rw [hlen] at hi; exact hi
      have hm : i % z.cells.size < z.cells.size := Nat.mod_lt _ (by omega)
      have e1 : (Builtin.zeroCells z.cells len).toList[i] = z.cells[i % z.cells.size] := by
        simp [Builtin.zeroCells, hm]
      rw [e1]
      exact List.all_eq_true.1 hz1 _ (by simp)
    have hst := run_storeCells_at P b (off * sz) el (Builtin.zeroCells z.cells len).toList 0 cur w k1 (by rw [hlen]; simpa using hfit) hone
    simp only [Nat.add_zero] at hst
    have hrun : (Builtin.clear_ #[t] ty #[.slice (some ⟨b, off * sz, none⟩) len cap]).run P w = .ok (.tuple #[]) (w.setRow b (cur.toList.take (off * sz) ++ (Builtin.zeroCells z.cells len).toList ++ cur.toList.drop (off * sz + (Builtin.zeroCells z.cells len).toList.length)).toArray) := by
      obtain ⟨m, rfl⟩ : ∃ m, len = m + 1 := ⟨len - 1, by omega⟩
      simp only [Array.length_toList, List.append_assoc] at hst
      simp [Builtin.clear_, run_underlying hu, run_zeroValue hz]
      rw [hst]; rfl
    obtain ⟨ex, H'⟩ := H.write (w1 := w.setRow b (cur.toList.take (off * sz) ++ (Builtin.zeroCells z.cells len).toList ++ cur.toList.drop (off * sz + (Builtin.zeroCells z.cells len).toList.length)).toArray)
      (B' := ⟨ver, B.sz, B.es.take off, false, B.d⟩) hI hb hIv.symm rfl rfl rfl (by simp) (fun c hc => setRow_other w b c _ hc) (hk.nf b hb hfz) rfl hk.sz (fun x hx => hk.len x (List.mem_of_mem_take hx)) ⟨_, el, setRow_heap w b cur _ el (0, 0) k1, by
        simp only [List.size_toArray, List.length_append, List.length_take, List.length_drop, Array.length_toList, size_zeroCells]; rw [← k2]; rw [hzs]; exact cut_size hfit, by simp only [List.length_take]; omega, k4, fun q r hq hr => by
        simp only [List.length_take] at hq
        dsimp only at hr ⊢
        have hqr : q * B.sz + r < off * sz := by
          rw [hsz] at hr ⊢
          have : (q + 1) * sz ≤ off * sz := Nat.mul_le_mul_right _ (by omega)
          rw [Nat.succ_mul] at this; omega
        rw [seg_getD _ _ _ _ (by rw [hlen]; exact hfit), if_neg (by omega)]
        have hes : (B.es.take off).getD q [] = B.es.getD q [] := by
          rw [List.getD_eq_getElem?_getD, List.getElem?_take, if_pos (by omega), ← List.getD_eq_getElem?_getD]
        rw [hes]
        exact k5 q r (by omega) hr⟩
    exact ⟨_, hrun, ex, H'⟩
end
end Go.Sx
