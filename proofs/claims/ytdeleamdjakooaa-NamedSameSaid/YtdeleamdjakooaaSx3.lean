/- What the abstract values say of values in memory. -/
import Derived.Test.YtdeleamdjakooaaSx2
namespace Go.Sx
section
variable {g : Gh} {w w0 : World} {own0 : Own} {h : Heap} {v : Value}

theorem VRep.inv_c {u : Value} (h : VRep g w v (.c u)) : v = u := by
  cases h with | p _ _ h => cases h; rfl
theorem VRep.inv_slc {sz : Nat} {es : List (List V)} (h : VRep g w v (.slc sz es)) : PRep g.F w v (.slc sz es) := by
  cases h with | p _ _ h => exact h
theorem VRep.inv_pp {cs : List V} (h : VRep g w v (.pp cs)) : PRep g.F w v (.pp cs) := by
  cases h with | p _ _ h => exact h
theorem VRep.inv_ref {j ver off len : Nat} (h : VRep g w v (.ref j ver off len)) : ver < g.clk ∧ ∀ I, g.inf[j]? = some I → I.ver = ver → RefOK I off len v := by
  cases h with
  | p _ _ h => cases h
  | ref _ _ _ _ _ hv h => exact ⟨hv, h⟩
theorem VRep.inv_ptr {j ver i o : Nat} (h : VRep g w v (.ptr j ver i o)) : ver < g.clk ∧ ∀ I, g.inf[j]? = some I → I.ver = ver → PtrOK I i o v := by
  cases h with
  | p _ _ h => cases h
  | ptr _ _ _ _ _ hv h => exact ⟨hv, h⟩
theorem VRep.inv_agg {xs : List V} (h : VRep g w v (.agg xs)) : ∃ cs : Array Value, v = .agg cs ∧ cs.size = xs.length ∧ (∀ i, i < xs.length → (cs.getD i undef).oneCell' = true) ∧ ∀ i, i < xs.length → VRep g w (cs.getD i undef) (xs.getD i .any) := by
  cases h with
  | p _ _ h => cases h with | agg cs _ hl h1 h => exact ⟨cs, rfl, hl, h1, fun i hi => .p _ _ (h i hi)⟩
  | agg cs _ hl h1 h => exact ⟨cs, rfl, hl, h1, h⟩
theorem VRep.inv_tup {xs : List V} (h : VRep g w v (.tup xs)) : ∃ cs : Array Value, v = .tuple cs ∧ cs.size = xs.length ∧ ∀ i, i < xs.length → VRep g w (cs.getD i undef) (xs.getD i .any) := by
  cases h with
  | p _ _ h => cases h with | tup cs _ hl h => exact ⟨cs, rfl, hl, fun i hi => .p _ _ (h i hi)⟩
  | tup cs _ hl h => exact ⟨cs, rfl, hl, h⟩
theorem VRep.inv_fn {f : FuncId} {caps : List V} (h : VRep g w v (.fn f caps)) : ∃ cs : Array Value, v = .func (.func f) #[] cs ∧ cs.size = caps.length ∧ ∀ i, i < caps.length → VRep g w (cs.getD i undef) (caps.getD i .any) := by
  cases h with
  | p _ _ h => cases h with | fn _ _ cs hl h => exact ⟨cs, rfl, hl, fun i hi => .p _ _ (h i hi)⟩
  | fn _ _ cs hl h => exact ⟨cs, rfl, hl, h⟩
theorem VRep.any (v : Value) : VRep g w v .any := .p _ _ (.any v)
theorem VRep.c' (v : Value) : VRep g w v (.c v) := .p _ _ (.c v)
theorem VRep.of_eq {v u : Value} (h : v = u) : VRep g w v (.c u) := h ▸ .c' v
theorem VRep.un {x : V} (h : VRep g w v x) : x.gok = true → VRep g w v x.un := by
  induction h with
  | p v x h => intro _; rw [show x.un = x by cases h <;> simp only [V.un]]; exact .p _ _ h
  | agg cs xs hl h1 h => intro _; exact .agg cs xs hl h1 h
  | tup cs xs hl h => intro _; exact .tup cs xs hl h
  | fn f caps cs hl h => intro _; exact .fn f caps cs hl h
  | ref j ver off len v hv h => intro _; exact .ref j ver off len v hv h
  | ptr j ver i o v hv h => intro _; exact .ptr j ver i o v hv h
  | gd b x v h _ ih =>
    intro hg
    simp only [V.gok, Bool.and_eq_true] at hg
    exact ih hg.1 hg.2
/-- What a guard has passed over holds nothing. -/
theorem VRep.dead {x : V} (h : VRep g w v x) : x.gok = false → v = undef := by
  induction h with
  | p v x h => intro hg; cases h <;> simp [V.gok] at hg
  | gd b x v _ h0 ih =>
    intro hg
    cases b with
    | false => exact h0 rfl
    | true => exact ih rfl (by simpa [V.gok] using hg)
  | _ => intro hg; simp [V.gok] at hg

/-- The one block of memory behind a number of the abstract heap. -/
theorem HRel.cur (H : HRel g h w w0 own0) {j ver : Nat} (hc : h.cur j ver = true) : ∃ B I, h.bs[j]? = some B ∧ g.inf[j]? = some I ∧ h.blk j = B ∧ B.ver = ver ∧ I.ver = ver ∧ BOK g w B I := by
  unfold Heap.cur at hc
  split at hc
  · rename_i B hB
    have hj : j < g.inf.length := by rw [H.len]; exact (List.getElem?_eq_some_iff.1 hB).1
    have hk := H.ok j B _ hB (List.getElem?_eq_getElem hj)
    have hv : B.ver = ver := by simpa using hc
    exact ⟨B, _, hB, List.getElem?_eq_getElem hj, by simp [Heap.blk, hB], hv, hk.ver.trans hv, hk⟩
  · cases hc

theorem getD_one {cur : Array Value} {i : Nat} (h1 : i < cur.size) : cur[i]? = some (cur.getD i undef) := by simp [h1]
theorem getD_irr {es : List (List V)} {i : Nat} (h : i < es.length) (d : List V) : es.getD i d = es.getD i [] := by simp [List.getD_eq_getElem?_getD, h]
theorem idx_lt {i k sz n : Nat} (hi : i < n) (hk : k < sz) : i * sz + k < n * sz :=
  Nat.lt_of_lt_of_le (Nat.add_lt_add_left hk _) (by rw [← Nat.succ_mul]; exact Nat.mul_le_mul_right _ hi)

/-- An own block's cells. -/
theorem CellsOK.cell {b cap : Nat} {B : Blk} (hc : CellsOK g w b cap B) : ∃ xs : Nat → Nat → Value, ∀ i k, i < B.es.length → k < B.sz →
    w.cell? ⟨b, i * B.sz + k, none⟩ = some (xs i k) ∧ (xs i k).oneCell' = true ∧ VRep g w (xs i k) ((B.es.getD i []).getD k .any) := by
  obtain ⟨cur, e, h1, h2, h3, h4, h5⟩ := hc
  refine ⟨fun i k => cur.getD (i * B.sz + k) undef, fun i k hi hk => ⟨?_, h5 i k hi hk⟩⟩
  rw [cell_of_row w b _ cur e (0, 0) h1]
  exact getD_one (by rw [h2]; exact Nat.lt_of_lt_of_le (idx_lt hi hk) (Nat.mul_le_mul_right _ h3))
theorem CellsOK.lt {b cap : Nat} {B : Blk} (hc : CellsOK g w b cap B) : b < w.heap.size := by
  obtain ⟨cur, e, h1, _⟩ := hc
  exact (Array.getElem?_eq_some_iff.1 h1).1

theorem cells_ok (H : HRel g h w w0 own0) {x : V} (hv : VRep g w v x) (hc : (h.cells x).2 = true) :
    ∃ b o, ∃ xs : Nat → Value, v = .pointer (some ⟨b, o, none⟩) ∧ b < w.heap.size ∧ ∀ k, k < (h.cells x).1.length →
      w.cell? ⟨b, o + k, none⟩ = some (xs k) ∧ (xs k).oneCell' = true ∧ VRep g w (xs k) ((h.cells x).1.getD k .any) := by
  cases x with
  | pp cs =>
    have hp := hv.inv_pp
    cases hp with
    | pp b o _ xs hF hx hr => exact ⟨b, o, xs, rfl, H.Flt b hF, fun k hk => ⟨(hx k hk).1, (hx k hk).2, .p _ _ (hr k hk)⟩⟩
  | ptr j ver i o =>
    simp only [Heap.cells, Bool.and_eq_true, decide_eq_true_eq] at hc
    obtain ⟨B, I, hB, hI, hbl, hBv, hIv, hk⟩ := H.cur hc.1
    obtain ⟨_, hp⟩ := hv.inv_ptr
    obtain ⟨b, hb, rfl⟩ := hp I hI hIv
    obtain ⟨xs, hxs⟩ := (hk.here b hb).cell
    rw [hbl] at hc
    have hd := getD_irr hc.2 B.d
    have hlen : (B.es.getD i []).length = B.sz := hk.len _ (by rw [List.getD_eq_getElem?_getD, List.getElem?_eq_getElem hc.2]; exact List.getElem_mem _)
    refine ⟨b, i * I.sz + o, fun k => xs i (o + k), rfl, (hk.here b hb).lt, fun k hk' => ?_⟩
    simp only [Heap.cells, hbl, hd, List.length_drop, hlen] at hk'
    have := hxs i (o + k) hc.2 (by omega)
    rw [hk.sz, Nat.add_assoc]
    refine ⟨this.1, this.2.1, ?_⟩
    simp only [Heap.cells, hbl, hd, List.getD_eq_getElem?_getD, List.getElem?_drop]
    simpa [List.getD_eq_getElem?_getD] using this.2.2
  | _ => simp [Heap.cells] at hc

theorem view_ok (H : HRel g h w w0 own0) {sz : Nat} {x : V} (hv : VRep g w v x) (hc : (h.view sz x).2 = true) :
    ∃ a cap b o, ∃ xs : Nat → Nat → Value, v = .slice a (h.view sz x).1.length cap ∧ (h.view sz x).1.length ≤ cap ∧ (∀ e ∈ (h.view sz x).1, e.length = sz) ∧
      (0 < (h.view sz x).1.length → a = some ⟨b, o, none⟩ ∧ b < w.heap.size) ∧
      ∀ i k, i < (h.view sz x).1.length → k < sz → w.cell? ⟨b, o + (i * sz + k), none⟩ = some (xs i k) ∧ (xs i k).oneCell' = true ∧ VRep g w (xs i k) (((h.view sz x).1.getD i []).getD k .any) := by
  unfold Heap.view at hc ⊢
  split at hc
  · rename_i sz' es
    have hs : sz' = sz := by simpa using hc
    subst hs
    have hp := hv.inv_slc
    cases hp with
    | slc a n cap _ _ b o xs hn hcap hsz ha hx hr =>
      subst hn
      exact ⟨a, cap, b, o, xs, rfl, hcap, hsz, fun h => ⟨(ha h).1, H.Flt _ (ha h).2⟩, fun i k hi hk => ⟨(hx i k hi hk).1, (hx i k hi hk).2, .p _ _ (hr i k hi hk)⟩⟩
  · have := hv.inv_c
    subst this
    exact ⟨none, 0, 0, 0, fun _ _ => undef, rfl, Nat.le_refl _, by simp, by simp, by simp⟩
  · rename_i j ver off len
    simp only [Bool.and_eq_true, decide_eq_true_eq, beq_iff_eq] at hc
    obtain ⟨B, I, hB, hI, hbl, hBv, hIv, hk⟩ := H.cur hc.1.1
    obtain ⟨_, hp⟩ := hv.inv_ref
    have hr := hp I hI hIv
    simp only [hbl] at hc ⊢
    have hlen : ((B.es.drop off).take len).length = len := by simp; omega
    rw [hlen]
    unfold RefOK at hr
    split at hr
    · rename_i hb
      obtain ⟨rfl, rfl, rfl⟩ := hr
      exact ⟨none, 0, 0, 0, fun _ _ => undef, rfl, Nat.le_refl _, by simp, by simp, by simp⟩
    · rename_i b hb
      obtain ⟨a, cap, rfl, h1, h2, h3⟩ := hr
      obtain ⟨xs, hxs⟩ := (hk.here b hb).cell
      refine ⟨a, cap, b, off * I.sz, fun i k => xs (off + i) k, rfl, h1, fun e he => ?_, fun h0 => ⟨h3 (by omega), (hk.here b hb).lt⟩, fun i k hi hk' => ?_⟩
      · rw [← hc.1.2]; exact hk.len e (List.mem_of_mem_drop (List.mem_of_mem_take he))
      · have := hxs (off + i) k (by omega) (by omega)
        rw [hk.sz, hc.1.2, show off * sz + (i * sz + k) = (off + i) * sz + k by rw [Nat.add_mul]; omega]
        rw [hc.1.2] at this
        refine ⟨this.1, this.2.1, ?_⟩
        have e : ((B.es.drop off).take len).getD i [] = B.es.getD (off + i) [] := by
          simp [List.getD_eq_getElem?_getD, hi]
        rw [e]; exact this.2.2
  · cases hc

theorem isOne_ok (H : HRel g h w w0 own0) {x : V} (hv : VRep g w v x) (hc : h.isOne x = true) : v.oneCell' = true := by
  cases x with
  | c u => rw [hv.inv_c]; exact hc
  | slc sz es => cases hv.inv_slc; rfl
  | pp cs => cases hv.inv_pp; rfl
  | fn f caps => obtain ⟨cs, rfl, _⟩ := hv.inv_fn; rfl
  | ref j ver off len =>
    obtain ⟨B, I, hB, hI, hbl, hBv, hIv, hk⟩ := H.cur hc
    have hr := hv.inv_ref.2 I hI hIv
    unfold RefOK at hr
    split at hr
    · rw [hr.1]; rfl
    · obtain ⟨a, cap, rfl, _⟩ := hr; rfl
  | ptr j ver i o =>
    obtain ⟨B, I, hB, hI, hbl, hBv, hIv, hk⟩ := H.cur hc
    obtain ⟨b, _, rfl⟩ := hv.inv_ptr.2 I hI hIv
    rfl
  | _ => simp [Heap.isOne] at hc

/-- The cells of a struct's value. -/
theorem cellsOf_ok {x : V} (hv : VRep g w v x) (hn : 0 < (cellsOf true x).length) :
    ∃ cs : Array Value, v = .agg cs ∧ cs.size = (cellsOf true x).length ∧ ∀ i, i < (cellsOf true x).length → VRep g w (cs.getD i undef) ((cellsOf true x).getD i .any) := by
  unfold cellsOf at hn ⊢
  split at hn
  · obtain ⟨cs, rfl, h1, _, h3⟩ := hv.inv_agg
    exact ⟨cs, rfl, h1, h3⟩
  · rename_i cs hx
    have := hv.inv_c
    subst this
    refine ⟨cs, rfl, by simp, fun i hi => ?_⟩
    have hi' : i < cs.size := by simpa using hi
    simp [List.getD_eq_getElem?_getD, hi']
    exact VRep.c' _
  · simp at hn
  · rename_i hx; cases hx
theorem VRep.mkagg {cs : Array Value} {xs : List V} (hl : cs.size = xs.length) (h1 : ∀ i, i < xs.length → (cs.getD i undef).oneCell' = true) (h : ∀ i, i < xs.length → VRep g w (cs.getD i undef) (xs.getD i .any)) : VRep g w (.agg cs) (.agg xs) :=
  .agg cs xs hl h1 h
end
end Go.Sx
