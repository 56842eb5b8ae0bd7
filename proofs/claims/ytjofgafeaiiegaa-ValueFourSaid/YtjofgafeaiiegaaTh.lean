/- What stood still may be written again, once nothing that is known rests on it. -/
import Derived.Test.YtjofgafeaiiegaaE4
set_option linter.unusedSimpArgs false
set_option linter.unusedVariables false
namespace Go.Sx

theorem PCall.ofT {P : Program} (T : Orc P) {f : FuncId} {fc : FnC} (hf : compF P f = some fc) {args : List V} {r : V} (hn : args.length ≤ fc.n)
    (hw : ∀ (w0 : World) (own0 : Own), (∀ b, own0.g.F b → b < w0.heap.size) → (∀ b, ¬ own0.o b) → wpC ⟨P, T, fc.n, w0, own0⟩ fc.body (retQ fc.rs fun v h => res (fun _ => true) h 12 v = some r) (initE args) ⟨[], 0⟩) : PCall P f args r := by
  refine ⟨(compF_ok hf).1, fun F w cargs hF hs hv => ?_⟩
  have H : HRel ⟨F, [], fun _ _ => False⟩ ⟨[], 0⟩ w w ⟨fun _ => False, F, ⟨F, [], fun _ _ => False⟩, []⟩ := by
    refine ⟨fun _ _ h => h.elim, rfl, by simp, by simp, by simp, hF, by simp, Frm.refl _ _, fun b hb => .inl hb, Ext.refl _ _⟩
  refine (calls_of T rfl hf hn (hw w _ hF fun _ h => h) H hs fun i hi => .p _ _ (hv i hi)).mono fun e w' he => ?_
  obtain ⟨g', h', cv, v, rfl, H', hv', hr⟩ := he
  have hg : Grow w w' := ⟨H'.frm.os, H'.frm.tape, H'.frm.output, H'.frm.size, fun b hb => H'.frm.block b hb (by simp)⟩
  refine ⟨cv, rfl, hg, (res_ok H' 12 hv' hr).mono (fun b hb => ?_) (fun _ _ => rfl)⟩
  rcases hb with hb | ⟨j, I, hI, hIb, _⟩
  · rcases H'.fin b hb with h | h | h
    · exact .inl h
    · exact h.elim
    · exact .inr ⟨h, H'.Flt b hb⟩
  · rcases H'.own j I b hI hIb with h | h
    · exact h.elim
    · exact .inr ⟨h, H'.blt hI hIb⟩
/-- What rests on no memory that stands still. -/
def V.loc : V → Bool
  | .any => true
  | .c _ => true
  | .ref .. => true
  | .ptr .. => true
  | .agg cs => cs.all V.isC
  | _ => false
theorem VRep.loc {g g' : Gh} {w : World} (hinf : g'.inf = g.inf) (hus : g'.us = g.us) {v : Value} {x : V} (hx : x.loc = true) (h : VRep g w v x) : VRep g' w v x := by
  cases x with
  | any => exact .p _ _ (.any v)
  | c u => rw [h.inv_c]; exact VRep.c' u
  | ref j ver off len =>
    obtain ⟨h1, h2⟩ := h.inv_ref
    exact .ref j ver off len v (by rw [hus]; exact h1) fun I hI hver => h2 I (by rw [← hinf]; exact hI) hver
  | ptr j ver i o =>
    obtain ⟨h1, h2⟩ := h.inv_ptr
    exact .ptr j ver i o v (by rw [hus]; exact h1) fun I hI hver => h2 I (by rw [← hinf]; exact hI) hver
  | agg cs =>
    obtain ⟨vs, rfl, h1, h2, h3⟩ := h.inv_agg
    refine .agg vs cs h1 h2 fun i hi => ?_
    have h4 := h3 i hi
    have h5 : (cs.getD i .any).isC = true := by
      rw [List.getD_eq_getElem?_getD, List.getElem?_eq_getElem hi]
      exact List.all_eq_true.1 hx _ (List.getElem_mem _)
    rw [V.isC_ok h5] at h4 ⊢
    rw [h4.inv_c]
    exact VRep.c' _
  | tup vs => cases hx
  | slc sz es => cases hx
  | pp cs => cases hx
  | fn f caps => cases hx
  | gd b x => cases hx
  | mp ks vs => cases hx
def Heap.thaw (h : Heap) : Heap := ⟨h.bs.map fun B => ⟨B.ver, B.sz, B.es, false, B.d⟩, h.clk⟩
theorem Weak.thaw {cx : Cx} {e : Nat → V} {h : Heap} (hb1 : ∀ b, cx.own0.g.F b → b < cx.w0.heap.size) (hb2 : ∀ b, ¬ cx.own0.o b)
    (he : ∀ i, (e i).loc = true) (hh : ∀ B ∈ h.bs, ∀ es ∈ B.es, ∀ x ∈ es, x.loc = true) : Weak cx e h e h.thaw := fun g a w R => by
  have H := R.heap
  let g' : Gh := ⟨fun b => g.F b ∧ ∀ (j : Nat) (I : Inf), g.inf[j]? = some I → I.blk ≠ some b, g.inf, g.us⟩
  have hcell : ∀ {b cap : Nat} {B : Blk}, B ∈ h.bs → (∀ x ∈ B.es, x.length = B.sz) → CellsOK g w b cap B → CellsOK g' w b cap ⟨B.ver, B.sz, B.es, false, B.d⟩ := fun {b cap B} hB hlen hc => by
    obtain ⟨cur, el, h1, h2, h3, h4, h5⟩ := hc
    refine ⟨cur, el, h1, h2, h3, h4, fun i k hi hk => ⟨(h5 i k hi hk).1, VRep.loc (g := g) (g' := g') rfl rfl ?_ (h5 i k hi hk).2⟩⟩
    have hi' : i < B.es.length := hi
    have hk' : k < B.sz := hk
    have hm : B.es.getD i [] ∈ B.es := by rw [List.getD_eq_getElem?_getD, List.getElem?_eq_getElem hi']; exact List.getElem_mem _
    have hl := hlen _ hm
    refine hh B hB _ hm _ ?_
    show (B.es.getD i []).getD k .any ∈ B.es.getD i []
    generalize B.es.getD i [] = es at *
    rw [List.getD_eq_getElem?_getD, List.getElem?_eq_getElem (by omega)]; exact List.getElem_mem _
  refine ⟨g', R.size, fun i => VRep.loc (g := g) (g' := g') rfl rfl (he i) (R.tm i), ?_, ?_⟩
  · obtain ⟨m, hm, hd⟩ := R.defers
    refine ⟨m, hm, ?_⟩
    clear hm
    induction m with
    | nil => trivial
    | cons d m ih =>
      obtain ⟨⟨D, a1, b1, c1, d1, e1⟩, r1⟩ := hd
      refine ⟨⟨D, a1, b1, ⟨c1, fun j I hI hIb => ?_⟩, d1, e1⟩, ih r1⟩
      have hj : j < h.bs.length := by rw [← H.len]; exact (List.getElem?_eq_some_iff.1 hI).1
      obtain ⟨cur, el, hc, _⟩ := (H.ok j _ I (List.getElem?_eq_getElem hj) hI).here D hIb
      obtain ⟨mm, hc, _⟩ := hc
      rw [d1] at hc; cases hc
  · refine ⟨H.clk, by simp [Heap.thaw, H.len, g'], fun j B' I hB' hI => ?_, H.vlt, H.dist, fun b hb => H.Flt b hb.1, H.own, H.frm, fun b hb => H.fin b hb.1, ?_⟩
    · simp only [Heap.thaw, List.getElem?_map, Option.map_eq_some_iff] at hB'
      obtain ⟨B, hB, rfl⟩ := hB'
      have hk := H.ok j B I hB hI
      exact ⟨hk.ver, hk.sz, hk.len, hk.gone, fun b hb => hcell (List.mem_of_getElem? hB) hk.len (hk.here b hb), fun b hb hf => (by cases hf), fun b hb _ hF => hF.2 j I hI hb⟩
    · refine ⟨⟨fun b hb => ⟨H.ext.F b hb, fun j I hI hIb => ?_⟩, H.ext.same, H.ext.us, H.ext.inf⟩, H.ext.up⟩
      rcases H.own j I b hI hIb with h1 | h1
      · exact hb2 b h1
      · have := hb1 b hb; omega
theorem ev_loc {st : List (Nat × V)} (hl : ∀ p ∈ st, p.2.loc = true) (i : Nat) : (ev st i).loc = true := by
  induction st with
  | nil => rfl
  | cons p st ih =>
    obtain ⟨j, v⟩ := p
    rw [ev_cons]
    split
    · exact hl (j, v) (by simp)
    · exact ih fun q hq => hl q (by simp [hq])
theorem St.thaw {cx : Cx} {st : List (Nat × V)} {hp0 hp : Heap} {e : Nat → V} {h : Heap} (hb1 : ∀ b, cx.own0.g.F b → b < cx.w0.heap.size) (hb2 : ∀ b, ¬ cx.own0.o b)
    (hl : ∀ p ∈ st, p.2.loc = true) (s : St cx st hp0 e h) (hh : ∀ B ∈ hp0.bs, ∀ es ∈ B.es, ∀ x ∈ es, x.loc = true) (ht : hp0.thaw = hp) : St cx st hp e h :=
  ht ▸ Weak.trans s (Weak.thaw hb1 hb2 (ev_loc hl) hh)
end Go.Sx
