/- New blocks, and blocks that are written. -/
import Derived.Test.YtdeleamdjakooaaSxA
namespace Go.Sx
section
variable {P : Program} {g : Gh} {w w0 w1 : World} {own0 : Own} {h : Heap}

/-- A new block of the run's own. -/
theorem HRel.new (H : HRel g h w w0 own0) (hg : Grow w w1) {I : Inf} {sz : Nat} {d : List V} {es : List (List V)} (hv : I.ver = g.clk) (hsz : I.sz = sz)
    (hblk : ∀ b, I.blk = some b → w.heap.size ≤ b) (hlen : ∀ e ∈ es, e.length = sz) (hgone : I.blk = none → es = [])
    (hcell : ∀ b, I.blk = some b → ∃ cur e, w1.heap[b]? = some (.cells cur e (0, 0)) ∧ cur.size = I.cap * sz ∧ es.length ≤ I.cap ∧ I.cap ≤ maxLen ∧
      ∀ i k, i < es.length → k < sz → (cur.getD (i * sz + k) undef).oneCell' = true ∧ VRep g w (cur.getD (i * sz + k) undef) ((es.getD i []).getD k .any)) :
    Ext g w ⟨g.F, g.inf ++ [I], g.clk + 1⟩ w1 ∧ HRel ⟨g.F, g.inf ++ [I], g.clk + 1⟩ (h.alloc sz d es) w1 w0 own0 := by
  have ex : Ext g w ⟨g.F, g.inf ++ [I], g.clk + 1⟩ w1 := by
    refine ⟨fun _ h => h, fun b hb => hg.block b (H.Flt b hb), Nat.le_succ _, fun j J hJ hlt => ?_⟩
    simp only at hJ
    rcases Nat.lt_or_ge j g.inf.length with hj | hj
    · rwa [List.getElem?_append_left hj] at hJ
    · rw [List.getElem?_append_right hj] at hJ
      cases hjj : j - g.inf.length with
      | zero => rw [hjj] at hJ; simp at hJ; subst hJ; omega
      | succ n => rw [hjj] at hJ; simp at hJ
  have hcases : ∀ (j : Nat) (J : Inf), (g.inf ++ [I])[j]? = some J → g.inf[j]? = some J ∨ (j = g.inf.length ∧ J = I) := by
    intro j J hJ
    rcases Nat.lt_or_ge j g.inf.length with hj | hj
    · left; rwa [List.getElem?_append_left hj] at hJ
    · right
      rw [List.getElem?_append_right hj] at hJ
      cases hjj : j - g.inf.length with
      | zero => rw [hjj] at hJ; simp at hJ; exact ⟨by omega, hJ.symm⟩
      | succ n => rw [hjj] at hJ; simp at hJ
  refine ⟨ex, ⟨by simp [Heap.alloc, H.clk], by simp [Heap.alloc, H.len], fun j B J hB hJ => ?_, fun j J hJ => ?_, fun j k J K b hJ hK hJb hKb => ?_, fun b hb => Nat.lt_of_lt_of_le (H.Flt b hb) hg.size, fun j J b hJ hJb => ?_, H.frm.grow hg, H.fin, H.ext.trans ex⟩⟩
  · simp only [Heap.alloc] at hB
    rcases hcases j J hJ with hJ | ⟨rfl, rfl⟩
    · have hj : j < h.bs.length := by rw [← H.len]; exact (List.getElem?_eq_some_iff.1 hJ).1
      rw [List.getElem?_append_left hj] at hB
      have hk := H.ok j B J hB hJ
      exact ⟨hk.ver, hk.sz, hk.len, hk.gone, fun b hb => (hk.here b hb).mono ex (hg.block b (H.blt hJ hb)), hk.fz, hk.nf⟩
    · rw [H.len, List.getElem?_append_right (Nat.le_refl _)] at hB
      simp at hB
      subst hB
      refine ⟨hv.trans H.clk, hsz, hlen, hgone, fun b hb => ?_, fun b hb hf => by simp at hf, fun b hb _ hF => ?_⟩
      · obtain ⟨cur, e, h1, h2, h3, h4, h5⟩ := hcell b hb
        exact ⟨cur, e, h1, h2, h3, h4, fun i k hi hk => ⟨(h5 i k hi hk).1, (h5 i k hi hk).2.mono ex⟩⟩
      · have := H.Flt b hF
        have := hblk b hb
        omega
  · rcases hcases j J hJ with hJ | ⟨_, rfl⟩
    · exact Nat.lt_succ_of_lt (H.vlt j J hJ)
    · simp only; omega
  · rcases hcases j J hJ with hJ1 | ⟨rfl, rfl⟩ <;> rcases hcases k K hK with hK1 | ⟨rfl, rfl⟩
    · exact H.dist j k J K b hJ1 hK1 hJb hKb
    · have := H.blt hJ1 hJb; have := hblk b hKb; omega
    · have := H.blt hK1 hKb; have := hblk b hJb; omega
    · rfl
  · rcases hcases j J hJ with hJ | ⟨_, rfl⟩
    · exact H.own j J b hJ hJb
    · exact .inr (Nat.le_trans H.frm.size (hblk b hJb))

/-- One block of the run's own is written, or laid anew elsewhere; a new version of it. -/
theorem HRel.upd (H : HRel g h w w0 own0) {j : Nat} {I I' : Inf} {B' : Blk} (hI : g.inf[j]? = some I) (hv : I'.ver = g.clk) (hBv : B'.ver = g.clk)
    (hos : w1.os = w.os) (htape : w1.tape = w.tape) (hout : w1.output = w.output) (hsize : w.heap.size ≤ w1.heap.size)
    (hsame : ∀ b, b < w.heap.size → I.blk ≠ some b → w1.heap[b]? = w.heap[b]?)
    (hblk : ∀ b, I'.blk = some b → I.blk = some b ∨ w.heap.size ≤ b)
    (hnf : ∀ b, I.blk = some b → ¬ g.F b)
    (hfz : B'.fz = false)
    (hsz : I'.sz = B'.sz) (hlen : ∀ e ∈ B'.es, e.length = B'.sz) (hgone : I'.blk = none → B'.es = [])
    (hcell : ∀ b, I'.blk = some b → ∃ cur e, w1.heap[b]? = some (.cells cur e (0, 0)) ∧ cur.size = I'.cap * B'.sz ∧ B'.es.length ≤ I'.cap ∧ I'.cap ≤ maxLen ∧
      ∀ i k, i < B'.es.length → k < B'.sz → (cur.getD (i * B'.sz + k) undef).oneCell' = true ∧ VRep g w (cur.getD (i * B'.sz + k) undef) ((B'.es.getD i []).getD k .any)) :
    Ext g w ⟨g.F, g.inf.set j I', g.clk + 1⟩ w1 ∧ HRel ⟨g.F, g.inf.set j I', g.clk + 1⟩ ⟨h.bs.set j B', h.clk + 1⟩ w1 w0 own0 := by
  have hjlt : j < g.inf.length := (List.getElem?_eq_some_iff.1 hI).1
  have hFsame : ∀ b, g.F b → w1.heap[b]? = w.heap[b]? := fun b hb => hsame b (H.Flt b hb) fun hb' => hnf b hb' hb
  have hcases : ∀ (k : Nat) (K : Inf), (g.inf.set j I')[k]? = some K → (k = j ∧ K = I') ∨ (k ≠ j ∧ g.inf[k]? = some K) := by
    intro k K hK
    by_cases hkj : k = j
    · subst hkj; rw [List.getElem?_set_self hjlt] at hK; exact .inl ⟨rfl, (Option.some.inj hK).symm⟩
    · rw [List.getElem?_set_ne (Ne.symm hkj)] at hK; exact .inr ⟨hkj, hK⟩
  have ex : Ext g w ⟨g.F, g.inf.set j I', g.clk + 1⟩ w1 := by
    refine ⟨fun _ h => h, hFsame, Nat.le_succ _, fun k K hK hlt => ?_⟩
    rcases hcases k K hK with ⟨rfl, rfl⟩ | ⟨_, hK⟩
    · omega
    · exact hK
  have hother : ∀ k K b, k ≠ j → g.inf[k]? = some K → K.blk = some b → w1.heap[b]? = w.heap[b]? := fun k K b hkj hK hb =>
    hsame b (H.blt hK hb) fun hb' => hkj (H.dist k j K I b hK hI hb hb')
  refine ⟨ex, ⟨by simp [H.clk], by simp [H.len], fun k B K hB hK => ?_, fun k K hK => ?_, fun k l K L b hK hL hKb hLb => ?_, fun b hb => Nat.lt_of_lt_of_le (H.Flt b hb) hsize, fun k K b hK hKb => ?_, ?_, H.fin, H.ext.trans ex⟩⟩
  · rcases hcases k K hK with ⟨rfl, rfl⟩ | ⟨hkj, hK⟩
    · have hb' : k < h.bs.length := by rw [← H.len]; exact hjlt
      simp only [List.getElem?_set_self hb'] at hB
      obtain rfl := Option.some.inj hB
      refine ⟨hv.trans hBv.symm, hsz, hlen, hgone, fun b hb => ?_, fun b hb hf => (by rw [hfz] at hf; cases hf), fun b hb _ hF => ?_⟩
      · obtain ⟨cur, e, h1, h2, h3, h4, h5⟩ := hcell b hb
        exact ⟨cur, e, h1, h2, h3, h4, fun i k hi hk => ⟨(h5 i k hi hk).1, (h5 i k hi hk).2.mono ex⟩⟩
      · rcases hblk b hb with hb | hb
        · exact hnf b hb hF
        · have := H.Flt b hF; omega
    · simp only [List.getElem?_set_ne (Ne.symm hkj)] at hB
      have hk := H.ok k B K hB hK
      exact ⟨hk.ver, hk.sz, hk.len, hk.gone, fun b hb => (hk.here b hb).mono ex (hother k K b hkj hK hb), hk.fz, hk.nf⟩
  · rcases hcases k K hK with ⟨rfl, rfl⟩ | ⟨_, hK⟩
    · simp only; omega
    · exact Nat.lt_succ_of_lt (H.vlt k K hK)
  · rcases hcases k K hK with ⟨rfl, rfl⟩ | ⟨hkj, hK1⟩ <;> rcases hcases l L hL with ⟨rfl, rfl⟩ | ⟨hlj, hL1⟩
    · rfl
    · rcases hblk b hKb with hb | hb
      · exact absurd (H.dist l k L I b hL1 hI hLb hb) hlj
      · have := H.blt hL1 hLb; omega
    · rcases hblk b hLb with hb | hb
      · exact absurd (H.dist k l K I b hK1 hI hKb hb) hkj
      · have := H.blt hK1 hKb; omega
    · exact H.dist k l K L b hK1 hL1 hKb hLb
  · rcases hcases k K hK with ⟨rfl, rfl⟩ | ⟨_, hK⟩
    · rcases hblk b hKb with hb | hb
      · exact H.own k I b hI hb
      · exact .inr (Nat.le_trans H.frm.size hb)
    · exact H.own k K b hK hKb
  · refine ⟨hos.trans H.frm.os, htape.trans H.frm.tape, hout.trans H.frm.output, Nat.le_trans H.frm.size hsize, fun b hb hn => ?_⟩
    refine (hsame b (Nat.lt_of_lt_of_le hb H.frm.size) fun hb' => ?_).trans (H.frm.block b hb hn)
    rcases H.own j I b hI hb' with h | h
    · exact hn h
    · omega

/-- One block of the run's own is written in place. -/
theorem HRel.write (H : HRel g h w w0 own0) {j : Nat} {I : Inf} {b : Nat} {B' : Blk} (hI : g.inf[j]? = some I) (hb : I.blk = some b) (hBv : B'.ver = I.ver)
    (hos : w1.os = w.os) (htape : w1.tape = w.tape) (hout : w1.output = w.output) (hsize : w.heap.size = w1.heap.size)
    (hsame : ∀ c, c ≠ b → w1.heap[c]? = w.heap[c]?) (hnf : ¬ g.F b) (hfz : B'.fz = false)
    (hsz : I.sz = B'.sz) (hlen : ∀ e ∈ B'.es, e.length = B'.sz)
    (hcell : ∃ cur e, w1.heap[b]? = some (.cells cur e (0, 0)) ∧ cur.size = I.cap * B'.sz ∧ B'.es.length ≤ I.cap ∧ I.cap ≤ maxLen ∧
      ∀ i k, i < B'.es.length → k < B'.sz → (cur.getD (i * B'.sz + k) undef).oneCell' = true ∧ VRep g w (cur.getD (i * B'.sz + k) undef) ((B'.es.getD i []).getD k .any)) :
    Ext g w g w1 ∧ HRel g (h.put j B') w1 w0 own0 := by
  have hjlt : j < g.inf.length := (List.getElem?_eq_some_iff.1 hI).1
  have ex : Ext g w g w1 := ⟨fun _ h => h, fun c hc => hsame c fun e => hnf (e ▸ hc), Nat.le_refl _, fun _ _ h _ => h⟩
  refine ⟨ex, ⟨H.clk, by simp [Heap.put, H.len], fun k B K hB hK => ?_, H.vlt, H.dist, fun c hc => hsize ▸ H.Flt c hc, H.own, ?_, H.fin, H.ext.trans ex⟩⟩
  · simp only [Heap.put] at hB
    by_cases hkj : k = j
    · subst hkj
      have hb' : k < h.bs.length := by rw [← H.len]; exact hjlt
      rw [List.getElem?_set_self hb'] at hB
      obtain rfl := Option.some.inj hB
      obtain rfl := Option.some.inj (hI.symm.trans hK)
      refine ⟨hBv.symm, hsz, hlen, fun hn => (by rw [hb] at hn; cases hn), fun c hc => ?_, fun c hc hf => (by rw [hfz] at hf; cases hf), fun c hc _ hF => ?_⟩
      · obtain rfl := Option.some.inj (hb.symm.trans hc)
        obtain ⟨cur, e, h1, h2, h3, h4, h5⟩ := hcell
        exact ⟨cur, e, h1, h2, h3, h4, fun i k hi hk => ⟨(h5 i k hi hk).1, (h5 i k hi hk).2.mono ex⟩⟩
      · obtain rfl := Option.some.inj (hb.symm.trans hc)
        exact hnf hF
    · rw [List.getElem?_set_ne (Ne.symm hkj)] at hB
      have hk := H.ok k B K hB hK
      exact ⟨hk.ver, hk.sz, hk.len, hk.gone, fun c hc => (hk.here c hc).mono ex (hsame c fun e => hkj (H.dist k j K I b hK hI (e ▸ hc) hb)), hk.fz, hk.nf⟩
  · refine ⟨hos.trans H.frm.os, htape.trans H.frm.tape, hout.trans H.frm.output, hsize ▸ H.frm.size, fun c hc hn => ?_⟩
    refine (hsame c fun e => ?_).trans (H.frm.block c hc hn)
    rcases H.own j I b hI hb with h | h
    · exact hn (e ▸ h)
    · omega
end
end Go.Sx
