/- The operations that leave memory as it is, the rest; all of them. -/
import Derived.Test.YtdeleamdjakooaaSx5
namespace Go.Sx
section
variable {P : Program} {g : Gh} {w w0 w' : World} {own0 : Own} {h : Heap}

theorem optI_ok {d : Nat} {lo : Option Value} {x : Option V} (hs : lo.isSome = x.isSome) (hv : ∀ v y, lo = some v → x = some y → VRep g w v y) (h1 : (optI d x).2 = true) (h2 : 0 ≤ (optI d x).1) :
    BndIs lo d (optI d x).1.toNat := by
  unfold BndIs
  cases lo with
  | none => cases x with
    | none => simp [optI]
    | some y => cases hs
  | some v => cases x with
    | none => cases hs
    | some y =>
      simp only [optI] at h1 h2 ⊢
      obtain ⟨k, rfl⟩ := asI_ok (hv v y rfl rfl) h1
      exact ⟨k, by rw [Int.toNat_of_nonneg h2]⟩

theorem still_slice {t e : TypeId} {sz : Nat} (hu : P.underlying t = some (.slice e)) (hs : szOf P e = some sz) (H : HRel g h w w0 own0) {v : Value} {x : V} {lo hi : Option Value} {xl xu : Option V} (hv : VRep g w v x)
    (hls : lo.isSome = xl.isSome) (hlv : ∀ v y, lo = some v → xl = some y → VRep g w v y) (hus : hi.isSome = xu.isSome) (huv : ∀ v y, hi = some v → xu = some y → VRep g w v y)
    (hc : h.cutOK sz x = true) (h1 : (optI 0 xl).2 = true) (h2 : (optI x.slen xu).2 = true) (hr : 0 ≤ (optI 0 xl).1 ∧ (optI 0 xl).1 ≤ (optI x.slen xu).1 ∧ (optI x.slen xu).1 ≤ x.slen) :
    ∃ cv, VRep g w cv (x.cut (optI 0 xl).1.toNat (optI x.slen xu).1.toNat) ∧ ∀ w', (Instr.sliceAt t v lo hi none).run P w' = .ok cv w' := by
  have hL := optI_ok hls hlv h1 hr.1
  have hU := optI_ok hus huv h2 (by omega)
  have key : ∀ (a : Option Addr) (len cap : Nat), x.slen = len → len ≤ cap → ∀ w', (Instr.sliceAt t (.slice a len cap) lo hi none).run P w' =
      .ok (.slice (if cap = (optI 0 xl).1.toNat then a else a.map (·.add ((optI 0 xl).1.toNat * sz))) ((optI x.slen xu).1.toNat - (optI 0 xl).1.toNat) (cap - (optI 0 xl).1.toNat)) w' := by
    intro a len cap hlen hlc w'
    have := run_sliceBounds (P := P) (isS := true) (len := len) (cap := cap) (lo := lo) (hi := hi) (l := (optI 0 xl).1.toNat) (u := (optI x.slen xu).1.toNat) w' hlc hL (by rw [← hlen]; exact hU) (by omega) (by omega)
    simp [Instr.sliceAt, run_underlying hu, Instr.slice, this, run_sizeOf hs]
  generalize hl' : (optI 0 xl).1.toNat = l at *
  generalize hu' : (optI x.slen xu).1.toNat = u at *
  have hlu : l ≤ u ∧ u ≤ x.slen := by omega
  unfold Heap.cutOK at hc
  split at hc
  · rename_i s es
    have hss : s = sz := by simpa using hc
    subst hss
    simp only [V.slen] at hlu key
    cases hv.inv_slc with
    | slc a n cap _ _ b o xs hn hcap hsz ha hx hr' =>
      subst hn
      refine ⟨_, ?_, fun w' => key a _ cap rfl hcap w'⟩
      have hlen : ((es.drop l).take (u - l)).length = u - l := by simp; omega
      refine .p _ _ (.slc _ _ _ _ _ b (o + l * s) (fun i k => xs (l + i) k) hlen.symm (by omega) (fun e he => hsz e (List.mem_of_mem_drop (List.mem_of_mem_take he))) (fun h0 => ?_) (fun i k hi hk => ?_) (fun i k hi hk => ?_))
      · obtain ⟨rfl, hF⟩ := ha (by omega)
        rw [if_neg (by omega)]
        exact ⟨by simp [Addr.add_lit], hF⟩
      · rw [hlen] at hi
        rw [show o + l * s + (i * s + k) = o + ((l + i) * s + k) by rw [Nat.add_mul]; omega]
        exact hx (l + i) k (by omega) hk
      · rw [hlen] at hi
        have := hr' (l + i) k (by omega) hk
        rw [show ((es.drop l).take (u - l)).getD i [] = es.getD (l + i) [] by simp [List.getD_eq_getElem?_getD, hi]]
        exact this
  · rename_i j ver off len
    simp only [Bool.and_eq_true, beq_iff_eq] at hc
    simp only [V.slen] at hlu key
    obtain ⟨B, I, hB, hI, hbl, hBv, hIv, hk⟩ := H.cur hc.1
    obtain ⟨hlt, hp⟩ := hv.inv_ref
    have hr' := hp I hI hIv
    unfold RefOK at hr'
    split at hr'
    · rename_i hb
      obtain ⟨rfl, rfl, rfl⟩ := hr'
      refine ⟨_, ?_, fun w' => key _ _ _ rfl (Nat.le_refl _) w'⟩
      refine .ref _ _ _ _ _ hlt fun J hJ hJv => ?_
      obtain rfl : I = J := Option.some.inj (hI.symm.trans hJ)
      simp only [RefOK, hb]
      obtain rfl : l = 0 := by omega
      obtain rfl : u = 0 := by omega
      simp
    · rename_i b hb
      obtain ⟨a, cap, rfl, h3, h4, h5⟩ := hr'
      refine ⟨_, ?_, fun w' => key _ _ _ rfl h3 w'⟩
      refine .ref _ _ _ _ _ hlt fun J hJ hJv => ?_
      obtain rfl : I = J := Option.some.inj (hI.symm.trans hJ)
      simp only [RefOK, hb]
      refine ⟨_, _, rfl, by omega, by omega, fun h0 => ?_⟩
      rw [if_neg (by omega), h5 (by omega)]
      rw [hbl] at hc
      simp [Addr.add_lit, hk.sz, hc.2, Nat.add_mul]
  · have := hv.inv_c
    subst this
    simp only [V.slen] at hlu key
    obtain rfl : l = 0 := by omega
    obtain rfl : u = 0 := by omega
    exact ⟨_, VRep.c' _, fun w' => by simpa using key none 0 0 rfl (Nat.le_refl _) w'⟩
  · cases hc

theorem still_sliceS {t : TypeId} (hu : P.underlying t = some .string) {s : ByteArray} {lo hi : Option Value} {xl xu : Option V}
    (hls : lo.isSome = xl.isSome) (hlv : ∀ v y, lo = some v → xl = some y → VRep g w v y) (hus : hi.isSome = xu.isSome) (huv : ∀ v y, hi = some v → xu = some y → VRep g w v y)
    (h1 : (optI 0 xl).2 = true) (h2 : (optI s.size xu).2 = true) (hr : 0 ≤ (optI 0 xl).1 ∧ (optI 0 xl).1 ≤ (optI s.size xu).1 ∧ (optI s.size xu).1 ≤ s.size) (w' : World) :
    (Instr.sliceAt t (.string s) lo hi none).run P w' = .ok (.string (s.extract (optI 0 xl).1.toNat (optI s.size xu).1.toNat)) w' := by
  have hL := optI_ok hls hlv h1 hr.1
  have hU := optI_ok hus huv h2 (by omega)
  have := run_sliceBounds (P := P) (isS := false) (len := s.size) (cap := s.size) (lo := lo) (hi := hi) w' (Nat.le_refl _) hL hU (by omega) (by omega)
  simp [Instr.sliceAt, run_underlying hu, Instr.slice, this]

theorem run_part {t : TypeId} {n : Option Nat} (hs : shp P t = some n) {cs : Array Value} {off : Nat} (hl : off + n.getD 1 ≤ cs.size) (w : World) :
    (part t cs off).run P w = .ok (ldV n fun k => cs.getD (off + k) undef) w := by
  cases n with
  | none =>
    obtain ⟨d, hd, ha, _⟩ := shp_one hs
    have hlt : off < cs.size := hl
    simp [part, run_isAgg hd, ha, ldV, hlt]
  | some n =>
    obtain ⟨d, hd, ha, hz⟩ := shp_agg hs
    simp only [part, Sem.run_bind, run_isAgg hd, ha, Result.andThen_ok, if_true, run_sizeOf hz, Sem.run_pure, ldV]
    congr 2
    apply Array.ext
    · simp at hl ⊢; omega
    · intro i h1 h2
      have h3 : i < n := by simpa using h2
      simp at hl
      simp [show off + i < cs.size by omega]
theorem ldA_ok {cs : Array Value} {x : V} {off : Nat} {n : Option Nat} (hv : VRep g w (.agg cs) x) (hl : off + n.getD 1 ≤ (cellsOf true x).length) (h0 : 0 < n.getD 1) (hn : (n.isNone || x.isAgg) = true) :
    cs.size = (cellsOf true x).length ∧ VRep g w (ldV n fun k => cs.getD (off + k) undef) (ldA n ((cellsOf true x).drop off)) := by
  obtain ⟨cs', he, h1, h2⟩ := cellsOf_ok hv (by omega)
  obtain rfl : cs = cs' := by injection he
  refine ⟨h1, ?_⟩
  cases n with
  | none =>
    have := h2 off hl
    simpa [ldV, ldA, List.getD_eq_getElem?_getD] using this
  | some n =>
    cases x with
    | agg xs =>
      obtain ⟨cs', he, _, h3, _⟩ := hv.inv_agg
      obtain rfl : cs = cs' := by injection he
      simp only [cellsOf] at hl h2 ⊢
      have hl' : off + n ≤ xs.length := by simpa using hl
      have hlen : ((xs.drop off).take n).length = n := by simp; omega
      refine VRep.mkagg (by rw [hlen]; simp) (fun i hi => ?_) (fun i hi => ?_)
      · rw [hlen] at hi
        rw [getD_range_map hi]
        exact h3 (off + i) (by omega)
      · rw [hlen] at hi
        rw [getD_range_map hi]
        have := h2 (off + i) (by omega)
        simpa [List.getD_eq_getElem?_getD, List.getElem?_take, hi] using this
    | _ => simp [V.isAgg] at hn

theorem still_field {t : TypeId} {f : Nat} {F : Field} {n : Option Nat} (hf : fieldOf P t f = some F) (hs : shp P F.type = some n) {v : Value} {x : V} (hv : VRep g w v x)
    (hl : F.offset + n.getD 1 ≤ (cellsOf true x).length) (h0 : 0 < n.getD 1) (hn : (n.isNone || x.isAgg) = true) :
    ∃ cv, VRep g w cv (ldA n ((cellsOf true x).drop F.offset)) ∧ ∀ w', (Instr.field t v f).run P w' = .ok cv w' := by
  obtain ⟨cs, rfl, h1, _⟩ := cellsOf_ok hv (by omega)
  obtain ⟨_, h3⟩ := ldA_ok hv hl h0 hn
  refine ⟨_, h3, fun w' => ?_⟩
  unfold fieldOf at hf
  split at hf
  · rename_i fs hu
    simp only [Instr.field, Sem.run_bind, run_underlying hu, Result.andThen_ok, hf, asAgg, Sem.run_pure]
    exact run_part hs (by omega) w'
  · cases hf
theorem still_idxA {t e : TypeId} {len sz : Nat} {n : Option Nat} (hu : P.underlying t = some (.array len e)) (hs : shp P e = some n) (hz : szOf P e = some sz) {v vi : Value} {x i : V} (hv : VRep g w v x) (hi : VRep g w vi i)
    (h1 : (asI i).2 = true) (h2 : 0 ≤ (asI i).1 ∧ (asI i).1 < len) (hl : (cellsOf true x).length = len * sz) (hn : (n.isNone || x.isAgg) = true) (hsz : n.getD 1 = sz) (h0 : 0 < sz) :
    ∃ cv, VRep g w cv (ldA n ((cellsOf true x).drop ((asI i).1.toNat * sz))) ∧ ∀ w', (Instr.index t v vi).run P w' = .ok cv w' := by
  obtain ⟨k, rfl⟩ := asI_ok hi h1
  have hle : (asI i).1.toNat * sz + n.getD 1 ≤ (cellsOf true x).length := by
    rw [hl, hsz, ← Nat.succ_mul]; exact Nat.mul_le_mul_right _ (by omega)
  obtain ⟨cs, rfl, h3, _⟩ := cellsOf_ok hv (by omega)
  obtain ⟨_, h4⟩ := ldA_ok hv hle (by omega) hn
  refine ⟨_, h4, fun w' => ?_⟩
  simp only [Instr.index, Sem.run_bind, asIntOf, Sem.run_pure, Result.andThen_ok, run_underlying hu, h2, and_self, if_true, run_sizeOf hz]
  exact run_part hs (by omega) w'

theorem still_idxS {t : TypeId} (hu : P.underlying t = some .string) {s : ByteArray} {vi : Value} {i : V} (hi : VRep g w vi i)
    (h1 : (asI i).2 = true) (h2 : 0 ≤ (asI i).1 ∧ (asI i).1 < s.data.toList.length) (w' : World) :
    (Instr.index t (.string s) vi).run P w' = .ok (.int .u8 ((s.data.toList.getD (asI i).1.toNat 0).toNat : Int)) w' := by
  obtain ⟨k, rfl⟩ := asI_ok hi h1
  have hsz : s.data.toList.length = s.size := Array.length_toList
  have hlt : (asI i).1.toNat < s.size := by omega
  have he : s[(asI i).1.toNat]? = some (s.data.toList.getD (asI i).1.toNat 0) := by
    have hlt' : (asI i).1.toNat < s.data.size := hlt
    rw [getElem?_pos s _ hlt, List.getD_eq_getElem?_getD, Array.getElem?_toList, Array.getElem?_eq_getElem hlt']
    rfl
  simp only [Instr.index, Sem.run_bind, asIntOf, Sem.run_pure, Result.andThen_ok, run_underlying hu, h2.1, if_true, he]
end
end Go.Sx
