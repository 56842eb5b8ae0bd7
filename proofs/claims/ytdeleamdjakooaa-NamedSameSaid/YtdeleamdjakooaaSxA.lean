/- All operations that leave memory as it is: the theorem. -/
import Derived.Test.YtdeleamdjakooaaSx9
set_option maxHeartbeats 2000000
set_option linter.unusedSimpArgs false
namespace Go.Sx
section
variable {P : Program} {g : Gh} {w w0 w' : World} {own0 : Own} {h : Heap}

theorem VRep.slice_of {v : Value} {s : Nat} {es : List (List V)} (hv : VRep g w v (.slc s es)) : ∃ a cap, v = .slice a es.length cap := by
  cases hv.inv_slc with | slc a n cap _ _ b o xs hn hcap hsz ha hx hr => subst hn; exact ⟨a, cap, rfl⟩
theorem ref_slice {v : Value} {j ver off len : Nat} (H : HRel g h w w0 own0) (hv : VRep g w v (.ref j ver off len)) (hc : h.cur j ver = true) : ∃ a cap, v = .slice a len cap := by
  obtain ⟨B, I, hB, hI, hbl, hBv, hIv, hk⟩ := H.cur hc
  have hr := hv.inv_ref.2 I hI hIv
  unfold RefOK at hr
  split at hr
  · obtain ⟨rfl, rfl, rfl⟩ := hr; exact ⟨_, _, rfl⟩
  · obtain ⟨a, cap, rfl, _⟩ := hr; exact ⟨_, _, rfl⟩

theorem still_len {t e ty : TypeId} {x : Value} (hu : P.underlying t = some (.slice e)) (H : HRel g h w w0 own0) {ρ : X → V} {z : X} (hv : VRep g w x (ρ z))
    (hok : (evP (.len z) ρ h).2 = true) : ∃ cv, VRep g w cv (evP (.len z) ρ h).1 ∧ ∀ w' : World, (Builtin.len_ #[t] ty #[x]).run P w' = .ok cv w' := by
  have key : ∀ a n cap (w' : World), (Builtin.len_ #[t] ty #[.slice a n cap]).run P w' = .ok (.int .i64 n) w' := by
    intro a n cap w'
    simp [Builtin.len_, run_underlying hu, goInt]
  simp only [evP] at hok ⊢
  split at hok
  · rename_i s es hs
    rw [hs] at hv
    obtain ⟨a, cap, rfl⟩ := hv.slice_of
    exact ⟨_, VRep.c' _, fun w' => key a _ cap w'⟩
  · rename_i j ver off len hs
    rw [hs] at hv
    obtain ⟨a, cap, rfl⟩ := ref_slice H hv hok
    exact ⟨_, VRep.c' _, fun w' => key a _ cap w'⟩
  · rename_i a n cap hs
    rw [hs] at hv
    have := hv.inv_c
    subst this
    exact ⟨_, VRep.c' _, fun w' => key a _ cap w'⟩
  · cases hok
theorem still_lenS {t ty : TypeId} {x : Value} (hu : P.underlying t = some .string) {ρ : X → V} {z : X} (hv : VRep g w x (ρ z))
    (hok : (evP (.lenS z) ρ h).2 = true) : ∃ cv, VRep g w cv (evP (.lenS z) ρ h).1 ∧ ∀ w' : World, (Builtin.len_ #[t] ty #[x]).run P w' = .ok cv w' := by
  simp only [evP] at hok ⊢
  split at hok
  · rename_i s hs
    rw [hs] at hv
    have := hv.inv_c
    subst this
    refine ⟨_, VRep.c' _, fun w' => ?_⟩
    have hsz : s.data.toList.length = s.size := Array.length_toList
    simp [Builtin.len_, run_underlying hu, goInt, hsz]
  · cases hok
theorem still_mm {lt : Bool} {x y : Value} {ts : Array TypeId} {ty : TypeId} {ρ : X → V} {a b : X} (hx : VRep g w x (ρ a)) (hy : VRep g w y (ρ b)) (hok : (evP (.mm lt a b) ρ h).2 = true) :
    ∃ cv, VRep g w cv (evP (.mm lt a b) ρ h).1 ∧ ∀ w' : World, (if lt then Builtin.min_ ts ty #[x, y] else Builtin.max_ ts ty #[x, y]).run P w' = .ok cv w' := by
  simp only [evP] at hok ⊢
  split at hok
  · rename_i k m k' n h1 h2
    rw [h1] at hx; rw [h2] at hy
    have e1 := hx.inv_c
    have e2 := hy.inv_c
    subst e1; subst e2
    have hk : k = k' := by simpa using hok
    subst hk
    refine ⟨_, VRep.c' _, fun w' => ?_⟩
    cases lt
    · simp [Builtin.max_, Builtin.max2]; split <;> omega
    · simp [Builtin.min_, Builtin.min2]; split <;> omega
  · cases hok

theorem still_call {c : Call} {ty : TypeId} {O' : O} (hc : compCall P c = some O') (hst : O'.still = true) {ev : Operand → Value} {ρ : X → V} (hρ : EvOK g w ev ρ) (hρk : ∀ v, ρ (.k v) = .c v) (H : HRel g h w w0 own0)
    (hok : (evP O' ρ h).2 = true) : ∃ cv, VRep g w cv (evP O' ρ h).1 ∧ ∀ w', Grow w w' → (do let d ← resolve ev c ty; invoke d.target d.args : Sem Next).run P w' = .ok (.value cv) w' := by
  obtain ⟨callee, args, argTypes⟩ := c
  unfold compCall at hc
  simp only at hc
  split at hc
  · simp only [Option.map_eq_some_iff] at hc; obtain ⟨_, _, rfl⟩ := hc; cases hst
  · simp only [Option.bind_eq_some_iff, Option.map_eq_some_iff] at hc; obtain ⟨_, _, _, _, rfl⟩ := hc; cases hst
  · cases hc
  · rename_i b
    split at hc
    · rename_i x t ha ht
      rw [one_of ha, one_of ht]
      have key : ∀ cv, (∀ w', (Builtin.len_ #[t] ty #[ev x]).run P w' = .ok cv w') → ∀ w' : World, Grow w w' → (do let d ← resolve ev { callee := .builtin .len, args := #[x], argTypes := #[t] } ty; invoke d.target d.args : Sem Next).run P w' = .ok (.value cv) w' := by
        intro cv h1 w' _
        simp [resolve, invoke, builtin, h1]
      split at hc
      · rename_i hu
        simp only [Option.map_eq_some_iff] at hc
        obtain ⟨y, hy, rfl⟩ := hc
        obtain ⟨cv, h1, h2⟩ := still_lenS (ty := ty) hu (hρ x y hy) hok
        exact ⟨cv, h1, key cv h2⟩
      · rename_i e hu
        simp only [Option.map_eq_some_iff] at hc
        obtain ⟨y, hy, rfl⟩ := hc
        obtain ⟨cv, h1, h2⟩ := still_len (ty := ty) hu H (hρ x y hy) hok
        exact ⟨cv, h1, key cv h2⟩
      · rename_i n e hu
        simp at hc
        subst hc
        refine ⟨.int .i64 n, ?_, key _ fun w' => by simp [Builtin.len_, run_underlying hu, goInt]⟩
        simp only [evP, hρk]
        exact VRep.c' _
      · cases hc
    · simp only [Option.bind_eq_some_iff] at hc
      obtain ⟨_, _, _, _, _, _, _, _, _, _, _, _, hc⟩ := hc
      split at hc
      · simp only [Option.bind_eq_some_iff, Option.map_eq_some_iff] at hc; obtain ⟨_, _, _, _, rfl⟩ := hc; cases hst
      · cases hc
    · rename_i x y t u ha ht
      simp only [Option.bind_eq_some_iff, Option.map_eq_some_iff] at hc
      obtain ⟨x', hx, y', hy, rfl⟩ := hc
      obtain ⟨cv, h1, h2⟩ := still_mm (ts := argTypes) (ty := ty) (P := P) (hρ x x' hx) (hρ y y' hy) hok
      refine ⟨cv, h1, fun w' _ => ?_⟩
      have := h2 w'
      rw [two_of ha]
      simp only [if_true] at this
      simp [resolve, invoke, builtin, this]
    · rename_i x y t u ha ht
      simp only [Option.bind_eq_some_iff, Option.map_eq_some_iff] at hc
      obtain ⟨x', hx, y', hy, rfl⟩ := hc
      obtain ⟨cv, h1, h2⟩ := still_mm (ts := argTypes) (ty := ty) (P := P) (hρ x x' hx) (hρ y y' hy) hok
      refine ⟨cv, h1, fun w' _ => ?_⟩
      have := h2 w'
      rw [two_of ha]
      simp only [Bool.false_eq_true, if_false] at this
      simp [resolve, invoke, builtin, this]
    · simp only [Option.bind_eq_some_iff] at hc
      obtain ⟨_, _, _, _, _, _, hc⟩ := hc
      split at hc
      · simp only [Option.map_eq_some_iff] at hc; obtain ⟨_, _, rfl⟩ := hc; cases hst
      · cases hc
    · cases hc

theorem still_ok {o : Oper} {O' : O} (hc : compO P o.op = some O') (hst : O'.still = true) {ev : Operand → Value} {ρ : X → V} (hev : ∀ v, ev (.const v) = v) (hρ : EvOK g w ev ρ) (hρk : ∀ v, ρ (.k v) = .c v) (H : HRel g h w w0 own0)
    (hok : (evP O' ρ h).2 = true) : ∃ cv, VRep g w cv (evP O' ρ h).1 ∧ ∀ w', Grow w w' → (execOp ev o).run P w' = .ok (.value cv) w' := by
  obtain ⟨dst, op, type, pos, after, guard⟩ := o
  simp only at hc
  cases op with
  | move x =>
    simp only [compO, Option.map_eq_some_iff] at hc; obtain ⟨y, hy, rfl⟩ := hc
    exact ⟨_, hρ x y hy, fun w' _ => rfl⟩
  | assign x =>
    simp only [compO, Option.map_eq_some_iff] at hc; obtain ⟨y, hy, rfl⟩ := hc
    exact ⟨_, hρ x y hy, fun w' _ => rfl⟩
  | alloc t =>
    simp only [compO, Option.bind_eq_some_iff, Option.map_eq_some_iff] at hc; obtain ⟨_, _, _, _, rfl⟩ := hc
    cases hst
  | box t x =>
    simp only [compO, Option.bind_eq_some_iff, Option.map_eq_some_iff] at hc; obtain ⟨_, _, _, _, rfl⟩ := hc
    cases hst
  | build t ps =>
    simp only [compO] at hc
    split at hc
    · rename_i fs hu
      split at hc
      · rename_i hall
        simp only [Option.bind_eq_some_iff, Option.map_eq_some_iff] at hc
        obtain ⟨z, hz, qs, hqs, rfl⟩ := hc
        obtain ⟨h1, h2⟩ := compParts_ok hρ hqs
        simp only [evP] at hok ⊢
        obtain ⟨out, ho1, ho2⟩ := still_build (ρ := ρ) (ps := ps.map fun (i, x) => (i, ev x)) (qs := qs) (place := fun i => (fs.toList.map fun f => (f.offset, (szOf P f.type).getD 0))[i]?) H (by simpa using h1)
          (fun i p q hp hq => by
            simp only [Array.toList_map, List.getElem?_map, Option.map_eq_some_iff] at hp
            obtain ⟨r, hr, rfl⟩ := hp
            obtain ⟨h3, f, h4, h5, h6⟩ := h2 i r q hr hq
            refine ⟨h3, ?_⟩
            simp [h4, h5, h6]) hok
        refine ⟨_, ho1, fun w' _ => vrun ?_⟩
        simp only [Instr.build, Sem.run_bind, run_zeroValue hz, Result.andThen_ok, run_underlying hu]
        have hpl := run_places' (P := P) w' fs.toList hall
        simp [Array.mapM_eq_mapM_toList, hpl]
        have ho2' : Instr.fill (fun x => (List.map (fun f => (f.offset, (szOf P f.type).getD 0)) fs.toList).toArray[x]?) z.cells (List.map (fun x => (x.fst, ev x.snd)) ps.toList) = some out := by
          simpa using ho2
        simp at ho2'
        rw [ho2']
        rfl
      · cases hc
    · rename_i n e hu
      simp only [Option.bind_eq_some_iff, Option.map_eq_some_iff] at hc
      obtain ⟨z, hz, m, hm, s, hs, qs, hqs, rfl⟩ := hc
      obtain ⟨h1, h2⟩ := compElems_ok hρ hqs
      simp only [evP] at hok ⊢
      have hs1 : s = m.getD 1 := Option.some.inj (hs.symm.trans (shp_sz hm))
      obtain ⟨out, ho1, ho2⟩ := still_build (ρ := ρ) (ps := ps.map fun (i, x) => (i, ev x)) (qs := qs.map fun p => (p.1 * s, m, p.2)) (place := fun i => some (i * s, s)) H (by simpa using h1)
        (fun i p q hp hq => by
          simp only [Array.toList_map, List.getElem?_map, Option.map_eq_some_iff] at hp hq
          obtain ⟨r, hr, rfl⟩ := hp
          obtain ⟨q', hq', rfl⟩ := hq
          obtain ⟨h3, h4⟩ := h2 i r q' hr hq'
          exact ⟨h4, by rw [h3, hs1]⟩) hok
      refine ⟨_, ho1, fun w' _ => vrun ?_⟩
      simp only [Instr.build, Sem.run_bind, run_zeroValue hz, Result.andThen_ok, run_underlying hu, run_sizeOf hs]
      simp at ho2
      simp [ho2]
    · cases hc
  | buildSlice t n ps =>
    simp only [compO, Option.bind_eq_some_iff, Option.map_eq_some_iff] at hc; obtain ⟨_, _, _, _, _, _, _, _, _, _, rfl⟩ := hc
    cases hst
  | load t x =>
    simp only [compO, Option.bind_eq_some_iff, Option.map_eq_some_iff] at hc; obtain ⟨n, hn, y, hy, rfl⟩ := hc
    simp only [evP, Bool.and_eq_true, decide_eq_true_eq] at hok ⊢
    obtain ⟨cv, h1, h2⟩ := still_load hn H (hρ x y hy) hok.1 hok.2
    exact ⟨cv, h1, fun w' hw => vrun (h2 w' hw)⟩
  | store t x y =>
    simp only [compO, Option.bind_eq_some_iff, Option.map_eq_some_iff] at hc; obtain ⟨_, _, _, _, _, _, rfl⟩ := hc
    cases hst
  | nilCheck x =>
    simp only [compO, Option.map_eq_some_iff] at hc; obtain ⟨y, hy, rfl⟩ := hc
    have hv := hρ x y hy
    simp only [evP, Bool.or_eq_true] at hok ⊢
    refine ⟨_, hv, fun w' _ => ?_⟩
    rcases hok with hok | hok
    · obtain ⟨a, ha⟩ := isPtr_ptr H hv hok
      simp only [execOp, ha]; rfl
    · split at hok
      · rename_i f caps hf
        rw [hf] at hv
        obtain ⟨cs, hcs, _⟩ := hv.inv_fn
        simp only [execOp, hcs]; rfl
      · cases hok
  | binOp op t x y u =>
    simp only [compO, Option.bind_eq_some_iff] at hc; obtain ⟨x', hx, y', hy, hc⟩ := hc
    obtain ⟨cv, h1, h2⟩ := compBin_ok hc (hρ x x' hx) (hρ y y' hy) (fun v hv => by rw [hv]; exact hev v) hok
    exact ⟨cv, h1, fun w' _ => vrun (h2 w')⟩
  | unOp op t x =>
    simp only [compO, Option.map_eq_some_iff] at hc; obtain ⟨y, hy, rfl⟩ := hc
    have hv := hρ x y hy
    simp only [evP] at hok ⊢
    split at hok
    · rename_i b hb
      rw [hb] at hv
      refine ⟨_, VRep.c' _, fun w' _ => vrun ?_⟩
      rw [hv.inv_c]; rfl
    · rename_i k n hn
      rw [hn] at hv
      rw [arith_ok hok]
      refine ⟨_, VRep.c' _, fun w' _ => vrun ?_⟩
      rw [hv.inv_c]; rfl
    · cases hok
  | convert s d x =>
    simp only [compO] at hc
    split at hc
    · rename_i k k' hs hd
      simp only [Option.map_eq_some_iff] at hc; obtain ⟨y, hy, rfl⟩ := hc
      have hv := hρ x y hy
      simp only [evP] at hok ⊢
      split at hok
      · rename_i k n hn
        rw [hn] at hv
        refine ⟨_, VRep.c' _, fun w' _ => vrun ?_⟩
        rw [hv.inv_c]
        simp [convert, run_underlying hs, run_underlying hd, Conv.intToInt]
      · cases hok
    · rename_i hs hd
      simp only [Option.map_eq_some_iff] at hc; obtain ⟨y, hy, rfl⟩ := hc
      have hv := hρ x y hy
      simp only [evP] at hok ⊢
      split at hok
      · rename_i n hn
        refine ⟨_, hv, fun w' _ => vrun ?_⟩
        rw [hn] at hv
        rw [hv.inv_c]
        simp [convert, run_underlying hs, run_underlying hd]
      · cases hok
    · cases hc
  | makeFunc fn first caps =>
    cases fn with
    | func f =>
      simp only [compO] at hc
      split at hc
      · rename_i hf
        simp only [Option.map_eq_some_iff] at hc; obtain ⟨ys, hy, rfl⟩ := hc
        obtain ⟨h1, h2⟩ := compXs_ok hρ hy
        have hf' : first = #[] := Array.eq_empty_of_size_eq_zero hf
        subst hf'
        refine ⟨.func (.func f) #[] (caps.map ev), ?_, fun w' _ => vrun (by simp [Instr.makeFunc])⟩
        simp only [evP]
        refine .fn _ _ _ (by simpa using h1) (fun i hi => ?_)
        have := h2 i (by simpa using hi)
        simpa [Array.getD_eq_getD_getElem?, List.getD_eq_getElem?_getD] using this
      · cases hc
    | _ => simp [compO] at hc
  | makeSlice t l c =>
    simp only [compO, Option.bind_eq_some_iff, Option.map_eq_some_iff] at hc; obtain ⟨_, _, _, _, _, _, _, _, _, _, rfl⟩ := hc
    cases hst
  | slice t x lo hi mx =>
    cases mx with
    | some _ => simp [compO] at hc
    | none =>
      simp only [compO] at hc
      split at hc
      · rename_i hu
        simp only [Option.bind_eq_some_iff, Option.map_eq_some_iff] at hc; obtain ⟨y, hy, lo', hlo, hi', hhi, rfl⟩ := hc
        have hv := hρ x y hy
        obtain ⟨a1, a2⟩ := compOX_ok hρ hlo
        obtain ⟨b1, b2⟩ := compOX_ok hρ hhi
        simp only [evP] at hok ⊢
        split at hok
        · rename_i s hs
          rw [hs] at hv
          simp only [Bool.and_eq_true, decide_eq_true_eq] at hok
          refine ⟨_, VRep.c' _, fun w' _ => vrun ?_⟩
          rw [hv.inv_c]
          exact still_sliceS hu a1 a2 b1 b2 hok.1.1 hok.1.2 hok.2 w'
        · cases hok
      · rename_i e hu
        simp only [Option.bind_eq_some_iff, Option.map_eq_some_iff] at hc; obtain ⟨sz, hsz, y, hy, lo', hlo, hi', hhi, rfl⟩ := hc
        obtain ⟨a1, a2⟩ := compOX_ok hρ hlo
        obtain ⟨b1, b2⟩ := compOX_ok hρ hhi
        simp only [evP, Bool.and_eq_true, decide_eq_true_eq] at hok ⊢
        obtain ⟨cv, h1, h2⟩ := still_slice hu hsz H (hρ x y hy) a1 a2 b1 b2 hok.1.1.1 hok.1.1.2 hok.1.2 hok.2
        exact ⟨cv, h1, fun w' _ => vrun (h2 w')⟩
      · cases hc
  | fieldAddr t x f =>
    simp only [compO, Option.bind_eq_some_iff] at hc; obtain ⟨F, hF, s, hs, hc⟩ := hc
    split at hc
    · cases hc
    · rename_i h0
      simp only [Option.map_eq_some_iff] at hc; obtain ⟨y, hy, rfl⟩ := hc
      obtain ⟨cv, h1, h2⟩ := still_fieldAddr hF hs h0 H (hρ x y hy) hok
      exact ⟨cv, h1, fun w' _ => vrun (h2 w')⟩
  | field t x f =>
    simp only [compO, Option.bind_eq_some_iff, Option.map_eq_some_iff] at hc; obtain ⟨F, hF, n, hn, y, hy, rfl⟩ := hc
    simp only [evP, Bool.and_eq_true, decide_eq_true_eq] at hok ⊢
    obtain ⟨cv, h1, h2⟩ := still_field hF hn (hρ x y hy) hok.2.1 hok.2.2 hok.1
    exact ⟨cv, h1, fun w' _ => vrun (h2 w')⟩
  | indexAddr t x i =>
    simp only [compO] at hc
    split at hc
    · rename_i e hu
      simp only [Option.bind_eq_some_iff, Option.map_eq_some_iff] at hc; obtain ⟨sz, hsz, z, hz, y, hy, j, hj, rfl⟩ := hc
      obtain ⟨cv, h1, h2⟩ := still_idxAddr hu hsz H (z.cells.toList.map .c) (hρ x y hy) (hρ i j hj) hok
      exact ⟨cv, h1, fun w' _ => vrun (h2 w')⟩
    · rename_i n e hu
      simp only [Option.bind_eq_some_iff, Option.map_eq_some_iff] at hc; obtain ⟨sz, hsz, y, hy, j, hj, rfl⟩ := hc
      simp only [evP, Bool.and_eq_true, decide_eq_true_eq] at hok ⊢
      obtain ⟨cv, h1, h2⟩ := still_idxAddrA hu hsz H (hρ x y hy) (hρ i j hj) hok.1.1 hok.1.2 hok.2
      exact ⟨cv, h1, fun w' _ => vrun (h2 w')⟩
    · cases hc
  | index t x i =>
    simp only [compO] at hc
    split at hc
    · rename_i hu
      simp only [Option.bind_eq_some_iff, Option.map_eq_some_iff] at hc; obtain ⟨y, hy, j, hj, rfl⟩ := hc
      have hv := hρ x y hy
      simp only [evP] at hok ⊢
      split at hok
      · rename_i s hs
        rw [hs] at hv
        simp only [Bool.and_eq_true, decide_eq_true_eq] at hok
        refine ⟨_, VRep.c' _, fun w' _ => vrun ?_⟩
        rw [hv.inv_c]
        exact still_idxS hu (hρ i j hj) hok.1 hok.2 w'
      · cases hok
    · rename_i n e hu
      simp only [Option.bind_eq_some_iff, Option.map_eq_some_iff] at hc; obtain ⟨s, hs, sz, hsz, y, hy, j, hj, rfl⟩ := hc
      simp only [evP, Bool.and_eq_true, decide_eq_true_eq, beq_iff_eq] at hok ⊢
      obtain ⟨cv, h1, h2⟩ := still_idxA hu hs hsz (hρ x y hy) (hρ i j hj) hok.1.1.1.1.1 hok.1.1.1.1.2 hok.1.1.1.2 hok.1.1.2 hok.1.2 hok.2
      exact ⟨cv, h1, fun w' _ => vrun (h2 w')⟩
    · cases hc
  | extract x i =>
    simp only [compO, Option.map_eq_some_iff] at hc; obtain ⟨y, hy, rfl⟩ := hc
    have hv := hρ x y hy
    simp only [evP] at hok ⊢
    split at hok
    · rename_i vs hs
      rw [hs] at hv
      simp only [decide_eq_true_eq] at hok
      obtain ⟨cs, hcs, h1, h2⟩ := hv.inv_tup
      refine ⟨_, h2 i hok, fun w' _ => vrun ?_⟩
      rw [hcs]
      simp [Instr.extract, h1 ▸ hok, show i < cs.size by omega]
    · rename_i vs hs
      rw [hs] at hv
      simp only [decide_eq_true_eq] at hok
      have hok' : i < vs.size := by simpa using hok
      refine ⟨_, VRep.c' _, fun w' _ => vrun ?_⟩
      rw [hv.inv_c]
      simp [Instr.extract, hok', List.getD_eq_getElem?_getD]
    · cases hok
  | call c =>
    exact still_call (by simpa [compO] using hc) hst hρ hρk H hok
  | _ => simp [compO] at hc
end
end Go.Sx
