/- The operations that make or write memory, joined. -/
import Derived.Test.YtdeleamdjakooaaSxG
set_option maxHeartbeats 1000000
namespace Go.Sx
section
variable {P : Program} {N : Nat} {g g' : Gh} {e : Nat → V} {h h' : Heap} {w w' w0 : World} {own0 : Own} {a : Act}

theorem evE_congr {o : O} {ρ ρ' : X → V} (hx : ∀ x ∈ o.xs, ρ x = ρ' x) (h : Heap) : evE o ρ h = evE o ρ' h := by
  cases o with
  | box a sz x => have h1 := hx x (by simp [O.xs]); simp only [evE, h1]
  | mkslice a b c x => have h1 := hx x (by simp [O.xs]); simp only [evE, h1]
  | append a b z x y => have h1 := hx x (by simp [O.xs]); have h2 := hx y (by simp [O.xs]); simp only [evE, h1, h2]
  | clr sz x => have h1 := hx x (by simp [O.xs]); simp only [evE, h1]
  | store n x y => have h1 := hx x (by simp [O.xs]); have h2 := hx y (by simp [O.xs]); simp only [evE, h1, h2]
  | bslice agg sz n zero parts =>
    have h1 : ∀ p ∈ parts, ρ p.2 = ρ' p.2 := fun p hp => hx _ (List.mem_map.2 ⟨p, hp, rfl⟩)
    have e1 : (List.range n).map (bsAt agg zero parts ρ) = (List.range n).map (bsAt agg zero parts ρ') := by
      apply List.map_congr_left
      intro i _
      unfold bsAt
      cases hf : parts.find? (·.1 == i) with
      | none => rfl
      | some p => simp only; rw [h1 p (List.mem_of_find?_eq_some hf)]
    have e2 : (parts.all fun p => decide (p.1 < n) && (cellsOf agg (ρ p.2)).length == sz && (cellsOf agg (ρ p.2)).all h.isOne) = (parts.all fun p => decide (p.1 < n) && (cellsOf agg (ρ' p.2)).length == sz && (cellsOf agg (ρ' p.2)).all h.isOne) := by
      apply Bool.eq_iff_iff.2
      simp only [List.all_eq_true]
      constructor <;> intro hh p hp <;> have := hh p hp
      · rw [← h1 p hp]; exact this
      · rw [h1 p hp]; exact this
    simp only [evE, e1, e2]
  | _ => rfl

theorem run_alloc_op {t : TypeId} {z : Value} (hz : zeroOf P t = some z) (w : World) : (Instr.alloc t true (.tuple #[])).run P w = .ok (.pointer (some ⟨w.heap.size, 0, none⟩)) (w.alloc (.cells z.cells t)) := by
  simp [Instr.alloc, run_zeroValue hz, newVar, newRow]
theorem run_box_op (t : TypeId) (v : Value) (w : World) : (Instr.box t v).run P w = .ok (.pointer (some ⟨w.heap.size, 0, none⟩)) (w.alloc (.cells v.cells t)) := by
  simp [Instr.box, newVar, newRow]

theorem eff_ok {o : Oper} {O' : O} (hc : compO P o.op = some O') (hst : O'.still = false) (hcall : O'.calls = false) (R : Rel N g e h w0 own0 a w) (hok : okE O' e h = true) :
    EffOK P g w w0 own0 (execOp a.eval o) (evE O' (uval e) h) := by
  simp only [okE, Bool.and_eq_true] at hok
  have hco := evE_congr (o := O') (ρ := uval e) (ρ' := Sx.see e) (fun x hx => see_of (List.all_eq_true.1 hok.1 x hx)) h
  rw [hco] at hok ⊢
  have hok := hok.2
  have hρ := R.see
  have H := R.heap
  have hρk : ∀ v, Sx.see e (.k v) = .c v := see_k
  generalize Sx.see e = ρ at *
  obtain ⟨dst, op, type, pos, after, guard⟩ := o
  simp only at hc
  cases op with
  | alloc t =>
    simp only [compO, Option.bind_eq_some_iff, Option.map_eq_some_iff] at hc; obtain ⟨n, hn, z, hz, rfl⟩ := hc
    simp only [evE, Bool.and_eq_true, beq_iff_eq, decide_eq_true_eq] at hok ⊢
    obtain ⟨cv, w', g', rfl, rfl, h1, h2, h3⟩ := eff_box (t := t) (v := z) H (hρk z ▸ VRep.c' z) hok.1.1 hok.1.2 hok.2
    exact ⟨_, _, g', .inl (vrun (run_alloc_op hz w)), h1, h2, h3⟩
  | box t x =>
    simp only [compO, Option.bind_eq_some_iff, Option.map_eq_some_iff] at hc; obtain ⟨n, hn, y, hy, rfl⟩ := hc
    simp only [evE, Bool.and_eq_true, beq_iff_eq, decide_eq_true_eq] at hok ⊢
    obtain ⟨cv, w', g', rfl, rfl, h1, h2, h3⟩ := eff_box (t := t) H (hρ x y hy) hok.1.1 hok.1.2 hok.2
    exact ⟨_, _, g', .inl (vrun (run_box_op t _ w)), h1, h2, h3⟩
  | buildSlice t n ps =>
    simp only [compO, Option.bind_eq_some_iff, Option.map_eq_some_iff] at hc; obtain ⟨e', he, sh, hsh, s, hs, z, hz, qs, hqs, rfl⟩ := hc
    have hu : P.underlying t = some (.slice e') := by unfold elemOf? at he; split at he <;> simp at he; subst he; assumption
    obtain ⟨c1, c2⟩ := compElems_ok hρ hqs
    simp only [evE, Bool.and_eq_true, beq_iff_eq, decide_eq_true_eq] at hok ⊢
    obtain ⟨cv, w', g', h0, h1, h2, h3, _⟩ := eff_bslice hu hsh hs hz H (ps := ps.toList.map fun p => (p.1, a.eval p.2)) (qs := qs) (ρ := ρ) (by simpa using c1) (fun i p q hp hq => by
      simp only [List.getElem?_map, Option.map_eq_some_iff] at hp
      obtain ⟨r, hr, rfl⟩ := hp
      exact c2 i r q hr hq) hok.1.1.1.1.1 hok.1.1.1.1.2 hok.1.1.1.2 hok.1.1.2 hok.1.2 (fun q hq => by
        have := List.all_eq_true.1 hok.2 q hq
        simpa [and_assoc] using this)
    refine ⟨cv, w', g', .inl (vrun ?_), h1, h2, h3⟩
    rw [← h0]
    congr 2
    cases ps; simp
  | store t x y =>
    simp only [compO, Option.bind_eq_some_iff, Option.map_eq_some_iff] at hc; obtain ⟨n, hn, x', hx, y', hy, rfl⟩ := hc
    have hvx := hρ x x' hx
    simp only [evE] at hok ⊢
    split at hok
    · rename_i j ver i o hp
      rw [hp] at hvx
      simp only [Bool.and_eq_true, decide_eq_true_eq, Bool.not_eq_true'] at hok
      obtain ⟨w', h1, h2, h3⟩ := eff_store hn H hvx (hρ y y' hy) hok.1.1.1.1.1 hok.1.1.1.1.2 hok.1.1.1.2 hok.1.1.2 hok.1.2.1 hok.1.2.2 hok.2
      refine ⟨undef, w', g, .inr ⟨?_, rfl⟩, ?_, h2, ?_⟩
      · simp [execOp, h1]
      · exact VRep.c' _
      · exact h3
    · cases hok
  | makeSlice t l c =>
    simp only [compO, Option.bind_eq_some_iff, Option.map_eq_some_iff] at hc; obtain ⟨l', hl, e', he, s, hs, by', hby, z, hz, rfl⟩ := hc
    have hu : P.underlying t = some (.slice e') := by unfold elemOf? at he; split at he <;> simp at he; subst he; assumption
    simp only [evE, Bool.and_eq_true, beq_iff_eq, decide_eq_true_eq] at hok ⊢
    have hlc : VRep g w (a.eval l) (ρ l') ∧ VRep g w (a.eval c) (ρ l') := by
      unfold compLen at hl
      split at hl
      · rename_i p q
        split at hl
        · rename_i hpq
          subst hpq
          have := hρ (.tmp p) l' (by simpa [compX] using hl)
          exact ⟨this, this⟩
        · cases hl
      · rename_i p q
        split at hl
        · rename_i hpq
          subst hpq
          have := hρ (.const (.int .i64 p)) l' (by simpa [compX] using hl)
          exact ⟨this, this⟩
        · cases hl
      · cases hl
    obtain ⟨k1, hk1⟩ := asI_ok hlc.1 hok.1.1.1
    obtain ⟨k2, hk2⟩ := asI_ok hlc.2 hok.1.1.1
    obtain ⟨cv, w', g', h0, h1, h2, h3, _⟩ := eff_mkslice (k := k1) (k' := k2) hu hs hby hz H hok.1.1.2.1 hok.1.1.2.2.1 hok.1.1.2.2.2.1 hok.1.1.2.2.2.2 hok.1.2 hok.2
    exact ⟨cv, w', g', .inl (vrun (by rw [hk1, hk2]; exact h0)), h1, h2, h3⟩
  | call c =>
    simp only [compO] at hc
    obtain ⟨callee, args, argTypes⟩ := c
    unfold compCall at hc
    simp only at hc
    split at hc
    · simp only [Option.map_eq_some_iff] at hc; obtain ⟨_, _, rfl⟩ := hc; cases hcall
    · simp only [Option.bind_eq_some_iff, Option.map_eq_some_iff] at hc; obtain ⟨_, _, _, _, rfl⟩ := hc; cases hcall
    · cases hc
    · split at hc
      · split at hc <;> simp at hc
        · obtain ⟨_, _, rfl⟩ := hc; cases hst
        · obtain ⟨_, _, rfl⟩ := hc; cases hst
        · subst hc; cases hst
      · rename_i x y t u hargs htys
        simp only [Option.bind_eq_some_iff] at hc
        obtain ⟨e1, he1, e2, he2, s1, hs1, s2, hs2, by', hby, z, hz, hc⟩ := hc
        split at hc
        · rename_i hcond
          obtain ⟨rfl, rfl, hzs⟩ := hcond
          simp only [Option.bind_eq_some_iff, Option.map_eq_some_iff] at hc
          obtain ⟨x', hx, y', hy, rfl⟩ := hc
          have hu : P.underlying t = some (.slice e1) := by unfold elemOf? at he1; split at he1 <;> simp at he1; subst he1; assumption
          have hvx := hρ x x' hx
          have hvy := hρ y y' hy
          have key : ∀ cv w', (Builtin.append_ #[t, t] type #[a.eval x, a.eval y]).run P w = .ok cv w' → (execOp a.eval { dst := dst, op := .call { callee := .builtin .append, args := args, argTypes := argTypes }, type := type, pos := pos, after := after, guard := guard }).run P w = .ok (.value cv) w' := by
            intro cv w' hr
            rw [two_of hargs, two_of htys]
            simp [execOp, resolve, invoke, builtin, hr]
          simp only [evE] at hok ⊢
          split at hok
          · rename_i hp
            rw [hp] at hvx
            have := hvx.inv_c
            simp only [Bool.and_eq_true, decide_eq_true_eq] at hok
            obtain ⟨cv, w', g', h0, h1, h2, h3⟩ := eff_append_nil (ty := type) hu hs1 hby hz hzs H hvy hok.1 hok.2.1 hok.2.2.1 hok.2.2.2
            exact ⟨cv, w', g', .inl (key cv w' (by rw [this]; exact h0)), h1, h2, h3⟩
          · rename_i j ver off len hp
            rw [hp] at hvx
            simp only [Bool.and_eq_true, decide_eq_true_eq, beq_iff_eq, Bool.not_eq_true'] at hok
            obtain ⟨⟨⟨⟨⟨k1, k2⟩, k3⟩, k4⟩, rfl⟩, k5, k6, k7, k8⟩ := hok
            obtain ⟨cv, w', g', h0, h1, h2, h3⟩ := eff_append_ref (ty := type) hu hs1 hby hz hzs H hvx hvy k1 k5 k2 k3 k4 k6 k7 k8
            exact ⟨cv, w', g', .inl (key cv w' h0), h1, h2, h3⟩
          · cases hok
        · cases hc
      · simp only [Option.bind_eq_some_iff, Option.map_eq_some_iff] at hc; obtain ⟨_, _, _, _, rfl⟩ := hc; cases hst
      · simp only [Option.bind_eq_some_iff, Option.map_eq_some_iff] at hc; obtain ⟨_, _, _, _, rfl⟩ := hc; cases hst
      · rename_i x t hargs htys
        simp only [Option.bind_eq_some_iff] at hc
        obtain ⟨e1, he1, s1, hs1, z, hz, hc⟩ := hc
        split at hc
        · rename_i hcond
          obtain ⟨hzs, hz1⟩ := hcond
          simp only [Option.map_eq_some_iff] at hc
          obtain ⟨x', hx, rfl⟩ := hc
          have hu : P.underlying t = some (.slice e1) := by unfold elemOf? at he1; split at he1 <;> simp at he1; subst he1; assumption
          have hvx := hρ x x' hx
          simp only [evE] at hok ⊢
          split at hok
          · rename_i j ver off len hp
            rw [hp] at hvx
            simp only [Bool.and_eq_true, decide_eq_true_eq, beq_iff_eq, Bool.not_eq_true'] at hok
            obtain ⟨⟨⟨k1, k2⟩, k3⟩, k4, k5, k6⟩ := hok
            obtain ⟨w', h0, h1, h2⟩ := eff_clear (ty := type) hu hz hzs hz1 H hvx k4 k5 k1 k2 k3 k6
            refine ⟨_, w', g, .inl (vrun ?_), VRep.c' _, h1, h2⟩
            rw [one_of hargs, one_of htys]
            simp [h0]
          · cases hok
        · cases hc
      · cases hc
  | move x => simp only [compO, Option.map_eq_some_iff] at hc; obtain ⟨_, _, rfl⟩ := hc; cases hst
  | assign x => simp only [compO, Option.map_eq_some_iff] at hc; obtain ⟨_, _, rfl⟩ := hc; cases hst
  | nilCheck x => simp only [compO, Option.map_eq_some_iff] at hc; obtain ⟨_, _, rfl⟩ := hc; cases hst
  | unOp op t x => simp only [compO, Option.map_eq_some_iff] at hc; obtain ⟨_, _, rfl⟩ := hc; cases hst
  | extract x i => simp only [compO, Option.map_eq_some_iff] at hc; obtain ⟨_, _, rfl⟩ := hc; cases hst
  | load t x => simp only [compO, Option.bind_eq_some_iff, Option.map_eq_some_iff] at hc; obtain ⟨_, _, _, _, rfl⟩ := hc; cases hst
  | field t x f => simp only [compO, Option.bind_eq_some_iff, Option.map_eq_some_iff] at hc; obtain ⟨_, _, _, _, _, _, rfl⟩ := hc; cases hst
  | fieldAddr t x f =>
    simp only [compO, Option.bind_eq_some_iff] at hc; obtain ⟨F, hF, s, hs, hc⟩ := hc
    split at hc
    · cases hc
    · simp only [Option.map_eq_some_iff] at hc; obtain ⟨_, _, rfl⟩ := hc; cases hst
  | indexAddr t x i =>
    simp only [compO] at hc
    split at hc
    · simp only [Option.bind_eq_some_iff, Option.map_eq_some_iff] at hc; obtain ⟨_, _, _, _, _, _, _, _, rfl⟩ := hc; cases hst
    · simp only [Option.bind_eq_some_iff, Option.map_eq_some_iff] at hc; obtain ⟨_, _, _, _, _, _, rfl⟩ := hc; cases hst
    · cases hc
  | index t x i =>
    simp only [compO] at hc
    split at hc
    · simp only [Option.bind_eq_some_iff, Option.map_eq_some_iff] at hc; obtain ⟨_, _, _, _, rfl⟩ := hc; cases hst
    · simp only [Option.bind_eq_some_iff, Option.map_eq_some_iff] at hc; obtain ⟨_, _, _, _, _, _, _, _, rfl⟩ := hc; cases hst
    · cases hc
  | slice t x lo hi mx =>
    cases mx with
    | some _ => simp [compO] at hc
    | none =>
      simp only [compO] at hc
      split at hc
      · simp only [Option.bind_eq_some_iff, Option.map_eq_some_iff] at hc; obtain ⟨_, _, _, _, _, _, rfl⟩ := hc; cases hst
      · simp only [Option.bind_eq_some_iff, Option.map_eq_some_iff] at hc; obtain ⟨_, _, _, _, _, _, _, _, rfl⟩ := hc; cases hst
      · cases hc
  | convert s d x =>
    simp only [compO] at hc
    split at hc
    · simp only [Option.map_eq_some_iff] at hc; obtain ⟨_, _, rfl⟩ := hc; cases hst
    · simp only [Option.map_eq_some_iff] at hc; obtain ⟨_, _, rfl⟩ := hc; cases hst
    · cases hc
  | makeFunc fn first caps =>
    cases fn with
    | func f =>
      simp only [compO] at hc
      split at hc
      · simp only [Option.map_eq_some_iff] at hc; obtain ⟨_, _, rfl⟩ := hc; cases hst
      · cases hc
    | _ => simp [compO] at hc
  | build t ps =>
    simp only [compO] at hc
    split at hc
    · split at hc
      · simp only [Option.bind_eq_some_iff, Option.map_eq_some_iff] at hc; obtain ⟨_, _, _, _, rfl⟩ := hc; cases hst
      · cases hc
    · simp only [Option.bind_eq_some_iff, Option.map_eq_some_iff] at hc; obtain ⟨_, _, _, _, _, _, _, _, rfl⟩ := hc; cases hst
    · cases hc
  | binOp op t x y u =>
    simp only [compO, Option.bind_eq_some_iff] at hc; obtain ⟨_, _, _, _, hc⟩ := hc
    unfold compBin at hc
    split at hc
    · cases op <;> simp at hc <;> subst hc <;> cases hst
    · cases op <;> simp at hc <;> subst hc <;> cases hst
    · cases op <;> simp at hc <;> subst hc <;> cases hst
    · split at hc <;> simp at hc <;> subst hc <;> cases hst
    · cases hc
  | _ => simp [compO] at hc
def O.isF : O → Bool
  | .bslice .. | .mkslice .. => true
  | _ => false
theorem compCall_isF {c : Call} {O' : O} (hc : compCall P c = some O') (hF : O'.isF = true) : False := by
  obtain ⟨callee, args, tys⟩ := c
  unfold compCall at hc
  simp only at hc
  split at hc
  · simp only [Option.map_eq_some_iff] at hc; obtain ⟨_, _, rfl⟩ := hc; cases hF
  · simp only [Option.bind_eq_some_iff, Option.map_eq_some_iff] at hc; obtain ⟨_, _, _, _, rfl⟩ := hc; cases hF
  · cases hc
  · split at hc
    · split at hc
      · simp only [Option.map_eq_some_iff] at hc; obtain ⟨_, _, rfl⟩ := hc; cases hF
      · simp only [Option.map_eq_some_iff] at hc; obtain ⟨_, _, rfl⟩ := hc; cases hF
      · obtain rfl := Option.some.inj hc; cases hF
      · cases hc
    · simp only [Option.bind_eq_some_iff] at hc
      obtain ⟨_, _, _, _, _, _, _, _, _, _, _, _, hc⟩ := hc
      split at hc
      · simp only [Option.bind_eq_some_iff, Option.map_eq_some_iff] at hc; obtain ⟨_, _, _, _, rfl⟩ := hc; cases hF
      · cases hc
    · simp only [Option.bind_eq_some_iff, Option.map_eq_some_iff] at hc; obtain ⟨_, _, _, _, rfl⟩ := hc; cases hF
    · simp only [Option.bind_eq_some_iff, Option.map_eq_some_iff] at hc; obtain ⟨_, _, _, _, rfl⟩ := hc; cases hF
    · simp only [Option.bind_eq_some_iff] at hc
      obtain ⟨_, _, _, _, _, _, hc⟩ := hc
      split at hc
      · simp only [Option.map_eq_some_iff] at hc; obtain ⟨_, _, rfl⟩ := hc; cases hF
      · cases hc
    · cases hc
theorem compO_isF {op : Op} {O' : O} (hc : compO P op = some O') (hst : O'.isF = true) : (∃ t n ps, op = .buildSlice t n ps) ∨ ∃ t l c, op = .makeSlice t l c := by
  cases op with
  | call c => exact (compCall_isF (by simpa [compO] using hc) hst).elim
  | alloc t => simp only [compO, Option.bind_eq_some_iff, Option.map_eq_some_iff] at hc; obtain ⟨_, _, _, _, rfl⟩ := hc; cases hst
  | box t x => simp only [compO, Option.bind_eq_some_iff, Option.map_eq_some_iff] at hc; obtain ⟨_, _, _, _, rfl⟩ := hc; cases hst
  | buildSlice t n ps => exact .inl ⟨t, n, ps, rfl⟩
  | store t x y => simp only [compO, Option.bind_eq_some_iff, Option.map_eq_some_iff] at hc; obtain ⟨_, _, _, _, _, _, rfl⟩ := hc; cases hst
  | makeSlice t l c => exact .inr ⟨t, l, c, rfl⟩
  | move x => simp only [compO, Option.map_eq_some_iff] at hc; obtain ⟨_, _, rfl⟩ := hc; cases hst
  | assign x => simp only [compO, Option.map_eq_some_iff] at hc; obtain ⟨_, _, rfl⟩ := hc; cases hst
  | nilCheck x => simp only [compO, Option.map_eq_some_iff] at hc; obtain ⟨_, _, rfl⟩ := hc; cases hst
  | unOp op t x => simp only [compO, Option.map_eq_some_iff] at hc; obtain ⟨_, _, rfl⟩ := hc; cases hst
  | extract x i => simp only [compO, Option.map_eq_some_iff] at hc; obtain ⟨_, _, rfl⟩ := hc; cases hst
  | load t x => simp only [compO, Option.bind_eq_some_iff, Option.map_eq_some_iff] at hc; obtain ⟨_, _, _, _, rfl⟩ := hc; cases hst
  | field t x f => simp only [compO, Option.bind_eq_some_iff, Option.map_eq_some_iff] at hc; obtain ⟨_, _, _, _, _, _, rfl⟩ := hc; cases hst
  | fieldAddr t x f =>
    simp only [compO, Option.bind_eq_some_iff] at hc; obtain ⟨F, hF, s, hs, hc⟩ := hc
    split at hc
    · cases hc
    · simp only [Option.map_eq_some_iff] at hc; obtain ⟨_, _, rfl⟩ := hc; cases hst
  | indexAddr t x i =>
    simp only [compO] at hc
    split at hc
    · simp only [Option.bind_eq_some_iff, Option.map_eq_some_iff] at hc; obtain ⟨_, _, _, _, _, _, _, _, rfl⟩ := hc; cases hst
    · simp only [Option.bind_eq_some_iff, Option.map_eq_some_iff] at hc; obtain ⟨_, _, _, _, _, _, rfl⟩ := hc; cases hst
    · cases hc
  | index t x i =>
    simp only [compO] at hc
    split at hc
    · simp only [Option.bind_eq_some_iff, Option.map_eq_some_iff] at hc; obtain ⟨_, _, _, _, rfl⟩ := hc; cases hst
    · simp only [Option.bind_eq_some_iff, Option.map_eq_some_iff] at hc; obtain ⟨_, _, _, _, _, _, _, _, rfl⟩ := hc; cases hst
    · cases hc
  | slice t x lo hi mx =>
    cases mx with
    | some _ => simp [compO] at hc
    | none =>
      simp only [compO] at hc
      split at hc
      · simp only [Option.bind_eq_some_iff, Option.map_eq_some_iff] at hc; obtain ⟨_, _, _, _, _, _, rfl⟩ := hc; cases hst
      · simp only [Option.bind_eq_some_iff, Option.map_eq_some_iff] at hc; obtain ⟨_, _, _, _, _, _, _, _, rfl⟩ := hc; cases hst
      · cases hc
  | convert s d x =>
    simp only [compO] at hc
    split at hc
    · simp only [Option.map_eq_some_iff] at hc; obtain ⟨_, _, rfl⟩ := hc; cases hst
    · simp only [Option.map_eq_some_iff] at hc; obtain ⟨_, _, rfl⟩ := hc; cases hst
    · cases hc
  | makeFunc fn first caps =>
    cases fn with
    | func f =>
      simp only [compO] at hc
      split at hc
      · simp only [Option.map_eq_some_iff] at hc; obtain ⟨_, _, rfl⟩ := hc; cases hst
      · cases hc
    | _ => simp [compO] at hc
  | build t ps =>
    simp only [compO] at hc
    split at hc
    · split at hc
      · simp only [Option.bind_eq_some_iff, Option.map_eq_some_iff] at hc; obtain ⟨_, _, _, _, rfl⟩ := hc; cases hst
      · cases hc
    · simp only [Option.bind_eq_some_iff, Option.map_eq_some_iff] at hc; obtain ⟨_, _, _, _, _, _, _, _, rfl⟩ := hc; cases hst
    · cases hc
  | binOp op t x y u =>
    simp only [compO, Option.bind_eq_some_iff] at hc; obtain ⟨_, _, _, _, hc⟩ := hc
    unfold compBin at hc
    split at hc
    · cases op <;> simp at hc <;> subst hc <;> cases hst
    · cases op <;> simp at hc <;> subst hc <;> cases hst
    · cases op <;> simp at hc <;> subst hc <;> cases hst
    · split at hc <;> simp at hc <;> subst hc <;> cases hst
    · cases hc
  | _ => simp [compO] at hc
/-- New memory that is not written again. -/
theorem effF_ok {o : Oper} {O' : O} (hc : compO P o.op = some O') (hF : O'.isF = true) (R : Rel N g e h w0 own0 a w) (hok : okE O' e h = true) :
    ∃ cv w' g', (execOp a.eval o).run P w = .ok (.value cv) w' ∧ VRep g' w' cv (evE O' (uval e) h).1 ∧ Ext g w g' w' ∧ HRel g' (evE O' (uval e) h).2.1 w' w0 own0 ∧ Grow w w' := by
  simp only [okE, Bool.and_eq_true] at hok
  have hco := evE_congr (o := O') (ρ := uval e) (ρ' := Sx.see e) (fun x hx => see_of (List.all_eq_true.1 hok.1 x hx)) h
  rw [hco] at hok ⊢
  have hok := hok.2
  have hρ := R.see
  have H := R.heap
  have hρk : ∀ v, Sx.see e (.k v) = .c v := see_k
  generalize Sx.see e = ρ at *
  obtain ⟨dst, op, type, pos, after, guard⟩ := o
  simp only at hc
  rcases compO_isF hc hF with ⟨t, n, ps, rfl⟩ | ⟨t, l, c, rfl⟩
  · simp only [compO, Option.bind_eq_some_iff, Option.map_eq_some_iff] at hc; obtain ⟨e', he, sh, hsh, s, hs, z, hz, qs, hqs, rfl⟩ := hc
    have hu : P.underlying t = some (.slice e') := by unfold elemOf? at he; split at he <;> simp at he; subst he; assumption
    obtain ⟨c1, c2⟩ := compElems_ok hρ hqs
    simp only [evE, Bool.and_eq_true, beq_iff_eq, decide_eq_true_eq] at hok ⊢
    obtain ⟨cv, w', g', h0, h1, h2, h3, h4⟩ := eff_bslice hu hsh hs hz H (ps := ps.toList.map fun p => (p.1, a.eval p.2)) (qs := qs) (ρ := ρ) (by simpa using c1) (fun i p q hp hq => by
      simp only [List.getElem?_map, Option.map_eq_some_iff] at hp
      obtain ⟨r, hr, rfl⟩ := hp
      exact c2 i r q hr hq) hok.1.1.1.1.1 hok.1.1.1.1.2 hok.1.1.1.2 hok.1.1.2 hok.1.2 (fun q hq => by
        have := List.all_eq_true.1 hok.2 q hq
        simpa [and_assoc] using this)
    refine ⟨cv, w', g', vrun ?_, h1, h2, h3, h4⟩
    rw [← h0]
    congr 2
    cases ps; simp
  · simp only [compO, Option.bind_eq_some_iff, Option.map_eq_some_iff] at hc; obtain ⟨l', hl, e', he, s, hs, by', hby, z, hz, rfl⟩ := hc
    have hu : P.underlying t = some (.slice e') := by unfold elemOf? at he; split at he <;> simp at he; subst he; assumption
    simp only [evE, Bool.and_eq_true, beq_iff_eq, decide_eq_true_eq] at hok ⊢
    have hlc : VRep g w (a.eval l) (ρ l') ∧ VRep g w (a.eval c) (ρ l') := by
      unfold compLen at hl
      split at hl
      · rename_i p q
        split at hl
        · rename_i hpq
          subst hpq
          have := hρ (.tmp p) l' (by simpa [compX] using hl)
          exact ⟨this, this⟩
        · cases hl
      · rename_i p q
        split at hl
        · rename_i hpq
          subst hpq
          have := hρ (.const (.int .i64 p)) l' (by simpa [compX] using hl)
          exact ⟨this, this⟩
        · cases hl
      · cases hl
    obtain ⟨k1, hk1⟩ := asI_ok hlc.1 hok.1.1.1
    obtain ⟨k2, hk2⟩ := asI_ok hlc.2 hok.1.1.1
    obtain ⟨cv, w', g', h0, h1, h2, h3, h4⟩ := eff_mkslice (k := k1) (k' := k2) hu hs hby hz H hok.1.1.2.1 hok.1.1.2.2.1 hok.1.1.2.2.2.1 hok.1.1.2.2.2.2 hok.1.2 hok.2
    exact ⟨cv, w', g', vrun (by rw [hk1, hk2]; exact h0), h1, h2, h3, h4⟩
end
end Go.Sx
