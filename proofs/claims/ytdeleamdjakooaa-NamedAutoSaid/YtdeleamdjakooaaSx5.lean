/- The operations that leave memory as it is: each gives in memory what the abstract machine says. -/
import Derived.Test.YtdeleamdjakooaaSx4
namespace Go.Sx
section
variable {P : Program} {g : Gh} {w w0 w' : World} {own0 : Own} {h : Heap}

theorem wrap_id {n : Int} (h : inR n = true) : IntKind.i64.wrap n = n := by
  simp only [inR, decide_eq_true_eq] at h
  rw [IntKind.wrap_i64]; omega
theorem arith_ok {k : IntKind} {n : Int} (h : (arith k n).2 = true) : (arith k n).1 = .c (.int k (k.wrap n)) := by
  cases k <;> simp only [arith] at h ⊢
  rw [wrap_id h]

theorem int_beq (a b : Int) : (a == b) = decide (a = b) := by rw [Bool.eq_iff_iff]; simp
theorem run_eqGuard_int (op : BinOp) (t : TypeId) (x y : Operand) (k k' : IntKind) (a b : Int) (w : World) : (eqGuard op t x y (.int k a) (.int k' b)).run P w = .ok () w := by
  cases op <;> rfl
theorem run_eqGuard_str (op : BinOp) (t : TypeId) (x y : Operand) (a b : ByteArray) (w : World) : (eqGuard op t x y (.string a) (.string b)).run P w = .ok () w := by
  cases op <;> rfl
theorem run_eqGuard_bool (op : BinOp) (t : TypeId) (x y : Operand) (a b : Bool) (w : World) : (eqGuard op t x y (.bool a) (.bool b)).run P w = .ok () w := by
  cases op <;> rfl

theorem beq_bytes (s t : ByteArray) : (s.toList == t.toList) = decide (s = t) := by
  rw [Lib.toList_data, Lib.toList_data, Bool.eq_iff_iff, beq_iff_eq, decide_eq_true_eq]
  constructor
  · intro h
    cases s; cases t
    simp at h
    rw [h]
  · rintro rfl; rfl

theorem run_bin {op : BinOp} {t : TypeId} {x y : Operand} {a b : Value} (hop : op = .add ∨ op = .sub ∨ op = .mul ∨ op = .quo ∨ op = .rem ∨ op = .eql ∨ op = .neq ∨ op = .lss ∨ op = .leq ∨ op = .gtr ∨ op = .geq)
    (hok : (binV op a b).2 = true) : ∃ cv, (binV op a b).1 = .c cv ∧ ∀ w : World, (do eqGuard op t x y a b; binOp op t a b : Sem Value).run P w = .ok cv w := by
  unfold binV at hok ⊢
  split at hok
  · rename_i k a k' b
    split at hok
    · rename_i hk
      subst hk
      simp only [if_true]
      rcases hop with rfl | rfl | rfl | rfl | rfl | rfl | rfl | rfl | rfl | rfl | rfl <;> simp only [Bool.and_eq_true, decide_eq_true_eq] at hok ⊢
      · exact ⟨_, arith_ok hok, fun w => by simp [run_eqGuard_int, binOp, Op.intArith]⟩
      · exact ⟨_, arith_ok hok, fun w => by simp [run_eqGuard_int, binOp, Op.intArith]⟩
      · exact ⟨_, arith_ok hok, fun w => by simp [run_eqGuard_int, binOp, Op.intArith]⟩
      · exact ⟨_, arith_ok hok.1, fun w => by simp [run_eqGuard_int, binOp, Op.intDiv, hok.2]⟩
      · exact ⟨_, rfl, fun w => by simp [run_eqGuard_int, binOp, Op.intDiv, hok]⟩
      · exact ⟨_, rfl, fun w => by simp [run_eqGuard_int, binOp, Op.intCmp, int_beq]⟩
      · exact ⟨_, rfl, fun w => by simp [run_eqGuard_int, binOp, Op.intCmp, bne, int_beq]⟩
      · exact ⟨_, rfl, fun w => by simp [run_eqGuard_int, binOp, Op.intCmp]⟩
      · exact ⟨_, rfl, fun w => by simp [run_eqGuard_int, binOp, Op.intCmp]⟩
      · exact ⟨_, rfl, fun w => by simp [run_eqGuard_int, binOp, Op.intCmp]⟩
      · exact ⟨_, rfl, fun w => by simp [run_eqGuard_int, binOp, Op.intCmp]⟩
    · simp at hok
  · rename_i s t
    rcases hop with rfl | rfl | rfl | rfl | rfl | rfl | rfl | rfl | rfl | rfl | rfl <;> simp only [] at hok ⊢ <;> first | (cases hok; done) | skip
    · refine ⟨_, rfl, fun w => ?_⟩
      have : ¬ (9223372036854775807 < (s.size : Int) + (t.size : Int)) := by simp [inR] at hok; omega
      simp [run_eqGuard_str, binOp, Op.stringOp, this]
    · exact ⟨_, rfl, fun w => by simp [run_eqGuard_str, binOp, Op.stringOp, beq_bytes]⟩
    · exact ⟨_, rfl, fun w => by simp [run_eqGuard_str, binOp, Op.stringOp, beq_bytes]⟩
  · cases hok

theorem run_equalIn_bool {t : TypeId} (d : Nat) (a b : Bool) (hu : P.underlying t = some .bool) (w : World) : (Op.equalIn (d + 1) t (.bool a) (.bool b)).run P w = .ok (a == b) w := by
  simp only [Op.equalIn, Sem.run_bind, run_underlying hu, Result.andThen_ok, Sem.run_pure]
theorem run_equal_bool {t : TypeId} (a b : Bool) (hu : P.underlying t = some .bool) (w : World) : (Op.equal t (.bool a) (.bool b)).run P w = .ok (a == b) w :=
  run_equalIn_bool 9999 a b hu w
theorem run_eqb {neg : Bool} {t : TypeId} {x y : Operand} {a b : Bool} (hu : P.underlying t = some .bool) (w : World) :
    (do eqGuard (if neg then .neq else .eql) t x y (.bool a) (.bool b); binOp (if neg then .neq else .eql) t (.bool a) (.bool b) : Sem Value).run P w = .ok (.bool ((a == b) != neg)) w := by
  cases neg <;> simp only [Bool.false_eq_true, if_false, if_true, Sem.run_bind, run_eqGuard_bool, binOp, run_equal_bool a b hu, Result.andThen_ok, Sem.run_pure] <;> cases a <;> cases b <;> rfl

theorem asB_ok {v : Value} {x : V} (hv : VRep g w v x) (h : (asB x).2 = true) : v = .bool (asB x).1 := by
  unfold asB at h ⊢
  split at h
  · exact hv.inv_c
  · cases h
theorem asI_ok {v : Value} {x : V} (hv : VRep g w v x) (h : (asI x).2 = true) : ∃ k, v = .int k (asI x).1 := by
  unfold asI at h ⊢
  split at h
  · exact ⟨_, hv.inv_c⟩
  · cases h

theorem still_idxAddr {t e : TypeId} {sz : Nat} (hu : P.underlying t = some (.slice e)) (hs : szOf P e = some sz) (H : HRel g h w w0 own0) {v vi : Value} {x i : V} (d : List V) (hv : VRep g w v x) (hi : VRep g w vi i)
    (hok : ((asI i).2 && h.idxOK sz x (asI i).1) = true) :
    ∃ cv, VRep g w cv (x.idx d (asI i).1.toNat) ∧ ∀ w', (Instr.indexAt t v vi).run P w' = .ok cv w' := by
  rw [Bool.and_eq_true] at hok
  obtain ⟨hI, hok⟩ := hok
  obtain ⟨k, rfl⟩ := asI_ok hi hI
  clear hI
  generalize (asI i).1 = n at *
  unfold Heap.idxOK at hok
  have key : ∀ (a : Addr) (len cap : Nat) w', 0 ≤ n → n < len → (Instr.indexAt t (.slice (some a) len cap) (.int k n)).run P w' = .ok (.pointer (some (a.add (n.toNat * sz)))) w' := by
    intro a len cap w' h1 h2
    simp [Instr.indexAt, asIntOf, run_underlying hu, h1, h2, run_sizeOf hs]
  split at hok
  · rename_i s es
    simp only [Bool.and_eq_true, beq_iff_eq, decide_eq_true_eq] at hok
    obtain ⟨rfl, h1, h2⟩ := hok
    cases hv.inv_slc with
    | slc a m cap _ _ b o xs hn hcap hsz ha hx hr =>
      subst hn
      have hl : n.toNat < es.length := by omega
      obtain ⟨rfl, hF⟩ := ha (by omega)
      have hle : (es.getD n.toNat []).length = s := hsz _ (by rw [List.getD_eq_getElem?_getD, List.getElem?_eq_getElem hl]; exact List.getElem_mem _)
      refine ⟨_, ?_, fun w' => key _ _ _ w' h1 h2⟩
      rw [Addr.add_lit]
      simp only [V.idx]
      rw [getD_irr hl d]
      refine .p _ _ (.pp b _ _ (fun k => xs n.toNat k) hF (fun k hk => ?_) (fun k hk => ?_))
      · rw [hle] at hk; rw [Nat.add_assoc]; exact hx _ _ hl hk
      · rw [hle] at hk; exact hr _ _ hl hk
  · rename_i j ver off len
    simp only [Bool.and_eq_true, beq_iff_eq, decide_eq_true_eq] at hok
    obtain ⟨⟨hc, hs'⟩, h1, h2⟩ := hok
    obtain ⟨B, I, hB, hI, hbl, hBv, hIv, hk⟩ := H.cur hc
    obtain ⟨hlt, hp⟩ := hv.inv_ref
    have hr := hp I hI hIv
    unfold RefOK at hr
    split at hr
    · omega
    · rename_i b hb
      obtain ⟨a, cap, rfl, h3, h4, h5⟩ := hr
      obtain rfl := h5 (by omega)
      refine ⟨_, ?_, fun w' => key _ _ _ w' h1 h2⟩
      refine .ptr _ _ _ _ _ hlt fun J hJ hJv => ?_
      obtain rfl : I = J := Option.some.inj (hI.symm.trans hJ)
      rw [hbl] at hs'
      exact ⟨b, hb, by rw [Addr.add_lit, hk.sz, hs', Nat.add_mul]; rfl⟩
  · cases hok

theorem still_idxAddrA {t e : TypeId} {len sz : Nat} (hu : P.underlying t = some (.array len e)) (hs : szOf P e = some sz) (H : HRel g h w w0 own0) {v vi : Value} {x i : V} (hv : VRep g w v x) (hi : VRep g w vi i)
    (h1 : (asI i).2 = true) (h2 : 0 ≤ (asI i).1 ∧ (asI i).1 < len) (h3 : h.isPtr x = true) :
    ∃ cv, VRep g w cv (x.off ((asI i).1.toNat * sz)) ∧ ∀ w', (Instr.indexAt t v vi).run P w' = .ok cv w' := by
  obtain ⟨k, rfl⟩ := asI_ok hi h1
  obtain ⟨b, q, rfl, hr⟩ := off_ok ((asI i).1.toNat * sz) H hv h3
  refine ⟨_, hr, fun w' => ?_⟩
  by_cases hl : len ≤ 1
  · simp [Instr.indexAt, asIntOf, run_underlying hu, Instr.sureAddr, h2, run_sizeOf hs, Addr.add_lit]
  · simp [Instr.indexAt, asIntOf, run_underlying hu, Instr.sureAddr, h2, run_sizeOf hs, Addr.add_lit]

theorem run_sliceBound {k : IntKind} {i : Int} {y : Nat} {code : BoundsCode} (h : 0 ≤ i ∧ i ≤ y) (w : World) : (Instr.sliceBound (.int k i) y code).run P w = .ok i.toNat w := by
  simp [Instr.sliceBound, asIntOf, h]
/-- What a bound says, if there is one; else d. -/
def BndIs (lo : Option Value) (d l : Nat) : Prop :=
  match lo with
  | none => l = d
  | some v => ∃ k, v = .int k l
theorem run_sliceBounds {isS : Bool} {len cap : Nat} {lo hi : Option Value} {l u : Nat} (w : World) (hlc : len ≤ cap)
    (hl : BndIs lo 0 l) (hu : BndIs hi len u) (h1 : l ≤ u) (h2 : u ≤ len) :
    (Instr.sliceBounds isS len cap lo hi none).run P w = .ok (l, u, cap) w := by
  have hb : ∀ (k : IntKind) (i y : Nat) (code : BoundsCode), i ≤ y → (Instr.sliceBound (.int k i) y code).run P w = .ok i w := fun k i y code h => by
    rw [run_sliceBound (by omega)]; simp
  unfold BndIs at hl hu
  cases lo with
  | none =>
    subst hl
    cases hi with
    | none => subst hu; simp [Instr.sliceBounds]
    | some v => obtain ⟨k, rfl⟩ := hu; simp [Instr.sliceBounds, hb k u cap _ (Nat.le_trans h2 hlc)]
  | some v =>
    obtain ⟨k, rfl⟩ := hl
    cases hi with
    | none => subst hu; simp [Instr.sliceBounds, hb k l u _ h1]
    | some v => obtain ⟨k', rfl⟩ := hu; simp [Instr.sliceBounds, hb k' u cap _ (Nat.le_trans h2 hlc), hb k l u _ h1]
end
end Go.Sx
