/- All operations that leave memory as it is: the theorem. -/
import Derived.Test.YtdeleamdjakooaaSx8
set_option maxHeartbeats 1000000
namespace Go.Sx
section
variable {P : Program} {g : Gh} {w w0 w' : World} {own0 : Own} {h : Heap}

theorem isPtr_ptr {x : V} {v : Value} (H : HRel g h w w0 own0) (hv : VRep g w v x) (hc : h.isPtr x = true) : ∃ a, v = .pointer (some a) := by
  obtain ⟨b, q, rfl, _⟩ := off_ok 0 H hv hc
  exact ⟨_, rfl⟩

theorem compBin_ok {op : BinOp} {t : TypeId} {x y : Operand} {x' y' : X} {o : O} (hc : compBin P op t x' y' y = some o) {ev : Operand → Value} {ρ : X → V} (hx : VRep g w (ev x) (ρ x')) (hy : VRep g w (ev y) (ρ y')) (hy' : ∀ v, y = .const v → ev y = v)
    (hok : (evP o ρ h).2 = true) : ∃ cv, VRep g w cv (evP o ρ h).1 ∧ ∀ w', (do eqGuard op t x y (ev x) (ev y); binOp op t (ev x) (ev y) : Sem Value).run P w' = .ok cv w' := by
  have hbin : ∀ (hop : op = .add ∨ op = .sub ∨ op = .mul ∨ op = .quo ∨ op = .rem ∨ op = .eql ∨ op = .neq ∨ op = .lss ∨ op = .leq ∨ op = .gtr ∨ op = .geq), (evP (.bin op x' y') ρ h).2 = true →
      ∃ cv, VRep g w cv (evP (.bin op x' y') ρ h).1 ∧ ∀ w', (do eqGuard op t x y (ev x) (ev y); binOp op t (ev x) (ev y) : Sem Value).run P w' = .ok cv w' := by
    intro hop hk
    simp only [evP] at hk ⊢
    split at hk
    · rename_i a b ha hb
      rw [ha] at hx; rw [hb] at hy
      have e1 := hx.inv_c
      have e2 := hy.inv_c
      obtain ⟨cv, h1, h2⟩ := run_bin (P := P) (t := t) (x := x) (y := y) hop hk
      rw [e1, e2]
      simp only [h1]
      exact ⟨cv, VRep.c' _, h2⟩
    · cases hk
  unfold compBin at hc
  split at hc
  · cases op <;> simp at hc <;> subst hc <;> exact hbin (by simp) hok
  · cases op <;> simp at hc <;> subst hc <;> exact hbin (by simp) hok
  · rename_i hu
    have hb : ∀ neg, o = .eqb neg x' y' → op = (if neg then .neq else .eql) → ∃ cv, VRep g w cv (evP o ρ h).1 ∧ ∀ w', (do eqGuard op t x y (ev x) (ev y); binOp op t (ev x) (ev y) : Sem Value).run P w' = .ok cv w' := by
      intro neg ho hop
      subst ho; subst hop
      simp only [evP, Bool.and_eq_true] at hok ⊢
      rw [asB_ok hx hok.1, asB_ok hy hok.2]
      exact ⟨_, VRep.c' _, fun w' => run_eqb hu w'⟩
    cases op <;> simp at hc
    · exact hb false hc.symm rfl
    · exact hb true hc.symm rfl
  · rename_i a b c hu
    have hb : ∀ neg, o = .eqn neg x' → op = (if neg then .neq else .eql) → y = .const .nilFunc → ∃ cv, VRep g w cv (evP o ρ h).1 ∧ ∀ w', (do eqGuard op t x y (ev x) (ev y); binOp op t (ev x) (ev y) : Sem Value).run P w' = .ok cv w' := by
      intro neg ho hop hyc
      subst ho; subst hop
      have hyv := hy' _ hyc
      rw [hyv]
      simp only [evP] at hok ⊢
      have he : ∀ (v : Value) (r : Bool), (∀ w', (Op.equal t v .nilFunc).run P w' = .ok r w') → (∀ nn x y w', (eqGuard nn t x y v .nilFunc).run P w' = .ok () w') → ((binOp .eql t v .nilFunc) = (do pure (.bool (← Op.equal t v .nilFunc))) ∧ (binOp .neq t v .nilFunc) = (do pure (.bool (!(← Op.equal t v .nilFunc))))) →
          ∀ w', (do eqGuard (if neg then .neq else .eql) t x y v .nilFunc; binOp (if neg then .neq else .eql) t v .nilFunc : Sem Value).run P w' = .ok (.bool (r != neg)) w' := by
        intro v r h1 h2 h3 w'
        obtain ⟨e1, e2⟩ := h3
        cases neg
        · simp only [Bool.false_eq_true, if_false, Sem.run_bind, h2, Result.andThen_ok, e1, h1, Sem.run_pure]; cases r <;> rfl
        · simp only [if_true, Sem.run_bind, h2, Result.andThen_ok, e2, h1, Sem.run_pure]; cases r <;> rfl
      have hd : ∀ d (v : Value) (w' : World), (∃ r, (v = .nilFunc ∧ r = true) ∨ (∃ f a cs, v = .func f a cs) ∧ r = false) → ∃ r, ((v = .nilFunc ∧ r = true) ∨ (∃ f a cs, v = .func f a cs) ∧ r = false) ∧ (Op.equalIn (d + 1) t v .nilFunc).run P w' = .ok r w' := by
        rintro d v w' ⟨r, ⟨rfl, rfl⟩ | ⟨⟨f, a, cs, rfl⟩, rfl⟩⟩
        · exact ⟨true, .inl ⟨rfl, rfl⟩, by simp only [Op.equalIn, Sem.run_bind, run_underlying hu, Result.andThen_ok, Sem.run_pure]⟩
        · exact ⟨false, .inr ⟨⟨f, a, cs, rfl⟩, rfl⟩, by simp only [Op.equalIn, Sem.run_bind, run_underlying hu, Result.andThen_ok, Sem.run_pure]⟩
      split at hok
      · rename_i hx'
        rw [hx'] at hx
        have e := hx.inv_c
        rw [e, hx']
        refine ⟨_, VRep.c' _, he .nilFunc true (fun w' => ?_) (fun nn x y w' => by cases nn <;> rfl) ⟨rfl, rfl⟩⟩
        obtain ⟨r, hr, h⟩ := hd 9999 .nilFunc w' ⟨true, .inl ⟨rfl, rfl⟩⟩
        rcases hr with ⟨_, rfl⟩ | ⟨⟨f, a, cs, hh⟩, _⟩
        · exact h
        · cases hh
      · rename_i f caps hx'
        rw [hx'] at hx
        obtain ⟨cs, e, _⟩ := hx.inv_fn
        rw [e, hx']
        refine ⟨_, VRep.c' _, he _ false (fun w' => ?_) (fun nn x y w' => by cases nn <;> rfl) ⟨rfl, rfl⟩⟩
        obtain ⟨r, hr, h⟩ := hd 9999 (.func (.func f) #[] cs) w' ⟨false, .inr ⟨⟨_, _, _, rfl⟩, rfl⟩⟩
        rcases hr with ⟨hh, _⟩ | ⟨_, rfl⟩
        · cases hh
        · exact h
      · cases hok
    split at hc <;> simp at hc
    · exact hb false hc.symm rfl rfl
    · exact hb true hc.symm rfl rfl
  · cases hc
end
end Go.Sx
