/- The law ChoosePrints: for every argument of its types the law returns true, and the arguments read as they did. No condition. -/
import Derived.Test.YtlcblcjpebabkaaRows
import Derived.Test.YtlcblcjpebabkaaC8v
import Derived.OpenShut
import Derived.ShutString
import Derived.ChangeOld
import Derived.Below
namespace Go.Proofs.Ytlcblcjpebabkaa
open Go.Sx
namespace ChoosePrintsDone
open Go.ChangeShapes Go.WideShapes Go.ChangeAt Go.RowKit Go.Sx
set_option linter.unusedVariables false
theorem own : ownKnob Try.prog.godebug = none := by kernel_rfl
theorem laidOut : laidOutB Try.prog = true := by kernel_rfl
set_option maxRecDepth 100000 in
theorem lifted (os : Os) (started : os.Started) (H : Type) (enc : TypeId × Value → H) :
    ReturnsInHanded {} Try.checked os 6 .any (Rows.choosePrintsSpec.pre6 enc Try.prog Try.f6 Rows.choosePrintsRow.domain false) (Rows.choosePrintsSpec.post enc Try.prog Try.f6 false true false false) := by
  refine returnsInHanded_of_change (C := Try.checked) own started (by kernel_rfl) Try.func6
    (ChangeSpec.witness6 (enc := enc) (C := Try.checked) false ⟨#[], #[.slice none 0 0], []⟩ 8 (by kernel_rfl) (by kernel_rfl) (by kernel_rfl) (by kernel_rfl)) ?_
  intro W base args ds gs before hval0 hW hcnd _
  have hval : ∀ (j : Nat) t v, Try.f6.params[j]? = some t → args[j]? = some v → Value.okWide Try.prog W .any base t v := hval0
  have hW' := hW
  obtain ⟨p, q, hA0, hV, rfl, hfz, hnd⟩ := hW
  have hA : DataW.TrodAll enc Try.prog W 0 (fun _ => true) true Try.f6.params.toList args.toList ds p := hA0
  rw [Try.params6] at hA hval
  obtain ⟨v0, vs0, d0, ds0, p0, q0, hargs, rfl, rfl, h0, r0⟩ := trodAll_cons hA
  obtain ⟨rfl, rfl, rfl⟩ := trodAll_nil r0
  obtain rfl : args = #[v0] := by cases args; simp_all
  obtain ⟨rfl, rfl⟩ := trodVars_none hV
  have lt0 : ∀ x ∈ p0, x.block < W.heap.size := by obtain ⟨m, hm⟩ := h0; exact DataW.trod_lt m _ _ _ hm
  obtain ⟨x0, c0, e0⟩ := got_arg (n := 8) (t := 26) (c := .slc selC) (by kernel_rfl) (fun fs hf => by rw [Try.underlying26] at hf; cases hf) (hval 0 26 v0 rfl rfl) h0
  clear hA0 hval0
  refine ((choosePrints_law x0 c0).2 (fun b => b < W.heap.size) W #[v0] (fun b hb => hb) rfl (fun i hi => ?_)).mono fun e W' he => ?_
  · match i, hi with
    | 0, _ => exact e0
    | i + 1, hi => exact absurd hi (by simp)
  obtain ⟨cv, rfl, gr, hp⟩ := he
  cases hp
  have bel : Below W.heap.size W W' := ⟨gr.os, gr.tape, gr.output, gr.size, gr.block⟩
  exact ⟨_, rfl, _, _, _, [], _, [], hW', trodAll_mk1 (shut_bool Try.underlying4 _), (trodAll_cons_mk (Below.trod laidOut (by kernel_rfl) (of_decide_eq_true (by kernel_rfl)) h0 bel lt0) trodAll_mk0), rfl, bel.frame _, fun h => by cases h⟩

theorem over : Rows.choosePrintsRow.holds Try.pinned (OpenSpec.ofChange Rows.choosePrintsSpec) :=
  OpenClaim.holds_of_wide 6 Try.f6 rfl rfl rfl rfl rfl rfl rfl ⟨rfl, rfl, rfl, rfl, rfl⟩ rfl rfl rfl rfl rfl (by kernel_rfl) Try.func6 (by kernel_rfl)
    (of_decide_eq_true (by kernel_rfl)) (by unfold Func.isWrapper; first | (rw [if_pos (by decide +kernel)]; kernel_rfl) | (rw [if_neg (by decide +kernel)]; exact ⟨rfl, rfl⟩))
    (fun os started H enc _ => lifted os started H enc)
/-- The statement. -/
theorem proved : Rows.ChoosePrintsSaid := over
#print axioms proved
end ChoosePrintsDone
theorem choosePrints_proved : Rows.ChoosePrintsSaid := ChoosePrintsDone.proved
end Go.Proofs.Ytlcblcjpebabkaa
