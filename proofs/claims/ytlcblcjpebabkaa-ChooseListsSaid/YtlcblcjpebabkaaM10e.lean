/- Layer 10: which node a selector is about. -/
import Derived.Test.YtlcblcjpebabkaaM10d
namespace Go.Proofs.Ytlcblcjpebabkaa
open Go.Sx
set_option linter.unusedSimpArgs false
set_option maxHeartbeats 4000000
set_option maxRecDepth 20000

def dCmps (v : V) : List Cmp := v.es.map dCmpL
theorem dCmps_map (sz : Nat) (l : List Cmp) : dCmps (.slc sz (l.map Cmp.enc)) = l := by
  simp [dCmps, V.es, Function.comp_def, dCmpL_enc]
theorem dSels_one (s : Sel) : dSels (.slc 1 [[.slc 2 (s.map Cmp.enc)]]) = [s] := dSels_map [s]
def okNs (l : List Node) : Prop := ∀ k, k < l.length → okN (l.getD k .zero)
theorem doc_docP {l : List Node} (hl : l.length ≤ 1000) (hn : okNs l) (h : isDoc l) : docP l := by
  refine ⟨hl, fun k hk => ⟨hn k hk, ?_, stood_par h.2 k hk⟩⟩
  by_cases h0 : k = 0
  · subst h0
    have := (standR_zero.1 (h.2 0 hk)).1
    omega
  · have := stood_ge h.2 k (by omega) hk
    omega
def sumRgtL : Sum Try.prog := ⟨18, fun args => args = [sels (dSels (args.getD 0 .any))] ∧ okM (dSels (args.getD 0 .any)), fun args => vb (rgtL (dSels (args.getD 0 .any))), fun args h => by
  have := rightL_ok (dSels (args.getD 0 .any)) h.2; rwa [← h.1] at this, true⟩
theorem sumRgtL_f : sumRgtL.f = 18 := rfl
theorem sumRgtL_D (args : List V) : sumRgtL.D args = (args = [sels (dSels (args.getD 0 .any))] ∧ okM (dSels (args.getD 0 .any))) := rfl
theorem sumRgtL_flat : sumRgtL.flat = true := rfl
theorem sumRgtL_r (args : List V) : sumRgtL.r args = vb (rgtL (dSels (args.getD 0 .any))) := rfl
attribute [go_sem] sumRgtL_f sumRgtL_D sumRgtL_flat sumRgtL_r
def isM (l : List Node) (k : Int) (s : Sel) : Bool := docB l && decide (0 ≤ k ∧ k < l.length) && rgtL [s] && upN l s (s.length - 1) k.toNat
theorem rgtL_pos {s : Sel} (h : rgtL [s] = true) : 0 < s.length ∧ s.length ≤ 64 := by
  unfold rgtL at h
  rw [decide_eq_true_eq] at h
  have := h.2 0 (by simp)
  unfold rgtS at this
  rw [decide_eq_true_eq] at this
  obtain ⟨h1, h2, _⟩ := this
  simp only [List.getD_cons_zero] at h1 h2
  omega
theorem okM_one {s : Sel} (hs : okC s) : okM [s] := ⟨by simp, fun i hi => by
  have : i = 0 := by simp at hi; omega
  subst this; exact hs⟩
end Go.Proofs.Ytlcblcjpebabkaa
