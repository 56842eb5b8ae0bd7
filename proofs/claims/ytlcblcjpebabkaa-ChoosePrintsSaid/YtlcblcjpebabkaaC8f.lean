/- Layer 8: selectors, and lists of them, of tokens without brackets: what they are. -/
import Derived.Test.YtlcblcjpebabkaaC8e
import Derived.Test.YtlcblcjpebabkaaNk
namespace Go.Proofs.Ytlcblcjpebabkaa
open Go.Sx
set_option linter.unusedSimpArgs false
set_option maxHeartbeats 4000000
set_option maxRecDepth 100000

def SmpB (v : List Tok) : Prop := ∀ k, k ≤ v.length → (smpR v k).ok = true → k < (smpR v k).to ∧ (smpR v k).to ≤ v.length
theorem dlm_lt {v : List Tok} {k : Nat} {w : ByteArray} (h : dlm v k w = true) : k < v.length := (of_decide_eq_true h).1
theorem SmpD.b {v : List Tok} (h : SmpD v) : SmpB v := fun k hk => (h.2 k hk).2
theorem lnkF_rng {v : List Tok} : ∀ (f k : Nat) (n : Int), k ≤ v.length → k ≤ (lnkF v f k n).2 ∧ (lnkF v f k n).2 ≤ v.length
  | 0, k, n, hk => by simp only [lnkF]; omega
  | f + 1, k, n, hk => by
    simp only [lnkF]
    split
    · rename_i hc
      have hlt : k < v.length := by
        rcases hc with h | h
        · exact (knd_lt h (by decide)).1
        · exact dlm_lt h.2
      have := lnkF_rng (v := v) f (k + 1) (if knd v k = 11 then 2 else if n < 1 then 1 else n) (by omega)
      omega
    · simp only; omega
theorem lnkR_rng {v : List Tok} (k : Nat) (hk : k ≤ v.length) : (lnkR v k).2 ≤ v.length ∧ ((lnkR v k).1 ≠ 0 → k < (lnkR v k).2) := by
  unfold lnkR
  refine ⟨(lnkF_rng _ k 0 hk).2, fun hn => ?_⟩
  simp only [lnkF] at hn ⊢
  split at hn
  · rename_i hc
    rw [if_pos hc]
    have hlt : k < v.length := by
      rcases hc with h | h
      · exact (knd_lt h (by decide)).1
      · exact dlm_lt h.2
    have := lnkF_rng (v := v) v.length (k + 1) (if knd v k = 11 then 2 else if (0 : Int) < 1 then 1 else 0) (by omega)
    omega
  · exact absurd rfl hn
end Go.Proofs.Ytlcblcjpebabkaa
