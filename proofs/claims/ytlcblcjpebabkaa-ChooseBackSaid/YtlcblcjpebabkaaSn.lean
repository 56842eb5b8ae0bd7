/- The parts between commas, by the document. -/
import Derived.Test.YtlcblcjpebabkaaSm
namespace Go.Proofs.Ytlcblcjpebabkaa
open Go.Sx
set_option linter.unusedSimpArgs false
set_option maxHeartbeats 4000000
set_option maxRecDepth 20000

theorem plR_ge {l : List Tok} (hd : deep l = false) : ∀ (f : Nat) (k : Nat), ∀ x ∈ plR (endsA l) l.length f k, (k : Int) ≤ x
  | 0, k, x, hx => by simp [plR] at hx
  | f + 1, k, x, hx => by
    simp only [plR] at hx
    split at hx
    · rename_i h
      rcases List.mem_cons.1 hx with rfl | hx
      · exact Int.le_refl _
      · obtain ⟨n, hn1, hn2, _⟩ := skip_nat hd k (by omega)
        rw [hn1] at hx
        have := plR_ge hd f n x hx
        omega
    · cases hx
theorem plR_pw {l : List Tok} (hd : deep l = false) : ∀ (f : Nat) (k : Nat), (plR (endsA l) l.length f k).Pairwise (· < ·)
  | 0, k => by simp [plR]
  | f + 1, k => by
    simp only [plR]
    split
    · rename_i h
      obtain ⟨n, hn1, hn2, _⟩ := skip_nat hd k (by omega)
      rw [hn1]
      refine List.pairwise_cons.2 ⟨fun x hx => ?_, plR_pw hd f n⟩
      have := plR_ge hd f n x hx
      omega
    · exact List.Pairwise.nil
structure SnS where
  k : Nat
  b : Int
  out : List (Int × Int)
  ver : Nat
  clk : Nat
end Go.Proofs.Ytlcblcjpebabkaa
