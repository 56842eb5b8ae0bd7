/- Layer 7: the parts of a value, by the document. -/
import Derived.Test.YtlcblcjpebabkaaV7a
namespace Go.Proofs.Ytlcblcjpebabkaa
open Go.Sx
set_option linter.unusedSimpArgs false
set_option maxHeartbeats 4000000
set_option maxRecDepth 20000

structure PlS where
  k : Nat
  f : Nat
  out : List Int
  ver : Nat
  clk : Nat
theorem plR_mem {l : List Tok} (hd : deep l = false) : ∀ (f : Nat) (k : Nat), ∀ x ∈ plR (endsA l) l.length f k, 0 ≤ x ∧ x < l.length
  | 0, k, x, hx => by simp [plR] at hx
  | f + 1, k, x, hx => by
    unfold plR at hx
    by_cases hk : (k : Int) < l.length
    · rw [if_pos hk] at hx
      obtain ⟨n, hn1, hn2, hn3⟩ := skip_nat hd k (by omega)
      rcases List.mem_cons.1 hx with rfl | hx
      · omega
      · rw [hn1] at hx; exact plR_mem hd f n x hx
    · rw [if_neg hk] at hx; cases hx
theorem plR_len {l : List Tok} (hd : deep l = false) : ∀ (f : Nat) (k : Nat), k ≤ l.length → (plR (endsA l) l.length f k).length + k ≤ l.length
  | 0, k, h => by simp [plR]; exact h
  | f + 1, k, h => by
    unfold plR
    by_cases hk : (k : Int) < l.length
    · rw [if_pos hk]
      obtain ⟨n, hn1, hn2, hn3⟩ := skip_nat hd k (by omega)
      rw [hn1]
      have := plR_len hd f n hn3
      simp only [List.length_cons]; omega
    · rw [if_neg hk]; simp; exact h
structure PrS where
  i : Nat
  out : List Part
  ver : Nat
  clk : Nat
/-- Parts, a missing list of arguments told as an empty one. -/
structure Pa where
  t : Tok
  al : List Tok
instance : Inhabited Pa := ⟨⟨.zero, []⟩⟩
def Pa.enc (p : Pa) : List V := [vi p.t.kind, vs p.t.text, vi p.t.n, .slc 3 (p.al.map Tok.enc)]
end Go.Proofs.Ytlcblcjpebabkaa
