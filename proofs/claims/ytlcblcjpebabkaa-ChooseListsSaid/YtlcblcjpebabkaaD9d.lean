/- Layer 9: which node may not stand, in one pass. -/
import Derived.Test.YtlcblcjpebabkaaD9c
namespace Go.Proofs.Ytlcblcjpebabkaa
open Go.Sx
set_option linter.unusedSimpArgs false
set_option maxHeartbeats 4000000
set_option maxRecDepth 20000

def popN (p : Int) (s : List Int) : Nat → Nat
  | 0 => 0
  | m + 1 => if s.getD m 0 = p then m + 1 else popN p s m
theorem popN_le (p : Int) (s : List Int) : ∀ m, popN p s m ≤ m
  | 0 => Nat.le_refl _
  | m + 1 => by
    simp only [popN]
    split
    · exact Nat.le_refl _
    · have := popN_le p s m; omega
def stk (l : List Node) : Nat → List Int
  | 0 => []
  | k + 1 => (stk l k).take (popN (par l k) (stk l k) (stk l k).length) ++ [(k : Int)]
theorem stk_mem (l : List Node) : ∀ k, ∀ x ∈ stk l k, 0 ≤ x ∧ x < k
  | 0, x, h => by simp [stk] at h
  | k + 1, x, h => by
    simp only [stk, List.mem_append, List.mem_singleton] at h
    rcases h with h | h
    · have := stk_mem l k x (List.mem_of_mem_take h); omega
    · omega
theorem stk_len (l : List Node) : ∀ k, (stk l k).length ≤ k
  | 0 => Nat.le_refl _
  | k + 1 => by
    have := stk_len l k
    simp only [stk, List.length_append, List.length_take, List.length_singleton]
    omega
def badT (l : List Node) : Int := fst (fun k => !mayT (l.getD k .zero) (stk l k) l) (l.length - 0) 0
structure CkS where
  k : Nat
  es : List Int
  ver : Nat
  clk : Nat
end Go.Proofs.Ytlcblcjpebabkaa
