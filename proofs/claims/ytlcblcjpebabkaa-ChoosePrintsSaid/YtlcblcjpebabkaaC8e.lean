/- Layer 8: compounds and links in tokens. -/
import Derived.Test.YtlcblcjpebabkaaC8d
namespace Go.Proofs.Ytlcblcjpebabkaa
open Go.Sx
set_option linter.unusedSimpArgs false
set_option maxHeartbeats 4000000
set_option maxRecDepth 100000

def SmpD (v : List Tok) : Prop := v.length ≤ 1000000 ∧ ∀ k, k ≤ v.length → PCall Try.prog 55 [toks v, ints (endsA v), vi k] (srV (smpR v k)) ∧ ((smpR v k).ok = true → k < (smpR v k).to ∧ (smpR v k).to ≤ v.length)
theorem res10_ref8 (S : Nat → Bool) (h : Heap) (j ver off len : Nat) : res S h 10 (.ref j ver off len) =
    if S j && h.cur j ver && decide (off + len ≤ (h.blk j).es.length) then (mapO (mapO (res S h 9)) (((h.blk j).es.drop off).take len)).map (.slc (h.blk j).sz) else none := rfl
structure CdS8 where
  k : Nat
  L : List Smp
  f : Nat
  ver : Nat
  clk : Nat
def lnkF (v : List Tok) : Nat → Nat → Int → Int × Nat
  | 0, k, n => (n, k)
  | f + 1, k, n => if knd v k = 1 ∨ (n ≠ 2 ∧ dlm v k ⟨#[62]⟩ = true) then lnkF v f (k + 1) (if knd v k = 11 then 2 else if n < 1 then 1 else n) else (n, k)
def lnkR (v : List Tok) (k : Nat) : Int × Nat := lnkF v (v.length + 1) k 0
structure LkS8 where
  k : Nat
  n : Int
  f : Nat
end Go.Proofs.Ytlcblcjpebabkaa
