/- Layer 8: selectors, and lists of them, of tokens without brackets: what they are. -/
import Derived.Test.YtlcblcjpebabkaaC8e
import Derived.Test.YtlcblcjpebabkaaNk
namespace Go.Proofs.Ytlcblcjpebabkaa
open Go.Sx
set_option linter.unusedSimpArgs false
set_option maxHeartbeats 4000000
set_option maxRecDepth 100000

def SmpB (v : List Tok) : Prop := ∀ k, k ≤ v.length → (smpR v k).ok = true → k < (smpR v k).to ∧ (smpR v k).to ≤ v.length
theorem dlm_lt {v : List Tok} {k : Nat} {w : ByteArray} (h : dlm v k w = true) : k < v.length := (of_decide_eq_true h).1
theorem SmpD.b {v : List Tok} (h : SmpD v) : SmpB v := fun k hk => (h.2 k hk).2
theorem cmpF_rng {v : List Tok} (hS : SmpB v) : ∀ (f k : Nat) (L : List Smp), k ≤ v.length → k ≤ (cmpF v f k L).2 ∧ (cmpF v f k L).2 ≤ v.length ∧ L.length ≤ (cmpF v f k L).1.length ∧ (cmpF v f k L).1.length + k ≤ L.length + (cmpF v f k L).2
  | 0, k, L, hk => by simp only [cmpF]; omega
  | f + 1, k, L, hk => by
    simp only [cmpF]
    split
    · simp only; omega
    · rename_i hc
      have hok : (smpR v k).ok = true := by
        cases h : (smpR v k).ok with
        | true => rfl
        | false => exact absurd (.inl h) hc
      have h1 := hS k hk hok
      have h2 := cmpF_rng hS f (smpR v k).to (L ++ [(smpR v k).s]) h1.2
      simp only [List.length_append, List.length_cons, List.length_nil] at h2
      omega
theorem cmpR_rng {v : List Tok} (hS : SmpB v) (k : Nat) (hk : k ≤ v.length) : k ≤ (cmpR v k).2 ∧ (cmpR v k).2 ≤ v.length ∧ (cmpR v k).1.length + k ≤ (cmpR v k).2 := by
  have := cmpF_rng hS (v.length + 1) k [] hk
  simp only [List.length_nil] at this
  unfold cmpR; omega
theorem lnkF_rng {v : List Tok} : ∀ (f k : Nat) (n : Int), k ≤ v.length → k ≤ (lnkF v f k n).2 ∧ (lnkF v f k n).2 ≤ v.length
  | 0, k, n, hk => by simp only [lnkF]; omega
  | f + 1, k, n, hk => by
    simp only [lnkF]
    split
    · rename_i hc
      have hlt : k < v.length := by
        rcases hc with h | h
        · exact (knd_lt h (by decide)).1
        · exact dlm_lt h.2
      have := lnkF_rng (v := v) f (k + 1) (if knd v k = 11 then 2 else if n < 1 then 1 else n) (by omega)
      omega
    · simp only; omega
theorem lnkR_rng {v : List Tok} (k : Nat) (hk : k ≤ v.length) : (lnkR v k).2 ≤ v.length ∧ ((lnkR v k).1 ≠ 0 → k < (lnkR v k).2) := by
  unfold lnkR
  refine ⟨(lnkF_rng _ k 0 hk).2, fun hn => ?_⟩
  simp only [lnkF] at hn ⊢
  split at hn
  · rename_i hc
    rw [if_pos hc]
    have hlt : k < v.length := by
      rcases hc with h | h
      · exact (knd_lt h (by decide)).1
      · exact dlm_lt h.2
    have := lnkF_rng (v := v) v.length (k + 1) (if knd v k = 11 then 2 else if (0 : Int) < 1 then 1 else 0) (by omega)
    omega
  · exact absurd rfl hn
def oneF (w : List Tok) : Nat → Nat → Int → List Cmp → Option (List Cmp)
  | 0, _, _, _ => none
  | f + 1, k, n, L =>
    if (cmpR w k).1.length = 0 ∨ L.length = 64 then none
    else if (cmpR w k).2 = w.length then some (L ++ [⟨n, (cmpR w k).1⟩])
    else if (lnkR w (cmpR w k).2).1 = 0 then none
    else oneF w f (lnkR w (cmpR w k).2).2 (lnkR w (cmpR w k).2).1 (L ++ [⟨n, (cmpR w k).1⟩])
def oneT8 (w : List Tok) : Option Sel := if deep w = true then none else oneF w (w.length + 1) 0 0 []
def oneS (v : List Tok) : Option Sel := oneT8 (trim v)
def prsC (l : List Tok) : List (Int × Int) → Option (List Sel)
  | [] => some []
  | p :: ps => match oneS ((l.take p.2.toNat).drop p.1.toNat) with | none => none | some s => (prsC l ps).map (s :: ·)
def psC (l : List Tok) : Option (List Sel) := if deep l = true then none else prsC l (splL l)
end Go.Proofs.Ytlcblcjpebabkaa
