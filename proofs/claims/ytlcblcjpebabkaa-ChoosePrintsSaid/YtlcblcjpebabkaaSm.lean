/- The parts between commas, walked. -/
import Derived.Test.YtlcblcjpebabkaaSl
import Derived.Test.YtlcblcjpebabkaaV7b
namespace Go.Proofs.Ytlcblcjpebabkaa
open Go.Sx
set_option linter.unusedSimpArgs false
set_option maxHeartbeats 4000000
set_option maxRecDepth 20000

def rsK (l : List Tok) (kind to : Int) : Int → List Int → List (Int × Int)
  | b, [] => [(b, to)]
  | b, p :: ps => if (l.getD p.toNat .zero).kind = kind then (b, p) :: rsK l kind to (p + 1) ps else rsK l kind to b ps
def splL (l : List Tok) : List (Int × Int) := splitF l (endsA l) l.length 16 (l.length + 1) 0
def gS (l : List Tok) (f sf : Nat) (b : Int) (k : Nat) : List (Int × Int) := if 0 ≤ findF l (endsA l) l.length 16 f k then (b, findF l (endsA l) l.length 16 f k) :: splitF l (endsA l) l.length 16 sf (findF l (endsA l) l.length 16 f k + 1) else [(b, (l.length : Int))]
theorem closing_16 {t : Tok} (h : t.kind = 16) : closing t = ⟨#[]⟩ := by unfold closing; simp [h]
theorem skip_comma {l : List Tok} (hd : deep l = false) {k : Nat} (hk : k < l.length) (h : (l.getD k .zero).kind = 16) : skip (endsA l) k = ((k + 1 : Nat) : Int) := by
  have hc : closing (l.getD k .zero) = ⟨#[]⟩ := closing_16 h
  unfold skip
  rw [Int.toNat_natCast, endsA_get l hd k hk]
  unfold end1
  rw [if_pos hc, if_pos (by omega)]; omega
theorem ends_len {l : List Tok} (hd : deep l = false) : (endsA l).length = l.length := by unfold endsA; rw [hd]; simp [endsTo_len]
theorem splitF_g {l : List Tok} (hd : deep l = false) (sf a : Nat) (ha : a ≤ l.length) : splitF l (endsA l) l.length 16 (sf + 1) a = gS l (l.length - a) sf a a := by
  have e : nfind l (endsA l) a l.length 16 = findF l (endsA l) l.length 16 (l.length - a) a := by
    unfold nfind
    rw [if_neg (by have := ends_len hd; unfold bad; omega), show ((l.length : Int) - a).toNat = l.length - a by omega]
  simp only [splitF, gS, e]
theorem gS_eq {l : List Tok} (hd : deep l = false) : ∀ (f' f sf : Nat) (b : Int) (k : Nat), l.length + 1 ≤ k + f' → l.length ≤ k + f → l.length ≤ sf + k → k ≤ l.length → gS l f sf b k = rsK l 16 l.length b (plR (endsA l) l.length f' k)
  | 0, f, sf, b, k, h1, _, _, h4 => by omega
  | f' + 1, f, sf, b, k, h1, h2, h3, h4 => by
    by_cases hk : k < l.length
    · obtain ⟨f, rfl⟩ : ∃ g, f = g + 1 := ⟨f - 1, by omega⟩
      simp only [plR]
      rw [if_pos (by omega)]
      simp only [rsK, Int.toNat_natCast]
      by_cases hc : (l.getD k .zero).kind = 16
      · rw [if_pos hc, skip_comma hd hk hc]
        have hf : findF l (endsA l) l.length 16 (f + 1) k = k := by simp only [findF, Int.toNat_natCast]; rw [if_pos (by omega), if_pos hc]
        unfold gS
        rw [hf, if_pos (by omega)]
        obtain ⟨s, rfl⟩ : ∃ s, sf = s + 1 := ⟨sf - 1, by omega⟩
        have e1 : ((k : Int) + 1) = ((k + 1 : Nat) : Int) := by omega
        rw [e1, splitF_g hd s (k + 1) (by omega), gS_eq hd f' (l.length - (k + 1)) s ((k + 1 : Nat) : Int) (k + 1) (by omega) (by omega) (by omega) (by omega)]
      · rw [if_neg hc]
        obtain ⟨n, hn1, hn2, hn3⟩ := skip_nat hd k hk
        have hf : findF l (endsA l) l.length 16 (f + 1) k = findF l (endsA l) l.length 16 f n := by
          simp only [findF, Int.toNat_natCast]; rw [if_pos (by omega), if_neg hc, hn1]
        have hg : gS l (f + 1) sf b k = gS l f sf b n := by unfold gS; rw [hf]
        rw [hg, hn1]
        exact gS_eq hd f' f sf b n (by omega) (by omega) (by omega) hn3
    · have hf : findF l (endsA l) l.length 16 f k = -1 := by
        cases f with
        | zero => rfl
        | succ f => simp only [findF]; rw [if_neg (by omega)]
      unfold gS
      rw [hf, if_neg (by omega)]
      simp only [plR]
      rw [if_neg (by omega)]; rfl
theorem splL_eq {l : List Tok} (hd : deep l = false) : splL l = rsK l 16 l.length 0 (plR (endsA l) l.length (l.length + 1) 0) := by
  have h := splitF_g hd l.length 0 (Nat.zero_le _)
  have h2 := gS_eq hd (l.length + 1) (l.length - 0) l.length 0 0 (by omega) (by omega) (by omega) (Nat.zero_le _)
  exact h.trans h2
end Go.Proofs.Ytlcblcjpebabkaa
