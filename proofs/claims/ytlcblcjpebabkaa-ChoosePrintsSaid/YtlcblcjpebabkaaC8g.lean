/- Layer 8: selectors, and lists of them, in tokens: the code. -/
import Derived.Test.YtlcblcjpebabkaaC8f
namespace Go.Proofs.Ytlcblcjpebabkaa
open Go.Sx
set_option linter.unusedSimpArgs false
set_option maxHeartbeats 8000000
set_option maxRecDepth 100000

def oneRV : Option Sel → V
  | none => .tup [.agg [vnil], vb false]
  | some s => .tup [.agg (selE s), vb true]
def oneV8 (o : Option Sel) : V := .tup [.agg (selE (o.getD [])), vb o.isSome]
theorem oneRV_sub (o : Option Sel) {f : FuncId} {args : List V} (h : PCall Try.prog f args (oneRV o)) : PCall Try.prog f args (oneV8 o) := by
  cases o with
  | some l => exact h
  | none =>
    refine PCall.rsub h fun F w v hp => ?_
    cases hp with
    | tup cs _ hl hx =>
      refine .tup cs _ hl fun i hi => ?_
      have := hx i hi
      match i, hi with
      | 0, _ =>
        have this : PRep F w (cs.getD 0 undef) (.agg [vnil]) := this
        show PRep F w (cs.getD 0 undef) (.agg [.slc 2 []])
        generalize cs.getD 0 undef = u at this
        cases this with
        | agg cs _ hl h1 hx =>
          refine .agg cs [.slc 2 []] hl h1 fun i hi => ?_
          have := hx i hi
          match i, hi with
          | 0, _ => exact PRep.nilS 2 this
      | 1, _ => exact this
structure OnS8 where
  k : Nat
  n : Int
  L : List Cmp
  f : Nat
  ver : Nat
  clk : Nat
def psRV8 : Option (List Sel) → V
  | none => .tup [vnil, vb false]
  | some xs => .tup [sels xs, vb true]
def psV8 (o : Option (List Sel)) : V := .tup [sels (o.getD []), vb o.isSome]
theorem psRV8_sub (o : Option (List Sel)) {f : FuncId} {args : List V} (h : PCall Try.prog f args (psRV8 o)) : PCall Try.prog f args (psV8 o) := by
  cases o with
  | some l => exact h
  | none =>
    refine PCall.rsub h fun F w v hp => ?_
    cases hp with
    | tup cs _ hl hx =>
      refine .tup cs _ hl fun i hi => ?_
      have := hx i hi
      match i, hi with
      | 0, _ => exact PRep.nilS 1 this
      | 1, _ => exact this
theorem rsK_rng (l : List Tok) : ∀ (ps : List Int) (b : Int), 0 ≤ b → b ≤ l.length → ps.Pairwise (· < ·) → (∀ p ∈ ps, b ≤ p ∧ p < l.length) → ∀ q ∈ rsK l 16 l.length b ps, 0 ≤ q.1 ∧ q.1 ≤ q.2 ∧ q.2 ≤ l.length
  | [], b, h0, h1, _, _, q, hq => by simp only [rsK, List.mem_singleton] at hq; subst hq; exact ⟨h0, h1, Int.le_refl _⟩
  | p :: ps, b, h0, h1, hw, hm, q, hq => by
    obtain ⟨hw1, hw2⟩ := List.pairwise_cons.1 hw
    have hp := hm p (by simp)
    simp only [rsK] at hq
    split at hq
    · rcases List.mem_cons.1 hq with rfl | hq
      · exact ⟨h0, hp.1, by dsimp only; omega⟩
      · exact rsK_rng l ps (p + 1) (by omega) (by omega) hw2 (fun x hx => ⟨by have := hw1 x hx; omega, (hm x (by simp [hx])).2⟩) q hq
    · exact rsK_rng l ps b h0 h1 hw2 (fun x hx => hm x (by simp [hx])) q hq
theorem rsK_len (l : List Tok) (to : Int) : ∀ (ps : List Int) (b : Int), (rsK l 16 to b ps).length ≤ ps.length + 1
  | [], b => by simp [rsK]
  | p :: ps, b => by
    simp only [rsK]
    split
    · have := rsK_len l to ps (p + 1); simp; omega
    · have := rsK_len l to ps b; simp; omega
theorem splL_rng {l : List Tok} (hd : deep l = false) : (splL l).length ≤ l.length + 1 ∧ ∀ q ∈ splL l, 0 ≤ q.1 ∧ q.1 ≤ q.2 ∧ q.2 ≤ l.length := by
  have hmem := plR_mem hd (l.length + 1) 0
  have hpw := plR_pw hd (l.length + 1) 0
  have hln := plR_len hd (l.length + 1) 0 (Nat.zero_le _)
  rw [show ((0 : Nat) : Int) = 0 from rfl] at hmem hpw hln
  rw [splL_eq hd]
  exact ⟨by have := rsK_len l l.length (plR (endsA l) l.length (l.length + 1) 0) 0; omega, rsK_rng l _ 0 (Int.le_refl _) (by omega) hpw hmem⟩
theorem getD_prs2' (l : List (Int × Int)) (i : Nat) : (l.map fun p => [vi p.1, vi p.2]).getD i [vi 0, vi 0] = [vi (l.getD i (0, 0)).1, vi (l.getD i (0, 0)).2] := by
  have : [vi 0, vi 0] = (fun p : Int × Int => [vi p.1, vi p.2]) (0, 0) := rfl
  rw [this]
  simp only [List.getD_eq_getElem?_getD, List.getElem?_map]
  cases l[i]? <;> rfl
theorem mapO_sel10 (S : Nat → Bool) (h : Heap) : ∀ l : List Sel, mapO (mapO (res S h 10)) (l.map selE) = some (l.map selE)
  | [] => rfl
  | s :: l => by simp only [List.map_cons, mapO, mapO_sel10 S h l, selE]; rfl
structure QrS8 where
  k : Nat
  out : List Sel
  ver : Nat
  clk : Nat
end Go.Proofs.Ytlcblcjpebabkaa
