/- Layer 8: simple selectors in tokens. -/
import Derived.Test.YtlcblcjpebabkaaC8b
import Derived.Test.YtlcblcjpebabkaaSm
import Derived.Test.YtlcblcjpebabkaaTr
namespace Go.Proofs.Ytlcblcjpebabkaa
open Go.Sx
set_option linter.unusedSimpArgs false
set_option maxHeartbeats 4000000
set_option maxRecDepth 100000

def knd (v : List Tok) (k : Nat) : Int := if k < v.length then (v.getD k .zero).kind else 0
def txt (v : List Tok) (k : Nat) : ByteArray := (v.getD k .zero).text
def dlm (v : List Tok) (k : Nat) (w : ByteArray) : Bool := decide (k < v.length ∧ (v.getD k .zero).kind = 11 ∧ (v.getD k .zero).text = w)
theorem getD_tokC (l : List Tok) (j : Nat) : (l.map Tok.enc).getD j [vi 0, vs ⟨#[]⟩, vi 0] = (l.getD j .zero).enc := by
  have : [vi 0, vs ⟨#[]⟩, vi 0] = Tok.zero.enc := rfl
  rw [this]
  simp only [List.getD_eq_getElem?_getD, List.getElem?_map]
  cases l[j]? <;> rfl
structure SR where
  s : Smp
  to : Nat
  ok : Bool
def attrO (l : List Tok) : Option Smp :=
  match l.filter fun t => decide (t.kind ≠ 1) with
  | [a] => if a.kind = 2 then some ⟨5, a.text, ⟨#[]⟩⟩ else none
  | [a, b, c] => if a.kind = 2 ∧ b.kind = 11 ∧ b.text = ⟨#[61]⟩ ∧ (c.kind = 2 ∨ c.kind = 6) then some ⟨6, a.text, c.text⟩ else none
  | _ => none
def smpR (v : List Tok) (k : Nat) : SR :=
  if dlm v k ⟨#[42]⟩ = true then ⟨⟨1, ⟨#[]⟩, ⟨#[]⟩⟩, k + 1, true⟩
  else if knd v k = 2 then ⟨⟨2, txt v k, ⟨#[]⟩⟩, k + 1, true⟩
  else if knd v k = 5 then ⟨⟨3, txt v k, ⟨#[]⟩⟩, k + 1, true⟩
  else if dlm v k ⟨#[46]⟩ = true ∧ knd v (k + 1) = 2 then ⟨⟨4, txt v (k + 1), ⟨#[]⟩⟩, k + 2, true⟩
  else if knd v k = 12 ∧ txt v k = ⟨#[91]⟩ ∧ (endsA v).getD k 0 < v.length then
    match attrO ((v.take ((endsA v).getD k 0).toNat).drop (k + 1)) with
    | some s => ⟨s, ((endsA v).getD k 0).toNat + 1, true⟩
    | none => ⟨⟨0, ⟨#[]⟩, ⟨#[]⟩⟩, ((endsA v).getD k 0).toNat + 1, false⟩
  else ⟨⟨0, ⟨#[]⟩, ⟨#[]⟩⟩, k, false⟩
def srV (r : SR) : V := .tup [.agg r.s.enc, vi r.to, vb r.ok]
theorem res11_agg8 (S : Nat → Bool) (h : Heap) (cs : List V) : res S h 11 (.agg cs) = (mapO (res S h 10) cs).map .agg := rfl
theorem knd_lt {v : List Tok} {k : Nat} {n : Int} (h : knd v k = n) (hn : n ≠ 0) : k < v.length ∧ (v.getD k .zero).kind = n := by
  unfold knd at h
  split at h
  · exact ⟨by assumption, h⟩
  · exact absurd h.symm hn
end Go.Proofs.Ytlcblcjpebabkaa
