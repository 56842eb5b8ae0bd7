/- Rules of a sheet, and which may be gone through. -/
import Derived.Test.YtilinnmancfjgaaGreatDoorL5b
import Derived.Test.YtilinnmancfjgaaGreatDoorGc
import Derived.Test.YtilinnmancfjgaaGreatDoorCe
namespace Go.Proofs.YtilinnmancfjgaaGreatDoor
open Go.Sx
set_option linter.unusedSimpArgs false
set_option linter.unusedVariables false
set_option maxHeartbeats 8000000
set_option maxRecDepth 100000

structure Dcl where
  nm : ByteArray
  v : List Tok
  imp : Bool
instance : Inhabited Dcl := ⟨⟨⟨#[]⟩, [], false⟩⟩
def Dcl.enc (d : Dcl) : List V := [vs d.nm, .slc 3 (d.v.map Tok.enc), vb d.imp]
structure Mg where
  nm : ByteArray
  ds : List Dcl
instance : Inhabited Mg := ⟨⟨⟨#[]⟩, []⟩⟩
def Mg.enc (m : Mg) : List V := [vs m.nm, .slc 3 (m.ds.map Dcl.enc)]
structure Rul where
  kind : Int
  pre : List Tok
  ds : List Dcl
  ms : List Mg
instance : Inhabited Rul := ⟨⟨0, [], [], []⟩⟩
def Rul.enc (r : Rul) : List V := [vi r.kind, .slc 3 (r.pre.map Tok.enc), .slc 3 (r.ds.map Dcl.enc), .slc 2 (r.ms.map Mg.enc)]
abbrev tokC6 : List Cell := [.int .i64, .str, .int .i64]
theorem rows6P {α : Type} (enc : α → List V) (ok : α → Prop) : ∀ (es : List (List V)), (∀ e ∈ es, ∃ n : α, e = enc n ∧ ok n) → ∃ l : List α, es = l.map enc ∧ ∀ x ∈ l, ok x
  | [], _ => ⟨[], rfl, by simp⟩
  | e :: es, h => by
    obtain ⟨l, hl, ho⟩ := rows6P enc ok es fun e' he => h e' (by simp [he])
    obtain ⟨n, hn, hok⟩ := h e (by simp)
    exact ⟨n :: l, by rw [hl, hn]; rfl, fun x hx => by rcases List.mem_cons.1 hx with rfl | hx; exact hok; exact ho x hx⟩
/-- What every token that came in is. -/
def okI6 (n : Int) : Prop := -9223372036854775808 ≤ n ∧ n ≤ 9223372036854775807
def okN6 (l : List Tok) : Prop := ∀ t ∈ l, okI6 t.n
theorem toks6_of {x : V} (h : CellOK (.slc tokC6) x) : ∃ l : List Tok, x = toks l ∧ okN6 l := by
  cases h with
  | slc cs ess hl h h2 =>
    obtain ⟨l, rfl, ho⟩ := rows6P Tok.enc (fun t => okI6 t.n) ess fun e he => by
      have hlen := h e he
      have a0 := h2 e he 0 _ rfl
      have a1 := h2 e he 1 _ rfl
      have a2 := h2 e he 2 _ rfl
      match e, hlen with
      | [a, b, c], _ =>
        simp only [List.getD_cons_zero, List.getD_cons_succ] at a0 a1 a2
        cases a0; cases a1
        cases a2 with
        | int k n hw =>
          refine ⟨⟨_, _, n⟩, rfl, ?_⟩
          simp [Lit.wf, IntKind.min, IntKind.max, IntKind.signed, IntKind.bits] at hw
          show -9223372036854775808 ≤ n ∧ n ≤ 9223372036854775807
          omega
    exact ⟨l, rfl, ho⟩
theorem mem_getD6 {α : Type} {l : List α} {x d : α} (h : x ∈ l) : ∃ i, i < l.length ∧ l.getD i d = x := by
  obtain ⟨i, hi, e⟩ := List.mem_iff_getElem.1 h
  exact ⟨i, hi, by rw [List.getD_eq_getElem?_getD, List.getElem?_eq_getElem hi]; exact e⟩
def sumFew4 : Sum Tryz.prog := ⟨4, fun args => args = [toks (dToks (args.getD 0 .any))], fun args => vb (few (dToks (args.getD 0 .any))), fun args h => by have := few_ok (dToks (args.getD 0 .any)); rwa [← h] at this, true⟩
theorem sumFew4_f : sumFew4.f = 4 := rfl
theorem sumFew4_D (args : List V) : sumFew4.D args = (args = [toks (dToks (args.getD 0 .any))]) := rfl
theorem sumFew4_flat : sumFew4.flat = true := rfl
theorem sumFew4_r (args : List V) : sumFew4.r args = vb (few (dToks (args.getD 0 .any))) := rfl
structure FdS where
  k : Nat
  clk : Nat
end Go.Proofs.YtilinnmancfjgaaGreatDoor
