/- Layer 7: the parts of a value, by the document. -/
import Derived.Test.YtilinnmancfjgaaGreatDoorV7a
namespace Go.Proofs.YtilinnmancfjgaaGreatDoor
open Go.Sx
set_option linter.unusedSimpArgs false
set_option maxHeartbeats 4000000
set_option maxRecDepth 20000

structure PlS where
  k : Nat
  f : Nat
  out : List Int
  ver : Nat
  clk : Nat
structure PrS where
  i : Nat
  out : List Part
  ver : Nat
  clk : Nat
/-- Parts, a missing list of arguments told as an empty one. -/
structure Pa where
  t : Tok
  al : List Tok
instance : Inhabited Pa := ⟨⟨.zero, []⟩⟩
def Pa.enc (p : Pa) : List V := [vi p.t.kind, vs p.t.text, vi p.t.n, .slc 3 (p.al.map Tok.enc)]
theorem getD_pas (l : List Pa) (i : Nat) (d : List V) (h : i < l.length) : (l.map Pa.enc).getD i d = (l.getD i default).enc := by
  simp [List.getD_eq_getElem?_getD, h]
def toPa (p : Part) : Pa := ⟨p.t, p.ar.getD []⟩
def pl (l : List Tok) : List Pa := (ptL l).map toPa
def plV (l : List Tok) : V := .tup [.slc 4 ((pl l).map Pa.enc), vb (ptB l)]
theorem sub_parts : ∀ ps : List Part, F2 (F2 (Sub 1)) (ps.map Part.enc) ((ps.map toPa).map Pa.enc)
  | [] => trivial
  | p :: ps => by
    refine ⟨⟨Sub.rfl 1 _, Sub.rfl 1 _, Sub.rfl 1 _, ?_, trivial⟩, sub_parts ps⟩
    cases h : p.ar with
    | none => simp [Sub, avO, toPa, h]
    | some l => simp only [avO, toPa, h, toks]; exact Sub.rfl 1 _
theorem ptV_sub (l : List Tok) (F : Nat → Prop) (w : World) (v : Value) (h : PRep F w v (ptV l)) : PRep F w v (plV l) := by
  cases h with
  | tup cs _ hl hx =>
    refine .tup cs _ hl fun i hi => ?_
    have := hx i hi
    match i, hi with
    | 0, _ => exact Sub.prep 2 (parts (ptL l)) (.slc 4 ((pl l).map Pa.enc)) _ (show Sub 2 (.slc 4 ((ptL l).map Part.enc)) (.slc 4 (((ptL l).map toPa).map Pa.enc)) from Or.inr ⟨rfl, sub_parts (ptL l)⟩) this
    | 1, _ => exact this
def sumPts : Sum Tryz.prog := ⟨33, fun args => args = [toks (dToks (args.getD 0 .any))] ∧ ((dToks (args.getD 0 .any))).length ≤ 1000000, fun args => plV (dToks (args.getD 0 .any)), fun args h => by
  have := PCall.rsub (parts_ok (dToks (args.getD 0 .any)) h.2) (ptV_sub (dToks (args.getD 0 .any))); rwa [← h.1] at this, false⟩
theorem sumPts_f : sumPts.f = 33 := rfl
theorem sumPts_D (args : List V) : sumPts.D args = (args = [toks (dToks (args.getD 0 .any))] ∧ ((dToks (args.getD 0 .any))).length ≤ 1000000) := rfl
theorem sumPts_flat : sumPts.flat = false := rfl
theorem sumPts_r (args : List V) : sumPts.r args = plV (dToks (args.getD 0 .any)) := rfl
attribute [go_sem] sumPts_f sumPts_D sumPts_flat sumPts_r
end Go.Proofs.YtilinnmancfjgaaGreatDoor
