/- Layer 7: the parts of a value. -/
import Derived.Test.YtlagfeppihkamaaNe
import Derived.Test.YtlagfeppihkamaaLo
namespace Go.Proofs.Ytlagfeppihkamaa
open Go.Sx
set_option linter.unusedSimpArgs false
set_option maxHeartbeats 4000000
set_option maxRecDepth 20000

structure Part where
  t : Tok
  ar : Option (List Tok)
instance : Inhabited Part := ⟨⟨.zero, none⟩⟩
def avO (o : Option (List Tok)) : V := match o with | none => vnil | some l => toks l
def Part.enc (p : Part) : List V := [vi p.t.kind, vs p.t.text, vi p.t.n, avO p.ar]
def parts (l : List Part) : V := .slc 4 (l.map Part.enc)
def dTokO (v : V) : Option (List Tok) := match v with | .slc _ _ => some (dToks v) | _ => none
theorem dTokO_av (o : Option (List Tok)) : dTokO (avO o) = o := by
  cases o with
  | none => rfl
  | some l => show some (dToks (toks l)) = some l; rw [toks, dToks_map]
def dPartL (e : List V) : Part := ⟨dTokL e, dTokO (e.getD 3 .any)⟩
def dPart (v : V) : Part := dPartL v.cs
def dParts (v : V) : List Part := v.es.map dPartL
theorem dPart_mk (a n : Int) (s : ByteArray) (o : Option (List Tok)) : dPart (.agg [.c (.int .i64 a), .c (.string s), .c (.int .i64 n), avO o]) = ⟨⟨a, s, n⟩, o⟩ := by
  show (⟨_, dTokO (avO o)⟩ : Part) = _
  rw [dTokO_av]; rfl
theorem dPart_enc (p : Part) : dPart (.agg p.enc) = p := dPart_mk _ _ _ _
theorem Part.eta' (p : Part) : (⟨⟨p.t.kind, p.t.text, p.t.n⟩, p.ar⟩ : Part) = p := rfl
theorem dParts_map (sz : Nat) (l : List Part) : dParts (.slc sz (l.map Part.enc)) = l := by
  simp only [dParts, V.es, List.map_map]
  conv => rhs; rw [← List.map_id l]
  apply List.map_congr_left
  intro p _
  exact dPart_enc p
theorem getD_parts (l : List Part) (i : Nat) : (l.map Part.enc).getD i [vi 0, vs ⟨#[]⟩, vi 0, vnil] = (l.getD i default).enc := by
  by_cases h : i < l.length
  · simp [List.getD_eq_getElem?_getD, h]
  · simp [List.getD_eq_getElem?_getD, h]; rfl
theorem res11_av (S : Nat → Bool) (h : Heap) (o : Option (List Tok)) : res S h 11 (avO o) = some (avO o) := by cases o <;> rfl
theorem res10_av (S : Nat → Bool) (h : Heap) (o : Option (List Tok)) : res S h 10 (avO o) = some (avO o) := by cases o <;> rfl
theorem res12_av (S : Nat → Bool) (h : Heap) (o : Option (List Tok)) : res S h 12 (avO o) = some (avO o) := by cases o <;> rfl
theorem av_gok (o : Option (List Tok)) : (avO o).gok = true := by cases o <;> rfl
theorem av_un (o : Option (List Tok)) : (avO o).un = avO o := by cases o <;> rfl
theorem av_one (h : Heap) (o : Option (List Tok)) : h.isOne (avO o) = true := by cases o <;> rfl
theorem mapO_parts10 (S : Nat → Bool) (h : Heap) : ∀ l : List Part, mapO (mapO (res S h 10)) (l.map Part.enc) = some (l.map Part.enc)
  | [] => rfl
  | p :: l => by
    have e : mapO (res S h 10) p.enc = some p.enc := by simp only [Part.enc, mapO, res10_c, res10_av]
    simp only [List.map_cons, mapO, mapO_parts10 S h l, e]
theorem mapO_parts11 (S : Nat → Bool) (h : Heap) : ∀ l : List Part, mapO (mapO (res S h 11)) (l.map Part.enc) = some (l.map Part.enc)
  | [] => rfl
  | p :: l => by
    have e : mapO (res S h 11) p.enc = some p.enc := by simp only [Part.enc, mapO, res11_c, res11_av]
    simp only [List.map_cons, mapO, mapO_parts11 S h l, e]

/-- The places from one on, ahead of another one. -/
def plR (ends : List Int) (to : Int) : Nat → Int → List Int
  | 0, _ => []
  | f + 1, a => if a < to then a :: plR ends to f (skip ends a) else []
def pAt (l : List Tok) (k : Nat) : Part := ⟨l.getD k .zero, if 0 ≤ (endsA l).getD k 0 then some ((l.take ((endsA l).getD k 0).toNat).drop (k + 1)) else none⟩
def partsL (l : List Tok) : List Int → Option (List Part)
  | [] => some []
  | k :: r => if (endsA l).getD k.toNat 0 = l.length then none else (partsL l r).map fun ps => if (l.getD k.toNat .zero).kind = 1 then ps else pAt l k.toNat :: ps
def ptO (l : List Tok) : Option (List Part) := if deep l = true then none else partsL l (plR (endsA l) l.length (l.length + 1) 0)
def ptL (l : List Tok) : List Part := (ptO l).getD []
def ptB (l : List Tok) : Bool := (ptO l).isSome
def ptV (l : List Tok) : V := .tup [parts (ptL l), vb (ptB l)]
theorem vnil_parts (F : Nat → Prop) (w : World) (v : Value) (h : PRep F w v (.tup [vnil, vb false])) : PRep F w v (.tup [parts [], vb false]) := by
  cases h with
  | tup cs _ hl hx =>
    refine .tup cs _ hl fun i hi => ?_
    have := hx i hi
    match i, hi with
    | 0, _ => exact PRep.nilS 4 this
    | 1, _ => exact this
theorem partsL_none {l : List Tok} : ∀ {ps : List Int} {k : Int}, k ∈ ps → (endsA l).getD k.toNat 0 = l.length → partsL l ps = none
  | p :: ps, k, hk, he => by
    rcases List.mem_cons.1 hk with rfl | hk
    · simp only [partsL]; rw [if_pos he]
    · simp only [partsL]
      split
      · rfl
      · rw [partsL_none hk he]; rfl
def ptRes : Option (List Part) → V
  | none => .tup [vnil, vb false]
  | some ps => .tup [parts ps, vb true]
structure PtS where
  k : Nat
  f : Nat
  out : List Part
  ver : Nat
  clk : Nat
theorem skip_nat {l : List Tok} (hd : deep l = false) (k : Nat) (hk : k < l.length) : ∃ n : Nat, skip (endsA l) k = n ∧ k < n ∧ n ≤ l.length := by
  have hlen : (endsA l).length = l.length := by unfold endsA; rw [hd]; simp [endsTo_len]
  have h1 := skip_gt (endsA l) k (by rw [hlen]; omega)
  have h2 := skip_le (endsA l) k (by rw [hlen]; omega)
  exact ⟨(skip (endsA l) k).toNat, by omega, by omega, by omega⟩
theorem pt_eq {l : List Tok} {x : Option (List Part)} (h : ptO l = x) : ptV l = .tup [parts (x.getD []), vb x.isSome] := by unfold ptV ptL ptB; rw [h]
theorem ptRes_ok {f : FuncId} {args : List V} (R : Option (List Part)) (h : PCall Try.prog f args (ptRes R)) : PCall Try.prog f args (.tup [parts (R.getD []), vb R.isSome]) := by
  cases R with
  | none => exact PCall.rsub h vnil_parts
  | some ps => exact h
end Go.Proofs.Ytlagfeppihkamaa
