/- Encodings: rows of numbers, texts, tokens. -/
import Derived.Test.YtdeleamdjakooaaSxR
import Derived.Test.YtdeleamdjakooaaSxQ
namespace Go.Sx
set_option linter.unusedSimpArgs false

abbrev vi (n : Int) : V := .c (.int .i64 n)
abbrev vs (s : ByteArray) : V := .c (.string s)
abbrev vb (b : Bool) : V := .c (.bool b)
abbrev vnil : V := .c (.slice none 0 0)
def ints (l : List Int) : V := .slc 1 (l.map fun n => [vi n])
structure Tok where
  kind : Int
  text : ByteArray
  n : Int
def Tok.enc (t : Tok) : List V := [vi t.kind, vs t.text, vi t.n]
def Tok.zero : Tok := ⟨0, ⟨#[]⟩, 0⟩
def toks (l : List Tok) : V := .slc 3 (l.map Tok.enc)
theorem getD_ints (l : List Int) (i : Nat) : (l.map fun n => [vi n]).getD i [vi 0] = [vi (l.getD i 0)] := by simp [List.getD_eq_getElem?_getD, vi]
theorem getD_toks (l : List Tok) (i : Nat) : (l.map Tok.enc).getD i [vi 0, vs ⟨#[]⟩, vi 0] = (l.getD i .zero).enc := by
  have : [vi 0, vs ⟨#[]⟩, vi 0] = Tok.zero.enc := rfl
  rw [this]
  simp only [List.getD_eq_getElem?_getD, List.getElem?_map, Option.getD_map]
theorem res_c (S : Nat → Bool) (h : Heap) (u : Value) : res S h 12 (.c u) = some (.c u) := rfl
theorem res_slc (S : Nat → Bool) (h : Heap) (sz : Nat) (es : List (List V)) : res S h 12 (.slc sz es) = some (.slc sz es) := rfl
theorem res_pp (S : Nat → Bool) (h : Heap) (cs : List V) : res S h 12 (.pp cs) = some (.pp cs) := rfl
theorem res_agg (S : Nat → Bool) (h : Heap) (cs : List V) : res S h 12 (.agg cs) = (mapO (res S h 11) cs).map .agg := rfl
theorem res_tup (S : Nat → Bool) (h : Heap) (cs : List V) : res S h 12 (.tup cs) = (mapO (res S h 11) cs).map .tup := rfl
theorem res_fn (S : Nat → Bool) (h : Heap) (f : FuncId) (cs : List V) : res S h 12 (.fn f cs) = (mapO (res S h 11) cs).map (.fn f) := rfl
theorem res11_c (S : Nat → Bool) (h : Heap) (u : Value) : res S h 11 (.c u) = some (.c u) := rfl
theorem res11_slc (S : Nat → Bool) (h : Heap) (sz : Nat) (es : List (List V)) : res S h 11 (.slc sz es) = some (.slc sz es) := rfl
theorem res11_pp (S : Nat → Bool) (h : Heap) (cs : List V) : res S h 11 (.pp cs) = some (.pp cs) := rfl
theorem res10_c (S : Nat → Bool) (h : Heap) (u : Value) : res S h 10 (.c u) = some (.c u) := rfl
theorem res9_c (S : Nat → Bool) (h : Heap) (u : Value) : res S h 9 (.c u) = some (.c u) := rfl
theorem res_ref (S : Nat → Bool) (h : Heap) (j ver off len : Nat) : res S h 12 (.ref j ver off len) =
    if S j && h.cur j ver && decide (off + len ≤ (h.blk j).es.length) then (mapO (mapO (res S h 11)) (((h.blk j).es.drop off).take len)).map (.slc (h.blk j).sz) else none := rfl
theorem res11_ref (S : Nat → Bool) (h : Heap) (j ver off len : Nat) : res S h 11 (.ref j ver off len) =
    if S j && h.cur j ver && decide (off + len ≤ (h.blk j).es.length) then (mapO (mapO (res S h 10)) (((h.blk j).es.drop off).take len)).map (.slc (h.blk j).sz) else none := rfl
theorem res_ptr (S : Nat → Bool) (h : Heap) (j ver i o : Nat) : res S h 12 (.ptr j ver i o) =
    if S j && h.cur j ver && decide (i < (h.blk j).es.length) then (mapO (res S h 11) (((h.blk j).es.getD i (h.blk j).d).drop o)).map .pp else none := rfl
theorem res11_ptr (S : Nat → Bool) (h : Heap) (j ver i o : Nat) : res S h 11 (.ptr j ver i o) =
    if S j && h.cur j ver && decide (i < (h.blk j).es.length) then (mapO (res S h 10) (((h.blk j).es.getD i (h.blk j).d).drop o)).map .pp else none := rfl
theorem mapO_flat {α : Type} (S : Nat → Bool) (h : Heap) (n : Nat) (f : α → List V) (hf : ∀ x, (f x).all (fun v => v.isC) = true) (l : List α) : mapO (mapO (res S h (n + 1))) (l.map f) = some (l.map f) := by
  refine mapO_id fun x hx => ?_
  obtain ⟨y, _, rfl⟩ := List.mem_map.1 hx
  refine mapO_id fun v hv => ?_
  have := List.all_eq_true.1 (hf y) v hv
  rw [V.isC_ok this]; rfl
theorem mapO_ints11 (S : Nat → Bool) (h : Heap) (l : List Int) : mapO (mapO (res S h 11)) (l.map fun n => [vi n]) = some (l.map fun n => [vi n]) := mapO_flat S h 10 _ (fun _ => rfl) l
theorem mapO_ints10 (S : Nat → Bool) (h : Heap) (l : List Int) : mapO (mapO (res S h 10)) (l.map fun n => [vi n]) = some (l.map fun n => [vi n]) := mapO_flat S h 9 _ (fun _ => rfl) l
theorem mapO_toks11 (S : Nat → Bool) (h : Heap) (l : List Tok) : mapO (mapO (res S h 11)) (l.map Tok.enc) = some (l.map Tok.enc) := mapO_flat S h 10 _ (fun _ => rfl) l
theorem mapO_toks10 (S : Nat → Bool) (h : Heap) (l : List Tok) : mapO (mapO (res S h 10)) (l.map Tok.enc) = some (l.map Tok.enc) := mapO_flat S h 9 _ (fun _ => rfl) l
theorem take_mapl {α β : Type} (f : α → β) (l : List α) : (l.map f).take l.length = l.map f := by rw [List.take_of_length_le (by simp)]
theorem take_mapn {α β : Type} (f : α → β) (l : List α) (n : Nat) : (l.map f).take n = (l.take n).map f := by simp
theorem inR_iff (n : Int) : (inR n = true) = (-9223372036854775808 ≤ n ∧ n ≤ 9223372036854775807) := by simp [inR]
theorem vi_inj (a b : Int) : (V.c (Value.int IntKind.i64 a) = V.c (Value.int IntKind.i64 b)) = (a = b) := by simp
theorem vs_inj (a b : ByteArray) : (V.c (Value.string a) = V.c (Value.string b)) = (a = b) := by simp
theorem vb_inj (a b : Bool) : (V.c (Value.bool a) = V.c (Value.bool b)) = (a = b) := by simp

theorem dsize (s : ByteArray) : s.data.toList.length = s.size := Array.length_toList

theorem bsAt_nil (agg : Bool) (zero : List Value) (ρ : X → V) (i : Nat) : bsAt agg zero [] ρ i = zero.map .c := rfl
theorem bsAt_cons (agg : Bool) (zero : List Value) (j : Nat) (x : X) (ps : List (Nat × X)) (ρ : X → V) (i : Nat) : bsAt agg zero ((j, x) :: ps) ρ i = if j = i then cellsOf agg (ρ x) else bsAt agg zero ps ρ i := by
  simp only [bsAt, List.find?_cons]
  by_cases h : j = i
  · simp [h]
  · have : (j == i) = false := by simpa using h
    simp [this, h]
theorem range1 : List.range 1 = [0] := rfl
theorem range2 : List.range 2 = [0, 1] := rfl
theorem range3 : List.range 3 = [0, 1, 2] := rfl
theorem range4 : List.range 4 = [0, 1, 2, 3] := rfl
theorem Tok.eta (t : Tok) : (⟨t.kind, t.text, t.n⟩ : Tok) = t := rfl

theorem cond_bb (b : Bool) : (bif b then b else true) = true := by cases b <;> rfl

def V.int : V → Int
  | .c (.int _ n) => n
  | _ => 0
def V.str : V → ByteArray
  | .c (.string s) => s
  | _ => ⟨#[]⟩
def V.cs : V → List V
  | .agg cs => cs
  | .pp cs => cs
  | _ => []
def V.es : V → List (List V)
  | .slc _ es => es
  | _ => []
theorem V.int_c (k : IntKind) (n : Int) : V.int (.c (.int k n)) = n := rfl
theorem V.str_c (s : ByteArray) : V.str (.c (.string s)) = s := rfl
theorem V.cs_agg (cs : List V) : V.cs (.agg cs) = cs := rfl
theorem V.cs_pp (cs : List V) : V.cs (.pp cs) = cs := rfl
theorem V.es_slc (sz : Nat) (es : List (List V)) : V.es (.slc sz es) = es := rfl
def dTokL (l : List V) : Tok := ⟨(l.getD 0 .any).int, (l.getD 1 .any).str, (l.getD 2 .any).int⟩
def dTok (v : V) : Tok := dTokL v.cs
def dInts (v : V) : List Int := v.es.map fun e => (e.getD 0 .any).int
def dToks (v : V) : List Tok := v.es.map dTokL
theorem dTok_enc (t : Tok) : dTok (.agg [vi t.kind, vs t.text, vi t.n]) = t := rfl
theorem dTok_mk (a n : Int) (s : ByteArray) : dTok (.agg [vi a, vs s, vi n]) = ⟨a, s, n⟩ := rfl
theorem dInts_map (sz : Nat) (l : List Int) : dInts (.slc sz (l.map fun n => [vi n])) = l := by
  simp only [dInts, V.es, List.map_map]
  exact List.map_id _
theorem dToks_map (sz : Nat) (l : List Tok) : dToks (.slc sz (l.map Tok.enc)) = l := by
  simp only [dToks, V.es, List.map_map]
  exact List.map_id _
theorem dInts_nil (sz : Nat) : dInts (.slc sz []) = [] := rfl
theorem dInts_vnil : dInts vnil = [] := rfl
end Go.Sx
