/- The abstract values, and what it means that they stand for values in memory. -/
import Derived.WalkKit
import Derived.ProofKit
import Derived.Below
import Derived.Deep.Quiet
import Derived.StillTail
import Derived.ScopeJumps
namespace Go.Sx

inductive V where
  | any
  | c (v : Value)
  | agg (cs : List V)
  | tup (vs : List V)
  | slc (sz : Nat) (es : List (List V))
  | pp (cs : List V)
  | ref (j ver off len : Nat)
  | ptr (j ver i o : Nat)
  | fn (f : FuncId) (caps : List V)
  | gd (b : Bool) (v : V)
instance : Inhabited V := ⟨.any⟩

inductive PRep (F : Nat → Prop) (w : World) : Value → V → Prop
  | any (v : Value) : PRep F w v .any
  | c (v : Value) : PRep F w v (.c v)
  | agg (cs : Array Value) (xs : List V) (hl : cs.size = xs.length) (h1 : ∀ i, i < xs.length → (cs.getD i undef).oneCell' = true)
      (h : ∀ i, i < xs.length → PRep F w (cs.getD i undef) (xs.getD i .any)) : PRep F w (.agg cs) (.agg xs)
  | tup (cs : Array Value) (xs : List V) (hl : cs.size = xs.length)
      (h : ∀ i, i < xs.length → PRep F w (cs.getD i undef) (xs.getD i .any)) : PRep F w (.tuple cs) (.tup xs)
  | slc (a : Option Addr) (n cap sz : Nat) (es : List (List V)) (b o : Nat) (xs : Nat → Nat → Value)
      (hn : n = es.length) (hc : n ≤ cap) (hsz : ∀ e ∈ es, e.length = sz)
      (ha : 0 < es.length → a = some ⟨b, o, none⟩ ∧ F b)
      (hx : ∀ i k, i < es.length → k < sz → w.cell? ⟨b, o + (i * sz + k), none⟩ = some (xs i k) ∧ (xs i k).oneCell' = true)
      (hr : ∀ i k, i < es.length → k < sz → PRep F w (xs i k) ((es.getD i []).getD k .any)) : PRep F w (.slice a n cap) (.slc sz es)
  | pp (b o : Nat) (cs : List V) (xs : Nat → Value) (hF : F b)
      (hx : ∀ k, k < cs.length → w.cell? ⟨b, o + k, none⟩ = some (xs k) ∧ (xs k).oneCell' = true)
      (hr : ∀ k, k < cs.length → PRep F w (xs k) (cs.getD k .any)) : PRep F w (.pointer (some ⟨b, o, none⟩)) (.pp cs)
  | fn (f : FuncId) (caps : List V) (cs : Array Value) (hl : cs.size = caps.length)
      (h : ∀ i, i < caps.length → PRep F w (cs.getD i undef) (caps.getD i .any)) : PRep F w (.func (.func f) #[] cs) (.fn f caps)

/-- What the world holds of one own block. -/
structure Inf where
  ver : Nat
  blk : Option Nat
  sz : Nat
  cap : Nat
/-- What a run knows besides the abstract state: the blocks that stay as they are; where the own blocks lie. -/
structure Gh where
  F : Nat → Prop
  inf : List Inf
  clk : Nat

def RefOK (I : Inf) (off len : Nat) (v : Value) : Prop :=
  match I.blk with
  | none => v = .slice none 0 0 ∧ len = 0 ∧ off = 0
  | some b => ∃ a cap, v = .slice a len cap ∧ len ≤ cap ∧ off + cap ≤ I.cap ∧ (0 < cap → a = some ⟨b, off * I.sz, none⟩)
def PtrOK (I : Inf) (i o : Nat) (v : Value) : Prop := ∃ b, I.blk = some b ∧ v = .pointer (some ⟨b, i * I.sz + o, none⟩)

inductive VRep (g : Gh) (w : World) : Value → V → Prop
  | p (v : Value) (x : V) (h : PRep g.F w v x) : VRep g w v x
  | agg (cs : Array Value) (xs : List V) (hl : cs.size = xs.length) (h1 : ∀ i, i < xs.length → (cs.getD i undef).oneCell' = true)
      (h : ∀ i, i < xs.length → VRep g w (cs.getD i undef) (xs.getD i .any)) : VRep g w (.agg cs) (.agg xs)
  | tup (cs : Array Value) (xs : List V) (hl : cs.size = xs.length)
      (h : ∀ i, i < xs.length → VRep g w (cs.getD i undef) (xs.getD i .any)) : VRep g w (.tuple cs) (.tup xs)
  | fn (f : FuncId) (caps : List V) (cs : Array Value) (hl : cs.size = caps.length)
      (h : ∀ i, i < caps.length → VRep g w (cs.getD i undef) (caps.getD i .any)) : VRep g w (.func (.func f) #[] cs) (.fn f caps)
  | ref (j ver off len : Nat) (v : Value) (hv : ver < g.clk) (h : ∀ I, g.inf[j]? = some I → I.ver = ver → RefOK I off len v) : VRep g w v (.ref j ver off len)
  | ptr (j ver i o : Nat) (v : Value) (hv : ver < g.clk) (h : ∀ I, g.inf[j]? = some I → I.ver = ver → PtrOK I i o v) : VRep g w v (.ptr j ver i o)
  | gd (b : Bool) (x : V) (v : Value) (h : b = true → VRep g w v x) (h0 : b = false → v = undef) : VRep g w v (.gd b x)

theorem PRep.mono {F F' : Nat → Prop} {w w' : World} (hF : ∀ b, F b → F' b) (hw : ∀ b, F b → w'.heap[b]? = w.heap[b]?) {v : Value} {x : V} (h : PRep F w v x) : PRep F' w' v x := by
  induction h with
  | any v => exact .any v
  | c v => exact .c v
  | agg cs xs hl h1 _ ih => exact .agg cs xs hl h1 ih
  | tup cs xs hl _ ih => exact .tup cs xs hl ih
  | slc a n cap sz es b o xs hn hc hsz ha hx _ ih =>
    refine .slc a n cap sz es b o xs hn hc hsz (fun h => ⟨(ha h).1, hF _ (ha h).2⟩) (fun i k hi hk => ⟨?_, (hx i k hi hk).2⟩) ih
    exact (World.cell?_of_block (w := w) (hw b (ha (by omega)).2)).trans (hx i k hi hk).1
  | pp b o cs xs hb hx _ ih =>
    refine .pp b o cs xs (hF _ hb) (fun k hk => ⟨?_, (hx k hk).2⟩) ih
    exact (World.cell?_of_block (w := w) (hw b hb)).trans (hx k hk).1
  | fn f caps cs hl _ ih => exact .fn f caps cs hl ih

/-- A later state of knowledge: what was known of values still holds. -/
structure Ext (g : Gh) (w : World) (g' : Gh) (w' : World) : Prop where
  F : ∀ b, g.F b → g'.F b
  same : ∀ b, g.F b → w'.heap[b]? = w.heap[b]?
  clk : g.clk ≤ g'.clk
  inf : ∀ (j : Nat) (I : Inf), g'.inf[j]? = some I → I.ver < g.clk → g.inf[j]? = some I
theorem Ext.refl (g : Gh) (w : World) : Ext g w g w := ⟨fun _ h => h, fun _ _ => rfl, Nat.le_refl _, fun _ _ h _ => h⟩
theorem Ext.trans {g g' g'' : Gh} {w w' w'' : World} (h : Ext g w g' w') (k : Ext g' w' g'' w'') : Ext g w g'' w'' :=
  ⟨fun b hb => k.F b (h.F b hb), fun b hb => (k.same b (h.F b hb)).trans (h.same b hb), Nat.le_trans h.clk k.clk,
   fun j I hj hI => h.inf j I (k.inf j I hj (Nat.lt_of_lt_of_le hI h.clk)) hI⟩
theorem VRep.mono {g g' : Gh} {w w' : World} (e : Ext g w g' w') {v : Value} {x : V} (h : VRep g w v x) : VRep g' w' v x := by
  induction h with
  | p v x h => exact .p v x (h.mono e.F e.same)
  | agg cs xs hl h1 _ ih => exact .agg cs xs hl h1 ih
  | tup cs xs hl _ ih => exact .tup cs xs hl ih
  | fn f caps cs hl _ ih => exact .fn f caps cs hl ih
  | ref j ver off len v hv h => exact .ref j ver off len v (Nat.lt_of_lt_of_le hv e.clk) fun I hI hver => h I (e.inf j I hI (hver ▸ hv)) hver
  | ptr j ver i o v hv h => exact .ptr j ver i o v (Nat.lt_of_lt_of_le hv e.clk) fun I hI hver => h I (e.inf j I hI (hver ▸ hv)) hver
  | gd b x v _ h0 ih => exact .gd b x v ih h0

/-- The abstract heap. -/
structure Blk where
  ver : Nat
  sz : Nat
  es : List (List V)
  fz : Bool
  d : List V
structure Heap where
  bs : List Blk
  clk : Nat

def CellsOK (g : Gh) (w : World) (b cap : Nat) (B : Blk) : Prop :=
  ∃ cur e, w.heap[b]? = some (.cells cur e (0, 0)) ∧ cur.size = cap * B.sz ∧ B.es.length ≤ cap ∧ cap ≤ maxLen ∧
    ∀ i k, i < B.es.length → k < B.sz → (cur.getD (i * B.sz + k) undef).oneCell' = true ∧ VRep g w (cur.getD (i * B.sz + k) undef) ((B.es.getD i []).getD k .any)
structure BOK (g : Gh) (w : World) (B : Blk) (I : Inf) : Prop where
  ver : I.ver = B.ver
  sz : I.sz = B.sz
  len : ∀ e ∈ B.es, e.length = B.sz
  gone : I.blk = none → B.es = []
  here : ∀ b, I.blk = some b → CellsOK g w b I.cap B
  fz : ∀ b, I.blk = some b → B.fz = true → g.F b
  nf : ∀ b, I.blk = some b → B.fz = false → ¬ g.F b
/-- Of what was there when the call began: which blocks it may write, and which stay as they are, as far as it knows. -/
structure Own where
  o : Nat → Prop
  F : Nat → Prop
  g : Gh
/-- The run's own world: what was there when the call began, but the blocks that it was handed to write, is as it was. -/
structure Frm (w0 : World) (own0 : Own) (w : World) : Prop where
  os : w.os = w0.os
  tape : w.tape = w0.tape
  output : w.output = w0.output
  size : w0.heap.size ≤ w.heap.size
  block : ∀ b, b < w0.heap.size → ¬ own0.o b → w.heap[b]? = w0.heap[b]?
structure HRel (g : Gh) (h : Heap) (w w0 : World) (own0 : Own) : Prop where
  clk : g.clk = h.clk
  len : g.inf.length = h.bs.length
  ok : ∀ (j : Nat) (B : Blk) (I : Inf), h.bs[j]? = some B → g.inf[j]? = some I → BOK g w B I
  vlt : ∀ (j : Nat) (I : Inf), g.inf[j]? = some I → I.ver < g.clk
  dist : ∀ (j k : Nat) (I J : Inf) (b : Nat), g.inf[j]? = some I → g.inf[k]? = some J → I.blk = some b → J.blk = some b → j = k
  Flt : ∀ b, g.F b → b < w.heap.size
  own : ∀ (j : Nat) (I : Inf) (b : Nat), g.inf[j]? = some I → I.blk = some b → own0.o b ∨ w0.heap.size ≤ b
  frm : Frm w0 own0 w
  fin : ∀ b, g.F b → own0.F b ∨ own0.o b ∨ w0.heap.size ≤ b
  ext : Ext own0.g w0 g w
theorem HRel.blt {g : Gh} {h : Heap} {w w0 : World} {own0 : Own} (H : HRel g h w w0 own0) {j : Nat} {I : Inf} {b : Nat} (hI : g.inf[j]? = some I) (hb : I.blk = some b) : b < w.heap.size := by
  have hj : j < h.bs.length := by rw [← H.len]; exact (List.getElem?_eq_some_iff.1 hI).1
  obtain ⟨cur, e, hc, _⟩ := (H.ok j _ I (List.getElem?_eq_getElem hj) hI).here b hb
  exact (Array.getElem?_eq_some_iff.1 hc).1
theorem Frm.refl (w : World) (own0 : Own) : Frm w own0 w := ⟨rfl, rfl, rfl, Nat.le_refl _, fun _ _ _ => rfl⟩
theorem CellsOK.mono {g g' : Gh} {w w' : World} {b cap : Nat} {B : Blk} (e : Ext g w g' w') (hb : w'.heap[b]? = w.heap[b]?) (h : CellsOK g w b cap B) : CellsOK g' w' b cap B := by
  obtain ⟨cur, el, h1, h2, h3, h4, h5⟩ := h
  exact ⟨cur, el, hb.trans h1, h2, h3, h4, fun i k hi hk => ⟨(h5 i k hi hk).1, (h5 i k hi hk).2.mono e⟩⟩

/-- Nothing that is there turns: new blocks that nobody owns, draws. -/
structure Grow (w w' : World) : Prop where
  os : w'.os = w.os
  tape : w'.tape = w.tape
  output : w'.output = w.output
  size : w.heap.size ≤ w'.heap.size
  block : ∀ b, b < w.heap.size → w'.heap[b]? = w.heap[b]?
theorem Grow.refl (w : World) : Grow w w := ⟨rfl, rfl, rfl, Nat.le_refl _, fun _ _ => rfl⟩
theorem Grow.trans {a b c : World} (h : Grow a b) (k : Grow b c) : Grow a c :=
  ⟨k.os.trans h.os, k.tape.trans h.tape, k.output.trans h.output, Nat.le_trans h.size k.size, fun i hi => (k.block i (Nat.lt_of_lt_of_le hi h.size)).trans (h.block i hi)⟩
theorem Grow.drew (w : World) : Grow w w.drew := ⟨rfl, rfl, rfl, Nat.le_refl _, fun _ _ => rfl⟩
theorem Grow.alloc (w : World) (o : Obj) : Grow w (w.alloc o) := ⟨rfl, rfl, rfl, by simp, fun b hb => heap_alloc_old w o hb⟩
theorem Frm.grow {w0 w w' : World} {own0 : Own} (f : Frm w0 own0 w) (h : Grow w w') : Frm w0 own0 w' :=
  ⟨h.os.trans f.os, h.tape.trans f.tape, h.output.trans f.output, Nat.le_trans f.size h.size, fun b hb hn => (h.block b (Nat.lt_of_lt_of_le hb f.size)).trans (f.block b hb hn)⟩
/-- The known part is as it was, and what stays put may grow by new blocks. -/
theorem HRel.grow {g : Gh} {h : Heap} {w w' w0 : World} {own0 : Own} (H : HRel g h w w0 own0) (hg : Grow w w') (F' : Nat → Prop) (hF : ∀ b, g.F b → F' b) (hF' : ∀ b, F' b → b < w'.heap.size)
    (hown : ∀ (j : Nat) (I : Inf) (b : Nat), g.inf[j]? = some I → I.blk = some b → F' b → g.F b) (hfin : ∀ b, F' b → own0.F b ∨ own0.o b ∨ w0.heap.size ≤ b) :
    Ext g w ⟨F', g.inf, g.clk⟩ w' ∧ HRel ⟨F', g.inf, g.clk⟩ h w' w0 own0 := by
  have e : Ext g w ⟨F', g.inf, g.clk⟩ w' := ⟨hF, fun b hb => hg.block b (H.Flt b hb), Nat.le_refl _, fun j I hj _ => hj⟩
  refine ⟨e, ⟨H.clk, H.len, fun j B I hB hI => ?_, H.vlt, H.dist, hF', H.own, H.frm.grow hg, hfin, H.ext.trans e⟩⟩
  have hk := H.ok j B I hB hI
  exact ⟨hk.ver, hk.sz, hk.len, hk.gone, fun b hb => (hk.here b hb).mono e (hg.block b (H.blt hI hb)), fun b hb hf => hF b (hk.fz b hb hf), fun b hb hf hn => hk.nf b hb hf (hown j I b hI hb hn)⟩
theorem HRel.grow' {g : Gh} {h : Heap} {w w' w0 : World} {own0 : Own} (H : HRel g h w w0 own0) (hg : Grow w w') : Ext g w g w' ∧ HRel g h w' w0 own0 :=
  H.grow hg g.F (fun _ h => h) (fun b hb => Nat.lt_of_lt_of_le (H.Flt b hb) hg.size) (fun _ _ _ _ _ h => h) H.fin
end Go.Sx
