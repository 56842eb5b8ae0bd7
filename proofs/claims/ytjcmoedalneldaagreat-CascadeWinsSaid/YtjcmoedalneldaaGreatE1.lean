/- Part of the proof of CascadeWins. No condition. -/
import Derived.WalkKit
import Derived.ProofKit
import Derived.Below
import Derived.Deep.Quiet
import Derived.StillTail
import Derived.ScopeJumps
import Derived.Lib.Strings
import Derived.ChangeKeysEq
section
namespace Go.Sx
inductive V where
 |any
 |c (v:Value)
 |agg (cs:List V)
 |tup (vs:List V)
 |slc (sz:Nat) (es:List (List V))
 |pp (cs:List V)
 |ref (j ver off len:Nat)
 |ptr (j ver i o:Nat)
 |fn (f:FuncId) (caps:List V)
 |gd (b:Bool) (v:V)
 |mp (ks:List Value) (vs:List V)
instance:Inhabited V:=⟨.any⟩
inductive PRep (F:Nat→Prop) (w:World):Value→V→Prop
 |any (v:Value):PRep F w v .any
 |c (v:Value):PRep F w v (.c v)
 |agg (cs:Array Value) (xs:List V) (hl:cs.size=xs.length) (h1:∀i,i<xs.length→(cs.getD i undef).oneCell'=true)
   (h:∀i,i<xs.length→PRep F w (cs.getD i undef) (xs.getD i .any)):PRep F w (.agg cs) (.agg xs)
 |tup (cs:Array Value) (xs:List V) (hl:cs.size=xs.length)
   (h:∀i,i<xs.length→PRep F w (cs.getD i undef) (xs.getD i .any)):PRep F w (.tuple cs) (.tup xs)
 |slc (a:Option Addr) (n cap sz:Nat) (es:List (List V)) (b o:Nat) (xs:Nat→Nat→Value)
   (hn:n=es.length) (hc:n≤cap) (hsz:∀e∈es,e.length=sz)
   (ha:0<es.length→a=some ⟨b,o,none⟩∧F b)
   (hx:∀i k,i<es.length→k<sz→w.cell? ⟨b,o+(i*sz+k),none⟩=some (xs i k)∧(xs i k).oneCell'=true)
   (hr:∀i k,i<es.length→k<sz→PRep F w (xs i k) ((es.getD i []).getD k .any)):PRep F w (.slice a n cap) (.slc sz es)
 |pp (b o:Nat) (cs:List V) (xs:Nat→Value) (hF:F b)
   (hx:∀k,k<cs.length→w.cell? ⟨b,o+k,none⟩=some (xs k)∧(xs k).oneCell'=true)
   (hr:∀k,k<cs.length→PRep F w (xs k) (cs.getD k .any)):PRep F w (.pointer (some ⟨b,o,none⟩)) (.pp cs)
 |fn (f:FuncId) (caps:List V) (cs:Array Value) (hl:cs.size=caps.length)
   (h:∀i,i<caps.length→PRep F w (cs.getD i undef) (caps.getD i .any)):PRep F w (.func (.func f) #[] cs) (.fn f caps)
 |mp (r:Nat) (es:Array MapEntry) (clk:Nat) (ks:List Value) (vs:List V) (ix iy:Nat→Nat) (hF:F r) (ho:w.heap[r]? =some (.map es clk)) (hl:vs.length=ks.length)
   (hx:∀i,i<es.size→ix i<ks.length∧(es.getD i default).key=ks.getD (ix i) undef) (hy:∀j,j<ks.length→iy j<es.size∧ix (iy j)=j) (hd:ks.Nodup)
   (h:∀i,i<es.size→PRep F w (es.getD i default).val (vs.getD (ix i) .any)):PRep F w (.map (some r)) (.mp ks vs)
structure Inf where
 ver:Nat
 blk:Option Nat
 sz:Nat
 cap:Nat
structure Gh where
 F:Nat→Prop
 inf:List Inf
 us:Nat→Nat→Prop
def qu(I:Inf)(off len:Nat)(v:Value):Prop:=
 match I.blk with
 |none=>∃a,v= .slice a 0 0∧len=0∧off=0
 |some b=>∃a cap,v= .slice a len cap∧len≤cap∧off+cap≤I.cap∧(0<cap→a=some ⟨b,off*I.sz,none⟩)
def zyk(I:Inf)(i o:Nat)(v:Value):Prop:=∃b,I.blk=some b∧v= .pointer (some ⟨b,i*I.sz+o,none⟩)
inductive VRep (g:Gh) (w:World):Value→V→Prop
 |p (v:Value) (x:V) (h:PRep g.F w v x):VRep g w v x
 |agg (cs:Array Value) (xs:List V) (hl:cs.size=xs.length) (h1:∀i,i<xs.length→(cs.getD i undef).oneCell'=true)
   (h:∀i,i<xs.length→VRep g w (cs.getD i undef) (xs.getD i .any)):VRep g w (.agg cs) (.agg xs)
 |tup (cs:Array Value) (xs:List V) (hl:cs.size=xs.length)
   (h:∀i,i<xs.length→VRep g w (cs.getD i undef) (xs.getD i .any)):VRep g w (.tuple cs) (.tup xs)
 |fn (f:FuncId) (caps:List V) (cs:Array Value) (hl:cs.size=caps.length)
   (h:∀i,i<caps.length→VRep g w (cs.getD i undef) (caps.getD i .any)):VRep g w (.func (.func f) #[] cs) (.fn f caps)
 |ref (j ver off len:Nat) (v:Value) (hv:g.us j ver) (h:∀I,g.inf[j]? =some I→I.ver=ver→qu I off len v):VRep g w v (.ref j ver off len)
 |ptr (j ver i o:Nat) (v:Value) (hv:g.us j ver) (h:∀I,g.inf[j]? =some I→I.ver=ver→zyk I i o v):VRep g w v (.ptr j ver i o)
 |mp (r:Nat) (es:Array MapEntry) (clk:Nat) (ks:List Value) (vs:List V) (ix iy:Nat→Nat) (hF:g.F r) (ho:w.heap[r]? =some (.map es clk)) (hl:vs.length=ks.length)
   (hx:∀i,i<es.size→ix i<ks.length∧(es.getD i default).key=ks.getD (ix i) undef) (hy:∀j,j<ks.length→iy j<es.size∧ix (iy j)=j) (hd:ks.Nodup)
   (h:∀i,i<es.size→VRep g w (es.getD i default).val (vs.getD (ix i) .any)):VRep g w (.map (some r)) (.mp ks vs)
 |gd (b:Bool) (x:V) (v:Value) (h:b=true→VRep g w v x) (h0:b=false→v=undef):VRep g w v (.gd b x)
theorem PRep.mono{F F':Nat→Prop}{w w':World}(hF:∀b,F b→F' b)(hw:∀b,F b→w'.heap[b]? =w.heap[b]?){v:Value}{x:V}(h:PRep F w v x):PRep F' w' v x:=by
 induction h with
 |any v=>exact .any v
 |c v=>exact .c v
 |agg cs xs hl h1 _ ih=>exact .agg cs xs hl h1 ih
 |tup cs xs hl _ ih=>exact .tup cs xs hl ih
 |slc a n cap sz es b o xs hn hc hsz ha hx _ ih=>
  refine .slc a n cap sz es b o xs hn hc hsz (fun h=>⟨(ha h).1,hF _ (ha h).2⟩) (fun i k hi hk=>⟨?_,(hx i k hi hk).2⟩) ih
  exact(World.cell?_of_block (w:=w) (hw b (ha (by omega)).2)).trans (hx i k hi hk).1
 |pp b o cs xs hb hx _ ih=>
  refine .pp b o cs xs (hF _ hb) (fun k hk=>⟨?_,(hx k hk).2⟩) ih
  exact(World.cell?_of_block (w:=w) (hw b hb)).trans (hx k hk).1
 |fn f caps cs hl _ ih=>exact .fn f caps cs hl ih
 |mp r es clk ks vs ix iy hb ho hl hx hy hd _ ih=>exact .mp r es clk ks vs ix iy (hF _ hb) ((hw _ hb).trans ho) hl hx hy hd ih
structure Ext0 (g:Gh) (w:World) (g':Gh) (w':World):Prop where
 F:∀b,g.F b→g'.F b
 same:∀b,g.F b→w'.heap[b]? =w.heap[b]?
 us:∀j v,g.us j v→g'.us j v
 inf:∀(j:Nat)(I:Inf),g'.inf[j]? =some I→g.us j I.ver→g.inf[j]? =some I
structure Ext (g:Gh) (w:World) (g':Gh) (w':World):Prop extends Ext0 g w g' w' where
 up:∀j v,g'.us j v→g.us j v∨∀k u,g.us k u→u<v
theorem Ext.refl(g:Gh)(w:World):Ext g w g w:=⟨⟨fun _ h=>h,fun _ _=>rfl,fun _ _ h=>h,fun _ _ h _=>h⟩,fun _ _ h=>.inl h⟩
theorem Ext.trans{g g' g'':Gh}{w w' w'':World}(h:Ext g w g' w')(k:Ext g' w' g'' w''):Ext g w g'' w'':=
 ⟨⟨fun b hb=>k.F b (h.F b hb),fun b hb=>(k.same b (h.F b hb)).trans (h.same b hb),fun j v hv=>k.us j v (h.us j v hv),
  fun j I hj hI=>h.inf j I (k.inf j I hj (h.us _ _ hI)) hI⟩,fun j v hv=>(k.up j v hv).elim (h.up j v) fun hh=>.inr fun a u hu=>hh a u (h.us a u hu)⟩
theorem VRep.mono0{g g':Gh}{w w':World}(e:Ext0 g w g' w'){v:Value}{x:V}(h:VRep g w v x):VRep g' w' v x:=by
 induction h with
 |p v x h=>exact .p v x (h.mono e.F e.same)
 |agg cs xs hl h1 _ ih=>exact .agg cs xs hl h1 ih
 |tup cs xs hl _ ih=>exact .tup cs xs hl ih
 |fn f caps cs hl _ ih=>exact .fn f caps cs hl ih
 |mp r es clk ks vs ix iy hb ho hl hx hy hd _ ih=>exact .mp r es clk ks vs ix iy (e.F _ hb) ((e.same _ hb).trans ho) hl hx hy hd ih
 |ref j ver off len v hv h=>exact .ref j ver off len v (e.us _ _ hv) fun I hI hver=>h I (e.inf j I hI (by rw[hver];exact hv)) hver
 |ptr j ver i o v hv h=>exact .ptr j ver i o v (e.us _ _ hv) fun I hI hver=>h I (e.inf j I hI (by rw[hver];exact hv)) hver
 |gd b x v _ h0 ih=>exact .gd b x v ih h0
theorem VRep.mono{g g':Gh}{w w':World}(e:Ext g w g' w'){v:Value}{x:V}(h:VRep g w v x):VRep g' w' v x:=h.mono0 e.toExt0
structure Blk where
 ver:Nat
 sz:Nat
 es:List (List V)
 fz:Bool
 d:List V
structure Heap where
 bs:List Blk
 clk:Nat
def qw(w:World)(b:Nat)(cur:Array Value)(e:TypeId):Prop:=∃m:Nat×Nat,w.heap[b]? =some (.cells cur e m)∧(m.1=m.2∨cur.size≤m.1)
theorem qw.of{w:World}{b:Nat}{cur:Array Value}{e:TypeId}(h:w.heap[b]? =some (.cells cur e (0,0))):qw w b cur e:=⟨(0,0),h,.inl rfl⟩
theorem qw.lt{w:World}{b:Nat}{cur:Array Value}{e:TypeId}(h:qw w b cur e):b<w.heap.size:=let⟨_,h,_⟩:=h;(Array.getElem?_eq_some_iff.1 h).1
theorem qw.cong{w w':World}{b:Nat}{cur:Array Value}{e:TypeId}(hb:w'.heap[b]? =w.heap[b]?)(h:qw w b cur e):qw w' b cur e:=let⟨m,h1,h2⟩:=h;⟨m,hb.trans h1,h2⟩
def kv(g:Gh)(w:World)(b cap:Nat)(B:Blk):Prop:=
 ∃cur e,qw w b cur e∧cur.size=cap*B.sz∧B.es.length≤cap∧cap≤maxLen∧
  ∀i k,i<B.es.length→k<B.sz→(cur.getD (i*B.sz+k) undef).oneCell'=true∧VRep g w (cur.getD (i*B.sz+k) undef) ((B.es.getD i []).getD k .any)
structure BOK (g:Gh) (w:World) (B:Blk) (I:Inf):Prop where
 ver:I.ver=B.ver
 sz:I.sz=B.sz
 len:∀e∈B.es,e.length=B.sz
 gone:I.blk=none→B.es= []
 here:∀b,I.blk=some b→kv g w b I.cap B
 fz:∀b,I.blk=some b→B.fz=true→g.F b
 nf:∀b,I.blk=some b→B.fz=false→¬g.F b
structure Own where
 o:Nat→Prop
 F:Nat→Prop
 g:Gh
 ds:List Deferred
structure Frm (w0:World) (own0:Own) (w:World):Prop where
 os:w.os=w0.os
 tape:w.tape=w0.tape
 output:w.output=w0.output
 size:w0.heap.size≤w.heap.size
 block:∀b,b<w0.heap.size→¬own0.o b→w.heap[b]? =w0.heap[b]?
def glb:Nat→Option (List Value):=fun _=>none
def zcH(F:Nat→Prop)(w:World):Prop:=∀g cs,glb g=some cs→F g∧∀k,k<cs.length→w.cell? ⟨g,k,none⟩=some (cs.getD k undef)∧(cs.getD k undef).oneCell'=true
theorem zcH.mono{F F':Nat→Prop}{w w':World}(h:zcH F w)(hF:∀b,F b→F' b)(hs:∀b,F b→w'.heap[b]? =w.heap[b]?):zcH F' w':=fun g cs hg=>by
 obtain⟨h1,h2⟩:=h g cs hg
 refine⟨hF g h1,fun k hk=> ?_⟩
 have:=h2 k hk
 unfold World.cell? at this⊢
 simp only at this⊢
 rw[hs g h1];exact this
def FOK(F:Nat→Prop)(w:World):Prop:=(∀b,F b→b<w.heap.size)∧zcH F w
structure HRel (g:Gh) (h:Heap) (w w0:World) (own0:Own):Prop where
 clk:∀j v,g.us j v→v<h.clk
 len:g.inf.length=h.bs.length
 ok:∀(j:Nat)(B:Blk)(I:Inf),h.bs[j]? =some B→g.inf[j]? =some I→BOK g w B I
 vlt:∀(j:Nat)(I:Inf),g.inf[j]? =some I→g.us j I.ver
 dist:∀(j k:Nat)(I J:Inf)(b:Nat),g.inf[j]? =some I→g.inf[k]? =some J→I.blk=some b→J.blk=some b→j=k
 Flt:∀b,g.F b→b<w.heap.size
 own:∀(j:Nat)(I:Inf)(b:Nat),g.inf[j]? =some I→I.blk=some b→own0.o b∨w0.heap.size≤b
 frm:Frm w0 own0 w
 fin:∀b,g.F b→own0.F b∨own0.o b∨w0.heap.size≤b
 ext:Ext own0.g w0 g w
 glb:zcH own0.g.F w0
theorem HRel.glbw{g:Gh}{h:Heap}{w w0:World}{own0:Own}(H:HRel g h w w0 own0):zcH g.F w:=H.glb.mono H.ext.F H.ext.same
theorem HRel.blt{g:Gh}{h:Heap}{w w0:World}{own0:Own}(H:HRel g h w w0 own0){j:Nat}{I:Inf}{b:Nat}(hI:g.inf[j]? =some I)(hb:I.blk=some b):b<w.heap.size:=by
 have hj:j<h.bs.length:=by rw[←H.len];exact(List.getElem?_eq_some_iff.1 hI).1
 obtain⟨cur,e,hc,_⟩:=(H.ok j _ I (List.getElem?_eq_getElem hj) hI).here b hb
 exact hc.lt
theorem Frm.refl(w:World)(own0:Own):Frm w own0 w:=⟨rfl,rfl,rfl,Nat.le_refl _,fun _ _ _=>rfl⟩
theorem kv.mono0{g g':Gh}{w w':World}{b cap:Nat}{B:Blk}(e:Ext0 g w g' w')(hb:w'.heap[b]? =w.heap[b]?)(h:kv g w b cap B):kv g' w' b cap B:=by
 obtain⟨cur,el,h1,h2,h3,h4,h5⟩:=h
 exact⟨cur,el,h1.cong hb,h2,h3,h4,fun i k hi hk=>⟨(h5 i k hi hk).1,(h5 i k hi hk).2.mono0 e⟩⟩
theorem kv.mono{g g':Gh}{w w':World}{b cap:Nat}{B:Blk}(e:Ext g w g' w')(hb:w'.heap[b]? =w.heap[b]?)(h:kv g w b cap B):kv g' w' b cap B:=h.mono0 e.toExt0 hb
structure Grow (w w':World):Prop where
 os:w'.os=w.os
 tape:w'.tape=w.tape
 output:w'.output=w.output
 size:w.heap.size≤w'.heap.size
 block:∀b,b<w.heap.size→w'.heap[b]? =w.heap[b]?
theorem Grow.refl(w:World):Grow w w:=⟨rfl,rfl,rfl,Nat.le_refl _,fun _ _=>rfl⟩
theorem Grow.trans{a b c:World}(h:Grow a b)(k:Grow b c):Grow a c:=
 ⟨k.os.trans h.os,k.tape.trans h.tape,k.output.trans h.output,Nat.le_trans h.size k.size,fun i hi=>(k.block i (Nat.lt_of_lt_of_le hi h.size)).trans (h.block i hi)⟩
theorem Grow.drew(w:World):Grow w w.drew:=⟨rfl,rfl,rfl,Nat.le_refl _,fun _ _=>rfl⟩
theorem Grow.alloc(w:World)(o:Obj):Grow w (w.alloc o):=⟨rfl,rfl,rfl,by simp,fun b hb=>heap_alloc_old w o hb⟩
theorem Frm.grow{w0 w w':World}{own0:Own}(f:Frm w0 own0 w)(h:Grow w w'):Frm w0 own0 w':=
 ⟨h.os.trans f.os,h.tape.trans f.tape,h.output.trans f.output,Nat.le_trans f.size h.size,fun b hb hn=>(h.block b (Nat.lt_of_lt_of_le hb f.size)).trans (f.block b hb hn)⟩
theorem HRel.grow{g:Gh}{h:Heap}{w w' w0:World}{own0:Own}(H:HRel g h w w0 own0)(hg:Grow w w')(F':Nat→Prop)(hF:∀b,g.F b→F' b)(hF':∀b,F' b→b<w'.heap.size)
  (hown:∀(j:Nat)(I:Inf)(b:Nat),g.inf[j]? =some I→I.blk=some b→F' b→g.F b) (hfin:∀b,F' b→own0.F b∨own0.o b∨w0.heap.size≤b):
  Ext g w ⟨F',g.inf,g.us⟩ w'∧HRel ⟨F',g.inf,g.us⟩ h w' w0 own0:=by
 have e:Ext g w ⟨F',g.inf,g.us⟩ w':=⟨⟨hF,fun b hb=>hg.block b (H.Flt b hb),fun _ _ h=>h,fun j I hj _=>hj⟩,fun _ _ h=>.inl h⟩
 refine⟨e,⟨H.clk,H.len,fun j B I hB hI=> ?_,H.vlt,H.dist,hF',H.own,H.frm.grow hg,hfin,H.ext.trans e,H.glb⟩⟩
 have hk:=H.ok j B I hB hI
 exact⟨hk.ver,hk.sz,hk.len,hk.gone,fun b hb=>(hk.here b hb).mono e (hg.block b (H.blt hI hb)),fun b hb hf=>hF b (hk.fz b hb hf),fun b hb hf hn=>hk.nf b hb hf (hown j I b hI hb hn)⟩
theorem HRel.grow'{g:Gh}{h:Heap}{w w' w0:World}{own0:Own}(H:HRel g h w w0 own0)(hg:Grow w w'):Ext g w g w'∧HRel g h w' w0 own0:=
 H.grow hg g.F (fun _ h=>h) (fun b hb=>Nat.lt_of_lt_of_le (H.Flt b hb) hg.size) (fun _ _ _ _ _ h=>h) H.fin
end Go.Sx
end
section
namespace Go.Sx
inductive X where
 |t (n:Nat)
 |k (v:Value)
 |f (n:FuncId)
inductive O where
 |mov (x:X)
 |box (agg:Bool) (sz:Nat) (x:X)
 |build (zero:List Value) (parts:List (Nat×Option Nat×X))
 |bslice (agg:Bool) (sz n:Nat) (zero:List Value) (parts:List (Nat×X))
 |cvs (x:X)
 |bts (x:X)
 |stb (x:X)
 |nul (sz:Nat) (zero:List Value) (x:X)
 |load (n:Option Nat) (x:X)
 |store (n:Option Nat) (x v:X)
 |chk (x:X)
 |bin (op:BinOp) (x y:X)
 |eqb (neg:Bool) (x y:X)
 |eqc (neg:Bool) (ks:List Nat) (x y:X)
 |eqn (neg:Bool) (x:X)
 |isn (neg:Bool) (x:X)
 |un (op:UnOp) (x:X)
 |cvi (k:IntKind) (x:X)
 |mkfn (f:FuncId) (caps:List X)
 |mkslice (sz bytes:Nat) (zero:List Value) (l:X)
 |slice (sz:Nat) (x:X) (lo hi:Option X)
 |sliceS (x:X) (lo hi:Option X)
 |sliceA (n sz:Nat) (x:X) (lo hi:Option X)
 |fieldAddr (off:Nat) (x:X)
 |field (off:Nat) (n:Option Nat) (x:X)
 |idxAddr (sz:Nat) (zero:List Value) (x i:X)
 |idxAddrA (len sz:Nat) (x i:X)
 |idxS (x i:X)
 |idxA (len:Nat) (sz:Nat) (n:Option Nat) (x i:X)
 |extract (x:X) (i:Nat)
 |len (x:X)
 |lenS (x:X)
 |append (sz bytes:Nat) (zero:List Value) (x y:X)
 |mm (lt:Bool) (x y:X)
 |clr (sz:Nat) (x:X)
 |cpy (sz:Nat) (x y:X)
 |fop (n:Nat) (x y:X)
 |sts (x:X)
 |mget (kd:Nat) (zero:Value) (two:Bool) (x k:X)
 |call (f:FuncId) (args:List X)
 |callv (x:X) (args:List X)
def V.un:V→V
 | .gd _ v=>v.un
 |v=>v
def V.gok:V→Bool
 | .gd b v=>b&&v.gok
 |_=>true
def Heap.cur(h:Heap)(j ver:Nat):Bool:=
 match h.bs[j]? with
 |some B=>B.ver==ver
 |none=>false
def Heap.blk(h:Heap)(j:Nat):Blk:=(h.bs[j]?).getD ⟨0,0,[],true,[]⟩
def Heap.cells(h:Heap):V→List V×Bool
 | .pp cs=>(cs,true)
 | .ptr j ver i o=>(((h.blk j).es.getD i (h.blk j).d).drop o,h.cur j ver&&decide (i<(h.blk j).es.length))
 |_=>([],false)
def Heap.view(h:Heap)(sz:Nat):V→List (List V)×Bool
 | .slc sz' es=>(es,sz'==sz)
 | .c (.slice _ 0 _)=>([],true)
 | .ref j ver off len=>(((h.blk j).es.drop off).take len,h.cur j ver&&(h.blk j).sz==sz&&decide (off+len≤(h.blk j).es.length))
 |_=>([],false)
def Heap.isOne(h:Heap):V→Bool
 | .c v=>v.oneCell'
 | .slc .. | .pp .. | .fn .. =>true
 | .ref j ver _ _| .ptr j ver _ _=>h.cur j ver
 |_=>false
def cellsOf(agg:Bool)(v:V):List V:=
 match agg,v with
 |true,.agg cs=>cs
 |true,.c (.agg cs)=>cs.toList.map .c
 |true,_=>[]
 |false,v=>[v]
def inR(n:Int):Bool:=decide (-9223372036854775808≤n∧n≤9223372036854775807)
def arith(k:IntKind)(n:Int):V×Bool:=
 match k with
 | .i64=>(.c (.int .i64 n),inR n)
 |k=>(.c (.int k (k.wrap n)),true)
def zBC(k:IntKind)(a b:Int):Int:=k.wrap (BitVec.ofInt k.bits a &&& BitVec.ofInt k.bits b).toNat
def zp2(op:BinOp)(x y:Value):V×Bool:=
 match x,y with
 | .int k a,.int k' b=>
   if k=k' then
    match op with
    | .add=>arith k (a+b)
    | .sub=>arith k (a - b)
    | .mul=>arith k (a*b)
    | .quo=>((arith k (a.tdiv b)).1,(arith k (a.tdiv b)).2&&decide (b≠0))
    | .rem=>(.c (.int k (a.tmod b)),decide (b≠0))
    | .eql=>(.c (.bool (decide (a=b))),true)
    | .neq=>(.c (.bool (!decide (a=b))),true)
    | .lss=>(.c (.bool (decide (a<b))),true)
    | .leq=>(.c (.bool (decide (a≤b))),true)
    | .gtr=>(.c (.bool (decide (b<a))),true)
    | .geq=>(.c (.bool (decide (b≤a))),true)
    | .and=>(.c (.int k (zBC k a b)),true)
    |_=>(.any,false)
   else(.any,false)
 | .string s,.string t=>
   match op with
   | .eql=>(.c (.bool (decide (s=t))),true)
   | .neq=>(.c (.bool (!decide (s=t))),true)
   | .add=>(.c (.string (s++t)),inR (s.size+t.size:Nat))
   |_=>(.any,false)
 |_,_=>(.any,false)
def z9:Value→Value→Bool×Bool
 | .int k a,.int k' b=>(decide (a=b),k==k')
 | .string a,.string b=>(decide (a=b),true)
 | .bool a,.bool b=>(a==b,true)
 |_,_=>(false,false)
def jY:List V→List V→Bool×Bool
 | [],[]=>(true,true)
 | .c a::xs,.c b::ys=>((z9 a b).1&&(jY xs ys).1,(z9 a b).2&&(jY xs ys).2)
 |_,_=>(false,false)
def lf:Nat→V→Bool
 |0,.c (.bool _)=>true
 |1,.c (.int _ _)=>true
 |2,.c (.string _)=>true
 |_,_=>false
def lfs:List Nat→List V→Bool
 | [],[]=>true
 |k::ks,v::vs=>lf k v&&lfs ks vs
 |_,_=>false
def asI:V→Int×Bool
 | .c (.int _ n)=>(n,true)
 |_=>(0,false)
def asB:V→Bool×Bool
 | .c (.bool b)=>(b,true)
 |_=>(false,false)
def qi(d:Nat):Option V→Int×Bool
 |some v=>asI v
 |none=>(d,true)
def ldA(n:Option Nat)(cs:List V):V:=
 match n with
 |none=>cs.getD 0 .any
 |some n=>.agg (cs.take n)
def V.off:V→Nat→V
 | .pp cs,n=>.pp (cs.drop n)
 | .ptr j ver i o,n=>.ptr j ver i (o+n)
 |_,_=>.any
def Heap.isPtr(h:Heap):V→Bool
 | .pp _=>true
 | .ptr j ver _ _=>h.cur j ver
 |_=>false
def Heap.fzn(h:Heap):V→Bool
 | .pp _=>true
 | .ptr j _ _ _=>(h.blk j).fz
 |_=>false
def V.isC':V→Bool
 | .c _=>true
 |_=>false
def Qp(n sz:Nat)(cs:List V):List (List V):=(List.range n).map fun i=>(cs.drop (i*sz)).take sz
def V.isAgg:V→Bool
 | .agg _=>true
 |_=>false
def V.idx:V→List V→Nat→V
 | .slc _ es,d,n=>.pp (es.getD n d)
 | .ref j ver off _,_,n=>.ptr j ver (off+n) 0
 |_,_,_=>.any
def Heap.idxOK(h:Heap)(sz:Nat)(x:V)(n:Int):Bool:=
 match x with
 | .slc s es=>s==sz&&decide (0≤n∧n<es.length)
 | .ref j ver _ len=>h.cur j ver&&(h.blk j).sz==sz&&decide (0≤n∧n<len)
 |_=>false
def V.slen:V→Nat
 | .slc _ es=>es.length
 | .ref _ _ _ len=>len
 |_=>0
def V.cut:V→Nat→Nat→V
 | .slc s es,l,u=>.slc s ((es.drop l).take (u - l))
 | .ref j ver off _,l,u=>.ref j ver (off+l) (u - l)
 | .c (.slice none 0 0),_,_=>.c (.slice none 0 0)
 |_,_,_=>.any
def Heap.cutOK(h:Heap)(sz:Nat):V→Bool
 | .slc s _=>s==sz
 | .ref j ver _ _=>h.cur j ver&&(h.blk j).sz==sz
 | .c (.slice none 0 0)=>true
 |_=>false
def qd(cs:List V):List (Nat×List V)→List V
 | []=>cs
 |(off,vs)::r=>qd (cs.take off++vs++cs.drop (off+vs.length)) r
def Heap.nilV(h:Heap):V→Option Bool
 | .c (.slice a _ _)=>some a.isNone
 | .slc _ (_::_)=>some false
 | .ref j ver _ (_+1)=>if h.cur j ver then some false else none
 |_=>none
def byteOf:List V→Option UInt8
 | [.c (.int .u8 n)]=>some (UInt8.ofNat n.toNat)
 |_=>none
def YO:Nat→Value→Bool
 |1,.int .i64 _=>true
 |2,.string _=>true
 |_,_=>false
def mget:List Value→List V→Value→Option V
 |k::ks,v::vs,key=>if(z9 k key).1=true then some v else mget ks vs key
 |_,_,_=>none
def zaM:Nat→Value→Value→Option Value
 |0,.int _ n,_=>some (.float .f64 (FloatKind.f64.nearest n))
 |1,.float .f64 a,.float .f64 b=>some (.complex .f64 a b)
 |2,.complex .f64 a b,.complex .f64 c d=>match FloatKind.f64.format.add a c,FloatKind.f64.format.add b d with
  |some r,some i=>some (.complex .f64 r i)
  |_,_=>none
 |3,.complex .f64 a _,_=>some (.float .f64 a)
 |4,.float .f64 a,_=>match(FloatKind.f64.decode a).toInt .zero with
  |some n=>if IntKind.i64.min≤n∧n≤IntKind.i64.max then some (.int .i64 n)else none
  |none=>none
 |_,_,_=>none
def evP(o:O)(ρ:X→V)(h:Heap):V×Bool:=
 match o with
 | .mov x=>(ρ x,true)
 | .load n x=>(ldA n (h.cells (ρ x)).1,(h.cells (ρ x)).2&&decide (n.getD 1≤(h.cells (ρ x)).1.length))
 | .chk x=>(ρ x,h.isPtr (ρ x)||match ρ x with| .fn _ _=>true|_=>false)
 | .bin op x y=>match ρ x,ρ y with| .c a,.c b=>zp2 op a b|_,_=>(.any,false)
 | .eqb neg x y=>(.c (.bool (((asB (ρ x)).1==(asB (ρ y)).1) != neg)),(asB (ρ x)).2&&(asB (ρ y)).2)
 | .eqc neg ks x y=>(.c (.bool ((jY (cellsOf true (ρ x)) (cellsOf true (ρ y))).1 != neg)),
    (jY (cellsOf true (ρ x)) (cellsOf true (ρ y))).2&& !ks.isEmpty&&lfs ks (cellsOf true (ρ x))&&lfs ks (cellsOf true (ρ y)))
 | .eqn neg x=>(.c (.bool ((match ρ x with| .c .nilFunc=>true|_=>false) != neg)),match ρ x with| .c .nilFunc=>true| .fn _ _=>true|_=>false)
 | .isn neg x=>(.c (.bool ((h.nilV (ρ x)).getD false != neg)),(h.nilV (ρ x)).isSome)
 | .un op x=>match op,ρ x with
   | .not,.c (.bool b)=>(.c (.bool !b),true)
   | .neg,.c (.int k n)=>arith k (0 - n)
   |_,_=>(.any,false)
 | .cvi k x=>match ρ x with| .c (.int _ n)=>(.c (.int k (k.wrap n)),true)|_=>(.any,false)
 | .mkfn f caps=>(.fn f (caps.map ρ),true)
 | .slice sz x lo hi=>
   ((ρ x).cut (qi 0 (lo.map ρ)).1.toNat (qi (ρ x).slen (hi.map ρ)).1.toNat,
    h.cutOK sz (ρ x)&&(qi 0 (lo.map ρ)).2&&(qi (ρ x).slen (hi.map ρ)).2&&decide (0≤(qi 0 (lo.map ρ)).1∧(qi 0 (lo.map ρ)).1≤(qi (ρ x).slen (hi.map ρ)).1∧(qi (ρ x).slen (hi.map ρ)).1≤(ρ x).slen))
 | .sliceS x lo hi=>match ρ x with
   | .c (.string s)=>
     let l:=qi 0 (lo.map ρ)
     let u:=qi s.size (hi.map ρ)
     (.c (.string (s.extract l.1.toNat u.1.toNat)),l.2&&u.2&&decide (0≤l.1∧l.1≤u.1∧u.1≤s.size))
   |_=>(.any,false)
 | .sliceA n sz x _ _=>(.slc sz (Qp n sz (h.cells (ρ x)).1),(h.cells (ρ x)).2&&h.fzn (ρ x)&&decide (0<sz∧n*sz≤(h.cells (ρ x)).1.length)&&((h.cells (ρ x)).1.take (n*sz)).all V.isC')
 | .fieldAddr off x=>((ρ x).off off,h.isPtr (ρ x))
 | .field off n x=>(ldA n ((cellsOf true (ρ x)).drop off),(n.isNone||(ρ x).isAgg)&&decide (off+n.getD 1≤(cellsOf true (ρ x)).length∧0<n.getD 1))
 | .idxAddr sz zero x i=>((ρ x).idx (zero.map .c) (asI (ρ i)).1.toNat,(asI (ρ i)).2&&h.idxOK sz (ρ x) (asI (ρ i)).1)
 | .idxAddrA len sz x i=>
   ((ρ x).off ((asI (ρ i)).1.toNat*sz),(asI (ρ i)).2&&decide (0≤(asI (ρ i)).1∧(asI (ρ i)).1<len)&&h.isPtr (ρ x))
 | .idxS x i=>match ρ x with
   | .c (.string s)=>(.c (.int .u8 ((s.data.toList.getD (asI (ρ i)).1.toNat 0).toNat:Int)),(asI (ρ i)).2&&decide (0≤(asI (ρ i)).1∧(asI (ρ i)).1<s.data.toList.length))
   |_=>(.any,false)
 | .idxA len sz n x i=>
   (ldA n ((cellsOf true (ρ x)).drop ((asI (ρ i)).1.toNat*sz)),
    (asI (ρ i)).2&&decide (0≤(asI (ρ i)).1∧(asI (ρ i)).1<len)&&(cellsOf true (ρ x)).length==len*sz&&(n.isNone||(ρ x).isAgg)&&n.getD 1==sz&&decide (0<sz))
 | .extract x i=>match ρ x with
   | .tup vs=>(vs.getD i .any,decide (i<vs.length))
   | .c (.tuple vs)=>(.c (vs.toList.getD i undef),decide (i<vs.toList.length))
   |_=>(.any,false)
 | .len x=>
   match ρ x with
   | .slc _ es=>(.c (.int .i64 es.length),true)
   | .ref j ver _ len=>(.c (.int .i64 len),h.cur j ver)
   | .c (.slice _ n _)=>(.c (.int .i64 n),true)
   |_=>(.any,false)
 | .lenS x=>
   match ρ x with
   | .c (.string s)=>(.c (.int .i64 s.data.toList.length),true)
   |_=>(.any,false)
 | .mm lt x y=>match ρ x,ρ y with
   | .c (.int k a),.c (.int k' b)=>(.c (.int k (if lt then min a b else max a b)),k==k')
   |_,_=>(.any,false)
 | .cvs x=>(ρ x,match ρ x with| .c (.string _)=>true|_=>false)
 | .bts x=>(.c (.string ⟨⟨(h.view 1 (ρ x)).1.map fun e=>(byteOf e).getD 0⟩⟩),(h.view 1 (ρ x)).2&&(h.view 1 (ρ x)).1.all fun e=>(byteOf e).isSome)
 | .mget kd zero two x k=>match ρ x,ρ k with
   | .mp ks vs,.c key=>(if two then .tup [(mget ks vs key).getD (.c zero),.c (.bool (mget ks vs key).isSome)]else(mget ks vs key).getD (.c zero),YO kd key&&ks.all (YO kd))
   |_,_=>(.any,false)
 | .build zero parts=>
   (.agg (qd (zero.map .c) (parts.map fun p=>(p.1,cellsOf p.2.1.isSome (ρ p.2.2)))),
    zero.all (·.oneCell')&&parts.all fun p=>decide (p.1+(cellsOf p.2.1.isSome (ρ p.2.2)).length≤zero.length)&&(cellsOf p.2.1.isSome (ρ p.2.2)).length==p.2.1.getD 1&&decide (0<p.2.1.getD 1)&&(cellsOf p.2.1.isSome (ρ p.2.2)).all h.isOne)
 | .fop n x y=>match ρ x,ρ y with
   | .c a,.c b=>(match zaM n a b with|some v=>(.c v,true)|none=>(.any,false))
   |_,_=>(.any,false)
 |_=>(.any,false)
def Heap.alloc(h:Heap)(sz:Nat)(d:List V)(es:List (List V)):Heap:=⟨h.bs++ [⟨h.clk,sz,es,false,d⟩],h.clk+1⟩
def Heap.put(h:Heap)(j:Nat)(B:Blk):Heap:=⟨h.bs.set j B,h.clk⟩
def YG(agg:Bool)(zero:List Value)(parts:List (Nat×X))(ρ:X→V)(i:Nat):List V:=
 match parts.find? (·.1==i)with
 |some p=>cellsOf agg (ρ p.2)
 |none=>zero.map .c
def evE(o:O)(ρ:X→V)(h:Heap):V×Heap×Bool:=
 match o with
 | .box agg sz x=>(.ptr h.bs.length h.clk 0 0,h.alloc sz [] [cellsOf agg (ρ x)],(cellsOf agg (ρ x)).length==sz&&decide (0<sz)&&(cellsOf agg (ρ x)).all h.isOne)
 | .bslice agg sz n zero parts=>
   (.ref h.bs.length h.clk 0 n,
    h.alloc sz (zero.map .c) ((List.range n).map (YG agg zero parts ρ)),
    decide (0<sz∧n*sz≤16777216)&&zero.length==sz&&zero.all (·.oneCell')&&decide (parts.map (·.1)).Nodup&&parts.all fun p=>decide (p.1<n)&&
     (cellsOf agg (ρ p.2)).length==sz&&(cellsOf agg (ρ p.2)).all h.isOne)
 | .mkslice sz bytes zero l=>
   (.ref h.bs.length h.clk 0 (asI (ρ l)).1.toNat,h.alloc sz (zero.map .c) (List.replicate (asI (ρ l)).1.toNat (zero.map .c)),
    (asI (ρ l)).2&&decide (0<sz∧0≤(asI (ρ l)).1∧(asI (ρ l)).1≤1099511627776∧(asI (ρ l)).1*bytes≤140737488355328)&&zero.length==sz&&zero.all (·.oneCell'))
 | .append sz bytes zero x y=>
   match ρ x with
   | .c (.slice none 0 0)=>
     (.ref h.bs.length h.clk 0 (h.view sz (ρ y)).1.length,h.alloc sz (zero.map .c) (h.view sz (ρ y)).1,
      (h.view sz (ρ y)).2&&decide (0<sz∧(h.view sz (ρ y)).1.length≤1099511627776∧(h.view sz (ρ y)).1.length*bytes≤140737488355328))
   | .ref j ver off len=>
     (.ref j h.clk 0 (len+(h.view sz (ρ y)).1.length),
      ⟨h.bs.set j ⟨h.clk,sz,(h.blk j).es.take len++(h.view sz (ρ y)).1,false,(h.blk j).d⟩,h.clk+1⟩,
      (h.view sz (ρ y)).2&&h.cur j ver&& !(h.blk j).fz&&(h.blk j).sz==sz&&off==0&&
        decide (0<sz∧len≤(h.blk j).es.length∧len+(h.view sz (ρ y)).1.length≤1099511627776∧(len+(h.view sz (ρ y)).1.length)*bytes≤140737488355328))
   |_=>(.any,h,false)
 | .store n x v=>
   match ρ x with
   | .ptr j ver i o=>
     (.c undef,
      h.put j ⟨ver,(h.blk j).sz,(h.blk j).es.set i (qd ((h.blk j).es.getD i (h.blk j).d) [(o,cellsOf n.isSome (ρ v))]),false,(h.blk j).d⟩,
      h.cur j ver&& !(h.blk j).fz&&decide (i<(h.blk j).es.length)&&decide (o+(cellsOf n.isSome (ρ v)).length≤(h.blk j).sz)&&
       decide ((cellsOf n.isSome (ρ v)).length=n.getD 1∧0<n.getD 1)&&(cellsOf n.isSome (ρ v)).all h.isOne)
   |_=>(.any,h,false)
 | .stb x=>
   match ρ x with
   | .c (.string s)=>(.ref h.bs.length h.clk 0 s.data.toList.length,h.alloc 1 [.c (.int .u8 0)] (s.data.toList.map fun b=>[.c (.int .u8 b.toNat)]),decide (s.data.toList.length≤1099511627776))
   |_=>(.any,h,false)
 | .nul sz zero x=>(.ref h.bs.length h.clk 0 0,h.alloc sz (zero.map .c) [],(h.view sz (ρ x)).2)
 | .clr sz x=>
   match ρ x with
   | .ref j ver off len=>
     (.c (.tuple #[]),h.put j ⟨ver,(h.blk j).sz,(h.blk j).es.take off,false,(h.blk j).d⟩,
      h.cur j ver&& !(h.blk j).fz&&(h.blk j).sz==sz&&decide (0<len∧0<sz∧off+len≤(h.blk j).es.length))
   |_=>(.any,h,false)
 | .cpy sz x y=>
   match ρ x with
   | .ref j ver off len=>
     (.c (.int .i64 (h.view sz (ρ y)).1.length),h.put j ⟨ver,sz,(h.view sz (ρ y)).1,false,(h.blk j).d⟩,
      (h.view sz (ρ y)).2&&h.cur j ver&& !(h.blk j).fz&&(h.blk j).sz==sz&&decide (0<sz∧off=0∧(h.view sz (ρ y)).1.length=len∧(h.blk j).es.length=len))
   |_=>(.any,h,false)
 | .sts x=>
   match ρ x with
   | .ref j ver off len=>(.ref j h.clk 0 len,⟨h.bs.set j ⟨h.clk,(h.blk j).sz,(h.blk j).es,false,(h.blk j).d⟩,h.clk+1⟩,h.cur j ver&& !(h.blk j).fz&&decide (0<len∧off=0)&&decide (len≤(h.blk j).es.length))
   |_=>(.any,h,false)
 |_=>(.any,h,false)
def O.still:O→Bool
 | .box .. | .bslice .. | .mkslice .. | .append .. | .store .. | .clr .. | .cpy .. | .sts .. | .stb .. | .nul .. | .call .. | .callv .. =>false
 |_=>true
def O.calls:O→Bool
 | .call .. | .callv .. =>true
 |_=>false
def O.xs:O→List X
 | .mov x| .box _ _ x| .load _ x| .chk x| .eqn _ x| .isn _ x| .un _ x| .cvi _ x| .cvs x| .bts x| .stb x| .sts x| .nul _ _ x| .mkslice _ _ _ x| .fieldAddr _ x| .field _ _ x| .extract x _| .len x| .lenS x| .clr _ x=>[x]
 | .build _ ps=>ps.map (·.2.2)
 | .bslice _ _ _ _ ps=>ps.map (·.2)
 | .store _ x y| .bin _ x y| .eqb _ x y| .eqc _ _ x y| .idxAddr _ _ x y| .idxAddrA _ _ x y| .idxS x y| .idxA _ _ _ x y| .append _ _ _ x y| .mm _ x y| .mget _ _ _ x y| .cpy _ x y| .fop _ x y=>[x,y]
 | .mkfn _ xs| .call _ xs=>xs
 | .callv x xs=>x::xs
 | .slice _ x lo hi| .sliceS x lo hi| .sliceA _ _ x lo hi=>x::(lo.toList++hi.toList)
def zaJ(ρ:X→V)(c a b:X):V×Bool:=
 (.c (.bool (cond (asB (ρ c).un).1 (asB (ρ a).un).1 (asB (ρ b).un).1)),
  (ρ c).gok&&(asB (ρ c).un).2&&cond (asB (ρ c).un).1 ((ρ a).gok&&(asB (ρ a).un).2) ((ρ b).gok&&(asB (ρ b).un).2))
end Go.Sx
end
section
namespace Go.Sx
section
variable {g:Gh} {w w0:World} {own0:Own} {h:Heap} {v:Value}
theorem VRep.inv_c{u:Value}(h:VRep g w v (.c u)):v=u:=by
 cases h with|p _ _ h=>cases h;rfl
theorem VRep.inv_slc{sz:Nat}{es:List (List V)}(h:VRep g w v (.slc sz es)):PRep g.F w v (.slc sz es):=by
 cases h with|p _ _ h=>exact h
theorem VRep.inv_pp{cs:List V}(h:VRep g w v (.pp cs)):PRep g.F w v (.pp cs):=by
 cases h with|p _ _ h=>exact h
theorem VRep.inv_ref{j ver off len:Nat}(h:VRep g w v (.ref j ver off len)):g.us j ver∧∀I,g.inf[j]? =some I→I.ver=ver→qu I off len v:=by
 cases h with
 |p _ _ h=>cases h
 |ref _ _ _ _ _ hv h=>exact⟨hv,h⟩
theorem VRep.inv_ptr{j ver i o:Nat}(h:VRep g w v (.ptr j ver i o)):g.us j ver∧∀I,g.inf[j]? =some I→I.ver=ver→zyk I i o v:=by
 cases h with
 |p _ _ h=>cases h
 |ptr _ _ _ _ _ hv h=>exact⟨hv,h⟩
theorem VRep.inv_agg{xs:List V}(h:VRep g w v (.agg xs)):∃cs:Array Value,v= .agg cs∧cs.size=xs.length∧(∀i,i<xs.length→(cs.getD i undef).oneCell'=true)∧∀i,i<xs.length→VRep g w (cs.getD i undef) (xs.getD i .any):=by
 cases h with
 |p _ _ h=>cases h with|agg cs _ hl h1 h=>exact⟨cs,rfl,hl,h1,fun i hi=>.p _ _ (h i hi)⟩
 |agg cs _ hl h1 h=>exact⟨cs,rfl,hl,h1,h⟩
theorem VRep.inv_tup{xs:List V}(h:VRep g w v (.tup xs)):∃cs:Array Value,v= .tuple cs∧cs.size=xs.length∧∀i,i<xs.length→VRep g w (cs.getD i undef) (xs.getD i .any):=by
 cases h with
 |p _ _ h=>cases h with|tup cs _ hl h=>exact⟨cs,rfl,hl,fun i hi=>.p _ _ (h i hi)⟩
 |tup cs _ hl h=>exact⟨cs,rfl,hl,h⟩
theorem VRep.inv_fn{f:FuncId}{caps:List V}(h:VRep g w v (.fn f caps)):∃cs:Array Value,v= .func (.func f) #[] cs∧cs.size=caps.length∧∀i,i<caps.length→VRep g w (cs.getD i undef) (caps.getD i .any):=by
 cases h with
 |p _ _ h=>cases h with|fn _ _ cs hl h=>exact⟨cs,rfl,hl,fun i hi=>.p _ _ (h i hi)⟩
 |fn _ _ cs hl h=>exact⟨cs,rfl,hl,h⟩
theorem VRep.any(v:Value):VRep g w v .any:=.p _ _ (.any v)
theorem VRep.c'(v:Value):VRep g w v (.c v):=.p _ _ (.c v)
theorem VRep.of_eq{v u:Value}(h:v=u):VRep g w v (.c u):=h▸.c' v
theorem VRep.un{x:V}(h:VRep g w v x):x.gok=true→VRep g w v x.un:=by
 induction h with
 |p v x h=>intro _;rw[show x.un=x by cases h<;>simp only[V.un]];exact .p _ _ h
 |agg cs xs hl h1 h=>intro _;exact .agg cs xs hl h1 h
 |tup cs xs hl h=>intro _;exact .tup cs xs hl h
 |fn f caps cs hl h=>intro _;exact .fn f caps cs hl h
 |mp r es clk ks vs ix iy hb ho hl hx hy hd h=>intro _;exact .mp r es clk ks vs ix iy hb ho hl hx hy hd h
 |ref j ver off len v hv h=>intro _;exact .ref j ver off len v hv h
 |ptr j ver i o v hv h=>intro _;exact .ptr j ver i o v hv h
 |gd b x v h _ ih=>
  intro hg
  simp only[V.gok,Bool.and_eq_true]at hg
  exact ih hg.1 hg.2
theorem VRep.dead{x:V}(h:VRep g w v x):x.gok=false→v=undef:=by
 induction h with
 |p v x h=>intro hg;cases h<;>simp[V.gok]at hg
 |gd b x v _ h0 ih=>
  intro hg
  cases b with
  |false=>exact h0 rfl
  |true=>exact ih rfl (by simpa[V.gok]using hg)
 |_=>intro hg;simp[V.gok]at hg
theorem HRel.cur(H:HRel g h w w0 own0){j ver:Nat}(hc:h.cur j ver=true):∃B I,h.bs[j]? =some B∧g.inf[j]? =some I∧h.blk j=B∧B.ver=ver∧I.ver=ver∧BOK g w B I:=by
 unfold Heap.cur at hc
 split at hc
 ·rename_i B hB
  have hj:j<g.inf.length:=by rw[H.len];exact(List.getElem?_eq_some_iff.1 hB).1
  have hk:=H.ok j B _ hB (List.getElem?_eq_getElem hj)
  have hv:B.ver=ver:=by simpa using hc
  exact⟨B,_,hB,List.getElem?_eq_getElem hj,by simp[Heap.blk,hB],hv,hk.ver.trans hv,hk⟩
 ·cases hc
theorem zqW{cur:Array Value}{i:Nat}(h1:i<cur.size):cur[i]? =some (cur.getD i undef):=by simp[h1]
theorem JE{es:List (List V)}{i:Nat}(h:i<es.length)(d:List V):es.getD i d=es.getD i []:=by simp[List.getD_eq_getElem?_getD,h]
theorem jg{i k sz n:Nat}(hi:i<n)(hk:k<sz):i*sz+k<n*sz:=
 Nat.lt_of_lt_of_le (Nat.add_lt_add_left hk _) (by rw[←Nat.succ_mul];exact Nat.mul_le_mul_right _ hi)
theorem kv.cell{b cap:Nat}{B:Blk}(hc:kv g w b cap B):∃xs:Nat→Nat→Value,∀i k,i<B.es.length→k<B.sz→
  w.cell? ⟨b,i*B.sz+k,none⟩=some (xs i k)∧(xs i k).oneCell'=true∧VRep g w (xs i k) ((B.es.getD i []).getD k .any):=by
 obtain⟨cur,e,h1,h2,h3,h4,h5⟩:=hc
 refine⟨fun i k=>cur.getD (i*B.sz+k) undef,fun i k hi hk=>⟨?_,h5 i k hi hk⟩⟩
 obtain⟨m,hm,_⟩:=h1
 rw[cell_of_row w b _ cur e m hm]
 exact zqW (by rw[h2];exact Nat.lt_of_lt_of_le (jg hi hk) (Nat.mul_le_mul_right _ h3))
theorem kv.lt{b cap:Nat}{B:Blk}(hc:kv g w b cap B):b<w.heap.size:=by
 obtain⟨cur,e,h1,_⟩:=hc
 exact h1.lt
theorem zav(H:HRel g h w w0 own0){x:V}(hv:VRep g w v x)(hc:(h.cells x).2=true):
  ∃b o,∃xs:Nat→Value,v= .pointer (some ⟨b,o,none⟩)∧b<w.heap.size∧∀k,k<(h.cells x).1.length→
   w.cell? ⟨b,o+k,none⟩=some (xs k)∧(xs k).oneCell'=true∧VRep g w (xs k) ((h.cells x).1.getD k .any):=by
 cases x with
 |pp cs=>
  have hp:=hv.inv_pp
  cases hp with
  |pp b o _ xs hF hx hr=>exact⟨b,o,xs,rfl,H.Flt b hF,fun k hk=>⟨(hx k hk).1,(hx k hk).2,.p _ _ (hr k hk)⟩⟩
 |ptr j ver i o=>
  simp only[Heap.cells,Bool.and_eq_true,decide_eq_true_eq]at hc
  obtain⟨B,I,hB,hI,hbl,hBv,hIv,hk⟩:=H.cur hc.1
  obtain⟨_,hp⟩:=hv.inv_ptr
  obtain⟨b,hb,rfl⟩:=hp I hI hIv
  obtain⟨xs,hxs⟩:=(hk.here b hb).cell
  rw[hbl]at hc
  have hd:=JE hc.2 B.d
  have hlen:(B.es.getD i []).length=B.sz:=hk.len _ (by rw[List.getD_eq_getElem?_getD,List.getElem?_eq_getElem hc.2];exact List.getElem_mem _)
  refine⟨b,i*I.sz+o,fun k=>xs i (o+k),rfl,(hk.here b hb).lt,fun k hk'=> ?_⟩
  simp only[Heap.cells,hbl,hd,List.length_drop,hlen]at hk'
  have:=hxs i (o+k) hc.2 (by omega)
  rw[hk.sz,Nat.add_assoc]
  refine⟨this.1,this.2.1,?_⟩
  simp only[Heap.cells,hbl,hd,List.getD_eq_getElem?_getD,List.getElem?_drop]
  simpa[List.getD_eq_getElem?_getD]using this.2.2
 |_=>simp[Heap.cells]at hc
theorem XF(H:HRel g h w w0 own0){sz:Nat}{x:V}(hv:VRep g w v x)(hc:(h.view sz x).2=true):
  ∃a cap b o,∃xs:Nat→Nat→Value,v= .slice a (h.view sz x).1.length cap∧(h.view sz x).1.length≤cap∧(∀e∈(h.view sz x).1,e.length=sz)∧
   (0<(h.view sz x).1.length→a=some ⟨b,o,none⟩∧b<w.heap.size)∧
   ∀i k,i<(h.view sz x).1.length→k<sz→w.cell? ⟨b,o+(i*sz+k),none⟩=some (xs i k)∧(xs i k).oneCell'=true∧VRep g w (xs i k) (((h.view sz x).1.getD i []).getD k .any):=by
 unfold Heap.view at hc⊢
 split at hc
 ·rename_i sz' es
  have hs:sz'=sz:=by simpa using hc
  subst hs
  have hp:=hv.inv_slc
  cases hp with
  |slc a n cap _ _ b o xs hn hcap hsz ha hx hr=>
   subst hn
   exact⟨a,cap,b,o,xs,rfl,hcap,hsz,fun h=>⟨(ha h).1,H.Flt _ (ha h).2⟩,fun i k hi hk=>⟨(hx i k hi hk).1,(hx i k hi hk).2,.p _ _ (hr i k hi hk)⟩⟩
 ·have:=hv.inv_c
  subst this
  exact⟨_,_,0,0,fun _ _=>undef,rfl,Nat.zero_le _,by simp,by simp,by simp⟩
 ·rename_i j ver off len
  simp only[Bool.and_eq_true,decide_eq_true_eq,beq_iff_eq]at hc
  obtain⟨B,I,hB,hI,hbl,hBv,hIv,hk⟩:=H.cur hc.1.1
  obtain⟨_,hp⟩:=hv.inv_ref
  have hr:=hp I hI hIv
  simp only[hbl]at hc⊢
  have hlen:((B.es.drop off).take len).length=len:=by simp;omega
  rw[hlen]
  unfold qu at hr
  split at hr
  ·rename_i hb
   obtain⟨a,rfl,rfl,rfl⟩:=hr
   exact⟨a,0,0,0,fun _ _=>undef,rfl,Nat.le_refl _,by simp,by simp,by simp⟩
  ·rename_i b hb
   obtain⟨a,cap,rfl,h1,h2,h3⟩:=hr
   obtain⟨xs,hxs⟩:=(hk.here b hb).cell
   refine⟨a,cap,b,off*I.sz,fun i k=>xs (off+i) k,rfl,h1,fun e he=> ?_,fun h0=>⟨h3 (by omega),(hk.here b hb).lt⟩,fun i k hi hk'=> ?_⟩
   ·rw[←hc.1.2];exact hk.len e (List.mem_of_mem_drop (List.mem_of_mem_take he))
   ·have:=hxs (off+i) k (by omega) (by omega)
    rw[hk.sz,hc.1.2,show off*sz+(i*sz+k)=(off+i)*sz+k by rw[Nat.add_mul];omega]
    rw[hc.1.2]at this
    refine⟨this.1,this.2.1,?_⟩
    have e:((B.es.drop off).take len).getD i []=B.es.getD (off+i) []:=by
     simp[List.getD_eq_getElem?_getD,hi]
    rw[e];exact this.2.2
 ·cases hc
theorem zfM(H:HRel g h w w0 own0){x:V}(hv:VRep g w v x)(hc:h.isOne x=true):v.oneCell'=true:=by
 cases x with
 |c u=>rw[hv.inv_c];exact hc
 |slc sz es=>cases hv.inv_slc;rfl
 |pp cs=>cases hv.inv_pp;rfl
 |fn f caps=>obtain⟨cs,rfl,_⟩:=hv.inv_fn;rfl
 |ref j ver off len=>
  obtain⟨B,I,hB,hI,hbl,hBv,hIv,hk⟩:=H.cur hc
  have hr:=hv.inv_ref.2 I hI hIv
  unfold qu at hr
  split at hr
  ·obtain⟨a,rfl,_⟩:=hr;rfl
  ·obtain⟨a,cap,rfl,_⟩:=hr;rfl
 |ptr j ver i o=>
  obtain⟨B,I,hB,hI,hbl,hBv,hIv,hk⟩:=H.cur hc
  obtain⟨b,_,rfl⟩:=hv.inv_ptr.2 I hI hIv
  rfl
 |_=>simp[Heap.isOne]at hc
theorem Zl{x:V}(hv:VRep g w v x)(hn:0<(cellsOf true x).length):
  ∃cs:Array Value,v= .agg cs∧cs.size=(cellsOf true x).length∧∀i,i<(cellsOf true x).length→VRep g w (cs.getD i undef) ((cellsOf true x).getD i .any):=by
 unfold cellsOf at hn⊢
 split at hn
 ·obtain⟨cs,rfl,h1,_,h3⟩:=hv.inv_agg
  exact⟨cs,rfl,h1,h3⟩
 ·rename_i cs hx
  have:=hv.inv_c
  subst this
  refine⟨cs,rfl,by simp,fun i hi=> ?_⟩
  have hi':i<cs.size:=by simpa using hi
  simp[List.getD_eq_getElem?_getD,hi']
  exact VRep.c' _
 ·simp at hn
 ·rename_i hx;cases hx
theorem VRep.mkagg{cs:Array Value}{xs:List V}(hl:cs.size=xs.length)(h1:∀i,i<xs.length→(cs.getD i undef).oneCell'=true)(h:∀i,i<xs.length→VRep g w (cs.getD i undef) (xs.getD i .any)):VRep g w (.agg cs) (.agg xs):=
 .agg cs xs hl h1 h
end
end Go.Sx
end
section
namespace Go.Sx
def zG:Operand→Option X
 | .tmp t=>some (.t t)
 | .const v=>some (.k v)
 | .func f=>some (.f f)
 | .global _=>none
def KY:Option Operand→Option (Option X)
 |none=>some none
 |some x=>(zG x).map some
def KZ:List Operand→Option (List X)
 | []=>some []
 |x::r=>(zG x).bind fun y=>(KZ r).map fun ys=>y::ys
def XK:TypeDesc→Bool
 | .struct _| .array _ _=>true
 |_=>false
def shp(P:Program)(t:TypeId):Option (Option Nat):=
 match P.underlying t,P.info? t with
 |some d,some i=>if XK d then some (some i.size)else if i.size=1 then some none else none
 |_,_=>none
def elemOf?(P:Program)(t:TypeId):Option TypeId:=
 match P.underlying t with
 |some (.slice e)=>some e
 |_=>none
def qa(P:Program)(t:TypeId):Option Nat:=(P.info? t).map (·.size)
def kK(P:Program)(t:TypeId):Option Nat:=(P.info? t).map (·.bytes)
def yH(P:Program)(t:TypeId):Option Value:=(P.info? t).bind (·.zero)
def Kd(P:Program)(t:TypeId)(f:Nat):Option Field:=
 match P.underlying t with
 |some (.struct fs)=>fs[f]?
 |_=>none
def zqI(P:Program)(q:TypeId→Option (List Nat)):Nat→List Field→Option (List Nat)
 |_,[]=>some []
 |off,f::r=>
  match q f.type,zqI P q (off+P.cellsOf f.type) r with
  |some k,some ks=>if f.offset=off∧f.name≠ "_" then some (k++ks)else none
  |_,_=>none
def Zp(P:Program):Nat→TypeId→Option (List Nat)
 |0,_=>none
 |d+1,t=>
  match P.underlying t with
  |some .bool=>if P.cellsOf t=1 then some [0]else none
  |some (.int _)=>if P.cellsOf t=1 then some [1]else none
  |some .string=>if P.cellsOf t=1 then some [2]else none
  |some (.array n e)=>(Zp P d e).bind fun k=>if P.cellsOf t=n*P.cellsOf e then some (List.replicate n k).flatten else none
  |some (.struct fs)=>(zqI P (Zp P d) 0 fs.toList).bind fun ks=>if P.cellsOf t=ks.length∧P.stoodInHeld t=false then some ks else none
  |_=>none
def Q8(P:Program)(op:BinOp)(t:TypeId)(x y:X)(cy:Operand):Option O:=
 match P.underlying t with
 |some (.int _)=>(match op with
  | .add| .sub| .mul| .quo| .rem| .eql| .neq| .lss| .leq| .gtr| .geq| .and=>some (.bin op x y)
  |_=>none)
 |some .string=>(match op with| .add| .eql| .neq=>some (.bin op x y)|_=>none)
 |some .bool=>(match op with| .eql=>some (.eqb false x y)| .neq=>some (.eqb true x y)|_=>none)
 |some (.array ..)|some (.struct ..)=>if P.eqGuardType P.depth t=false then(match op with
  | .eql=>(Zp P 8 t).map fun ks=>.eqc false ks x y
  | .neq=>(Zp P 8 t).map fun ks=>.eqc true ks x y
  |_=>none)else none
 |some (.slice _)=>(match op,cy with| .eql,.const (.slice none 0 0)=>some (.isn false x)| .neq,.const (.slice none 0 0)=>some (.isn true x)|_,_=>none)
 |some (.func ..)=>(match op,cy with| .eql,.const .nilFunc=>some (.eqn false x)| .neq,.const .nilFunc=>some (.eqn true x)|_,_=>none)
 |some (.complex .f64)=>(match op with| .add=>some (.fop 2 x y)|_=>none)
 |_=>none
def Yg(P:Program)(fs:Array Field):List (Nat×Operand)→Option (List (Nat×Option Nat×X))
 | []=>some []
 |(i,x)::r=>(fs[i]?).bind fun f=>(shp P f.type).bind fun n=>(zG x).bind fun y=>(Yg P fs r).map fun ps=>(f.offset,n,y)::ps
def Zc:List (Nat×Operand)→Option (List (Nat×X))
 | []=>some []
 |(i,x)::r=>(zG x).bind fun y=>(Zc r).map fun ps=>(i,y)::ps
def qQ(P:Program)(c:Call):Option O:=
 match c.callee with
 | .value (.func f)=>(KZ c.args.toList).map fun xs=>.call f xs
 | .value x=>(zG x).bind fun y=>(KZ c.args.toList).map fun xs=>.callv y xs
 | .invoke _ _=>none
 | .builtin b=>
   match b,c.args.toList,c.argTypes.toList with
   | .len,[x],[t]=>(match P.underlying t with
     |some .string=>(zG x).map .lenS
     |some (.slice _)=>(zG x).map .len
     |some (.array n _)=>some (.mov (.k (.int .i64 n)))
     |_=>none)
   | .append,[x,y],[t,u]=>(elemOf? P t).bind fun e=>(elemOf? P u).bind fun e'=>(qa P e).bind fun sz=>(qa P e').bind fun sz'=>(kK P e).bind fun by'=>(yH P e).bind fun z=>
      if t=u∧sz'=sz∧z.cells.size=sz then(zG x).bind fun x=>(zG y).map fun y=>.append sz by' z.cells.toList x y else none
   | .min,[x,y],[_,_]=>(zG x).bind fun x=>(zG y).map fun y=>.mm true x y
   | .max,[x,y],[_,_]=>(zG x).bind fun x=>(zG y).map fun y=>.mm false x y
   | .copy,[x,y],[t,u]=>(elemOf? P t).bind fun e=>(elemOf? P u).bind fun e'=>(qa P e).bind fun sz=>(kK P e).bind fun _=>(yH P e).bind fun _=>if t=u∧e=e' then(zG x).bind fun x=>(zG y).map fun y=>.cpy sz x y else none
   | .complex,[x,y],[_,_]=>(zG x).bind fun x=>(zG y).map fun y=>.fop 1 x y
   | .real,[x],[_]=>(zG x).map fun x=>.fop 3 x x
   | .clear,[x],[t]=>(elemOf? P t).bind fun e=>(qa P e).bind fun sz=>(yH P e).bind fun z=>if z.cells.size=sz∧z.cells.toList.all (·.oneCell')=true then(zG x).map (.clr sz)else none
   |_,_,_=>none
def zdu(l c:Operand):Option X:=
 match l,c with
 | .tmp a,.tmp b=>if a=b then some (.t a)else none
 | .const (.int .i64 a),.const (.int .i64 b)=>if a=b then some (.k (.int .i64 a))else none
 |_,_=>none
def zq1(P:Program)(t:TypeId):Bool:=
 match P.underlying t with
 |some (.int .u8)=>true
 |_=>false
theorem zdD{P:Program}{t:TypeId}(h:zq1 P t=true):P.underlying t=some (.int .u8):=by
 unfold zq1 at h
 split at h
 ·assumption
 ·cases h
def isZ:Operand→Bool
 | .const (.int _ n)=>n==0
 |_=>false
theorem zq2{x:Operand}(h:isZ x=true):∃k,x= .const (.int k 0):=by
 unfold isZ at h
 split at h
 ·rename_i k n
  have:n=0:=by simpa using h
  subst this;exact⟨_,rfl⟩
 ·cases h
def WD(P:Program)(t:TypeId):Option Nat:=
 match P.underlying t with
 |some (.int .i64)=>some 1
 |some .string=>some 2
 |_=>none
def zkm(n:Option Nat):Operand→Option O
 | .global g=>match glb g,n with
   |some cs,some n=>if cs.length=n then some (.mov (.k (.agg cs.toArray)))else none
   |_,_=>none
 |x=>(zG x).map fun x=>.load n x
theorem Jr{n:Option Nat}{x:Operand}{O':O}(h:zkm n x=some O'):(∃y,zG x=some y∧O'= .load n y)∨∃g cs,x= .global g∧glb g=some cs∧n=some cs.length∧O'= .mov (.k (.agg cs.toArray)):=by
 cases x with
 |global g=>
  simp only[zkm]at h
  split at h
  ·rename_i cs m hg
   split at h
   ·rename_i hl
    obtain rfl:=Option.some.inj h
    exact .inr ⟨g,cs,rfl,hg,by rw[hl],rfl⟩
   ·cases h
  ·cases h
 |_=>
  simp only[zkm,Option.map_eq_some_iff]at h
  obtain⟨y,hy,rfl⟩:=h
  exact .inl ⟨y,hy,rfl⟩
def zw(P:Program)(o:Op):Option O:=
 match o with
 | .move x=>(zG x).map .mov
 | .assign x=>(zG x).map .mov
 | .alloc t=>(shp P t).bind fun n=>(yH P t).map fun z=>.box n.isSome (n.getD 1) (.k z)
 | .box t x=>(shp P t).bind fun n=>(zG x).map fun x=>.box n.isSome (n.getD 1) x
 | .build t ps=>
   match P.underlying t with
   |some (.struct fs)=>if fs.toList.all (fun f=>(qa P f.type).isSome)then(yH P t).bind fun z=>(Yg P fs ps.toList).map fun ps=>.build z.cells.toList ps else none
   |some (.array _ e)=>(yH P t).bind fun z=>(shp P e).bind fun n=>(qa P e).bind fun s=>(Zc ps.toList).map fun ps=>.build z.cells.toList (ps.map fun p=>(p.1*s,n,p.2))
   |_=>none
 | .buildSlice t n ps=>(elemOf? P t).bind fun e=>(shp P e).bind fun a=>(qa P e).bind fun s=>(yH P e).bind fun z=>(Zc ps.toList).map fun ps=>.bslice a.isSome s n z.cells.toList ps
 | .load t x=>(shp P t).bind fun n=>zkm n x
 | .makeInterface _ _=>some (.un .not (.k (.int .i64 0)))
 | .panic _=>some (.un .not (.k (.int .i64 0)))
 | .store t x y=>(shp P t).bind fun n=>(zG x).bind fun x=>(zG y).map fun y=>.store n x y
 | .nilCheck x=>(zG x).map .chk
 | .binOp op t x y _=>(zG x).bind fun x=>(zG y).bind fun y'=>Q8 P op t x y' y
 | .unOp op _ x=>(zG x).map fun x=>.un op x
 | .convert s d x=>
   match P.underlying s,P.underlying d with
   |some (.int _),some (.int k)=>(zG x).map fun x=>.cvi k x
   |some (.int _),some (.float .f64)=>(zG x).map fun x=>.fop 0 x x
   |some (.float .f64),some (.int .i64)=>(zG x).map fun x=>.fop 4 x x
   |some .string,some .string=>(zG x).map fun x=>.cvs x
   |some (.slice b),some .string=>if zq1 P b=true then(zG x).map fun x=>.bts x else none
   |some .string,some (.slice b)=>if zq1 P b=true then(zG x).map fun x=>.stb x else none
   |some (.slice _),some (.slice b)=>if s=d∧zq1 P b=true then(zG x).map fun x=>.sts x else none
   |_,_=>none
 | .makeFunc (.func f) first caps=>if first.size=0 then(KZ caps.toList).map fun xs=>.mkfn f xs else none
 | .makeSlice t l c=>(zdu l c).bind fun l=>(elemOf? P t).bind fun e=>(qa P e).bind fun sz=>(kK P e).bind fun by'=>(yH P e).map fun z=>.mkslice sz by' z.cells.toList l
 | .slice t x lo hi none=>
   match P.underlying t with
   |some .string=>(zG x).bind fun x=>(KY lo).bind fun lo=>(KY hi).map fun hi=>.sliceS x lo hi
   |some (.slice e)=>(qa P e).bind fun sz=>(zG x).bind fun x=>(KY lo).bind fun lo=>(KY hi).map fun hi=>.slice sz x lo hi
   |some (.array n e)=>if lo.isNone&&hi.isNone then(qa P e).bind fun sz=>(zG x).map fun x=>.sliceA n sz x none none else none
   |_=>none
 | .slice t x lo hi (some m)=>if lo.isNone∧hi.any isZ=true∧isZ m=true then
    match P.underlying t with
    |some (.slice e)=>(qa P e).bind fun sz=>(yH P e).bind fun z=>(zG x).map fun x=>.nul sz z.cells.toList x
    |_=>none
   else none
 | .fieldAddr t x f=>(Kd P t f).bind fun f=>(qa P f.type).bind fun s=>if s=0 then none else(zG x).map fun x=>.fieldAddr f.offset x
 | .field t x f=>(Kd P t f).bind fun f=>(shp P f.type).bind fun n=>(zG x).map fun x=>.field f.offset n x
 | .indexAddr t x i=>
   match P.underlying t with
   |some (.slice e)=>(qa P e).bind fun sz=>(yH P e).bind fun z=>(zG x).bind fun x=>(zG i).map fun i=>.idxAddr sz z.cells.toList x i
   |some (.array n e)=>(qa P e).bind fun sz=>(zG x).bind fun x=>(zG i).map fun i=>.idxAddrA n sz x i
   |_=>none
 | .index t x i=>
   match P.underlying t with
   |some .string=>(zG x).bind fun x=>(zG i).map fun i=>.idxS x i
   |some (.array n e)=>(shp P e).bind fun s=>(qa P e).bind fun sz=>(zG x).bind fun x=>(zG i).map fun i=>.idxA n sz s x i
   |_=>none
 | .extract x i=>(zG x).map fun x=>.extract x i
 | .lookup t x k two=>
   match P.underlying t with
   |some (.map kt et)=>(WD P kt).bind fun kd=>(yH P et).bind fun z=>(zG x).bind fun x=>(zG k).map fun k=>.mget kd z two x k
   |_=>none
 | .call c=>qQ P c
 |_=>none
theorem jW{P:Program}{t:TypeId}{x:Operand}{lo hi:Option Operand}{m:Operand}{O':O}(hc:zw P (.slice t x lo hi (some m))=some O'):
  ∃e sz z y k k',lo=none∧hi=some (.const (.int k 0))∧m= .const (.int k' 0)∧P.underlying t=some (.slice e)∧qa P e=some sz∧yH P e=some z∧zG x=some y∧O'= .nul sz z.cells.toList y:=by
 simp only[zw]at hc
 split at hc
 ·rename_i hz
  obtain⟨h1,h2,h3⟩:=hz
  split at hc
  ·rename_i e hu
   simp only[Option.bind_eq_some_iff,Option.map_eq_some_iff]at hc
   obtain⟨sz,hsz,z,hz,y,hy,rfl⟩:=hc
   obtain⟨k',rfl⟩:=zq2 h3
   cases hi with
   |none=>cases h2
   |some u=>
    obtain⟨k,rfl⟩:=zq2 (x:=u) (by simpa using h2)
    exact⟨e,sz,z,y,k,k',by simpa using h1,rfl,rfl,hu,hsz,hz,hy,rfl⟩
  ·cases hc
 ·cases hc
section
variable {P:Program} {g:Gh} {w w0 w':World} {own0:Own} {h:Heap}
theorem Grow.cell(hg:Grow w w'){b o:Nat}(hb:b<w.heap.size):w'.cell? ⟨b,o,none⟩=w.cell? ⟨b,o,none⟩:=World.cell?_of_block (w:=w) (hg.block b hb)
theorem Zj{t:TypeId}{d:TypeDesc}(h:P.underlying t=some d)(w:World):(isAgg t).run P w= .ok (XK d) w:=by
 simp only[isAgg,Sem.run_bind,run_underlying h,Result.andThen_ok]
 cases d<;>rfl
theorem run_sizeOf{t:TypeId}{s:Nat}(h:qa P t=some s)(w:World):(sizeOf t).run P w= .ok s w:=by
 unfold qa at h
 cases hi:P.info? t with
 |none=>simp[hi]at h
 |some i=>simp[hi]at h;simp[sizeOf,typeInfo,hi,h]
theorem qA{t:TypeId}{z:Value}(h:yH P t=some z)(w:World):(zeroValue t).run P w= .ok z w:=by
 unfold yH at h
 cases hi:P.info? t with
 |none=>simp[hi]at h
 |some i=>simp[hi]at h;simp[zeroValue,typeInfo,hi,h]
theorem zdR{t:TypeId}{n:Nat}(h:shp P t=some (some n)):∃d,P.underlying t=some d∧XK d=true∧qa P t=some n:=by
 unfold shp at h
 split at h
 ·rename_i d i hd hi
  split at h
  ·rename_i ha;simp at h;exact⟨d,hd,ha,by simp[qa,hi,h]⟩
  ·split at h<;>simp at h
 ·cases h
theorem zdS{t:TypeId}(h:shp P t=some none):∃d,P.underlying t=some d∧XK d=false∧qa P t=some 1:=by
 unfold shp at h
 split at h
 ·rename_i d i hd hi
  split at h
  ·simp at h
  ·rename_i ha
   split at h
   ·rename_i h1;exact⟨d,hd,by simpa using ha,by simp[qa,hi,h1]⟩
   ·simp at h
 ·cases h
theorem ziV{t:TypeId}{n:Option Nat}(h:shp P t=some n):qa P t=some (n.getD 1):=by
 cases n with
 |none=>obtain⟨_,_,_,h⟩:=zdS h;exact h
 |some n=>obtain⟨_,_,_,h⟩:=zdR h;exact h
def ldV(n:Option Nat)(xs:Nat→Value):Value:=
 match n with
 |none=>xs 0
 |some n=>.agg ((List.range n).map xs).toArray
theorem WL{t:TypeId}{n:Option Nat}(hs:shp P t=some n){b o m:Nat}{xs:Nat→Value}(hm:n.getD 1≤m)(hx:∀k,k<m→w.cell? ⟨b,o+k,none⟩=some (xs k)):
  (Instr.loadAt t (.pointer (some ⟨b,o,none⟩))).run P w= .ok (ldV n xs) w:=by
 cases n with
 |none=>
  obtain⟨d,hd,ha,_⟩:=zdS hs
  have:=hx 0 hm
  simp only[Nat.add_zero]at this
  simp[Instr.loadAt,Instr.sureAddr,loadVar,Zj hd,ha,this,ldV]
 |some n=>
  obtain⟨d,hd,ha,hz⟩:=zdR hs
  have:=run_loadCells (P:=P) w ⟨b,o,none⟩ n xs (fun j hj=>by rw[Addr.add_lit];exact hx j (Nat.lt_of_lt_of_le hj hm))
  simp[Instr.loadAt,Instr.sureAddr,loadVar,Zj hd,ha,run_sizeOf hz,this,ldV]
theorem kQ{xs:Nat→Value}{n i:Nat}(h:i<n):((List.range n).map xs).toArray.getD i undef=xs i:=by
 simp[h]
theorem zbv{t:TypeId}{n:Option Nat}(hs:shp P t=some n)(H:HRel g h w w0 own0){v:Value}{x:V}(hv:VRep g w v x)(hc:(h.cells x).2=true)(hl:n.getD 1≤(h.cells x).1.length):
  ∃cv,VRep g w cv (ldA n (h.cells x).1)∧∀w',Grow w w'→(Instr.loadAt t v).run P w'= .ok cv w':=by
 obtain⟨b,o,xs,rfl,hb,hx⟩:=zav H hv hc
 refine⟨ldV n xs,?_,fun w' hg=>WL hs hl fun k hk=>(hg.cell hb).trans (hx k hk).1⟩
 cases n with
 |none=>exact(hx 0 hl).2.2
 |some n=>
  have hn:(List.take n (h.cells x).1).length=n:=by rw[List.length_take];exact Nat.min_eq_left hl
  refine VRep.mkagg (by rw[hn];simp) (fun i hi=> ?_) (fun i hi=> ?_)
  ·rw[hn]at hi
   rw[kQ hi]
   exact(hx i (Nat.lt_of_lt_of_le hi hl)).2.1
  ·rw[hn]at hi
   rw[kQ hi]
   have:=(hx i (Nat.lt_of_lt_of_le hi hl)).2.2
   simpa[List.getD_eq_getElem?_getD,List.getElem?_take,hi]using this
theorem zxa{cs:List V}{v:Value}(n:Nat)(hv:VRep g w v (.pp cs)):∃b o,v= .pointer (some ⟨b,o,none⟩)∧VRep g w (.pointer (some ⟨b,o+n,none⟩)) (.pp (cs.drop n)):=by
 cases hv.inv_pp with
 |pp b o _ xs hF hx hr=>
  refine⟨b,o,rfl,.p _ _ (.pp b (o+n) _ (fun k=>xs (n+k)) hF (fun k hk=> ?_) (fun k hk=> ?_))⟩
  ·have hk':n+k<cs.length:=by simp at hk;omega
   rw[Nat.add_assoc];exact hx _ hk'
  ·have hk':n+k<cs.length:=by simp at hk;omega
   have:=hr _ hk'
   simpa[List.getD_eq_getElem?_getD]using this
theorem zxc{j ver i o n:Nat}{v:Value}(H:HRel g h w w0 own0)(hv:VRep g w v (.ptr j ver i o))(hc:h.cur j ver=true):
  ∃b q,v= .pointer (some ⟨b,q,none⟩)∧VRep g w (.pointer (some ⟨b,q+n,none⟩)) (.ptr j ver i (o+n)):=by
 obtain⟨B,I,hB,hI,hbl,hBv,hIv,hk⟩:=H.cur hc
 obtain⟨hlt,hp⟩:=hv.inv_ptr
 obtain⟨b,hb,rfl⟩:=hp I hI hIv
 refine⟨b,_,rfl,.ptr _ _ _ _ _ hlt fun J hJ hJv=> ?_⟩
 obtain rfl:I=J:=Option.some.inj (hI.symm.trans hJ)
 exact⟨b,hb,by rw[Nat.add_assoc]⟩
theorem ziG{x:V}{v:Value}(n:Nat)(H:HRel g h w w0 own0)(hv:VRep g w v x)(hc:h.isPtr x=true):
  ∃b q,v= .pointer (some ⟨b,q,none⟩)∧VRep g w (.pointer (some ⟨b,q+n,none⟩)) (x.off n):=by
 cases x with
 |pp cs=>exact zxa n hv
 |ptr j ver i o=>exact zxc H hv hc
 |_=>cases hc
theorem W2{t:TypeId}{f:Nat}{F:Field}{s:Nat}(hf:Kd P t f=some F)(hs:qa P F.type=some s)(h0:¬s=0)(H:HRel g h w w0 own0){v:Value}{x:V}(hv:VRep g w v x)
  (hc:h.isPtr x=true):∃cv,VRep g w cv (x.off F.offset)∧∀w',(Instr.fieldAt t v f).run P w'= .ok cv w':=by
 have key:∀b o w',(Instr.fieldAt t (.pointer (some ⟨b,o,none⟩)) f).run P w'= .ok (.pointer (some ⟨b,o+F.offset,none⟩)) w':=by
  intro b o w'
  unfold Kd at hf
  split at hf
  ·rename_i fs hu
   simp only[Instr.fieldAt,Sem.run_bind,run_underlying hu,Result.andThen_ok,hf,Instr.sureAddr,Sem.run_pure,fieldPlace,run_sizeOf hs,h0,if_false,Addr.add_lit]
  ·cases hf
 obtain⟨b,o,rfl,hr⟩:=ziG F.offset H hv hc
 exact⟨_,hr,key b o⟩
end
end Go.Sx
end
section
namespace Go.Sx
section
variable {P:Program} {g:Gh} {w w0 w':World} {own0:Own} {h:Heap}
theorem zyj{n:Int}(h:inR n=true):IntKind.i64.wrap n=n:=by
 simp only[inR,decide_eq_true_eq]at h
 rw[IntKind.wrap_i64];omega
theorem Qo{k:IntKind}{n:Int}(h:(arith k n).2=true):(arith k n).1= .c (.int k (k.wrap n)):=by
 cases k<;>simp only[arith]at h⊢
 rw[zyj h]
theorem zkE(a b:Int):(a==b)=decide (a=b):=by rw[Bool.eq_iff_iff];simp
theorem zR(op:BinOp)(t:TypeId)(x y:Operand)(k k':IntKind)(a b:Int)(w:World):(eqGuard op t x y (.int k a) (.int k' b)).run P w= .ok () w:=by
 cases op<;>rfl
theorem jO(op:BinOp)(t:TypeId)(x y:Operand)(a b:ByteArray)(w:World):(eqGuard op t x y (.string a) (.string b)).run P w= .ok () w:=by
 cases op<;>rfl
theorem Wb(op:BinOp)(t:TypeId)(x y:Operand)(a b:Bool)(w:World):(eqGuard op t x y (.bool a) (.bool b)).run P w= .ok () w:=by
 cases op<;>rfl
theorem XM(s t:ByteArray):(s.toList==t.toList)=decide (s=t):=by
 rw[Lib.toList_data,Lib.toList_data,Bool.eq_iff_iff,beq_iff_eq,decide_eq_true_eq]
 constructor
 ·intro h
  cases s;cases t
  simp at h
  rw[h]
 ·rintro rfl;rfl
theorem zxl{op:BinOp}{t:TypeId}{x y:Operand}{a b:Value}(hop:op= .add∨op= .sub∨op= .mul∨op= .quo∨op= .rem∨op= .eql∨op= .neq∨op= .lss∨op= .leq∨op= .gtr∨op= .geq∨op= .and)
  (hok:(zp2 op a b).2=true):∃cv,(zp2 op a b).1= .c cv∧∀w:World,(do eqGuard op t x y a b;binOp op t a b:Sem Value).run P w= .ok cv w:=by
 unfold zp2 at hok⊢
 split at hok
 ·rename_i k a k' b
  split at hok
  ·rename_i hk
   subst hk
   simp only[if_true]
   rcases hop with rfl|rfl|rfl|rfl|rfl|rfl|rfl|rfl|rfl|rfl|rfl|rfl<;>simp only[Bool.and_eq_true,decide_eq_true_eq]at hok⊢
   ·exact⟨_,Qo hok,fun w=>by simp[zR,binOp,Op.intArith]⟩
   ·exact⟨_,Qo hok,fun w=>by simp[zR,binOp,Op.intArith]⟩
   ·exact⟨_,Qo hok,fun w=>by simp[zR,binOp,Op.intArith]⟩
   ·exact⟨_,Qo hok.1,fun w=>by simp[zR,binOp,Op.intDiv,hok.2]⟩
   ·exact⟨_,rfl,fun w=>by simp[zR,binOp,Op.intDiv,hok]⟩
   ·exact⟨_,rfl,fun w=>by simp[zR,binOp,Op.intCmp,zkE]⟩
   ·exact⟨_,rfl,fun w=>by simp[zR,binOp,Op.intCmp,bne,zkE]⟩
   ·exact⟨_,rfl,fun w=>by simp[zR,binOp,Op.intCmp]⟩
   ·exact⟨_,rfl,fun w=>by simp[zR,binOp,Op.intCmp]⟩
   ·exact⟨_,rfl,fun w=>by simp[zR,binOp,Op.intCmp]⟩
   ·exact⟨_,rfl,fun w=>by simp[zR,binOp,Op.intCmp]⟩
   ·exact⟨_,rfl,fun w=>by simp[zR,binOp,Op.intBits,zBC]⟩
  ·simp at hok
 ·rename_i s t
  rcases hop with rfl|rfl|rfl|rfl|rfl|rfl|rfl|rfl|rfl|rfl|rfl|rfl<;>simp only[]at hok⊢ <;>first|(cases hok;done)|skip
  ·refine⟨_,rfl,fun w=> ?_⟩
   have:¬(9223372036854775807<(s.size:Int)+(t.size:Int)):=by simp[inR]at hok;omega
   simp[jO,binOp,Op.stringOp,this]
  ·exact⟨_,rfl,fun w=>by simp[jO,binOp,Op.stringOp,XM]⟩
  ·exact⟨_,rfl,fun w=>by simp[jO,binOp,Op.stringOp,XM]⟩
 ·cases hok
theorem Wc{t:TypeId}(d:Nat)(a b:Bool)(hu:P.underlying t=some .bool)(w:World):(Op.equalIn (d+1) t (.bool a) (.bool b)).run P w= .ok (a==b) w:=by
 simp only[Op.equalIn,Sem.run_bind,run_underlying hu,Result.andThen_ok,Sem.run_pure]
theorem zbq{t:TypeId}(a b:Bool)(hu:P.underlying t=some .bool)(w:World):(Op.equal t (.bool a) (.bool b)).run P w= .ok (a==b) w:=
 Wc 9999 a b hu w
theorem zxm{neg:Bool}{t:TypeId}{x y:Operand}{a b:Bool}(hu:P.underlying t=some .bool)(w:World):
  (do eqGuard (if neg then .neq else .eql) t x y (.bool a) (.bool b);binOp (if neg then .neq else .eql) t (.bool a) (.bool b):Sem Value).run P w= .ok (.bool ((a==b) != neg)) w:=by
 cases neg<;>simp only[Bool.false_eq_true,if_false,if_true,Sem.run_bind,Wb,binOp,zbq a b hu,Result.andThen_ok,Sem.run_pure]<;>cases a<;>cases b<;>rfl
theorem KP{v:Value}{x:V}(hv:VRep g w v x)(h:(asB x).2=true):v= .bool (asB x).1:=by
 unfold asB at h⊢
 split at h
 ·exact hv.inv_c
 ·cases h
theorem YF{v:Value}{x:V}(hv:VRep g w v x)(h:(asI x).2=true):∃k,v= .int k (asI x).1:=by
 unfold asI at h⊢
 split at h
 ·exact⟨_,hv.inv_c⟩
 ·cases h
theorem zck{t e:TypeId}{sz:Nat}(hu:P.underlying t=some (.slice e))(hs:qa P e=some sz)(H:HRel g h w w0 own0){v vi:Value}{x i:V}(d:List V)(hv:VRep g w v x)(hi:VRep g w vi i)
  (hok:((asI i).2&&h.idxOK sz x (asI i).1)=true):
  ∃cv,VRep g w cv (x.idx d (asI i).1.toNat)∧∀w',(Instr.indexAt t v vi).run P w'= .ok cv w':=by
 rw[Bool.and_eq_true]at hok
 obtain⟨hI,hok⟩:=hok
 obtain⟨k,rfl⟩:=YF hi hI
 clear hI
 generalize(asI i).1=n at*
 unfold Heap.idxOK at hok
 have key:∀(a:Addr)(len cap:Nat) w',0≤n→n<len→(Instr.indexAt t (.slice (some a) len cap) (.int k n)).run P w'= .ok (.pointer (some (a.add (n.toNat*sz)))) w':=by
  intro a len cap w' h1 h2
  simp[Instr.indexAt,asIntOf,run_underlying hu,h1,h2,run_sizeOf hs]
 split at hok
 ·rename_i s es
  simp only[Bool.and_eq_true,beq_iff_eq,decide_eq_true_eq]at hok
  obtain⟨rfl,h1,h2⟩:=hok
  cases hv.inv_slc with
  |slc a m cap _ _ b o xs hn hcap hsz ha hx hr=>
   subst hn
   have hl:n.toNat<es.length:=by omega
   obtain⟨rfl,hF⟩:=ha (by omega)
   have hle:(es.getD n.toNat []).length=s:=hsz _ (by rw[List.getD_eq_getElem?_getD,List.getElem?_eq_getElem hl];exact List.getElem_mem _)
   refine⟨_,?_,fun w'=>key _ _ _ w' h1 h2⟩
   rw[Addr.add_lit]
   simp only[V.idx]
   rw[JE hl d]
   refine .p _ _ (.pp b _ _ (fun k=>xs n.toNat k) hF (fun k hk=> ?_) (fun k hk=> ?_))
   ·rw[hle]at hk;rw[Nat.add_assoc];exact hx _ _ hl hk
   ·rw[hle]at hk;exact hr _ _ hl hk
 ·rename_i j ver off len
  simp only[Bool.and_eq_true,beq_iff_eq,decide_eq_true_eq]at hok
  obtain⟨⟨hc,hs'⟩,h1,h2⟩:=hok
  obtain⟨B,I,hB,hI,hbl,hBv,hIv,hk⟩:=H.cur hc
  obtain⟨hlt,hp⟩:=hv.inv_ref
  have hr:=hp I hI hIv
  unfold qu at hr
  split at hr
  ·obtain⟨_,_,hl0,_⟩:=hr;omega
  ·rename_i b hb
   obtain⟨a,cap,rfl,h3,h4,h5⟩:=hr
   obtain rfl:=h5 (by omega)
   refine⟨_,?_,fun w'=>key _ _ _ w' h1 h2⟩
   refine .ptr _ _ _ _ _ hlt fun J hJ hJv=> ?_
   obtain rfl:I=J:=Option.some.inj (hI.symm.trans hJ)
   rw[hbl]at hs'
   exact⟨b,hb,by rw[Addr.add_lit,hk.sz,hs',Nat.add_mul];rfl⟩
 ·cases hok
theorem zbu{t e:TypeId}{len sz:Nat}(hu:P.underlying t=some (.array len e))(hs:qa P e=some sz)(H:HRel g h w w0 own0){v vi:Value}{x i:V}(hv:VRep g w v x)(hi:VRep g w vi i)
  (h1:(asI i).2=true) (h2:0≤(asI i).1∧(asI i).1<len) (h3:h.isPtr x=true):
  ∃cv,VRep g w cv (x.off ((asI i).1.toNat*sz))∧∀w',(Instr.indexAt t v vi).run P w'= .ok cv w':=by
 obtain⟨k,rfl⟩:=YF hi h1
 obtain⟨b,q,rfl,hr⟩:=ziG ((asI i).1.toNat*sz) H hv h3
 refine⟨_,hr,fun w'=> ?_⟩
 by_cases hl:len≤1
 ·simp[Instr.indexAt,asIntOf,run_underlying hu,Instr.sureAddr,h2,run_sizeOf hs,Addr.add_lit]
 ·simp[Instr.indexAt,asIntOf,run_underlying hu,Instr.sureAddr,h2,run_sizeOf hs,Addr.add_lit]
theorem zbr{k:IntKind}{i:Int}{y:Nat}{code:BoundsCode}(h:0≤i∧i≤y)(w:World):(Instr.sliceBound (.int k i) y code).run P w= .ok i.toNat w:=by
 simp[Instr.sliceBound,asIntOf,h]
def ze6(lo:Option Value)(d l:Nat):Prop:=
 match lo with
 |none=>l=d
 |some v=>∃k,v= .int k l
theorem Qe{isS:Bool}{len cap:Nat}{lo hi:Option Value}{l u:Nat}(w:World)(hlc:len≤cap)
  (hl:ze6 lo 0 l) (hu:ze6 hi len u) (h1:l≤u) (h2:u≤len):
  (Instr.sliceBounds isS len cap lo hi none).run P w= .ok (l,u,cap) w:=by
 have hb:∀(k:IntKind)(i y:Nat)(code:BoundsCode),i≤y→(Instr.sliceBound (.int k i) y code).run P w= .ok i w:=fun k i y code h=>by
  rw[zbr (by omega)];simp
 unfold ze6 at hl hu
 cases lo with
 |none=>
  subst hl
  cases hi with
  |none=>subst hu;simp[Instr.sliceBounds]
  |some v=>obtain⟨k,rfl⟩:=hu;simp[Instr.sliceBounds,hb k u cap _ (Nat.le_trans h2 hlc)]
 |some v=>
  obtain⟨k,rfl⟩:=hl
  cases hi with
  |none=>subst hu;simp[Instr.sliceBounds,hb k l u _ h1]
  |some v=>obtain⟨k',rfl⟩:=hu;simp[Instr.sliceBounds,hb k' u cap _ (Nat.le_trans h2 hlc),hb k l u _ h1]
end
end Go.Sx
end
section
namespace Go.Sx
section
variable {P:Program} {g:Gh} {w w0 w':World} {own0:Own} {h:Heap}
theorem zak{d:Nat}{lo:Option Value}{x:Option V}(hs:lo.isSome=x.isSome)(hv:∀v y,lo=some v→x=some y→VRep g w v y)(h1:(qi d x).2=true)(h2:0≤(qi d x).1):
  ze6 lo d (qi d x).1.toNat:=by
 unfold ze6
 cases lo with
 |none=>cases x with
  |none=>simp[qi]
  |some y=>cases hs
 |some v=>cases x with
  |none=>cases hs
  |some y=>
   simp only[qi]at h1 h2⊢
   obtain⟨k,rfl⟩:=YF (hv v y rfl rfl) h1
   exact⟨k,by rw[Int.toNat_of_nonneg h2]⟩
theorem zgy{t e:TypeId}{sz:Nat}(hu:P.underlying t=some (.slice e))(hs:qa P e=some sz)(H:HRel g h w w0 own0){v:Value}{x:V}{lo hi:Option Value}{xl xu:Option V}(hv:VRep g w v x)
  (hls:lo.isSome=xl.isSome) (hlv:∀v y,lo=some v→xl=some y→VRep g w v y) (hus:hi.isSome=xu.isSome) (huv:∀v y,hi=some v→xu=some y→VRep g w v y)
  (hc:h.cutOK sz x=true) (h1:(qi 0 xl).2=true) (h2:(qi x.slen xu).2=true) (hr:0≤(qi 0 xl).1∧(qi 0 xl).1≤(qi x.slen xu).1∧(qi x.slen xu).1≤x.slen):
  ∃cv,VRep g w cv (x.cut (qi 0 xl).1.toNat (qi x.slen xu).1.toNat)∧∀w',(Instr.sliceAt t v lo hi none).run P w'= .ok cv w':=by
 have hL:=zak hls hlv h1 hr.1
 have hU:=zak hus huv h2 (by omega)
 have key:∀(a:Option Addr)(len cap:Nat),x.slen=len→len≤cap→∀w',(Instr.sliceAt t (.slice a len cap) lo hi none).run P w'=
  .ok (.slice (if cap=(qi 0 xl).1.toNat then a else a.map (·.add ((qi 0 xl).1.toNat*sz))) ((qi x.slen xu).1.toNat - (qi 0 xl).1.toNat) (cap - (qi 0 xl).1.toNat)) w':=by
  intro a len cap hlen hlc w'
  have:=Qe (P:=P) (isS:=true) (len:=len) (cap:=cap) (lo:=lo) (hi:=hi) (l:=(qi 0 xl).1.toNat) (u:=(qi x.slen xu).1.toNat) w' hlc hL (by rw[←hlen];exact hU) (by omega) (by omega)
  simp[Instr.sliceAt,run_underlying hu,Instr.slice,this,run_sizeOf hs]
 generalize hl':(qi 0 xl).1.toNat=l at*
 generalize hu':(qi x.slen xu).1.toNat=u at*
 have hlu:l≤u∧u≤x.slen:=by omega
 unfold Heap.cutOK at hc
 split at hc
 ·rename_i s es
  have hss:s=sz:=by simpa using hc
  subst hss
  simp only[V.slen]at hlu key
  cases hv.inv_slc with
  |slc a n cap _ _ b o xs hn hcap hsz ha hx hr'=>
   subst hn
   refine⟨_,?_,fun w'=>key a _ cap rfl hcap w'⟩
   have hlen:((es.drop l).take (u - l)).length=u - l:=by simp;omega
   refine .p _ _ (.slc _ _ _ _ _ b (o+l*s) (fun i k=>xs (l+i) k) hlen.symm (by omega) (fun e he=>hsz e (List.mem_of_mem_drop (List.mem_of_mem_take he))) (fun h0=> ?_) (fun i k hi hk=> ?_) (fun i k hi hk=> ?_))
   ·obtain⟨rfl,hF⟩:=ha (by omega)
    rw[if_neg (by omega)]
    exact⟨by simp[Addr.add_lit],hF⟩
   ·rw[hlen]at hi
    rw[show o+l*s+(i*s+k)=o+((l+i)*s+k)by rw[Nat.add_mul];omega]
    exact hx (l+i) k (by omega) hk
   ·rw[hlen]at hi
    have:=hr' (l+i) k (by omega) hk
    rw[show((es.drop l).take (u - l)).getD i []=es.getD (l+i) []by simp[List.getD_eq_getElem?_getD,hi]]
    exact this
 ·rename_i j ver off len
  simp only[Bool.and_eq_true,beq_iff_eq]at hc
  simp only[V.slen]at hlu key
  obtain⟨B,I,hB,hI,hbl,hBv,hIv,hk⟩:=H.cur hc.1
  obtain⟨hlt,hp⟩:=hv.inv_ref
  have hr':=hp I hI hIv
  unfold qu at hr'
  split at hr'
  ·rename_i hb
   obtain⟨a,rfl,rfl,rfl⟩:=hr'
   refine⟨_,?_,fun w'=>key _ _ _ rfl (Nat.le_refl _) w'⟩
   refine .ref _ _ _ _ _ hlt fun J hJ hJv=> ?_
   obtain rfl:I=J:=Option.some.inj (hI.symm.trans hJ)
   simp only[qu,hb]
   obtain rfl:l=0:=by omega
   obtain rfl:u=0:=by omega
   simp
  ·rename_i b hb
   obtain⟨a,cap,rfl,h3,h4,h5⟩:=hr'
   refine⟨_,?_,fun w'=>key _ _ _ rfl h3 w'⟩
   refine .ref _ _ _ _ _ hlt fun J hJ hJv=> ?_
   obtain rfl:I=J:=Option.some.inj (hI.symm.trans hJ)
   simp only[qu,hb]
   refine⟨_,_,rfl,by omega,by omega,fun h0=> ?_⟩
   rw[if_neg (by omega),h5 (by omega)]
   rw[hbl]at hc
   simp[Addr.add_lit,hk.sz,hc.2,Nat.add_mul]
 ·have:=hv.inv_c
  subst this
  simp only[V.slen]at hlu key
  obtain rfl:l=0:=by omega
  obtain rfl:u=0:=by omega
  exact⟨_,VRep.c' _,fun w'=>by simpa using key none 0 0 rfl (Nat.le_refl _) w'⟩
 ·cases hc
theorem zdW{t:TypeId}(hu:P.underlying t=some .string){s:ByteArray}{lo hi:Option Value}{xl xu:Option V}
  (hls:lo.isSome=xl.isSome) (hlv:∀v y,lo=some v→xl=some y→VRep g w v y) (hus:hi.isSome=xu.isSome) (huv:∀v y,hi=some v→xu=some y→VRep g w v y)
  (h1:(qi 0 xl).2=true) (h2:(qi s.size xu).2=true) (hr:0≤(qi 0 xl).1∧(qi 0 xl).1≤(qi s.size xu).1∧(qi s.size xu).1≤s.size) (w':World):
  (Instr.sliceAt t (.string s) lo hi none).run P w'= .ok (.string (s.extract (qi 0 xl).1.toNat (qi s.size xu).1.toNat)) w':=by
 have hL:=zak hls hlv h1 hr.1
 have hU:=zak hus huv h2 (by omega)
 have:=Qe (P:=P) (isS:=false) (len:=s.size) (cap:=s.size) (lo:=lo) (hi:=hi) w' (Nat.le_refl _) hL hU (by omega) (by omega)
 simp[Instr.sliceAt,run_underlying hu,Instr.slice,this]
theorem zgh{t:TypeId}{n:Option Nat}(hs:shp P t=some n){cs:Array Value}{off:Nat}(hl:off+n.getD 1≤cs.size)(w:World):
  (part t cs off).run P w= .ok (ldV n fun k=>cs.getD (off+k) undef) w:=by
 cases n with
 |none=>
  obtain⟨d,hd,ha,_⟩:=zdS hs
  have hlt:off<cs.size:=hl
  simp[part,Zj hd,ha,ldV,hlt]
 |some n=>
  obtain⟨d,hd,ha,hz⟩:=zdR hs
  simp only[part,Sem.run_bind,Zj hd,ha,Result.andThen_ok,if_true,run_sizeOf hz,Sem.run_pure,ldV]
  congr 2
  apply Array.ext
  ·simp at hl ⊢;omega
  ·intro i h1 h2
   have h3:i<n:=by simpa using h2
   simp at hl
   simp[show off+i<cs.size by omega]
theorem zrd{cs:Array Value}{x:V}{off:Nat}{n:Option Nat}(hv:VRep g w (.agg cs) x)(hl:off+n.getD 1≤(cellsOf true x).length)(h0:0<n.getD 1)(hn:(n.isNone||x.isAgg)=true):
  cs.size=(cellsOf true x).length∧VRep g w (ldV n fun k=>cs.getD (off+k) undef) (ldA n ((cellsOf true x).drop off)):=by
 obtain⟨cs',he,h1,h2⟩:=Zl hv (by omega)
 obtain rfl:cs=cs':=by injection he
 refine⟨h1,?_⟩
 cases n with
 |none=>
  have:=h2 off hl
  simpa[ldV,ldA,List.getD_eq_getElem?_getD]using this
 |some n=>
  cases x with
  |agg xs=>
   obtain⟨cs',he,_,h3,_⟩:=hv.inv_agg
   obtain rfl:cs=cs':=by injection he
   simp only[cellsOf]at hl h2⊢
   have hl':off+n≤xs.length:=by simpa using hl
   have hlen:((xs.drop off).take n).length=n:=by simp;omega
   refine VRep.mkagg (by rw[hlen];simp) (fun i hi=> ?_) (fun i hi=> ?_)
   ·rw[hlen]at hi
    rw[kQ hi]
    exact h3 (off+i) (by omega)
   ·rw[hlen]at hi
    rw[kQ hi]
    have:=h2 (off+i) (by omega)
    simpa[List.getD_eq_getElem?_getD,List.getElem?_take,hi]using this
  |_=>simp[V.isAgg]at hn
theorem zgw{t:TypeId}{f:Nat}{F:Field}{n:Option Nat}(hf:Kd P t f=some F)(hs:shp P F.type=some n){v:Value}{x:V}(hv:VRep g w v x)
  (hl:F.offset+n.getD 1≤(cellsOf true x).length) (h0:0<n.getD 1) (hn:(n.isNone||x.isAgg)=true):
  ∃cv,VRep g w cv (ldA n ((cellsOf true x).drop F.offset))∧∀w',(Instr.field t v f).run P w'= .ok cv w':=by
 obtain⟨cs,rfl,h1,_⟩:=Zl hv (by omega)
 obtain⟨_,h3⟩:=zrd hv hl h0 hn
 refine⟨_,h3,fun w'=> ?_⟩
 unfold Kd at hf
 split at hf
 ·rename_i fs hu
  simp only[Instr.field,Sem.run_bind,run_underlying hu,Result.andThen_ok,hf,asAgg,Sem.run_pure]
  exact zgh hs (by omega) w'
 ·cases hf
theorem zi0{t e:TypeId}{len sz:Nat}{n:Option Nat}(hu:P.underlying t=some (.array len e))(hs:shp P e=some n)(hz:qa P e=some sz){v vi:Value}{x i:V}(hv:VRep g w v x)(hi:VRep g w vi i)
  (h1:(asI i).2=true) (h2:0≤(asI i).1∧(asI i).1<len) (hl:(cellsOf true x).length=len*sz) (hn:(n.isNone||x.isAgg)=true) (hsz:n.getD 1=sz) (h0:0<sz):
  ∃cv,VRep g w cv (ldA n ((cellsOf true x).drop ((asI i).1.toNat*sz)))∧∀w',(Instr.index t v vi).run P w'= .ok cv w':=by
 obtain⟨k,rfl⟩:=YF hi h1
 have hle:(asI i).1.toNat*sz+n.getD 1≤(cellsOf true x).length:=by
  rw[hl,hsz,←Nat.succ_mul];exact Nat.mul_le_mul_right _ (by omega)
 obtain⟨cs,rfl,h3,_⟩:=Zl hv (by omega)
 obtain⟨_,h4⟩:=zrd hv hle (by omega) hn
 refine⟨_,h4,fun w'=> ?_⟩
 simp only[Instr.index,Sem.run_bind,asIntOf,Sem.run_pure,Result.andThen_ok,run_underlying hu,h2,and_self,if_true,run_sizeOf hz]
 exact zgh hs (by omega) w'
theorem zi1{t:TypeId}(hu:P.underlying t=some .string){s:ByteArray}{vi:Value}{i:V}(hi:VRep g w vi i)
  (h1:(asI i).2=true) (h2:0≤(asI i).1∧(asI i).1<s.data.toList.length) (w':World):
  (Instr.index t (.string s) vi).run P w'= .ok (.int .u8 ((s.data.toList.getD (asI i).1.toNat 0).toNat:Int)) w':=by
 obtain⟨k,rfl⟩:=YF hi h1
 have hsz:s.data.toList.length=s.size:=Array.length_toList
 have hlt:(asI i).1.toNat<s.size:=by omega
 have he:s[(asI i).1.toNat]? =some (s.data.toList.getD (asI i).1.toNat 0):=by
  have hlt':(asI i).1.toNat<s.data.size:=hlt
  rw[getElem?_pos s _ hlt,List.getD_eq_getElem?_getD,Array.getElem?_toList,Array.getElem?_eq_getElem hlt']
  rfl
 simp only[Instr.index,Sem.run_bind,asIntOf,Sem.run_pure,Result.andThen_ok,run_underlying hu,h2.1,if_true,he]
end
end Go.Sx
end
section
namespace Go.Sx
section
variable {P:Program} {g:Gh} {w w0 w':World} {own0:Own} {h:Heap}
theorem jq(cells:Array Value)(i j:Nat)(c:Value)(hi:i<cells.size):(cells.setIfInBounds i c).getD j undef=if j=i then c else cells.getD j undef:=by
 simp only[Array.getD_eq_getD_getElem?,Array.getElem?_setIfInBounds]
 by_cases h:i=j
 ·subst h;simp[hi]
 ·rw[if_neg h,if_neg (by omega)]
theorem Yp:∀(l:List Value)(k off:Nat)(cells:Array Value),off+k+l.length≤cells.size→
  ((l.zipIdx k).foldl (fun cs(c,j)=>cs.setIfInBounds (off+j) c) cells).size=cells.size∧
  ∀j,((l.zipIdx k).foldl (fun cs(c,j)=>cs.setIfInBounds (off+j) c) cells).getD j undef=
   if off+k≤j∧j<off+k+l.length then l.getD (j - (off+k)) undef else cells.getD j undef
 | [],k,off,cells,_=>⟨rfl,fun j=>by simp;intro h1 h2;omega⟩
 |c::l,k,off,cells,h=>by
  simp only[List.length_cons]at h
  obtain⟨h1,h2⟩:=Yp l (k+1) off (cells.setIfInBounds (off+k) c) (by simp;omega)
  simp only[List.zipIdx_cons,List.foldl_cons]
  refine⟨by rw[h1];simp,fun j=> ?_⟩
  rw[h2 j,jq _ _ _ _ (by omega)]
  simp only[List.length_cons]
  by_cases hj:j=off+k
  ·subst hj
   rw[if_neg (by omega),if_pos rfl,if_pos (by omega)]
   simp
  ·rw[if_neg hj]
   by_cases hj2:off+(k+1)≤j∧j<off+(k+1)+l.length
   ·rw[if_pos hj2,if_pos (by omega),show j - (off+k)=(j - (off+(k+1)))+1 by omega]
    simp
   ·rw[if_neg hj2,if_neg (by omega)]
theorem Jn{a:Bool}{v:Value}{x:V}(H:HRel g h w w0 own0)(hv:VRep g w v x)(h0:0<(cellsOf a x).length)(h1:(cellsOf a x).all h.isOne=true):
  v.cells.size=(cellsOf a x).length∧∀i,i<(cellsOf a x).length→(v.cells.getD i undef).oneCell'=true∧VRep g w (v.cells.getD i undef) ((cellsOf a x).getD i .any):=by
 have hone:∀i,i<(cellsOf a x).length→h.isOne ((cellsOf a x).getD i .any)=true:=fun i hi=>by
  rw[List.getD_eq_getElem?_getD,List.getElem?_eq_getElem hi]
  exact List.all_eq_true.1 h1 _ (List.getElem_mem _)
 cases a with
 |true=>
  obtain⟨cs,rfl,hl,hr⟩:=Zl hv h0
  exact⟨hl,fun i hi=>⟨zfM H (hr i hi) (hone i hi),hr i hi⟩⟩
 |false=>
  have h2:=hone 0 h0
  simp only[cellsOf]at h2⊢
  have ho:=zfM H hv h2
  have hc:v.cells= #[v]:=by cases v<;>first|rfl|(simp[Value.oneCell']at ho)
  rw[hc]
  refine⟨rfl,fun i hi=> ?_⟩
  obtain rfl:i=0:=by simpa using hi
  exact⟨ho,hv⟩
def KN(g:Gh)(w:World)(cells:Array Value)(cs:List V):Prop:=
 cells.size=cs.length∧∀i,i<cs.length→(cells.getD i undef).oneCell'=true∧VRep g w (cells.getD i undef) (cs.getD i .any)
theorem KN.set{cells:Array Value}{cs:List V}{off:Nat}{l:List Value}{vs:List V}(hf:KN g w cells cs)(hl:l.length=vs.length)(hb:off+vs.length≤cs.length)
  (hv:∀i,i<vs.length→(l.getD i undef).oneCell'=true∧VRep g w (l.getD i undef) (vs.getD i .any)):
  KN g w ((l.zipIdx).foldl (fun cs(c,j)=>cs.setIfInBounds (off+j) c) cells) (cs.take off++vs++cs.drop (off+vs.length)):=by
 obtain⟨h1,h2⟩:=Yp l 0 off cells (by rw[hf.1];omega)
 have hlen:(cs.take off++vs++cs.drop (off+vs.length)).length=cs.length:=by simp;omega
 refine⟨by rw[h1,hf.1,hlen],fun i hi=> ?_⟩
 rw[hlen]at hi
 rw[h2 i]
 simp only[Nat.add_zero,hl]
 have hget:(cs.take off++vs++cs.drop (off+vs.length)).getD i .any=if off≤i∧i<off+vs.length then vs.getD (i - off) .any else cs.getD i .any:=by
  simp only[List.getD_eq_getElem?_getD,List.append_assoc]
  by_cases hi1:i<off
  ·rw[List.getElem?_append_left (by simp;omega),if_neg (by omega),List.getElem?_take,if_pos hi1]
  ·rw[List.getElem?_append_right (by simp;omega)]
   have ht:(List.take off cs).length=off:=by simp;omega
   rw[ht]
   by_cases hi2:i<off+vs.length
   ·rw[List.getElem?_append_left (by omega),if_pos (by omega)]
   ·rw[List.getElem?_append_right (by omega),if_neg (by omega),List.getElem?_drop,show off+vs.length+(i - off - vs.length)=i by omega]
 rw[hget]
 split
 ·exact hv _ (by omega)
 ·exact hf.2 i hi
theorem zkx(H:HRel g h w w0 own0){place:Nat→Option (Nat×Nat)}:∀(ps:List (Nat×Value))(qs:List (Nat×List V))(cells:Array Value)(cs:List V),KN g w cells cs→ps.length=qs.length→
  (∀(i:Nat)(p:Nat×Value)(q:Nat×List V),ps[i]? =some p→qs[i]? =some q→∃n,place p.1=some (q.1,n)∧n=q.2.length∧p.2.cells.size=n∧q.1+q.2.length≤cs.length∧
    ∀k,k<q.2.length→(p.2.cells.getD k undef).oneCell'=true∧VRep g w (p.2.cells.getD k undef) (q.2.getD k .any))→
  ∃out,Instr.fill place cells ps=some out∧KN g w out (qd cs qs)
 | [],[],cells,cs,hf,_,_=>⟨cells,rfl,hf⟩
 | [],_::_,_,_,_,hl,_=>by simp at hl
 |_::_,[],_,_,_,hl,_=>by simp at hl
 |(i,v)::ps,(off,vs)::qs,cells,cs,hf,hl,hall=>by
  obtain⟨n,hp,hn,hsz,hle,hv⟩:=hall 0 _ _ rfl rfl
  simp only at hp hn hsz hle hv
  have hcond:¬((v.cells.size≠n)∨off+v.cells.size > cells.size):=by rw[hf.1];omega
  have hset:=KN.set (off:=off) (l:=v.cells.toList) (vs:=vs) hf (by rw[Array.length_toList];omega) hle (fun k hk=>by simpa[Array.getD_eq_getD_getElem?,List.getD_eq_getElem?_getD]using hv k hk)
  have hlen:(cs.take off++vs++cs.drop (off+vs.length)).length=cs.length:=by simp;omega
  obtain⟨out,ho,hf'⟩:=zkx H ps qs _ _ hset (by simpa using hl) (fun i p q hpi hqi=>by
   obtain⟨n',a1,a2,a3,a4,a5⟩:=hall (i+1) p q (by simpa using hpi) (by simpa using hqi)
   exact⟨n',a1,a2,a3,by rw[hlen];exact a4,a5⟩)
  refine⟨out,?_,hf'⟩
  simp only[Instr.fill,hp]
  have hfold:v.cells.zipIdx.foldl (fun cs(x:Value×Nat)=>cs.setIfInBounds (off+x.2) x.1) cells=(v.cells.toList.zipIdx).foldl (fun cs(x:Value×Nat)=>cs.setIfInBounds (off+x.2) x.1) cells:=by
   rw[←Array.foldl_toList,Array.toList_zipIdx]
  rw[if_neg (by simpa using hcond)]
  rw[show(v.cells.zipIdx.foldl (fun cs x=>match x with|(c,j)=>cs.setIfInBounds (off+j) c) cells)=(v.cells.toList.zipIdx).foldl (fun cs(x:Value×Nat)=>cs.setIfInBounds (off+x.2) x.1) cells from hfold]
  exact ho
theorem Qv{z:Value}(hz:z.cells.toList.all (·.oneCell')=true):KN g w z.cells (z.cells.toList.map .c):=by
 refine⟨by simp,fun i hi=> ?_⟩
 have hi':i<z.cells.size:=by simpa using hi
 have:z.cells.getD i undef=z.cells[i]:=by simp[hi']
 rw[this]
 refine⟨List.all_eq_true.1 hz _ (by simp),?_⟩
 simp[List.getD_eq_getElem?_getD,hi']
 exact VRep.c' _
end
end Go.Sx
end
section
namespace Go.Sx
section
variable {P:Program} {g:Gh} {w w0 w':World} {own0:Own} {h:Heap}
def ze7(g:Gh)(w:World)(ev:Operand→Value)(ρ:X→V):Prop:=∀x y,zG x=some y→VRep g w (ev x) (ρ y)
theorem Ka{ev:Operand→Value}{ρ:X→V}(hρ:ze7 g w ev ρ):∀ {xs:List Operand}{ys:List X},KZ xs=some ys→
  xs.length=ys.length∧∀i,i<ys.length→VRep g w ((xs.map ev).getD i undef) ((ys.map ρ).getD i .any)
 | [],ys,h=>by simp[KZ]at h;subst h;exact⟨rfl,by simp⟩
 |x::xs,ys,h=>by
  simp only[KZ,Option.bind_eq_some_iff,Option.map_eq_some_iff]at h
  obtain⟨y,hy,zs,hzs,rfl⟩:=h
  obtain⟨h1,h2⟩:=Ka hρ hzs
  refine⟨by simp[h1],fun i hi=> ?_⟩
  cases i with
  |zero=>simpa using hρ x y hy
  |succ i=>simpa using h2 i (by simpa using hi)
theorem Q9{ev:Operand→Value}{ρ:X→V}(hρ:ze7 g w ev ρ){x:Option Operand}{y:Option X}(h:KY x=some y):
  (x.map ev).isSome=(y.map ρ).isSome∧∀v z,x.map ev=some v→y.map ρ=some z→VRep g w v z:=by
 cases x with
 |none=>simp[KY]at h;subst h;simp
 |some x=>
  simp only[KY,Option.map_eq_some_iff]at h
  obtain⟨z,hz,rfl⟩:=h
  refine⟨rfl,fun v u hv hu=> ?_⟩
  simp at hv hu
  subst hv;subst hu
  exact hρ x z hz
theorem qN{s:Sem Value}{cv:Value}{w w1:World}(h:s.run P w= .ok cv w1):(do pure (Next.value (←s)):Sem Next).run P w= .ok (.value cv) w1:=by simp[h]
theorem WM(w:World):∀(fs:List Field),(fs.all fun f=>(qa P f.type).isSome)=true→
  (fs.mapM fun f=>Functor.map (Prod.mk f.offset) (sizeOf f.type)).run P w= .ok (fs.map fun f=>(f.offset,(qa P f.type).getD 0)) w
 | [],_=>by simp
 |f::fs,h=>by
  simp only[List.all_cons,Bool.and_eq_true]at h
  obtain⟨s,hs⟩:=Option.isSome_iff_exists.1 h.1
  simp[List.mapM_cons,run_sizeOf hs,WM w fs h.2,hs]
theorem Js{ev:Operand→Value}{ρ:X→V}(hρ:ze7 g w ev ρ){fs:Array Field}:∀ {ps:List (Nat×Operand)}{qs:List (Nat×Option Nat×X)},Yg P fs ps=some qs→
  ps.length=qs.length∧∀(i:Nat)(p:Nat×Operand)(q:Nat×Option Nat×X),ps[i]? =some p→qs[i]? =some q→
   VRep g w (ev p.2) (ρ q.2.2)∧∃f,fs[p.1]? =some f∧f.offset=q.1∧qa P f.type=some (q.2.1.getD 1)
 | [],qs,h=>by simp[Yg]at h;subst h;exact⟨rfl,by simp⟩
 |(i,x)::ps,qs,h=>by
  simp only[Yg,Option.bind_eq_some_iff,Option.map_eq_some_iff]at h
  obtain⟨f,hf,n,hn,y,hy,rs,hrs,rfl⟩:=h
  obtain⟨h1,h2⟩:=Js hρ hrs
  refine⟨by simp[h1],fun j p q hp hq=> ?_⟩
  cases j with
  |zero=>simp at hp hq;subst hp;subst hq;exact⟨hρ x y hy,f,hf,rfl,ziV hn⟩
  |succ j=>exact h2 j p q (by simpa using hp) (by simpa using hq)
theorem jV{ev:Operand→Value}{ρ:X→V}(hρ:ze7 g w ev ρ):∀ {ps:List (Nat×Operand)}{qs:List (Nat×X)},Zc ps=some qs→
  ps.length=qs.length∧∀(i:Nat)(p:Nat×Operand)(q:Nat×X),ps[i]? =some p→qs[i]? =some q→p.1=q.1∧VRep g w (ev p.2) (ρ q.2)
 | [],qs,h=>by simp[Zc]at h;subst h;exact⟨rfl,by simp⟩
 |(i,x)::ps,qs,h=>by
  simp only[Zc,Option.bind_eq_some_iff,Option.map_eq_some_iff]at h
  obtain⟨y,hy,rs,hrs,rfl⟩:=h
  obtain⟨h1,h2⟩:=jV hρ hrs
  refine⟨by simp[h1],fun j p q hp hq=> ?_⟩
  cases j with
  |zero=>simp at hp hq;subst hp;subst hq;exact⟨rfl,hρ x y hy⟩
  |succ j=>exact h2 j p q (by simpa using hp) (by simpa using hq)
def zal(ρ:X→V)(ps:List (Nat×Option Nat×X)):List (Nat×List V):=ps.map fun p=>(p.1,cellsOf p.2.1.isSome (ρ p.2.2))
theorem WP{z:Value}(H:HRel g h w w0 own0){place:Nat→Option (Nat×Nat)}{ps:Array (Nat×Value)}{qs:List (Nat×Option Nat×X)}{ρ:X→V}
  (hlen:ps.size=qs.length) (hps:∀(i:Nat)(p:Nat×Value)(q:Nat×Option Nat×X),ps.toList[i]? =some p→qs[i]? =some q→VRep g w p.2 (ρ q.2.2)∧place p.1=some (q.1,q.2.1.getD 1))
  (hok:(z.cells.toList.all (·.oneCell')&&qs.all fun p=>decide (p.1+(cellsOf p.2.1.isSome (ρ p.2.2)).length≤z.cells.toList.length)&&(cellsOf p.2.1.isSome (ρ p.2.2)).length==p.2.1.getD 1&&decide (0<p.2.1.getD 1)&&(cellsOf p.2.1.isSome (ρ p.2.2)).all h.isOne)=true):
  ∃out,VRep g w (.agg out) (.agg (qd (z.cells.toList.map .c) (zal ρ qs)))∧Instr.fill place z.cells ps.toList=some out:=by
 rw[Bool.and_eq_true]at hok
 obtain⟨out,ho,hf⟩:=zkx (place:=place) H ps.toList (zal ρ qs) z.cells _ (Qv hok.1) (by simp[zal,hlen]) (fun i p q hp hq=>by
  simp only[zal,List.getElem?_map,Option.map_eq_some_iff]at hq
  obtain⟨r,hr,rfl⟩:=hq
  obtain⟨hv,hpl⟩:=hps i p r hp hr
  have h1:=List.all_eq_true.1 hok.2 r (List.mem_of_getElem? hr)
  simp only[Bool.and_eq_true,decide_eq_true_eq,beq_iff_eq]at h1
  obtain⟨h2,h3⟩:=Jn H hv (by omega) h1.2
  exact⟨_,hpl,h1.1.1.2.symm,by rw[h2];exact h1.1.1.2,by simpa using h1.1.1.1,h3⟩)
 exact⟨out,VRep.mkagg hf.1 (fun i hi=>(hf.2 i hi).1) (fun i hi=>(hf.2 i hi).2),ho⟩
theorem Jf{α:Type}{a:Array α}{x y:α}(h:a.toList= [x,y]):a= #[x,y]:=by cases a;simp at h;simp[h]
theorem zbc{α:Type}{a:Array α}{x:α}(h:a.toList= [x]):a= #[x]:=by cases a;simp at h;simp[h]
end
end Go.Sx
end
section
set_option maxHeartbeats 1000000
namespace Go.Sx
section
variable {P:Program}
def lfV:Nat→Value→Bool
 |0,.bool _=>true
 |1,.int _ _=>true
 |2,.string _=>true
 |_,_=>false
def jy:List Nat→List Value→Bool
 | [],[]=>true
 |k::ks,v::vs=>lfV k v&&jy ks vs
 |_,_=>false
def jd:List Value→List Value→Bool×Bool
 | [],[]=>(true,true)
 |a::xs,b::ys=>((z9 a b).1&&(jd xs ys).1,(z9 a b).2&&(jd xs ys).2)
 |_,_=>(false,false)
theorem kn:∀ {ks:List Nat}{l:List Value},jy ks l=true→l.length=ks.length
 | [],[],_=>rfl
 |k::ks,v::vs,h=>by simp only[jy,Bool.and_eq_true]at h;simp[kn h.2]
 | [],_::_,h=>by simp[jy]at h
 |_::_,[],h=>by simp[jy]at h
theorem Qx:∀ {ks ms:List Nat}{l:List Value},jy (ks++ms) l=true→jy ks (l.take ks.length)=true∧jy ms (l.drop ks.length)=true
 | [],ms,l,h=>⟨rfl,by simpa using h⟩
 |k::ks,ms,[],h=>by simp[jy]at h
 |k::ks,ms,v::l,h=>by
  simp only[List.cons_append,jy,Bool.and_eq_true]at h
  obtain⟨h1,h2⟩:=Qx h.2
  simp only[List.length_cons,List.take_succ_cons,List.drop_succ_cons,jy,Bool.and_eq_true]
  exact⟨⟨h.1,h1⟩,h2⟩
theorem zaI:∀ {a b c d:List Value},a.length=b.length→jd (a++c) (b++d)=((jd a b).1&&(jd c d).1,(jd a b).2&&(jd c d).2)
 | [],[],c,d,_=>by simp[jd]
 |x::a,y::b,c,d,h=>by
  simp only[List.cons_append,jd,zaI (show a.length=b.length by simpa using h),Bool.and_assoc]
 | [],_::_,_,_,h=>by simp at h
 |_::_,[],_,_,h=>by simp at h
def OfT(P:Program)(t:TypeId)(a:Value)(l:List Value):Prop:=∃kd,P.underlying t=some kd∧((XK kd=true∧∃arr,a= .agg arr∧arr.toList=l)∨(XK kd=false∧l= [a]))
theorem YH{t:TypeId}{kd:TypeDesc}(hu:P.underlying t=some kd)(h1:XK kd=false→P.cellsOf t=1){xs:Array Value}{off:Nat}(hl:((xs.toList.drop off).take (P.cellsOf t)).length=P.cellsOf t):
  ∃a,OfT P t a ((xs.toList.drop off).take (P.cellsOf t))∧∀w,(part t xs off).run P w= .ok a w:=by
 obtain⟨i,hi⟩:=info_of_underlying hu
 cases ha:XK kd with
 |true=>
  refine⟨.agg (xs.extract off (off+P.cellsOf t)),⟨kd,hu,.inl ⟨ha,_,rfl,?_⟩⟩,fun w=> ?_⟩
  ·rw[Array.toList_extract];simp[List.extract]
  ·simp[part,Zj hu,ha,Go.run_sizeOf w hi]
 |false=>
  have hc:=h1 ha
  rw[hc]at hl⊢
  have hlt:off<xs.size:=by
   simp at hl;omega
  refine⟨xs[off],⟨kd,hu,.inr ⟨ha,?_⟩⟩,fun w=> ?_⟩
  ·rw[List.drop_eq_getElem_cons (by simpa using hlt)];simp
  ·simp[part,Zj hu,ha,hlt]
def EqF(P:Program)(d:Nat):Prop:=∀t ks,Zp P d t=some ks→(∀kd,P.underlying t=some kd→XK kd=false→P.cellsOf t=1)∧ks.length=P.cellsOf t∧(∃kd,P.underlying t=some kd)∧
 ∀a b la lb,OfT P t a la→OfT P t b lb→jy ks la=true→jy ks lb=true→(jd la lb).2=true→∀D w,(Op.equalIn (D+d) t a b).run P w= .ok (jd la lb).1 w
theorem ZM(l:List Value)(off k m:Nat):(l.drop off).take (k+m)=(l.drop off).take k++(l.drop (off+k)).take m:=by
 rw[List.take_add,List.drop_drop]
theorem zcU{d:Nat}(ih:EqF P d)(xs ys:Array Value):∀(fs:List Field)(off:Nat)(ks:List Nat),zqI P (Zp P d) off fs=some ks→
  jy ks ((xs.toList.drop off).take ks.length)=true→jy ks ((ys.toList.drop off).take ks.length)=true→(jd ((xs.toList.drop off).take ks.length) ((ys.toList.drop off).take ks.length)).2=true→
  ∀D w,(Op.eqFields (D+d) xs ys fs).run P w= .ok (jd ((xs.toList.drop off).take ks.length) ((ys.toList.drop off).take ks.length)).1 w
 | [],off,ks,h,h1,h2,h3,D,w=>by
   simp only[zqI,Option.some.injEq]at h;subst h
   simp[Op.eqFields,jd]
 |f::fs,off,ks,h,h1,h2,h3,D,w=>by
  simp only[zqI]at h
  split at h
  ·rename_i k ms hk hms
   split at h
   ·rename_i hf
    obtain⟨hoff,hname⟩:=hf
    obtain rfl:=Option.some.inj h
    obtain⟨q1,q2,⟨kd,hu⟩,q3⟩:=ih _ _ hk
    have c1:=kn h1
    have c2:=kn h2
    rw[List.length_append]at h1 h2 h3 c1 c2⊢
    have hx:=Qx h1
    have hy:=Qx h2
    rw[ZM xs.toList]at hx h3 c1⊢
    rw[ZM ys.toList]at hy h3 c2⊢
    have ex:((xs.toList.drop off).take k.length).length=k.length:=by
     rw[List.length_append]at c1;simp only[List.length_take]at c1 ⊢;omega
    have ey:((ys.toList.drop off).take k.length).length=k.length:=by
     rw[List.length_append]at c2;simp only[List.length_take]at c2 ⊢;omega
    rw[List.take_left' ex,List.drop_left' ex]at hx
    rw[List.take_left' ey,List.drop_left' ey]at hy
    rw[zaI (ex.trans ey.symm)]at h3⊢
    simp only[Bool.and_eq_true]at h3
    subst hoff
    obtain⟨a,oa,pa⟩:=YH hu (q1 kd hu) (xs:=xs) (off:=f.offset) (by rw[←q2];exact ex)
    obtain⟨b,ob,pb⟩:=YH hu (q1 kd hu) (xs:=ys) (off:=f.offset) (by rw[←q2];exact ey)
    rw[←q2]at oa ob
    have he:=q3 a b _ _ oa ob hx.1 hy.1 h3.1 D
    have hr:=zcU ih xs ys fs (f.offset+P.cellsOf f.type) ms hms (by rw[←q2];exact hx.2) (by rw[←q2];exact hy.2) (by rw[←q2];exact h3.2) D
    rw[←q2]at hr
    simp only[Op.eqFields,hname,ne_eq,not_false_eq_true,if_true,Sem.run_bind,pa,pb,he,Result.andThen_ok]
    cases(jd ((xs.toList.drop f.offset).take k.length) ((ys.toList.drop f.offset).take k.length)).1 with
    |false=>simp
    |true=>simpa using hr w
   ·cases h
  ·cases h
theorem JH{d:Nat}(ih:EqF P d){e:TypeId}{k:List Nat}(hk:Zp P d e=some k)(xs ys:Array Value):∀(m i:Nat),
  jy (List.replicate m k).flatten ((xs.toList.drop (i*P.cellsOf e)).take (m*P.cellsOf e))=true→jy (List.replicate m k).flatten ((ys.toList.drop (i*P.cellsOf e)).take (m*P.cellsOf e))=true→
  (jd ((xs.toList.drop (i*P.cellsOf e)).take (m*P.cellsOf e)) ((ys.toList.drop (i*P.cellsOf e)).take (m*P.cellsOf e))).2=true→
  ∀D w,(Op.eqItems (D+d) e (P.cellsOf e) xs ys (List.range' i m)).run P w= .ok (jd ((xs.toList.drop (i*P.cellsOf e)).take (m*P.cellsOf e)) ((ys.toList.drop (i*P.cellsOf e)).take (m*P.cellsOf e))).1 w
 |0,i,_,_,_,D,w=>by simp[Op.eqItems,jd]
 |m+1,i,h1,h2,h3,D,w=>by
  obtain⟨q1,q2,⟨kd,hu⟩,q3⟩:=ih _ _ hk
  have em:(m+1)*P.cellsOf e=P.cellsOf e+m*P.cellsOf e:=by rw[Nat.add_mul];omega
  have ei:i*P.cellsOf e+P.cellsOf e=(i+1)*P.cellsOf e:=by rw[Nat.add_mul];omega
  have hlen:(List.replicate m k).flatten.length=m*P.cellsOf e:=by simp[q2]
  rw[List.replicate_succ,List.flatten_cons]at h1 h2
  have c1:=kn h1
  have c2:=kn h2
  rw[List.length_append,hlen,q2]at c1 c2
  have hx:=Qx h1
  have hy:=Qx h2
  rw[em]at hx hy h3 c1 c2⊢
  rw[ZM xs.toList,ei]at hx h3 c1⊢
  rw[ZM ys.toList,ei]at hy h3 c2⊢
  have ex:((xs.toList.drop (i*P.cellsOf e)).take (P.cellsOf e)).length=P.cellsOf e:=by
   rw[List.length_append]at c1;simp only[List.length_take]at c1 ⊢;omega
  have ey:((ys.toList.drop (i*P.cellsOf e)).take (P.cellsOf e)).length=P.cellsOf e:=by
   rw[List.length_append]at c2;simp only[List.length_take]at c2 ⊢;omega
  rw[q2,List.take_left' ex,List.drop_left' ex]at hx
  rw[q2,List.take_left' ey,List.drop_left' ey]at hy
  rw[zaI (ex.trans ey.symm)]at h3⊢
  simp only[Bool.and_eq_true]at h3
  obtain⟨a,oa,pa⟩:=YH hu (q1 kd hu) (xs:=xs) (off:=i*P.cellsOf e) ex
  obtain⟨b,ob,pb⟩:=YH hu (q1 kd hu) (xs:=ys) (off:=i*P.cellsOf e) ey
  have he:=q3 a b _ _ oa ob hx.1 hy.1 h3.1 D
  have hr:=JH ih hk xs ys m (i+1) hx.2 hy.2 h3.2 D
  rw[List.range'_succ]
  simp only[Op.eqItems,Sem.run_bind,pa,pb,he,Result.andThen_ok]
  cases(jd ((xs.toList.drop (i*P.cellsOf e)).take (P.cellsOf e)) ((ys.toList.drop (i*P.cellsOf e)).take (P.cellsOf e))).1 with
  |false=>simp
  |true=>simpa using hr w
theorem Yr{t:TypeId}{kd:TypeDesc}{a:Value}{la:List Value}(hu:P.underlying t=some kd)(ha:XK kd=false)(h:OfT P t a la):la= [a]:=by
 obtain⟨kd',hu',h⟩:=h
 rw[hu]at hu';obtain rfl:=Option.some.inj hu'
 rcases h with⟨h,_⟩|⟨_,h⟩
 ·rw[ha]at h;cases h
 ·exact h
theorem zaa{t:TypeId}{kd:TypeDesc}{a:Value}{la:List Value}(hu:P.underlying t=some kd)(ha:XK kd=true)(h:OfT P t a la):∃arr,a= .agg arr∧arr.toList=la:=by
 obtain⟨kd',hu',h⟩:=h
 rw[hu]at hu';obtain rfl:=Option.some.inj hu'
 rcases h with⟨_,h⟩|⟨h,_⟩
 ·exact h
 ·rw[ha]at h;cases h
theorem zkt:∀d,EqF P d
 |0=>fun t ks h=>by simp[Zp]at h
 |d+1=>fun t ks h=>by
  have ih:=zkt d
  simp only[Zp]at h
  split at h
  ·rename_i hu
   split at h
   ·rename_i hc
    obtain rfl:=Option.some.inj h
    refine⟨fun _ _ _=>hc,hc.symm,⟨_,hu⟩,fun a b la lb oa ob h1 h2 h3 D w=> ?_⟩
    obtain rfl:=Yr hu rfl oa
    obtain rfl:=Yr hu rfl ob
    cases a<;>simp[jy,lfV]at h1
    cases b<;>simp[jy,lfV]at h2
    rw[←Nat.add_assoc]
    simp[Op.equalIn,run_underlying hu,jd,z9]
   ·cases h
  ·rename_i q hu
   split at h
   ·rename_i hc
    obtain rfl:=Option.some.inj h
    refine⟨fun _ _ _=>hc,hc.symm,⟨_,hu⟩,fun a b la lb oa ob h1 h2 h3 D w=> ?_⟩
    obtain rfl:=Yr hu rfl oa
    obtain rfl:=Yr hu rfl ob
    cases a<;>simp[jy,lfV]at h1
    cases b<;>simp[jy,lfV]at h2
    simp[jd,z9]at h3
    subst h3
    rw[←Nat.add_assoc]
    simp[Op.equalIn,run_underlying hu,jd,z9]
    rfl
   ·cases h
  ·rename_i hu
   split at h
   ·rename_i hc
    obtain rfl:=Option.some.inj h
    refine⟨fun _ _ _=>hc,hc.symm,⟨_,hu⟩,fun a b la lb oa ob h1 h2 h3 D w=> ?_⟩
    obtain rfl:=Yr hu rfl oa
    obtain rfl:=Yr hu rfl ob
    cases a<;>simp[jy,lfV]at h1
    cases b<;>simp[jy,lfV]at h2
    rw[←Nat.add_assoc]
    simp[Op.equalIn,run_underlying hu,jd,z9,Go.beq_toListBytes,XM]
   ·cases h
  ·rename_i n e hu
   simp only[Option.bind_eq_some_iff]at h
   obtain⟨k,hk,h⟩:=h
   split at h
   ·rename_i hc
    obtain rfl:=Option.some.inj h
    obtain⟨q1,q2,⟨kd,hue⟩,q3⟩:=ih _ _ hk
    refine⟨fun kd hkd ha=>(by rw[hu]at hkd;obtain rfl:=Option.some.inj hkd;cases ha),by simp[q2,hc],⟨_,hu⟩,fun a b la lb oa ob h1 h2 h3 D w=> ?_⟩
    obtain⟨xs,rfl,rfl⟩:=zaa hu rfl oa
    obtain⟨ys,rfl,rfl⟩:=zaa hu rfl ob
    obtain⟨i,hi⟩:=info_of_underlying hue
    rw[←Nat.add_assoc,Go.run_equalIn_array w (D+d) xs ys hu hi,List.range_eq_range']
    have hx:(xs.toList.drop (0*P.cellsOf e)).take (n*P.cellsOf e)=xs.toList:=by
     have:=kn h1;rw[Nat.zero_mul,List.drop_zero];exact List.take_of_length_le (by rw[this];simp[q2])
    have hy:(ys.toList.drop (0*P.cellsOf e)).take (n*P.cellsOf e)=ys.toList:=by
     have:=kn h2;rw[Nat.zero_mul,List.drop_zero];exact List.take_of_length_le (by rw[this];simp[q2])
    have:=JH ih hk xs ys n 0 (by rw[hx];exact h1) (by rw[hy];exact h2) (by rw[hx,hy];exact h3) D w
    rw[hx,hy]at this
    exact this
   ·cases h
  ·rename_i fs hu
   simp only[Option.bind_eq_some_iff]at h
   obtain⟨k,hk,h⟩:=h
   split at h
   ·rename_i hc
    obtain rfl:=Option.some.inj h
    refine⟨fun kd hkd ha=>(by rw[hu]at hkd;obtain rfl:=Option.some.inj hkd;cases ha),hc.1.symm,⟨_,hu⟩,fun a b la lb oa ob h1 h2 h3 D w=> ?_⟩
    obtain⟨xs,rfl,rfl⟩:=zaa hu rfl oa
    obtain⟨ys,rfl,rfl⟩:=zaa hu rfl ob
    have hfs:P.fieldsOf t=fs:=by simp[Program.fieldsOf,hu]
    rw[←Nat.add_assoc,Go.run_equalIn_struct w (D+d) t xs ys (by rw[hfs];exact hu) hc.2,hfs]
    have hx:(xs.toList.drop 0).take k.length=xs.toList:=by
     have:=kn h1;rw[List.drop_zero];exact List.take_of_length_le (by rw[this];exact Nat.le_refl _)
    have hy:(ys.toList.drop 0).take k.length=ys.toList:=by
     have:=kn h2;rw[List.drop_zero];exact List.take_of_length_le (by rw[this];exact Nat.le_refl _)
    have:=zcU ih xs ys fs.toList 0 k hk (by rw[hx];exact h1) (by rw[hy];exact h2) (by rw[hx,hy];exact h3) D w
    rw[hx,hy]at this
    exact this
   ·cases h
  ·cases h
end
section
variable {P:Program} {g:Gh} {w:World}
theorem zcS:∀(l m:List Value),jY (l.map .c) (m.map .c)=jd l m
 | [],[]=>rfl
 |a::l,b::m=>by simp only[List.map_cons,jY,jd,zcS l m]
 | [],_::_=>rfl
 |_::_,[]=>rfl
theorem zCw{k:Nat}{v:V}(h:lf k v=true):∃u,v= .c u∧lfV k u=true:=by
 match k,v,h with
 |0,.c (.bool b),_=>exact⟨_,rfl,rfl⟩
 |1,.c (.int _ _),_=>exact⟨_,rfl,rfl⟩
 |2,.c (.string _),_=>exact⟨_,rfl,rfl⟩
theorem zyv:∀ {ks:List Nat}{l:List V},lfs ks l=true→∃m:List Value,l=m.map .c∧jy ks m=true
 | [],[],_=>⟨[],rfl,rfl⟩
 |k::ks,v::vs,h=>by
  simp only[lfs,Bool.and_eq_true]at h
  obtain⟨u,rfl,h1⟩:=zCw h.1
  obtain⟨m,rfl,h2⟩:=zyv h.2
  exact⟨u::m,rfl,by simp[jy,h1,h2]⟩
 | [],_::_,h=>by simp[lfs]at h
 |_::_,[],h=>by simp[lfs]at h
theorem zaZ{ks:List Nat}{v:Value}{x:V}(hv:VRep g w v x)(h0:ks≠[])(h:lfs ks (cellsOf true x)=true):∃arr,v= .agg arr∧cellsOf true x=arr.toList.map .c∧jy ks arr.toList=true:=by
 obtain⟨m,hm,hl⟩:=zyv h
 have hpos:0<(cellsOf true x).length:=by rw[hm,List.length_map,kn hl];exact List.length_pos_iff.2 h0
 obtain⟨cs,rfl,h1,h2⟩:=Zl hv hpos
 have:cs.toList=m:=by
  apply List.ext_getElem
  ·rw[Array.length_toList,h1,hm,List.length_map]
  ·intro i hi hi'
   have:=h2 i (by rw[hm,List.length_map];exact hi')
   rw[hm,List.getD_eq_getElem?_getD,List.getElem?_map,List.getElem?_eq_getElem hi']at this
   simp only[Option.map_some,Option.getD_some]at this
   have:=this.inv_c
   rw[←this]
   simp at hi
   simp[hi]
 subst this
 exact⟨cs,rfl,hm,hl⟩
theorem zxn{neg:Bool}{t:TypeId}{kd:TypeDesc}(hu:P.underlying t=some kd)(hagg:XK kd=true){ks:List Nat}(hf:Zp P 8 t=some ks)(hg:P.eqGuardType P.depth t=false){x y:Operand}{v u:Value}{X Y:V}(hv:VRep g w v X)(hy:VRep g w u Y)
  (h0:ks≠[]) (h1:lfs ks (cellsOf true X)=true) (h2:lfs ks (cellsOf true Y)=true) (h3:(jY (cellsOf true X) (cellsOf true Y)).2=true) (w':World):
  (do eqGuard (if neg then .neq else .eql) t x y v u;binOp (if neg then .neq else .eql) t v u:Sem Value).run P w'= .ok (.bool ((jY (cellsOf true X) (cellsOf true Y)).1 != neg)) w':=by
 obtain⟨xs,rfl,e1,l1⟩:=zaZ hv h0 h1
 obtain⟨ys,rfl,e2,l2⟩:=zaZ hy h0 h2
 rw[e1,e2,zcS]at h3⊢
 have:=(zkt 8 t ks hf).2.2.2 (.agg xs) (.agg ys) _ _ ⟨kd,hu,.inl ⟨hagg,_,rfl,rfl⟩⟩ ⟨kd,hu,.inl ⟨hagg,_,rfl,rfl⟩⟩ l1 l2 h3 9992 w'
 cases neg with
 |false=>
  simp only[Bool.false_eq_true,if_false,Sem.run_bind,Go.run_eqGuard_agg w' _ t x y xs ys hg,Result.andThen_ok,Go.run_eql_struct,this]
  cases(jd xs.toList ys.toList).1<;>rfl
 |true=>
  simp only[if_true,Sem.run_bind,Go.run_eqGuard_agg w' _ t x y xs ys hg,Result.andThen_ok,Go.run_neq_struct,this]
  cases(jd xs.toList ys.toList).1<;>rfl
theorem zAC{h:Heap}{w0:World}{own0:Own}(H:HRel g h w w0 own0){x:V}{b o:Nat}(hv:VRep g w (.pointer (some ⟨b,o,none⟩)) x)(hc:(h.cells x).2=true)(hf:h.fzn x=true):g.F b:=by
 cases x with
 |pp cs=>have hp:=hv.inv_pp;cases hp with|pp b o _ xs hF hx hr=>exact hF
 |ptr j ver i o'=>
  simp only[Heap.cells,Bool.and_eq_true,decide_eq_true_eq]at hc
  obtain⟨B,I,hB,hI,hbl,hBv,hIv,hk⟩:=H.cur hc.1
  obtain⟨_,hp⟩:=hv.inv_ptr
  obtain⟨b',hb',he⟩:=hp I hI hIv
  have he':b=b':=by injection he with he;injection he with he;injection he
  subst he'
  simp only[Heap.fzn,hbl]at hf
  exact hk.fz b hb' hf
 |_=>simp[Heap.cells]at hc
theorem zdV{h:Heap}{w0:World}{own0:Own}(H:HRel g h w w0 own0){t e:TypeId}{n sz:Nat}(hu:P.underlying t=some (.array n e))(hz:qa P e=some sz){v:Value}{x:V}(hv:VRep g w v x)
  (h1:(h.cells x).2=true) (h2:h.fzn x=true) (h3:0<sz∧n*sz≤(h.cells x).1.length) (h4:((h.cells x).1.take (n*sz)).all V.isC'=true):
  ∃cv,VRep g w cv (.slc sz (Qp n sz (h.cells x).1))∧∀w',(Instr.sliceAt t v none none none).run P w'= .ok cv w':=by
 obtain⟨b,o,xs,rfl,hb,hx⟩:=zav H hv h1
 have hF:=zAC H hv h1 h2
 have ha:P.arrayLen t=n:=by simp[Program.arrayLen,hu]
 have he:P.elem t=e:=by simp[Program.elem,hu]
 refine⟨.slice (some ⟨b,o,none⟩) n n,.p _ _ ?_,fun w'=> ?_⟩
 ·have hcl:(Qp n sz (h.cells x).1).length=n:=by simp[Qp]
  have hat:∀i,i<n→(Qp n sz (h.cells x).1).getD i []=(((h.cells x).1.drop (i*sz)).take sz):=fun i hi=>by simp[Qp,List.getD_eq_getElem?_getD,hi]
  have hlt:∀i k,i<n→k<sz→i*sz+k<n*sz:=fun i k hi hk=>jg hi hk
  refine .slc (some ⟨b,o,none⟩) n n sz _ b o (fun i k=>xs (i*sz+k)) hcl.symm (Nat.le_refl _) (fun c hc=> ?_) (fun _=>⟨rfl,hF⟩) (fun i k hi hk=> ?_) (fun i k hi hk=> ?_)
  ·simp only[Qp,List.mem_map,List.mem_range]at hc
   obtain⟨i,hi,rfl⟩:=hc
   have:i*sz+sz≤n*sz:=by have:=hlt i (sz - 1) hi (by omega);omega
   simp;omega
  ·rw[hcl]at hi
   have:=hx (i*sz+k) (by have:=hlt i k hi hk;omega)
   exact⟨this.1,this.2.1⟩
  ·rw[hcl]at hi
   have hi2:=hlt i k hi hk
   have h5:=(hx (i*sz+k) (by omega)).2.2
   rw[hat i hi]
   have e1:(((h.cells x).1.drop (i*sz)).take sz).getD k .any=(h.cells x).1.getD (i*sz+k) .any:=by
    simp only[List.getD_eq_getElem?_getD,List.getElem?_take,if_pos hk,List.getElem?_drop]
   rw[e1]
   have h6:((h.cells x).1.getD (i*sz+k) .any).isC'=true:=by
    refine List.all_eq_true.1 h4 _ ?_
    rw[List.getD_eq_getElem?_getD,List.getElem?_eq_getElem (by omega)]
    simp only[Option.getD_some]
    rw[List.mem_take_iff_getElem]
    exact⟨i*sz+k,by omega,rfl⟩
   generalize(h.cells x).1.getD (i*sz+k) .any=y at h5 h6
   cases y<;>first|(cases h6;done)|skip
   rw[h5.inv_c];exact .c _
 ·have:=Go.run_sliceAt_array_all (P:=P) w' t ⟨b,o,none⟩ (by rw[ha,he];exact hu)
  rw[this,he,run_sizeOf hz,ha]
  simp only[Result.andThen,slicedAt,Nat.sub_zero,Nat.zero_mul]
  split<;>rfl
end
end Go.Sx
end
section
set_option maxHeartbeats 1000000
namespace Go.Sx
section
variable {P:Program} {g:Gh} {w w0 w':World} {own0:Own} {h:Heap}
theorem zlZ{x:V}{v:Value}(H:HRel g h w w0 own0)(hv:VRep g w v x)(hc:h.isPtr x=true):∃a,v= .pointer (some a):=by
 obtain⟨b,q,rfl,_⟩:=ziG 0 H hv hc
 exact⟨_,rfl⟩
theorem zqQ{a b v:Value}(h:zaM 2 a b=some v):∃a1 a2 b1 b2 r i,a= .complex .f64 a1 a2∧b= .complex .f64 b1 b2∧FloatKind.f64.format.add a1 b1=some r∧FloatKind.f64.format.add a2 b2=some i∧v= .complex .f64 r i:=by
 unfold zaM at h
 split at h
 ·omega
 ·omega
 ·rename_i a1 a2 b1 b2 _
  split at h
  ·rename_i r i h1 h2
   exact⟨a1,a2,b1,b2,r,i,rfl,rfl,h1,h2,(Option.some.inj h).symm⟩
  ·cases h
 ·omega
 ·omega
 ·cases h
theorem zic(H:HRel g h w w0 own0){op:BinOp}{t:TypeId}{x y:Operand}{x' y':X}{o:O}(hc:Q8 P op t x' y' y=some o){ev:Operand→Value}{ρ:X→V}(hx:VRep g w (ev x) (ρ x'))(hy:VRep g w (ev y) (ρ y'))(hy':∀v,y= .const v→ev y=v)
  (hok:(evP o ρ h).2=true):∃cv,VRep g w cv (evP o ρ h).1∧∀w',(do eqGuard op t x y (ev x) (ev y);binOp op t (ev x) (ev y):Sem Value).run P w'= .ok cv w':=by
 have hbin:∀(hop:op= .add∨op= .sub∨op= .mul∨op= .quo∨op= .rem∨op= .eql∨op= .neq∨op= .lss∨op= .leq∨op= .gtr∨op= .geq∨op= .and),(evP (.bin op x' y') ρ h).2=true→
   ∃cv,VRep g w cv (evP (.bin op x' y') ρ h).1∧∀w',(do eqGuard op t x y (ev x) (ev y);binOp op t (ev x) (ev y):Sem Value).run P w'= .ok cv w':=by
  intro hop hk
  simp only[evP]at hk⊢
  split at hk
  ·rename_i a b ha hb
   rw[ha]at hx;rw[hb]at hy
   have e1:=hx.inv_c
   have e2:=hy.inv_c
   obtain⟨cv,h1,h2⟩:=zxl (P:=P) (t:=t) (x:=x) (y:=y) hop hk
   rw[e1,e2]
   simp only[h1]
   exact⟨cv,VRep.c' _,h2⟩
  ·cases hk
 have key:∀ {kd:TypeDesc},P.underlying t=some kd→XK kd=true→P.eqGuardType P.depth t=false→∀neg,(Zp P 8 t).map (fun ks=>O.eqc neg ks x' y')=some o→op=(if neg then .neq else .eql)→∃cv,VRep g w cv (evP o ρ h).1∧∀w',(do eqGuard op t x y (ev x) (ev y);binOp op t (ev x) (ev y):Sem Value).run P w'= .ok cv w':=by
  intro kd hu ha hg neg hm hop
  subst hop
  simp only[Option.map_eq_some_iff]at hm
  obtain⟨ks,hks,rfl⟩:=hm
  simp only[evP,Bool.and_eq_true,Bool.not_eq_true',List.isEmpty_eq_false_iff]at hok⊢
  exact⟨_,VRep.c' _,fun w'=>zxn hu ha hks hg hx hy hok.1.1.2 hok.1.2 hok.2 hok.1.1.1 w'⟩
 unfold Q8 at hc
 split at hc
 ·cases op<;>simp at hc<;>subst hc<;>exact hbin (by simp) hok
 ·cases op<;>simp at hc<;>subst hc<;>exact hbin (by simp) hok
 ·rename_i hu
  have hb:∀neg,o= .eqb neg x' y'→op=(if neg then .neq else .eql)→∃cv,VRep g w cv (evP o ρ h).1∧∀w',(do eqGuard op t x y (ev x) (ev y);binOp op t (ev x) (ev y):Sem Value).run P w'= .ok cv w':=by
   intro neg ho hop
   subst ho;subst hop
   simp only[evP,Bool.and_eq_true]at hok⊢
   rw[KP hx hok.1,KP hy hok.2]
   exact⟨_,VRep.c' _,fun w'=>zxm hu w'⟩
  cases op<;>simp at hc
  ·exact hb false hc.symm rfl
  ·exact hb true hc.symm rfl
 ·rename_i a b hu
  split at hc
  ·rename_i hg
   cases op<;>first|exact key hu rfl hg false hc rfl|exact key hu rfl hg true hc rfl|cases hc
  ·cases hc
 ·rename_i a hu
  split at hc
  ·rename_i hg
   cases op<;>first|exact key hu rfl hg false hc rfl|exact key hu rfl hg true hc rfl|cases hc
  ·cases hc
 ·rename_i el hu
  have hb:∀neg,o= .isn neg x'→op=(if neg then .neq else .eql)→y= .const (.slice none 0 0)→∃cv,VRep g w cv (evP o ρ h).1∧∀w',(do eqGuard op t x y (ev x) (ev y);binOp op t (ev x) (ev y):Sem Value).run P w'= .ok cv w':=by
   intro neg ho hop hyc
   subst ho;subst hop
   have hyv:=hy' _ hyc
   rw[hyv]
   simp only[evP]at hok⊢
   have hv:∃a n c,ev x= .slice a n c∧h.nilV (ρ x')=some a.isNone:=by
    unfold Heap.nilV at hok⊢
    split at hok
    ·rename_i a n c hx'
     rw[hx']at hx
     exact⟨a,n,c,hx.inv_c,rfl⟩
    ·rename_i sz e es hx'
     rw[hx']at hx
     have hp:=hx.inv_slc
     generalize ev x=vv at hp⊢
     cases hp with
     |slc a n cap _ _ b o xs hn hc hsz ha _ _=>
      obtain⟨rfl,_⟩:=ha (by simp)
      exact⟨_,_,_,rfl,rfl⟩
    ·rename_i j ver off len hx'
     split at hok
     ·rename_i hcur
      rw[hx']at hx
      obtain⟨B,I,hB,hI,hbl,hBv,hIv,hk⟩:=H.cur hcur
      have hr:=hx.inv_ref.2 I hI hIv
      unfold qu at hr
      split at hr
      ·obtain⟨_,_,h0,_⟩:=hr;omega
      ·obtain⟨a,cap,e,h1,h2,h3⟩:=hr
       obtain rfl:=h3 (by omega)
       exact⟨_,_,_,e,by simp[hcur]⟩
     ·cases hok
    ·cases hok
   obtain⟨a,n,c,e,hnv⟩:=hv
   rw[e,hnv]
   have hd:∀d w',(Op.equalIn (d+1) t (.slice a n c) (.slice none 0 0)).run P w'= .ok a.isNone w':=fun d w'=>by
    cases a<;>simp only[Op.equalIn,Sem.run_bind,run_underlying hu,Result.andThen_ok,Sem.run_pure]<;>rfl
   have he:∀(v:Value)(r:Bool),(∀w',(Op.equal t v (.slice none 0 0)).run P w'= .ok r w')→(∀nn x y w',(eqGuard nn t x y v (.slice none 0 0)).run P w'= .ok () w')→((binOp .eql t v (.slice none 0 0))=(do pure (.bool (←Op.equal t v (.slice none 0 0))))∧(binOp .neq t v (.slice none 0 0))=(do pure (.bool (!(←Op.equal t v (.slice none 0 0))))))→
    ∀w',(do eqGuard (if neg then .neq else .eql) t x y v (.slice none 0 0);binOp (if neg then .neq else .eql) t v (.slice none 0 0):Sem Value).run P w'= .ok (.bool (r != neg)) w':=by
    intro v r h1 h2 h3 w'
    obtain⟨e1,e2⟩:=h3
    cases neg
    ·simp only[Bool.false_eq_true,if_false,Sem.run_bind,h2,Result.andThen_ok,e1,h1,Sem.run_pure];cases r<;>rfl
    ·simp only[if_true,Sem.run_bind,h2,Result.andThen_ok,e2,h1,Sem.run_pure];cases r<;>rfl
   exact⟨_,VRep.c' _,he _ _ (fun w'=>hd 9999 w') (fun nn x y w'=>by cases nn<;>rfl) ⟨rfl,rfl⟩⟩
  split at hc<;>simp at hc
  ·exact hb false hc.symm rfl rfl
  ·exact hb true hc.symm rfl rfl
 ·rename_i a b c hu
  have hb:∀neg,o= .eqn neg x'→op=(if neg then .neq else .eql)→y= .const .nilFunc→∃cv,VRep g w cv (evP o ρ h).1∧∀w',(do eqGuard op t x y (ev x) (ev y);binOp op t (ev x) (ev y):Sem Value).run P w'= .ok cv w':=by
   intro neg ho hop hyc
   subst ho;subst hop
   have hyv:=hy' _ hyc
   rw[hyv]
   simp only[evP]at hok⊢
   have he:∀(v:Value)(r:Bool),(∀w',(Op.equal t v .nilFunc).run P w'= .ok r w')→(∀nn x y w',(eqGuard nn t x y v .nilFunc).run P w'= .ok () w')→((binOp .eql t v .nilFunc)=(do pure (.bool (←Op.equal t v .nilFunc)))∧(binOp .neq t v .nilFunc)=(do pure (.bool (!(←Op.equal t v .nilFunc)))))→
    ∀w',(do eqGuard (if neg then .neq else .eql) t x y v .nilFunc;binOp (if neg then .neq else .eql) t v .nilFunc:Sem Value).run P w'= .ok (.bool (r != neg)) w':=by
    intro v r h1 h2 h3 w'
    obtain⟨e1,e2⟩:=h3
    cases neg
    ·simp only[Bool.false_eq_true,if_false,Sem.run_bind,h2,Result.andThen_ok,e1,h1,Sem.run_pure];cases r<;>rfl
    ·simp only[if_true,Sem.run_bind,h2,Result.andThen_ok,e2,h1,Sem.run_pure];cases r<;>rfl
   have hd:∀d(v:Value)(w':World),(∃r,(v= .nilFunc∧r=true)∨(∃f a cs,v= .func f a cs)∧r=false)→∃r,((v= .nilFunc∧r=true)∨(∃f a cs,v= .func f a cs)∧r=false)∧(Op.equalIn (d+1) t v .nilFunc).run P w'= .ok r w':=by
    rintro d v w' ⟨r,⟨rfl,rfl⟩|⟨⟨f,a,cs,rfl⟩,rfl⟩⟩
    ·exact⟨true,.inl ⟨rfl,rfl⟩,by simp only[Op.equalIn,Sem.run_bind,run_underlying hu,Result.andThen_ok,Sem.run_pure]⟩
    ·exact⟨false,.inr ⟨⟨f,a,cs,rfl⟩,rfl⟩,by simp only[Op.equalIn,Sem.run_bind,run_underlying hu,Result.andThen_ok,Sem.run_pure]⟩
   split at hok
   ·rename_i hx'
    rw[hx']at hx
    have e:=hx.inv_c
    rw[e,hx']
    refine⟨_,VRep.c' _,he .nilFunc true (fun w'=> ?_) (fun nn x y w'=>by cases nn<;>rfl) ⟨rfl,rfl⟩⟩
    obtain⟨r,hr,h⟩:=hd 9999 .nilFunc w' ⟨true,.inl ⟨rfl,rfl⟩⟩
    rcases hr with⟨_,rfl⟩|⟨⟨f,a,cs,hh⟩,_⟩
    ·exact h
    ·cases hh
   ·rename_i f caps hx'
    rw[hx']at hx
    obtain⟨cs,e,_⟩:=hx.inv_fn
    rw[e,hx']
    refine⟨_,VRep.c' _,he _ false (fun w'=> ?_) (fun nn x y w'=>by cases nn<;>rfl) ⟨rfl,rfl⟩⟩
    obtain⟨r,hr,h⟩:=hd 9999 (.func (.func f) #[] cs) w' ⟨false,.inr ⟨⟨_,_,_,rfl⟩,rfl⟩⟩
    rcases hr with⟨hh,_⟩|⟨_,rfl⟩
    ·cases hh
    ·exact h
   ·cases hok
  split at hc<;>simp at hc
  ·exact hb false hc.symm rfl rfl
  ·exact hb true hc.symm rfl rfl
 ·split at hc
  ·obtain rfl:=Option.some.inj hc
   simp only[evP]at hok⊢
   split at hok
   ·rename_i a b ha hb
    rw[ha]at hx
    rw[hb]at hy
    split at hok
    ·rename_i v hv
     obtain⟨a1,a2,b1,b2,r,i,rfl,rfl,h1,h2,rfl⟩:=zqQ hv
     refine⟨_,VRep.c' _,fun w'=> ?_⟩
     rw[hx.inv_c,hy.inv_c]
     simp[eqGuard,binOp,Op.complexOp,Op.Complex.arith,Op.floatArith,h1,h2]
    ·cases hok
   ·cases hok
  ·cases hc
 ·cases hc
end
end Go.Sx
end
