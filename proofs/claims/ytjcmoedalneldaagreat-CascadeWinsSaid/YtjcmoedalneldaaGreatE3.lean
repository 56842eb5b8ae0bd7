/- Part of the proof of CascadeWins. No condition. -/
import Derived.Test.YtjcmoedalneldaaGreatE2
section
set_option maxHeartbeats 1000000
namespace Go.Sx
def zA{α β:Type}(f:α→Option β):List α→Option (List β)
 | []=>some []
 |x::r=>match f x,zA f r with
  |some y,some ys=>some (y::ys)
  |_,_=>none
def res(S:Nat→Bool)(h:Heap):Nat→V→Option V
 |0,_=>none
 |n+1,v=>match v with
  | .any=>some .any
  | .c u=>some (.c u)
  | .slc sz es=>some (.slc sz es)
  | .pp cs=>some (.pp cs)
  | .agg cs=>(zA (res S h n) cs).map .agg
  | .tup cs=>(zA (res S h n) cs).map .tup
  | .fn f cs=>(zA (res S h n) cs).map (.fn f)
  | .ref j ver off len=>if S j&&h.cur j ver&&decide (off+len≤(h.blk j).es.length)then(zA (zA (res S h n)) (((h.blk j).es.drop off).take len)).map (.slc (h.blk j).sz)else none
  | .ptr j ver i o=>if S j&&h.cur j ver&&decide (i<(h.blk j).es.length)then(zA (res S h n) (((h.blk j).es.getD i (h.blk j).d).drop o)).map .pp else none
  | .gd _ _=>none
  | .mp ks vs=>(zA (res S h n) vs).map (.mp ks)
def Heap.freeze(h:Heap)(S:Nat→Bool):Heap:=⟨h.bs.mapIdx fun j B=>⟨B.ver,B.sz,B.es,B.fz||S j,B.d⟩,h.clk⟩
def FZ(g:Gh)(S:Nat→Bool)(b:Nat):Prop:=g.F b∨∃j I,g.inf[j]? =some I∧I.blk=some b∧S j=true
def kj(P:Program)(f:FuncId):Bool:=(P.funcs[f]?).any fun fn=>fn.body.isSome&& !(fn.name== "runtime.NumGoroutine")
def zf(P:Program)(f:FuncId)(args:List V)(r:V):Prop:=
 kj P f=true∧∀(F:Nat→Prop)(w:World)(cargs:Array Value),FOK F w→cargs.size=args.length→(∀i,i<args.length→PRep F w (cargs.getD i undef) (args.getD i .any))→
  Calls P f cargs w fun e w'=>∃cv,e= .returned cv∧Grow w w'∧PRep (fun b=>F b∨(w.heap.size≤b∧b<w'.heap.size)) w' cv r
def ja(P:Program)(f:FuncId)(args:List V)(h:Heap)(cv:Value):Prop:=
 kj P f=true∧∀g w w0 own0(cargs:Array Value),HRel g h w w0 own0→cargs.size=args.length→(∀i,i<args.length→VRep g w (cargs.getD i undef) (args.getD i .any))→
  Calls P f cargs w fun e w'=>e= .returned cv∧Grow w w'
def zQ(P:Program)(f:FuncId)(args:List V)(h:Heap)(r:V)(h':Heap):Prop:=
 kj P f=true∧∀g w w0 own0(cargs:Array Value),HRel g h w w0 own0→cargs.size=args.length→(∀i,i<args.length→VRep g w (cargs.getD i undef) (args.getD i .any))→
  Calls P f cargs w fun e w'=>∃g' cv,e= .returned cv∧HRel g' h' w' w0 own0∧Ext g w g' w'∧VRep g' w' cv r
def ZL(P:Program)(f:FuncId)(args:List V)(sz:Nat)(_d:List V)(es:List (List V)):Prop:=
 kj P f=true∧∀(F:Nat→Prop)(w:World)(cargs:Array Value),FOK F w→cargs.size=args.length→(∀i,i<args.length→PRep F w (cargs.getD i undef) (args.getD i .any))→
  Calls P f cargs w fun e w'=>∃cv I F',e= .returned cv∧Grow w w'∧(∀b,F b→F' b)∧(∀b,F' b→F b∨(w.heap.size≤b∧b<w'.heap.size))∧I.sz=sz∧qu I 0 es.length cv∧(∀e∈es,e.length=sz)∧(I.blk=none→es= [])∧
   ∀b,I.blk=some b→w.heap.size≤b∧¬F' b∧∃cur el,qw w' b cur el∧cur.size=I.cap*sz∧es.length≤I.cap∧I.cap≤maxLen∧
    ∀i k,i<es.length→k<sz→(cur.getD (i*sz+k) undef).oneCell'=true∧PRep F' w' (cur.getD (i*sz+k) undef) ((es.getD i []).getD k .any)
section
variable {P:Program} {N:Nat} {g g':Gh} {e:Nat→V} {h h':Heap} {w w' w0:World} {own0:Own} {a:Act} {S:Nat→Bool}
theorem ky{α β:Type}{f:α→Option β}:∀ {l:List α}{l':List β},zA f l=some l'→l.length=l'.length∧∀(i:Nat)(x:α),l[i]? =some x→∃y,l'[i]? =some y∧f x=some y
 | [],l',h=>by simp[zA]at h;subst h;simp
 |x::l,l',h=>by
  simp only[zA]at h
  split at h
  ·rename_i y ys hy hys
   obtain rfl:=Option.some.inj h
   obtain⟨h1,h2⟩:=ky hys
   refine⟨by simp[h1],fun i z hz=> ?_⟩
   cases i with
   |zero=>simp at hz;subst hz;exact⟨y,rfl,hy⟩
   |succ i=>simpa using h2 i z (by simpa using hz)
  ·cases h
theorem JL{α:Type}{f:α→Option α}:∀ {l:List α},(∀x∈l,f x=some x)→zA f l=some l
 | [],_=>rfl
 |x::l,h=>by
  have h1:=h x (by simp)
  have h2:=JL (f:=f) (l:=l) fun y hy=>h y (by simp[hy])
  simp only[zA,h1,h2]
theorem kE{f:V→Option V}{l l':List V}(hm:zA f l=some l'){i:Nat}(hi:i<l'.length):f (l.getD i .any)=some (l'.getD i .any):=by
 obtain⟨h1,h2⟩:=ky hm
 have hi':i<l.length:=by omega
 obtain⟨y,hy,hfy⟩:=h2 i l[i] (List.getElem?_eq_getElem hi')
 simp[List.getD_eq_getElem?_getD,hi',hy,hfy]
theorem jL(H:HRel g h w w0 own0):∀(n:Nat){v:Value}{x y:V},VRep g w v x→res S h n x=some y→PRep (FZ g S) w v y
 |0,v,x,y,_,hr=>by simp[res]at hr
 |n+1,v,x,y,hv,hr=>by
  have up:∀ {u:Value}{z:V},PRep g.F w u z→PRep (FZ g S) w u z:=fun h=>h.mono (fun b hb=>.inl hb) (fun _ _=>rfl)
  cases x with
  |any=>simp[res]at hr;subst hr;exact .any v
  |c u=>simp[res]at hr;subst hr;rw[hv.inv_c];exact .c u
  |slc sz es=>simp[res]at hr;subst hr;exact up hv.inv_slc
  |pp cs=>simp[res]at hr;subst hr;exact up hv.inv_pp
  |agg cs=>
   simp only[res,Option.map_eq_some_iff]at hr
   obtain⟨ys,hys,rfl⟩:=hr
   obtain⟨cs',rfl,h1,h2,h3⟩:=hv.inv_agg
   have hl:=(ky hys).1
   exact .agg cs' ys (by omega) (fun i hi=>h2 i (by omega)) (fun i hi=>jL H n (h3 i (by omega)) (kE hys hi))
  |tup cs=>
   simp only[res,Option.map_eq_some_iff]at hr
   obtain⟨ys,hys,rfl⟩:=hr
   obtain⟨cs',rfl,h1,h3⟩:=hv.inv_tup
   have hl:=(ky hys).1
   exact .tup cs' ys (by omega) (fun i hi=>jL H n (h3 i (by omega)) (kE hys hi))
  |fn f cs=>
   simp only[res,Option.map_eq_some_iff]at hr
   obtain⟨ys,hys,rfl⟩:=hr
   obtain⟨cs',rfl,h1,h3⟩:=hv.inv_fn
   have hl:=(ky hys).1
   exact .fn f ys cs' (by omega) (fun i hi=>jL H n (h3 i (by omega)) (kE hys hi))
  |gd b z=>simp[res]at hr
  |mp ks vs=>
   simp only[res,Option.map_eq_some_iff]at hr
   obtain⟨ys,hys,rfl⟩:=hr
   obtain⟨r,es,clk,ix,iy,rfl,hF,ho,hl,hx,hy,hd,h3⟩:=hv.inv_mp
   have hl2:=(ky hys).1
   exact .mp r es clk ks ys ix iy (.inl hF) ho (by omega) hx hy hd (fun i hi=>jL H n (h3 i hi) (kE hys (by have:=(hx i hi).1;omega)))
  |ptr j ver i o=>
   simp only[res]at hr
   split at hr
   ·rename_i hc
    simp only[Bool.and_eq_true,decide_eq_true_eq]at hc
    simp only[Option.map_eq_some_iff]at hr
    obtain⟨ys,hys,rfl⟩:=hr
    obtain⟨B,I,hB,hI,hbl,hBv,hIv,hk⟩:=H.cur hc.1.2
    obtain⟨b,hb,rfl⟩:=hv.inv_ptr.2 I hI hIv
    rw[hbl]at hys hc
    rw[JE hc.2 B.d]at hys
    have hl:=(ky hys).1
    have hlen:(B.es.getD i []).length=B.sz:=hk.len _ (by rw[List.getD_eq_getElem?_getD,List.getElem?_eq_getElem hc.2];exact List.getElem_mem _)
    rw[List.length_drop,hlen]at hl
    obtain⟨xs,hxs⟩:=(hk.here b hb).cell
    refine .pp b _ ys (fun k=>xs i (o+k)) (.inr ⟨j,I,hI,hb,hc.1.1⟩) (fun k hk'=> ?_) (fun k hk'=> ?_)
    ·have:=hxs i (o+k) hc.2 (by omega)
     rw[hk.sz,Nat.add_assoc];exact⟨this.1,this.2.1⟩
    ·have h3:=(hxs i (o+k) hc.2 (by omega)).2.2
     refine jL H n h3 ?_
     have:=kE hys hk'
     simpa[List.getD_eq_getElem?_getD]using this
   ·cases hr
  |ref j ver off len=>
   simp only[res]at hr
   split at hr
   ·rename_i hc
    simp only[Bool.and_eq_true,decide_eq_true_eq]at hc
    simp only[Option.map_eq_some_iff]at hr
    obtain⟨ys,hys,rfl⟩:=hr
    obtain⟨B,I,hB,hI,hbl,hBv,hIv,hk⟩:=H.cur hc.1.2
    have hr:=hv.inv_ref.2 I hI hIv
    rw[hbl]at hys hc⊢
    obtain⟨hl,hys2⟩:=ky hys
    have hlen:((B.es.drop off).take len).length=len:=by simp;omega
    rw[hlen]at hl
    have helem:∀(i:Nat),i<len→∃zs,ys[i]? =some zs∧zA (res S h n) (B.es.getD (off+i) [])=some zs:=by
     intro i hi
     have hi':off+i<B.es.length:=by omega
     obtain⟨zs,h1,h2⟩:=hys2 i (B.es[off+i]) (by simp[hi,hi'])
     exact⟨zs,h1,by simpa[List.getD_eq_getElem?_getD,hi']using h2⟩
    have hysl:∀zs∈ys,zs.length=B.sz:=by
     intro zs hzs
     obtain⟨i,hi,rfl⟩:=List.mem_iff_getElem.1 hzs
     obtain⟨zs,h1,h2⟩:=helem i (by omega)
     rw[List.getElem?_eq_getElem hi]at h1
     obtain rfl:=Option.some.inj h1
     rw[←(ky h2).1]
     have hi':off+i<B.es.length:=by omega
     exact hk.len _ (by rw[List.getD_eq_getElem?_getD,List.getElem?_eq_getElem hi'];exact List.getElem_mem _)
    unfold qu at hr
    split at hr
    ·obtain⟨a,rfl,rfl,rfl⟩:=hr
     exact .slc a 0 0 _ ys 0 0 (fun _ _=>undef) hl (Nat.le_refl _) hysl (by omega) (by omega) (by omega)
    ·rename_i b hb
     obtain⟨a,cap,rfl,h1,h2,h3⟩:=hr
     obtain⟨xs,hxs⟩:=(hk.here b hb).cell
     refine .slc a len cap _ ys b (off*I.sz) (fun i k=>xs (off+i) k) hl h1 hysl (fun h0=>⟨h3 (by omega),.inr ⟨j,I,hI,hb,hc.1.1⟩⟩) (fun i k hi hk'=> ?_) (fun i k hi hk'=> ?_)
     ·have:=hxs (off+i) k (by omega) hk'
      rw[hk.sz,show off*B.sz+(i*B.sz+k)=(off+i)*B.sz+k by rw[Nat.add_mul];omega]
      exact⟨this.1,this.2.1⟩
     ·have h4:=(hxs (off+i) k (by omega) hk').2.2
      obtain⟨zs,h5,h6⟩:=helem i (by omega)
      have h7:ys.getD i []=zs:=by simp[List.getD_eq_getElem?_getD,h5]
      rw[h7]
      have hzl:k<zs.length:=by rw[hysl zs (List.mem_of_getElem? h5)];exact hk'
      exact jL H n h4 (kE h6 hzl)
   ·cases hr
theorem Ql(H:HRel g h w w0 own0){b:Nat}(hb:FZ g S b):b<w.heap.size:=by
 rcases hb with hb|⟨j,I,hI,hIb,_⟩
 ·exact H.Flt b hb
 ·exact H.blt hI hIb
theorem Jj(H:HRel g h w w0 own0){n:Nat}{args args':List V}(hr:zA (res S h n) args=some args'){cargs:Array Value}(hs:cargs.size=args.length)(hv:∀i,i<args.length→VRep g w (cargs.getD i undef) (args.getD i .any)):
  cargs.size=args'.length∧∀i,i<args'.length→PRep (FZ g S) w (cargs.getD i undef) (args'.getD i .any):=by
 have hl:=(ky hr).1
 exact⟨by omega,fun i hi=>jL H n (hv i (by omega)) (kE hr hi)⟩
theorem ja.of{f:FuncId}{args args':List V}{cv:Value}{n:Nat}(c:zf P f args' (.c cv))(hr:zA (res (fun _=>true) h n) args=some args'):ja P f args h cv:=by
 refine⟨c.1,fun g w w0 own0 cargs H hs hv=> ?_⟩
 obtain⟨h1,h2⟩:=Jj H hr hs hv
 refine(c.2 (FZ g fun _=>true) w cargs ⟨fun b hb=>Ql H hb,H.glbw.mono (fun b hb=>.inl hb) fun _ _=>rfl⟩ h1 h2).mono fun e w' he=> ?_
 obtain⟨cv',rfl,hg,hp⟩:=he
 cases hp
 exact⟨rfl,hg⟩
theorem zQ.of_q{f:FuncId}{args:List V}{cv:Value}(c:ja P f args h cv):zQ P f args h (.c cv) h:=by
 refine⟨c.1,fun g w w0 own0 cargs H hs hv=> ?_⟩
 refine(c.2 g w w0 own0 cargs H hs hv).mono fun e w' he=> ?_
 obtain⟨rfl,hg⟩:=he
 obtain⟨h1,h2⟩:=H.grow' hg
 exact⟨g,cv,rfl,h2,h1,VRep.c' _⟩
theorem zQ.of_p{f:FuncId}{args args':List V}{r:V}{n:Nat}(S:Nat→Bool)(c:zf P f args' r)(hr:zA (res S h n) args=some args'):zQ P f args h r (h.freeze S):=by
 refine⟨c.1,fun g w w0 own0 cargs H hs hv=> ?_⟩
 obtain⟨h1,h2⟩:=Jj H hr hs hv
 refine(c.2 (FZ g S) w cargs ⟨fun b hb=>Ql H hb,H.glbw.mono (fun b hb=>.inl hb) fun _ _=>rfl⟩ h1 h2).mono fun e w' he=> ?_
 obtain⟨cv,rfl,hg,hp⟩:=he
 have hF':∀b,g.F b→(FZ g S b∨(w.heap.size≤b∧b<w'.heap.size)):=fun b hb=>.inl (.inl hb)
 have hlt:∀b,(FZ g S b∨(w.heap.size≤b∧b<w'.heap.size))→b<w'.heap.size:=fun b hb=>by
  rcases hb with hb|hb
  ·exact Nat.lt_of_lt_of_le (Ql H hb) hg.size
  ·exact hb.2
 have ex:Ext g w ⟨fun b=>FZ g S b∨(w.heap.size≤b∧b<w'.heap.size),g.inf,g.us⟩ w':=⟨⟨hF',fun b hb=>hg.block b (H.Flt b hb),fun _ _ h=>h,fun _ _ h _=>h⟩,fun _ _ h=>.inl h⟩
 refine⟨⟨fun b=>FZ g S b∨(w.heap.size≤b∧b<w'.heap.size),g.inf,g.us⟩,cv,rfl,?_,ex,.p _ _ hp⟩
 refine⟨H.clk,by simp[Heap.freeze,H.len],fun j B I hB hI=> ?_,H.vlt,H.dist,hlt,H.own,H.frm.grow hg,fun b hb=> ?_,H.ext.trans ex,H.glb⟩
 simp only[Heap.freeze,List.getElem?_mapIdx,Option.map_eq_some_iff]at hB
 obtain⟨B0,hB0,rfl⟩:=hB
 have hk:=H.ok j B0 I hB0 hI
 refine⟨hk.ver,hk.sz,hk.len,hk.gone,fun b hb=> ?_,fun b hb hf=> ?_,fun b hb hf hF=> ?_⟩
 ·exact(hk.here b hb).mono ex (hg.block b (H.blt hI hb))
 ·simp only[Bool.or_eq_true]at hf
  rcases hf with hf|hf
  ·exact .inl (.inl (hk.fz b hb hf))
  ·exact .inl (.inr ⟨j,I,hI,hb,hf⟩)
 ·simp only[Bool.or_eq_false_iff]at hf
  rcases hF with(hF|⟨k,J,hJ,hJb,hS⟩)|hF
  ·exact hk.nf b hb hf.1 hF
  ·have:=H.dist j k I J b hI hJ hb hJb
   subst this
   rw[hf.2]at hS;cases hS
  ·have:=H.blt hI hb;omega
 ·rcases hb with(hb|⟨k,J,hJ,hJb,_⟩)|hb
  ·exact H.fin b hb
  ·exact .inr (H.own k J b hJ hJb)
  ·exact .inr (.inr (Nat.le_trans H.frm.size hb.1))
theorem WB(h:Heap):h.freeze (fun _=>false)=h:=by
 cases h with|mk bs clk=>simp only[Heap.freeze,Bool.or_false];congr 1;apply List.ext_getElem? ;intro i;simp
theorem zQ.of_p0{f:FuncId}{args args':List V}{r:V}{n:Nat}(c:zf P f args' r)(hr:zA (res (fun _=>false) h n) args=some args'):zQ P f args h r h:=by
 have:=zQ.of_p (fun _=>false) c hr
 rwa [WB]at this
theorem zQ.of_f{f:FuncId}{args args':List V}{sz n:Nat}{d:List V}{es:List (List V)}(S:Nat→Bool)(c:ZL P f args' sz d es)(hr:zA (res S h n) args=some args'):
  zQ P f args h (.ref h.bs.length h.clk 0 es.length) ((h.freeze S).alloc sz d es):=by
 refine⟨c.1,fun g w w0 own0 cargs H hs hv=> ?_⟩
 obtain⟨h1,h2⟩:=Jj H hr hs hv
 refine(c.2 (FZ g S) w cargs ⟨fun b hb=>Ql H hb,H.glbw.mono (fun b hb=>.inl hb) fun _ _=>rfl⟩ h1 h2).mono fun e w' he=> ?_
 obtain⟨cv,I,F',rfl,hg,hF,hF',hsz,hro,hlen,hgone,hcell⟩:=he
 have hFlt:∀b,F' b→b<w'.heap.size:=fun b hb=>by
  rcases hF' b hb with hb|hb
  ·exact Nat.lt_of_lt_of_le (Ql H hb) hg.size
  ·exact hb.2
 have ex:Ext g w ⟨F',g.inf,g.us⟩ w':=⟨⟨fun b hb=>hF b (.inl hb),fun b hb=>hg.block b (H.Flt b hb),fun _ _ h=>h,fun _ _ h _=>h⟩,fun _ _ h=>.inl h⟩
 have H1:HRel ⟨F',g.inf,g.us⟩ (h.freeze S) w' w0 own0:=by
  refine⟨H.clk,by simp[Heap.freeze,H.len],fun j B I hB hI=> ?_,H.vlt,H.dist,hFlt,H.own,H.frm.grow hg,fun b hb=> ?_,H.ext.trans ex,H.glb⟩
  ·simp only[Heap.freeze,List.getElem?_mapIdx,Option.map_eq_some_iff]at hB
   obtain⟨B0,hB0,rfl⟩:=hB
   have hk:=H.ok j B0 I hB0 hI
   refine⟨hk.ver,hk.sz,hk.len,hk.gone,fun b hb=> ?_,fun b hb hf=> ?_,fun b hb hf hFb=> ?_⟩
   ·exact(hk.here b hb).mono ex (hg.block b (H.blt hI hb))
   ·simp only[Bool.or_eq_true]at hf
    rcases hf with hf|hf
    ·exact hF b (.inl (hk.fz b hb hf))
    ·exact hF b (.inr ⟨j,I,hI,hb,hf⟩)
   ·simp only[Bool.or_eq_false_iff]at hf
    rcases hF' b hFb with(hFb|⟨k,J,hJ,hJb,hS⟩)|hFb
    ·exact hk.nf b hb hf.1 hFb
    ·have:=H.dist j k I J b hI hJ hb hJb
     subst this
     rw[hf.2]at hS;cases hS
    ·have:=H.blt hI hb;omega
  ·rcases hF' b hb with(hb|⟨k,J,hJ,hJb,_⟩)|hb
   ·exact H.fin b hb
   ·exact .inr (H.own k J b hJ hJb)
   ·exact .inr (.inr (Nat.le_trans H.frm.size hb.1))
 have hclk:(h.freeze S).clk=h.clk:=rfl
 have hbl:(h.freeze S).bs.length=h.bs.length:=by simp[Heap.freeze]
 obtain⟨ex2,H2⟩:=H1.adopt (I:=⟨h.clk,I.blk,I.sz,I.cap⟩) (sz:=sz) (d:=d) (es:=es) rfl hsz (fun b hb=>(hcell b hb).2.1) (fun b j J hb hJ hJb=>by
  have:=H.blt hJ hJb
  have:=(hcell b hb).1
  omega) (fun b hb=>.inr (Nat.le_trans H.frm.size (hcell b hb).1)) hlen hgone (fun b hb=>by
  obtain⟨_,_,cur,el,k1,k2,k3,k4,k5⟩:=hcell b hb
  exact⟨cur,el,k1,k2,k3,k4,fun i k hi hk=>⟨(k5 i k hi hk).1,.p _ _ (k5 i k hi hk).2⟩⟩)
 refine⟨_,cv,rfl,H2,ex.trans ex2,?_⟩
 refine .ref _ _ _ _ _ (.inr ⟨hbl.symm,rfl⟩) fun J hJ _=> ?_
 simp only at hJ
 rw[←hbl,←H1.len]at hJ
 simp at hJ
 subst hJ
 exact hro
theorem zQ.of_f0{f:FuncId}{args args':List V}{sz n:Nat}{d:List V}{es:List (List V)}(c:ZL P f args' sz d es)(hr:zA (res (fun _=>false) h n) args=some args'):
  zQ P f args h (.ref h.bs.length h.clk 0 es.length) (h.alloc sz d es):=by
 have:=zQ.of_f (fun _=>false) c hr
 rwa [WB]at this
theorem zrQ:∀(n:Nat){h h':Heap}{x y:V},res (fun _=>false) h n x=some y→res (fun _=>false) h' n x=some y:=by
 intro n
 induction n with
 |zero=>intro h h' x y hr;cases hr
 |succ n ih=>
  intro h h' x y hr
  have m:∀ {l l':List V},zA (res (fun _=>false) h n) l=some l'→zA (res (fun _=>false) h' n) l=some l':=fun{l}=>by
   induction l with
   |nil=>intro l' h;exact h
   |cons x l ih2=>
    intro l' hm
    simp only[zA]at hm
    split at hm
    ·rename_i y ys hy hys
     obtain rfl:=Option.some.inj hm
     simp only[zA,ih hy,ih2 hys]
    ·cases hm
  cases x with
  |agg cs=>simp only[res,Option.map_eq_some_iff]at hr ⊢;obtain⟨a,ha,rfl⟩:=hr;exact⟨a,m ha,rfl⟩
  |tup cs=>simp only[res,Option.map_eq_some_iff]at hr ⊢;obtain⟨a,ha,rfl⟩:=hr;exact⟨a,m ha,rfl⟩
  |fn f cs=>simp only[res,Option.map_eq_some_iff]at hr ⊢;obtain⟨a,ha,rfl⟩:=hr;exact⟨a,m ha,rfl⟩
  |ref j ver off len=>simp[res]at hr
  |ptr j ver i o=>simp[res]at hr
  |mp ks vs=>simp only[res,Option.map_eq_some_iff]at hr ⊢;obtain⟨a,ha,rfl⟩:=hr;exact⟨a,m ha,rfl⟩
  |_=>exact hr
end
end Go.Sx
end
section
set_option maxHeartbeats 1000000
namespace Go.Sx
def enB(v:V)(want:Bool):Bool:=v.gok&&((asB v.un).1==want)
def yB(e:Nat→V)(xs:List X):Bool:=xs.all fun x=>(val e x).gok
def wpA(P:Program)(a:AOp)(e:Nat→V)(h:Heap)(K:(Nat→V)→Heap→Prop):Prop:=
 match a.g with
 |none=>
  match a.o with
  | .call f xs=>yB e xs=true∧∃r h',zQ P f (xs.map (zi e)) h r h'∧K (zx e a.dst r) h'
  | .callv x xs=>yB e (x::xs)=true∧∃f caps,zi e x= .fn f caps∧∃r h',zQ P f (xs.map (zi e)++caps) h r h'∧K (zx e a.dst r) h'
  |o=>
   if a.pk.isSome||o.still then okP a.pk o e h=true∧K (zx e a.dst (vP a.pk o e h)) h
   else okE o e h=true∧K (zx e a.dst (evE o (zi e) h).1) (evE o (zi e) h).2.1
 |some (t,want)=>
  ((e t).gok=true→(asB (e t).un).2=true)∧
  match a.o with
  | .call f xs=>(∃cv,(enB (e t) want=true→yB e xs=true∧ja P f (xs.map (zi e)) h cv)∧K (zx e a.dst (.gd (enB (e t) want) (.c cv))) h)∨
     ((enB (e t) want=true→yB e xs=true∧∃r h',zQ P f (xs.map (zi e)) h r h'∧K (zx e a.dst r) h')∧(enB (e t) want=false→K (zx e a.dst (.c undef)) h))
  | .callv x xs=>(∃cv,(enB (e t) want=true→yB e (x::xs)=true∧∃f caps,zi e x= .fn f caps∧ja P f (xs.map (zi e)++caps) h cv)∧K (zx e a.dst (.gd (enB (e t) want) (.c cv))) h)∨
     ((enB (e t) want=true→yB e (x::xs)=true∧∃f caps,zi e x= .fn f caps∧∃r h',zQ P f (xs.map (zi e)++caps) h r h'∧K (zx e a.dst r) h')∧(enB (e t) want=false→K (zx e a.dst (.c undef)) h))
  |o=>
   if a.pk.isSome||o.still then(enB (e t) want=true→okP a.pk o e h=true)∧K (zx e a.dst (.gd (enB (e t) want) (vP a.pk o e h))) h
   else(enB (e t) want=true→okE o e h=true∧K (zx e a.dst (evE o (zi e) h).1) (evE o (zi e) h).2.1)∧(enB (e t) want=false→K (zx e a.dst (.c undef)) h)
def W8(P:Program):List AOp→(Nat→V)→Heap→((Nat→V)→Heap→Prop)→Prop
 | [],e,h,K=>K e h
 |a::r,e,h,K=>wpA P a e h fun e h=>W8 P r e h K
def zyr(N:Nat)(o:Oper):Bool:=
 match o.dst with
 |some d=>decide (d<N)
 |none=>true
def zyo(ops:Array Oper)(o:Oper):Option (Option (Nat×Bool)):=
 match o.guard with
 |none=>some none
 |some (j,want)=>((ops[j]?).bind (·.dst)).map fun t=>some (t,want)
def zqu(P:Program)(o:Oper)(g:Option (Nat×Bool)):Option AOp:=
 match zdv o.op with
 |some q=>some ⟨o.dst,g,some q,.mov (.k undef)⟩
 |none=>(zw P o.op).map fun op=>⟨o.dst,g,none,op⟩
def zfj(P:Program)(ops:Array Oper)(N:Nat)(o:Oper):Option AOp:=
 if zyr N o then(zyo ops o).bind (zqu P o)else none
def z3(P:Program)(ops:Array Oper)(N:Nat):List Oper→Option (List AOp)
 | []=>some []
 |o::r=>(zfj P ops N o).bind fun a=>(z3 P ops N r).map fun as=>a::as
section
variable {P:Program} {N:Nat} {g g':Gh} {e:Nat→V} {h h':Heap} {w w' w0:World} {own0:Own} {a:Act} {ops:Array Oper}
structure Comp (P:Program) (ops:Array Oper) (N:Nat) (o:Oper) (b:AOp):Prop where
 dst:b.dst=o.dst
 lt:∀n,b.dst=some n→n<N
 g:(b.g=none∧o.guard=none)∨∃j t want,o.guard=some (j,want)∧(ops[j]?).bind (·.dst)=some t∧b.g=some (t,want)
 pk:zdv o.op=b.pk
 op:b.pk=none→zw P o.op=some b.o
 mv:b.pk≠none→b.o= .mov (.k undef)
theorem Zm{o:Oper}{b:AOp}(h:zfj P ops N o=some b):Comp P ops N o b:=by
 unfold zfj at h
 split at h
 ·rename_i hd
  simp only[Option.bind_eq_some_iff]at h
  obtain⟨gd,hgd,h⟩:=h
  have hg:(gd=none∧o.guard=none)∨∃j t want,o.guard=some (j,want)∧(ops[j]?).bind (·.dst)=some t∧gd=some (t,want):=by
   unfold zyo at hgd
   split at hgd
   ·rename_i hn;simp at hgd;exact .inl ⟨hgd.symm,hn⟩
   ·rename_i j want hj
    simp only[Option.map_eq_some_iff]at hgd
    obtain⟨t,ht,rfl⟩:=hgd
    exact .inr ⟨j,t,want,hj,ht,rfl⟩
  have hlt:∀n,o.dst=some n→n<N:=fun n hn=>by unfold zyr at hd;rw[hn]at hd;simpa using hd
  unfold zqu at h
  split at h
  ·rename_i q hq
   obtain rfl:=Option.some.inj h
   exact⟨rfl,hlt,hg,hq,(fun hh=>by cases hh),fun _=>rfl⟩
  ·rename_i hq
   simp only[Option.map_eq_some_iff]at h
   obtain⟨op,hop,rfl⟩:=h
   exact⟨rfl,hlt,hg,hq,fun _=>hop,fun hh=>absurd rfl hh⟩
 ·cases h
theorem KC(R:Rel N g e h w0 own0 a w){j t:Nat}{want:Bool}{o:Oper}(hg:o.guard=some (j,want))(ht:(ops[j]?).bind (·.dst)=some t)(hb:(e t).gok=true→(asB (e t).un).2=true):
  Region.wanted o (yielded ops a.tmps)=enB (e t) want:=by
 have hv:=R.tm t
 unfold Region.wanted yielded
 simp only[hg,ht,Option.bind_some]
 unfold enB
 cases hgk:(e t).gok with
 |true=>
  have hbv:=KP (hv.un hgk) (hb hgk)
  have hin:a.tmps[t]? =some (a.tmps.getD t undef):=by
   by_cases hlt:t<a.tmps.size
   ·simp[hlt]
   ·rw[show a.tmps.getD t undef=undef by simp[hlt]]at hbv
    cases hbv
  rw[hin,hbv]
  simp
 |false=>
  have hd:=hv.dead hgk
  cases hq:a.tmps[t]? with
  |none=>rfl
  |some u=>
   have:u=undef:=by rw[←hd];simp[hq]
   subst this
   rfl
theorem qR{o:Oper}{f:FuncId}{xs:List X}{c:Call}(ho:o.op= .call c)(hc:qQ P c=some (.call f xs))(R:Rel N g e h w0 own0 a w)(hg:yB e xs=true)(hcl:kj P f=true)(w1:World):
  ∃cargs:Array Value,(execOp a.eval o).run P w1= .ok (.enter f cargs) w1∧cargs.size=(xs.map (zi e)).length∧∀i,i<(xs.map (zi e)).length→VRep g w (cargs.getD i undef) ((xs.map (zi e)).getD i .any):=by
 obtain⟨callee,args,tys⟩:=c
 unfold qQ at hc
 simp only at hc
 split at hc
 ·rename_i f'
  simp only[Option.map_eq_some_iff]at hc
  obtain⟨ys,hy,he⟩:=hc
  injection he with e1 e2
  subst e1;subst e2
  obtain⟨h1,h2⟩:=Ka R.see hy
  unfold kj at hcl
  cases hf:P.funcs[f']? with
  |none=>simp[hf]at hcl
  |some fn=>
   simp only[hf,Option.any_some,Bool.and_eq_true,Bool.not_eq_true']at hcl
   have hb:¬fn.body=none:=fun hb=>by simp[hb]at hcl
   have hn:¬fn.name= "runtime.NumGoroutine" :=by simpa using hcl.2
   refine⟨args.map a.eval,?_,by simpa using h1,fun i hi=> ?_⟩
   ·simp[execOp,ho,resolve,Act.eval,Deferred.ofValue,invoke,callFunc,hf,hn,hb]
   ·simp only[List.length_map]at hi
    have:=h2 i hi
    have hx:(val e (ys[i]'hi)).gok=true:=List.all_eq_true.1 hg _ (List.getElem_mem hi)
    have e3:(ys.map (zi e)).getD i .any=(ys.map (Sx.see e)).getD i .any:=by simp[List.getD_eq_getElem?_getD,hi,Wd hx]
    rw[e3]
    simpa[Array.getD_eq_getD_getElem?,List.getD_eq_getElem?_getD]using this
 ·simp only[Option.bind_eq_some_iff,Option.map_eq_some_iff]at hc;obtain⟨_,_,_,_,he⟩:=hc;cases he
 ·cases hc
 ·split at hc
  ·split at hc<;>simp at hc
  ·simp only[Option.bind_eq_some_iff]at hc
   obtain⟨_,_,_,_,_,_,_,_,_,_,_,_,hc⟩:=hc
   split at hc
   ·simp only[Option.bind_eq_some_iff,Option.map_eq_some_iff,reduceCtorEq,and_false,exists_false]at hc
   ·cases hc
  ·simp only[Option.bind_eq_some_iff,Option.map_eq_some_iff,reduceCtorEq,and_false,exists_false]at hc
  ·simp only[Option.bind_eq_some_iff,Option.map_eq_some_iff,reduceCtorEq,and_false,exists_false]at hc
  ·simp only[Option.bind_eq_some_iff]at hc
   obtain⟨_,_,_,_,_,_,_,_,_,_,hc⟩:=hc
   split at hc
   ·simp only[Option.bind_eq_some_iff,Option.map_eq_some_iff,reduceCtorEq,and_false,exists_false]at hc
   ·cases hc
  ·simp only[Option.bind_eq_some_iff,Option.map_eq_some_iff,reduceCtorEq,and_false,exists_false]at hc
  ·simp only[Option.map_eq_some_iff,reduceCtorEq,and_false,exists_false]at hc
  ·simp only[Option.bind_eq_some_iff]at hc
   obtain⟨_,_,_,_,_,_,hc⟩:=hc
   split at hc
   ·simp only[Option.map_eq_some_iff,reduceCtorEq,and_false,exists_false]at hc
   ·cases hc
  ·cases hc
theorem kB{o:Oper}{x:X}{f:FuncId}{caps:List V}{xs:List X}{c:Call}(ho:o.op= .call c)(hc:qQ P c=some (.callv x xs))(R:Rel N g e h w0 own0 a w)(hg:yB e (x::xs)=true)
  (hx:zi e x= .fn f caps) (hcl:kj P f=true) (w1:World):
  ∃cargs:Array Value,(execOp a.eval o).run P w1= .ok (.enter f cargs) w1∧cargs.size=(xs.map (zi e)++caps).length∧∀i,i<(xs.map (zi e)++caps).length→VRep g w (cargs.getD i undef) ((xs.map (zi e)++caps).getD i .any):=by
 obtain⟨callee,args,tys⟩:=c
 unfold qQ at hc
 simp only at hc
 split at hc
 ·simp at hc
 ·rename_i x' hne
  simp only[Option.bind_eq_some_iff,Option.map_eq_some_iff]at hc
  obtain⟨y,hy,ys,hys,he⟩:=hc
  injection he with e1 e2
  subst e1;subst e2
  obtain⟨h1,h2⟩:=Ka R.see hys
  simp only[yB,List.all_cons,Bool.and_eq_true]at hg
  have hv:=R.see x' y hy
  rw[←Wd hg.1,hx]at hv
  obtain⟨cs,hcs,h3,h4⟩:=hv.inv_fn
  unfold kj at hcl
  cases hf:P.funcs[f]? with
  |none=>simp[hf]at hcl
  |some fn=>
   simp only[hf,Option.any_some,Bool.and_eq_true,Bool.not_eq_true']at hcl
   have hb:¬fn.body=none:=fun hb=>by simp[hb]at hcl
   have hn:¬fn.name= "runtime.NumGoroutine" :=by simpa using hcl.2
   refine⟨args.map a.eval++cs,?_,?_,fun i hi=> ?_⟩
   ·simp[execOp,ho,resolve,hcs,Deferred.ofValue,invoke,callFunc,hf,hn,hb]
   ·have:args.size=ys.length:=by simpa using h1
    simp[this,h3]
   ·have hsz:args.size=ys.length:=by simpa using h1
    simp only[List.length_append,List.length_map]at hi
    by_cases hlt:i<ys.length
    ·have:=h2 i hlt
     have hx':(val e (ys[i]'hlt)).gok=true:=List.all_eq_true.1 hg.2 _ (List.getElem_mem hlt)
     have e3:(ys.map (zi e)++caps).getD i .any=(ys.map (Sx.see e)).getD i .any:=by simp[List.getD_eq_getElem?_getD,List.getElem?_append_left,hlt,Wd hx']
     rw[e3]
     have e4:(args.map a.eval++cs).getD i undef=(args.map a.eval).getD i undef:=by
      simp only[Array.getD_eq_getD_getElem?]
      rw[Array.getElem?_append_left (by simpa[hsz]using hlt)]
     rw[e4]
     simpa[Array.getD_eq_getD_getElem?,List.getD_eq_getElem?_getD]using this
    ·have:=h4 (i - ys.length) (by omega)
     have e3:(ys.map (zi e)++caps).getD i .any=caps.getD (i - ys.length) .any:=by
      simp only[List.getD_eq_getElem?_getD]
      rw[List.getElem?_append_right (by simp;omega)];simp
     rw[e3]
     have e4:(args.map a.eval++cs).getD i undef=cs.getD (i - ys.length) undef:=by
      simp only[Array.getD_eq_getD_getElem?]
      rw[Array.getElem?_append_right (by simp[hsz];omega)];simp[hsz]
     rw[e4];exact this
 ·cases hc
 ·split at hc
  ·split at hc<;>simp at hc
  ·simp only[Option.bind_eq_some_iff]at hc
   obtain⟨_,_,_,_,_,_,_,_,_,_,_,_,hc⟩:=hc
   split at hc
   ·simp only[Option.bind_eq_some_iff,Option.map_eq_some_iff,reduceCtorEq,and_false,exists_false]at hc
   ·cases hc
  ·simp only[Option.bind_eq_some_iff,Option.map_eq_some_iff,reduceCtorEq,and_false,exists_false]at hc
  ·simp only[Option.bind_eq_some_iff,Option.map_eq_some_iff,reduceCtorEq,and_false,exists_false]at hc
  ·simp only[Option.bind_eq_some_iff]at hc
   obtain⟨_,_,_,_,_,_,_,_,_,_,hc⟩:=hc
   split at hc
   ·simp only[Option.bind_eq_some_iff,Option.map_eq_some_iff,reduceCtorEq,and_false,exists_false]at hc
   ·cases hc
  ·simp only[Option.bind_eq_some_iff,Option.map_eq_some_iff,reduceCtorEq,and_false,exists_false]at hc
  ·simp only[Option.map_eq_some_iff,reduceCtorEq,and_false,exists_false]at hc
  ·simp only[Option.bind_eq_some_iff]at hc
   obtain⟨_,_,_,_,_,_,hc⟩:=hc
   split at hc
   ·simp only[Option.map_eq_some_iff,reduceCtorEq,and_false,exists_false]at hc
   ·cases hc
  ·cases hc
end
end Go.Sx
end
section
set_option maxHeartbeats 1000000
namespace Go.Sx
section
variable {P:Program} {N:Nat} {g g':Gh} {e:Nat→V} {h h':Heap} {w w' w0:World} {own0:Own} {a:Act} {ops:Array Oper}
theorem zX{op:Op}{O':O}(hc:zw P op=some O')(hst:O'.calls=true):∃c,op= .call c∧qQ P c=some O':=by
 cases op with
 |call c=>exact⟨c,rfl,by simpa[zw]using hc⟩
 |alloc t=>simp only[zw,Option.bind_eq_some_iff,Option.map_eq_some_iff]at hc;obtain⟨_,_,_,_,rfl⟩:=hc;cases hst
 |box t x=>simp only[zw,Option.bind_eq_some_iff,Option.map_eq_some_iff]at hc;obtain⟨_,_,_,_,rfl⟩:=hc;cases hst
 |buildSlice t n ps=>simp only[zw,Option.bind_eq_some_iff,Option.map_eq_some_iff]at hc;obtain⟨_,_,_,_,_,_,_,_,_,_,rfl⟩:=hc;cases hst
 |store t x y=>simp only[zw,Option.bind_eq_some_iff,Option.map_eq_some_iff]at hc;obtain⟨_,_,_,_,_,_,rfl⟩:=hc;cases hst
 |makeSlice t l c=>simp only[zw,Option.bind_eq_some_iff,Option.map_eq_some_iff]at hc;obtain⟨_,_,_,_,_,_,_,_,_,_,rfl⟩:=hc;cases hst
 |move x=>simp only[zw,Option.map_eq_some_iff]at hc;obtain⟨_,_,rfl⟩:=hc;cases hst
 |assign x=>simp only[zw,Option.map_eq_some_iff]at hc;obtain⟨_,_,rfl⟩:=hc;cases hst
 |nilCheck x=>simp only[zw,Option.map_eq_some_iff]at hc;obtain⟨_,_,rfl⟩:=hc;cases hst
 |unOp op t x=>simp only[zw,Option.map_eq_some_iff]at hc;obtain⟨_,_,rfl⟩:=hc;cases hst
 |extract x i=>simp only[zw,Option.map_eq_some_iff]at hc;obtain⟨_,_,rfl⟩:=hc;cases hst
 |lookup t x k two=>
  simp only[zw]at hc
  split at hc
  ·simp only[Option.bind_eq_some_iff,Option.map_eq_some_iff]at hc;obtain⟨_,_,_,_,_,_,_,_,rfl⟩:=hc;cases hst
  ·cases hc
 |load t x=>
  simp only[zw,Option.bind_eq_some_iff]at hc;obtain⟨_,_,hc⟩:=hc
  rcases Jr hc with⟨_,_,rfl⟩|⟨_,_,_,_,_,rfl⟩<;>cases hst
 |makeInterface t x=>simp only[zw,Option.some.injEq]at hc;subst hc;cases hst
 |panic x=>simp only[zw,Option.some.injEq]at hc;subst hc;cases hst
 |field t x f=>simp only[zw,Option.bind_eq_some_iff,Option.map_eq_some_iff]at hc;obtain⟨_,_,_,_,_,_,rfl⟩:=hc;cases hst
 |fieldAddr t x f=>
  simp only[zw,Option.bind_eq_some_iff]at hc;obtain⟨F,hF,s,hs,hc⟩:=hc
  split at hc
  ·cases hc
  ·simp only[Option.map_eq_some_iff]at hc;obtain⟨_,_,rfl⟩:=hc;cases hst
 |indexAddr t x i=>
  simp only[zw]at hc
  split at hc
  ·simp only[Option.bind_eq_some_iff,Option.map_eq_some_iff]at hc;obtain⟨_,_,_,_,_,_,_,_,rfl⟩:=hc;cases hst
  ·simp only[Option.bind_eq_some_iff,Option.map_eq_some_iff]at hc;obtain⟨_,_,_,_,_,_,rfl⟩:=hc;cases hst
  ·cases hc
 |index t x i=>
  simp only[zw]at hc
  split at hc
  ·simp only[Option.bind_eq_some_iff,Option.map_eq_some_iff]at hc;obtain⟨_,_,_,_,rfl⟩:=hc;cases hst
  ·simp only[Option.bind_eq_some_iff,Option.map_eq_some_iff]at hc;obtain⟨_,_,_,_,_,_,_,_,rfl⟩:=hc;cases hst
  ·cases hc
 |slice t x lo hi mx=>
  cases mx with
  |some m=>obtain⟨_,_,_,_,_,_,_,_,_,_,_,_,_,rfl⟩:=jW hc;cases hst
  |none=>
   simp only[zw]at hc
   split at hc
   ·simp only[Option.bind_eq_some_iff,Option.map_eq_some_iff]at hc;obtain⟨_,_,_,_,_,_,rfl⟩:=hc;cases hst
   ·simp only[Option.bind_eq_some_iff,Option.map_eq_some_iff]at hc;obtain⟨_,_,_,_,_,_,_,_,rfl⟩:=hc;cases hst
   ·split at hc
    ·simp only[Option.bind_eq_some_iff,Option.map_eq_some_iff]at hc;obtain⟨_,_,_,_,rfl⟩:=hc;cases hst
    ·cases hc
   ·cases hc
 |convert s d x=>
  simp only[zw]at hc
  split at hc
  ·simp only[Option.map_eq_some_iff]at hc;obtain⟨_,_,rfl⟩:=hc;cases hst
  ·simp only[Option.map_eq_some_iff]at hc;obtain⟨_,_,rfl⟩:=hc;cases hst
  ·simp only[Option.map_eq_some_iff]at hc;obtain⟨_,_,rfl⟩:=hc;cases hst
  ·simp only[Option.map_eq_some_iff]at hc;obtain⟨_,_,rfl⟩:=hc;cases hst
  ·split at hc
   ·simp only[Option.map_eq_some_iff]at hc;obtain⟨_,_,rfl⟩:=hc;cases hst
   ·cases hc
  ·split at hc
   ·simp only[Option.map_eq_some_iff]at hc;obtain⟨_,_,rfl⟩:=hc;cases hst
   ·cases hc
  ·split at hc
   ·simp only[Option.map_eq_some_iff]at hc;obtain⟨_,_,rfl⟩:=hc;cases hst
   ·cases hc
  ·cases hc
 |makeFunc fn first caps=>
  cases fn with
  |func f=>
   simp only[zw]at hc
   split at hc
   ·simp only[Option.map_eq_some_iff]at hc;obtain⟨_,_,rfl⟩:=hc;cases hst
   ·cases hc
  |_=>simp[zw]at hc
 |build t ps=>
  simp only[zw]at hc
  split at hc
  ·split at hc
   ·simp only[Option.bind_eq_some_iff,Option.map_eq_some_iff]at hc;obtain⟨_,_,_,_,rfl⟩:=hc;cases hst
   ·cases hc
  ·simp only[Option.bind_eq_some_iff,Option.map_eq_some_iff]at hc;obtain⟨_,_,_,_,_,_,_,_,rfl⟩:=hc;cases hst
  ·cases hc
 |binOp op t x y u=>
  simp only[zw,Option.bind_eq_some_iff]at hc;obtain⟨_,_,_,_,hc⟩:=hc
  unfold Q8 at hc
  split at hc
  ·cases op<;>simp at hc<;>subst hc<;>cases hst
  ·cases op<;>simp at hc<;>subst hc<;>cases hst
  ·cases op<;>simp at hc<;>subst hc<;>cases hst
  ·split at hc
   ·split at hc<;>simp at hc<;>(obtain⟨_,_,rfl⟩:=hc;cases hst)
   ·cases hc
  ·split at hc
   ·split at hc<;>simp at hc<;>(obtain⟨_,_,rfl⟩:=hc;cases hst)
   ·cases hc
  ·split at hc<;>simp at hc<;>subst hc<;>cases hst
  ·split at hc<;>simp at hc<;>subst hc<;>cases hst
  ·split at hc<;>simp at hc<;>subst hc<;>cases hst
  ·cases hc
 |_=>simp[zw]at hc
theorem XI{o:Oper}{b:AOp}(C:Comp P ops N o b)(hs:(b.pk.isSome||b.o.still)=true)(R:Rel N g e h w0 own0 a w)(hok:okP b.pk b.o e h=true){next:Act→World→Prop}{Q:Exit→Act→World→Prop}
  (hn:∀cv,VRep g w cv (vP b.pk b.o e h)→next (a.put o.dst cv) w):o.wp P a w next Q:=by
 obtain⟨cv,h1,h2⟩:=za8 C.pk (fun hp=>⟨C.op hp,by simpa[hp]using hs⟩) R hok
 unfold Oper.wp
 rw[h2 w (Grow.refl w)]
 exact hn cv h1
theorem ze4{o:Oper}{b:AOp}(C:Comp P ops N o b)(hp:b.pk=none)(hs:b.o.still=false)(hcl:b.o.calls=false)(R:Rel N g e h w0 own0 a w)(hok:okE b.o e h=true){next:Act→World→Prop}{Q:Exit→Act→World→Prop}
  (hn:∀cv g' w',VRep g' w' cv (evE b.o (zi e) h).1→Ext g w g' w'→HRel g' (evE b.o (zi e) h).2.1 w' w0 own0→next (a.put o.dst cv) w'):o.wp P a w next Q:=by
 obtain⟨cv,w',g',h1,h2,h3,h4⟩:=zAp (C.op hp) hs hcl R hok
 unfold Oper.wp
 rcases h1 with h1|⟨h1,rfl⟩
 ·rw[h1];exact hn cv g' w' h2 h3 h4
 ·rw[h1];exact hn _ g' w' h2 h3 h4
theorem Za{o:Oper}{f:FuncId}{args:List V}{r:V}(hc:zQ P f args h r h')(R:Rel N g e h w0 own0 a w)
  (hx:∀w1,∃cargs:Array Value,(execOp a.eval o).run P w1= .ok (.enter f cargs) w1∧cargs.size=args.length∧∀i,i<args.length→VRep g w (cargs.getD i undef) (args.getD i .any)) {next:Act→World→Prop} {Q:Exit→Act→World→Prop}
  (hn:∀cv g' w',VRep g' w' cv r→Ext g w g' w'→HRel g' h' w' w0 own0→next (a.put o.dst cv) w'):o.wp P a w next Q:=by
 obtain⟨cargs,h1,h2,h3⟩:=hx w
 unfold Oper.wp
 rw[h1]
 simp only[Oper.upon]
 refine(hc.2 g w w0 own0 cargs R.heap h2 h3).mono fun e' w' he=> ?_
 obtain⟨g',cv,rfl,k1,k2,k3⟩:=he
 exact hn cv g' w' k3 k2 k1
theorem YE{o:Oper}{f:FuncId}{args:List V}{cv:Value}(hc:ja P f args h cv)(R:Rel N g e h w0 own0 a w)
  (hx:∀w1,∃cargs:Array Value,(execOp a.eval o).run P w1= .ok (.enter f cargs) w1∧cargs.size=args.length∧∀i,i<args.length→VRep g w (cargs.getD i undef) (args.getD i .any)) {next:Act→World→Prop} {Q:Exit→Act→World→Prop}
  (hn:∀w',Ext g w g w'→HRel g h w' w0 own0→next (a.put o.dst cv) w'):o.wp P a w next Q:=by
 obtain⟨cargs,h1,h2,h3⟩:=hx w
 unfold Oper.wp
 rw[h1]
 simp only[Oper.upon]
 refine(hc.2 g w w0 own0 cargs R.heap h2 h3).mono fun e' w' he=> ?_
 obtain⟨rfl,hg⟩:=he
 obtain⟨k1,k2⟩:=R.heap.grow' hg
 exact hn w' k1 k2
theorem zBy{o:Oper}{b:AOp}(C:Comp P ops N o b)(R:Rel N g e h w0 own0 a w){K:(Nat→V)→Heap→Prop}(hwp:wpA P b e h K){next:Act→World→Prop}{Q:Exit→Act→World→Prop}
  (hK:∀g' e' h' a' w',K e' h'→Rel N g' e' h' w0 own0 a' w'→next a' w'):
  if Region.wanted o (yielded ops a.tmps)then o.wp P a w next Q else next (a.put o.dst undef) w:=by
 have hdst:=C.dst
 have hput:∀ {g' e1 h1 w1 cv v},K (zx e b.dst v) h1→Rel N g' e h1 w0 own0 a w1→e1=e→VRep g' w1 cv v→next (a.put o.dst cv) w1:=fun hk hr _ hv=>by
  rw[←hdst];exact hK _ _ _ _ _ hk (hr.put C.lt hv)
 unfold wpA at hwp
 rcases C.g with⟨hg,hog⟩|⟨j,t,want,hog,hdj,hg⟩
 ·have hw:Region.wanted o (yielded ops a.tmps)=true:=by simp[Region.wanted,hog]
  rw[if_pos hw]
  rw[hg]at hwp
  simp only at hwp
  split at hwp
  ·rename_i f xs ho
   obtain⟨hgk,r,h',hc,hk⟩:=hwp
   have hpk:b.pk=none:=by
    cases hp:b.pk with
    |none=>rfl
    |some q=>have:=C.mv (by rw[hp];simp);rw[ho]at this;cases this
   obtain⟨c,hop,hcc⟩:=zX (C.op hpk) (by rw[ho];rfl)
   rw[ho]at hcc
   exact Za hc R (fun w1=>qR hop hcc R hgk hc.1 w1) fun cv g' w' k1 k2 k3=>hput hk (R.mono k2 k3) rfl k1
  ·rename_i x xs ho
   obtain⟨hgk,f,caps,hx,r,h',hc,hk⟩:=hwp
   have hpk:b.pk=none:=by
    cases hp:b.pk with
    |none=>rfl
    |some q=>have:=C.mv (by rw[hp];simp);rw[ho]at this;cases this
   obtain⟨c,hop,hcc⟩:=zX (C.op hpk) (by rw[ho];rfl)
   rw[ho]at hcc
   exact Za hc R (fun w1=>kB hop hcc R hgk hx hc.1 w1) fun cv g' w' k1 k2 k3=>hput hk (R.mono k2 k3) rfl k1
  ·rename_i n1 n2
   split at hwp
   ·rename_i hs
    exact XI C hs R hwp.1 fun cv hv=>hput hwp.2 R rfl hv
   ·rename_i hs
    simp only[Bool.or_eq_true,not_or,Bool.not_eq_true,Option.isSome_eq_false_iff,Option.isNone_iff_eq_none]at hs
    exact ze4 C hs.1 hs.2 (by cases hb:b.o<;>first|rfl|exact absurd hb (n1 _ _)|exact absurd hb (n2 _ _)) R hwp.1 fun cv g' w' k1 k2 k3=>hput hwp.2 (R.mono k2 k3) rfl k1
 ·rw[hg]at hwp
  simp only at hwp
  obtain⟨hb,hwp⟩:=hwp
  have hw:=KC R hog hdj hb
  rw[hw]
  generalize enB (e t) want=en at*
  have hund:∀ {v:V},en=false→VRep g w undef (.gd en v):=fun he=>.gd _ _ _ (fun h=>by rw[he]at h;cases h) fun _=>rfl
  have hgd:∀ {g' w' cv}{v:V},en=true→VRep g' w' cv v→VRep g' w' cv (.gd en v):=fun he hv=>.gd _ _ _ (fun _=>hv) fun h=>by rw[he]at h;cases h
  split at hwp
  ·rename_i f xs ho
   rcases hwp with hwp|hwp
   rotate_left
   ·cases en with
    |false=>simp only[Bool.false_eq_true,if_false];exact hput (hwp.2 rfl) R rfl (VRep.c' _)
    |true=>
     simp only[if_true]
     obtain⟨hgk,r,h',hc,hk⟩:=hwp.1 rfl
     have hpk:b.pk=none:=by
      cases hp:b.pk with
      |none=>rfl
      |some q=>have:=C.mv (by rw[hp];simp);rw[ho]at this;cases this
     obtain⟨c,hop,hcc⟩:=zX (C.op hpk) (by rw[ho];rfl)
     rw[ho]at hcc
     exact Za hc R (fun w1=>qR hop hcc R hgk hc.1 w1) fun cv g' w' k1 k2 k3=>hput hk (R.mono k2 k3) rfl k1
   obtain⟨cv,hc,hk⟩:=hwp
   cases en with
   |false=>simp only[Bool.false_eq_true,if_false];exact hput hk R rfl (hund rfl)
   |true=>
    simp only[if_true]
    obtain⟨hgk,hc⟩:=hc rfl
    have hpk:b.pk=none:=by
     cases hp:b.pk with
     |none=>rfl
     |some q=>have:=C.mv (by rw[hp];simp);rw[ho]at this;cases this
    obtain⟨c,hop,hcc⟩:=zX (C.op hpk) (by rw[ho];rfl)
    rw[ho]at hcc
    exact YE hc R (fun w1=>qR hop hcc R hgk hc.1 w1) fun w' k1 k2=>hput hk (R.mono k1 k2) rfl (hgd rfl (VRep.c' _))
  ·rename_i x xs ho
   rcases hwp with hwp|hwp
   rotate_left
   ·cases en with
    |false=>simp only[Bool.false_eq_true,if_false];exact hput (hwp.2 rfl) R rfl (VRep.c' _)
    |true=>
     simp only[if_true]
     obtain⟨hgk,f,caps,hx,r,h',hc,hk⟩:=hwp.1 rfl
     have hpk:b.pk=none:=by
      cases hp:b.pk with
      |none=>rfl
      |some q=>have:=C.mv (by rw[hp];simp);rw[ho]at this;cases this
     obtain⟨c,hop,hcc⟩:=zX (C.op hpk) (by rw[ho];rfl)
     rw[ho]at hcc
     exact Za hc R (fun w1=>kB hop hcc R hgk hx hc.1 w1) fun cv g' w' k1 k2 k3=>hput hk (R.mono k2 k3) rfl k1
   obtain⟨cv,hc,hk⟩:=hwp
   cases en with
   |false=>simp only[Bool.false_eq_true,if_false];exact hput hk R rfl (hund rfl)
   |true=>
    simp only[if_true]
    obtain⟨hgk,f,caps,hx,hc⟩:=hc rfl
    have hpk:b.pk=none:=by
     cases hp:b.pk with
     |none=>rfl
     |some q=>have:=C.mv (by rw[hp];simp);rw[ho]at this;cases this
    obtain⟨c,hop,hcc⟩:=zX (C.op hpk) (by rw[ho];rfl)
    rw[ho]at hcc
    exact YE hc R (fun w1=>kB hop hcc R hgk hx hc.1 w1) fun w' k1 k2=>hput hk (R.mono k1 k2) rfl (hgd rfl (VRep.c' _))
  ·rename_i n1 n2
   split at hwp
   ·rename_i hs
    cases en with
    |false=>simp only[Bool.false_eq_true,if_false];exact hput hwp.2 R rfl (hund rfl)
    |true=>simp only[if_true];exact XI C hs R (hwp.1 rfl) fun cv hv=>hput hwp.2 R rfl (hgd rfl hv)
   ·rename_i hs
    simp only[Bool.or_eq_true,not_or,Bool.not_eq_true,Option.isSome_eq_false_iff,Option.isNone_iff_eq_none]at hs
    cases en with
    |false=>simp only[Bool.false_eq_true,if_false];exact hput (hwp.2 rfl) R rfl (VRep.c' _)
    |true=>
     simp only[if_true]
     exact ze4 C hs.1 hs.2 (by cases hb:b.o<;>first|rfl|exact absurd hb (n1 _ _)|exact absurd hb (n2 _ _)) R (hwp.1 rfl).1 fun cv g' w' k1 k2 k3=>hput (hwp.1 rfl).2 (R.mono k2 k3) rfl k1
theorem j9{Q:Exit→Act→World→Prop}:∀ {l:List Oper}{bs:List AOp}{g:Gh}{e:Nat→V}{h:Heap}{a:Act}{w:World}{K:(Nat→V)→Heap→Prop},z3 P ops N l=some bs→Rel N g e h w0 own0 a w→W8 P bs e h K→
  (∀g' e' h' a' w',K e' h'→Rel N g' e' h' w0 own0 a' w'→Q .normal a' w')→wpList P ops Q l a w
 | [],bs,g,e,h,a,w,K,hc,R,hwp,hK=>by
   simp[z3]at hc;subst hc
   exact hK _ _ _ _ _ hwp R
 |o::l,bs,g,e,h,a,w,K,hc,R,hwp,hK=>by
  simp only[z3,Option.bind_eq_some_iff,Option.map_eq_some_iff]at hc
  obtain⟨b,hb,cs,hcs,rfl⟩:=hc
  have:=zBy (Q:=Q) (next:=wpList P ops Q l) (Zm hb) R hwp fun g' e' h' a' w' hk hr=>j9 hcs hr hk hK
  simp only[wpList]
  split at this
  ·rename_i hw;rw[if_pos hw];exact .inl this
  ·rename_i hw;rw[if_neg hw];exact this
end
end Go.Sx
end
section
set_option maxHeartbeats 1000000
namespace Go.Sx
structure Orc (P:Program) where
 pre:FuncId→List V→Heap→Prop
 v:FuncId→List V→Heap→V
 hp:FuncId→List V→Heap→Heap
 ok:∀f args h,pre f args h→zQ P f args h (v f args h) (hp f args h)
 qpre:FuncId→List V→Heap→Prop
 qv:FuncId→List V→Heap→Value
 qok:∀f args h,qpre f args h→ja P f args h (qv f args h)
 flat:FuncId→Bool
 fpre:FuncId→List V→Prop
 fes:FuncId→List V→Nat×List V×List (List V)
 fok:∀f args,fpre f args→ZL P f args (fes f args).1 (fes f args).2.1 (fes f args).2.2
 ppre:FuncId→List V→Prop
 pr:FuncId→List V→V
 pok:∀f args,ppre f args→zf P f args (pr f args)
def Orc.nil(P:Program):Orc P:=⟨fun _ _ _=>False,fun _ _ _=>.any,fun _ _ h=>h,fun _ _ _ h=>h.elim,fun _ _ _=>False,fun _ _ _=>undef,fun _ _ _ h=>h.elim,fun _=>true,fun _ _=>False,fun _ _=>(0,[],[]),fun _ _ h=>h.elim,fun _ _=>False,fun _ _=>.any,fun _ _ h=>h.elim⟩
structure Sum (P:Program) where
 f:FuncId
 D:List V→Prop
 r:List V→V
 ok:∀args,D args→zf P f args (r args)
 flat:Bool
def ya(S:Bool)(h:Heap)(args:List V):Option (List V):=zA (res (fun _=>S) h 12) args
def V.isC:V→Bool
 | .c _=>true
 |_=>false
def V.toC:V→Value
 | .c v=>v
 |_=>undef
theorem V.isC_ok{v:V}(h:v.isC=true):v= .c v.toC:=by cases v<;>first|rfl|cases h
def Sum.pre{P:Program}(s:Sum P)(args:List V)(h:Heap):Prop:=(ya true h args).isSome=true∧s.D ((ya true h args).getD [])
def Sum.v{P:Program}(s:Sum P)(args:List V)(h:Heap):V:=s.r ((ya true h args).getD [])
theorem Ys{α β:Type}{f g:α→Option β}(hfg:∀x y,f x=some y→g x=some y):∀ {l:List α}{l':List β},zA f l=some l'→zA g l=some l':=by
 intro l
 induction l with
 |nil=>intro l' h;exact h
 |cons x l ih=>
  intro l' h
  simp only[zA]at h
  split at h
  ·rename_i y ys hy hys
   obtain rfl:=Option.some.inj h
   simp only[zA,hfg _ _ hy,ih hys]
  ·cases h
theorem zA9:∀(n:Nat){h:Heap}{x y:V},res (fun _=>false) h n x=some y→res (fun _=>true) h n x=some y:=by
 intro n
 induction n with
 |zero=>intro h x y hr;cases hr
 |succ n ih=>
  intro h x y hr
  have m:∀ {l l':List V},zA (res (fun _=>false) h n) l=some l'→zA (res (fun _=>true) h n) l=some l':=fun hm=>Ys (fun a b hab=>ih hab) hm
  cases x with
  |agg cs=>simp only[res,Option.map_eq_some_iff]at hr ⊢;obtain⟨a,ha,rfl⟩:=hr;exact⟨a,m ha,rfl⟩
  |tup cs=>simp only[res,Option.map_eq_some_iff]at hr ⊢;obtain⟨a,ha,rfl⟩:=hr;exact⟨a,m ha,rfl⟩
  |fn f cs=>simp only[res,Option.map_eq_some_iff]at hr ⊢;obtain⟨a,ha,rfl⟩:=hr;exact⟨a,m ha,rfl⟩
  |ref j ver off len=>simp[res]at hr
  |ptr j ver i o=>simp[res]at hr
  |mp ks vs=>simp only[res,Option.map_eq_some_iff]at hr ⊢;obtain⟨a,ha,rfl⟩:=hr;exact⟨a,m ha,rfl⟩
  |_=>exact hr
theorem zcI{h:Heap}{args args':List V}(hr:ya false h args=some args'):ya true h args=some args':=
 Ys (fun _ _ hxy=>zA9 12 hxy) hr
def Sum.hp{P:Program}(s:Sum P)(args:List V)(h:Heap):Heap:=bif (s.v args h).isC then h else bif (ya false h args).isSome then h else h.freeze fun _=>true
theorem Sum.sound{P:Program}(s:Sum P){args:List V}{h:Heap}(hp:s.pre args h):zQ P s.f args h (s.v args h) (s.hp args h):=by
 obtain⟨h1,h2⟩:=hp
 obtain⟨as,ha⟩:=Option.isSome_iff_exists.1 h1
 have hc:=s.ok _ h2
 rw[ha]at hc
 simp only[Option.getD_some]at hc
 have hv:s.v args h=s.r as:=by simp[Sum.v,ha]
 unfold Sum.hp
 rw[hv]
 cases hC:(s.r as).isC with
 |true=>
  simp only[cond_true]
  rw[V.isC_ok hC]at hc⊢
  exact zQ.of_q (ja.of hc ha)
 |false=>
  simp only[cond_false]
  cases hf:ya false h args with
  |none=>simpa using zQ.of_p (fun _=>true) hc ha
  |some bs=>
   have:=zcI hf
   rw[ha]at this
   obtain rfl:=Option.some.inj this
   simpa using zQ.of_p0 hc hf
theorem Sum.qsound{P:Program}(s:Sum P){args:List V}{h:Heap}(hp:s.pre args h)(hC:(s.v args h).isC=true):ja P s.f args h (s.v args h).toC:=by
 obtain⟨h1,h2⟩:=hp
 obtain⟨as,ha⟩:=Option.isSome_iff_exists.1 h1
 have hc:=s.ok _ h2
 rw[ha]at hc
 simp only[Option.getD_some]at hc
 have hv:s.v args h=s.r as:=by simp[Sum.v,ha]
 rw[hv]at hC⊢
 rw[V.isC_ok hC]at hc
 exact ja.of hc ha
def Orc.cons{P:Program}(s:Sum P)(T:Orc P):Orc P where
 pre f args h:=if f=s.f then s.pre args h else T.pre f args h
 v f args h:=if f=s.f then s.v args h else T.v f args h
 hp f args h:=if f=s.f then s.hp args h else T.hp f args h
 ok f args h hp:=by
  by_cases hf:f=s.f
  ·subst hf;simp only[if_true]at hp ⊢;exact s.sound hp
  ·simp only[if_neg hf]at hp ⊢;exact T.ok f args h hp
 qpre f args h:=if f=s.f then s.pre args h∧(s.v args h).isC=true else T.qpre f args h
 qv f args h:=if f=s.f then(s.v args h).toC else T.qv f args h
 qok f args h hp:=by
  by_cases hf:f=s.f
  ·subst hf;simp only[if_true]at hp ⊢;exact s.qsound hp.1 hp.2
  ·simp only[if_neg hf]at hp ⊢;exact T.qok f args h hp
 flat f:=if f=s.f then s.flat else T.flat f
 fpre f args:=if f=s.f then False else T.fpre f args
 fes f args:=T.fes f args
 fok f args hp:=by
  by_cases hf:f=s.f
  ·subst hf;simp only[if_true]at hp
  ·simp only[if_neg hf]at hp;exact T.fok f args hp
 ppre f args:=if f=s.f then s.D args else T.ppre f args
 pr f args:=if f=s.f then s.r args else T.pr f args
 pok f args hp:=by
  by_cases hf:f=s.f
  ·subst hf;simp only[if_true]at hp ⊢;exact s.ok _ hp
  ·simp only[if_neg hf]at hp ⊢;exact T.pok f args hp
theorem Orc.ppre_cons{P:Program}(s:Sum P)(T:Orc P)(f:FuncId)(args:List V):(Orc.cons s T).ppre f args=if f=s.f then s.D args else T.ppre f args:=rfl
theorem Orc.pr_cons{P:Program}(s:Sum P)(T:Orc P)(f:FuncId)(args:List V):(Orc.cons s T).pr f args=if f=s.f then s.r args else T.pr f args:=rfl
theorem Orc.fpre_cons{P:Program}(s:Sum P)(T:Orc P)(f:FuncId)(args:List V):(Orc.cons s T).fpre f args=if f=s.f then False else T.fpre f args:=rfl
theorem Orc.fes_cons{P:Program}(s:Sum P)(T:Orc P)(f:FuncId)(args:List V):(Orc.cons s T).fes f args=T.fes f args:=rfl
theorem Orc.flat_cons{P:Program}(s:Sum P)(T:Orc P)(f:FuncId):(Orc.cons s T).flat f=if f=s.f then s.flat else T.flat f:=rfl
theorem Orc.pre_cons{P:Program}(s:Sum P)(T:Orc P)(f:FuncId)(args:List V)(h:Heap):(Orc.cons s T).pre f args h=if f=s.f then s.pre args h else T.pre f args h:=rfl
theorem Orc.v_cons{P:Program}(s:Sum P)(T:Orc P)(f:FuncId)(args:List V)(h:Heap):(Orc.cons s T).v f args h=if f=s.f then s.v args h else T.v f args h:=rfl
theorem Orc.hp_cons{P:Program}(s:Sum P)(T:Orc P)(f:FuncId)(args:List V)(h:Heap):(Orc.cons s T).hp f args h=if f=s.f then s.hp args h else T.hp f args h:=rfl
theorem Orc.qpre_cons{P:Program}(s:Sum P)(T:Orc P)(f:FuncId)(args:List V)(h:Heap):(Orc.cons s T).qpre f args h=if f=s.f then s.pre args h∧(s.v args h).isC=true else T.qpre f args h:=rfl
theorem Orc.qv_cons{P:Program}(s:Sum P)(T:Orc P)(f:FuncId)(args:List V)(h:Heap):(Orc.cons s T).qv f args h=if f=s.f then(s.v args h).toC else T.qv f args h:=rfl
structure ESum (P:Program) where
 f:FuncId
 pre:List V→Heap→Prop
 v:List V→Heap→V
 hp:List V→Heap→Heap
 ok:∀args h,pre args h→zQ P f args h (v args h) (hp args h)
def Orc.econs{P:Program}(s:ESum P)(T:Orc P):Orc P where
 pre f args h:=if f=s.f then s.pre args h else T.pre f args h
 v f args h:=if f=s.f then s.v args h else T.v f args h
 hp f args h:=if f=s.f then s.hp args h else T.hp f args h
 ok f args h hp:=by
  by_cases hf:f=s.f
  ·subst hf;simp only[if_true]at hp ⊢;exact s.ok _ _ hp
  ·simp only[if_neg hf]at hp ⊢;exact T.ok f args h hp
 qpre f args h:=if f=s.f then False else T.qpre f args h
 qv f args h:=T.qv f args h
 qok f args h hp:=by
  by_cases hf:f=s.f
  ·subst hf;simp only[if_true]at hp
  ·simp only[if_neg hf]at hp;exact T.qok f args h hp
 flat f:=if f=s.f then false else T.flat f
 fpre f args:=if f=s.f then False else T.fpre f args
 fes f args:=T.fes f args
 fok f args hp:=by
  by_cases hf:f=s.f
  ·subst hf;simp only[if_true]at hp
  ·simp only[if_neg hf]at hp;exact T.fok f args hp
 ppre f args:=if f=s.f then False else T.ppre f args
 pr f args:=T.pr f args
 pok f args hp:=by
  by_cases hf:f=s.f
  ·subst hf;simp only[if_true]at hp
  ·simp only[if_neg hf]at hp;exact T.pok f args hp
theorem Orc.ppre_econs{P:Program}(s:ESum P)(T:Orc P)(f:FuncId)(args:List V):(Orc.econs s T).ppre f args=if f=s.f then False else T.ppre f args:=rfl
theorem Orc.pr_econs{P:Program}(s:ESum P)(T:Orc P)(f:FuncId)(args:List V):(Orc.econs s T).pr f args=T.pr f args:=rfl
theorem Orc.fpre_econs{P:Program}(s:ESum P)(T:Orc P)(f:FuncId)(args:List V):(Orc.econs s T).fpre f args=if f=s.f then False else T.fpre f args:=rfl
theorem Orc.fes_econs{P:Program}(s:ESum P)(T:Orc P)(f:FuncId)(args:List V):(Orc.econs s T).fes f args=T.fes f args:=rfl
theorem Orc.flat_econs{P:Program}(s:ESum P)(T:Orc P)(f:FuncId):(Orc.econs s T).flat f=if f=s.f then false else T.flat f:=rfl
theorem Orc.pre_econs{P:Program}(s:ESum P)(T:Orc P)(f:FuncId)(args:List V)(h:Heap):(Orc.econs s T).pre f args h=if f=s.f then s.pre args h else T.pre f args h:=rfl
theorem Orc.v_econs{P:Program}(s:ESum P)(T:Orc P)(f:FuncId)(args:List V)(h:Heap):(Orc.econs s T).v f args h=if f=s.f then s.v args h else T.v f args h:=rfl
theorem Orc.hp_econs{P:Program}(s:ESum P)(T:Orc P)(f:FuncId)(args:List V)(h:Heap):(Orc.econs s T).hp f args h=if f=s.f then s.hp args h else T.hp f args h:=rfl
theorem Orc.qpre_econs{P:Program}(s:ESum P)(T:Orc P)(f:FuncId)(args:List V)(h:Heap):(Orc.econs s T).qpre f args h=if f=s.f then False else T.qpre f args h:=rfl
theorem Orc.qv_econs{P:Program}(s:ESum P)(T:Orc P)(f:FuncId)(args:List V)(h:Heap):(Orc.econs s T).qv f args h=T.qv f args h:=rfl
structure FSum (P:Program) where
 f:FuncId
 D:List V→Prop
 sz:Nat
 d:List V
 r:List V→List (List V)
 ok:∀args,D args→ZL P f args sz d (r args)
def FSum.pre{P:Program}(s:FSum P)(args:List V)(h:Heap):Prop:=(ya true h args).isSome=true∧s.D ((ya true h args).getD [])
def FSum.v{P:Program}(s:FSum P)(args:List V)(h:Heap):V:=.ref h.bs.length h.clk 0 (s.r ((ya true h args).getD [])).length
def FSum.hp{P:Program}(s:FSum P)(args:List V)(h:Heap):Heap:=(bif (ya false h args).isSome then h else h.freeze fun _=>true).alloc s.sz s.d (s.r ((ya true h args).getD []))
theorem FSum.sound{P:Program}(s:FSum P){args:List V}{h:Heap}(hp:s.pre args h):zQ P s.f args h (s.v args h) (s.hp args h):=by
 obtain⟨h1,h2⟩:=hp
 obtain⟨as,ha⟩:=Option.isSome_iff_exists.1 h1
 have hc:=s.ok _ h2
 unfold FSum.v FSum.hp
 rw[ha]at hc⊢
 simp only[Option.getD_some]at hc⊢
 cases hf:ya false h args with
 |none=>simpa using zQ.of_f (fun _=>true) hc ha
 |some bs=>
  have:=zcI hf
  rw[ha]at this
  obtain rfl:=Option.some.inj this
  simpa using zQ.of_f0 hc hf
def Orc.fcons{P:Program}(s:FSum P)(T:Orc P):Orc P where
 pre f args h:=if f=s.f then s.pre args h else T.pre f args h
 v f args h:=if f=s.f then s.v args h else T.v f args h
 hp f args h:=if f=s.f then s.hp args h else T.hp f args h
 ok f args h hp:=by
  by_cases hf:f=s.f
  ·subst hf;simp only[if_true]at hp ⊢;exact s.sound hp
  ·simp only[if_neg hf]at hp ⊢;exact T.ok f args h hp
 qpre f args h:=if f=s.f then False else T.qpre f args h
 qv f args h:=T.qv f args h
 qok f args h hp:=by
  by_cases hf:f=s.f
  ·subst hf;simp only[if_true]at hp
  ·simp only[if_neg hf]at hp;exact T.qok f args h hp
 flat f:=if f=s.f then false else T.flat f
 fpre f args:=if f=s.f then s.D args else T.fpre f args
 fes f args:=if f=s.f then(s.sz,s.d,s.r args)else T.fes f args
 fok f args hp:=by
  by_cases hf:f=s.f
  ·subst hf;simp only[if_true]at hp ⊢;exact s.ok _ hp
  ·simp only[if_neg hf]at hp ⊢;exact T.fok f args hp
 ppre f args:=if f=s.f then False else T.ppre f args
 pr f args:=T.pr f args
 pok f args hp:=by
  by_cases hf:f=s.f
  ·subst hf;simp only[if_true]at hp
  ·simp only[if_neg hf]at hp;exact T.pok f args hp
theorem Orc.ppre_fcons{P:Program}(s:FSum P)(T:Orc P)(f:FuncId)(args:List V):(Orc.fcons s T).ppre f args=if f=s.f then False else T.ppre f args:=rfl
theorem Orc.pr_fcons{P:Program}(s:FSum P)(T:Orc P)(f:FuncId)(args:List V):(Orc.fcons s T).pr f args=T.pr f args:=rfl
theorem Orc.flat_fcons{P:Program}(s:FSum P)(T:Orc P)(f:FuncId):(Orc.fcons s T).flat f=if f=s.f then false else T.flat f:=rfl
theorem Orc.pre_fcons{P:Program}(s:FSum P)(T:Orc P)(f:FuncId)(args:List V)(h:Heap):(Orc.fcons s T).pre f args h=if f=s.f then s.pre args h else T.pre f args h:=rfl
theorem Orc.v_fcons{P:Program}(s:FSum P)(T:Orc P)(f:FuncId)(args:List V)(h:Heap):(Orc.fcons s T).v f args h=if f=s.f then s.v args h else T.v f args h:=rfl
theorem Orc.hp_fcons{P:Program}(s:FSum P)(T:Orc P)(f:FuncId)(args:List V)(h:Heap):(Orc.fcons s T).hp f args h=if f=s.f then s.hp args h else T.hp f args h:=rfl
theorem Orc.qpre_fcons{P:Program}(s:FSum P)(T:Orc P)(f:FuncId)(args:List V)(h:Heap):(Orc.fcons s T).qpre f args h=if f=s.f then False else T.qpre f args h:=rfl
theorem Orc.qv_fcons{P:Program}(s:FSum P)(T:Orc P)(f:FuncId)(args:List V)(h:Heap):(Orc.fcons s T).qv f args h=T.qv f args h:=rfl
theorem Orc.fpre_fcons{P:Program}(s:FSum P)(T:Orc P)(f:FuncId)(args:List V):(Orc.fcons s T).fpre f args=if f=s.f then s.D args else T.fpre f args:=rfl
theorem Orc.fes_fcons{P:Program}(s:FSum P)(T:Orc P)(f:FuncId)(args:List V):(Orc.fcons s T).fes f args=if f=s.f then(s.sz,s.d,s.r args)else T.fes f args:=rfl
theorem zQ.of_fc{P:Program}{h:Heap}{f:FuncId}{args args':List V}{sz n:Nat}{d:List V}{es:List (List V)}(c:ZL P f args' sz d es)(hr:zA (res (fun _=>true) h n) args=some args')(hC:es.all (fun e=>e.all V.isC)=true):
  zQ P f args h (.ref h.bs.length h.clk 0 es.length) (h.alloc sz d es):=by
 refine⟨c.1,fun g w w0 own0 cargs H hs hv=> ?_⟩
 obtain⟨h1,h2⟩:=Jj H hr hs hv
 refine(c.2 (FZ g fun _=>true) w cargs ⟨fun b hb=>Ql H hb,H.glbw.mono (fun b hb=>.inl hb) fun _ _=>rfl⟩ h1 h2).mono fun e w' he=> ?_
 obtain⟨cv,I,F',rfl,hg,hF,hF',hsz,hro,hlen,hgone,hcell⟩:=he
 obtain⟨ex,H1⟩:=H.grow' hg
 obtain⟨ex2,H2⟩:=H1.adopt (I:=⟨h.clk,I.blk,I.sz,I.cap⟩) (sz:=sz) (d:=d) (es:=es) rfl hsz (fun b hb hFb=>(hcell b hb).2.1 (hF b (.inl hFb))) (fun b j J hb hJ hJb=>by
  have:=H.blt hJ hJb
  have:=(hcell b hb).1
  omega) (fun b hb=>.inr (Nat.le_trans H.frm.size (hcell b hb).1)) hlen hgone (fun b hb=>by
  obtain⟨_,_,cur,el,k1,k2,k3,k4,k5⟩:=hcell b hb
  refine⟨cur,el,k1,k2,k3,k4,fun i k hi hk=>⟨(k5 i k hi hk).1,?_⟩⟩
  have h5:=(k5 i k hi hk).2
  have h6:((es.getD i []).getD k .any).isC=true:=by
   have h7:(es.getD i [])∈es:=by rw[List.getD_eq_getElem?_getD,List.getElem?_eq_getElem hi];exact List.getElem_mem _
   have h8:=hlen _ h7
   have h9:=List.all_eq_true.1 (List.all_eq_true.1 hC _ h7) ((es.getD i []).getD k .any)
   refine h9 ?_
   have h10:k<(es.getD i []).length:=by omega
   generalize es.getD i []=l at*
   rw[List.getD_eq_getElem?_getD,List.getElem?_eq_getElem h10];exact List.getElem_mem _
  rw[V.isC_ok h6]at h5⊢
  have h11:=VRep.inv_c (VRep.p (g:=⟨F',g.inf,g.us⟩) _ _ h5)
  rw[h11]
  exact VRep.c' _)
 refine⟨_,cv,rfl,H2,ex.trans ex2,?_⟩
 refine .ref _ _ _ _ _ (.inr ⟨rfl,rfl⟩) fun J hJ _=> ?_
 simp only at hJ
 rw[←H1.len]at hJ
 simp at hJ
 subst hJ
 exact hro
structure GSum (P:Program) where
 f:FuncId
 D:List V→Prop
 sz:Nat
 d:List V
 r:List V→List (List V)
 ok:∀args,D args→ZL P f args sz d (r args)
 hc:∀args,(r args).all (fun e=>e.all V.isC)=true
def GSum.pre{P:Program}(s:GSum P)(args:List V)(h:Heap):Prop:=(ya true h args).isSome=true∧s.D ((ya true h args).getD [])
def GSum.v{P:Program}(s:GSum P)(args:List V)(h:Heap):V:=.ref h.bs.length h.clk 0 (s.r ((ya true h args).getD [])).length
def GSum.hp{P:Program}(s:GSum P)(args:List V)(h:Heap):Heap:=h.alloc s.sz s.d (s.r ((ya true h args).getD []))
theorem GSum.sound{P:Program}(s:GSum P){args:List V}{h:Heap}(hp:s.pre args h):zQ P s.f args h (s.v args h) (s.hp args h):=by
 obtain⟨h1,h2⟩:=hp
 obtain⟨as,ha⟩:=Option.isSome_iff_exists.1 h1
 have hc:=s.ok _ h2
 unfold GSum.v GSum.hp
 rw[ha]at hc⊢
 simp only[Option.getD_some]at hc⊢
 exact zQ.of_fc hc ha (s.hc _)
def Orc.gcons{P:Program}(s:GSum P)(T:Orc P):Orc P where
 pre f args h:=if f=s.f then s.pre args h else T.pre f args h
 v f args h:=if f=s.f then s.v args h else T.v f args h
 hp f args h:=if f=s.f then s.hp args h else T.hp f args h
 ok f args h hp:=by
  by_cases hf:f=s.f
  ·subst hf;simp only[if_true]at hp ⊢;exact s.sound hp
  ·simp only[if_neg hf]at hp ⊢;exact T.ok f args h hp
 qpre f args h:=if f=s.f then False else T.qpre f args h
 qv f args h:=T.qv f args h
 qok f args h hp:=by
  by_cases hf:f=s.f
  ·subst hf;simp only[if_true]at hp
  ·simp only[if_neg hf]at hp;exact T.qok f args h hp
 flat f:=if f=s.f then false else T.flat f
 fpre f args:=if f=s.f then s.D args else T.fpre f args
 fes f args:=if f=s.f then(s.sz,s.d,s.r args)else T.fes f args
 fok f args hp:=by
  by_cases hf:f=s.f
  ·subst hf;simp only[if_true]at hp ⊢;exact s.ok _ hp
  ·simp only[if_neg hf]at hp ⊢;exact T.fok f args hp
 ppre f args:=if f=s.f then False else T.ppre f args
 pr f args:=T.pr f args
 pok f args hp:=by
  by_cases hf:f=s.f
  ·subst hf;simp only[if_true]at hp
  ·simp only[if_neg hf]at hp;exact T.pok f args hp
theorem Orc.ppre_gcons{P:Program}(s:GSum P)(T:Orc P)(f:FuncId)(args:List V):(Orc.gcons s T).ppre f args=if f=s.f then False else T.ppre f args:=rfl
theorem Orc.pr_gcons{P:Program}(s:GSum P)(T:Orc P)(f:FuncId)(args:List V):(Orc.gcons s T).pr f args=T.pr f args:=rfl
theorem Orc.flat_gcons{P:Program}(s:GSum P)(T:Orc P)(f:FuncId):(Orc.gcons s T).flat f=if f=s.f then false else T.flat f:=rfl
theorem Orc.pre_gcons{P:Program}(s:GSum P)(T:Orc P)(f:FuncId)(args:List V)(h:Heap):(Orc.gcons s T).pre f args h=if f=s.f then s.pre args h else T.pre f args h:=rfl
theorem Orc.v_gcons{P:Program}(s:GSum P)(T:Orc P)(f:FuncId)(args:List V)(h:Heap):(Orc.gcons s T).v f args h=if f=s.f then s.v args h else T.v f args h:=rfl
theorem Orc.hp_gcons{P:Program}(s:GSum P)(T:Orc P)(f:FuncId)(args:List V)(h:Heap):(Orc.gcons s T).hp f args h=if f=s.f then s.hp args h else T.hp f args h:=rfl
theorem Orc.qpre_gcons{P:Program}(s:GSum P)(T:Orc P)(f:FuncId)(args:List V)(h:Heap):(Orc.gcons s T).qpre f args h=if f=s.f then False else T.qpre f args h:=rfl
theorem Orc.qv_gcons{P:Program}(s:GSum P)(T:Orc P)(f:FuncId)(args:List V)(h:Heap):(Orc.gcons s T).qv f args h=T.qv f args h:=rfl
theorem Orc.fpre_gcons{P:Program}(s:GSum P)(T:Orc P)(f:FuncId)(args:List V):(Orc.gcons s T).fpre f args=if f=s.f then s.D args else T.fpre f args:=rfl
theorem Orc.fes_gcons{P:Program}(s:GSum P)(T:Orc P)(f:FuncId)(args:List V):(Orc.gcons s T).fes f args=if f=s.f then(s.sz,s.d,s.r args)else T.fes f args:=rfl
def V.isFn:V→Bool
 | .fn _ _=>true
 |_=>false
def V.fnId:V→FuncId
 | .fn f _=>f
 |_=>0
def V.caps:V→List V
 | .fn _ cs=>cs
 |_=>[]
theorem V.isFn_ok{v:V}(h:v.isFn=true):v= .fn v.fnId v.caps:=by cases v<;>first|rfl|cases h
def zx0(P:Program)(T:Orc P)(a:AOp)(e:Nat→V)(h:Heap)(K:(Nat→V)→Heap→Prop):Prop:=
 match a.g with
 |none=>
  match a.o with
  | .call f xs=>yB e xs=true∧T.pre f (xs.map (zi e)) h∧K (zx e a.dst (T.v f (xs.map (zi e)) h)) (T.hp f (xs.map (zi e)) h)
  | .callv x xs=>yB e (x::xs)=true∧(zi e x).isFn=true∧T.pre (zi e x).fnId (xs.map (zi e)++(zi e x).caps) h∧
     K (zx e a.dst (T.v (zi e x).fnId (xs.map (zi e)++(zi e x).caps) h)) (T.hp (zi e x).fnId (xs.map (zi e)++(zi e x).caps) h)
  |o=>
   if a.pk.isSome||o.still then okP a.pk o e h=true∧K (zx e a.dst (vP a.pk o e h)) h
   else okE o e h=true∧K (zx e a.dst (evE o (zi e) h).1) (evE o (zi e) h).2.1
 |some (t,want)=>
  ((e t).gok=true→(asB (e t).un).2=true)∧
  match a.o with
  | .call f xs=>if T.flat f=true then(enB (e t) want=true→yB e xs=true∧T.qpre f (xs.map (zi e)) h)∧K (zx e a.dst (.gd (enB (e t) want) (.c (T.qv f (xs.map (zi e)) h)))) h
     else(enB (e t) want=true→yB e xs=true∧T.pre f (xs.map (zi e)) h∧K (zx e a.dst (T.v f (xs.map (zi e)) h)) (T.hp f (xs.map (zi e)) h))∧(enB (e t) want=false→K (zx e a.dst (.c undef)) h)
  | .callv x xs=>(enB (e t) want=true→yB e (x::xs)=true∧(zi e x).isFn=true∧T.qpre (zi e x).fnId (xs.map (zi e)++(zi e x).caps) h)∧
     K (zx e a.dst (.gd (enB (e t) want) (.c (T.qv (zi e x).fnId (xs.map (zi e)++(zi e x).caps) h)))) h
  |o=>
   if a.pk.isSome||o.still then(enB (e t) want=true→okP a.pk o e h=true)∧K (zx e a.dst (.gd (enB (e t) want) (vP a.pk o e h))) h
   else(enB (e t) want=true→okE o e h=true∧K (zx e a.dst (evE o (zi e) h).1) (evE o (zi e) h).2.1)∧(enB (e t) want=false→K (zx e a.dst (.c undef)) h)
def ZZ(P:Program)(T:Orc P):List AOp→(Nat→V)→Heap→((Nat→V)→Heap→Prop)→Prop
 | [],e,h,K=>K e h
 |a::r,e,h,K=>zx0 P T a e h fun e h=>ZZ P T r e h K
theorem zx1{P:Program}{T:Orc P}{a:AOp}{e:Nat→V}{h:Heap}{K K':(Nat→V)→Heap→Prop}(hw:zx0 P T a e h K)(hK:∀e h,K e h→K' e h):wpA P a e h K':=by
 obtain⟨d,g,pk,o⟩:=a
 cases g with
 |none=>
  cases o with
  |call f xs=>exact⟨hw.1,_,_,T.ok _ _ _ hw.2.1,hK _ _ hw.2.2⟩
  |callv x xs=>exact⟨hw.1,_,_,V.isFn_ok hw.2.1,_,_,T.ok _ _ _ hw.2.2.1,hK _ _ hw.2.2.2⟩
  |_=>
   simp only[zx0]at hw
   simp only[wpA]
   split at hw
   all_goals
    rename_i hc
    simp only[hc,if_true]
    exact⟨hw.1,hK _ _ hw.2⟩
 |some tw=>
  obtain⟨t,want⟩:=tw
  refine⟨hw.1,?_⟩
  have hw:=hw.2
  cases o with
  |call f xs=>
   simp only at hw
   split at hw
   ·exact .inl ⟨_,fun he=>⟨(hw.1 he).1,T.qok _ _ _ (hw.1 he).2⟩,hK _ _ hw.2⟩
   ·exact .inr ⟨fun he=>⟨(hw.1 he).1,_,_,T.ok _ _ _ (hw.1 he).2.1,hK _ _ (hw.1 he).2.2⟩,fun he=>hK _ _ (hw.2 he)⟩
  |callv x xs=>exact .inl ⟨_,fun he=>⟨(hw.1 he).1,_,_,V.isFn_ok (hw.1 he).2.1,T.qok _ _ _ (hw.1 he).2.2⟩,hK _ _ hw.2⟩
  |_=>
   simp only at hw
   simp only
   split at hw
   ·rename_i hc
    simp only[hc,if_true]
    exact⟨hw.1,hK _ _ hw.2⟩
   ·rename_i hc
    simp only[hc]
    exact⟨fun he=>⟨(hw.1 he).1,hK _ _ (hw.1 he).2⟩,fun he=>hK _ _ (hw.2 he)⟩
theorem jF{P:Program}{T:Orc P}:∀ {as:List AOp}{e:Nat→V}{h:Heap}{K:(Nat→V)→Heap→Prop},ZZ P T as e h K→W8 P as e h K
 | [],_,_,_,hw=>hw
 |_::_,_,_,_,hw=>zx1 hw fun _ _ hw=>jF hw
end Go.Sx
end
section
set_option maxHeartbeats 1000000
namespace Go.Sx
def wpQ(P:Program):List AOp→(Nat→V)→Heap→((Nat→V)→Prop)→Prop
 | [],e,_,K=>K e
 |b::r,e,h,K=>
  match b.g with
  |none=>
   match b.o with
   | .call f xs=>yB e xs=true∧∃cv,ja P f (xs.map (zi e)) h cv∧wpQ P r (zx e b.dst (.c cv)) h K
   | .callv x xs=>yB e (x::xs)=true∧∃f caps,zi e x= .fn f caps∧∃cv,ja P f (xs.map (zi e)++caps) h cv∧wpQ P r (zx e b.dst (.c cv)) h K
   |o=>okP b.pk o e h=true∧wpQ P r (zx e b.dst (vP b.pk o e h)) h K
  |some (t,want)=>
   ((e t).gok=true→(asB (e t).un).2=true)∧
   match b.o with
   | .call f xs=>∃cv,(enB (e t) want=true→yB e xs=true∧ja P f (xs.map (zi e)) h cv)∧wpQ P r (zx e b.dst (.gd (enB (e t) want) (.c cv))) h K
   | .callv x xs=>∃cv,(enB (e t) want=true→yB e (x::xs)=true∧∃f caps,zi e x= .fn f caps∧ja P f (xs.map (zi e)++caps) h cv)∧wpQ P r (zx e b.dst (.gd (enB (e t) want) (.c cv))) h K
   |o=>(enB (e t) want=true→okP b.pk o e h=true)∧wpQ P r (zx e b.dst (.gd (enB (e t) want) (vP b.pk o e h))) h K
def zcD(P:Program)(T:Orc P):List AOp→(Nat→V)→Heap→((Nat→V)→Prop)→Prop
 | [],e,_,K=>K e
 |b::r,e,h,K=>
  match b.g with
  |none=>
   match b.o with
   | .call f xs=>yB e xs=true∧T.qpre f (xs.map (zi e)) h∧zcD P T r (zx e b.dst (.c (T.qv f (xs.map (zi e)) h))) h K
   | .callv x xs=>yB e (x::xs)=true∧(zi e x).isFn=true∧T.qpre (zi e x).fnId (xs.map (zi e)++(zi e x).caps) h∧zcD P T r (zx e b.dst (.c (T.qv (zi e x).fnId (xs.map (zi e)++(zi e x).caps) h))) h K
   |o=>okP b.pk o e h=true∧zcD P T r (zx e b.dst (vP b.pk o e h)) h K
  |some (t,want)=>
   ((e t).gok=true→(asB (e t).un).2=true)∧
   match b.o with
   | .call f xs=>(enB (e t) want=true→yB e xs=true∧T.qpre f (xs.map (zi e)) h)∧zcD P T r (zx e b.dst (.gd (enB (e t) want) (.c (T.qv f (xs.map (zi e)) h)))) h K
   | .callv x xs=>(enB (e t) want=true→yB e (x::xs)=true∧(zi e x).isFn=true∧T.qpre (zi e x).fnId (xs.map (zi e)++(zi e x).caps) h)∧
      zcD P T r (zx e b.dst (.gd (enB (e t) want) (.c (T.qv (zi e x).fnId (xs.map (zi e)++(zi e x).caps) h)))) h K
   |o=>(enB (e t) want=true→okP b.pk o e h=true)∧zcD P T r (zx e b.dst (.gd (enB (e t) want) (vP b.pk o e h))) h K
theorem Y8{P:Program}{T:Orc P}:∀ {as:List AOp}{e:Nat→V}{h:Heap}{K:(Nat→V)→Prop},zcD P T as e h K→wpQ P as e h K
 | [],_,_,_,hw=>hw
 |⟨d,g,pk,o⟩::r,e,h,K,hw=>by
  cases g with
  |none=>
   cases o with
   |call f xs=>exact⟨hw.1,_,T.qok _ _ _ hw.2.1,Y8 hw.2.2⟩
   |callv x xs=>exact⟨hw.1,_,_,V.isFn_ok hw.2.1,_,T.qok _ _ _ hw.2.2.1,Y8 hw.2.2.2⟩
   |_=>exact⟨hw.1,Y8 hw.2⟩
  |some tw=>
   obtain⟨t,want⟩:=tw
   refine⟨hw.1,?_⟩
   have hw:=hw.2
   cases o with
   |call f xs=>exact⟨_,fun he=>⟨(hw.1 he).1,T.qok _ _ _ (hw.1 he).2⟩,Y8 hw.2⟩
   |callv x xs=>exact⟨_,fun he=>⟨(hw.1 he).1,_,_,V.isFn_ok (hw.1 he).2.1,T.qok _ _ _ (hw.1 he).2.2⟩,Y8 hw.2⟩
   |_=>exact⟨hw.1,Y8 hw.2⟩
structure MR where
 N:Nat
 d:Nat
 ks:List (Value×Nat)
 bs:List AOp
inductive C where
 |skip
 |mreg (m:MR) (tl:List AOp)
 |reg (ops:List AOp)
 |qreg (ops:List AOp)
 |treg (ops:List AOp)
 |areg (n:Nat) (ops:List AOp)
 |breg (n:Nat) (ops:List AOp)
 |xreg (hd:List (AOp×Bool×List Nat)) (tl:List AOp)
 |frz (c:C)
 |seq (a b:C)
 |cond (x:X) (a b:C)
 |block (id:Nat) (c:C)
 |loop (c:C)
 |exit (id:Nat)
 |scope (c:C)
 |label (l:Nat)
 |goto (l:Nat)
 |ret
 |rng (x:X) (ps:List Nat) (a b:C)
def AOp.isStill(b:AOp):Bool:=b.pk.isSome||b.o.still
def AOp.isQuiet(b:AOp):Bool:=b.isStill||b.o.calls
def X.temps:X→List Nat
 | .t n=>[n]
 |_=>[]
def AOp.reads(b:AOp):List Nat:=
 (match b.g with|some (t,_)=>[t]|none=>[])++
 (match b.pk with|some (x,y,z)=>x.temps++(y.temps++z.temps)|none=>b.o.xs.flatMap X.temps)
def O.isBox:O→Bool
 | .box .. =>true
 |_=>false
def AOp.isFluid(b:AOp):Bool:=b.isQuiet||(b.pk.isNone&&b.o.isF)
def AOp.apart(b c:AOp):Bool:=
 match b.dst,c.dst with
 |some d,some d'=> !c.reads.contains d&& !b.reads.contains d'
 |_,_=>false
def zla(ops:Array Oper)(bs:List AOp)(n:Nat):Bool:=
 (bs.take n).all (fun b=>b.isFluid&&b.dst.isSome)&&(List.range n).all fun k=>(List.range k).all fun j=>match bs[j]?,bs[k]? with
   |some b,some c=>b.dst.isSome&&(b.dst != c.dst)&&(Region.waitsFor .any ops k j||b.apart c)
   |_,_=>false
def zpN(ops:Array Oper)(bs:List AOp)(n:Nat):Bool:=
 (bs.take n).all (fun b=>b.isFluid&&b.dst.isSome)&&(match bs[n]? with|some b=>b.g.isNone&&b.pk.isNone&&b.dst.isSome&&b.o.isBox&&b.reads.isEmpty|none=>false)&&
 (List.range (n+1)).all fun k=>(List.range k).all fun j=>match bs[j]?,bs[k]? with
   |some b,some c=>b.dst.isSome&&(b.dst != c.dst)&&(Region.waitsFor .any ops k j||b.apart c)
   |_,_=>false
def AOp.plain(bs:List AOp)(c:AOp):Bool:=
 c.pk.isSome||match c.o with
 | .bin .. | .eqb .. | .eqc .. | .eqn .. | .isn .. | .un .. =>true
 | .mov _=>match c.dst with
   |some d=>bs.any fun b=>b.g.any fun q=>q.1==d
   |none=>true
 |_=>false
def zrT(bs:List AOp):Bool:=bs.any fun b=>b.o.calls&&match b.dst with
 |some d=>bs.any fun c=>c.reads.contains d&& !c.plain bs
 |none=>false
def ziI(bs:List AOp):Option Nat→Bool
 |some d=>bs.any fun c=>match c.o with
  | .append _ _ _ (.t d') _=>d'==d
  |_=>false
 |none=>false
def zpP(bs:List AOp)(xs:List X):Bool:=xs.any fun x=>match x with
 | .t d=>bs.any fun c=>c.dst==some d&&match c.o with
   | .append .. =>true
   |_=>false
 |_=>false
def zu7(bs:List AOp)(xs:List X):Bool:=xs.any fun x=>match x with
 | .t d=>bs.any fun c=>c.dst==some d&&match c.o with
   | .load (some _) _=>true
   |_=>false
 |_=>false
def Wq(bs:List AOp)(b:AOp):Bool:=b.g.isNone&&b.pk.isNone&&match b.o with
 | .box .. | .append .. | .store .. | .clr .. | .mkslice .. =>true
 | .bslice _ _ _ _ parts=>ziI bs b.dst||zpP bs (parts.map (·.2))||zu7 bs (parts.map (·.2))
 | .call _ xs=>ziI bs b.dst||zpP bs xs
 |_=>false
def KK(ops:Array Oper)(n:Nat):List (List Nat):=
 (List.range n).foldl (fun rows i=>rows++ [((List.range i).filter fun j=>Region.waitsFor .any ops i j)++((List.range i).filter fun j=>Region.waitsFor .any ops i j).flatMap fun j=>rows.getD j []]) []
def Z0(ops:Array Oper)(bs:List AOp)(n:Nat):List (AOp×Bool×List Nat):=((bs.take n).zip ((bs.take n).map (Wq bs))).zip (KK ops n) |>.map fun p=>(p.1.1,p.1.2,p.2)
def AOp.apartX(b c:AOp):Bool:=(b.dst.all fun d=> !c.reads.contains d)&&(c.dst.all fun d=> !b.reads.contains d)
def zld(ops:Array Oper)(bs:List AOp)(n:Nat):Bool:=
 (bs.take n).all (fun b=>if Wq bs b then true else b.isFluid&&b.dst.isSome)&&(List.range n).all fun k=>(List.range k).all fun j=>match bs[j]?,bs[k]? with
   |some b,some c=>(b.dst.isNone||(b.dst != c.dst))&&(Region.waitsFor .any ops k j||b.apartX c)
   |_,_=>false
def zk4(ops:Array Oper)(bs:List AOp):Option Nat:=(List.range ops.size).find? fun n=>Region.lexTailB .any ops n&&zld ops bs n
def zCc(bs:List AOp):Bool:=bs.any fun b=>b.g.isNone&&b.pk.isNone&&match b.o with
 | .bslice .. | .call .. =>ziI bs b.dst
 |_=>false
def zBD(ops:Array Oper)(bs:List AOp):Option Nat:=(List.range ops.size).find? fun n=>Region.lexTailB .any ops n&&zla ops bs n
def zCj(ops:Array Oper)(bs:List AOp):Option Nat:=(List.range ops.size).find? fun n=>(bs.take n).all (·.isStill)&&Region.lexTailB .any ops n
def Qs(ops:Array Oper)(bs:List AOp):Option C:=
 if bs.any (fun b=>b.g.isNone&&b.o.calls)&&(zCj ops bs).isSome then some (.treg bs)
 else if !(zrT bs&&(zBD ops bs).isSome)&&(Region.lexB .any ops&&bs.all (·.isQuiet))then some (.qreg bs)
 else match(List.range ops.size).find? fun n=>(bs.take n).all (·.isStill)&&Region.lexTailB .any ops n with
  |some _=>some (.treg bs)
  |none=>if zCc bs&&(zk4 ops bs).isSome then(zk4 ops bs).map fun n=>.xreg (Z0 ops bs n) (bs.drop n)
   else match(List.range ops.size).find? fun n=>Region.lexTailB .any ops n&&zla ops bs n with
   |some n=>some (.areg n bs)
   |none=>match(List.range ops.size).find? fun n=>Region.lexTailB .any ops (n+1)&&zpN ops bs n with
    |some n=>some (.breg n bs)
    |none=>(zk4 ops bs).map fun n=>.xreg (Z0 ops bs n) (bs.drop n)
def O.isSlA:O→Bool
 | .sliceA .. =>true
 |_=>false
def zfF(bs:List AOp)(c:C):C:=if bs.any (·.o.isSlA)then .frz c else c
def zax(P:Program)(ops:Array Oper)(N t d kd j:Nat)(o:Oper):Option (AOp×Option (Value×Nat)):=
 match o.op with
 | .insert t' (.tmp m) (.const k) x=>
   if t'=t∧m=d∧o.guard=none∧o.dst=none∧YO kd k=true then
    (zG x).bind fun y=>if y.temps.all (fun u=>decide (u<N∧u≠d))then some (⟨some (N+j),none,none,.mov y⟩,some (k,N+j))else none
   else none
 |_=>(zfj P ops N o).bind fun b=>if b.isStill=true∧b.g=none∧b.dst≠none∧b.dst≠some d∧b.reads.all (fun u=>decide (u<N∧u≠d))=true then some (b,none)else none
def YI(P:Program)(ops:Array Oper)(N t d kd:Nat):Nat→List Oper→Option (List (AOp×Option (Value×Nat)))
 |_,[]=>some []
 |j,o::r=>(zax P ops N t d kd j o).bind fun a=>(YI P ops N t d kd (j+1) r).map fun as=>a::as
def Kg(ops:Array Oper):Nat:=ops.toList.zipIdx.foldl (fun n p=>match p.1.op with| .insert .. =>p.2+1|_=>n) 0
def zdL:List Value→Bool
 | []=>true
 |k::ks=>ks.all (fun k'=> !(z9 k k').1)&&zdL ks
def zqE(bs:List AOp):Bool:=(List.range bs.length).all fun k=>(List.range k).all fun j=>match bs[j]?,bs[k]? with
 |some b,some c=>b.dst != c.dst
 |_,_=>false
def zu6(ops:Array Oper)(N:Nat)(bs:List AOp)(n:Nat):Bool:=
 Region.lexTailB .any ops n&&(List.range n).all fun k=>(List.range k).all fun j=>match bs[j]?,bs[k]? with
  |some b,some c=>(Region.waitsFor .any ops k j||b.apart c)&&(j != 0||(match c.dst with|some u=>decide (u<N)|none=>false)||Region.waitsFor .any ops k 0)
  |_,_=>false
def zcN(P:Program)(N:Nat)(ops:Array Oper)(draw:Bool):Option C:=
 match ops.toList with
 |⟨some d,.makeMap t none,_,_,_,none⟩::r=>
  match P.underlying t with
  |some (.map kt _)=>(WD P kt).bind fun kd=>(YI P ops N t d kd 1 (r.take (Kg ops - 1))).bind fun l=>(z3 P ops N (r.drop (Kg ops - 1))).bind fun tl=>
   if d<N∧Kg ops≤ops.size∧1≤Kg ops∧zdL ((l.filterMap (·.2)).map (·.1))=true∧zqE (⟨some d,none,none,.mov (.k undef)⟩::l.map (·.1))=true∧(draw=true→P.follows .mixedOrders=true∧zu6 ops N (⟨some d,none,none,.mov (.k undef)⟩::l.map (·.1)) (Kg ops)=true)then
    some (.mreg ⟨N,d,l.filterMap (·.2),⟨some d,none,none,.mov (.k undef)⟩::l.map (·.1)⟩ tl)
   else none
  |_=>none
 |_=>none
def zH(P:Program)(N:Nat):Code→Option C
 | .skip=>some .skip
 | .region _ ops false=>((z3 P ops N ops.toList).map fun bs=>zfF bs (.reg bs)).orElse fun _=>zcN P N ops false
 | .region _ ops true=>(if P.follows .mixedOrders then(z3 P ops N ops.toList).bind fun bs=>(Qs ops bs).map (zfF bs)else none).orElse fun _=>zcN P N ops true
 | .seq a b=>match zH P N a,zH P N b with|some a,some b=>some (.seq a b)|_,_=>none
 | .cond c a b=>match zG c,zH P N a,zH P N b with|some c,some a,some b=>some (.cond c a b)|_,_,_=>none
 | .block id c=>(zH P N c).map (.block id)
 | .loop c=>(zH P N c).map .loop
 | .exit id=>some (.exit id)
 | .scope c=>(zH P N c).map .scope
 | .label l=>some (.label l)
 | .goto l=>some (.goto l)
 | .ret=>some .ret
 | .rangeFunc f ps a b=>match zG f,zH P N a,zH P N b with|some x,some a,some b=>if ps.toList.all (fun t=>decide (t<N))then some (.rng x ps.toList a b)else none|_,_,_=>none
 | .refuse _=>none
def V.isK:V→Bool
 | .c _| .slc _ _| .pp _=>true
 |_=>false
def evF(o:O)(ρ:X→V):V:=
 match o with
 | .bslice agg sz n zero parts=>.slc sz ((List.range n).map (YG agg zero parts ρ))
 | .mkslice sz _ zero l=>.slc sz (List.replicate (asI (ρ l)).1.toNat (zero.map .c))
 |_=>.any
def V.allK:V→Bool
 | .slc _ es=>es.all fun e=>e.all V.isK
 |_=>false
def zV{P:Program}(T:Orc P)(b:AOp)(e:Nat→V)(h:Heap):V:=
 match b.g with
 |none=>
  match b.o with
  | .call f xs=>if T.flat f=true then .c (T.qv f (xs.map (zi e)) h)else T.v f (xs.map (zi e)) h
  | .callv x xs=>if T.flat (zi e x).fnId=true then .c (T.qv (zi e x).fnId (xs.map (zi e)++(zi e x).caps) h)else T.v (zi e x).fnId (xs.map (zi e)++(zi e x).caps) h
  |o=>if b.pk.isSome||o.still then vP b.pk o e h else evF o (zi e)
 |some (t,want)=>
  match b.o with
  | .call f xs=>.gd (enB (e t) want) (if T.flat f=true then .c (T.qv f (xs.map (zi e)) h)else T.v f (xs.map (zi e)) h)
  | .callv x xs=>.gd (enB (e t) want) (.c (T.qv (zi e x).fnId (xs.map (zi e)++(zi e x).caps) h))
  |o=>.gd (enB (e t) want) (if b.pk.isSome||o.still then vP b.pk o e h else evF o (zi e))
def yR{P:Program}(T:Orc P)(b:AOp)(e:Nat→V)(h:Heap):Prop:=
 match b.g with
 |none=>
  match b.o with
  | .call f xs=>yB e xs=true∧if T.flat f=true then T.qpre f (xs.map (zi e)) h else T.pre f (xs.map (zi e)) h∧T.hp f (xs.map (zi e)) h=h
  | .callv x xs=>yB e (x::xs)=true∧(zi e x).isFn=true∧if T.flat (zi e x).fnId=true then T.qpre (zi e x).fnId (xs.map (zi e)++(zi e x).caps) h else T.pre (zi e x).fnId (xs.map (zi e)++(zi e x).caps) h∧T.hp (zi e x).fnId (xs.map (zi e)++(zi e x).caps) h=h
  |o=>if b.pk.isSome||o.still then okP b.pk o e h=true else okE o e h=true∧(evF o (zi e)).allK=true
 |some (t,want)=>
  ((e t).gok=true→(asB (e t).un).2=true)∧
  match b.o with
  | .call f xs=>enB (e t) want=true→yB e xs=true∧if T.flat f=true then T.qpre f (xs.map (zi e)) h else T.pre f (xs.map (zi e)) h∧T.hp f (xs.map (zi e)) h=h
  | .callv x xs=>enB (e t) want=true→yB e (x::xs)=true∧(zi e x).isFn=true∧T.qpre (zi e x).fnId (xs.map (zi e)++(zi e x).caps) h
  |o=>enB (e t) want=true→if b.pk.isSome||o.still then okP b.pk o e h=true else okE o e h=true∧(evF o (zi e)).allK=true
def W6{P:Program}(T:Orc P):List AOp→(Nat→V)→Heap→((Nat→V)→Prop)→Prop
 | [],e,_,K=>K e
 |b::r,e,h,K=>yR T b e h∧W6 T r (zx e b.dst (zV T b e h)) h K
def XH{P:Program}(T:Orc P):List AOp→(Nat→V)→Heap→Heap→((Nat→V)→Prop)→Prop
 | [],e,_,_,K=>K e
 |b::r,e,h,h',K=>yR T b e h∧yR T b e h'∧zV T b e h'=zV T b e h∧XH T r (zx e b.dst (zV T b e h)) h h' K
def V.top1:V→List Nat
 | .ref j _ _ _| .ptr j _ _ _=>[j]
 |_=>[]
def V.tops:V→List Nat
 | .ref j _ _ _| .ptr j _ _ _=>[j]
 | .agg cs=>cs.flatMap V.top1
 |_=>[]
def jQ(o:O)(ρ:X→V):List Nat:=
 match o with
 | .mov _=>[]
 |o=>o.xs.flatMap fun x=>(ρ x).tops
structure XE where
 at':Option Nat
 v:Nat→Nat→V
 b:Nat→Blk
def efO(o:O)(ρ:X→V)(h:Heap):XE:=
 match o with
 | .box agg sz x=>⟨none,fun j c=>.ptr j c 0 0,fun c=>⟨c,sz,[cellsOf agg (ρ x)],false,[]⟩⟩
 | .bslice agg sz n zero parts=>⟨none,fun j c=>.ref j c 0 n,fun c=>⟨c,sz,(List.range n).map (YG agg zero parts ρ),false,zero.map .c⟩⟩
 | .mkslice sz _ zero l=>⟨none,fun j c=>.ref j c 0 (asI (ρ l)).1.toNat,fun c=>⟨c,sz,List.replicate (asI (ρ l)).1.toNat (zero.map .c),false,zero.map .c⟩⟩
 | .append sz _ zero x y=>
   match ρ x with
   | .c (.slice none 0 0)=>⟨none,fun j c=>.ref j c 0 (h.view sz (ρ y)).1.length,fun c=>⟨c,sz,(h.view sz (ρ y)).1,false,zero.map .c⟩⟩
   | .ref j _ _ len=>⟨some j,fun j c=>.ref j c 0 (len+(h.view sz (ρ y)).1.length),fun c=>⟨c,sz,(h.blk j).es.take len++(h.view sz (ρ y)).1,false,(h.blk j).d⟩⟩
   |_=>⟨none,fun _ _=>.any,fun c=>⟨c,0,[],false,[]⟩⟩
 | .store n x v=>
   match ρ x with
   | .ptr j ver i o=>⟨some j,fun _ _=>.c undef,fun _=>⟨ver,(h.blk j).sz,(h.blk j).es.set i (qd ((h.blk j).es.getD i (h.blk j).d) [(o,cellsOf n.isSome (ρ v))]),false,(h.blk j).d⟩⟩
   |_=>⟨none,fun _ _=>.any,fun c=>⟨c,0,[],false,[]⟩⟩
 | .stb x=>
   match ρ x with
   | .c (.string s)=>⟨none,fun j c=>.ref j c 0 s.data.toList.length,fun c=>⟨c,1,s.data.toList.map fun b=>[.c (.int .u8 b.toNat)],false,[.c (.int .u8 0)]⟩⟩
   |_=>⟨none,fun _ _=>.any,fun c=>⟨c,0,[],false,[]⟩⟩
 | .nul sz zero _=>⟨none,fun j c=>.ref j c 0 0,fun c=>⟨c,sz,[],false,zero.map .c⟩⟩
 | .sts x=>
   match ρ x with
   | .ref j _ _ len=>⟨some j,fun j c=>.ref j c 0 len,fun c=>⟨c,(h.blk j).sz,(h.blk j).es,false,(h.blk j).d⟩⟩
   |_=>⟨none,fun _ _=>.any,fun c=>⟨c,0,[],false,[]⟩⟩
 | .cpy sz x y=>
   match ρ x with
   | .ref j ver _ _=>⟨some j,fun _ _=>.c (.int .i64 (h.view sz (ρ y)).1.length),fun _=>⟨ver,sz,(h.view sz (ρ y)).1,false,(h.blk j).d⟩⟩
   |_=>⟨none,fun _ _=>.any,fun c=>⟨c,0,[],false,[]⟩⟩
 | .clr _ x=>
   match ρ x with
   | .ref j ver off _=>⟨some j,fun _ _=>.c (.tuple #[]),fun _=>⟨ver,(h.blk j).sz,(h.blk j).es.take off,false,(h.blk j).d⟩⟩
   |_=>⟨none,fun _ _=>.any,fun c=>⟨c,0,[],false,[]⟩⟩
 |_=>⟨none,fun _ _=>.any,fun c=>⟨c,0,[],false,[]⟩⟩
def y4(e:Nat→V)(xs:List X):Option (List V):=ya false ⟨[],0⟩ (xs.map (zi e))
def kw(e:Nat→V)(xs:List X):List Nat:=xs.flatMap fun x=>(zi e x).tops
def QD(e:Nat→V)(h:Heap)(xs:List X):Option (List V):=zA (res (fun k=>k==(kw e xs).headD 0) h 12) (xs.map (zi e))
def xe{P:Program}(T:Orc P)(b:AOp)(e:Nat→V)(h:Heap):XE:=
 match b.o with
 | .call f xs=>bif (y4 e xs).isSome then⟨none,fun j c=>.ref j c 0 (T.fes f ((y4 e xs).getD [])).2.2.length,fun c=>⟨c,(T.fes f ((y4 e xs).getD [])).1,(T.fes f ((y4 e xs).getD [])).2.2,false,(T.fes f ((y4 e xs).getD [])).2.1⟩⟩
   else⟨(kw e xs).head?,fun _ _=>T.pr f ((QD e h xs).getD []),fun _=>⟨(h.blk ((kw e xs).headD 0)).ver,(h.blk ((kw e xs).headD 0)).sz,(h.blk ((kw e xs).headD 0)).es,true,(h.blk ((kw e xs).headD 0)).d⟩⟩
 |o=>efO o (zi e) h
def zpI{P:Program}(T:Orc P)(b:AOp)(e:Nat→V)(h:Heap):Prop:=
 match b.o with
 | .call f xs=>yB e xs=true∧bif (y4 e xs).isSome then T.fpre f ((y4 e xs).getD [])else((kw e xs).head?.isSome=true∧(QD e h xs).isSome=true∧T.ppre f ((QD e h xs).getD []))
 |o=>okE o e h=true
def XE.heap(x:XE)(h:Heap):Heap:=
 match x.at' with
 |none=>⟨h.bs++ [x.b h.clk],h.clk+1⟩
 |some j=>⟨h.bs.set j (x.b h.clk),h.clk+1⟩
def XE.val(x:XE)(h:Heap):V:=x.v (x.at'.getD h.bs.length) h.clk
def zca{P:Program}(T:Orc P)(b:AOp)(own:Bool)(s:(Nat→V)×Heap):(Nat→V)×Heap:=
 match own with
 |true=>(zx s.1 b.dst ((xe T b s.1 s.2).val s.2),(xe T b s.1 s.2).heap s.2)
 |false=>(zx s.1 b.dst (zV T b s.1 s.2),s.2)
def xOK{P:Program}(T:Orc P)(b:AOp)(own:Bool)(e:Nat→V)(h:Heap):Prop:=
 match own with
 |true=>zpI T b e h
 |false=>yR T b e h∧(b.o.calls=true→∀h',yR T b e h'∧zV T b e h'=zV T b e h)
def yP(b:AOp)(own:Bool)(e:Nat→V):List Nat:=
 match own,b.o with
 |true,.call _ xs=>bif (y4 e xs).isSome then[]else kw e xs
 |_,o=>if b.pk.isSome||o.calls then[]else jQ o (zi e)
def xwr{P:Program}(T:Orc P)(b:AOp)(own:Bool)(e:Nat→V)(h:Heap):Option Nat:=
 match own with
 |true=>some ((xe T b e h).at'.getD h.bs.length)
 |false=>none
def JN(a b:Option Nat×List Nat):Bool:=
 (match a.1 with|some j=> !b.2.contains j&&b.1 != some j|none=>true)&&(match b.1 with|some j=> !a.2.contains j|none=>true)
def js(ws:List Nat)(b:Option Nat×List Nat):Nat→List (Option Nat×List Nat)→Bool
 |_,[]=>true
 |k,a::r=>(ws.contains k||JN a b)&&js ws b (k+1) r
def wpX{P:Program}(T:Orc P):List (AOp×Bool×List Nat)→List (Option Nat×List Nat)→(Nat→V)×Heap→((Nat→V)→Heap→Prop)→Prop
 | [],_,s,K=>K s.1 s.2
 |(b,own,ws)::r,tr,s,K=>
  xOK T b own s.1 s.2∧(yP b own s.1).all (fun j=>decide (j<s.2.bs.length))=true∧js ws (xwr T b own s.1 s.2,yP b own s.1) 0 tr=true∧
   wpX T r (tr++ [(xwr T b own s.1 s.2,yP b own s.1)]) (zca T b own s) K
def Jl(b:Option AOp)(e:Nat→V)(h:Heap):Heap:=
 match b with
 |some b=>(evE b.o (zi e) h).2.1
 |none=>h
def zfd(b:Option AOp)(e:Nat→V)(h:Heap):Nat→V:=
 match b with
 |some b=>zx e b.dst (evE b.o (zi e) h).1
 |none=>e
def Wu(b:Option AOp)(e:Nat→V)(h:Heap):Bool:=
 match b with
 |some b=>okE b.o e h
 |none=>false
structure Cx where
 P:Program
 T:Orc P
 N:Nat
 w0:World
 own0:Own
abbrev yv:=Exit→(Nat→V)→Heap→Prop
def Cx.post(cx:Cx)(Q:yv)(x:Exit)(a:Act)(w:World):Prop:=∃g e h,Rel cx.N g e h cx.w0 cx.own0 a w∧Q x e h
def zC(cx:Cx)(c:C)(Q:yv)(e:Nat→V)(h:Heap):Prop:=
 ∀code,zH cx.P cx.N code=some c→∀g a w,Rel cx.N g e h cx.w0 cx.own0 a w→code.wp cx.P (cx.post Q) a w
def j7(K:(Nat→V)→Heap→Prop)(Q:yv):yv:=fun x e h=>match x with| .normal=>K e h|x=>Q x e h
def zh1(id:Nat)(Q:yv):yv:=fun x e h=>match x with| .exit i=>if i=id then Q .normal e h else Q (.exit i) e h|x=>Q x e h
def MR.fin(m:MR)(_e e':Nat→V):Nat→V:=fun t=>if t=m.d then .mp (m.ks.map fun p=>p.1) (m.ks.map fun p=>e' p.2)else if m.N≤t then .c undef else e' t
def wpC(cx:Cx):C→yv→(Nat→V)→Heap→Prop
 | .skip,Q,e,h=>Q .normal e h
 | .mreg m tl,Q,e,h=>W6 cx.T m.bs e h fun e'=>ZZ cx.P cx.T tl (m.fin e e') h (Q .normal)
 | .reg ops,Q,e,h=>ZZ cx.P cx.T ops e h (Q .normal)
 | .qreg ops,Q,e,h=>zcD cx.P cx.T ops e h fun e=>Q .normal e h
 | .treg ops,Q,e,h=>ZZ cx.P cx.T ops e h (Q .normal)
 | .areg n ops,Q,e,h=>W6 cx.T (ops.take n) e h fun e=>ZZ cx.P cx.T (ops.drop n) e h (Q .normal)
 | .breg n ops,Q,e,h=>XH cx.T (ops.take n) e h (Jl ops[n]? e h) fun e'=>Wu ops[n]? e h=true∧ZZ cx.P cx.T (ops.drop (n+1)) (zfd ops[n]? e' h) (Jl ops[n]? e h) (Q .normal)
 | .xreg hd tl,Q,e,h=>wpX cx.T hd [] (e,h) fun e' h'=>ZZ cx.P cx.T tl e' ⟨h'.bs,h'.clk+(hd.length+1)⟩ (Q .normal)
 | .frz c,Q,e,h=>wpC cx c Q e (h.freeze fun _=>true)
 | .seq a b,Q,e,h=>wpC cx a (j7 (fun e h=>wpC cx b Q e h) Q) e h
 | .cond x a b,Q,e,h=>(val e x).gok=true∧(asB (zi e x)).2=true∧((asB (zi e x)).1=true→wpC cx a Q e h)∧((asB (zi e x)).1=false→wpC cx b Q e h)
 | .block id c,Q,e,h=>wpC cx c (zh1 id Q) e h
 | .loop c,Q,e,h=>zC cx (.loop c) Q e h
 | .exit id,Q,e,h=>Q (.exit id) e h
 | .scope c,Q,e,h=>zC cx (.scope c) Q e h
 | .label _,Q,e,h=>Q .normal e h
 | .goto l,Q,e,h=>Q (.goto l) e h
 | .ret,Q,e,h=>Q .ret e h
 | .rng x ps a b,Q,e,h=>zC cx (.rng x ps a b) Q e h
section
variable {P:Program} {N:Nat} {g g':Gh} {e:Nat→V} {h h':Heap} {w w' w0:World} {own0:Own} {a:Act} {ops:Array Oper}
theorem jk{o:Oper}{b:AOp}(C:Comp P ops N o b){K:Act→Prop}{v:V}
  (R:Rel N g e h w0 own0 a w) (hv:∃cv,VRep g w cv v∧∀w1,Grow w w1→o.quietAt P a (Grow w) w1 cv)
  (hK:∀a',Rel N g (zx e b.dst v) h w0 own0 a' w→K a'):o.quiet P a (Grow w) K:=by
 obtain⟨cv,h1,h2⟩:=hv
 exact⟨cv,h2,hK _ (by rw[←C.dst];exact R.put C.lt h1)⟩
theorem WK{o:Oper}{b:AOp}(C:Comp P ops N o b)(hs:b.isStill=true)(R:Rel N g e h w0 own0 a w)(hok:okP b.pk b.o e h=true):
  ∃cv,VRep g w cv (vP b.pk b.o e h)∧∀w1,Grow w w1→o.quietAt P a (Grow w) w1 cv:=by
 obtain⟨cv,h1,h2⟩:=za8 C.pk (fun hp=>⟨C.op hp,by simpa[AOp.isStill,hp]using hs⟩) R hok
 exact⟨cv,h1,fun w1 hg=>by unfold Oper.quietAt;rw[h2 w1 hg];exact⟨rfl,rfl⟩⟩
theorem YV{o:Oper}{f:FuncId}{args:List V}{cv:Value}(hc:ja P f args h cv)(R:Rel N g e h w0 own0 a w)
  (hx:∀w1,∃cargs:Array Value,(execOp a.eval o).run P w1= .ok (.enter f cargs) w1∧cargs.size=args.length∧∀i,i<args.length→VRep g w (cargs.getD i undef) (args.getD i .any)):
  ∀w1,Grow w w1→o.quietAt P a (Grow w) w1 cv:=by
 intro w1 hg
 obtain⟨cargs,h1,h2,h3⟩:=hx w1
 obtain⟨k1,k2⟩:=R.heap.grow' hg
 unfold Oper.quietAt
 rw[h1]
 refine⟨rfl,(hc.2 g w1 w0 own0 cargs k2 h2 fun i hi=>(h3 i hi).mono k1).mono fun e' w' he=> ?_⟩
 exact⟨he.1,hg.trans he.2⟩
theorem zuM{Q:Act→Prop}:∀ {l:List Oper}{bs:List AOp}{e:Nat→V}{a:Act}{K:(Nat→V)→Prop},z3 P ops N l=some bs→bs.all (·.isQuiet)=true→Rel N g e h w0 own0 a w→wpQ P bs e h K→
  (∀e' a',K e'→Rel N g e' h w0 own0 a' w→Q a')→wpQuiet P ops (Grow w) Q l a
 | [],bs,e,a,K,hc,_,R,hwp,hK=>by
   simp[z3]at hc;subst hc
   exact hK _ _ hwp R
 |o::l,bs,e,a,K,hc,hq,R,hwp,hK=>by
  simp only[z3,Option.bind_eq_some_iff,Option.map_eq_some_iff]at hc
  obtain⟨b,hb,cs,hcs,rfl⟩:=hc
  simp only[List.all_cons,Bool.and_eq_true]at hq
  have C:=Zm hb
  have next:∀ {v:V},wpQ P cs (zx e b.dst v) h K→∀a',Rel N g (zx e b.dst v) h w0 own0 a' w→wpQuiet P ops (Grow w) Q l a':=fun hw a' R'=>zuM hcs hq.2 R' hw hK
  have nopk:∀f xs,b.o= .call f xs→b.pk=none:=fun f xs ho=>by
   cases hp:b.pk with
   |none=>rfl
   |some q=>have:=C.mv (by rw[hp];simp);rw[ho]at this;cases this
  have nopk':∀f xs,b.o= .callv f xs→b.pk=none:=fun f xs ho=>by
   cases hp:b.pk with
   |none=>rfl
   |some q=>have:=C.mv (by rw[hp];simp);rw[ho]at this;cases this
  unfold wpQ at hwp
  simp only[wpQuiet]
  rcases C.g with⟨hg,hog⟩|⟨j,t,want,hog,hdj,hg⟩
  ·have hw:Region.wanted o (yielded ops a.tmps)=true:=by simp[Region.wanted,hog]
   rw[if_pos hw]
   rw[hg]at hwp
   simp only at hwp
   split at hwp
   ·rename_i f xs ho
    obtain⟨hgk,cv,hc,hk⟩:=hwp
    obtain⟨c,hop,hcc⟩:=zX (C.op (nopk f xs ho)) (by rw[ho];rfl)
    rw[ho]at hcc
    exact jk C R ⟨cv,VRep.c' _,YV hc R fun w1=>qR hop hcc R hgk hc.1 w1⟩ (next hk)
   ·rename_i x xs ho
    obtain⟨hgk,f,caps,hx,cv,hc,hk⟩:=hwp
    obtain⟨c,hop,hcc⟩:=zX (C.op (nopk' x xs ho)) (by rw[ho];rfl)
    rw[ho]at hcc
    exact jk C R ⟨cv,VRep.c' _,YV hc R fun w1=>kB hop hcc R hgk hx hc.1 w1⟩ (next hk)
   ·rename_i n1 n2
    have hs:b.isStill=true:=by
     have:=hq.1
     simp only[AOp.isQuiet,Bool.or_eq_true]at this
     rcases this with h|h
     ·exact h
     ·cases hbo:b.o<;>rw[hbo]at h<;>first|(exact absurd hbo (n1 _ _))|(exact absurd hbo (n2 _ _))|cases h
    exact jk C R (WK C hs R hwp.1) (next hwp.2)
  ·rw[hg]at hwp
   simp only at hwp
   obtain⟨hbb,hwp⟩:=hwp
   rw[KC R hog hdj hbb]
   generalize enB (e t) want=en at*
   have hund:∀ {v:V},en=false→wpQ P cs (zx e b.dst (.gd en v)) h K→wpQuiet P ops (Grow w) Q l (a.put o.dst undef):=fun he hw=>by
    refine next hw _ ?_
    rw[←C.dst]
    exact R.put C.lt (.gd _ _ _ (fun h=>by rw[he]at h;cases h) fun _=>rfl)
   have hgd:∀ {cv}{v:V},en=true→VRep g w cv v→VRep g w cv (.gd en v):=fun he hv=>.gd _ _ _ (fun _=>hv) fun h=>by rw[he]at h;cases h
   split at hwp
   ·rename_i f xs ho
    obtain⟨cv,hc,hk⟩:=hwp
    cases en with
    |false=>simp only[Bool.false_eq_true,if_false];exact hund rfl hk
    |true=>
     simp only[if_true]
     obtain⟨hgk,hc⟩:=hc rfl
     obtain⟨c,hop,hcc⟩:=zX (C.op (nopk f xs ho)) (by rw[ho];rfl)
     rw[ho]at hcc
     exact jk C R ⟨cv,hgd rfl (VRep.c' _),YV hc R fun w1=>qR hop hcc R hgk hc.1 w1⟩ (next hk)
   ·rename_i x xs ho
    obtain⟨cv,hc,hk⟩:=hwp
    cases en with
    |false=>simp only[Bool.false_eq_true,if_false];exact hund rfl hk
    |true=>
     simp only[if_true]
     obtain⟨hgk,f,caps,hx,hc⟩:=hc rfl
     obtain⟨c,hop,hcc⟩:=zX (C.op (nopk' x xs ho)) (by rw[ho];rfl)
     rw[ho]at hcc
     exact jk C R ⟨cv,hgd rfl (VRep.c' _),YV hc R fun w1=>kB hop hcc R hgk hx hc.1 w1⟩ (next hk)
   ·rename_i n1 n2
    have hs:b.isStill=true:=by
     have:=hq.1
     simp only[AOp.isQuiet,Bool.or_eq_true]at this
     rcases this with h|h
     ·exact h
     ·cases hbo:b.o<;>rw[hbo]at h<;>first|(exact absurd hbo (n1 _ _))|(exact absurd hbo (n2 _ _))|cases h
    cases en with
    |false=>simp only[Bool.false_eq_true,if_false];exact hund rfl hwp.2
    |true=>
     simp only[if_true]
     obtain⟨cv,k1,k2⟩:=WK C hs R (hwp.1 rfl)
     exact jk C R ⟨cv,hgd rfl k1,k2⟩ (next hwp.2)
theorem YW{o:Oper}{b:AOp}(C:Comp P ops N o b)(hs1:(b.pk.isSome||b.o.still)=true)(f:FuncId)(xs:List X):b.o≠.call f xs:=fun ho=>by
 cases hp:b.pk with
 |none=>rw[hp,ho]at hs1;cases hs1
 |some q=>have:=C.mv (by rw[hp];simp);rw[ho]at this;cases this
theorem Z9{o:Oper}{b:AOp}(C:Comp P ops N o b)(hs1:(b.pk.isSome||b.o.still)=true)(x:X)(xs:List X):b.o≠.callv x xs:=fun ho=>by
 cases hp:b.pk with
 |none=>rw[hp,ho]at hs1;cases hs1
 |some q=>have:=C.mv (by rw[hp];simp);rw[ho]at this;cases this
theorem zu0{Q:Exit→Act→World→Prop}:∀(n:Nat){l:List Oper}{bs:List AOp}{e:Nat→V}{a:Act}{K:(Nat→V)→Heap→Prop},z3 P ops N l=some bs→(bs.take n).all (·.isStill)=true→Rel N g e h w0 own0 a w→W8 P bs e h K→
  (∀g' e' h' a' w',K e' h'→Rel N g' e' h' w0 own0 a' w'→Q .normal a' w')→wpStill P ops w (fun a'=>wpList P ops Q (l.drop n) a' w) (l.take n) a
 |0,l,bs,e,a,K,hc,_,R,hwp,hK=>by
  simp only[List.take_zero,List.drop_zero]
  exact j9 hc R hwp hK
 |n+1,[],bs,e,a,K,hc,_,R,hwp,hK=>by
  simp[z3]at hc;subst hc
  exact hK _ _ _ _ _ hwp R
 |n+1,o::l,bs,e,a,K,hc,hs,R,hwp,hK=>by
  simp only[z3,Option.bind_eq_some_iff,Option.map_eq_some_iff]at hc
  obtain⟨b,hb,cs,hcs,rfl⟩:=hc
  simp only[List.take_succ_cons,List.all_cons,Bool.and_eq_true]at hs
  have C:=Zm hb
  simp only[List.take_succ_cons,List.drop_succ_cons,wpStill]
  simp only[W8]at hwp
  have next:∀ {v:V} a',W8 P cs (zx e b.dst v) h K→Rel N g (zx e b.dst v) h w0 own0 a' w→wpStill P ops w (fun a'=>wpList P ops Q (l.drop n) a' w) (l.take n) a':=fun a' hw R'=>zu0 n hcs hs.2 R' hw hK
  have hs1:(b.pk.isSome||b.o.still)=true:=hs.1
  unfold wpA at hwp
  rcases C.g with⟨hg,hog⟩|⟨j,t,want,hog,hdj,hg⟩
  ·have hw:Region.wanted o (yielded ops a.tmps)=true:=by simp[Region.wanted,hog]
   rw[if_pos hw]
   rw[hg]at hwp
   simp only at hwp
   split at hwp
   ·rename_i f xs ho;exact absurd ho (YW C hs1 f xs)
   ·rename_i f xs ho;exact absurd ho (Z9 C hs1 f xs)
   ·rw[if_pos hs1]at hwp
    obtain⟨cv,h1,h2⟩:=za8 C.pk (fun hp=>⟨C.op hp,by simpa[hp]using hs1⟩) R hwp.1
    unfold Oper.still
    rw[h2 w (Grow.refl w)]
    exact⟨rfl,next _ hwp.2 (by rw[←C.dst];exact R.put C.lt h1)⟩
  ·rw[hg]at hwp
   simp only at hwp
   obtain⟨hbb,hwp⟩:=hwp
   rw[KC R hog hdj hbb]
   generalize enB (e t) want=en at*
   split at hwp
   ·rename_i f xs ho;exact absurd ho (YW C hs1 f xs)
   ·rename_i f xs ho;exact absurd ho (Z9 C hs1 f xs)
   ·rw[if_pos hs1]at hwp
    cases en with
    |false=>
     simp only[Bool.false_eq_true,if_false]
     exact next _ hwp.2 (by rw[←C.dst];exact R.put C.lt (.gd _ _ _ (fun h=>by cases h) fun _=>rfl))
    |true=>
     simp only[if_true]
     obtain⟨cv,h1,h2⟩:=za8 C.pk (fun hp=>⟨C.op hp,by simpa[hp]using hs1⟩) R (hwp.1 rfl)
     unfold Oper.still
     rw[h2 w (Grow.refl w)]
     exact⟨rfl,next _ hwp.2 (by rw[←C.dst];exact R.put C.lt (.gd _ _ _ (fun _=>h1) fun h=>by cases h))⟩
theorem Rel.drew(R:Rel N g e h w0 own0 a w):Rel N g e h w0 own0 a {w with drawn:=w.drawn+1}:=by
 obtain⟨k1,k2⟩:=R.heap.grow' (Grow.drew w)
 exact R.mono k1 k2
end
end Go.Sx
end
section
set_option maxHeartbeats 1000000
namespace Go.Sx
section
variable {P:Program} {T:Orc P} {N:Nat} {g g' g1:Gh} {e e':Nat→V} {h h':Heap} {w w' w0 w1:World} {own0:Own} {a:Act} {ops:Array Oper}
theorem YB{x:X}(hx:∀t∈x.temps,e t=e' t):val e x=val e' x:=by
 cases x with
 |t n=>exact hx n (by simp[X.temps])
 |_=>rfl
theorem zjW{x:X}(hx:∀t∈x.temps,e t=e' t):zi e x=zi e' x:=by
 unfold zi;rw[YB hx]
theorem ku{xs:List X}(hx:∀t∈xs.flatMap X.temps,e t=e' t):(∀x∈xs,val e x=val e' x)∧∀x∈xs,zi e x=zi e' x:=by
 have h1:∀x∈xs,∀t∈x.temps,e t=e' t:=fun x hxs t ht=>hx t (List.mem_flatMap.2 ⟨x,hxs,ht⟩)
 exact⟨fun x hxs=>YB (h1 x hxs),fun x hxs=>zjW (h1 x hxs)⟩
theorem jf{xs:List X}(hx:∀x∈xs,val e x=val e' x):yB e xs=yB e' xs:=by
 unfold yB
 apply Bool.eq_iff_iff.2
 simp only[List.all_eq_true]
 constructor<;>intro hh x hxs<;>have:=hh x hxs
 ·rw[←hx x hxs];exact this
 ·rw[hx x hxs];exact this
theorem Wr{xs:List X}(hx:∀x∈xs,val e x=val e' x):(xs.all fun x=>(val e x).gok)=(xs.all fun x=>(val e' x).gok):=jf hx
theorem zme{pk:Option (X×X×X)}{o:O}(hp:∀t∈(match pk with|some (x,y,z)=>x.temps++(y.temps++z.temps)|none=>o.xs.flatMap X.temps),e t=e' t)(h:Heap):
  okP pk o e h=okP pk o e' h∧vP pk o e h=vP pk o e' h:=by
 cases pk with
 |some q=>
  obtain⟨x,y,z⟩:=q
  simp only[List.mem_append]at hp
  have h1:=YB (x:=x) fun t ht=>hp t (.inl ht)
  have h2:=YB (x:=y) fun t ht=>hp t (.inr (.inl ht))
  have h3:=YB (x:=z) fun t ht=>hp t (.inr (.inr ht))
  simp only[okP,vP,zaJ,h1,h2,h3,and_self]
 |none=>
  obtain⟨h1,h2⟩:=ku hp
  have h3:=zcT (o:=o) (ρ:=zi e) (ρ':=zi e') h2 h
  simp only[okP,vP,h3,Wr h1,and_self]
theorem zlN{o:O}{ρ ρ':X→V}(hx:∀x∈o.xs,ρ x=ρ' x):evF o ρ=evF o ρ':=by
 cases o with
 |mkslice a b c x=>have h1:=hx x (by simp[O.xs]);simp only[evF,h1]
 |bslice agg sz n zero parts=>
  have h1:∀p∈parts,ρ p.2=ρ' p.2:=fun p hp=>hx _ (List.mem_map.2 ⟨p,hp,rfl⟩)
  have e1:(List.range n).map (YG agg zero parts ρ)=(List.range n).map (YG agg zero parts ρ'):=by
   apply List.map_congr_left
   intro i _
   unfold YG
   cases hf:parts.find? (·.1==i)with
   |none=>rfl
   |some p=>simp only;rw[h1 p (List.mem_of_find?_eq_some hf)]
  simp only[evF,e1]
 |_=>rfl
theorem X6{o:O}(hp:∀t∈o.xs.flatMap X.temps,e t=e' t)(h:Heap):okE o e h=okE o e' h:=by
 obtain⟨h1,h2⟩:=ku hp
 simp only[okE,Yn h2 h,Wr h1]
theorem Zf{b:AOp}(hb:∀t∈b.reads,e t=e' t)(hpk:b.pk≠none→b.o= .mov (.k undef))(h:Heap):yR T b e h=yR T b e' h∧zV T b e h=zV T b e' h:=by
 obtain⟨d,gd,pk,o⟩:=b
 simp only[AOp.reads,List.mem_append]at hb
 have hp:∀t∈(match pk with|some (x,y,z)=>x.temps++(y.temps++z.temps)|none=>o.xs.flatMap X.temps),e t=e' t:=fun t ht=>hb t (.inr ht)
 obtain⟨k1,k2⟩:=zme hp h
 have hno:∀f xs,o= .call f xs→pk=none:=fun f xs ho=>by
  cases pk with
  |none=>rfl
  |some q=>have:=hpk (by simp);simp only at this;rw[ho]at this;cases this
 have hno':∀f xs,o= .callv f xs→pk=none:=fun f xs ho=>by
  cases pk with
  |none=>rfl
  |some q=>have:=hpk (by simp);simp only at this;rw[ho]at this;cases this
 have hE:pk=none→okE o e h=okE o e' h∧evF o (zi e)=evF o (zi e'):=fun hn=>by
  subst hn
  exact⟨X6 hp h,zlN (ku hp).2⟩
 have hE':(pk.isSome||o.still)=false→okE o e h=okE o e' h∧evF o (zi e)=evF o (zi e'):=fun hn=>hE (by
  cases pk with
  |none=>rfl
  |some q=>cases hn)
 cases gd with
 |none=>
  cases o with
  |call f xs=>
   obtain rfl:=hno f xs rfl
   obtain⟨h1,h2⟩:=ku hp
   have e1:xs.map (zi e)=xs.map (zi e'):=List.map_congr_left h2
   simp only[yR,zV,e1,jf (xs:=xs) h1,and_self]
  |callv x xs=>
   obtain rfl:=hno' x xs rfl
   obtain⟨h1,h2⟩:=ku hp
   have e1:xs.map (zi e)=xs.map (zi e'):=List.map_congr_left fun y hy=>h2 y (by simp[O.xs,hy])
   have e2:=h2 x (by simp[O.xs])
   have e3:=jf (xs:=x::xs) h1
   simp only[yR,zV,e1,e2,e3,and_self]
  |_=>
   simp only[yR,zV]
   split
   ·simp only[k1,k2,and_self]
   ·rename_i hs
    obtain⟨q1,q2⟩:=hE' (by simpa using hs)
    simp only[q1,q2,and_self]
 |some tw=>
  obtain⟨t,want⟩:=tw
  have et:e t=e' t:=hb t (.inl (by simp))
  cases o with
  |call f xs=>
   obtain rfl:=hno f xs rfl
   obtain⟨h1,h2⟩:=ku hp
   have e1:xs.map (zi e)=xs.map (zi e'):=List.map_congr_left h2
   simp only[yR,zV,e1,et,jf (xs:=xs) h1,and_self]
  |callv x xs=>
   obtain rfl:=hno' x xs rfl
   obtain⟨h1,h2⟩:=ku hp
   have e1:xs.map (zi e)=xs.map (zi e'):=List.map_congr_left fun y hy=>h2 y (by simp[O.xs,hy])
   have e2:=h2 x (by simp[O.xs])
   have e3:=jf (xs:=x::xs) h1
   simp only[yR,zV,e1,e2,e3,et,and_self]
  |_=>
   simp only[yR,zV,et]
   split
   ·simp only[k1,k2,and_self]
   ·rename_i hs
    obtain⟨q1,q2⟩:=hE' (by simpa using hs)
    simp only[q1,q2,and_self]
theorem jo{α:Type}{l:List α}{n j:Nat}{x:α}(h:(l.take n)[j]? =some x):l[j]? =some x:=by
 rw[List.getElem?_take]at h
 split at h
 ·exact h
 ·cases h
theorem zAQ{S:Nat→Bool}{h:Heap}{n:Nat}{l:List V}(hk:l.all V.isK=true):zA (res S h (n+1)) l=some l:=by
 refine JL fun v hv=> ?_
 have:=List.all_eq_true.1 hk v hv
 cases v<;>first|rfl|cases this
theorem YM{sz n:Nat}{d:List V}{es:List (List V)}{cv:Value}(hn:n=es.length)(hk:(es.all fun l=>l.all V.isK)=true)(hv:VRep g1 w1 cv (.ref h.bs.length h.clk 0 n))(ex:Ext g w g1 w1)
  (H1:HRel g1 (h.alloc sz d es) w1 w0 own0) (H:HRel g h w w0 own0) (hg:Grow w w1):∃g2,VRep g2 w1 cv (.slc sz es)∧Ext g w g2 w1∧HRel g2 h w1 w0 own0:=by
 have hlen:(h.alloc sz d es).bs.length=h.bs.length+1:=by simp[Heap.alloc]
 have hblk:(h.alloc sz d es).blk h.bs.length=⟨h.clk,sz,es,false,d⟩:=by simp[Heap.blk,Heap.alloc]
 have hr:res (fun j=>j==h.bs.length) (h.alloc sz d es) 12 (.ref h.bs.length h.clk 0 n)=some (.slc sz es):=by
  have hcur:(h.alloc sz d es).cur h.bs.length h.clk=true:=by simp[Heap.cur,Heap.alloc]
  have hm:zA (zA (res (fun j=>j==h.bs.length) (h.alloc sz d es) 11)) es=some es:=JL fun l hl=>zAQ (List.all_eq_true.1 hk l hl)
  have e1:res (fun j=>j==h.bs.length) (h.alloc sz d es) 12 (.ref h.bs.length h.clk 0 n)=if(h.bs.length==h.bs.length)&&(h.alloc sz d es).cur h.bs.length h.clk&&decide (0+n≤((h.alloc sz d es).blk h.bs.length).es.length)then(zA (zA (res (fun j=>j==h.bs.length) (h.alloc sz d es) 11)) ((((h.alloc sz d es).blk h.bs.length).es.drop 0).take n)).map (.slc ((h.alloc sz d es).blk h.bs.length).sz)else none:=rfl
  rw[e1,hblk,hcur,if_pos (by simp[hn])]
  simp only[List.drop_zero,hn,List.take_length]
  rw[hm];rfl
 have hp:=jL (S:=fun j=>j==h.bs.length) H1 12 hv hr
 have hcl:=H.clk
 obtain⟨ex2,H2⟩:=H.grow hg (FZ g1 fun j=>j==h.bs.length) (fun b hb=>.inl (ex.F b hb)) (fun b hb=>Ql H1 hb) (fun j I b hI hIb hFb=>by
  have hj:j<h.bs.length:=by rw[←H.len];exact(List.getElem?_eq_some_iff.1 hI).1
  have hB:h.bs[j]? =some h.bs[j]:=List.getElem?_eq_getElem hj
  have hk0:=H.ok j _ I hB hI
  by_cases hf:h.bs[j].fz=true
  ·exact hk0.fz b hIb hf
  ·exfalso
   have hB1:(h.alloc sz d es).bs[j]? =some h.bs[j]:=by
    simp only[Heap.alloc];rw[List.getElem?_append_left hj];exact hB
   obtain⟨I1,hI1⟩:∃I1,g1.inf[j]? =some I1:=⟨_,List.getElem?_eq_getElem (by rw[H1.len,hlen];omega)⟩
   have hk1:=H1.ok j _ I1 hB1 hI1
   have hlt:=H.vlt j I hI
   have hsame:=ex.inf j I1 hI1 (by rw[hk1.ver,←hk0.ver];exact hlt)
   rw[hI]at hsame
   obtain rfl:=Option.some.inj hsame
   rcases hFb with hFb|⟨k,J,hJ,hJb,hS⟩
   ·exact hk1.nf b hIb (by simpa using hf) hFb
   ·have:=H1.dist j k I J b hI1 hJ hIb hJb
    simp at hS
    omega) (fun b hb=>by
  rcases hb with hb|⟨k,J,hJ,hJb,_⟩
  ·exact H1.fin b hb
  ·exact .inr (H1.own k J b hJ hJb))
 exact⟨_,.p _ _ hp,ex2,H2⟩
theorem zin{o:Oper}{b:AOp}{i:Nat}(C:Comp P ops N o b)(hi:ops[i]? =some o)(hfl:b.isFluid=true)(R:Rel N g e h w0 own0 a w)(hp:yR T b e h){next:Act→World→Prop}{Q:Exit→Act→World→Prop}
  (hn:∀cv g' w',VRep g' w' cv (zV T b e h)→Ext g w g' w'→HRel g' h w' w0 own0→next (a.put o.dst cv) w'):wpOp P ops Q i next a w:=by
 have H:=R.heap
 have nopk:∀f xs,b.o= .call f xs→b.pk=none:=fun f xs ho=>by
  cases hp:b.pk with
  |none=>rfl
  |some q=>have:=C.mv (by rw[hp];simp);rw[ho]at this;cases this
 have nopk':∀f xs,b.o= .callv f xs→b.pk=none:=fun f xs ho=>by
  cases hp:b.pk with
  |none=>rfl
  |some q=>have:=C.mv (by rw[hp];simp);rw[ho]at this;cases this
 unfold wpOp
 rw[hi]
 simp only
 unfold yR at hp
 rcases C.g with⟨hg,hog⟩|⟨j,t,want,hog,hdj,hg⟩
 ·have hw:Region.wanted o (yielded ops a.tmps)=true:=by simp[Region.wanted,hog]
  rw[if_pos hw]
  left
  rw[hg]at hp
  simp only at hp
  split at hp
  ·rename_i f xs ho
   have hv:zV T b e h=if T.flat f=true then .c (T.qv f (xs.map (zi e)) h)else T.v f (xs.map (zi e)) h:=by unfold zV;rw[hg,ho]
   obtain⟨hgk,hp⟩:=hp
   obtain⟨c,hop,hcc⟩:=zX (C.op (nopk f xs ho)) (by rw[ho];rfl)
   rw[ho]at hcc
   split at hp
   ·rename_i hfl
    rw[if_pos hfl]at hv
    rw[hv]at hn
    have hc:=T.qok _ _ _ hp
    exact YE hc R (fun w1=>qR hop hcc R hgk hc.1 w1) fun w' k1 k2=>hn _ g w' (VRep.c' _) k1 k2
   ·rename_i hfl
    rw[if_neg hfl]at hv
    rw[hv]at hn
    have hc:=T.ok _ _ _ hp.1
    rw[hp.2]at hc
    exact Za hc R (fun w1=>qR hop hcc R hgk hc.1 w1) fun cv g' w' k1 k2 k3=>hn cv g' w' k1 k2 k3
  ·rename_i x xs ho
   have hv:zV T b e h=if T.flat (zi e x).fnId=true then .c (T.qv (zi e x).fnId (xs.map (zi e)++(zi e x).caps) h)else T.v (zi e x).fnId (xs.map (zi e)++(zi e x).caps) h:=by unfold zV;rw[hg,ho]
   obtain⟨hgk,hx,hp⟩:=hp
   obtain⟨c,hop,hcc⟩:=zX (C.op (nopk' x xs ho)) (by rw[ho];rfl)
   rw[ho]at hcc
   split at hp
   ·rename_i hfl
    rw[if_pos hfl]at hv
    rw[hv]at hn
    have hc:=T.qok _ _ _ hp
    exact YE hc R (fun w1=>kB hop hcc R hgk (V.isFn_ok hx) hc.1 w1) fun w' k1 k2=>hn _ g w' (VRep.c' _) k1 k2
   ·rename_i hfl
    rw[if_neg hfl]at hv
    rw[hv]at hn
    have hc:=T.ok _ _ _ hp.1
    rw[hp.2]at hc
    exact Za hc R (fun w1=>kB hop hcc R hgk (V.isFn_ok hx) hc.1 w1) fun cv g' w' k1 k2 k3=>hn cv g' w' k1 k2 k3
  ·rename_i n1 n2
   have hv:zV T b e h=if(b.pk.isSome||b.o.still)=true then vP b.pk b.o e h else evF b.o (zi e):=by
    unfold zV;rw[hg]
    cases hbo:b.o<;>first|rfl|exact absurd hbo (n1 _ _)|exact absurd hbo (n2 _ _)
   split at hp
   ·rename_i hs
    rw[if_pos hs]at hv
    rw[hv]at hn
    exact XI C hs R hp fun cv hcv=>hn cv g w hcv (Ext.refl g w) H
   ·rename_i hs
    rw[if_neg hs]at hv
    rw[hv]at hn
    have hs':b.pk=none∧b.o.still=false:=by
     simpa only[Bool.or_eq_true,not_or,Bool.not_eq_true,Option.isSome_eq_false_iff,Option.isNone_iff_eq_none]using hs
    have hF:b.o.isF=true:=by
     unfold AOp.isFluid AOp.isQuiet AOp.isStill at hfl
     cases hbo:b.o<;>rw[hbo]at hfl hs'<;>first|rfl|exact absurd hbo (n1 _ _)|exact absurd hbo (n2 _ _)|(simp[O.isF,O.calls,hs'.1]at hfl;cases hs'.2.symm.trans hfl)|(exfalso;simp[O.isF,O.calls,hs'.1,O.still]at hfl hs')
    obtain⟨cv,w',g',h1,h2,h3,h4,h5⟩:=zkr (C.op hs'.1) hF R hp.1
    unfold Oper.wp
    rw[h1]
    simp only[Oper.upon]
    have key:∃g2,VRep g2 w' cv (evF b.o (zi e))∧Ext g w g2 w'∧HRel g2 h w' w0 own0:=by
     have hk:=hp.2
     cases hbo:b.o<;>rw[hbo]at hF h2 h4 hk<;>try (cases hF;done)
     ·exact YM (by simp) hk h2 h3 h4 H h5
     ·exact YM (by simp) hk h2 h3 h4 H h5
    obtain⟨g2,q1,q2,q3⟩:=key
    exact hn cv g2 w' q1 q2 q3
 ·rw[hg]at hp
  simp only at hp
  obtain⟨hb,hp⟩:=hp
  have hw:=KC R hog hdj hb
  rw[hw]
  split at hp
  ·rename_i f xs ho
   have hv:zV T b e h= .gd (enB (e t) want) (if T.flat f=true then .c (T.qv f (xs.map (zi e)) h)else T.v f (xs.map (zi e)) h):=by unfold zV;rw[hg,ho]
   rw[hv]at hn
   generalize enB (e t) want=en at*
   cases en with
   |false=>simp only[Bool.false_eq_true,if_false];exact hn _ g w (.gd _ _ _ (fun h=>by cases h) fun _=>rfl) (Ext.refl g w) H
   |true=>
    simp only[if_true]
    left
    obtain⟨hgk,hp⟩:=hp rfl
    obtain⟨c,hop,hcc⟩:=zX (C.op (nopk f xs ho)) (by rw[ho];rfl)
    rw[ho]at hcc
    split at hp
    ·rename_i hfl
     rw[if_pos hfl]at hn
     have hc:=T.qok _ _ _ hp
     exact YE hc R (fun w1=>qR hop hcc R hgk hc.1 w1) fun w' k1 k2=>hn _ g w' (.gd _ _ _ (fun _=>VRep.c' _) fun h=>by cases h) k1 k2
    ·rename_i hfl
     rw[if_neg hfl]at hn
     have hc:=T.ok _ _ _ hp.1
     rw[hp.2]at hc
     exact Za hc R (fun w1=>qR hop hcc R hgk hc.1 w1) fun cv g' w' k1 k2 k3=>hn cv g' w' (.gd _ _ _ (fun _=>k1) fun h=>by cases h) k2 k3
  ·rename_i x xs ho
   have hv:zV T b e h= .gd (enB (e t) want) (.c (T.qv (zi e x).fnId (xs.map (zi e)++(zi e x).caps) h)):=by unfold zV;rw[hg,ho]
   rw[hv]at hn
   generalize enB (e t) want=en at*
   cases en with
   |false=>simp only[Bool.false_eq_true,if_false];exact hn _ g w (.gd _ _ _ (fun h=>by cases h) fun _=>rfl) (Ext.refl g w) H
   |true=>
    simp only[if_true]
    left
    obtain⟨hgk,hx,hp⟩:=hp rfl
    obtain⟨c,hop,hcc⟩:=zX (C.op (nopk' x xs ho)) (by rw[ho];rfl)
    rw[ho]at hcc
    have hc:=T.qok _ _ _ hp
    exact YE hc R (fun w1=>kB hop hcc R hgk (V.isFn_ok hx) hc.1 w1) fun w' k1 k2=>hn _ g w' (.gd _ _ _ (fun _=>VRep.c' _) fun h=>by cases h) k1 k2
  ·rename_i n1 n2
   have hv:zV T b e h= .gd (enB (e t) want) (if(b.pk.isSome||b.o.still)=true then vP b.pk b.o e h else evF b.o (zi e)):=by
    unfold zV;rw[hg]
    cases hbo:b.o<;>first|rfl|exact absurd hbo (n1 _ _)|exact absurd hbo (n2 _ _)
   rw[hv]at hn
   generalize enB (e t) want=en at*
   cases en with
   |false=>simp only[Bool.false_eq_true,if_false];exact hn _ g w (.gd _ _ _ (fun h=>by cases h) fun _=>rfl) (Ext.refl g w) H
   |true=>
    simp only[if_true]
    left
    have hp:=hp rfl
    split at hp
    ·rename_i hs
     rw[if_pos hs]at hn
     exact XI C hs R hp fun cv hcv=>hn cv g w (.gd _ _ _ (fun _=>hcv) fun h=>by cases h) (Ext.refl g w) H
    ·rename_i hs
     rw[if_neg hs]at hn
     have hs':b.pk=none∧b.o.still=false:=by
      simpa only[Bool.or_eq_true,not_or,Bool.not_eq_true,Option.isSome_eq_false_iff,Option.isNone_iff_eq_none]using hs
     have hF:b.o.isF=true:=by
      unfold AOp.isFluid AOp.isQuiet AOp.isStill at hfl
      cases hbo:b.o<;>rw[hbo]at hfl hs'<;>first|rfl|exact absurd hbo (n1 _ _)|exact absurd hbo (n2 _ _)|(simp[O.isF,O.calls,hs'.1]at hfl;cases hs'.2.symm.trans hfl)|(exfalso;simp[O.isF,O.calls,hs'.1,O.still]at hfl hs')
     obtain⟨cv,w',g',h1,h2,h3,h4,h5⟩:=zkr (C.op hs'.1) hF R hp.1
     unfold Oper.wp
     rw[h1]
     simp only[Oper.upon]
     have key:∃g2,VRep g2 w' cv (evF b.o (zi e))∧Ext g w g2 w'∧HRel g2 h w' w0 own0:=by
      have hk:=hp.2
      cases hbo:b.o<;>rw[hbo]at hF h2 h4 hk<;>try (cases hF;done)
      ·exact YM (by simp) hk h2 h3 h4 H h5
      ·exact YM (by simp) hk h2 h3 h4 H h5
     obtain⟨g2,q1,q2,q3⟩:=key
     exact hn cv g2 w' (.gd _ _ _ (fun _=>q1) fun h=>by cases h) q2 q3
def eAt(T:Orc P)(h:Heap):List AOp→(Nat→V)→Nat→(Nat→V)
 |_,e,0=>e
 | [],e,_+1=>e
 |b::r,e,k+1=>eAt T h r (zx e b.dst (zV T b e h)) k
theorem zaB:∀(bs:List AOp)(e:Nat→V)(k:Nat)(b:AOp),bs[k]? =some b→eAt T h bs e (k+1)=zx (eAt T h bs e k) b.dst (zV T b (eAt T h bs e k) h)
 | [],_,_,_,hb=>by simp at hb
 |c::r,e,0,b,hb=>by
  simp at hb;subst hb
  simp only[eAt]
 |c::r,e,k+1,b,hb=>by
  have:=zaB r (zx e c.dst (zV T c e h)) k b (by simpa using hb)
  simpa only[eAt]using this
theorem ze0{K:(Nat→V)→Prop}:∀(bs:List AOp)(e:Nat→V),W6 T bs e h K→(∀k b,bs[k]? =some b→yR T b (eAt T h bs e k) h)∧K (eAt T h bs e bs.length)
 | [],e,hw=>⟨by simp,hw⟩
 |c::r,e,hw=>by
  obtain⟨h1,h2⟩:=ze0 r _ hw.2
  refine⟨fun k b hb=> ?_,by simpa only[eAt,List.length_cons]using h2⟩
  cases k with
  |zero=>simp at hb;subst hb;exact hw.1
  |succ k=>simpa only[eAt]using h1 k b (by simpa using hb)
theorem Wo{K K':(Nat→V)→Prop}(hK:∀e,K e→K' e):∀(bs:List AOp)(e:Nat→V),W6 T bs e h K→W6 T bs e h K'
 | [],e,hw=>hK e hw
 |_::r,_,hw=>⟨hw.1,Wo hK r _ hw.2⟩
def eL(T:Orc P)(h:Heap)(bs:List AOp)(e:Nat→V)(listed:Array Bool)(t:Nat):V:=
 match(List.range bs.length).find? (fun k=>listed.getD k false&&((bs[k]?).bind (·.dst))==some t)with
 |some k=>match bs[k]? with
  |some b=>zV T b (eAt T h bs e k) h
  |none=>.any
 |none=>e t
structure Dist (bs:List AOp):Prop where
 has:∀(k:Nat)(b:AOp),bs[k]? =some b→∃d,b.dst=some d
 ne:∀(j k:Nat)(b c:AOp)(d:Nat),bs[j]? =some b→bs[k]? =some c→b.dst=some d→c.dst=some d→j=k
theorem Jx{bs:List AOp}(D:Dist bs){listed:Array Bool}{k:Nat}{b:AOp}{t:Nat}(hb:bs[k]? =some b)(hd:b.dst=some t)(hl:listed.getD k false=true):eL T h bs e listed t=zV T b (eAt T h bs e k) h:=by
 have hk:k<bs.length:=(List.getElem?_eq_some_iff.1 hb).1
 unfold eL
 cases hf:(List.range bs.length).find? (fun k=>listed.getD k false&&((bs[k]?).bind (·.dst))==some t)with
 |none=>
  have:=List.find?_eq_none.1 hf k (List.mem_range.2 hk)
  simp[hl,hb,hd]at this
 |some j=>
  have h1:=List.find?_some hf
  simp only[Bool.and_eq_true,beq_iff_eq,Option.bind_eq_some_iff]at h1
  obtain⟨_,c,hc,hcd⟩:=h1
  have:=D.ne j k c b t hc hb hcd hd
  subst this
  simp only[hb]
theorem qp{bs:List AOp}{listed:Array Bool}{t:Nat}(hn:∀k b,bs[k]? =some b→b.dst=some t→listed.getD k false=false):eL T h bs e listed t=e t:=by
 unfold eL
 cases hf:(List.range bs.length).find? (fun k=>listed.getD k false&&((bs[k]?).bind (·.dst))==some t)with
 |none=>rfl
 |some j=>
  have h1:=List.find?_some hf
  simp only[Bool.and_eq_true,beq_iff_eq,Option.bind_eq_some_iff]at h1
  obtain⟨h1,c,hc,hcd⟩:=h1
  rw[hn j c hc hcd]at h1;cases h1
theorem q8{bs:List AOp}{t:Nat}:∀(k:Nat),(∀j b,j<k→bs[j]? =some b→b.dst≠some t)→k≤bs.length→eAt T h bs e k t=e t
 |0,_,_=>by cases bs<;>rfl
 |k+1,hn,hk=>by
  obtain⟨b,hb⟩:∃b,bs[k]? =some b:=⟨_,List.getElem?_eq_getElem (by omega)⟩
  rw[zaB bs e k b hb]
  have h1:=hn k b (by omega) hb
  have ih:=q8 k (fun j b hj=>hn j b (by omega)) (by omega)
  cases hd:b.dst with
  |none=>exact ih
  |some d=>
   have:¬t=d:=fun e=>h1 (by rw[hd,e])
   simp only[zx,upd,if_neg this]
   exact ih
theorem K2{bs:List AOp}(D:Dist bs){t j:Nat}{b:AOp}(hb:bs[j]? =some b)(hd:b.dst=some t):∀(k:Nat),j<k→k≤bs.length→eAt T h bs e k t=zV T b (eAt T h bs e j) h
 |0,hj,_=>by omega
 |k+1,hj,hk=>by
  obtain⟨c,hc⟩:∃c,bs[k]? =some c:=⟨_,List.getElem?_eq_getElem (by omega)⟩
  rw[zaB bs e k c hc]
  by_cases hjk:j=k
  ·subst hjk
   rw[hb]at hc
   obtain rfl:=Option.some.inj hc
   rw[hd]
   simp only[zx,upd,if_true]
  ·have ih:=K2 D hb hd k (by omega) (by omega)
   obtain⟨d,hcd⟩:=D.has k c hc
   rw[hcd]
   have:¬t=d:=fun e=>hjk (D.ne j k b c t hb hc hd (by rw[hcd,e]))
   simp only[zx,upd,if_neg this]
   exact ih
theorem zij{bs:List AOp}(D:Dist bs){listed:Array Bool}{i:Nat}{b:AOp}(hb:bs[i]? =some b)(his:i<listed.size)(_hun:listed.getD i true=false):
  eL T h bs e (listed.setIfInBounds i true)=zx (eL T h bs e listed) b.dst (zV T b (eAt T h bs e i) h):=by
 obtain⟨d,hd⟩:=D.has i b hb
 rw[hd]
 funext t
 simp only[zx,upd]
 by_cases ht:t=d
 ·subst ht
  rw[if_pos rfl]
  exact Jx D hb hd (by simp[his])
 ·rw[if_neg ht]
  by_cases hex:∃(k:Nat)(c:AOp),bs[k]? =some c∧c.dst=some t
  ·obtain⟨k,c,hc,hcd⟩:=hex
   have hki:i≠k:=fun e=>by
    subst e
    rw[hb]at hc
    obtain rfl:=Option.some.inj hc
    rw[hd]at hcd
    exact ht (Option.some.inj hcd).symm
   cases hl:listed.getD k false with
   |true=>rw[Jx D hc hcd hl,Jx D hc hcd (by rw[getD_set_ne false hki];exact hl)]
   |false=>
    have hh:∀l:Array Bool,l.getD k false=false→∀k' b',bs[k']? =some b'→b'.dst=some t→l.getD k' false=false:=fun l hlk k' b' hb' hd'=>by
     have:=D.ne k' k b' c t hb' hc hd' hcd
     subst this;exact hlk
    rw[qp (hh _ hl),qp (hh _ (by rw[getD_set_ne false hki];exact hl))]
  ·rw[qp (fun k c hc hcd=>absurd ⟨k,c,hc,hcd⟩ hex),qp (fun k c hc hcd=>absurd ⟨k,c,hc,hcd⟩ hex)]
theorem zlb{bs:List AOp}{n:Nat}(hB:zla ops bs n=true):Dist (bs.take n)∧(∀(k:Nat)(b:AOp),(bs.take n)[k]? =some b→b.isFluid=true)∧
  ∀(j k:Nat)(b c:AOp),j<k→(bs.take n)[j]? =some b→(bs.take n)[k]? =some c→Region.waitsFor .any ops k j=true∨b.apart c=true:=by
 unfold zla at hB
 simp only[Bool.and_eq_true]at hB
 obtain⟨h1,h2⟩:=hB
 have h1':∀(k:Nat)(b:AOp),(bs.take n)[k]? =some b→b.isFluid=true∧b.dst.isSome=true:=fun k b hb=>by
  have:=List.all_eq_true.1 h1 b (List.mem_of_getElem? hb)
  simpa using this
 have key:∀(j k:Nat)(b c:AOp),j<k→(bs.take n)[j]? =some b→(bs.take n)[k]? =some c→b.dst≠c.dst∧(Region.waitsFor .any ops k j=true∨b.apart c=true):=fun j k b c hjk hb hc=>by
  have hk:k<n:=by
   have:=(List.getElem?_eq_some_iff.1 hc).1
   rw[List.length_take]at this;omega
  have:=List.all_eq_true.1 (List.all_eq_true.1 h2 k (List.mem_range.2 hk)) j (List.mem_range.2 hjk)
  rw[jo hb,jo hc]at this
  simp only[Bool.and_eq_true,Bool.or_eq_true,bne_iff_ne]at this
  exact⟨this.1.2,this.2⟩
 refine⟨⟨fun k b hb=>Option.isSome_iff_exists.1 (h1' k b hb).2,fun j k b c d hb hc hbd hcd=> ?_⟩,fun k b hb=>(h1' k b hb).1,fun j k b c hjk hb hc=>(key j k b c hjk hb hc).2⟩
 rcases Nat.lt_trichotomy j k with hlt|heq|hlt
 ·exact absurd (hbd.trans hcd.symm) (key j k b c hlt hb hc).1
 ·exact heq
 ·exact absurd (hcd.trans hbd.symm) (key k j c b hlt hc hb).1
theorem qO{b c:AOp}(hab:b.apart c=true){d d':Nat}(hd:b.dst=some d)(hd':c.dst=some d'):d∉c.reads∧d'∉b.reads:=by
 unfold AOp.apart at hab
 rw[hd,hd']at hab
 simpa using hab
def kL(listed:Array Bool):Nat→Nat
 |0=>0
 |k+1=>kL listed k+(if listed.getD k true=true then 0 else 1)
theorem Qr{listed:Array Bool}{i:Nat}(his:i<listed.size)(hun:listed.getD i true=false):∀k,kL (listed.setIfInBounds i true) k+(if i<k then 1 else 0)=kL listed k
 |0=>by simp[kL]
 |k+1=>by
  have ih:=Qr his hun k
  simp only[kL]
  by_cases hik:i=k
  ·subst hik
   have e1:(listed.setIfInBounds i true).getD i true=true:=by simp[his]
   simp only[e1,hun,if_true,Bool.false_eq_true,if_false]
   rw[if_pos (show i<i+1 by omega)]
   rw[if_neg (show ¬i<i by omega)]at ih
   omega
  ·rw[getD_set_ne true hik]
   by_cases hlt:i<k
   ·rw[if_pos (show i<k+1 by omega)];rw[if_pos hlt]at ih;omega
   ·rw[if_neg (show ¬i<k+1 by omega)];rw[if_neg hlt]at ih;omega
theorem Zb{listed:Array Bool}:∀k,kL listed k=0→∀j,j<k→listed.getD j true=true
 |0,_,j,hj=>by omega
 |k+1,hz,j,hj=>by
  simp only[kL]at hz
  by_cases hk:listed.getD k true=true
  ·by_cases e:j=k
   ·subst e;exact hk
   ·exact Zb k (by omega) j (by omega)
  ·rw[if_neg hk]at hz;omega
theorem Qq{listed:Array Bool}:∀k,0<kL listed k→∃j,j<k∧listed.getD j true=false∧∀i,i<j→listed.getD i true=true
 |0,hz=>by simp[kL]at hz
 |k+1,hz=>by
  by_cases hp:0<kL listed k
  ·obtain⟨j,h1,h2,h3⟩:=Qq k hp
   exact⟨j,by omega,h2,h3⟩
  ·have h0:kL listed k=0:=by omega
   simp only[kL,h0]at hz
   by_cases hk:listed.getD k true=true
   ·rw[if_pos hk]at hz;omega
   ·exact⟨k,by omega,by simpa using hk,fun i hi=>Zb k h0 i hi⟩
theorem kT{md:Region.Mode}{g' n:Nat}:∀(f k:Nat)(L:Array Bool),Region.lexHead md ops g' f k L=true→k+f=n→L.size=ops.size→n≤ops.size→(∀j,j<ops.size→L.getD j false=decide (j<k))→
  (∃L':Array Bool,L'.size=ops.size∧(∀j,j<ops.size→L'.getD j false=decide (j<n))∧Region.seqB md ops g' n L'=true)∧
  ∀j o,k≤j→j<n→ops[j]? =some o→∀x∈o.after,Region.binds md x=true→x.on<j
 |0,k,L,hB,hk,hs,hn,hL=>by
  have:k=n:=by omega
  subst this
  exact⟨⟨L,hs,hL,by simpa[Region.lexHead]using hB⟩,fun j o h1 h2=>by omega⟩
 |f+1,k,L,hB,hk,hs,hn,hL=>by
  simp only[Region.lexHead,Bool.and_eq_true]at hB
  obtain⟨⟨hr,_⟩,hB'⟩:=hB
  have hr':k∈Region.ready md ops L:=by simpa using hr
  obtain⟨h1,h2⟩:=kT f (k+1) (L.setIfInBounds k true) hB' (by omega) (by simpa using hs) hn (fun j hj=>by
   by_cases e:k=j
   ·subst e;simp[show k<L.size by omega]
   ·rw[getD_set_ne false e,hL j hj]
    apply decide_eq_decide.2;omega)
  refine⟨h1,fun j o hj1 hj2 hjo x hx hb=> ?_⟩
  by_cases e:j=k
  ·subst e
   obtain⟨_,o',ho',hall⟩:=mem_ready.1 hr'
   have:o'=o:=Option.some.inj (ho'.symm.trans hjo)
   subst this
   have h3:=hall x hx hb
   rcases Nat.lt_or_ge x.on ops.size with hlt|hge
   ·rw[hL _ hlt]at h3;simpa using h3
   ·simp[Array.getElem?_eq_none (show L.size≤x.on by omega)]at h3
  ·exact h2 j o (by omega) hj2 hjo x hx hb
theorem ju:∀ {l:List Oper}{bs:List AOp},z3 P ops N l=some bs→bs.length=l.length∧∀(i:Nat)(o:Oper),l[i]? =some o→∃b,bs[i]? =some b∧zfj P ops N o=some b
 | [],bs,hc=>by simp[z3]at hc;subst hc;simp
 |o::l,bs,hc=>by
  simp only[z3,Option.bind_eq_some_iff,Option.map_eq_some_iff]at hc
  obtain⟨b,hb,cs,hcs,rfl⟩:=hc
  obtain⟨h1,h2⟩:=ju hcs
  refine⟨by simp[h1],fun i o' ho=> ?_⟩
  cases i with
  |zero=>simp at ho;subst ho;exact⟨b,rfl,hb⟩
  |succ i=>simpa using h2 i o' (by simpa using ho)
theorem jX:∀(n:Nat){l:List Oper}{bs:List AOp},z3 P ops N l=some bs→z3 P ops N (l.drop n)=some (bs.drop n)
 |0,l,bs,hc=>by simpa using hc
 |n+1,[],bs,hc=>by simp[z3]at hc;subst hc;simp[z3]
 |n+1,o::l,bs,hc=>by
  simp only[z3,Option.bind_eq_some_iff,Option.map_eq_some_iff]at hc
  obtain⟨b,hb,cs,hcs,rfl⟩:=hc
  simpa using jX n hcs
theorem zpO{n:Nat}{bs:List AOp}{K:(Nat→V)→Heap→Prop}{Q:Exit→Act→World→Prop}(hc:z3 P ops N ops.toList=some bs)(hT:Region.lexTailB .any ops n=true)(hB:zla ops bs n=true){e0:Nat→V}
  (hw:W6 T (bs.take n) e0 h fun e'=>W8 P (bs.drop n) e' h K) (hK:∀g' e' h' a' w',K e' h'→Rel N g' e' h' w0 own0 a' w'→Q .normal a' w'):
  ∀(f:Nat)(listed:Array Bool)(a:Act)(w:World),HeadInv .any ops n listed→kL listed n=f→(∃g,Rel N g (eL T h (bs.take n) e0 listed) h w0 own0 a w)→wpAny P .any ops Q (f+(ops.size - n)) listed a w:=by
 simp only[Region.lexTailB,Bool.and_eq_true,decide_eq_true_eq]at hT
 obtain⟨⟨⟨⟨hsel,hn⟩,hs⟩,hch⟩,hlex⟩:=hT
 obtain⟨hlen,hget⟩:=ju hc
 have hlen':bs.length=ops.size:=by simpa using hlen
 have hhl:(bs.take n).length=n:=by rw[List.length_take];omega
 obtain⟨D,hflu,hap⟩:=zlb hB
 obtain⟨hP,hfin⟩:=ze0 (bs.take n) e0 hw
 rw[hhl]at hfin
 obtain⟨⟨L',hL1,hL2,hL3⟩,hafter⟩:=kT (n:=n) n 0 (Array.replicate ops.size false) hlex (by omega) (by simp) (by omega) (fun j hj=>by rw[getD_replicate_false];simp)
 intro f
 induction f with
 |zero=>
  intro listed a w inv hcnt hR
  obtain⟨g,R⟩:=hR
  have hall:=Zb n hcnt
  have hallF:∀j,j<n→listed.getD j false=true:=fun j hj=>by
   have hjs:j<listed.size:=by rw[inv.size];omega
   have:=hall j hj
   simpa[hjs]using this
  have hLeq:L'=listed:=by
   apply Array.ext (by rw[hL1,inv.size])
   intro j hj1 hj2
   have h1:=hL2 j (by omega)
   have h2:listed.getD j false=decide (j<n):=by
    by_cases hjn:j<n
    ·rw[hallF j hjn];simp[hjn]
    ·rw[getD_both (inv.tail j (by omega) (by omega))];simp[hjn]
   have h3:L'.getD j false=L'[j]:=by simp[hj1]
   have h4:listed.getD j false=listed[j]:=by simp[hj2]
   rw[←h3,←h4,h1,h2]
  subst hLeq
  have heq:eL T h (bs.take n) e0 L'=eAt T h (bs.take n) e0 n:=by
   funext t
   by_cases hex:∃(k:Nat)(c:AOp),(bs.take n)[k]? =some c∧c.dst=some t
   ·obtain⟨k,c,hk,hd⟩:=hex
    have hkn:k<n:=by have:=(List.getElem?_eq_some_iff.1 hk).1;omega
    rw[Jx D hk hd (hallF k hkn),K2 D hk hd n hkn (by omega)]
   ·rw[qp (fun k c hk hd=>absurd ⟨k,c,hk,hd⟩ hex),q8 n (fun j b hj hb hd=>hex ⟨j,b,hb,hd⟩) (by omega)]
  rw[heq]at R
  have hlist:=j9 (Q:=Q) (jX (ops:=ops) n hc) R hfin hK
  have hdl:(ops.toList.drop n).length=ops.size - n:=by simp
  have:=wpAny_of_seq (md:=.any) (Q':=Q) (ops.toList.drop n) n L' a w (fun j=>by simp[List.getElem?_drop]) (by rw[hdl];exact hL3) hlist
  rw[hdl]at this
  rwa [Nat.zero_add]
 |succ f ih=>
  intro listed a w inv hcnt hR
  obtain⟨g,R⟩:=hR
  obtain⟨i0,hi0,hun0,hmin⟩:=Qq (listed:=listed) n (by omega)
  have hready0:i0∈Region.ready .any ops listed:=by
   obtain⟨o,ho⟩:∃o,ops[i0]? =some o:=⟨_,Array.getElem?_eq_getElem (by omega)⟩
   refine mem_ready.2 ⟨hun0,o,ho,fun x hx hb=> ?_⟩
   have hlt:=hafter i0 o (by omega) hi0 ho x hx hb
   have:=hmin _ hlt
   have hxs:x.on<listed.size:=by rw[inv.size];omega
   simpa[hxs]using this
  rw[show f+1+(ops.size - n)=(f+(ops.size - n))+1 by omega]
  refine⟨fun h0=>(by rw[h0]at hready0;cases hready0),fun i hi=> ?_⟩
  have hin:i<n:=by
   rcases Nat.lt_or_ge i n with hlt|hge
   ·exact hlt
   ·exact absurd hi (tail_waits hs hch hn inv _ i0 rfl hi0 hun0 i hge)
  obtain⟨hun,o,ho,hall⟩:=mem_ready.1 hi
  have hol:ops.toList[i]? =some o:=by simpa using ho
  obtain⟨b,hb,hcb⟩:=hget i o hol
  have hb':(bs.take n)[i]? =some b:=by rw[List.getElem?_take,if_pos hin];exact hb
  have C:=Zm hcb
  have his:i<listed.size:=by rw[inv.size];omega
  obtain⟨d,hd⟩:=D.has i b hb'
  have hag:∀t∈b.reads,eAt T h (bs.take n) e0 i t=eL T h (bs.take n) e0 listed t:=by
   intro t ht
   by_cases hex:∃(k:Nat)(c:AOp),(bs.take n)[k]? =some c∧c.dst=some t
   ·obtain⟨k,c,hk,hcd⟩:=hex
    have hone:∀k' c',(bs.take n)[k']? =some c'→c'.dst=some t→k'=k:=fun k' c' h1 h2=>D.ne k' k c' c t h1 hk h2 hcd
    rcases Nat.lt_trichotomy k i with hlt|heq|hlt
    ·rcases hap k i c b hlt hk hb' with hwt|hap
     ·obtain⟨o',ho',x,hx,hbd,hon⟩:=Region.waitsFor_spec hwt
      have:o'=o:=Option.some.inj (ho'.symm.trans ho)
      subst this
      have hlk:=hall x hx hbd
      rw[hon]at hlk
      rw[K2 D hk hcd i hlt (by omega),Jx D hk hcd hlk]
     ·exact absurd ht (qO hap hcd hd).1
    ·subst heq
     rw[q8 k (fun j b' hj hb2 hd2=>by have:=hone j b' hb2 hd2;omega) (by omega),qp (fun k' c' h1 h2=>by
      have:=hone k' c' h1 h2;subst this;exact getD_both hun)]
    ·rcases hap i k b c hlt hb' hk with hwt|hap
     ·obtain⟨o',ho',x,hx,hbd,hon⟩:=Region.waitsFor_spec hwt
      have hkl:listed.getD k false=false:=by
       cases hl:listed.getD k false with
       |false=>rfl
       |true=>
        have:=inv.closed k o' ho' hl x hx hbd
        rw[hon,getD_both hun]at this
        cases this
      rw[q8 i (fun j b' hj hb2 hd2=>by have:=hone j b' hb2 hd2;omega) (by omega),qp (fun k' c' h1 h2=>by
       have:=hone k' c' h1 h2;subst this;exact hkl)]
     ·exact absurd ht (qO hap hd hcd).2
   ·rw[q8 i (fun j b' hj hb2 hd2=>hex ⟨j,b',hb2,hd2⟩) (by omega),qp (fun k c hk hcd=>absurd ⟨k,c,hk,hcd⟩ hex)]
  obtain⟨q1,q2⟩:=Zf (T:=T) hag C.mv h
  have hPi:=hP i b hb'
  rw[q1]at hPi
  refine zin C ho (hflu i b hb') R hPi fun cv g' w' hv hex hH=> ?_
  refine ih (listed.setIfInBounds i true) (a.put o.dst cv) w' (inv.set hi hin) ?_ ⟨g',?_⟩
  ·have:=Qr his hun n
   rw[if_pos hin]at this
   omega
  ·rw[zij D hb' his hun,q2,←C.dst]
   exact(R.mono hex hH).put C.lt hv
theorem zhK{K:(Nat→V)→Prop}:∀(bs:List AOp)(e:Nat→V),XH T bs e h h' K→
  (∀k b,bs[k]? =some b→yR T b (eAt T h bs e k) h∧yR T b (eAt T h bs e k) h'∧zV T b (eAt T h bs e k) h'=zV T b (eAt T h bs e k) h)∧K (eAt T h bs e bs.length)
 | [],e,hw=>⟨by simp,hw⟩
 |c::r,e,hw=>by
  obtain⟨h1,h2⟩:=zhK r _ hw.2.2.2
  refine⟨fun k b hb=> ?_,by simpa only[eAt,List.length_cons]using h2⟩
  cases k with
  |zero=>simp at hb;subst hb;exact⟨hw.1,hw.2.1,hw.2.2.1⟩
  |succ k=>simpa only[eAt]using h1 k b (by simpa using hb)
theorem zb6{K K':(Nat→V)→Prop}(hK:∀e,K e→K' e):∀(bs:List AOp)(e:Nat→V),XH T bs e h h' K→XH T bs e h h' K'
 | [],e,hw=>hK e hw
 |_::r,_,hw=>⟨hw.1,hw.2.1,hw.2.2.1,zb6 hK r _ hw.2.2.2⟩
theorem zqG{bs:List AOp}{listed listed':Array Bool}(hl:∀k,k<bs.length→listed.getD k false=listed'.getD k false):eL T h bs e listed=eL T h bs e listed':=by
 funext t
 unfold eL
 have:(List.range bs.length).find? (fun k=>listed.getD k false&&((bs[k]?).bind (·.dst))==some t)=(List.range bs.length).find? (fun k=>listed'.getD k false&&((bs[k]?).bind (·.dst))==some t):=by
  have key:∀(l:List Nat),(∀k∈l,k<bs.length)→l.find? (fun k=>listed.getD k false&&((bs[k]?).bind (·.dst))==some t)=l.find? (fun k=>listed'.getD k false&&((bs[k]?).bind (·.dst))==some t):=by
   intro l
   induction l with
   |nil=>intro _;rfl
   |cons k l ih=>
    intro hk
    simp only[List.find?_cons,hl k (hk k (by simp)),ih fun k' hk'=>hk k' (by simp[hk'])]
  exact key _ fun k hk=>List.mem_range.1 hk
 rw[this]
def eLB(T:Orc P)(h:Heap)(bs:List AOp)(e:Nat→V)(n d:Nat)(p:V)(listed:Array Bool)(t:Nat):V:=
 if listed.getD n false=true∧t=d then p else eL T h bs e listed t
theorem zlc{bs:List AOp}{n:Nat}(hB:zpN ops bs n=true):∃c d,bs[n]? =some c∧c.dst=some d∧c.g=none∧c.pk=none∧c.o.isBox=true∧c.reads= []∧Dist (bs.take (n+1))∧(∀(k:Nat)(b:AOp),(bs.take n)[k]? =some b→b.isFluid=true)∧
  ∀(j k:Nat)(b c:AOp),j<k→(bs.take (n+1))[j]? =some b→(bs.take (n+1))[k]? =some c→Region.waitsFor .any ops k j=true∨b.apart c=true:=by
 unfold zpN at hB
 simp only[Bool.and_eq_true]at hB
 obtain⟨⟨h1,hbox⟩,h2⟩:=hB
 split at hbox
 ·rename_i c hc
  simp only[Bool.and_eq_true,Option.isNone_iff_eq_none,List.isEmpty_iff]at hbox
  obtain⟨⟨⟨⟨b1,b2⟩,b3⟩,b4⟩,b5⟩:=hbox
  obtain⟨d,hd⟩:=Option.isSome_iff_exists.1 b3
  have h1':∀(k:Nat)(b:AOp),(bs.take n)[k]? =some b→b.isFluid=true∧b.dst.isSome=true:=fun k b hb=>by
   have:=List.all_eq_true.1 h1 b (List.mem_of_getElem? hb)
   simpa using this
  have key:∀(j k:Nat)(b c:AOp),j<k→(bs.take (n+1))[j]? =some b→(bs.take (n+1))[k]? =some c→b.dst≠c.dst∧(Region.waitsFor .any ops k j=true∨b.apart c=true):=fun j k b c hjk hb hc=>by
   have hk:k<n+1:=by
    have:=(List.getElem?_eq_some_iff.1 hc).1
    rw[List.length_take]at this;omega
   have:=List.all_eq_true.1 (List.all_eq_true.1 h2 k (List.mem_range.2 hk)) j (List.mem_range.2 hjk)
   rw[jo hb,jo hc]at this
   simp only[Bool.and_eq_true,Bool.or_eq_true,bne_iff_ne]at this
   exact⟨this.1.2,this.2⟩
  refine⟨c,d,hc,hd,b1,b2,b4,b5,⟨fun k b hb=> ?_,fun j k b c d hb hc hbd hcd=> ?_⟩,fun k b hb=>(h1' k b hb).1,fun j k b c hjk hb hc=>(key j k b c hjk hb hc).2⟩
  ·have hk:k<n+1:=by
    have:=(List.getElem?_eq_some_iff.1 hb).1
    rw[List.length_take]at this;omega
   by_cases e:k=n
   ·subst e
    have:=jo hb
    rw[hc]at this
    obtain rfl:=Option.some.inj this
    exact⟨d,hd⟩
   ·exact Option.isSome_iff_exists.1 (h1' k b (by rw[List.getElem?_take,if_pos (by omega)];exact jo hb)).2
  ·rcases Nat.lt_trichotomy j k with hlt|heq|hlt
   ·exact absurd (hbd.trans hcd.symm) (key j k b c hlt hb hc).1
   ·exact heq
   ·exact absurd (hcd.trans hbd.symm) (key k j c b hlt hc hb).1
 ·cases hbox
theorem zlf{n:Nat}{bs:List AOp}{K:(Nat→V)→Heap→Prop}{Q:Exit→Act→World→Prop}(hc:z3 P ops N ops.toList=some bs)(hT:Region.lexTailB .any ops (n+1)=true)(hB:zpN ops bs n=true){e0:Nat→V}
  (hw:XH T (bs.take n) e0 h (Jl bs[n]? e0 h) fun e'=>Wu bs[n]? e0 h=true∧W8 P (bs.drop (n+1)) (zfd bs[n]? e' h) (Jl bs[n]? e0 h) K) (hK:∀g' e' h' a' w',K e' h'→Rel N g' e' h' w0 own0 a' w'→Q .normal a' w')
  {a0:Act} {w00:World} (hR0:∃g,Rel N g e0 h w0 own0 a0 w00):wpAny P .any ops Q ops.size (Array.replicate ops.size false) a0 w00:=by
 simp only[Region.lexTailB,Bool.and_eq_true,decide_eq_true_eq]at hT
 obtain⟨⟨⟨⟨hsel,hn⟩,hs⟩,hch⟩,hlex⟩:=hT
 obtain⟨hlen,hget⟩:=ju hc
 have hlen':bs.length=ops.size:=by simpa using hlen
 have hhl:(bs.take n).length=n:=by rw[List.length_take];omega
 obtain⟨c,d,hcn,hcd,hcg,hcpk,hcbox,hcr,D1,hflu,hap1⟩:=zlc hB
 have up:∀ {k:Nat}{b:AOp},(bs.take n)[k]? =some b→k<n∧(bs.take (n+1))[k]? =some b:=fun{k b} hb=>by
  have hk:=(List.getElem?_eq_some_iff.1 hb).1
  exact⟨by omega,by rw[List.getElem?_take,if_pos (by omega)];exact jo hb⟩
 have hcn1:(bs.take (n+1))[n]? =some c:=by rw[List.getElem?_take,if_pos (by omega)];exact hcn
 have D:Dist (bs.take n):=⟨fun k b hb=>D1.has k b (up hb).2,fun j k b c d hb hc=>D1.ne j k b c d (up hb).2 (up hc).2⟩
 have hdne:∀ {k:Nat}{b:AOp}{t:Nat},(bs.take n)[k]? =some b→b.dst=some t→t≠d:=fun{k b t} hb hbt e=>by
  subst e
  have:=D1.ne k n b c t (up hb).2 hcn1 hbt hcd
  have:=(up hb).1
  omega
 rw[hcn]at hw
 simp only[Jl,zfd,Wu]at hw
 generalize hHA:(evE c.o (zi e0) h).2.1=hA at*
 obtain⟨hP,hfin⟩:=zhK (bs.take n) e0 hw
 rw[hhl]at hfin
 have hcl:∀e:Nat→V,evE c.o (zi e) h=evE c.o (zi e0) h∧okE c.o e h=okE c.o e0 h:=fun e=>by
  have hx:c.o.xs.flatMap X.temps= []:=by
   have:=hcr
   unfold AOp.reads at this
   rw[hcpk]at this
   exact(List.append_eq_nil_iff.1 this).2
  have hx':∀t∈c.o.xs.flatMap X.temps,e t=e0 t:=fun t ht=>by rw[hx]at ht;cases ht
  exact⟨Yn (ku hx').2 h,X6 hx' h⟩
 obtain⟨⟨L',hL1,hL2,hL3⟩,hafter⟩:=kT (n:=n+1) (n+1) 0 (Array.replicate ops.size false) hlex (by omega) (by simp) (by omega) (fun j hj=>by rw[getD_replicate_false];simp)
 generalize hpp:(evE c.o (zi e0) h).1=pp at*
 have main:∀(f:Nat)(listed:Array Bool)(a:Act)(w:World),HeadInv .any ops (n+1) listed→kL listed (n+1)=f→
  (∃g,Rel N g (eLB T h (bs.take n) e0 n d pp listed) (if listed.getD n false=true then hA else h) w0 own0 a w)→wpAny P .any ops Q (f+(ops.size - (n+1))) listed a w:=by
  intro f
  induction f with
  |zero=>
   intro listed a w inv hcnt hR
   obtain⟨g,R⟩:=hR
   have hall:=Zb (n+1) hcnt
   have hallF:∀j,j<n+1→listed.getD j false=true:=fun j hj=>by
    have hjs:j<listed.size:=by rw[inv.size];omega
    have:=hall j hj
    simpa[hjs]using this
   have hLeq:L'=listed:=by
    apply Array.ext (by rw[hL1,inv.size])
    intro j hj1 hj2
    have h1:=hL2 j (by omega)
    have h2:listed.getD j false=decide (j<n+1):=by
     by_cases hjn:j<n+1
     ·rw[hallF j hjn];simp[hjn]
     ·rw[getD_both (inv.tail j (by omega) (by omega))];simp[hjn]
    have h3:L'.getD j false=L'[j]:=by simp[hj1]
    have h4:listed.getD j false=listed[j]:=by simp[hj2]
    rw[←h3,←h4,h1,h2]
   subst hLeq
   have hnl:=hallF n (by omega)
   have heq:eLB T h (bs.take n) e0 n d pp L'=zx (eAt T h (bs.take n) e0 n) c.dst pp:=by
    rw[hcd]
    funext t
    simp only[eLB,hnl,true_and,zx,upd]
    by_cases htd:t=d
    ·rw[if_pos htd,if_pos htd]
    ·rw[if_neg htd,if_neg htd]
     by_cases hex:∃(k:Nat)(c:AOp),(bs.take n)[k]? =some c∧c.dst=some t
     ·obtain⟨k,c',hk,hd'⟩:=hex
      have hkn:=(up hk).1
      rw[Jx D hk hd' (hallF k (by omega)),K2 D hk hd' n hkn (by omega)]
     ·rw[qp (fun k c hk hd=>absurd ⟨k,c,hk,hd⟩ hex),q8 n (fun j b hj hb hd=>hex ⟨j,b,hb,hd⟩) (by omega)]
   rw[heq,hnl]at R
   simp only[if_true]at R
   have hfin2:=hfin.2
   rw[(hcl (eAt T h (bs.take n) e0 n)).1,hpp]at hfin2
   have hlist:=j9 (Q:=Q) (jX (ops:=ops) (n+1) hc) R hfin2 hK
   have hdl:(ops.toList.drop (n+1)).length=ops.size - (n+1):=by simp
   have:=wpAny_of_seq (md:=.any) (Q':=Q) (ops.toList.drop (n+1)) (n+1) L' a w (fun j=>by simp[List.getElem?_drop]) (by rw[hdl];exact hL3) hlist
   rw[hdl]at this
   rwa [Nat.zero_add]
  |succ f ih=>
   intro listed a w inv hcnt hR
   obtain⟨g,R⟩:=hR
   obtain⟨i0,hi0,hun0,hmin⟩:=Qq (listed:=listed) (n+1) (by omega)
   have hready0:i0∈Region.ready .any ops listed:=by
    obtain⟨o,ho⟩:∃o,ops[i0]? =some o:=⟨_,Array.getElem?_eq_getElem (by omega)⟩
    refine mem_ready.2 ⟨hun0,o,ho,fun x hx hb=> ?_⟩
    have hlt:=hafter i0 o (by omega) hi0 ho x hx hb
    have:=hmin _ hlt
    have hxs:x.on<listed.size:=by rw[inv.size];omega
    simpa[hxs]using this
   rw[show f+1+(ops.size - (n+1))=(f+(ops.size - (n+1)))+1 by omega]
   refine⟨fun h0=>(by rw[h0]at hready0;cases hready0),fun i hi=> ?_⟩
   have hin:i<n+1:=by
    rcases Nat.lt_or_ge i (n+1)with hlt|hge
    ·exact hlt
    ·exact absurd hi (tail_waits hs hch hn inv _ i0 rfl hi0 hun0 i hge)
   obtain⟨hun,o,ho,hall⟩:=mem_ready.1 hi
   have hol:ops.toList[i]? =some o:=by simpa using ho
   obtain⟨b,hb,hcb⟩:=hget i o hol
   have C:=Zm hcb
   have his:i<listed.size:=by rw[inv.size];omega
   have hcnt':kL (listed.setIfInBounds i true) (n+1)=f:=by
    have:=Qr his hun (n+1)
    rw[if_pos hin]at this
    omega
   by_cases hni:i=n
   ·subst hni
    have hbc:b=c:=Option.some.inj (hb.symm.trans hcn)
    subst hbc
    have hnl:listed.getD i false=false:=getD_both hun
    rw[hnl]at R
    simp only[Bool.false_eq_true,if_false]at R
    have hst:b.o.still=false:=by cases hbo:b.o<;>rw[hbo]at hcbox<;>first|rfl|cases hcbox
    have hca:b.o.calls=false:=by cases hbo:b.o<;>rw[hbo]at hcbox<;>first|rfl|cases hcbox
    unfold wpOp
    rw[ho]
    simp only
    have hw:Region.wanted o (yielded ops a.tmps)=true:=by
     rcases C.g with⟨_,hog⟩|⟨_,_,_,_,_,hg⟩
     ·simp[Region.wanted,hog]
     ·rw[hcg]at hg;cases hg
    rw[if_pos hw]
    left
    refine ze4 C hcpk hst hca R (by rw[(hcl _).2];exact hfin.1) fun cv g' w' k1 k2 k3=> ?_
    rw[(hcl _).1]at k1 k3
    rw[hpp]at k1
    rw[hHA]at k3
    refine ih (listed.setIfInBounds i true) (a.put o.dst cv) w' (inv.set hi hin) hcnt' ⟨g',?_⟩
    have hset:(listed.setIfInBounds i true).getD i false=true:=by simp[his]
    rw[hset]
    simp only[if_true]
    have heq:eLB T h (bs.take i) e0 i d pp (listed.setIfInBounds i true)=zx (eLB T h (bs.take i) e0 i d pp listed) b.dst pp:=by
     rw[hcd]
     funext t
     simp only[eLB,hset,hnl,true_and,Bool.false_eq_true,false_and,if_false,zx,upd]
     by_cases htd:t=d
     ·rw[if_pos htd,if_pos htd]
     ·rw[if_neg htd,if_neg htd]
      rw[zqG fun k hk=>getD_set_ne false (by omega)]
    rw[heq,←C.dst]
    exact(R.mono k2 k3).put C.lt k1
   ·have hin':i<n:=by omega
    have hb':(bs.take n)[i]? =some b:=by rw[List.getElem?_take,if_pos hin'];exact hb
    obtain⟨d',hd⟩:=D.has i b hb'
    have hag:∀t∈b.reads,eAt T h (bs.take n) e0 i t=eLB T h (bs.take n) e0 n d pp listed t:=by
     intro t ht
     have hLB:eLB T h (bs.take n) e0 n d pp listed t=eL T h (bs.take n) e0 listed t:=by
      unfold eLB
      rw[if_neg]
      rintro⟨hln,htd⟩
      rcases hap1 i n b c hin' (up hb').2 hcn1 with hwt|hap
      ·obtain⟨o',ho',x,hx,hbd,hon⟩:=Region.waitsFor_spec hwt
       have:=inv.closed n o' ho' hln x hx hbd
       rw[hon,getD_both hun]at this
       cases this
      ·exact(qO hap hd hcd).2 (htd▸ht)
     rw[hLB]
     by_cases hex:∃(k:Nat)(c:AOp),(bs.take n)[k]? =some c∧c.dst=some t
     ·obtain⟨k,c',hk,hcd'⟩:=hex
      have hone:∀k' c'',(bs.take n)[k']? =some c''→c''.dst=some t→k'=k:=fun k' c'' h1 h2=>D.ne k' k c'' c' t h1 hk h2 hcd'
      rcases Nat.lt_trichotomy k i with hlt|heq|hlt
      ·rcases hap1 k i c' b hlt (up hk).2 (up hb').2 with hwt|hap
       ·obtain⟨o',ho',x,hx,hbd,hon⟩:=Region.waitsFor_spec hwt
        have:o'=o:=Option.some.inj (ho'.symm.trans ho)
        subst this
        have hlk:=hall x hx hbd
        rw[hon]at hlk
        rw[K2 D hk hcd' i hlt (by omega),Jx D hk hcd' hlk]
       ·exact absurd ht (qO hap hcd' hd).1
      ·subst heq
       rw[q8 k (fun j b' hj hb2 hd2=>by have:=hone j b' hb2 hd2;omega) (by omega),qp (fun k' c' h1 h2=>by
        have:=hone k' c' h1 h2;subst this;exact getD_both hun)]
      ·rcases hap1 i k b c' hlt (up hb').2 (up hk).2 with hwt|hap
       ·obtain⟨o',ho',x,hx,hbd,hon⟩:=Region.waitsFor_spec hwt
        have hkl:listed.getD k false=false:=by
         cases hl:listed.getD k false with
         |false=>rfl
         |true=>
          have:=inv.closed k o' ho' hl x hx hbd
          rw[hon,getD_both hun]at this
          cases this
        rw[q8 i (fun j b' hj hb2 hd2=>by have:=hone j b' hb2 hd2;omega) (by omega),qp (fun k' c' h1 h2=>by
         have:=hone k' c' h1 h2;subst this;exact hkl)]
       ·exact absurd ht (qO hap hd hcd').2
     ·rw[q8 i (fun j b' hj hb2 hd2=>hex ⟨j,b',hb2,hd2⟩) (by omega),qp (fun k c hk hcd=>absurd ⟨k,c,hk,hcd⟩ hex)]
    have hH:yR T b (eLB T h (bs.take n) e0 n d pp listed) (if listed.getD n false=true then hA else h)∧zV T b (eLB T h (bs.take n) e0 n d pp listed) (if listed.getD n false=true then hA else h)=zV T b (eAt T h (bs.take n) e0 i) h:=by
     obtain⟨p1,p2,p3⟩:=hP i b hb'
     split
     ·obtain⟨q1,q2⟩:=Zf (T:=T) hag C.mv hA
      rw[←q1,←q2];exact⟨p2,p3⟩
     ·obtain⟨q1,q2⟩:=Zf (T:=T) hag C.mv h
      rw[←q1,←q2];exact⟨p1,rfl⟩
    refine zin C ho (hflu i b hb') R hH.1 fun cv g' w' hv hex hH'=> ?_
    rw[hH.2]at hv
    refine ih (listed.setIfInBounds i true) (a.put o.dst cv) w' (inv.set hi hin) hcnt' ⟨g',?_⟩
    rw[getD_set_ne false hni]
    have heq:eLB T h (bs.take n) e0 n d pp (listed.setIfInBounds i true)=zx (eLB T h (bs.take n) e0 n d pp listed) b.dst (zV T b (eAt T h (bs.take n) e0 i) h):=by
     have h1:=zij (T:=T) (h:=h) (e:=e0) D hb' his hun
     rw[hd]at h1⊢
     funext t
     simp only[eLB,getD_set_ne false hni,zx,upd]
     by_cases ht:t=d'
     ·have htd:t≠d:=ht▸hdne hb' hd
      rw[if_neg (fun hh=>htd hh.2),if_pos ht,h1]
      simp only[zx,upd,ht,if_true]
     ·rw[if_neg ht,h1]
      simp only[zx,upd,if_neg ht]
    rw[heq,←C.dst]
    exact(R.mono hex hH').put C.lt hv
 have inv0:HeadInv .any ops (n+1) (Array.replicate ops.size false):=
  ⟨by simp,fun j oj _ hl=>(by rw[getD_replicate_false]at hl;cases hl),fun t _ ht=>getD_in (by simpa using ht) (getD_replicate_false _ _)⟩
 have hcnt:∀k,k≤ops.size→kL (Array.replicate ops.size false) k=k:=by
  intro k
  induction k with
  |zero=>intro _;rfl
  |succ k ih=>
   intro hk
   have e:(Array.replicate ops.size false).getD k true=false:=getD_in (by simp;omega) (getD_replicate_false _ _)
   simp only[kL,ih (by omega),e,Bool.false_eq_true,if_false]
 obtain⟨g,R⟩:=hR0
 have:=main (n+1) (Array.replicate ops.size false) a0 w00 inv0 (hcnt (n+1) (by omega)) ⟨g,by
  have e1:eLB T h (bs.take n) e0 n d pp (Array.replicate ops.size false)=e0:=by
   funext t
   simp only[eLB,getD_replicate_false,Bool.false_eq_true,false_and,if_false]
   exact qp fun k b _ _=>getD_replicate_false _ _
  rw[e1,getD_replicate_false]
  simpa using R⟩
 rwa [show n+1+(ops.size - (n+1))=ops.size by omega]at this
end
end Go.Sx
end
section
set_option maxHeartbeats 1000000
set_option linter.unusedSimpArgs false
namespace Go.Sx
section
variable {P:Program} {N:Nat} {T:Orc P} {g g1:Gh} {e e':Nat→V} {h h':Heap} {w w1 w0:World} {own0:Own} {a:Act} {ops:Array Oper} {ρ:X→V}
def Agr(h h':Heap)(l:List Nat):Prop:=∀j∈l,h.bs[j]? =h'.bs[j]?
theorem qI{j v:Nat}(ha:h.bs[j]? =h'.bs[j]?):h.cur j v=h'.cur j v:=by unfold Heap.cur;rw[ha]
theorem qn{j:Nat}(ha:h.bs[j]? =h'.bs[j]?):h.blk j=h'.blk j:=by unfold Heap.blk;rw[ha]
theorem zcK{v:V}(ha:Agr h h' v.tops):h.cells v=h'.cells v:=by
 cases v with
 |ptr j ver i o=>have:=ha j (by simp[V.tops]);simp only[Heap.cells,qI this,qn this]
 |_=>rfl
theorem YC{v:V}(sz:Nat)(ha:Agr h h' v.tops):h.view sz v=h'.view sz v:=by
 cases v with
 |ref j ver off len=>have:=ha j (by simp[V.tops]);simp only[Heap.view,qI this,qn this]
 |c u=>cases u<;>first|rfl|(rename_i a n c;cases a<;>cases n<;>cases c<;>rfl)
 |_=>rfl
theorem zlY{v:V}(ha:Agr h h' v.top1):h.isOne v=h'.isOne v:=by
 cases v with
 |ref j ver off len=>have:=ha j (by simp[V.top1]);simp only[Heap.isOne,qI this]
 |ptr j ver i o=>have:=ha j (by simp[V.top1]);simp only[Heap.isOne,qI this]
 |_=>rfl
theorem X2{v:V}(ha:Agr h h' v.tops):h.isPtr v=h'.isPtr v:=by
 cases v with
 |ptr j ver i o=>have:=ha j (by simp[V.tops]);simp only[Heap.isPtr,qI this]
 |_=>rfl
theorem zwB{v:V}(ha:Agr h h' v.tops):h.fzn v=h'.fzn v:=by
 cases v with
 |ptr j ver i o=>have:=ha j (by simp[V.tops]);simp only[Heap.fzn,qn this]
 |_=>rfl
theorem zlB{v:V}(sz:Nat)(ha:Agr h h' v.tops):h.cutOK sz v=h'.cutOK sz v:=by
 cases v with
 |ref j ver off len=>have:=ha j (by simp[V.tops]);simp only[Heap.cutOK,qI this,qn this]
 |c u=>cases u<;>first|rfl|(rename_i a n c;cases a<;>cases n<;>cases c<;>rfl)
 |_=>rfl
theorem zlV{v:V}(sz:Nat)(n:Int)(ha:Agr h h' v.tops):h.idxOK sz v n=h'.idxOK sz v n:=by
 cases v with
 |ref j ver off len=>have:=ha j (by simp[V.tops]);simp only[Heap.idxOK,qI this,qn this]
 |_=>rfl
theorem KO{α:Type}{l:List α}{p q:α→Bool}(h:∀x∈l,p x=q x):l.all p=l.all q:=by
 induction l with
 |nil=>rfl
 |cons x l ih=>simp only[List.all_cons,h x (by simp),ih fun y hy=>h y (by simp[hy])]
theorem zai{b:Bool}{v:V}(ha:Agr h h' v.tops):(cellsOf b v).all h.isOne=(cellsOf b v).all h'.isOne:=by
 refine KO fun x hx=>zlY fun j hj=> ?_
 cases b with
 |false=>
  simp only[cellsOf,List.mem_singleton]at hx
  subst hx
  refine ha j ?_
  cases x<;>simp only[V.top1,V.tops]at hj⊢ <;>first|exact hj|cases hj
 |true=>
  cases v with
  |agg cs=>
   simp only[cellsOf]at hx
   exact ha j (by simp only[V.tops,List.mem_flatMap];exact⟨x,hx,hj⟩)
  |c u=>
   cases u with
   |agg cs=>simp only[cellsOf,List.mem_map]at hx;obtain⟨_,_,rfl⟩:=hx;cases hj
   |_=>simp[cellsOf]at hx
  |_=>simp[cellsOf]at hx
theorem zW{o:O}(hm:∀x,o≠.mov x)(ha:Agr h h' (jQ o ρ)):∀x∈o.xs,Agr h h' (ρ x).tops:=by
 intro x hx j hj
 refine ha j ?_
 unfold jQ
 split
 ·exact absurd rfl (hm _)
 ·exact List.mem_flatMap.2 ⟨x,hx,hj⟩
theorem zwt{o:O}(ha:Agr h h' (jQ o ρ)):evP o ρ h=evP o ρ h':=by
 cases o with
 |mov x=>rfl
 |load n x=>have:=zW (by simp) ha x (by simp[O.xs]);simp only[evP,zcK this]
 |chk x=>have:=zW (by simp) ha x (by simp[O.xs]);simp only[evP,X2 this]
 |isn n x=>
  have h1:=zW (by simp) ha x (by simp[O.xs])
  have e:h.nilV (ρ x)=h'.nilV (ρ x):=by
   cases hv:ρ x with
   |ref j ver off len=>rw[hv]at h1;have:=h1 j (by simp[V.tops]);cases len<;>simp only[Heap.nilV,qI this]
   |c u=>cases u<;>rfl
   |slc s es=>cases es<;>rfl
   |_=>rfl
  simp only[evP,e]
 |bts x=>have:=zW (by simp) ha x (by simp[O.xs]);simp only[evP,YC 1 this]
 |slice s x lo hi=>have:=zW (by simp) ha x (by simp[O.xs]);simp only[evP,zlB s this]
 |fieldAddr n x=>have:=zW (by simp) ha x (by simp[O.xs]);simp only[evP,X2 this]
 |sliceA n s x lo hi=>have:=zW (by simp) ha x (by simp[O.xs]);simp only[evP,zcK this,zwB this]
 |idxAddr s z x i=>have:=zW (by simp) ha x (by simp[O.xs]);simp only[evP,zlV s _ this]
 |idxAddrA l s x i=>have:=zW (by simp) ha x (by simp[O.xs]);simp only[evP,X2 this]
 |len x=>
  have h1:=zW (by simp) ha x (by simp[O.xs])
  simp only[evP]
  cases hv:ρ x with
  |ref j ver off len=>rw[hv]at h1;have:=h1 j (by simp[V.tops]);simp only[qI this]
  |c u=>cases u<;>first|rfl|(rename_i a n c;cases a<;>cases n<;>cases c<;>rfl)
  |_=>rfl
 |build zero parts=>
  have hx:=zW (by simp) ha
  simp only[evP]
  congr 2
  refine KO fun p hp=> ?_
  rw[zai (hx p.2.2 (by simp only[O.xs,List.mem_map];exact⟨p,hp,rfl⟩))]
 |_=>rfl
theorem zwo{o:O}(ha:Agr h h' (jQ o ρ)):efO o ρ h=efO o ρ h':=by
 cases o with
 |append s m z x y=>
  have h1:=zW (by simp) ha x (by simp[O.xs])
  have h2:=zW (by simp) ha y (by simp[O.xs])
  simp only[efO,YC s h2]
  cases hv:ρ x with
  |ref j ver off len=>rw[hv]at h1;have:=h1 j (by simp[V.tops]);simp only[qn this]
  |c u=>cases u<;>first|rfl|(rename_i a n c;cases a<;>cases n<;>cases c<;>rfl)
  |_=>rfl
 |store n x v=>
  have h1:=zW (by simp) ha x (by simp[O.xs])
  simp only[efO]
  cases hv:ρ x with
  |ptr j ver i o=>rw[hv]at h1;have:=h1 j (by simp[V.tops]);simp only[qn this]
  |_=>rfl
 |sts x=>
  have h1:=zW (by simp) ha x (by simp[O.xs])
  simp only[efO]
  cases hv:ρ x with
  |ref j ver off len=>rw[hv]at h1;have:=h1 j (by simp[V.tops]);simp only[qn this]
  |_=>rfl
 |cpy s x y=>
  have h1:=zW (by simp) ha x (by simp[O.xs])
  have h2:=zW (by simp) ha y (by simp[O.xs])
  simp only[efO,YC s h2]
  cases hv:ρ x with
  |ref j ver off len=>rw[hv]at h1;have:=h1 j (by simp[V.tops]);simp only[qn this]
  |_=>rfl
 |clr s x=>
  have h1:=zW (by simp) ha x (by simp[O.xs])
  simp only[efO]
  cases hv:ρ x with
  |ref j ver off len=>rw[hv]at h1;have:=h1 j (by simp[V.tops]);simp only[qn this]
  |_=>rfl
 |_=>rfl
theorem zku{o:O}(ha:Agr h h' (jQ o ρ)):(evE o ρ h).2.2=(evE o ρ h').2.2:=by
 cases o with
 |box b s x=>have h1:=zW (by simp) ha x (by simp[O.xs]);simp only[evE,zai h1]
 |bslice b s n z ps=>
  have hx:=zW (by simp) ha
  simp only[evE]
  congr 1
  refine KO fun p hp=> ?_
  rw[zai (hx p.2 (by simp only[O.xs,List.mem_map];exact⟨p,hp,rfl⟩))]
 |append s m z x y=>
  have h1:=zW (by simp) ha x (by simp[O.xs])
  have h2:=zW (by simp) ha y (by simp[O.xs])
  simp only[evE,YC s h2]
  cases hv:ρ x with
  |ref j ver off len=>rw[hv]at h1;have:=h1 j (by simp[V.tops]);simp only[qI this,qn this]
  |c u=>cases u<;>first|rfl|(rename_i a n c;cases a<;>cases n<;>cases c<;>rfl)
  |_=>rfl
 |nul s z x=>have h1:=zW (by simp) ha x (by simp[O.xs]);simp only[evE,YC s h1]
 |stb x=>
  simp only[evE]
  cases hv:ρ x with
  |c u=>cases u<;>rfl
  |_=>rfl
 |store n x v=>
  have h1:=zW (by simp) ha x (by simp[O.xs])
  have h2:=zW (by simp) ha v (by simp[O.xs])
  simp only[evE]
  cases hv:ρ x with
  |ptr j ver i o=>rw[hv]at h1;have:=h1 j (by simp[V.tops]);simp only[qI this,qn this,zai h2]
  |_=>rfl
 |sts x=>
  have h1:=zW (by simp) ha x (by simp[O.xs])
  simp only[evE]
  cases hv:ρ x with
  |ref j ver off len=>rw[hv]at h1;have:=h1 j (by simp[V.tops]);simp only[qI this,qn this]
  |_=>rfl
 |cpy s x y=>
  have h1:=zW (by simp) ha x (by simp[O.xs])
  have h2:=zW (by simp) ha y (by simp[O.xs])
  simp only[evE,YC s h2]
  cases hv:ρ x with
  |ref j ver off len=>rw[hv]at h1;have:=h1 j (by simp[V.tops]);simp only[qI this,qn this]
  |_=>rfl
 |clr s x=>
  have h1:=zW (by simp) ha x (by simp[O.xs])
  simp only[evE]
  cases hv:ρ x with
  |ref j ver off len=>rw[hv]at h1;have:=h1 j (by simp[V.tops]);simp only[qI this,qn this]
  |_=>rfl
 |_=>rfl
theorem zAs{o:O}(hst:o.still=false)(hca:o.calls=false)(hok:(evE o ρ h).2.2=true):
  (evE o ρ h).1=(efO o ρ h).val h∧((evE o ρ h).2.1=(efO o ρ h).heap h∧((∃n,(efO o ρ h).v=fun j c=>.ref j c 0 n)∨(efO o ρ h).v=fun j c=>.ptr j c 0 0)∧(∀c,(efO o ρ h).b c=⟨c,((efO o ρ h).b 0).sz,((efO o ρ h).b 0).es,((efO o ρ h).b 0).fz,((efO o ρ h).b 0).d⟩)∨
    ∃j u B,(efO o ρ h).at'=some j∧(efO o ρ h).v=(fun _ _=>.c u)∧(efO o ρ h).b=(fun _=>B)∧(evE o ρ h).2.1=⟨h.bs.set j B,h.clk⟩):=by
 cases o with
 |box b s x=>exact⟨rfl,.inl ⟨rfl,.inr rfl,fun _=>rfl⟩⟩
 |bslice b s n z ps=>exact⟨rfl,.inl ⟨rfl,.inl ⟨_,rfl⟩,fun _=>rfl⟩⟩
 |mkslice s m z l=>exact⟨rfl,.inl ⟨rfl,.inl ⟨_,rfl⟩,fun _=>rfl⟩⟩
 |nul s z x=>exact⟨rfl,.inl ⟨rfl,.inl ⟨_,rfl⟩,fun _=>rfl⟩⟩
 |stb x=>
  simp only[evE]at hok
  split at hok
  ·rename_i s hv
   simp only[evE,efO,hv,XE.val,XE.heap,Heap.alloc,Option.getD_none]
   exact⟨trivial,.inl ⟨trivial,.inl ⟨_,rfl⟩,fun _=>trivial⟩⟩
  ·cases hok
 |append s m z x y=>
  simp only[evE]at hok
  split at hok
  ·rename_i hv
   simp only[evE,efO,hv,XE.val,XE.heap,Heap.alloc,Option.getD_none]
   exact⟨trivial,.inl ⟨trivial,.inl ⟨_,rfl⟩,fun _=>trivial⟩⟩
  ·rename_i j ver off len hv
   simp only[Bool.and_eq_true,decide_eq_true_eq,beq_iff_eq]at hok
   obtain⟨⟨_,rfl⟩,_⟩:=hok
   simp only[evE,efO,hv,XE.val,XE.heap,Option.getD_some]
   exact⟨trivial,.inl ⟨trivial,.inl ⟨_,rfl⟩,fun _=>trivial⟩⟩
  ·cases hok
 |store n x v=>
  simp only[evE]at hok
  split at hok
  ·rename_i j ver i o hv
   simp only[evE,efO,hv,XE.val,Heap.put]
   exact⟨trivial,.inr ⟨j,_,_,rfl,rfl,rfl,rfl⟩⟩
  ·cases hok
 |sts x=>
  simp only[evE]at hok
  split at hok
  ·rename_i j ver off len hv
   simp only[evE,efO,hv,XE.val,XE.heap,Option.getD_some]
   exact⟨trivial,.inl ⟨trivial,.inl ⟨_,rfl⟩,fun _=>trivial⟩⟩
  ·cases hok
 |cpy s x y=>
  simp only[evE]at hok
  split at hok
  ·rename_i j ver off len hv
   simp only[evE,efO,hv,XE.val,Heap.put]
   exact⟨trivial,.inr ⟨j,_,_,rfl,rfl,rfl,rfl⟩⟩
  ·cases hok
 |clr s x=>
  simp only[evE]at hok
  split at hok
  ·rename_i j ver off len hv
   simp only[evE,efO,hv,XE.val,Heap.put]
   exact⟨trivial,.inr ⟨j,_,_,rfl,rfl,rfl,rfl⟩⟩
  ·cases hok
 |_=>cases hst<;>cases hca
theorem Wp{b:AOp}{own:Bool}{e:Nat→V}(hnc:b.o.calls=false):yP b own e=if b.pk.isSome=true then[]else jQ b.o (zi e):=by
 obtain⟨d,gd,pk,o⟩:=b
 cases own<;>cases o<;>first|(cases hnc;done)|exact congrArg (fun b=>if b=true then[]else jQ _ (zi e)) (Bool.or_false _)
theorem zkA{b:AOp}{own:Bool}(hnc:b.o.calls=false)(ha:Agr h h' (yP b own e)):(yR T b e h=yR T b e h')∧zV T b e h=zV T b e h':=by
 have hc1:∀f xs,b.o≠.call f xs:=fun f xs ho=>by rw[ho]at hnc;cases hnc
 have hc2:∀x xs,b.o≠.callv x xs:=fun x xs ho=>by rw[ho]at hnc;cases hnc
 rw[Wp hnc]at ha
 have hv:vP b.pk b.o e h=vP b.pk b.o e h'∧okP b.pk b.o e h=okP b.pk b.o e h':=by
  unfold vP okP
  cases hp:b.pk with
  |some q=>exact⟨rfl,rfl⟩
  |none=>
   rw[hp]at ha
   simp only[Option.isSome_none,Bool.false_eq_true,if_false]at ha
   rw[zwt ha];exact⟨rfl,rfl⟩
 have he:b.pk=none→okE b.o e h=okE b.o e h':=fun hp=>by
  rw[hp]at ha
  simp only[Option.isSome_none,Bool.false_eq_true,if_false]at ha
  unfold okE;rw[zku ha]
 unfold yR zV
 obtain⟨hv1,hv2⟩:=hv
 obtain⟨d,g,pk,o⟩:=b
 simp only at*
 constructor
 ·have hs':(pk.isSome||o.still)=false→okE o e h=okE o e h':=fun hs=>he (by simp only[Bool.or_eq_false_iff,Option.isSome_eq_false_iff,Option.isNone_iff_eq_none]at hs;exact hs.1)
  cases hs:(pk.isSome||o.still)with
  |true=>
   cases g with
   |none=>cases o<;>first|exact absurd rfl (hc1 _ _)|exact absurd rfl (hc2 _ _)|(simp only[hs,hv2,if_true])
   |some tw=>cases o<;>first|exact absurd rfl (hc1 _ _)|exact absurd rfl (hc2 _ _)|(simp only[hs,hv2,if_true])
  |false=>
   have hs':=hs' hs
   cases g with
   |none=>cases o<;>first|exact absurd rfl (hc1 _ _)|exact absurd rfl (hc2 _ _)|(simp only[hs,hs',Bool.false_eq_true,if_false])
   |some tw=>cases o<;>first|exact absurd rfl (hc1 _ _)|exact absurd rfl (hc2 _ _)|(simp only[hs,hs',Bool.false_eq_true,if_false])
 ·cases g with
  |none=>cases o<;>first|exact absurd rfl (hc1 _ _)|exact absurd rfl (hc2 _ _)|(try dsimp only;rw[hv1])
  |some tw=>cases o<;>first|exact absurd rfl (hc1 _ _)|exact absurd rfl (hc2 _ _)|(try dsimp only;rw[hv1])
inductive RchW (ops:Array Oper):Nat→Nat→Prop
 |one {i j:Nat} (h:Region.waitsFor .any ops i j=true):RchW ops i j
 |more {i m j:Nat} (h:Region.waitsFor .any ops i m=true) (r:RchW ops m j):RchW ops i j
theorem JS{n:Nat}{listed:Array Bool}(inv:HeadInv .any ops n listed){i j:Nat}(r:RchW ops i j):listed.getD i false=true→listed.getD j false=true:=by
 induction r with
 |one h=>
  intro hl
  obtain⟨o,ho,x,hx,hb,rfl⟩:=Region.waitsFor_spec h
  exact inv.closed _ o ho hl x hx hb
 |more h _ ih=>
  intro hl
  obtain⟨o,ho,x,hx,hb,rfl⟩:=Region.waitsFor_spec h
  exact ih (inv.closed _ o ho hl x hx hb)
theorem zgc{n:Nat}{listed:Array Bool}(inv:HeadInv .any ops n listed){i j:Nat}(hall:∀o,ops[i]? =some o→∀x∈o.after,Region.binds .any x=true→listed.getD x.on false=true)(r:RchW ops i j):listed.getD j false=true:=by
 cases r with
 |one h=>
  obtain⟨o,ho,x,hx,hb,rfl⟩:=Region.waitsFor_spec h
  exact hall o ho x hx hb
 |more h r=>
  obtain⟨o,ho,x,hx,hb,rfl⟩:=Region.waitsFor_spec h
  exact JS inv r (hall o ho x hx hb)
theorem zrV:∀n,(KK ops n).length=n∧∀i j,j∈(KK ops n).getD i []→RchW ops i j:=by
 intro n
 induction n with
 |zero=>exact⟨rfl,fun i j hj=>by simp[KK]at hj⟩
 |succ n ih=>
  have hs:KK ops (n+1)=KK ops n++ [((List.range n).filter fun j=>Region.waitsFor .any ops n j)++((List.range n).filter fun j=>Region.waitsFor .any ops n j).flatMap fun j=>(KK ops n).getD j []]:=by
   unfold KK;rw[List.range_succ,List.foldl_append];rfl
  obtain⟨h1,h2⟩:=ih
  rw[hs]
  refine⟨by simp[h1],fun i j hj=> ?_⟩
  rw[List.getD_eq_getElem?_getD]at hj
  by_cases hi:i<n
  ·rw[List.getElem?_append_left (by omega),←List.getD_eq_getElem?_getD]at hj
   exact h2 i j hj
  ·rw[List.getElem?_append_right (by omega),h1]at hj
   by_cases e:i=n
   ·subst e
    simp only[Nat.sub_self,List.getElem?_cons_zero,Option.getD_some,List.mem_append,List.mem_filter,List.mem_flatMap]at hj
    rcases hj with⟨_,hj⟩|⟨m,⟨_,hm⟩,hj⟩
    ·exact .one hj
    ·exact .more hm (h2 m j hj)
   ·have:(1:Nat)≤i - n:=by omega
    rw[List.getElem?_eq_none (by simp;omega)]at hj
    cases hj
theorem zhS{bs:List AOp}{n:Nat}(hn:n≤bs.length):(Z0 ops bs n).length=n∧∀(k:Nat)(p:AOp×Bool×List Nat),(Z0 ops bs n)[k]? =some p→k<n∧bs[k]? =some p.1∧p.2.1=Wq bs p.1∧∀j∈p.2.2,RchW ops k j:=by
 obtain⟨h1,h2⟩:=zrV (ops:=ops) n
 have hl:(Z0 ops bs n).length=n:=by simp[Z0,h1];omega
 refine⟨hl,fun k p hp=> ?_⟩
 have hk:k<n:=by rw[←hl];exact(List.getElem?_eq_some_iff.1 hp).1
 obtain⟨b,hb⟩:∃b,bs[k]? =some b:=⟨_,List.getElem?_eq_getElem (by omega)⟩
 obtain⟨r,hr⟩:∃r,(KK ops n)[k]? =some r:=⟨_,List.getElem?_eq_getElem (by omega)⟩
 have e1:(bs.take n)[k]? =some b:=by rw[List.getElem?_take,if_pos hk,hb]
 have e2:((bs.take n).map (Wq bs))[k]? =some (Wq bs b):=by rw[List.getElem?_map,e1];rfl
 have e3:((bs.take n).zip ((bs.take n).map (Wq bs)))[k]? =some (b,Wq bs b):=List.getElem?_zip_eq_some.2 ⟨e1,e2⟩
 have e4:(((bs.take n).zip ((bs.take n).map (Wq bs))).zip (KK ops n))[k]? =some ((b,Wq bs b),r):=List.getElem?_zip_eq_some.2 ⟨e3,hr⟩
 have e5:(Z0 ops bs n)[k]? =some (b,Wq bs b,r):=by unfold Z0;rw[List.getElem?_map,e4];rfl
 rw[e5]at hp
 obtain rfl:=Option.some.inj hp
 exact⟨hk,hb,rfl,fun j hj=>h2 k j (by rw[List.getD_eq_getElem?_getD,hr];exact hj)⟩
end
end Go.Sx
end
section
set_option maxHeartbeats 1000000
set_option linter.unusedSimpArgs false
namespace Go.Sx
section
variable {P:Program} {N:Nat} {T:Orc P} {g g1:Gh} {e e':Nat→V} {h h':Heap} {w w1 w0:World} {own0:Own} {a:Act} {ops:Array Oper} {ρ:X→V}
def stX(T:Orc P):List (AOp×Bool×List Nat)→(Nat→V)×Heap→Nat→(Nat→V)×Heap
 |_,s,0=>s
 | [],s,_+1=>s
 |p::r,s,k+1=>stX T r (zca T p.1 p.2.1 s) k
theorem zgv(bs:List (AOp×Bool×List Nat))(s:(Nat→V)×Heap):stX T bs s 0=s:=by cases bs<;>rfl
theorem zgu:∀(bs:List (AOp×Bool×List Nat))(s:(Nat→V)×Heap)(k:Nat)(p:AOp×Bool×List Nat),bs[k]? =some p→stX T bs s (k+1)=zca T p.1 p.2.1 (stX T bs s k)
 | [],_,_,_,hb=>by simp at hb
 |c::r,s,0,p,hb=>by
  simp at hb;subst hb
  simp only[stX,zgv]
 |c::r,s,k+1,p,hb=>by
  have:=zgu r (zca T c.1 c.2.1 s) k p (by simpa using hb)
  simpa only[stX]using this
def trX(T:Orc P):List (AOp×Bool×List Nat)→(Nat→V)×Heap→List (Option Nat×List Nat)
 | [],_=>[]
 |p::r,s=>(xwr T p.1 p.2.1 s.1 s.2,yP p.1 p.2.1 s.1)::trX T r (zca T p.1 p.2.1 s)
theorem zk1:∀(bs:List (AOp×Bool×List Nat))(s:(Nat→V)×Heap)(k:Nat)(p:AOp×Bool×List Nat),bs[k]? =some p→
  (trX T bs s)[k]? =some (xwr T p.1 p.2.1 (stX T bs s k).1 (stX T bs s k).2,yP p.1 p.2.1 (stX T bs s k).1)
 | [],_,_,_,hb=>by simp at hb
 |c::r,s,0,p,hb=>by simp at hb;subst hb;simp only[trX,stX,List.getElem?_cons_zero]
 |c::r,s,k+1,p,hb=>by
  have:=zk1 r (zca T c.1 c.2.1 s) k p (by simpa using hb)
  simpa only[trX,stX,List.getElem?_cons_succ]using this
theorem Wv{ws:List Nat}{b:Option Nat×List Nat}:∀(l:List (Option Nat×List Nat))(k:Nat),js ws b k l=true→∀m x,l[m]? =some x→(k+m)∈ws∨JN x b=true
 | [],_,_,_,_,hx=>by simp at hx
 |y::r,k,hc,m,x,hx=>by
  simp only[js,Bool.and_eq_true,Bool.or_eq_true]at hc
  cases m with
  |zero=>simp at hx;subst hx;rcases hc.1 with h|h;exact .inl (by simpa using h);exact .inr h
  |succ m=>
   have:=Wv r (k+1) hc.2 m x (by simpa using hx)
   rw[show k+(m+1)=k+1+m by omega];exact this
theorem zu4{K:(Nat→V)→Heap→Prop}:∀(bs:List (AOp×Bool×List Nat))(tr:List (Option Nat×List Nat))(s:(Nat→V)×Heap),wpX T bs tr s K→
  (∀(k:Nat)(p:AOp×Bool×List Nat),bs[k]? =some p→xOK T p.1 p.2.1 (stX T bs s k).1 (stX T bs s k).2∧(∀j∈yP p.1 p.2.1 (stX T bs s k).1,j<(stX T bs s k).2.bs.length)∧
    ∀(m:Nat) x,(tr++trX T bs s)[m]? =some x→m<tr.length+k→m∈p.2.2∨JN x (xwr T p.1 p.2.1 (stX T bs s k).1 (stX T bs s k).2,yP p.1 p.2.1 (stX T bs s k).1)=true)∧
  K (stX T bs s bs.length).1 (stX T bs s bs.length).2
 | [],tr,s,hw=>⟨by simp,hw⟩
 |(b,own,ws)::r,tr,s,hw=>by
  obtain⟨w1,w2,w3,w4⟩:=hw
  obtain⟨h1,h2⟩:=zu4 r _ _ w4
  refine⟨fun k p hp=> ?_,by simpa only[stX,List.length_cons]using h2⟩
  cases k with
  |zero=>
   simp at hp;subst hp
   simp only[stX]
   refine⟨w1,fun j hj=>by simpa using List.all_eq_true.1 w2 j hj,fun m x hx hm=> ?_⟩
   rw[List.getElem?_append_left (by omega)]at hx
   have:=Wv tr 0 w3 m x hx
   rwa [Nat.zero_add]at this
  |succ k=>
   have:=h1 k p (by simpa using hp)
   simp only[stX]
   refine⟨this.1,this.2.1,fun m x hx hm=>this.2.2 m x ?_ (by simp;omega)⟩
   simpa only[trX,List.append_assoc,List.singleton_append]using hx
theorem zhP{K K':(Nat→V)→Heap→Prop}(hK:∀e h,K e h→K' e h):∀(bs:List (AOp×Bool×List Nat))(tr:List (Option Nat×List Nat))(s:(Nat→V)×Heap),wpX T bs tr s K→wpX T bs tr s K'
 | [],_,s,hw=>hK s.1 s.2 hw
 |(_,_,_)::r,_,_,hw=>⟨hw.1,hw.2.1,hw.2.2.1,zhP hK r _ _ hw.2.2.2⟩
def YK(n:Nat)(dst:Nat→Option Nat)(vals:Nat→V)(e0:Nat→V)(listed:Array Bool)(t:Nat):V:=
 match(List.range n).find? (fun k=>listed.getD k false&&dst k==some t)with
 |some k=>vals k
 |none=>e0 t
def Uq(n:Nat)(dst:Nat→Option Nat):Prop:=∀(j k d:Nat),j<n→k<n→dst j=some d→dst k=some d→j=k
section
variable {n:Nat} {dst:Nat→Option Nat} {vals:Nat→V} {e0:Nat→V} {listed:Array Bool}
theorem JA(U:Uq n dst){k t:Nat}(hk:k<n)(hd:dst k=some t)(hl:listed.getD k false=true):YK n dst vals e0 listed t=vals k:=by
 unfold YK
 cases hf:(List.range n).find? (fun k=>listed.getD k false&&dst k==some t)with
 |none=>
  have:=List.find?_eq_none.1 hf k (List.mem_range.2 hk)
  simp[hl,hd]at this
 |some j=>
  have h1:=List.find?_some hf
  have hj:=List.mem_range.1 (List.mem_of_find?_eq_some hf)
  simp only[Bool.and_eq_true,beq_iff_eq]at h1
  rw[U j k t hj hk h1.2 hd]
theorem kN{t:Nat}(hn:∀k,k<n→dst k=some t→listed.getD k false=false):YK n dst vals e0 listed t=e0 t:=by
 unfold YK
 cases hf:(List.range n).find? (fun k=>listed.getD k false&&dst k==some t)with
 |none=>rfl
 |some j=>
  have h1:=List.find?_some hf
  have hj:=List.mem_range.1 (List.mem_of_find?_eq_some hf)
  simp only[Bool.and_eq_true,beq_iff_eq]at h1
  rw[hn j hj h1.2]at h1;cases h1.1
theorem JB(U:Uq n dst){i:Nat}(hi:i<n)(his:i<listed.size):YK n dst vals e0 (listed.setIfInBounds i true)=zx (YK n dst vals e0 listed) (dst i) (vals i):=by
 have hset:(listed.setIfInBounds i true).getD i false=true:=by simp[his]
 have main:∀t,dst i≠some t→YK n dst vals e0 (listed.setIfInBounds i true) t=YK n dst vals e0 listed t:=by
  intro t ht
  by_cases hex:∃k,k<n∧dst k=some t
  ·obtain⟨k,hk,hd⟩:=hex
   have hki:i≠k:=fun e=>ht (e▸hd)
   cases hl:listed.getD k false with
   |true=>rw[JA U hk hd hl,JA U hk hd (by rw[getD_set_ne false hki];exact hl)]
   |false=>
    rw[kN (fun j hj hd'=>by rw[U j k t hj hk hd' hd,getD_set_ne false hki];exact hl),kN (fun j hj hd'=>(by rw[U j k t hj hk hd' hd];exact hl))]
  ·rw[kN (fun k hk hd=>absurd ⟨k,hk,hd⟩ hex),kN (fun k hk hd=>absurd ⟨k,hk,hd⟩ hex)]
 cases hd:dst i with
 |none=>funext t;exact main t (by rw[hd];simp)
 |some d=>
  funext t
  simp only[zx,upd]
  by_cases ht:t=d
  ·subst ht;rw[if_pos rfl];exact JA U hi hd hset
  ·rw[if_neg ht];exact main t (by rw[hd];simpa using Ne.symm ht)
theorem JX{E:Nat→Nat→V}(hE:∀k,k<n→E (k+1)=zx (E k) (dst k) (vals k)){t:Nat}:∀k,k≤n→(∀j,j<k→dst j≠some t)→E k t=E 0 t
 |0,_,_=>rfl
 |k+1,hk,hn=>by
  rw[hE k (by omega)]
  have ih:=JX hE k (by omega) fun j hj=>hn j (by omega)
  have h1:=hn k (by omega)
  cases hd:dst k with
  |none=>exact ih
  |some d=>
   have:¬t=d:=fun e=>h1 (by rw[hd,e])
   simp only[zx,upd,if_neg this];exact ih
theorem ziU(U:Uq n dst){E:Nat→Nat→V}(hE:∀k,k<n→E (k+1)=zx (E k) (dst k) (vals k)){t j:Nat}(hd:dst j=some t):∀k,j<k→k≤n→E k t=vals j
 |0,hj,_=>by omega
 |k+1,hj,hk=>by
  rw[hE k (by omega)]
  by_cases e:j=k
  ·subst e;rw[hd];simp only[zx,upd,if_true]
  ·have ih:=ziU U hE hd k (by omega) (by omega)
   cases hdk:dst k with
   |none=>exact ih
   |some d=>
    have:¬t=d:=fun ee=>e (U j k t (by omega) (by omega) hd (by rw[hdk,ee]))
    simp only[zx,upd,if_neg this];exact ih
def WE(wr:Nat→Option Nat)(listed:Array Bool)(j:Nat):Nat→Option Nat
 |0=>none
 |k+1=>if listed.getD k false=true∧wr k=some j then some k else WE wr listed j k
theorem Zr(wr:Nat→Option Nat)(listed:Array Bool)(j:Nat):∀n,(WE wr listed j n=none∧∀k,k<n→listed.getD k false=true→wr k≠some j)∨
  ∃k,k<n∧WE wr listed j n=some k∧listed.getD k false=true∧wr k=some j∧∀m,k<m→m<n→listed.getD m false=true→wr m≠some j
 |0=>.inl ⟨rfl,fun k hk=>by omega⟩
 |n+1=>by
  unfold WE
  split
  ·rename_i hh
   exact .inr ⟨n,by omega,rfl,hh.1,hh.2,fun m h1 h2=>by omega⟩
  ·rename_i hh
   rcases Zr wr listed j n with⟨h1,h2⟩|⟨k,hk,h1,h2,h3,h4⟩
   ·refine .inl ⟨h1,fun k hk hl hw=> ?_⟩
    by_cases e:k=n
    ·subst e;exact hh ⟨hl,hw⟩
    ·exact h2 k (by omega) hl hw
   ·refine .inr ⟨k,by omega,h1,h2,h3,fun m hm1 hm2 hl hw=> ?_⟩
    by_cases e:m=n
    ·subst e;exact hh ⟨hl,hw⟩
    ·exact h4 m hm1 (by omega) hl hw
end
theorem zle{bs:List AOp}{n:Nat}(hB:zld ops bs n=true)(_hn:n≤bs.length):(∀(k:Nat)(b:AOp),k<n→bs[k]? =some b→Wq bs b=true∨(b.isFluid=true∧∃d,b.dst=some d))∧
  ∀(j k:Nat)(b c:AOp),j<k→k<n→bs[j]? =some b→bs[k]? =some c→(b.dst=none∨b.dst≠c.dst)∧(Region.waitsFor .any ops k j=true∨b.apartX c=true):=by
 unfold zld at hB
 simp only[Bool.and_eq_true]at hB
 obtain⟨h1,h2⟩:=hB
 refine⟨fun k b hk hb=> ?_,fun j k b c hjk hk hb hc=> ?_⟩
 ·have:=List.all_eq_true.1 h1 b (List.mem_of_getElem? (by rw[List.getElem?_take,if_pos hk];exact hb))
  split at this
  ·rename_i hh;exact .inl hh
  ·simp only[Bool.and_eq_true,Option.isSome_iff_exists]at this;exact .inr this
 ·have:=List.all_eq_true.1 (List.all_eq_true.1 h2 k (List.mem_range.2 hk)) j (List.mem_range.2 hjk)
  rw[hb,hc]at this
  simp only[Bool.and_eq_true,Bool.or_eq_true,bne_iff_ne,Option.isNone_iff_eq_none]at this
  exact this
theorem zdl{bs:List AOp}{b:AOp}(h:Wq bs b=true):b.g=none∧b.pk=none∧((b.o.calls=false∧b.o.still=false)∨∃f xs,b.o= .call f xs):=by
 unfold Wq at h
 simp only[Bool.and_eq_true,Option.isNone_iff_eq_none]at h
 refine⟨h.1.1,h.1.2,?_⟩
 have h2:=h.2
 cases hb:b.o<;>rw[hb]at h2<;>first|exact .inl ⟨rfl,rfl⟩|exact .inr ⟨_,_,rfl⟩|cases h2
theorem zAo{o:O}{j:Nat}(h1:(efO o ρ h).at'=some j):j∈jQ o ρ:=by
 cases o with
 |append s m z x y=>
  simp only[efO]at h1
  split at h1
  ·cases h1
  ·rename_i j' ver off len hv
   obtain rfl:=Option.some.inj h1
   simp[jQ,O.xs,hv,V.tops]
  ·cases h1
 |store n x v=>
  simp only[efO]at h1
  split at h1
  ·rename_i j' ver i o hv
   obtain rfl:=Option.some.inj h1
   simp[jQ,O.xs,hv,V.tops]
  ·cases h1
 |sts x=>
  simp only[efO]at h1
  split at h1
  ·rename_i j' ver off len hv
   obtain rfl:=Option.some.inj h1
   simp[jQ,O.xs,hv,V.tops]
  ·cases h1
 |cpy s x y=>
  simp only[efO]at h1
  split at h1
  ·rename_i j' ver off len hv
   obtain rfl:=Option.some.inj h1
   simp[jQ,O.xs,hv,V.tops]
  ·cases h1
 |clr s x=>
  simp only[efO]at h1
  split at h1
  ·rename_i j' ver off len hv
   obtain rfl:=Option.some.inj h1
   simp[jQ,O.xs,hv,V.tops]
  ·cases h1
 |stb x=>
  simp only[efO]at h1
  split at h1<;>cases h1
 |_=>cases h1
theorem Ws{b c:AOp}(hab:b.apartX c=true):(∀d,b.dst=some d→d∉c.reads)∧∀d,c.dst=some d→d∉b.reads:=by
 unfold AOp.apartX at hab
 simp only[Bool.and_eq_true]at hab
 refine⟨fun d hd=> ?_,fun d hd=> ?_⟩
 ·have:=hab.1;rw[hd]at this;simpa using this
 ·have:=hab.2;rw[hd]at this;simpa using this
end
end Go.Sx
end
section
set_option maxHeartbeats 2000000
set_option linter.unusedSimpArgs false
set_option linter.unusedVariables false
namespace Go.Sx
section
variable {P:Program} {N:Nat} {T:Orc P} {g g1:Gh} {e e':Nat→V} {h h':Heap} {w w1 w0:World} {own0:Own} {a:Act} {ops:Array Oper} {ρ:X→V}
def zll(n:Nat)(wr:Nat→Option Nat)(B:Nat→Nat→Option Blk)(dead:Blk)(listed:Array Bool)(j:Nat):Blk:=
 match WE wr listed j n with
 |some k=>(B (k+1) j).getD dead
 |none=>(B 0 j).getD dead
theorem X0{M:Nat}{f:Nat→Blk}{j:Nat}(hj:j<M):((List.range M).map f)[j]? =some (f j):=by simp[hj]
theorem zA6{J:Nat}{h h':Heap}(ha:h.bs[J]? =h'.bs[J]?):∀(n:Nat)(v:V),res (fun k=>k==J) h n v=res (fun k=>k==J) h' n v:=by
 intro n
 induction n with
 |zero=>intro v;rfl
 |succ n ih=>
  intro v
  have m:∀l:List V,zA (res (fun k=>k==J) h n) l=zA (res (fun k=>k==J) h' n) l:=fun l=>by rw[show res (fun k=>k==J) h n=res (fun k=>k==J) h' n from funext ih]
  have mm:∀l:List (List V),zA (zA (res (fun k=>k==J) h n)) l=zA (zA (res (fun k=>k==J) h' n)) l:=fun l=>by rw[show res (fun k=>k==J) h n=res (fun k=>k==J) h' n from funext ih]
  cases v with
  |agg cs=>simp only[res,m]
  |tup cs=>simp only[res,m]
  |fn f cs=>simp only[res,m]
  |ref j ver off len=>
   simp only[res]
   by_cases e:j=J
   ·subst e
    have e1:h.cur j ver=h'.cur j ver:=by simp only[Heap.cur,ha]
    have e2:h.blk j=h'.blk j:=by simp only[Heap.blk,List.getD_eq_getElem?_getD,ha]
    rw[e1,e2,mm]
   ·have e3:(j==J)=false:=by simpa using e
    simp only[e3,Bool.false_and,Bool.false_eq_true,if_false]
  |ptr j ver i o=>
   simp only[res]
   by_cases e:j=J
   ·subst e
    have e1:h.cur j ver=h'.cur j ver:=by simp only[Heap.cur,ha]
    have e2:h.blk j=h'.blk j:=by simp only[Heap.blk,List.getD_eq_getElem?_getD,ha]
    rw[e1,e2,m]
   ·have e3:(j==J)=false:=by simpa using e
    simp only[e3,Bool.false_and,Bool.false_eq_true,if_false]
  |mp ks vs=>simp only[res,m]
  |_=>rfl
theorem zlT{J:Nat}{h:Heap}{B:Blk}(hB:h.bs[J]? =some B):h.freeze (fun k=>k==J)=⟨h.bs.set J ⟨B.ver,B.sz,B.es,true,B.d⟩,h.clk⟩:=by
 unfold Heap.freeze
 congr 1
 apply List.ext_getElem?
 intro j
 rw[List.getElem?_mapIdx]
 by_cases e:j=J
 ·subst e
  have hj:=(List.getElem?_eq_some_iff.1 hB).1
  rw[List.getElem?_set_self hj,hB]
  simp
 ·rw[List.getElem?_set_ne (Ne.symm e)]
  have e3:(j==J)=false:=by simpa using e
  cases hb:h.bs[j]? with
  |none=>rfl
  |some B'=>simp only[Option.map_some,e3,Bool.or_false]
theorem zj9{b:AOp}{e:Nat→V}{h:Heap}(hca:b.o.calls=false):xe T b e h=efO b.o (zi e) h:=by
 unfold xe
 cases hb:b.o<;>first|rfl|(rw[hb]at hca;cases hca)
theorem zu5{b:AOp}{e:Nat→V}{h:Heap}(hca:b.o.calls=false):zpI T b e h=(okE b.o e h=true):=by
 unfold zpI
 cases hb:b.o<;>first|rfl|(rw[hb]at hca;cases hca)
theorem zlg{n:Nat}{bs:List AOp}{K:(Nat→V)→Heap→Prop}{Q:Exit→Act→World→Prop}(hc:z3 P ops N ops.toList=some bs)(hT:Region.lexTailB .any ops n=true)(hB:zld ops bs n=true){e0:Nat→V}{h0:Heap}
  (hw:wpX T (Z0 ops bs n) [] (e0,h0) fun e' h'=>W8 P (bs.drop n) e' ⟨h'.bs,h'.clk+(n+1)⟩ K) (hK:∀g' e' h' a' w',K e' h'→Rel N g' e' h' w0 own0 a' w'→Q .normal a' w')
  {a0:Act} {w00:World} (hR0:∃g,Rel N g e0 h0 w0 own0 a0 w00):wpAny P .any ops Q ops.size (Array.replicate ops.size false) a0 w00:=by
 simp only[Region.lexTailB,Bool.and_eq_true,decide_eq_true_eq]at hT
 obtain⟨⟨⟨⟨hsel,hn⟩,hs⟩,hch⟩,hlex⟩:=hT
 obtain⟨hlen,hget⟩:=ju hc
 have hlen':bs.length=ops.size:=by simpa using hlen
 obtain⟨hB1,hB2⟩:=zle hB (by omega)
 obtain⟨hhl,hhd⟩:=zhS (ops:=ops) (bs:=bs) (n:=n) (by omega)
 obtain⟨hP,hfin⟩:=zu4 _ _ _ hw
 rw[hhl]at hfin
 generalize hHd:Z0 ops bs n=hd at*
 have hget':∀k,k<n→∃p,hd[k]? =some p:=fun k hk=>⟨_,List.getElem?_eq_getElem (by omega)⟩
 generalize hS:(fun k=>stX T hd (e0,h0) k)=S
 have hSk:∀k,stX T hd (e0,h0) k=S k:=fun k=>by rw[←hS]
 have hS0:S 0=(e0,h0):=by rw[←hSk,zgv]
 have hSs:∀k p,hd[k]? =some p→S (k+1)=zca T p.1 p.2.1 (S k):=fun k p hp=>by rw[←hSk,←hSk,zgu _ _ _ _ hp]
 simp only[hSk]at hP hfin
 let dst:Nat→Option Nat:=fun k=>(hd[k]?).bind (·.1.dst)
 let vals:Nat→V:=fun k=>match hd[k]? with
  |some p=>if p.2.1=true then(xe T p.1 (S k).1 (S k).2).val (S k).2 else zV T p.1 (S k).1 (S k).2
  |none=>.any
 let wr:Nat→Option Nat:=fun k=>match hd[k]? with
  |some p=>xwr T p.1 p.2.1 (S k).1 (S k).2
  |none=>none
 have hdst:∀k p,hd[k]? =some p→dst k=p.1.dst:=fun k p hp=>by simp only[dst,hp,Option.bind_some]
 have hvalO:∀k p,hd[k]? =some p→p.2.1=true→vals k=(xe T p.1 (S k).1 (S k).2).val (S k).2:=fun k p hp ho=>by simp only[vals,hp,ho,if_true]
 have hvalF:∀k p,hd[k]? =some p→p.2.1=false→vals k=zV T p.1 (S k).1 (S k).2:=fun k p hp ho=>by simp only[vals,hp,ho,Bool.false_eq_true,if_false]
 have hwr:∀k p,hd[k]? =some p→wr k=xwr T p.1 p.2.1 (S k).1 (S k).2:=fun k p hp=>by simp only[wr,hp]
 have hwrO:∀k p,hd[k]? =some p→p.2.1=true→wr k=some ((xe T p.1 (S k).1 (S k).2).at'.getD (S k).2.bs.length):=fun k p hp ho=>by rw[hwr k p hp,ho];rfl
 have hwrF:∀k p,hd[k]? =some p→p.2.1=false→wr k=none:=fun k p hp ho=>by rw[hwr k p hp,ho];rfl
 have hE:∀k,k<n→(S (k+1)).1=zx (S k).1 (dst k) (vals k):=fun k hk=>by
  obtain⟨p,hp⟩:=hget' k hk
  rw[hSs k p hp,hdst k p hp]
  cases ho:p.2.1 with
  |true=>rw[hvalO k p hp ho];rfl
  |false=>rw[hvalF k p hp ho];rfl
 have hHO:∀k p,hd[k]? =some p→p.2.1=true→(S (k+1)).2=(xe T p.1 (S k).1 (S k).2).heap (S k).2:=fun k p hp ho=>by rw[hSs k p hp,ho];rfl
 have hHF:∀k p,hd[k]? =some p→p.2.1=false→(S (k+1)).2=(S k).2:=fun k p hp ho=>by rw[hSs k p hp,ho];rfl
 have U:Uq n dst:=by
  intro j k d hj hk hjd hkd
  obtain⟨p,hp⟩:=hget' j hj
  obtain⟨q,hq⟩:=hget' k hk
  rw[hdst j p hp]at hjd
  rw[hdst k q hq]at hkd
  rcases Nat.lt_trichotomy j k with hlt|heq|hlt
  ·have:=(hB2 j k _ _ hlt hk (hhd j p hp).2.1 (hhd k q hq).2.1).1
   rw[hjd,hkd]at this;simp at this
  ·exact heq
  ·have:=(hB2 k j _ _ hlt hj (hhd k q hq).2.1 (hhd j p hp).2.1).1
   rw[hjd,hkd]at this;simp at this
 have hatlt:∀k p j,hd[k]? =some p→p.2.1=true→(xe T p.1 (S k).1 (S k).2).at'=some j→j∈yP p.1 p.2.1 (S k).1∧j<(S k).2.bs.length:=fun k p j hp ho hj=>by
  have hxs:=zdl (bs:=bs) (b:=p.1) (by rw[←(hhd k p hp).2.2.1];exact ho)
  have hj':j∈yP p.1 p.2.1 (S k).1:=by
   rcases hxs.2.2 with⟨hca,_⟩|hcall
   ·rw[zj9 hca]at hj
    rw[Wp hca,hxs.2.1]
    simp only[Option.isSome_none,Bool.false_eq_true,if_false]
    exact zAo hj
   ·obtain⟨fn,xs,hcall⟩:=hcall
    have e1:yP p.1 p.2.1 (S k).1=bif (y4 (S k).1 xs).isSome then[]else kw (S k).1 xs:=by unfold yP;rw[ho,hcall]
    rw[e1]
    unfold xe at hj
    rw[hcall]at hj
    simp only at hj
    cases hsh:(y4 (S k).1 xs).isSome with
    |true=>rw[hsh]at hj;cases hj
    |false=>rw[hsh]at hj;simp only[cond_false]at hj ⊢;exact List.mem_of_mem_head? hj
  exact⟨hj',(hP k p hp).2.1 j hj'⟩
 have hlen1:∀k,k<n→(S k).2.bs.length≤(S (k+1)).2.bs.length∧(S k).2.clk≤(S (k+1)).2.clk∧(∀j,wr k≠some j→(S (k+1)).2.bs[j]? =(S k).2.bs[j]?)∧∀j,wr k=some j→j<(S (k+1)).2.bs.length∧(S (k+1)).2.clk=(S k).2.clk+1:=fun k hk=>by
  obtain⟨p,hp⟩:=hget' k hk
  cases ho:p.2.1 with
  |false=>
   rw[hHF k p hp ho]
   exact⟨Nat.le_refl _,Nat.le_refl _,fun _ _=>rfl,fun j hj=>by rw[hwrF k p hp ho]at hj;cases hj⟩
  |true=>
   rw[hHO k p hp ho,hwrO k p hp ho]
   unfold XE.heap
   cases hat:(xe T p.1 (S k).1 (S k).2).at' with
   |none=>
    simp only[Option.getD_none,List.length_append,List.length_singleton]
    refine⟨by omega,by omega,fun j hj=> ?_,fun j hj=> ?_⟩
    ·have hj':j≠(S k).2.bs.length:=fun e=>hj (by rw[e])
     rcases Nat.lt_or_ge j (S k).2.bs.length with hlt|hge
     ·rw[List.getElem?_append_left hlt]
     ·rw[List.getElem?_append_right hge,List.getElem?_eq_none hge,List.getElem?_eq_none (by simp;omega)]
    ·obtain rfl:=Option.some.inj hj;exact⟨by omega,trivial⟩
   |some J=>
    simp only[Option.getD_some,List.length_set]
    refine⟨Nat.le_refl _,by omega,fun j hj=> ?_,fun j hj=> ?_⟩
    ·rw[List.getElem?_set_ne (fun e=>hj (by rw[e]))]
    ·obtain rfl:=Option.some.inj hj
     exact⟨(hatlt k p _ hp ho hat).2,trivial⟩
 have hmono:∀k m,k≤m→m≤n→(S k).2.bs.length≤(S m).2.bs.length∧(S k).2.clk≤(S m).2.clk:=by
  intro k m hkm
  induction m with
  |zero=>intro _;rw[show k=0 by omega];exact⟨Nat.le_refl _,Nat.le_refl _⟩
  |succ m ih=>
   intro hm
   by_cases e:k=m+1
   ·rw[e];exact⟨Nat.le_refl _,Nat.le_refl _⟩
   ·have h1:=ih (by omega) (by omega)
    have h2:=hlen1 m (by omega)
    omega
 have hframe:∀a b j,a≤b→b≤n→(∀m,a≤m→m<b→wr m≠some j)→(S b).2.bs[j]? =(S a).2.bs[j]? :=by
  intro a b j hab
  induction b with
  |zero=>intro _ _;rw[show a=0 by omega]
  |succ b ih=>
   intro hb hno
   by_cases e:a=b+1
   ·rw[e]
   ·rw[(hlen1 b (by omega)).2.2.1 j (hno b (by omega) (by omega))]
    exact ih (by omega) (by omega) fun m h1 h2=>hno m h1 (by omega)
 have hclash:∀m k,m<k→k<n→∀p q,hd[m]? =some p→hd[k]? =some q→RchW ops k m∨
  ((∀j,wr m=some j→j∉yP q.1 q.2.1 (S k).1∧wr k≠some j)∧∀j,wr k=some j→j∉yP p.1 p.2.1 (S m).1):=by
  intro m k hmk hk p q hp hq
  have htr:=zk1 (T:=T) hd (e0,h0) m p hp
  rw[hSk]at htr
  rcases(hP k q hq).2.2 m _ htr (by simpa using hmk)with hin|hno
  ·exact .inl ((hhd k q hq).2.2.2 m hin)
  ·right
   rw[←hwr m p hp,←hwr k q hq]at hno
   unfold JN at hno
   simp only[Bool.and_eq_true]at hno
   refine⟨fun j hj=> ?_,fun j hj=> ?_⟩
   ·have:=hno.1
    rw[hj]at this
    simp only[Bool.and_eq_true,Bool.not_eq_true',bne_iff_ne]at this
    exact⟨fun hm=>by simp[hm]at this,this.2⟩
   ·have:=hno.2
    rw[hj]at this
    intro hm
    simp[hm]at this
 generalize hM:(S n).2.bs.length=M
 generalize hC:(S n).2.clk=C
 let dead:Blk:=⟨C,0,[],false,[]⟩
 let bl:Array Bool→Nat→Blk:=zll n wr (fun k j=>(S k).2.bs[j]?) dead
 let hL:Array Bool→Nat→Heap:=fun listed c=>⟨(List.range M).map (bl listed),c⟩
 have hh0:∀k,k≤n→h0.clk≤(S k).2.clk:=fun k hk=>by have:=(hmono 0 k (by omega) hk).2;rw[hS0]at this;exact this
 obtain⟨⟨L',hL1,hL2,hL3⟩,hafter⟩:=kT (n:=n) n 0 (Array.replicate ops.size false) hlex (by omega) (by simp) (by omega) (fun j hj=>by rw[getD_replicate_false];simp)
 have main:∀(f:Nat)(listed:Array Bool)(a:Act)(w:World),HeadInv .any ops n listed→kL listed n=f→
  (∃g c,Rel N g (YK n dst vals e0 listed) (hL listed c) w0 own0 a w∧C+1≤c∧c+f≤C+1+n∧
    (∀j v,g.us j v→v<h0.clk∨(∃k,k<n∧listed.getD k false=true∧wr k=some j∧v=(S k).2.clk)∨C≤v)∧g.us 0 C∧∀k v,own0.g.us k v→v<h0.clk)→
  wpAny P .any ops Q (f+(ops.size - n)) listed a w:=by
  intro f
  induction f with
  |zero=>
   intro listed a w inv hcnt hR
   obtain⟨g,c,R,hc1,hc2,_⟩:=hR
   have hall:=Zb n hcnt
   have hallF:∀j,j<n→listed.getD j false=true:=fun j hj=>by
    have hjs:j<listed.size:=by rw[inv.size];omega
    have:=hall j hj
    simpa[hjs]using this
   have hLeq:L'=listed:=by
    apply Array.ext (by rw[hL1,inv.size])
    intro j hj1 hj2
    have h1:=hL2 j (by omega)
    have h2:listed.getD j false=decide (j<n):=by
     by_cases hjn:j<n
     ·rw[hallF j hjn];simp[hjn]
     ·rw[getD_both (inv.tail j (by omega) (by omega))];simp[hjn]
    have h3:L'.getD j false=L'[j]:=by simp[hj1]
    have h4:listed.getD j false=listed[j]:=by simp[hj2]
    rw[←h3,←h4,h1,h2]
   subst hLeq
   have heq:YK n dst vals e0 L'=(S n).1:=by
    funext t
    by_cases hex:∃k,k<n∧dst k=some t
    ·obtain⟨k,hk,hd'⟩:=hex
     rw[JA U hk hd' (hallF k hk),ziU U (E:=fun k=>(S k).1) hE hd' n hk (Nat.le_refl _)]
    ·rw[kN (fun k hk hd'=>absurd ⟨k,hk,hd'⟩ hex),JX (E:=fun k=>(S k).1) hE n (Nat.le_refl _) (fun j hj hd'=>hex ⟨j,hj,hd'⟩)]
     simp only[hS0]
   have hbl:(List.range M).map (bl L')=(S n).2.bs:=by
    apply List.ext_getElem?
    intro j
    rcases Nat.lt_or_ge j M with hj|hj
    ·rw[X0 hj]
     have hsome:(S n).2.bs[j]? =some (S n).2.bs[j]:=List.getElem?_eq_getElem (by omega)
     simp only[bl,zll]
     rcases Zr wr L' j n with⟨h1,h2⟩|⟨k,hk,h1,h2,h3,h4⟩
     ·rw[h1];simp only
      rw[←hframe 0 n j (by omega) (Nat.le_refl _) fun m _ hm=>h2 m hm (hallF m hm),hsome];rfl
     ·rw[h1];simp only
      rw[←hframe (k+1) n j (by omega) (Nat.le_refl _) fun m hm1 hm2=>h4 m (by omega) hm2 (hallF m hm2),hsome];rfl
    ·rw[List.getElem?_eq_none (by simpa using hj),List.getElem?_eq_none (by omega)]
   have R2:Rel N g (S n).1 ⟨(S n).2.bs,(S n).2.clk+(n+1)⟩ w0 own0 a w:=by
    rw[heq]at R
    simp only[hL,hbl]at R
    exact⟨R.size,R.tm,R.defers,R.heap.le (c:=(S n).2.clk+(n+1)) (by simp only;omega)⟩
   have hlist:=j9 (Q:=Q) (jX (ops:=ops) n hc) R2 hfin hK
   have hdl:(ops.toList.drop n).length=ops.size - n:=by simp
   have:=wpAny_of_seq (md:=.any) (Q':=Q) (ops.toList.drop n) n L' a w (fun j=>by simp[List.getElem?_drop]) (by rw[hdl];exact hL3) hlist
   rw[hdl]at this
   rwa [Nat.zero_add]
  |succ f ih=>
   intro listed a w inv hcnt hR
   obtain⟨g,c,R,hc1,hc2,hus,husC,hup0⟩:=hR
   obtain⟨i0,hi0,hun0,hmin⟩:=Qq (listed:=listed) n (by omega)
   have hready0:i0∈Region.ready .any ops listed:=by
    obtain⟨o,ho⟩:∃o,ops[i0]? =some o:=⟨_,Array.getElem?_eq_getElem (by omega)⟩
    refine mem_ready.2 ⟨hun0,o,ho,fun x hx hb=> ?_⟩
    have hlt:=hafter i0 o (by omega) hi0 ho x hx hb
    have:=hmin _ hlt
    have hxs:x.on<listed.size:=by rw[inv.size];omega
    simpa[hxs]using this
   rw[show f+1+(ops.size - n)=(f+(ops.size - n))+1 by omega]
   refine⟨fun h0=>(by rw[h0]at hready0;cases hready0),fun i hi=> ?_⟩
   have hin:i<n:=by
    rcases Nat.lt_or_ge i n with hlt|hge
    ·exact hlt
    ·exact absurd hi (tail_waits hs hch hn inv _ i0 rfl hi0 hun0 i hge)
   obtain⟨hun,o,ho,hall⟩:=mem_ready.1 hi
   have hol:ops.toList[i]? =some o:=by simpa using ho
   obtain⟨b,hb,hcb⟩:=hget i o hol
   have C0:=Zm hcb
   have his:i<listed.size:=by rw[inv.size];omega
   have hunF:listed.getD i false=false:=getD_both hun
   have hcnt':kL (listed.setIfInBounds i true) n=f:=by
    have:=Qr his hun n
    rw[if_pos hin]at this
    omega
   obtain⟨p,hp⟩:=hget' i hin
   obtain⟨_,hpb,hpo,hpr⟩:=hhd i p hp
   have hbp:b=p.1:=Option.some.inj (hb.symm.trans hpb)
   subst hbp
   obtain⟨hok,hbound,_⟩:=hP i p hp
   have hall':∀o',ops[i]? =some o'→∀x∈o'.after,Region.binds .any x=true→listed.getD x.on false=true:=fun o' ho'=>by
    rw[ho]at ho';obtain rfl:=Option.some.inj ho';exact hall
   have hRe:∀k,RchW ops i k→listed.getD k false=true:=fun k r=>zgc inv hall' r
   have hRe2:∀k,listed.getD k false=true→¬RchW ops k i:=fun k hl r=>by
    have:=JS inv r hl;rw[hunF]at this;cases this
   have hag:∀t∈p.1.reads,(S i).1 t=YK n dst vals e0 listed t:=by
    intro t ht
    by_cases hex:∃k,k<n∧dst k=some t
    ·obtain⟨k,hk,hd'⟩:=hex
     obtain⟨q,hq⟩:=hget' k hk
     have hqd:q.1.dst=some t:=by rw[←hdst k q hq];exact hd'
     rcases Nat.lt_trichotomy k i with hlt|heq|hlt
     ·rcases(hB2 k i _ _ hlt hin (hhd k q hq).2.1 hpb).2 with hwt|hap
      ·rw[ziU U (E:=fun k=>(S k).1) hE hd' i hlt (by omega),JA U hk hd' (hRe k (.one hwt))]
      ·exact absurd ht ((Ws hap).1 t hqd)
     ·subst heq
      rw[JX (E:=fun k=>(S k).1) hE k (by omega) (fun j hj hd2=>by have:=U j k t (by omega) hk hd2 hd';omega),kN (fun j hj hd2=>by rw[U j k t hj hk hd2 hd'];exact hunF)]
      simp only[hS0]
     ·rcases(hB2 i k _ _ hlt hk hpb (hhd k q hq).2.1).2 with hwt|hap
      ·have hkl:listed.getD k false=false:=by
        cases hl:listed.getD k false with
        |false=>rfl
        |true=>exact absurd (.one hwt) (hRe2 k hl)
       rw[JX (E:=fun k=>(S k).1) hE i (by omega) (fun j hj hd2=>by have:=U j k t (by omega) hk hd2 hd';omega),kN (fun j hj hd2=>by rw[U j k t hj hk hd2 hd'];exact hkl)]
       simp only[hS0]
      ·exact absurd ht ((Ws hap).2 t hqd)
    ·rw[JX (E:=fun k=>(S k).1) hE i (by omega) (fun j hj hd2=>hex ⟨j,by omega,hd2⟩),kN (fun k hk hd'=>absurd ⟨k,hk,hd'⟩ hex)]
     simp only[hS0]
   have hMi:(S i).2.bs.length≤M:=by rw[←hM];exact(hmono i n (by omega) (Nat.le_refl _)).1
   have hfoot:Agr (hL listed c) (S i).2 (yP p.1 p.2.1 (S i).1):=by
    intro j hj
    have hjl:=hbound j hj
    have hsome:(S i).2.bs[j]? =some (S i).2.bs[j]:=List.getElem?_eq_getElem hjl
    simp only[hL]
    rw[X0 (by omega)]
    simp only[bl,zll]
    have hearly:∀k,k<i→wr k=some j→listed.getD k false=true:=fun k hk hwk=>by
     obtain⟨q,hq⟩:=hget' k (by omega)
     rcases hclash k i hk hin q p hq hp with hr|hno
     ·exact hRe k hr
     ·exact absurd hj (hno.1 j hwk).1
    rcases Zr wr listed j n with⟨h1,h2⟩|⟨k,hk,h1,h2,h3,h4⟩
    ·rw[h1];simp only
     rw[←hframe 0 i j (by omega) (by omega) fun m _ hm hwm=>h2 m (by omega) (hearly m hm hwm) hwm,hsome];rfl
    ·rw[h1];simp only
     have hki:k<i:=by
      rcases Nat.lt_trichotomy k i with hlt|heq|hlt
      ·exact hlt
      ·subst heq;rw[hunF]at h2;cases h2
      ·obtain⟨q,hq⟩:=hget' k hk
       rcases hclash i k hlt hk p q hp hq with hr|hno
       ·exact absurd hr (hRe2 k h2)
       ·exact absurd hj (hno.2 j h3)
     rw[←hframe (k+1) i j (by omega) (by omega) fun m hm1 hm2 hwm=>h4 m (by omega) (by omega) (hearly m hm2 hwm) hwm,hsome];rfl
   have hset:∀k,k≠i→(listed.setIfInBounds i true).getD k false=listed.getD k false:=fun k hk=>getD_set_ne false (fun e=>hk e.symm)
   have hseti:(listed.setIfInBounds i true).getD i false=true:=by simp[his]
   have hblne:∀j,wr i≠some j→bl (listed.setIfInBounds i true) j=bl listed j:=by
    intro j hj
    have:∀m,m≤n→WE wr (listed.setIfInBounds i true) j m=WE wr listed j m:=by
     intro m
     induction m with
     |zero=>intro _;rfl
     |succ m ihm=>
      intro hm
      unfold WE
      rw[ihm (by omega)]
      by_cases e:m=i
      ·subst e;rw[if_neg (fun hh=>hj hh.2),if_neg (fun hh=>hj hh.2)]
      ·rw[hset m e]
    simp only[bl,zll,this n (Nat.le_refl _)]
   have hus':∀ {g':Gh}{w':World},Ext g w g' w'→(∀j v,g'.us j v→v<h0.clk∨(∃k,k<n∧listed.getD k false=true∧wr k=some j∧v=(S k).2.clk)∨C≤v)∧g'.us 0 C:=fun hex=>by
    refine⟨fun j v hv=> ?_,hex.us _ _ husC⟩
    rcases hex.up j v hv with hv|hv
    ·exact hus j v hv
    ·exact .inr (.inr (Nat.le_of_lt (hv 0 C husC)))
   have hwide:∀ {g':Gh},(∀j v,g'.us j v→v<h0.clk∨(∃k,k<n∧listed.getD k false=true∧wr k=some j∧v=(S k).2.clk)∨C≤v)→
    ∀j v,g'.us j v→v<h0.clk∨(∃k,k<n∧(listed.setIfInBounds i true).getD k false=true∧wr k=some j∧v=(S k).2.clk)∨C≤v:=fun hh j v hv=>by
    rcases hh j v hv with hv|⟨k,hk,hl,hw1,hw2⟩|hv
    ·exact .inl hv
    ·refine .inr (.inl ⟨k,hk,?_,hw1,hw2⟩)
     rw[hset k (fun e=>by subst e;rw[hunF]at hl;cases hl)];exact hl
    ·exact .inr (.inr hv)
   cases hown:p.2.1 with
   |false=>
    rw[hown]at hok
    simp only[xOK]at hok
    have hfl:p.1.isFluid=true:=by
     rcases hB1 i p.1 hin hpb with hx|hx
     ·rw[←hpo,hown]at hx;cases hx
     ·exact hx.1
    have hPV:yR T p.1 (S i).1 (hL listed c)∧zV T p.1 (S i).1 (hL listed c)=vals i:=by
     rw[hvalF i p hp hown]
     cases hcl:p.1.o.calls with
     |true=>exact hok.2 hcl _
     |false=>
      obtain⟨q1,q2⟩:=zkA (T:=T) hcl hfoot
      rw[q1,q2];exact⟨hok.1,rfl⟩
    obtain⟨q1,q2⟩:=Zf (T:=T) hag C0.mv (hL listed c)
    refine zin C0 ho hfl R (by rw[←q1];exact hPV.1) fun cv g' w' hv hex hH=> ?_
    rw[←q2,hPV.2]at hv
    obtain⟨u1,u2⟩:=hus' hex
    refine ih _ (a.put o.dst cv) w' (inv.set hi hin) hcnt' ⟨g',c,?_,hc1,by omega,hwide u1,u2,hup0⟩
    have hheap:hL (listed.setIfInBounds i true) c=hL listed c:=by
     simp only[hL]
     congr 1
     refine List.map_congr_left fun j _=>hblne j (by rw[hwrF i p hp hown];simp)
    rw[hheap,JB U hin his,hdst i p hp,←C0.dst]
    exact(R.mono hex hH).put C0.lt hv
   |true=>
    rw[hown]at hok
    simp only[xOK]at hok
    have hxs:=zdl (bs:=bs) (b:=p.1) (by rw[←hpo];exact hown)
    obtain⟨hxg,hxpk,hxo⟩:=hxs
    generalize hxx:xe T p.1 (S i).1 (S i).2=x at*
    generalize hJ:x.at'.getD (S i).2.bs.length=J
    have hwi:wr i=some J:=by rw[hwrO i p hp hown,hxx,hJ]
    have hSi:(S (i+1)).2=x.heap (S i).2:=by rw[hHO i p hp hown,hxx]
    obtain⟨hJ1,hclk1⟩:=(hlen1 i hin).2.2.2 J hwi
    have hJM:J<M:=by rw[←hM];exact Nat.lt_of_lt_of_le hJ1 (hmono (i+1) n (by omega) (Nat.le_refl _)).1
    have hCi:(S i).2.clk<C:=by have:=(hmono (i+1) n (by omega) (Nat.le_refl _)).2;omega
    have hnewB:(S (i+1)).2.bs[J]? =some (x.b (S i).2.clk):=by
     rw[hSi];unfold XE.heap
     cases hat:x.at' with
     |none=>rw[hat]at hJ;simp only[Option.getD_none]at hJ;subst hJ;simp
     |some J'=>
      rw[hat]at hJ;simp only[Option.getD_some]at hJ;subst hJ
      have:=(hatlt i p _ hp hown (by rw[hxx];exact hat)).2
      simp[this]
    have hblJ:bl (listed.setIfInBounds i true) J=x.b (S i).2.clk:=by
     simp only[bl,zll]
     rcases Zr wr (listed.setIfInBounds i true) J n with⟨h1,h2⟩|⟨k,hk,h1,h2,h3,h4⟩
     ·exact absurd hwi (h2 i hin hseti)
     ·have hki:k=i:=by
       rcases Nat.lt_trichotomy k i with hlt|heq|hlt
       ·exact absurd hwi (h4 i hlt hin hseti)
       ·exact heq
       ·rw[hset k (by omega)]at h2
        obtain⟨q,hq⟩:=hget' k hk
        rcases hclash i k hlt hk p q hp hq with hr|hno
        ·exact absurd hr (hRe2 k h2)
        ·exact absurd h3 ((hno.1 J hwi).2)
      subst hki
      rw[h1];simp only
      rw[hnewB];rfl
    have hlist:((List.range M).map (bl listed)).set J (x.b (S i).2.clk)=(List.range M).map (bl (listed.setIfInBounds i true)):=by
     apply List.ext_getElem?
     intro j
     by_cases e:j=J
     ·subst e;rw[List.getElem?_set_self (by simpa using hJM),X0 hJM,hblJ]
     ·rw[List.getElem?_set_ne (Ne.symm e)]
      rcases Nat.lt_or_ge j M with hj|hj
      ·rw[X0 hj,X0 hj,hblne j (by rw[hwi];simpa using Ne.symm e)]
      ·rw[List.getElem?_eq_none (by simpa using hj),List.getElem?_eq_none (by simpa using hj)]
    have hfresh:∀ {g':Gh},(∀j v,g'.us j v→v<h0.clk∨(∃k,k<n∧listed.getD k false=true∧wr k=some j∧v=(S k).2.clk)∨C≤v)→¬g'.us J (S i).2.clk:=fun hh hv=>by
     rcases hh _ _ hv with hv|⟨k,hk,hl,hw1,hw2⟩|hv
     ·have:=hh0 i (by omega);omega
     ·have hki:k≠i:=fun e=>by subst e;rw[hunF]at hl;cases hl
      have h3:=((hlen1 k hk).2.2.2 J hw1).2
      rcases Nat.lt_or_gt_of_ne hki with hlt|hlt
      ·have:=(hmono (k+1) i (by omega) (by omega)).2;omega
      ·have:=(hmono (i+1) k (by omega) (by omega)).2;omega
     ·omega
    have finA:∀cv g' w',VRep g' w' cv (x.val (hL listed c))→Ext g w g' w'→HRel g' (x.heap (hL listed c)) w' w0 own0→((∃m,x.v=fun j c=>.ref j c 0 m)∨x.v=fun j c=>.ptr j c 0 0)→
     (∀c,x.b c=⟨c,(x.b 0).sz,(x.b 0).es,(x.b 0).fz,(x.b 0).d⟩)→wpAny P .any ops Q (f+(ops.size - n)) (listed.setIfInBounds i true) (a.put o.dst cv) w':=by
     intro cv g' w' k1 k2 k3 hvf hbf
     obtain⟨u1,u2⟩:=hus' k2
     have hlenL:(hL listed c).bs.length=M:=by simp[hL]
     obtain⟨s,hsB,hsv,hsJ,hMle,hclk'⟩:∃s,(x.heap (hL listed c)).bs[s]? =some (x.b c)∧x.val (hL listed c)=x.v s c∧(s=J∨M≤s)∧M≤(x.heap (hL listed c)).bs.length∧(x.heap (hL listed c)).clk=c+1:=by
      unfold XE.heap XE.val
      cases hat:x.at' with
      |none=>exact⟨M,by simp[hL],by simp[hL],.inr (Nat.le_refl _),by simp[hL],rfl⟩
      |some J'=>
       rw[hat]at hJ;simp only[Option.getD_some]at hJ;subst hJ
       exact⟨J',by simp[hL,hJM],by simp[hL],.inl rfl,by simp[hL],rfl⟩
     have hslt:=(List.getElem?_eq_some_iff.1 hsB).1
     obtain⟨I,hI⟩:∃I,g'.inf[s]? =some I:=⟨_,List.getElem?_eq_getElem (by rw[k3.len];exact hslt)⟩
     have hIv:I.ver=c:=by have:=(k3.ok s _ I hsB hI).ver;rw[this,hbf]
     obtain⟨ex2,H2⟩:=k3.shift (s:=s) (j:=J) (u:=(S i).2.clk) (L:=M) hsB hI hJM hMle hsJ (hfresh u1) (by rw[hclk'];omega) (fun k v hv=>Nat.lt_of_lt_of_le (hup0 k v hv) (hh0 i (by omega)))
     have hJg:J<g'.inf.length:=by rw[k3.len];omega
     have hhp:((x.heap (hL listed c)).bs.set J ⟨(S i).2.clk,(x.b c).sz,(x.b c).es,(x.b c).fz,(x.b c).d⟩).take M=(List.range M).map (bl (listed.setIfInBounds i true)):=by
      rw[←hlist]
      have e1:(⟨(S i).2.clk,(x.b c).sz,(x.b c).es,(x.b c).fz,(x.b c).d⟩:Blk)=x.b (S i).2.clk:=by rw[hbf c,hbf (S i).2.clk]
      rw[e1]
      unfold XE.heap
      cases hat:x.at' with
      |none=>
       simp only[hL]
       rw[List.set_append_left _ _ (by simpa using hJM),List.take_append_of_le_length (by simp),List.take_of_length_le (by simp)]
      |some J'=>
       rw[hat]at hJ;simp only[Option.getD_some]at hJ;subst hJ
       simp only[hL]
       rw[List.set_set,List.take_of_length_le (by simp)]
     rw[hhp,hclk']at H2
     have hv2:VRep (g'.shift I J (S i).2.clk M) w' cv (vals i):=by
      rw[hvalO i p hp hown,hxx]
      unfold XE.val
      rw[hJ]
      rw[hsv]at k1
      rcases hvf with⟨m,hm⟩|hm
      ·rw[hm]at k1 ⊢;exact k1.shift_ref hJg hI hIv
      ·rw[hm]at k1 ⊢;exact k1.shift_ptr hJg hI hIv
     refine ih _ (a.put o.dst cv) w' (inv.set hi hin) hcnt' ⟨g'.shift I J (S i).2.clk M,c+1,?_,by omega,by omega,fun j v hv=> ?_,Or.inl u2,hup0⟩
     ·rw[JB U hin his,hdst i p hp,←C0.dst]
      exact((R.mono0 k2.toExt0 k3).mono0 ex2 H2).put C0.lt hv2
     ·rcases hv with hv|⟨rfl,rfl⟩
      ·exact hwide u1 j v hv
      ·exact .inr (.inl ⟨i,hin,hseti,hwi,rfl⟩)
    rcases hxo with⟨hca,hst⟩|⟨fn,xs,hcall⟩
    ·
     rw[zj9 hca]at hxx
     rw[zu5 hca]at hok
     have hxl:∀t∈p.1.o.xs.flatMap X.temps,(S i).1 t=YK n dst vals e0 listed t:=fun t ht=>hag t (by unfold AOp.reads;rw[hxpk];exact List.mem_append_right _ ht)
     have hfo:Agr (hL listed c) (S i).2 (jQ p.1.o (zi (S i).1)):=by
      have:=hfoot
      rw[Wp hca,hxpk]at this
      simpa using this
     have hcg:=Yn (o:=p.1.o) (ku hxl).2 (hL listed c)
     have hok2:okE p.1.o (YK n dst vals e0 listed) (hL listed c)=true:=by
      rw[←X6 hxl]
      unfold okE at hok⊢
      rw[zku hfo];exact hok
     have hok3:(evE p.1.o (zi (S i).1) (hL listed c)).2.2=true:=by
      unfold okE at hok2;simp only[Bool.and_eq_true]at hok2;rw[hcg];exact hok2.2
     obtain⟨f1,f2⟩:=zAs hst hca hok3
     rw[zwo hfo,hxx]at f1 f2
     unfold wpOp
     rw[ho]
     simp only
     have hw:Region.wanted o (yielded ops a.tmps)=true:=by
      rcases C0.g with⟨_,hog⟩|⟨_,_,_,_,_,hg⟩
      ·simp[Region.wanted,hog]
      ·rw[hxg]at hg;cases hg
     rw[if_pos hw]
     left
     refine ze4 C0 hxpk hst hca R hok2 fun cv g' w' k1 k2 k3=> ?_
     rw[←hcg]at k1 k3
     rw[f1]at k1
     rcases f2 with⟨f2,f3,f4⟩|⟨j,u,B,f2,f3,f4,f5⟩
     ·rw[f2]at k3
      exact finA cv g' w' k1 k2 k3 f3 f4
     ·rw[f5]at k3
      have hjJ:j=J:=by rw[f2]at hJ;simpa using hJ
      subst hjJ
      have hBe:B=x.b (S i).2.clk:=by rw[f4]
      rw[hBe]at k3
      simp only[hL]at k3
      rw[hlist]at k3
      obtain⟨u1,u2⟩:=hus' k2
      refine ih _ (a.put o.dst cv) w' (inv.set hi hin) hcnt' ⟨g',c,?_,hc1,by omega,hwide u1,u2,hup0⟩
      rw[JB U hin his,hdst i p hp,←C0.dst]
      refine(R.mono k2 k3).put C0.lt ?_
      rw[hvalO i p hp hown,zj9 hca,hxx]
      unfold XE.val at k1⊢
      rw[f3]at k1⊢
      exact k1
    ·
     unfold zpI at hok
     rw[hcall]at hok
     simp only at hok
     obtain⟨hgk,hok⟩:=hok
     have hxl:∀t∈p.1.o.xs.flatMap X.temps,(S i).1 t=YK n dst vals e0 listed t:=fun t ht=>hag t (by unfold AOp.reads;rw[hxpk];exact List.mem_append_right _ ht)
     rw[hcall]at hxl
     obtain⟨l1,l2⟩:=ku (xs:=xs) hxl
     have hgk2:yB (YK n dst vals e0 listed) xs=true:=by rw[←jf l1];exact hgk
     have hmap:xs.map (zi (S i).1)=xs.map (zi (YK n dst vals e0 listed)):=List.map_congr_left fun y hy=>l2 y hy
     have hxx2:=hxx
     unfold xe at hxx2
     rw[hcall]at hxx2
     simp only at hxx2
     obtain⟨cc,hop,hcc⟩:=zX (C0.op hxpk) (by rw[hcall];rfl)
     rw[hcall]at hcc
     unfold wpOp
     rw[ho]
     simp only
     have hw:Region.wanted o (yielded ops a.tmps)=true:=by
      rcases C0.g with⟨_,hog⟩|⟨_,_,_,_,_,hg⟩
      ·simp[Region.wanted,hog]
      ·rw[hxg]at hg;cases hg
     rw[if_pos hw]
     left
     cases hsh:(y4 (S i).1 xs).isSome with
     |true=>
      rw[hsh]at hok hxx2
      simp only[cond_true]at hok hxx2
      obtain⟨as,has⟩:=Option.isSome_iff_exists.1 hsh
      rw[has]at hok hxx2
      simp only[Option.getD_some]at hok hxx2
      have hargs:zA (res (fun _=>false) (hL listed c) 12) (xs.map (zi (YK n dst vals e0 listed)))=some as:=by
       rw[←hmap]
       exact Ys (fun y z hyz=>zrQ 12 hyz) has
      have hcok:=zQ.of_f0 (h:=hL listed c) (T.fok fn as hok) hargs
      refine Za hcok R (fun w1=>qR hop hcc R hgk2 hcok.1 w1) fun cv g' w' k1 k2 k3=> ?_
      refine finA cv g' w' ?_ k2 ?_ (.inl ⟨_,by rw[←hxx2]⟩) (fun c=>by rw[←hxx2])
      ·rw[←hxx2];exact k1
      ·rw[←hxx2];exact k3
     |false=>
      rw[hsh]at hok hxx2
      simp only[cond_false]at hok hxx2
      obtain⟨hhead,hopen,hpp⟩:=hok
      obtain⟨J',hJ'⟩:=Option.isSome_iff_exists.1 hhead
      obtain⟨as,has⟩:=Option.isSome_iff_exists.1 hopen
      rw[has]at hpp hxx2
      simp only[Option.getD_some]at hpp hxx2
      have hhd0:(kw (S i).1 xs).headD 0=J':=by rw[List.headD_eq_head?_getD,hJ'];rfl
      rw[hhd0]at hxx2
      have hjJ:J'=J:=by rw[←hJ,←hxx2,hJ'];rfl
      subst hjJ
      have hfe:yP p.1 p.2.1 (S i).1=kw (S i).1 xs:=by unfold yP;rw[hown,hcall];simp only[hsh,cond_false]
      have hin2:J'∈yP p.1 p.2.1 (S i).1:=by rw[hfe];exact List.mem_of_mem_head? hJ'
      have hag2:=hfoot J' hin2
      obtain⟨B,hB⟩:∃B,(S i).2.bs[J']? =some B:=⟨_,List.getElem?_eq_getElem (hbound J' hin2)⟩
      have hblk:(S i).2.blk J'=B:=by simp only[Heap.blk,List.getD_eq_getElem?_getD,hB,Option.getD_some]
      have hargs:zA (res (fun k=>k==J') (hL listed c) 12) (xs.map (zi (YK n dst vals e0 listed)))=some as:=by
       rw[←hmap,show res (fun k=>k==J') (hL listed c) 12=res (fun k=>k==J') (S i).2 12 from funext fun v=>zA6 hag2 12 v]
       unfold QD at has
       rw[hhd0]at has
       exact has
      have hcok:=zQ.of_p (h:=hL listed c) (fun k=>k==J') (T.pok fn as hpp) hargs
      rw[zlT (hag2.trans hB)]at hcok
      refine Za hcok R (fun w1=>qR hop hcc R hgk2 hcok.1 w1) fun cv g' w' k1 k2 k3=> ?_
      have hBe:(⟨B.ver,B.sz,B.es,true,B.d⟩:Blk)=x.b (S i).2.clk:=by rw[←hxx2,hblk]
      rw[hBe]at k3
      simp only[hL]at k3
      rw[hlist]at k3
      obtain⟨u1,u2⟩:=hus' k2
      refine ih _ (a.put o.dst cv) w' (inv.set hi hin) hcnt' ⟨g',c,?_,hc1,by omega,hwide u1,u2,hup0⟩
      rw[JB U hin his,hdst i p hp,←C0.dst]
      refine(R.mono k2 k3).put C0.lt ?_
      rw[hvalO i p hp hown,hxx,←hxx2]
      exact k1
 have inv0:HeadInv .any ops n (Array.replicate ops.size false):=
  ⟨by simp,fun j oj _ hl=>(by rw[getD_replicate_false]at hl;cases hl),fun t _ ht=>getD_in (by simpa using ht) (getD_replicate_false _ _)⟩
 have hcnt:∀k,k≤ops.size→kL (Array.replicate ops.size false) k=k:=by
  intro k
  induction k with
  |zero=>intro _;rfl
  |succ k ih=>
   intro hk
   have e:(Array.replicate ops.size false).getD k true=false:=getD_in (by simp;omega) (getD_replicate_false _ _)
   simp only[kL,ih (by omega),e,Bool.false_eq_true,if_false]
 obtain⟨g,R⟩:=hR0
 have hM0:h0.bs.length≤M:=by have:=(hmono 0 n (by omega) (Nat.le_refl _)).1;rw[hS0]at this;rw[←hM];exact this
 have hC0:h0.clk≤C:=by rw[←hC];exact hh0 n (Nat.le_refl _)
 obtain⟨ex,H⟩:=R.heap.pad (M - h0.bs.length) C hC0
 have:=main n (Array.replicate ops.size false) a0 w00 inv0 (hcnt n (by omega)) ⟨⟨g.F,g.inf++List.replicate (M - h0.bs.length) ⟨C,none,0,0⟩,fun k u=>g.us k u∨u=C⟩,C+1,?_,Nat.le_refl _,by omega,fun j v hv=> ?_,Or.inr rfl,fun k v hv=>R.heap.clk k v (R.heap.ext.us k v hv)⟩
 ·rwa [show n+(ops.size - n)=ops.size by omega]at this
 ·have e1:YK n dst vals e0 (Array.replicate ops.size false)=e0:=by
   funext t
   exact kN fun k _ _=>getD_replicate_false _ _
  have e2:hL (Array.replicate ops.size false) (C+1)=⟨h0.bs++List.replicate (M - h0.bs.length) ⟨C,0,[],false,[]⟩,C+1⟩:=by
   simp only[hL]
   congr 1
   apply List.ext_getElem?
   intro j
   have hlw:bl (Array.replicate ops.size false) j=(h0.bs[j]?).getD dead:=by
    simp only[bl,zll]
    rcases Zr wr (Array.replicate ops.size false) j n with⟨h1,_⟩|⟨k,_,_,h2,_⟩
    ·rw[h1];simp only[hS0]
    ·rw[getD_replicate_false]at h2;cases h2
   rcases Nat.lt_or_ge j M with hj|hj
   ·rw[X0 hj,hlw]
    rcases Nat.lt_or_ge j h0.bs.length with hj2|hj2
    ·rw[List.getElem?_append_left hj2,List.getElem?_eq_getElem hj2];rfl
    ·rw[List.getElem?_append_right hj2,List.getElem?_eq_none hj2,List.getElem?_replicate,if_pos (by omega)];rfl
   ·rw[List.getElem?_eq_none (by simpa using hj),List.getElem?_eq_none (by simp;omega)]
  rw[e1,e2]
  exact R.mono ex H
 ·rcases hv with hv|rfl
  ·exact .inl (R.heap.clk j v hv)
  ·exact .inr (.inr (Nat.le_refl _))
end
end Go.Sx
end
section
set_option maxHeartbeats 1000000
set_option linter.unusedVariables false
namespace Go.Sx
open Go.MapKept
def ZK(N d:Nat)(e:Nat→V):Nat→V:=fun t=>if t=d∨N≤t then .any else e t
theorem zdH{N d:Nat}{e:Nat→V}{t:Nat}(h1:t<N)(h2:t≠d):ZK N d e t=e t:=by
 unfold ZK;rw[if_neg (by omega)]
theorem zrn{N d:Nat}{e:Nat→V}{u:Nat}{v:V}(h1:u<N)(h2:u≠d):ZK N d (upd e u v)=upd (ZK N d e) u v:=by
 funext t
 simp only[ZK,upd]
 by_cases ht:t=u
 ·subst ht;rw[if_pos rfl,if_pos rfl,if_neg (by omega)]
 ·rw[if_neg ht,if_neg ht]
theorem zfT{N d:Nat}{e:Nat→V}{u:Nat}{v:V}(h1:N≤u∨u=d):ZK N d (upd e u v)=ZK N d e:=by
 funext t
 simp only[ZK,upd]
 by_cases ht:t=d∨N≤t
 ·rw[if_pos ht,if_pos ht]
 ·rw[if_neg ht,if_neg ht,if_neg (by omega)]
structure MInv (N d kd:Nat) (g:Gh) (h:Heap) (w00 w0:World) (own0:Own) (eF:Nat→V) (made:Bool) (L:List (Value×Nat)) (a:Act) (w:World):Prop where
 rel:Rel N g (ZK N d eF) h w0 own0 a w00
 ge:∀p∈L,N≤p.2∧YO kd p.1=true
 no:made=false→w=w00∧L= []
 yes:made=true→a.tmps.getD d undef= .map (some w00.heap.size)∧∃es clk,w=w00.alloc (.map es clk)∧es.size=L.length∧
  ∀i,i<L.length→(es.getD i default).key=(L.getD i default).1∧VRep g w00 (es.getD i default).val (eF (L.getD i default).2)
section
variable {P:Program} {N d kd:Nat} {g:Gh} {eF e0:Nat→V} {h:Heap} {w w00 w0:World} {own0:Own} {a:Act} {ops:Array Oper} {L:List (Value×Nat)} {made:Bool} {T:Orc P}
theorem MInv.grow(I:MInv N d kd g h w00 w0 own0 eF made L a w):Grow w00 w:=by
 cases made with
 |false=>rw[(I.no rfl).1];exact Grow.refl _
 |true=>obtain⟨_,es,clk,rfl,_⟩:=I.yes rfl;exact Grow.alloc _ _
theorem zlS{b:AOp}{e:Nat→V}(hs:(b.pk.isSome||b.o.still)=true)(hg:b.g=none)(n1:∀f xs,b.o≠.call f xs)(n2:∀x xs,b.o≠.callv x xs):
  yR T b e h=(okP b.pk b.o e h=true)∧zV T b e h=vP b.pk b.o e h:=by
 obtain⟨d,gd,pk,o⟩:=b
 simp only at hg hs n1 n2
 subst hg
 cases o with
 |call f xs=>exact absurd rfl (n1 f xs)
 |callv x xs=>exact absurd rfl (n2 x xs)
 |_=>simp only[yR,zV];exact⟨by rw[if_pos hs],by rw[if_pos hs]⟩
theorem zk8(w:World)(o o':Obj):({w.alloc o with heap:=(w.alloc o).heap.setIfInBounds w.heap.size o'}:World)=w.alloc o':=by
 have:(w.heap.push o).setIfInBounds w.heap.size o'=w.heap.push o':=by
  apply Array.ext
  ·simp
  ·intro i h1 h2
   simp only[Array.size_setIfInBounds,Array.size_push]at h1
   rw[Array.getElem_setIfInBounds (by simpa using h1),Array.getElem_push,Array.getElem_push]
   by_cases hi:w.heap.size=i
   ·subst hi;simp
   ·rw[if_neg hi,dif_pos (by omega),dif_pos (by omega)]
 show({w.alloc o with heap:=(w.heap.push o).setIfInBounds w.heap.size o'}:World)=w.alloc o'
 rw[this];rfl
theorem MInv.still(I:MInv N d kd g h w00 w0 own0 eF made L a w){o:Oper}{b:AOp}(C:Comp P ops N o b)(hs:b.isStill=true)(hg:b.g=none){u:Nat}(hd:b.dst=some u)(hud:u≠d)(hr:∀t∈b.reads,t<N∧t≠d)
  (hp:yR T b eF h) {next:Act→World→Prop} {Q:Exit→Act→World→Prop} (hn:∀a',MInv N d kd g h w00 w0 own0 (zx eF b.dst (zV T b eF h)) made L a' w→next a' w):o.wp P a w next Q:=by
 have huN:u<N:=C.lt u hd
 obtain⟨q1,q2⟩:=Zf (T:=T) (b:=b) (e:=ZK N d eF) (e':=eF) (fun t ht=>zdH (hr t ht).1 (hr t ht).2) C.mv h
 rw[←q1]at hp
 rw[←q2]at hn
 have hF:=zlS (T:=T) (b:=b) (e:=ZK N d eF) (h:=h) hs hg (YW C hs) (Z9 C hs)
 rw[hF.1]at hp
 rw[hF.2]at hn
 obtain⟨cv,h1,h2⟩:=za8 C.pk (fun hpk=>⟨C.op hpk,by simpa[AOp.isStill,hpk]using hs⟩) I.rel hp
 unfold Oper.wp
 rw[h2 w I.grow]
 refine hn _ ⟨?_,I.ge,I.no,fun hm=> ?_⟩
 ·rw[hd]
  show Rel N g (ZK N d (upd eF u _)) h w0 own0 _ w00
  rw[zrn huN hud,←C.dst,hd]
  exact I.rel.put (d:=some u) (fun n hn=>by cases hn;exact huN) h1
 ·obtain⟨h3,es,clk,h4,h5,h6⟩:=I.yes hm
  have hsz:u<a.tmps.size:=by rw[I.rel.size];exact huN
  refine⟨?_,es,clk,h4,h5,fun i hi=> ?_⟩
  ·rw[←C.dst,hd]
   show(a.put (some u) cv).tmps.getD d undef=_
   simp only[Act.put]
   rw[jq _ _ _ _ hsz,if_neg (fun e=>hud e.symm)];exact h3
  ·obtain⟨k1,k2⟩:=h6 i hi
   refine⟨k1,?_⟩
   have hge:N≤(L.getD i default).2:=(I.ge _ (by simp[List.getD_eq_getElem?_getD,hi])).1
   rw[hd]
   show VRep g w00 _ (upd eF u _ _)
   rw[show upd eF u (vP b.pk b.o (ZK N d eF) h) (L.getD i default).2=eF (L.getD i default).2 from if_neg (by omega)]
   exact k2
theorem MInv.make(I:MInv N d kd g h w00 w0 own0 eF false L a w){o:Oper}{t:TypeId}(ho:o.op= .makeMap t none)(hd:o.dst=some d)(hdN:d<N){v:V}{next:Act→World→Prop}{Q:Exit→Act→World→Prop}
  (hn:∀a' w',MInv N d kd g h w00 w0 own0 (zx eF (some d) v) true L a' w'→next a' w'):o.wp P a w next Q:=by
 obtain⟨rfl,rfl⟩:=I.no rfl
 have hrun:(execOp a.eval o).run P w= .ok (.value (.map (some w.heap.size))) (w.alloc (.map #[] 0)):=by
  simp[execOp,ho,Instr.makeMap]
 unfold Oper.wp
 rw[hrun]
 have hsz:d<a.tmps.size:=by rw[I.rel.size];exact hdN
 refine hn _ _ ⟨?_,I.ge,fun hc=>(by cases hc),fun _=>⟨?_,#[],0,rfl,rfl,fun i hi=>(by simp at hi)⟩⟩
 ·show Rel N g (ZK N d (upd eF d v)) h w0 own0 _ w
  rw[zfT (.inr rfl)]
  have:=I.rel.put (d:=some d) (fun n hn=>by cases hn;exact hdN) (VRep.any (g:=g) (w:=w) (.map (some w.heap.size)))
  rw[hd]
  have e:zx (ZK N d eF) (some d) .any=ZK N d eF:=by
   funext t
   show upd (ZK N d eF) d .any t=_
   simp only[upd]
   split
   ·rename_i h;subst h;simp[ZK]
   ·rfl
  rw[e]at this;exact this
 ·rw[hd];simp only[Act.put];rw[jq _ _ _ _ hsz,if_pos rfl]
theorem MInv.insert(I:MInv N d kd g h w00 w0 own0 eF true L a w){o:Oper}{t kt et:TypeId}{k:Value}{x:Operand}{y:X}{u:Nat}(hu:P.underlying t=some (.map kt et))(hkd:WD P kt=some kd)(ho:o.op= .insert t (.tmp d) (.const k) x)(hd:o.dst=none)
  (hk:YO kd k=true) (hnew:∀p∈L,p.1≠k∧p.2≠u) (hy:zG x=some y) (hyt:∀n∈y.temps,n<N∧n≠d) (huN:N≤u) (hok:(val eF y).gok=true) {next:Act→World→Prop} {Q:Exit→Act→World→Prop}
  (hn:∀w',MInv N d kd g h w00 w0 own0 (zx eF (some u) (zi eF y)) true (L++ [(k,u)]) a w'→next a w'):o.wp P a w next Q:=by
 obtain⟨h3,es,clk,rfl,h5,h6⟩:=I.yes rfl
 obtain⟨ds,hds,hK,hE⟩:=zaW hkd
 have hev:val (ZK N d eF) y=val eF y:=by
  cases y with
  |t n=>have:=hyt n (by simp[X.temps]);exact zdH this.1 this.2
  |_=>rfl
 have hv:=(I.rel.ev x y hy).un (by rw[hev];exact hok)
 have hv:VRep g w00 (a.eval x) (zi eF y):=by
  have e:(val (ZK N d eF) y).un=zi eF y:=by rw[hev];rfl
  rw[e]at hv;exact hv
 have hb:(w00.alloc (.map es clk)).heap[w00.heap.size]? =some (.map es clk):=(heap_alloc w00 _).1
 have hgx:∀i(hi:i<es.size),es.getD i default=es[i]:=fun i hi=>by simp[hi]
 have hks:∀e∈es.toList,IsKey ds e.key∧e.key≠k:=fun e he=>by
  obtain⟨i,hi,rfl⟩:=List.mem_iff_getElem.1 he
  have hi':i<es.size:=by simpa using hi
  have hL:L.getD i default∈L:=by simp[List.getD_eq_getElem?_getD,show i<L.length by omega]
  have:=(h6 i (by omega)).1
  rw[hgx i hi']at this
  simp only[Array.getElem_toList]
  rw[this]
  exact⟨hK _ (I.ge _ hL).2,(hnew _ hL).1⟩
 have hf:Instr.findNow ds k es.toList 0=some none:=by
  rcases findNow_spec (hK _ hk) es.toList 0 (fun e he=>(hks e he).1)with⟨f1,_⟩|⟨j,e,_,f2,f3⟩
  ·exact f1
  ·exact absurd f3 (hks e (List.mem_of_getElem? f2)).2
 have hev2:a.eval (.tmp d)= .map (some w00.heap.size):=h3
 have hev3:a.eval (.const k)=k:=rfl
 have hrun:(execOp a.eval o).run P (w00.alloc (.map es clk))= .ok .skip (w00.alloc (.map (es.push ⟨k,a.eval x,clk⟩) (clk+1))):=by
  simp only[execOp,ho,hev2,hev3]
  simp[Instr.mapUpdate,run_underlying hu,MapKept.run_getObj_map hb,run_checkKey hds (hK _ hk),run_findKey hds hf,run_setObj_map _ hb,Result.andThen]
  exact zk8 w00 (.map es clk) _
 unfold Oper.wp
 rw[hrun]
 show next (a.put o.dst undef) _
 rw[hd]
 refine hn _ ⟨?_,fun p hp=> ?_,fun hc=>(by cases hc),fun _=>⟨h3,_,_,rfl,by simp[h5],fun i hi=> ?_⟩⟩
 ·show Rel N g (ZK N d (upd eF u _)) h w0 own0 a w00
  rw[zfT (.inl huN)];exact I.rel
 ·simp only[List.mem_append,List.mem_singleton]at hp
  rcases hp with hp|rfl
  ·exact I.ge p hp
  ·exact⟨huN,hk⟩
 ·simp only[List.length_append,List.length_singleton]at hi
  by_cases hiL:i<L.length
  ·have e1:(L++ [(k,u)]).getD i default=L.getD i default:=by simp[List.getD_eq_getElem?_getD,List.getElem?_append_left hiL]
   have e2:(es.push (⟨k,a.eval x,clk⟩:MapEntry)).getD i default=es.getD i default:=by
    have:i<es.size:=by omega
    simp[Array.getElem_push,this,show i<es.size+1 by omega]
   have hm:L.getD i default∈L:=by simp[List.getD_eq_getElem?_getD,hiL]
   rw[e1,e2]
   refine⟨(h6 i hiL).1,?_⟩
   show VRep g w00 _ (upd eF u _ _)
   rw[show upd eF u (zi eF y) (L.getD i default).2=eF (L.getD i default).2 from if_neg (hnew _ hm).2]
   exact(h6 i hiL).2
  ·obtain rfl:i=L.length:=by omega
   have e1:(L++ [(k,u)]).getD L.length default=(k,u):=by simp[List.getD_eq_getElem?_getD]
   have e2:(es.push (⟨k,a.eval x,clk⟩:MapEntry)).getD L.length default=⟨k,a.eval x,clk⟩:=by
    rw[←h5];simp
   rw[e1,e2]
   refine⟨rfl,?_⟩
   show VRep g w00 _ (upd eF u _ u)
   rw[show upd eF u (zi eF y) u=zi eF y from if_pos rfl]
   exact hv
theorem MInv.done{m:MR}(hN:m.N=N)(hdd:m.d=d)(I:MInv N d kd g h w00 w0 own0 eF true L a w){a0:Act}(R0:Rel N g e0 h w0 own0 a0 w00)(hdN:d<N)(hnd:(m.ks.map fun p=>p.1).Nodup)
  (h1:∀p∈L,p∈m.ks) (h2:∀p∈m.ks,p∈L):∃g',Rel N g' (m.fin e0 eF) h w0 own0 a w:=by
 obtain⟨h3,es,clk,rfl,h5,h6⟩:=I.yes rfl
 have H:=I.rel.heap
 obtain⟨ex,H'⟩:=H.grow (Grow.alloc w00 (.map es clk)) (fun b=>g.F b∨b=w00.heap.size) (fun b hb=>.inl hb) (fun b hb=>by
  rcases hb with hb|rfl
  ·have:=H.Flt b hb;simp;omega
  ·simp) (fun j I b hI hb hF=>by
   rcases hF with hF|rfl
   ·exact hF
   ·have:=H.blt hI hb;omega) (fun b hb=>by
   rcases hb with hb|rfl
   ·exact H.fin b hb
   ·exact .inr (.inr H.frm.size))
 have R:=I.rel.mono ex H'
 refine⟨_,R.size,fun t=> ?_,R.defers,R.heap⟩
 unfold MR.fin
 rw[hN,hdd]
 by_cases ht:t=d
 ·subst ht
  rw[if_pos rfl,h3]
  have hex:∀i,∃j,i<L.length→j<m.ks.length∧L.getD i default=m.ks.getD j default:=fun i=>by
   by_cases hi:i<L.length
   ·have:=h1 (L.getD i default) (by simp[List.getD_eq_getElem?_getD,hi])
    obtain⟨j,hj,hjj⟩:=List.mem_iff_getElem.1 this
    exact⟨j,fun _=>⟨hj,by rw[←hjj];simp[List.getD_eq_getElem?_getD,hj]⟩⟩
   ·exact⟨0,fun hc=>absurd hc hi⟩
  have hey:∀j,∃i,j<m.ks.length→i<L.length∧L.getD i default=m.ks.getD j default:=fun j=>by
   by_cases hj:j<m.ks.length
   ·have:=h2 (m.ks.getD j default) (by simp[List.getD_eq_getElem?_getD,hj])
    obtain⟨i,hi,hii⟩:=List.mem_iff_getElem.1 this
    exact⟨i,fun _=>⟨hi,by rw[←hii];simp[List.getD_eq_getElem?_getD,hi]⟩⟩
   ·exact⟨0,fun hc=>absurd hc hj⟩
  obtain⟨ix,hix⟩:=Classical.axiomOfChoice hex
  obtain⟨iy,hiy⟩:=Classical.axiomOfChoice hey
  have hkeyD:∀j,j<m.ks.length→(m.ks.map fun p=>p.1).getD j undef=(m.ks.getD j default).1:=fun j hj=>by simp[List.getD_eq_getElem?_getD,hj]
  refine .mp w00.heap.size es clk _ _ ix iy (.inr rfl) (heap_alloc w00 _).1 (by simp) (fun i hi=> ?_) (fun j hj=> ?_) hnd (fun i hi=> ?_)
  ·obtain⟨k1,k2⟩:=hix i (by omega)
   refine⟨by simpa using k1,?_⟩
   rw[(h6 i (by omega)).1,k2,hkeyD _ k1]
  ·have hj':j<m.ks.length:=by simpa using hj
   obtain⟨k1,k2⟩:=hiy j hj'
   obtain⟨k3,k4⟩:=hix (iy j) k1
   refine⟨by omega,?_⟩
   have e:(m.ks.map fun p=>p.1).getD (ix (iy j)) undef=(m.ks.map fun p=>p.1).getD j undef:=by rw[hkeyD _ k3,hkeyD _ hj',←k4,k2]
   have l1:ix (iy j)<(m.ks.map fun p=>p.1).length:=by simpa using k3
   rw[List.getD_eq_getElem?_getD,List.getD_eq_getElem?_getD,List.getElem?_eq_getElem l1,List.getElem?_eq_getElem hj]at e
   exact(List.getElem_inj hnd).1 e
  ·obtain⟨k1,k2⟩:=hix i (by omega)
   have e:(m.ks.map fun p=>eF p.2).getD (ix i) .any=eF (m.ks.getD (ix i) default).2:=by simp[List.getD_eq_getElem?_getD,k1]
   rw[e,←k2]
   exact(h6 i (by omega)).2.mono ex
 ·rw[if_neg ht]
  by_cases hl:N≤t
  ·rw[if_pos hl]
   have e1:a.tmps.getD t undef=undef:=by simp[show ¬t<a.tmps.size by rw[I.rel.size];omega]
   rw[e1];exact VRep.c' _
  ·rw[if_neg hl]
   have:=R.tm t
   rw[zdH (by omega) ht]at this
   exact this
theorem MInv.start{e0:Nat→V}(R:Rel N g e0 h w0 own0 a w):MInv N d kd g h w w0 own0 e0 false [] a w:=by
 refine⟨⟨R.size,fun i=> ?_,R.defers,R.heap⟩,fun p hp=>(by cases hp),fun _=>⟨rfl,rfl⟩,fun hc=>(by cases hc)⟩
 unfold ZK
 split
 ·exact VRep.any _
 ·exact R.tm i
theorem jt{t j:Nat}{o:Oper}{b:AOp}{r:Option (Value×Nat)}(hc:zax P ops N t d kd j o=some (b,r)):
  (∃k x y,o.op= .insert t (.tmp d) (.const k) x∧o.guard=none∧o.dst=none∧YO kd k=true∧zG x=some y∧(∀n∈y.temps,n<N∧n≠d)∧b=⟨some (N+j),none,none,.mov y⟩∧r=some (k,N+j))∨
  (r=none∧Comp P ops N o b∧b.isStill=true∧b.g=none∧(∃u,b.dst=some u∧u≠d)∧∀n∈b.reads,n<N∧n≠d):=by
 unfold zax at hc
 split at hc
 ·rename_i t' m k x hop
  split at hc
  ·rename_i hh
   obtain⟨rfl,rfl,hg,hd,hk⟩:=hh
   simp only[Option.bind_eq_some_iff]at hc
   obtain⟨y,hy,hc⟩:=hc
   split at hc
   ·rename_i hall
    simp only[Option.some.injEq,Prod.mk.injEq]at hc
    obtain⟨rfl,rfl⟩:=hc
    exact .inl ⟨k,x,y,hop,hg,hd,hk,hy,fun n hn=>by simpa using List.all_eq_true.1 hall n hn,rfl,rfl⟩
   ·cases hc
  ·cases hc
 ·simp only[Option.bind_eq_some_iff]at hc
  obtain⟨b',hb,hc⟩:=hc
  split at hc
  ·rename_i hh
   simp only[Option.some.injEq,Prod.mk.injEq]at hc
   obtain⟨rfl,rfl⟩:=hc
   obtain⟨h1,h2,h3,h4,h5⟩:=hh
   refine .inr ⟨rfl,Zm hb,h1,h2,?_,fun n hn=>by simpa using List.all_eq_true.1 h5 n hn⟩
   cases hd:b'.dst with
   |none=>exact absurd hd h3
   |some u=>exact⟨u,rfl,fun e=>h4 (by rw[hd,e])⟩
  ·cases hc
theorem zkB{u:Nat}{y:X}{e:Nat→V}(hp:yR T ⟨some u,none,none,.mov y⟩ e h):(val e y).gok=true∧zV T ⟨some u,none,none,.mov y⟩ e h=zi e y:=by
 have hp:okP none (.mov y) e h=true:=hp
 have h2:(([y].all fun x=>(val e x).gok)&&(evP (.mov y) (zi e) h).2)=true:=hp
 simp only[List.all_cons,List.all_nil,Bool.and_true,Bool.and_eq_true]at h2
 exact⟨h2.1,rfl⟩
theorem kI{o:Oper}(hg:o.guard=none)(ys:Array Oper)(tm:Array Value):Region.wanted o (yielded ys tm)=true:=by
 simp[Region.wanted,hg]
theorem KX{t:Nat}:∀ {l:List (AOp×Option (Value×Nat))}{j:Nat}{lo:List Oper},YI P ops N t d kd j lo=some l→l.length=lo.length∧∀(i:Nat)(o:Oper),lo[i]? =some o→∃b r,l[i]? =some (b,r)∧zax P ops N t d kd (j+i) o=some (b,r)
 |l,j,[],hc=>by simp[YI]at hc;subst hc;simp
 |l,j,o::lo,hc=>by
  simp only[YI,Option.bind_eq_some_iff,Option.map_eq_some_iff]at hc
  obtain⟨⟨b,r⟩,hb,l',hl,rfl⟩:=hc
  obtain⟨h1,h2⟩:=KX hl
  refine⟨by simp[h1],fun i o' ho=> ?_⟩
  cases i with
  |zero=>simp at ho;subst ho;exact⟨b,r,rfl,hb⟩
  |succ i=>
   obtain⟨b',r',h3,h4⟩:=h2 i o' (by simpa using ho)
   exact⟨b',r',by simpa using h3,by rw[show j+(i+1)=j+1+i by omega];exact h4⟩
theorem Comp.nog{o:Oper}{b:AOp}(C:Comp P ops N o b)(hg:b.g=none):o.guard=none:=by
 rcases C.g with⟨_,h⟩|⟨_,_,_,_,_,h⟩
 ·exact h
 ·rw[hg]at h;cases h
theorem za3{t kt et:TypeId}(hu:P.underlying t=some (.map kt et))(hkd:WD P kt=some kd){rest:List Oper}{Q:Exit→Act→World→Prop}{K:(Nat→V)→Prop}:∀ {lo:List Oper}{l:List (AOp×Option (Value×Nat))}{j:Nat}{L:List (Value×Nat)}{eF:Nat→V}{a:Act}{w:World},
  YI P ops N t d kd j lo=some l→MInv N d kd g h w00 w0 own0 eF true L a w→W6 T (l.map (·.1)) eF h K→((L++l.filterMap (·.2)).map (·.1)).Nodup→(∀p∈L,p.2<N+j)→
  (∀eF' a' w',K eF'→MInv N d kd g h w00 w0 own0 eF' true (L++l.filterMap (·.2)) a' w'→wpList P ops Q rest a' w')→wpList P ops Q (lo++rest) a w
 | [],l,j,L,eF,a,w,hc,I,hw,hnd,hL,hK=>by
   simp[YI]at hc;subst hc
   exact hK _ _ _ hw (by simpa using I)
 |o::lo,l,j,L,eF,a,w,hc,I,hw,hnd,hL,hK=>by
  simp only[YI,Option.bind_eq_some_iff,Option.map_eq_some_iff]at hc
  obtain⟨⟨b,r⟩,hb,l',hl,rfl⟩:=hc
  simp only[List.map_cons]at hw
  obtain⟨hw1,hw2⟩:=hw
  rw[List.cons_append]
  simp only[wpList]
  rcases jt hb with⟨k,x,y,h1,h2,h3,h4,h5,h6,rfl,rfl⟩|⟨rfl,C,h1,h2,⟨u,h3,h4⟩,h5⟩
  ·rw[if_pos (kI h2 _ _)]
   obtain⟨q1,q2⟩:=zkB hw1
   rw[q2]at hw2
   simp only[List.filterMap_cons,List.map_append,List.map_cons]at hnd hK
   refine .inl (I.insert (u:=N+j) hu hkd h1 h3 h4 (fun p hp=>⟨fun e=> ?_,fun e=>by have:=hL p hp;omega⟩) h5 h6 (Nat.le_add_right _ _) q1 fun w' I'=> ?_)
   ·have:=(List.nodup_append.1 hnd).2.2 p.1 (List.mem_map.2 ⟨p,hp,rfl⟩) k (by simp)
    exact this e
   ·refine za3 hu hkd hl I' hw2 ?_ (fun p hp=> ?_) fun eF' a' w'' hk I''=>hK eF' a' w'' hk ?_
    ·simpa using hnd
    ·simp only[List.mem_append,List.mem_singleton]at hp
     rcases hp with hp|rfl
     ·have:=hL p hp;omega
     ·simp only;omega
    ·simpa using I''
  ·rw[if_pos (kI (C.nog h2) _ _)]
   simp only[List.filterMap_cons]at hnd hK
   refine .inl (I.still C h1 h2 h3 h4 h5 hw1 fun a' I'=>za3 hu hkd hl I' hw2 hnd (fun p hp=> ?_) hK)
   have:=hL p hp;omega
theorem zc5(hE:∀a b,YO kd a=true→YO kd b=true→((z9 a b).1=true↔a=b)):∀ {ks:List Value},(∀k∈ks,YO kd k=true)→zdL ks=true→ks.Nodup
 | [],_,_=>by simp
 |k::ks,hk,hn=>by
  simp only[zdL,Bool.and_eq_true,List.all_eq_true,Bool.not_eq_true']at hn
  refine List.nodup_cons.2 ⟨fun hm=> ?_,zc5 hE (fun k' hk'=>hk k' (by simp[hk'])) hn.2⟩
  have:=hn.1 k hm
  rw[(hE k k (hk k (by simp)) (hk k (by simp))).2 rfl]at this
  cases this
theorem zqF{bs:List AOp}(hB:zqE bs=true)(hh:∀(k:Nat)(b:AOp),bs[k]? =some b→∃u,b.dst=some u):Dist bs:=by
 have key:∀(j k:Nat)(b c:AOp),j<k→bs[j]? =some b→bs[k]? =some c→b.dst≠c.dst:=fun j k b c hjk hb hc=>by
  have hk:k<bs.length:=(List.getElem?_eq_some_iff.1 hc).1
  have:=List.all_eq_true.1 (List.all_eq_true.1 hB k (List.mem_range.2 hk)) j (List.mem_range.2 hjk)
  rw[hb,hc]at this
  simpa using this
 refine⟨hh,fun j k b c u hb hc hbd hcd=> ?_⟩
 rcases Nat.lt_trichotomy j k with hlt|heq|hlt
 ·exact absurd (hbd.trans hcd.symm) (key j k b c hlt hb hc)
 ·exact heq
 ·exact absurd (hcd.trans hbd.symm) (key k j c b hlt hc hb)
theorem zwY{t kt et:TypeId}(hu:P.underlying t=some (.map kt et))(hkd:WD P kt=some kd){n:Nat}(hn1:1≤n){l:List (AOp×Option (Value×Nat))}{o0:Oper}{r:List Oper}(hops:ops.toList=o0::r)(ho0:o0.op= .makeMap t none)(hd0:o0.dst=some d)(hg0:o0.guard=none)(hdN:d<N)
  (hc:YI P ops N t d kd 1 (r.take (n - 1))=some l) {m:MR} (hm:m=⟨N,d,l.filterMap (·.2),⟨some d,none,none,.mov (.k undef)⟩::l.map (·.1)⟩) {tl:List AOp} (htl:z3 P ops N (r.drop (n - 1))=some tl) (hnd:(m.ks.map (·.1)).Nodup) (hT:Region.lexTailB .any ops n=true) (hB:zu6 ops N m.bs n=true) (hdist:zqE m.bs=true) {e0:Nat→V}
  {a0:Act} {w00:World} (R0:Rel N g e0 h w0 own0 a0 w00) {K:(Nat→V)→Heap→Prop} {Q:Exit→Act→World→Prop} (hw:W6 T m.bs e0 h fun e'=>W8 P tl (m.fin e0 e') h K) (hK:∀g' e' h' a' w',K e' h'→Rel N g' e' h' w0 own0 a' w'→Q .normal a' w'):
  ∀(f:Nat)(listed:Array Bool)(a:Act)(w:World),HeadInv .any ops n listed→kL listed n=f→(∃L,MInv N d kd g h w00 w0 own0 (eL T h m.bs e0 listed) (listed.getD 0 false) L a w∧∀p,p∈L↔∃i b,listed.getD (i+1) false=true∧l[i]? =some (b,some p))→
   wpAny P .any ops Q (f+(ops.size - n)) listed a w:=by
 simp only[Region.lexTailB,Bool.and_eq_true,decide_eq_true_eq]at hT
 obtain⟨⟨⟨⟨hsel,hn⟩,hs⟩,hch⟩,hlex⟩:=hT
 obtain⟨hlen,hget⟩:=KX hc
 have hsize:ops.size=r.length+1:=by rw[←Array.length_toList,hops];rfl
 have hll:l.length=n - 1:=by rw[hlen,List.length_take];omega
 have hbs:m.bs=⟨some d,none,none,.mov (.k undef)⟩::l.map (·.1):=by rw[hm]
 have hks:m.ks=l.filterMap (·.2):=by rw[hm]
 have hbl:m.bs.length=n:=by rw[hbs];simp;omega
 have hat:∀i,i<n→∀o,ops[i]? =some o→(i=0∧o=o0∧m.bs[i]? =some ⟨some d,none,none,.mov (.k undef)⟩)∨∃j b rr,i=j+1∧l[j]? =some (b,rr)∧m.bs[i]? =some b∧zax P ops N t d kd i o=some (b,rr):=by
  intro i hi o ho
  have ho':ops.toList[i]? =some o:=by simpa using ho
  rw[hops]at ho'
  cases i with
  |zero=>simp at ho';exact .inl ⟨rfl,ho'.symm,by rw[hbs];rfl⟩
  |succ j=>
   simp only[List.getElem?_cons_succ]at ho'
   obtain⟨b,rr,h1,h2⟩:=hget j o (by rw[List.getElem?_take,if_pos (by omega)];exact ho')
   exact .inr ⟨j,b,rr,rfl,h1,by rw[hbs];simp[h1],by rw[show j+1=1+j by omega];exact h2⟩
 have hdst:∀(k:Nat)(b:AOp),m.bs[k]? =some b→(∃u,b.dst=some u)∧(b.pk≠none→b.o= .mov (.k undef)):=by
  intro k b hb
  have hk:k<n:=by rw[←hbl];exact(List.getElem?_eq_some_iff.1 hb).1
  obtain⟨o,ho⟩:∃o,ops[k]? =some o:=⟨_,Array.getElem?_eq_getElem (by omega)⟩
  rcases hat k hk o ho with⟨_,_,h3⟩|⟨j,b',rr,_,_,h3,h4⟩
  ·rw[hb]at h3;obtain rfl:=Option.some.inj h3;exact⟨⟨d,rfl⟩,fun _=>rfl⟩
  ·rw[hb]at h3;obtain rfl:=Option.some.inj h3
   rcases jt h4 with⟨_,_,_,_,_,_,_,_,_,rfl,_⟩|⟨_,C,_,_,⟨u,hu,_⟩,_⟩
   ·exact⟨⟨_,rfl⟩,fun hh=>absurd rfl hh⟩
   ·exact⟨⟨u,hu⟩,C.mv⟩
 have D:Dist m.bs:=zqF hdist fun k b hb=>(hdst k b hb).1
 have hap:∀(j k:Nat)(b c:AOp),j<k→m.bs[j]? =some b→m.bs[k]? =some c→(Region.waitsFor .any ops k j=true∨b.apart c=true)∧(j≠0∨(∃u,c.dst=some u∧u<N)∨Region.waitsFor .any ops k 0=true):=by
  intro j k b c hjk hb hc'
  have hk:k<n:=by rw[←hbl];exact(List.getElem?_eq_some_iff.1 hc').1
  unfold zu6 at hB
  simp only[Bool.and_eq_true]at hB
  have:=List.all_eq_true.1 (List.all_eq_true.1 hB.2 k (List.mem_range.2 hk)) j (List.mem_range.2 hjk)
  rw[hb,hc']at this
  simp only[Bool.and_eq_true,Bool.or_eq_true,bne_iff_ne]at this
  refine⟨this.1,?_⟩
  rcases this.2 with(h1|h1)|h1
  ·exact .inl h1
  ·obtain⟨u,hu⟩:=(hdst k c hc').1
   rw[hu]at h1;exact .inr (.inl ⟨u,hu,by simpa using h1⟩)
  ·exact .inr (.inr h1)
 obtain⟨hP,hfin⟩:=ze0 m.bs e0 hw
 rw[hbl]at hfin
 obtain⟨⟨L',hL1,hL2,hL3⟩,hafter⟩:=kT (n:=n) n 0 (Array.replicate ops.size false) hlex (by omega) (by simp) (by omega) (fun j hj=>by rw[getD_replicate_false];simp)
 intro f
 induction f with
 |zero=>
  intro listed a w inv hcnt hR
  obtain⟨L,I,hLs⟩:=hR
  have hall:=Zb n hcnt
  have hallF:∀j,j<n→listed.getD j false=true:=fun j hj=>by
   have hjs:j<listed.size:=by rw[inv.size];omega
   have:=hall j hj
   simpa[hjs]using this
  have hLeq:L'=listed:=by
   apply Array.ext (by rw[hL1,inv.size])
   intro j hj1 hj2
   have h1:=hL2 j (by omega)
   have h2:listed.getD j false=decide (j<n):=by
    by_cases hjn:j<n
    ·rw[hallF j hjn];simp[hjn]
    ·rw[getD_both (inv.tail j (by omega) (by omega))];simp[hjn]
   have h3:L'.getD j false=L'[j]:=by simp[hj1]
   have h4:listed.getD j false=listed[j]:=by simp[hj2]
   rw[←h3,←h4,h1,h2]
  subst hLeq
  have heq:eL T h m.bs e0 L'=eAt T h m.bs e0 n:=by
   funext t
   by_cases hex:∃(k:Nat)(c:AOp),m.bs[k]? =some c∧c.dst=some t
   ·obtain⟨k,c,hk,hd⟩:=hex
    have hkn:k<n:=by have:=(List.getElem?_eq_some_iff.1 hk).1;omega
    rw[Jx D hk hd (hallF k hkn),K2 D hk hd n hkn (by omega)]
   ·rw[qp (fun k c hk hd=>absurd ⟨k,c,hk,hd⟩ hex),q8 n (fun j b hj hb hd=>hex ⟨j,b,hb,hd⟩) (by omega)]
  rw[heq,hallF 0 (by omega)]at I
  obtain⟨g',R⟩:=I.done (m:=m) (by rw[hm]) (by rw[hm]) R0 hdN hnd (fun p hp=>by
   obtain⟨i,b,_,hb⟩:=(hLs p).1 hp
   rw[hks];exact List.mem_filterMap.2 ⟨_,List.mem_of_getElem? hb,rfl⟩) (fun p hp=>by
   rw[hks]at hp
   obtain⟨⟨b,rr⟩,hb,hrr⟩:=List.mem_filterMap.1 hp
   obtain⟨i,hi,hii⟩:=List.mem_iff_getElem.1 hb
   exact(hLs p).2 ⟨i,b,hallF _ (by omega),by rw[List.getElem?_eq_getElem hi,hii];simp only at hrr;rw[hrr]⟩)
  have hlist:=j9 (Q:=Q) htl R hfin hK
  have hdr:ops.toList.drop n=r.drop (n - 1):=by
   rw[hops];obtain⟨q,rfl⟩:∃q,n=q+1:=⟨n - 1,by omega⟩;simp
  rw[←hdr]at hlist
  have hdl:(ops.toList.drop n).length=ops.size - n:=by simp
  have:=wpAny_of_seq (md:=.any) (Q':=Q) (ops.toList.drop n) n L' a w (fun j=>by simp[List.getElem?_drop]) (by rw[hdl];exact hL3) hlist
  rw[hdl]at this
  rwa [Nat.zero_add]
 |succ f ih=>
  intro listed a w inv hcnt hR
  obtain⟨L,I,hLs⟩:=hR
  obtain⟨i0,hi0,hun0,hmin⟩:=Qq (listed:=listed) n (by omega)
  have hready0:i0∈Region.ready .any ops listed:=by
   obtain⟨o,ho⟩:∃o,ops[i0]? =some o:=⟨_,Array.getElem?_eq_getElem (by omega)⟩
   refine mem_ready.2 ⟨hun0,o,ho,fun x hx hb=> ?_⟩
   have hlt:=hafter i0 o (by omega) hi0 ho x hx hb
   have:=hmin _ hlt
   have hxs:x.on<listed.size:=by rw[inv.size];omega
   simpa[hxs]using this
  rw[show f+1+(ops.size - n)=(f+(ops.size - n))+1 by omega]
  refine⟨fun h0=>(by rw[h0]at hready0;cases hready0),fun i hi=> ?_⟩
  have hin:i<n:=by
   rcases Nat.lt_or_ge i n with hlt|hge
   ·exact hlt
   ·exact absurd hi (tail_waits hs hch hn inv _ i0 rfl hi0 hun0 i hge)
  obtain⟨hun,o,ho,hall⟩:=mem_ready.1 hi
  have his:i<listed.size:=by rw[inv.size];omega
  have hcnt':kL (listed.setIfInBounds i true) n=f:=by
   have:=Qr his hun n
   rw[if_pos hin]at this
   omega
  have hunF:listed.getD i false=false:=getD_both hun
  have hlset:∀k,k≠i→(listed.setIfInBounds i true).getD k false=listed.getD k false:=fun k hk=>getD_set_ne false (fun e=>hk e.symm)
  have hlself:(listed.setIfInBounds i true).getD i false=true:=by simp[his]
  obtain⟨b,hb⟩:∃b,m.bs[i]? =some b:=⟨_,List.getElem?_eq_getElem (by omega)⟩
  obtain⟨⟨u,hu'⟩,hmv⟩:=hdst i b hb
  have hag:∀t∈b.reads,eAt T h m.bs e0 i t=eL T h m.bs e0 listed t:=by
   intro t ht
   by_cases hex:∃(k:Nat)(c:AOp),m.bs[k]? =some c∧c.dst=some t
   ·obtain⟨k,c,hk,hcd⟩:=hex
    have hone:∀k' c',m.bs[k']? =some c'→c'.dst=some t→k'=k:=fun k' c' h1 h2=>D.ne k' k c' c t h1 hk h2 hcd
    rcases Nat.lt_trichotomy k i with hlt|heq|hlt
    ·rcases(hap k i c b hlt hk hb).1 with hwt|hap
     ·obtain⟨o',ho',x,hx,hbd,hon⟩:=Region.waitsFor_spec hwt
      have:o'=o:=Option.some.inj (ho'.symm.trans ho)
      subst this
      have hlk:=hall x hx hbd
      rw[hon]at hlk
      rw[K2 D hk hcd i hlt (by omega),Jx D hk hcd hlk]
     ·exact absurd ht (qO hap hcd hu').1
    ·subst heq
     rw[q8 k (fun j b' hj hb2 hd2=>by have:=hone j b' hb2 hd2;omega) (by omega),qp (fun k' c' h1 h2=>by
      have:=hone k' c' h1 h2;subst this;exact getD_both hun)]
    ·rcases(hap i k b c hlt hb hk).1 with hwt|hap
     ·obtain⟨o',ho',x,hx,hbd,hon⟩:=Region.waitsFor_spec hwt
      have hkl:listed.getD k false=false:=by
       cases hl:listed.getD k false with
       |false=>rfl
       |true=>
        have:=inv.closed k o' ho' hl x hx hbd
        rw[hon,getD_both hun]at this
        cases this
      rw[q8 i (fun j b' hj hb2 hd2=>by have:=hone j b' hb2 hd2;omega) (by omega),qp (fun k' c' h1 h2=>by
       have:=hone k' c' h1 h2;subst this;exact hkl)]
     ·exact absurd ht (qO hap hu' hcd).2
   ·rw[q8 i (fun j b' hj hb2 hd2=>hex ⟨j,b',hb2,hd2⟩) (by omega),qp (fun k c hk hcd=>absurd ⟨k,c,hk,hcd⟩ hex)]
  obtain⟨q1,q2⟩:=Zf (T:=T) hag hmv h
  have hPi:=hP i b hb
  rw[q1]at hPi
  have hes:=zij (T:=T) (h:=h) (e:=e0) D hb his hun
  rw[q2]at hes
  unfold wpOp
  rw[ho]
  simp only
  rcases hat i hin o ho with⟨rfl,rfl,h3⟩|⟨j,b',rr,rfl,hlj,h3,h4⟩
  ·rw[hb]at h3
   obtain rfl:=Option.some.inj h3
   rw[if_pos (kI hg0 _ _)]
   left
   rw[hunF]at I
   refine I.make (v:=zV T ⟨some d,none,none,.mov (.k undef)⟩ (eL T h m.bs e0 listed) h) ho0 hd0 hdN fun a' w' I'=>ih (listed.setIfInBounds 0 true) a' w' (inv.set hi hin) hcnt' ⟨L,?_,fun p=> ?_⟩
   ·rw[hes,hlself];exact I'
   ·rw[hLs]
    constructor
    ·rintro⟨i,b,h1,h2⟩;exact⟨i,b,by rw[hlset _ (by omega)];exact h1,h2⟩
    ·rintro⟨i,b,h1,h2⟩;exact⟨i,b,by rw[hlset _ (by omega)]at h1;exact h1,h2⟩
  ·rw[hb]at h3
   obtain rfl:=Option.some.inj h3
   clear h3
   have h0ne:(listed.setIfInBounds (j+1) true).getD 0 false=listed.getD 0 false:=hlset 0 (by omega)
   rcases jt h4 with⟨k,x,y,h1,h2,h3,h5,h6,h7,hbe,rfl⟩|⟨rfl,C,h1,h2,⟨u',h3,h5⟩,h6⟩
   ·rw[if_pos (kI h2 _ _)]
    left
    subst hbe
    simp only[Option.some.injEq]at hu'
    obtain⟨p1,p2⟩:=zkB hPi
    rw[p2]at hes
    have hmade:listed.getD 0 false=true:=by
     have hb0:m.bs[0]? =some ⟨some d,none,none,.mov (.k undef)⟩:=by rw[hbs];rfl
     rcases(hap 0 (j+1) _ _ (by omega) hb0 hb).2 with hh|⟨u2,hh1,hh2⟩|hh
     ·exact absurd rfl hh
     ·simp only[Option.some.injEq]at hh1;omega
     ·obtain⟨o',ho',x',hx,hbd,hon⟩:=Region.waitsFor_spec hh
      have:o'=o:=Option.some.inj (ho'.symm.trans ho)
      subst this
      have:=hall x' hx hbd
      rwa [hon]at this
    rw[hmade]at I
    have hin2:∀i b p,l[i]? =some (b,some p)→p∈m.ks∧p.2=N+(i+1):=fun i b p hip=>by
     refine⟨by rw[hks];exact List.mem_filterMap.2 ⟨_,List.mem_of_getElem? hip,rfl⟩,?_⟩
     have hil:=(List.getElem?_eq_some_iff.1 hip).1
     obtain⟨oi,hoi⟩:∃oi,ops[i+1]? =some oi:=⟨_,Array.getElem?_eq_getElem (by omega)⟩
     rcases hat (i+1) (by omega) oi hoi with⟨hh,_⟩|⟨j',b',rr',hj',hl',_,hcm⟩
     ·omega
     ·obtain rfl:i=j':=by omega
      rw[hip]at hl'
      simp only[Option.some.injEq,Prod.mk.injEq]at hl'
      obtain⟨rfl,rfl⟩:=hl'
      rcases jt hcm with⟨_,_,_,_,_,_,_,_,_,_,hrr⟩|⟨hrr,_⟩
      ·simp only[Option.some.injEq]at hrr;rw[hrr]
      ·cases hrr
    refine I.insert (u:=N+(j+1)) hu hkd h1 h3 h5 (fun p hp=> ?_) h6 h7 (Nat.le_add_right _ _) p1 fun w' I'=> ?_
    ·obtain⟨i,b,hi1,hi2⟩:=(hLs p).1 hp
     obtain⟨g1,g2⟩:=hin2 i b p hi2
     obtain⟨g3,g4⟩:=hin2 j _ _ hlj
     have hij:i≠j:=fun e=>by subst e;rw[hunF]at hi1;cases hi1
     refine⟨fun e=> ?_,by omega⟩
     obtain⟨x1,hx1,hx1'⟩:=List.mem_iff_getElem.1 g1
     obtain⟨x2,hx2,hx2'⟩:=List.mem_iff_getElem.1 g3
     have l1:x1<(m.ks.map (·.1)).length:=by simpa using hx1
     have l2:x2<(m.ks.map (·.1)).length:=by simpa using hx2
     have:(m.ks.map (·.1))[x1]=(m.ks.map (·.1))[x2]:=by simp only[List.getElem_map,hx1',hx2'];exact e
     have hxx:=(List.getElem_inj hnd).1 this
     subst hxx
     rw[hx1']at hx2'
     rw[hx2']at g2
     simp only at g2 g4
     omega
    ·refine ih (listed.setIfInBounds (j+1) true) _ w' (inv.set hi hin) hcnt' ⟨L++ [(k,N+(j+1))],?_,fun p=> ?_⟩
     ·rw[hes,h0ne,hmade]
      exact I'
     ·simp only[List.mem_append,List.mem_singleton]
      rw[hLs]
      constructor
      ·rintro(⟨i,b,h1,h2⟩|rfl)
       ·have hij:i≠j:=fun e=>by subst e;rw[hunF]at h1;cases h1
        exact⟨i,b,by rw[hlset _ (by omega)];exact h1,h2⟩
       ·exact⟨j,_,hlself,hlj⟩
      ·rintro⟨i,b,h1,h2⟩
       by_cases hij:i=j
       ·subst hij
        rw[hlj]at h2
        simp only[Option.some.injEq,Prod.mk.injEq]at h2
        exact .inr h2.2.symm
       ·exact .inl ⟨i,b,by rw[hlset _ (by omega)]at h1;exact h1,h2⟩
   ·rw[if_pos (kI (C.nog h2) _ _)]
    left
    refine I.still C h1 h2 h3 h5 h6 hPi fun a' I'=>ih (listed.setIfInBounds (j+1) true) _ w (inv.set hi hin) hcnt' ⟨L,?_,fun p=> ?_⟩
    ·rw[hes,h0ne];exact I'
    ·rw[hLs]
     constructor
     ·rintro⟨i,b,h1,h2⟩
      have hij:i≠j:=fun e=>by subst e;rw[hunF]at h1;cases h1
      exact⟨i,b,by rw[hlset _ (by omega)];exact h1,h2⟩
     ·rintro⟨i,b,h1,h2⟩
      have hij:i≠j:=fun e=>by subst e;rw[hlj]at h2;simp at h2
      exact⟨i,b,by rw[hlset _ (by omega)]at h1;exact h1,h2⟩
end
end Go.Sx
end
