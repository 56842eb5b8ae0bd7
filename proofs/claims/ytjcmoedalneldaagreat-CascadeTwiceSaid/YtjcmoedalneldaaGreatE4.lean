/- Part of the proof of CascadeTwice. No condition. -/
import Derived.Test.YtjcmoedalneldaaGreatE3
import Derived.RangeFuncLeaves
import Derived.RangeFuncRecord
import Derived.Test.YtjcmoedalneldaaGreatE1
import Derived.ChangeArms
import Derived.ChangeOld
import Derived.DataReads
import Derived.WideShapes
import Derived.RangeFuncSeq
import Derived.OrdersIn
section
set_option maxHeartbeats 1000000
namespace Go.Sx
theorem Cx.post_mono{cx:Cx}{Q Q':z6}(h:∀x e h,Q x e h→Q' x e h){x:Exit}{a:Act}{w:World}(hq:cx.post Q x a w):cx.post Q' x a w:=
 let⟨g,e,hh,R,q⟩:=hq
 ⟨g,e,hh,R,h _ _ _ q⟩
theorem zQ.mono{cx:Cx}{c:C}{Q Q':z6}{e:Nat→V}{h:Heap}(hs:zQ cx c Q e h)(hq:∀x e h,Q x e h→Q' x e h):zQ cx c Q' e h:=
 fun code hc g a w R=>wp_mono (hs code hc g a w R) fun _ _ _ q=>Cx.post_mono hq q
theorem qr{ops:Array Oper}{bs:List AOp}{c:C}(hc:Ze ops bs=some c):
  (c= .treg bs∧∃n,(bs.take n).all (·.isStill)=true∧Region.lexTailB .any ops n=true)∨(c= .qreg bs∧Region.lexB .any ops=true∧bs.all (·.isQuiet)=true)∨
  (∃n,c= .areg n bs∧Region.lexTailB .any ops n=true∧zhR ops bs n=true)∨(∃n,c= .breg n bs∧Region.lexTailB .any ops (n+1)=true∧zlr ops bs n=true)∨
  ∃n,c= .xreg (j4 ops bs n) (bs.drop n)∧Region.lexTailB .any ops n=true∧zhU ops bs n=true:=by
 have hx:∀ {c:C},(zhO ops bs).map (fun n=>C.xreg (j4 ops bs n) (bs.drop n))=some c→∃n,c= .xreg (j4 ops bs n) (bs.drop n)∧Region.lexTailB .any ops n=true∧zhU ops bs n=true:=by
  intro c hc
  simp only[Option.map_eq_some_iff]at hc
  obtain⟨n,hn,rfl⟩:=hc
  have hn:=List.find?_some hn
  simp only[Bool.and_eq_true]at hn
  exact⟨n,rfl,hn⟩
 unfold Ze at hc
 split at hc
 ·rename_i hq
  obtain rfl:=Option.some.inj hc
  simp only[Bool.and_eq_true]at hq
  obtain⟨n,hn⟩:=Option.isSome_iff_exists.1 hq.2
  have hn:=List.find?_some hn
  simp only[Bool.and_eq_true]at hn
  exact .inl ⟨rfl,n,hn⟩
 split at hc
 ·rename_i hq
  obtain rfl:=Option.some.inj hc
  simp only[Bool.and_eq_true]at hq
  exact .inr (.inl ⟨rfl,hq.2⟩)
 split at hc
 ·rename_i n hn
  obtain rfl:=Option.some.inj hc
  have hn:=List.find?_some hn
  simp only[Bool.and_eq_true]at hn
  exact .inl ⟨rfl,n,hn⟩
 split at hc
 ·exact .inr (.inr (.inr (.inr (hx hc))))
 split at hc
 ·rename_i n hn
  obtain rfl:=Option.some.inj hc
  have hn:=List.find?_some hn
  simp only[Bool.and_eq_true]at hn
  exact .inr (.inr (.inl ⟨n,rfl,hn⟩))
 split at hc
 ·rename_i n hn
  obtain rfl:=Option.some.inj hc
  have hn:=List.find?_some hn
  simp only[Bool.and_eq_true]at hn
  exact .inr (.inr (.inr (.inl ⟨n,rfl,hn⟩)))
 ·exact .inr (.inr (.inr (.inr (hx hc))))
theorem QS{cx:Cx}{ops:Array Oper}{c:C}{bs:List AOp}(hb:zR cx.P ops cx.N ops.toList=some bs)(hc:Ze ops bs=some c)(hr:∀bs,c≠.treg bs∧c≠.qreg bs){Q:z6}{e:Nat→V}{h:Heap}
  (hw:wpC cx c Q e h) {g:Gh} {a:Act} {w:World} (R':Rel cx.N g e h cx.w0 cx.own0 a w):wpAny cx.P .any ops (cx.post Q) ops.size (Array.replicate ops.size false) a w:=by
 rcases qr hc with⟨rfl,_⟩|⟨rfl,_⟩|⟨n,rfl,hT,hB⟩|⟨n,rfl,hT,hB⟩|⟨n,rfl,hT,hB⟩
 ·exact absurd rfl (hr _).1
 ·exact absurd rfl (hr _).2
 ·simp only[wpC]at hw
  have hsz:n≤ops.size:=by
   have:=hT
   simp only[Region.lexTailB,Bool.and_eq_true,decide_eq_true_eq]at this
   omega
  have hcnt:ke (Array.replicate ops.size false) n=n:=by
   have:∀k,k≤ops.size→ke (Array.replicate ops.size false) k=k:=by
    intro k
    induction k with
    |zero=>intro _;rfl
    |succ k ih=>
     intro hk
     have e:(Array.replicate ops.size false).getD k true=false:=getD_in (by simp;omega) (getD_replicate_false _ _)
     simp only[ke,ih (by omega),e,Bool.false_eq_true,if_false]
   exact this n hsz
  have inv0:HeadInv .any ops n (Array.replicate ops.size false):=
   ⟨by simp,fun j oj _ hl=>(by rw[getD_replicate_false]at hl;cases hl),fun t _ ht=>getD_in (by simpa using ht) (getD_replicate_false _ _)⟩
  have heL:eL cx.T h (bs.take n) e (Array.replicate ops.size false)=e:=by
   funext t
   exact yX fun k b _ _=>getD_replicate_false _ _
  have hfl:=Jo (fun e' hh=>qI hh) _ _ hw
  have:=zls (Q:=cx.post Q) hb hT hB hfl (fun g' e' h' a' w' hk hr=>⟨g',e',h',hr,hk⟩) n _ a w inv0 hcnt ⟨g,by rw[heL];exact R'⟩
  rwa [show n+(ops.size - n)=ops.size by omega]at this
 ·simp only[wpC]at hw
  have hfl:=WO (K':=fun e'=>Jt bs[n]? e h=true∧J7 cx.P (bs.drop (n+1)) (zcG bs[n]? e' h) (QM bs[n]? e h) (Q .normal)) (fun e' hh=>⟨hh.1,qI hh.2⟩) _ _ hw
  exact zhW (Q:=cx.post Q) hb hT hB hfl (fun g' e' h' a' w' hk hr=>⟨g',e',h',hr,hk⟩) ⟨g,R'⟩
 ·simp only[wpC]at hw
  have hlen:(j4 ops bs n).length=n:=(zfa (by
   have:=hT
   simp only[Region.lexTailB,Bool.and_eq_true,decide_eq_true_eq]at this
   have h2:=(kT hb).1
   simp at h2;omega)).1
  rw[hlen]at hw
  exact zhX (Q:=cx.post Q) hb hT hB (ze8 (fun e' h' hh=>qI hh) _ _ _ hw) (fun g' e' h' a' w' hk hr=>⟨g',e',h',hr,hk⟩) ⟨g,R'⟩
theorem Jv{cx:Cx}{id:Nat}{ops:Array Oper}{c:C}(hm:cx.P.follows .mixedOrders=true){bs:List AOp}(hb:zR cx.P ops cx.N ops.toList=some bs)(hc:Ze ops bs=some c){Q:z6}{e:Nat→V}{h:Heap}
  (hw:wpC cx c Q e h) {g:Gh} {a:Act} {w:World} (R:Rel cx.N g e h cx.w0 cx.own0 a w):(Code.region id ops true).wp cx.P (cx.post Q) a w:=by
 have R':=R.drew
 by_cases h1:∃bs,c= .treg bs
 ·obtain⟨bs1,rfl⟩:=h1
  rcases qr hc with⟨h2,n,hn1,hn2⟩|⟨h2,_⟩|⟨n,h2,_⟩|⟨n,h2,_⟩|⟨n,h2,_⟩<;>cases h2
  simp only[wpC]at hw
  have:=wp_region_still_tail (P:=cx.P) (id:=id) (Q:=cx.post Q) (a:=a) (w:=w) (l:=ops.toList) n hm (by rw[Array.toArray_toList];exact hn2) (by
   rw[Array.toArray_toList]
   exact zg6 n hb hn1 R' (qI hw) fun g' e' h' a' w' hk hr=>⟨g',e',h',hr,hk⟩)
  rwa [Array.toArray_toList]at this
 by_cases h2:∃bs,c= .qreg bs
 ·obtain⟨bs1,rfl⟩:=h2
  rcases qr hc with⟨h2,_⟩|⟨h2,hq1,hq2⟩|⟨n,h2,_⟩|⟨n,h2,_⟩|⟨n,h2,_⟩<;>cases h2
  simp only[wpC]at hw
  refine wp_region_quiet (C:=Grow {w with drawn:=w.drawn+1}) hm hq1 (Grow.refl _) ?_
  refine zpX hb hq2 R' (Z2 hw) fun e' a' hk hr w' hg=> ?_
  obtain⟨k1,k2⟩:=hr.heap.grow' hg
  exact⟨g,e',h,hr.mono k1 k2,hk⟩
 ·exact wp_region_any hm (QS hb hc (fun bs=>⟨fun e=>h1 ⟨bs,e⟩,fun e=>h2 ⟨bs,e⟩⟩) hw R')
theorem zcO{cx:Cx}{id:Nat}{ops:Array Oper}{draw:Bool}{c:C}(hc:zay cx.P cx.N ops draw=some c){Q:z6}{e:Nat→V}{h:Heap}(hw:wpC cx c Q e h){g:Gh}{a:Act}{w:World}(R:Rel cx.N g e h cx.w0 cx.own0 a w):(Code.region id ops draw).wp cx.P (cx.post Q) a w:=by
 unfold zay at hc
 split at hc
 ·rename_i d t ty po af r hops
  split at hc
  ·rename_i kt et hu
   simp only[Option.bind_eq_some_iff]at hc
   obtain⟨kd,hkd,l,hl,tl,htl,hc⟩:=hc
   split at hc
   ·rename_i hcond
    obtain⟨hdN,hn,hn1,hnd,hdist,hdr⟩:=hcond
    obtain rfl:=Option.some.inj hc
    simp only[wpC]at hw
    generalize hnn:YQ ops=n at*
    obtain⟨ds,hds,_,hE⟩:=XR hkd
    have hkk:∀k∈(l.filterMap (·.2)).map (·.1),ZR kd k=true:=fun k hk=>by
     obtain⟨p,hp,rfl⟩:=List.mem_map.1 hk
     obtain⟨⟨b,rr⟩,hb,hrr⟩:=List.mem_filterMap.1 hp
     obtain⟨i,hi,hii⟩:=List.mem_iff_getElem.1 hb
     obtain⟨h1,h2⟩:=Qn hl
     obtain⟨o,ho⟩:∃o,(r.take (n - 1))[i]? =some o:=⟨_,List.getElem?_eq_getElem (by omega)⟩
     obtain⟨b',r',h3,h4⟩:=h2 i o ho
     rw[List.getElem?_eq_getElem hi,hii]at h3
     simp only[Option.some.injEq,Prod.mk.injEq]at h3
     simp only at hrr
     obtain⟨rfl,rfl⟩:=h3
     subst hrr
     rcases kS h4 with⟨_,_,_,_,_,_,hk2,_,_,_,hrr⟩|⟨hrr,_⟩
     ·simp only[Option.some.injEq]at hrr;rw[hrr];exact hk2
     ·cases hrr
    have hnd':=zaT hE hkk hnd
    have hfin:∀g' e' h' a' w',Q .normal e' h'→Rel cx.N g' e' h' cx.w0 cx.own0 a' w'→cx.post Q .normal a' w':=fun g' e' h' a' w' hk hr=>⟨g',e',h',hr,hk⟩
    have hw':=Jo (K':=fun e'=>J7 cx.P tl ((⟨cx.N,d,l.filterMap (·.2),⟨some d,none,none,.mov (.k undef)⟩::l.map (·.1)⟩:MR).fin e e') h (Q .normal)) (fun e' hh=>qI hh) _ _ hw
    cases draw with
    |false=>
     refine wp_region_list ?_
     rw[hops]
     simp only[wpList]
     rw[if_pos (qY rfl _ _)]
     refine .inl (MInv.make (d:=d) (kd:=kd) (eF:=e) (v:=zU cx.T ⟨some d,none,none,.mov (.k undef)⟩ e h) (MInv.start R) rfl rfl hdN fun a' w' I'=> ?_)
     have hsp:r=r.take (n - 1)++r.drop (n - 1):=(List.take_append_drop _ _).symm
     rw[hsp]
     rw[←hsp]
     obtain⟨_,hw2⟩:=hw'
     have:=X1 (Q:=cx.post Q) (rest:=r.drop (n - 1)) hu hkd hl I' hw2 (by simpa using hnd') (fun p hp=>by cases hp) fun eF' a'' w'' hk I''=>by
      obtain⟨g',R'⟩:=I''.done (m:=⟨cx.N,d,l.filterMap (·.2),⟨some d,none,none,.mov (.k undef)⟩::l.map (·.1)⟩) rfl rfl R hdN hnd' (fun p hp=>by simpa using hp) (fun p hp=>by simpa using hp)
      exact kP htl R' hk hfin
     rwa [←hsp]at this
    |true=>
     obtain⟨hm,hB⟩:=hdr rfl
     have hT:Region.lexTailB .any ops n=true:=by unfold zqA at hB;simp only[Bool.and_eq_true]at hB;exact hB.1
     have R':=R.drew
     have inv0:HeadInv .any ops n (Array.replicate ops.size false):=
      ⟨by simp,fun j oj _ hl=>(by rw[getD_replicate_false]at hl;cases hl),fun t _ ht=>getD_in (by simpa using ht) (getD_replicate_false _ _)⟩
     have hcnt:ke (Array.replicate ops.size false) n=n:=by
      have:∀k,k≤ops.size→ke (Array.replicate ops.size false) k=k:=by
       intro k
       induction k with
       |zero=>intro _;rfl
       |succ k ih=>
        intro hk
        have e:(Array.replicate ops.size false).getD k true=false:=getD_in (by simp;omega) (getD_replicate_false _ _)
        simp only[ke,ih (by omega),e,Bool.false_eq_true,if_false]
      exact this n hn
     have heL:eL cx.T h (⟨some d,none,none,.mov (.k undef)⟩::l.map (·.1)) e (Array.replicate ops.size false)=e:=by
      funext t
      exact yX fun k b _ _=>getD_replicate_false _ _
     refine wp_region_any hm ?_
     have:=zr9 (Q:=cx.post Q) (m:=⟨cx.N,d,l.filterMap (·.2),⟨some d,none,none,.mov (.k undef)⟩::l.map (·.1)⟩) hu hkd hn1 hops rfl rfl rfl hdN hl rfl htl hnd' hT hB hdist R' hw' hfin n _ a _ inv0 hcnt ⟨[],by
      rw[heL,getD_replicate_false];exact MInv.start R',fun p=>⟨fun hp=>(by cases hp),fun⟨i,b,hh,_⟩=>(by rw[getD_replicate_false]at hh;cases hh)⟩⟩
     rwa [show n+(ops.size - n)=ops.size by omega]at this
   ·cases hc
  ·cases hc
 ·cases hc
theorem QU{P:Program}{N:Nat}{ops:Array Oper}{draw:Bool}{c:C}(hc:zay P N ops draw=some c):∃m tl,c= .mreg m tl:=by
 unfold zay at hc
 split at hc
 ·split at hc
  ·simp only[Option.bind_eq_some_iff]at hc
   obtain⟨kd,hkd,l,hl,tl,htl,hc⟩:=hc
   split at hc
   ·exact⟨_,_,(Option.some.inj hc).symm⟩
   ·cases hc
  ·cases hc
 ·cases hc
theorem qX{α:Type}{x:Option α}{f:Unit→Option α}{y:α}(h:x.orElse f=some y):x=some y∨f ()=some y:=by
 cases x with
 |none=>exact .inr h
 |some a=>exact .inl h
theorem Rel.freeze{N:Nat}{g:Gh}{e:Nat→V}{h:Heap}{w0 w:World}{own0:Own}{a:Act}(R:Rel N g e h w0 own0 a w):∃g',Rel N g' e (h.freeze fun _=>true) w0 own0 a w:=by
 have H:=R.heap
 have hF':∀b,g.F b→FZ g (fun _=>true) b:=fun b hb=>.inl hb
 have ex:Ext g w ⟨FZ g fun _=>true,g.inf,g.us⟩ w:=⟨⟨hF',fun b hb=>rfl,fun _ _ h=>h,fun _ _ h _=>h⟩,fun _ _ h=>.inl h⟩
 refine⟨⟨FZ g fun _=>true,g.inf,g.us⟩,R.size,fun i=>(R.tm i).mono ex,(let⟨m,hm,hd⟩:=R.defers;⟨m,hm,hd.mono ex⟩),?_⟩
 refine⟨H.clk,by simp[Heap.freeze,H.len],fun j B I hB hI=> ?_,H.vlt,H.dist,fun b hb=>QJ H hb,H.own,H.frm,fun b hb=> ?_,H.ext.trans ex,H.glb⟩
 ·simp only[Heap.freeze,List.getElem?_mapIdx,Option.map_eq_some_iff]at hB
  obtain⟨B0,hB0,rfl⟩:=hB
  have hk:=H.ok j B0 I hB0 hI
  refine⟨hk.ver,hk.sz,hk.len,hk.gone,fun b hb=>(hk.here b hb).mono ex rfl,fun b hb hf=>.inr ⟨j,I,hI,hb,rfl⟩,fun b hb hf hF=> ?_⟩
  simp at hf
 ·rcases hb with hb|⟨k,J,hJ,hJb,_⟩
  ·exact H.fin b hb
  ·exact .inr (H.own k J b hJ hJb)
theorem qR(bs:List AOp)(c:C):zc7 bs c=c∨zc7 bs c= .frz c:=by unfold zc7;split;exact .inr rfl;exact .inl rfl
theorem jb{cx:Cx}:∀(c:C){Q:z6}{e:Nat→V}{h:Heap},wpC cx c Q e h→zQ cx c Q e h:=by
 intro c
 have main:∀(code:Code)(c:C){Q:z6}{e:Nat→V}{h:Heap},zq cx.P cx.N code=some c→wpC cx c Q e h→∀g a w,Rel cx.N g e h cx.w0 cx.own0 a w→code.wp cx.P (cx.post Q) a w:=by
  intro code
  induction code with
  |skip=>intro c Q e h hc hw g a w R;simp only[zq,Option.some.injEq]at hc;subst hc;exact wp_skip ⟨g,e,h,R,hw⟩
  |region id ops draw=>
   intro c Q e h hc hw g a w R
   cases draw with
   |false=>
    simp only[zq]at hc
    replace hc:=qX hc
    rcases hc with hc|hc
    rotate_left
    ·exact zcO hc hw R
    simp only[Option.map_eq_some_iff]at hc
    obtain⟨bs,hbs,rfl⟩:=hc
    rcases qR bs (.reg bs)with hf|hf
    ·rw[hf]at hw
     exact wp_region_list (kP hbs R (qI hw) fun g' e' h' a' w' hk hr=>⟨g',e',h',hr,hk⟩)
    ·rw[hf]at hw
     simp only[wpC]at hw
     obtain⟨g2,R2⟩:=R.freeze
     exact wp_region_list (kP hbs R2 (qI hw) fun g' e' h' a' w' hk hr=>⟨g',e',h',hr,hk⟩)
   |true=>
    simp only[zq]at hc
    replace hc:=qX hc
    rcases hc with hc|hc
    rotate_left
    ·exact zcO hc hw R
    split at hc
    ·rename_i hm
     simp only[Option.bind_eq_some_iff,Option.map_eq_some_iff]at hc
     obtain⟨bs,hbs,c',hc,rfl⟩:=hc
     rcases qR bs c' with hf|hf
     ·rw[hf]at hw
      exact Jv hm hbs hc hw R
     ·rw[hf]at hw
      simp only[wpC]at hw
      obtain⟨g2,R2⟩:=R.freeze
      exact Jv hm hbs hc hw R2
    ·cases hc
  |seq x y ihx ihy=>
   intro c Q e h hc hw g a w R
   simp only[zq]at hc
   split at hc
   ·rename_i cx' cy hx hy
    obtain rfl:=Option.some.inj hc
    simp only[wpC]at hw
    refine wp_seq (wp_mono (ihx _ hx hw g a w R) fun z a' w' hq=> ?_)
    obtain⟨g',e',h',R',q⟩:=hq
    cases z<;>simp only[kH]at q<;>simp only[Exit.then]
    ·exact ihy _ hy q g' a' w' R'
    all_goals exact⟨g',e',h',R',q⟩
   ·cases hc
  |cond x ca cb iha ihb=>
   intro c Q e h hc hw g a w R
   simp only[zq]at hc
   split at hc
   ·rename_i x' a' b' hx ha hb
    obtain rfl:=Option.some.inj hc
    simp only[wpC]at hw
    obtain⟨h1,h2,h3,h4⟩:=hw
    have hv:=Yb ((R.ev x x' hx).un h1) h2
    refine wp_cond_split hv (fun ht=>iha _ ha (h3 ht) g a w R) (fun hf=>ihb _ hb (h4 hf) g a w R)
   ·cases hc
  |block id b ih=>
   intro c Q e h hc hw g a w R
   simp only[zq,Option.map_eq_some_iff]at hc
   obtain⟨b',hb,rfl⟩:=hc
   simp only[wpC]at hw
   refine wp_block (wp_mono (ih _ hb hw g a w R) fun z a' w' hq=> ?_)
   obtain⟨g',e',h',R',q⟩:=hq
   cases z<;>simp only[za4]at q<;>simp only[Exit.inBlock]
   case exit i=>
    split
    ·rename_i hi;rw[if_pos hi]at q;exact⟨g',e',h',R',q⟩
    ·rename_i hi;rw[if_neg hi]at q;exact⟨g',e',h',R',q⟩
   all_goals exact⟨g',e',h',R',q⟩
  |loop b ih=>
   intro c Q e h hc hw g a w R
   have hc':=hc
   simp only[zq,Option.map_eq_some_iff]at hc
   obtain⟨b',hb,rfl⟩:=hc
   exact hw _ hc' g a w R
  |rangeFunc f ps x y _ _=>
   intro c Q e h hc hw g a w R
   have hc':=hc
   simp only[zq]at hc
   split at hc
   ·split at hc
    ·obtain rfl:=Option.some.inj hc
     exact hw _ hc' g a w R
    ·cases hc
   ·cases hc
  |exit id=>intro c Q e h hc hw g a w R;simp only[zq,Option.some.injEq]at hc;subst hc;exact wp_exit ⟨g,e,h,R,hw⟩
  |scope b ih=>
   intro c Q e h hc hw g a w R
   have hc':=hc
   simp only[zq,Option.map_eq_some_iff]at hc
   obtain⟨b',hb,rfl⟩:=hc
   exact hw _ hc' g a w R
  |label l=>intro c Q e h hc hw g a w R;simp only[zq,Option.some.injEq]at hc;subst hc;exact wp_label ⟨g,e,h,R,hw⟩
  |goto l=>intro c Q e h hc hw g a w R;simp only[zq,Option.some.injEq]at hc;subst hc;exact wp_goto ⟨g,e,h,R,hw⟩
  |ret=>intro c Q e h hc hw g a w R;simp only[zq,Option.some.injEq]at hc;subst hc;exact wp_ret ⟨g,e,h,R,hw⟩
  |refuse why=>intro c Q e h hc;simp[zq]at hc
 intro Q e h hw code hc g a w R
 exact main code c hc hw g a w R
def q8(cx:Cx)(e:Nat→V)(h:Heap)(e':Nat→V)(h':Heap):Prop:=
 ∀g a w,Rel cx.N g e h cx.w0 cx.own0 a w→∃g',Rel cx.N g' e' h' cx.w0 cx.own0 a w
theorem q8.refl(cx:Cx)(e:Nat→V)(h:Heap):q8 cx e h e h:=fun g _ _ R=>⟨g,R⟩
theorem q8.trans{cx:Cx}{e e' e'':Nat→V}{h h' h'':Heap}(k:q8 cx e h e' h')(k':q8 cx e' h' e'' h''):q8 cx e h e'' h'':=
 fun g a w R=>let⟨g',R'⟩:=k g a w R;k' g' a w R'
theorem WS{P:Program}{c:Code}{Q:Exit→Act→World→Prop}(I:Nat→Act→World→Prop){n:Nat}{a:Act}{w:World}(h₀:I n a w)
  (round:∀n a w,I n a w→c.wp P (Exit.then (fun a' w'=>∃m,m<n∧I m a' w') Q) a w):(Code.loop c).wp P Q a w:=by
 intro b k cs
 have key:∀n a w,I n a w→∃e a' w',Q e a' w'∧Arrives P (lone (b.at a (.code c:: .inLoop c::k)) cs w) b k cs e a' w':=by
  intro n
  induction n using Nat.strongRecOn with
  |_ n ih=>
   intro a w hI
   obtain⟨e,a₁,w₁,hq,harr⟩:=round n a w hI b (.inLoop c::k) cs
   cases e with
   |normal=>
    obtain⟨m,hlt,hI₁⟩:=hq
    obtain⟨e₂,a₂,w₂,hq₂,harr₂⟩:=ih m hlt a₁ w₁ hI₁
    exact⟨e₂,a₂,w₂,hq₂,.of_steps (Steps.trans harr (.one step_inLoop)) harr₂⟩
   |exit id=>exact⟨_,a₁,w₁,hq,.pass (x:=.inLoop c) rfl (fun _ _=>.inl (by simp)) harr⟩
   |goto l=>exact⟨_,a₁,w₁,hq,.pass (x:=.inLoop c) rfl (fun _ _=>.inl (by simp)) harr⟩
   |ret=>exact⟨_,a₁,w₁,hq,.pass (x:=.inLoop c) rfl (fun _ _=>.inl (by simp)) harr⟩
   |panic ch=>exact⟨_,a₁,w₁,hq,.pass (x:=.inLoop c) rfl (fun _ _=>.inl (by simp)) harr⟩
   |outgrown=>exact⟨_,a₁,w₁,hq,.pass (x:=.inLoop c) rfl (fun _ _=>.inl (by simp)) harr⟩
 obtain⟨e,a',w',hq,harr⟩:=key n a w h₀
 exact⟨e,a',w',hq,.of_steps (.one step_loop) harr⟩
theorem kf{P:Program}{N:Nat}{id:Nat}{ops:Array Oper}{draw:Bool}{c:C}(hc:zq P N (.region id ops draw)=some c):(∃bs,c= .reg bs)∨(∃bs,c= .qreg bs)∨(∃bs,c= .treg bs)∨(∃n bs,c= .areg n bs)∨(∃n bs,c= .breg n bs)∨(∃n bs,c= .xreg n bs)∨(∃m tl,c= .mreg m tl)∨∃c',c= .frz c':=by
 cases draw with
 |false=>
  simp only[zq]at hc
  replace hc:=qX hc
  rcases hc with hc|hc
  rotate_left
  ·exact .inr (.inr (.inr (.inr (.inr (.inr (.inl (QU hc)))))))
  simp only[Option.map_eq_some_iff]at hc;obtain⟨bs,_,rfl⟩:=hc
  rcases qR bs (.reg bs)with hf|hf<;>rw[hf]
  ·exact .inl ⟨bs,rfl⟩
  ·exact .inr (.inr (.inr (.inr (.inr (.inr (.inr ⟨_,rfl⟩))))))
 |true=>
  simp only[zq]at hc
  replace hc:=qX hc
  rcases hc with hc|hc
  rotate_left
  ·exact .inr (.inr (.inr (.inr (.inr (.inr (.inl (QU hc)))))))
  split at hc
  ·simp only[Option.bind_eq_some_iff,Option.map_eq_some_iff]at hc
   obtain⟨bs,_,c',hc,rfl⟩:=hc
   rcases qR bs c' with hf|hf<;>rw[hf]
   ·rcases qr hc with⟨rfl,_⟩|⟨rfl,_⟩|⟨n,rfl,_⟩|⟨n,rfl,_⟩|⟨n,rfl,_⟩
    ·exact .inr (.inr (.inl ⟨_,rfl⟩))
    ·exact .inr (.inl ⟨_,rfl⟩)
    ·exact .inr (.inr (.inr (.inl ⟨_,_,rfl⟩)))
    ·exact .inr (.inr (.inr (.inr (.inl ⟨_,_,rfl⟩))))
    ·exact .inr (.inr (.inr (.inr (.inr (.inl ⟨_,_,rfl⟩)))))
   ·exact .inr (.inr (.inr (.inr (.inr (.inr (.inr ⟨_,rfl⟩))))))
  ·cases hc
theorem Qm{P:Program}{N:Nat}{code:Code}{c:C}(hc:zq P N code=some (.loop c)):∃b,code= .loop b∧zq P N b=some c:=by
 cases code with
 |loop b=>simp only[zq,Option.map_eq_some_iff,C.loop.injEq]at hc;obtain⟨b',hb,rfl⟩:=hc;exact⟨b,rfl,hb⟩
 |region id ops draw=>rcases kf hc with⟨_,h⟩|⟨_,h⟩|⟨_,h⟩|⟨_,_,h⟩|⟨_,_,h⟩|⟨_,_,h⟩|⟨_,_,h⟩|⟨_,h⟩<;>cases h
 |seq x y=>simp only[zq]at hc;split at hc<;>cases hc
 |cond x y z=>simp only[zq]at hc;split at hc<;>cases hc
 |rangeFunc f ps x y=>
  simp only[zq]at hc
  split at hc
  ·split at hc<;>cases hc
  ·cases hc
 |block id b=>simp only[zq,Option.map_eq_some_iff]at hc;obtain⟨_,_,h⟩:=hc;cases h
 |scope b=>simp only[zq,Option.map_eq_some_iff]at hc;obtain⟨_,_,h⟩:=hc;cases h
 |_=>simp[zq]at hc
theorem Yf{P:Program}{N:Nat}{code:Code}{c:C}(hc:zq P N code=some (.scope c)):∃b,code= .scope b∧zq P N b=some c:=by
 cases code with
 |scope b=>simp only[zq,Option.map_eq_some_iff,C.scope.injEq]at hc;obtain⟨b',hb,rfl⟩:=hc;exact⟨b,rfl,hb⟩
 |region id ops draw=>rcases kf hc with⟨_,h⟩|⟨_,h⟩|⟨_,h⟩|⟨_,_,h⟩|⟨_,_,h⟩|⟨_,_,h⟩|⟨_,_,h⟩|⟨_,h⟩<;>cases h
 |seq x y=>simp only[zq]at hc;split at hc<;>cases hc
 |cond x y z=>simp only[zq]at hc;split at hc<;>cases hc
 |rangeFunc f ps x y=>
  simp only[zq]at hc
  split at hc
  ·split at hc<;>cases hc
  ·cases hc
 |block id b=>simp only[zq,Option.map_eq_some_iff]at hc;obtain⟨_,_,h⟩:=hc;cases h
 |loop b=>simp only[zq,Option.map_eq_some_iff]at hc;obtain⟨_,_,h⟩:=hc;cases h
 |_=>simp[zq]at hc
theorem zQ.loop{cx:Cx}{c:C}{Q:z6}{e:Nat→V}{h:Heap}(I:Nat→(Nat→V)→Heap→Prop)(start:∃n e0 h0,q8 cx e h e0 h0∧I n e0 h0)
  (round:∀n e h,I n e h→wpC cx c (kH (fun e' h'=>∃m e'' h'',q8 cx e' h' e'' h''∧m<n∧I m e'' h'') Q) e h):zQ cx (.loop c) Q e h:=by
 intro code hc g a w R
 obtain⟨b,rfl,hb⟩:=Qm hc
 obtain⟨n,e0,h0,hw,hI⟩:=start
 obtain⟨g0,R0⟩:=hw g a w R
 refine WS (fun n a w=>∃g e h,Rel cx.N g e h cx.w0 cx.own0 a w∧I n e h) (n:=n) ⟨g0,e0,h0,R0,hI⟩ fun n a w ⟨g,e,h,R,hI⟩=> ?_
 refine wp_mono (jb _ (round n e h hI) b hb g a w R) fun z a' w' hq=> ?_
 obtain⟨g',e',h',R',q⟩:=hq
 cases z<;>simp only[kH]at q<;>simp only[Exit.then]
 ·obtain⟨m,e'',h'',hw,hlt,hI'⟩:=q
  obtain⟨g'',R''⟩:=hw g' a' w' R'
  exact⟨m,hlt,g'',e'',h'',R'',hI'⟩
 all_goals exact⟨g',e',h',R',q⟩
def jd:C→Nat→Option C
 | .seq a b,l=>match jd a l with
   |some r=>some (.seq r b)
   |none=>jd b l
 | .label l',l=>if l'==l then some .skip else none
 |_,_=>none
theorem XK{P:Program}{N:Nat}{l:Nat}:∀ {code:Code}{c:C},zq P N code=some c→(jd c l=none→findLabel code l=none)∧∀r,jd c l=some r→∃r',findLabel code l=some r'∧zq P N r'=some r:=by
 intro code
 induction code with
 |seq x y ihx ihy=>
  intro c hc
  simp only[zq]at hc
  split at hc
  ·rename_i cx cy hx hy
   obtain rfl:=Option.some.inj hc
   obtain⟨x1,x2⟩:=ihx hx
   obtain⟨y1,y2⟩:=ihy hy
   cases hf:jd cx l with
   |none=>
    have:=x1 hf
    simp only[jd,hf,findLabel,this]
    exact⟨y1,y2⟩
   |some r=>
    obtain⟨r',h1,h2⟩:=x2 r hf
    simp only[jd,hf,findLabel,h1]
    refine⟨fun h=>(by cases h),fun r0 h=> ?_⟩
    obtain rfl:=Option.some.inj h
    exact⟨_,rfl,by simp only[zq,h2,hy]⟩
  ·cases hc
 |label l'=>
  intro c hc
  simp only[zq,Option.some.injEq]at hc;subst hc
  simp only[jd,findLabel]
  split
  ·refine⟨fun h=>(by cases h),fun r h=> ?_⟩
   obtain rfl:=Option.some.inj h;exact⟨_,rfl,rfl⟩
  ·exact⟨fun _=>rfl,fun r h=>by cases h⟩
 |region id ops draw=>
  intro c hc
  refine⟨fun _=>rfl,fun r h=> ?_⟩
  rcases kf hc with⟨_,rfl⟩|⟨_,rfl⟩|⟨_,rfl⟩|⟨_,_,rfl⟩|⟨_,_,rfl⟩|⟨_,_,rfl⟩|⟨_,_,rfl⟩|⟨_,rfl⟩<;>cases h
 |cond x ca cb _ _=>
  intro c hc
  simp only[zq]at hc
  split at hc
  ·obtain rfl:=Option.some.inj hc;exact⟨fun _=>rfl,fun r h=>by cases h⟩
  ·cases hc
 |block id b _=>intro c hc;simp only[zq,Option.map_eq_some_iff]at hc;obtain⟨_,_,rfl⟩:=hc;exact⟨fun _=>rfl,fun r h=>by cases h⟩
 |loop b _=>intro c hc;simp only[zq,Option.map_eq_some_iff]at hc;obtain⟨_,_,rfl⟩:=hc;exact⟨fun _=>rfl,fun r h=>by cases h⟩
 |scope b _=>intro c hc;simp only[zq,Option.map_eq_some_iff]at hc;obtain⟨_,_,rfl⟩:=hc;exact⟨fun _=>rfl,fun r h=>by cases h⟩
 |rangeFunc f ps x y _ _=>
  intro c hc
  simp only[zq]at hc
  split at hc
  ·split at hc
   ·obtain rfl:=Option.some.inj hc;exact⟨fun _=>rfl,fun r h=>by cases h⟩
   ·cases hc
  ·cases hc
 |refuse=>intro c hc;simp[zq]at hc
 |_=>intro c hc;simp only[zq,Option.some.injEq]at hc;subst hc;exact⟨fun _=>rfl,fun r h=>by cases h⟩
def Yk(l:Nat)(J:(Nat→V)→Heap→Prop)(Q:z6):z6:=fun x e h=>match x with| .goto l'=>l'=l∧J e h|x=>Q x e h
def Exit.jump'(l:Nat)(J:Act→World→Prop)(Q:Exit→Act→World→Prop):Exit→Act→World→Prop
 | .goto l',a,w=>l'=l∧J a w
 |e,a,w=>Q e a w
theorem jc{P:Program}{c rest:Code}{Q:Exit→Act→World→Prop}{a:Act}{w:World}(l:Nat)(J:Nat→Act→World→Prop)(hf:findLabel c l=some rest)
  (first:c.wp P (Exit.jump' l (fun a w=>∃n,J n a w) Q) a w)
  (pass:∀n a w,J n a w→rest.wp P (Exit.jump' l (fun a' w'=>∃m,m<n∧J m a' w') Q) a w):(Code.scope c).wp P Q a w:=by
 intro b k cs
 have hg:gotoIn l (.inScope c::k)=some (.code rest:: .inScope c::k):=by simp[gotoIn,hf]
 have key:∀n a w,J n a w→∃e a' w',Q e a' w'∧Arrives P (lone (b.at a (.code rest:: .inScope c::k)) cs w) b k cs e a' w':=by
  intro n
  induction n using Nat.strongRecOn with
  |_ n ih=>
   intro a w hJ
   obtain⟨e,a₁,w₁,hq,harr⟩:=pass n a w hJ b (.inScope c::k) cs
   cases e with
   |normal=>exact⟨.normal,a₁,w₁,hq,Steps.trans harr (.one step_inScope)⟩
   |exit id=>exact⟨.exit id,a₁,w₁,hq,fun k' hk=>harr k' (by simp[exitTo,hk])⟩
   |goto l'=>
    obtain⟨rfl,m,hlt,hJ'⟩:=hq
    obtain⟨e₂,a₂,w₂,hq₂,harr₂⟩:=ih m hlt a₁ w₁ hJ'
    exact⟨e₂,a₂,w₂,hq₂,.of_steps (harr _ hg) harr₂⟩
   |ret=>exact⟨_,a₁,w₁,hq,harr⟩
   |panic ch=>exact⟨_,a₁,w₁,hq,harr⟩
   |outgrown=>exact⟨_,a₁,w₁,hq,harr⟩
 obtain⟨e,a₁,w₁,hq,harr⟩:=first b (.inScope c::k) cs
 cases e with
 |normal=>exact⟨.normal,a₁,w₁,hq,.head step_scope (Steps.trans harr (.one step_inScope))⟩
 |exit id=>exact⟨.exit id,a₁,w₁,hq,fun k' hk=>.head step_scope (harr k' (by simp[exitTo,hk]))⟩
 |goto l'=>
  obtain⟨rfl,n,hJ'⟩:=hq
  obtain⟨e₂,a₂,w₂,hq₂,harr₂⟩:=key n a₁ w₁ hJ'
  exact⟨e₂,a₂,w₂,hq₂,.of_steps (.head step_scope (harr _ hg)) harr₂⟩
 |ret=>exact⟨_,a₁,w₁,hq,.of_steps (.one step_scope) harr⟩
 |panic ch=>exact⟨_,a₁,w₁,hq,.of_steps (.one step_scope) harr⟩
 |outgrown=>exact⟨_,a₁,w₁,hq,.of_steps (.one step_scope) harr⟩
theorem zQ.scope{cx:Cx}{c r:C}{Q:z6}{e:Nat→V}{h:Heap}(l:Nat)(J:Nat→(Nat→V)→Heap→Prop)(hf:jd c l=some r)
  (first:wpC cx c (Yk l (fun e h=>∃n e' h',q8 cx e h e' h'∧J n e' h') Q) e h)
  (pass:∀n e h,J n e h→wpC cx r (Yk l (fun e h=>∃m e' h',q8 cx e h e' h'∧m<n∧J m e' h') Q) e h):zQ cx (.scope c) Q e h:=by
 intro code hc g a w R
 obtain⟨b,rfl,hb⟩:=Yf hc
 obtain⟨r',hf',hr⟩:=(XK hb).2 r hf
 refine jc l (fun n a w=>∃g e h,Rel cx.N g e h cx.w0 cx.own0 a w∧J n e h) hf' ?_ fun n a w ⟨g,e,h,R,hJ⟩=> ?_
 ·refine wp_mono (jb _ first b hb g a w R) fun z a' w' hq=> ?_
  obtain⟨g',e',h',R',q⟩:=hq
  cases z<;>simp only[Yk]at q<;>simp only[Exit.jump']
  case goto l'=>
   obtain⟨hl,n,e'',h'',hw,hJ⟩:=q
   obtain⟨g'',R''⟩:=hw g' a' w' R'
   exact⟨hl,n,g'',e'',h'',R'',hJ⟩
  all_goals exact⟨g',e',h',R',q⟩
 ·refine wp_mono (jb _ (pass n e h hJ) r' hr g a w R) fun z a' w' hq=> ?_
  obtain⟨g',e',h',R',q⟩:=hq
  cases z<;>simp only[Yk]at q<;>simp only[Exit.jump']
  case goto l'=>
   obtain⟨hl,m,e'',h'',hw,hlt,hJ⟩:=q
   obtain⟨g'',R''⟩:=hw g' a' w' R'
   exact⟨hl,m,hlt,g'',e'',h'',R'',hJ⟩
  all_goals exact⟨g',e',h',R',q⟩
end Go.Sx
end
section
set_option linter.unusedSimpArgs false
set_option maxHeartbeats 1000000
namespace Go.Sx
inductive RV where
 |tmp (t:Nat)
 |cell (t:Nat) (n:Option Nat)
def zba(P:Program):ResultVar→Option RV
 | .tmp t=>some (.tmp t)
 | .cell t ty=>(shp P ty).map (.cell t)
def jS(P:Program):List ResultVar→Option (List RV)
 | []=>some []
 |x::r=>match zba P x,jS P r with|some y,some ys=>some (y::ys)|_,_=>none
def rvV(e:Nat→V)(h:Heap):RV→V
 | .tmp t=>(e t).un
 | .cell t n=>ldA n (h.cells (e t).un).1
def J1(e:Nat→V)(h:Heap):RV→Bool
 | .tmp t=>(e t).gok
 | .cell t n=>(e t).gok&&(h.cells (e t).un).2&&decide (n.getD 1≤(h.cells (e t).un).1.length)
def JZ(rs:List RV)(e:Nat→V)(h:Heap):V:=
 match rs with
 | [r]=>rvV e h r
 |rs=>.tup (rs.map (rvV e h))
def zbx(rs:List RV)(K:V→Heap→Prop):z6:=fun x e h=>
 match x with
 | .normal| .ret=>rs.all (J1 e h)=true∧K (JZ rs e h) h
 |_=>False
structure FnC where
 n:Nat
 rs:List RV
 body:C
def zp(P:Program)(f:FuncId):Option FnC:=
 match P.funcs[f]? with
 |some fn=>if fn.name== "runtime.NumGoroutine" then none else
  match fn.body with
  |some c=>match zq P fn.ntmps c,jS P fn.results.toList with
   |some b,some rs=>some ⟨fn.ntmps,rs,b⟩
   |_,_=>none
  |none=>none
 |none=>none
def Yj(args:List V):Nat→V:=fun i=>args.getD i (.c undef)
section
variable {P:Program} {N:Nat} {g g':Gh} {e:Nat→V} {h h':Heap} {w w' w0:World} {own0:Own} {a:Act}
def Wi(tmps:Array Value):ResultVar→Sem Value
 | .tmp t=>pure (tmps.getD t undef)
 | .cell a t=>do loadVar t (←asAddr (tmps.getD a undef))
theorem zfS(fn:Func)(tmps:Array Value):results fn tmps=(do let vs ←fn.results.mapM (Wi tmps);pure (if h:vs.size=1 then vs[0]else .tuple vs)):=by
 unfold results
 congr 2
theorem zv5(R:Rel N g e h w0 own0 a w){x:ResultVar}{y:RV}(hc:zba P x=some y)(hok:J1 e h y=true):
  ∃cv,(Wi a.tmps x).run P w= .ok cv w∧VRep g w cv (rvV e h y):=by
 cases x with
 |tmp t=>
  simp only[zba,Option.some.injEq]at hc;subst hc
  exact⟨_,rfl,(R.tm t).un hok⟩
 |cell p t=>
  simp only[zba,Option.map_eq_some_iff]at hc
  obtain⟨n,hn,rfl⟩:=hc
  simp only[J1,Bool.and_eq_true,decide_eq_true_eq]at hok
  have hv:=(R.tm p).un hok.1.1
  obtain⟨cv,h1,h2⟩:=Wm hn R.heap hv hok.1.2 hok.2
  obtain⟨b,o,xs,hp,_,_⟩:=Xu R.heap hv hok.1.2
  refine⟨cv,?_,h1⟩
  have:=h2 w (Grow.refl w)
  rw[hp]at this
  simp only[Wi,hp]
  simpa[Instr.loadAt,Instr.sureAddr,asAddr]using this
theorem zhI(R:Rel N g e h w0 own0 a w):∀ {xs:List ResultVar}{ys:List RV},jS P xs=some ys→ys.all (J1 e h)=true→
  ∃vs:List Value,(xs.mapM (Wi a.tmps)).run P w= .ok vs w∧vs.length=ys.length∧
   ∀i,i<ys.length→VRep g w (vs.getD i undef) ((ys.map (rvV e h)).getD i .any)
 | [],ys,hc,_=>by simp[jS]at hc;subst hc;exact⟨[],rfl,rfl,by simp⟩
 |x::xs,ys,hc,hok=>by
  simp only[jS]at hc
  split at hc
  ·rename_i y zs hy hzs
   obtain rfl:=Option.some.inj hc
   simp only[List.all_cons,Bool.and_eq_true]at hok
   obtain⟨cv,h1,h2⟩:=zv5 R hy hok.1
   obtain⟨vs,h3,h4,h5⟩:=zhI R hzs hok.2
   refine⟨cv::vs,?_,by simp[h4],fun i hi=> ?_⟩
   ·rw[List.mapM_cons]
    simp only[Sem.run_bind,h1,h3,Result.andThen_ok,Sem.run_pure]
   ·cases i with
    |zero=>simpa using h2
    |succ i=>simpa using h5 i (by simpa using hi)
  ·cases hc
theorem zdI(R:Rel N g e h w0 own0 a w){fn:Func}{rs:List RV}(hc:jS P fn.results.toList=some rs)(hok:rs.all (J1 e h)=true):
  ∃cv,(results fn a.tmps).run P w= .ok cv w∧VRep g w cv (JZ rs e h):=by
 obtain⟨vs,h1,h2,h3⟩:=zhI R hc hok
 have hrun:(fn.results.mapM (Wi a.tmps)).run P w= .ok vs.toArray w:=by
  rw[Array.mapM_eq_mapM_toList]
  simp only[Sem.run_map,h1,Result.andThen_ok]
 rw[zfS]
 by_cases h1':vs.length=1
 ·obtain⟨v,rfl⟩:=List.length_eq_one_iff.1 h1'
  obtain⟨r,rfl⟩:=List.length_eq_one_iff.1 (h2▸h1':rs.length=1)
  refine⟨v,?_,by simpa[JZ]using h3 0 (by simp)⟩
  simp only[Sem.run_bind,hrun,Result.andThen_ok,Sem.run_pure]
  simp
 ·refine⟨.tuple vs.toArray,?_,?_⟩
  ·simp only[Sem.run_bind,hrun,Result.andThen_ok,Sem.run_pure]
   simp[h1']
  ·have hr:JZ rs e h= .tup (rs.map (rvV e h)):=by
    unfold JZ
    split
    ·simp at h2;omega
    ·rfl
   rw[hr]
   refine .tup _ _ (by simp[h2]) fun i hi=> ?_
   simpa[Array.getD_eq_getD_getElem?,List.getD_eq_getElem?_getD]using h3 i (by simpa using hi)
theorem zrZ(hds:own0.ds= []){args:List V}{cargs:Array Value}(hn:args.length≤N)(hs:cargs.size=args.length)(hv:∀i,i<args.length→VRep g w (cargs.getD i undef) (args.getD i .any))(H:HRel g h w w0 own0):
  Rel N g (Yj args) h w0 own0 {tmps:=cargs++Array.replicate (N - cargs.size) undef,defers:=[]} w:=by
 refine⟨by simp;omega,fun i=> ?_,⟨[],by simp[hds],trivial⟩,H⟩
 unfold Yj
 by_cases hi:i<args.length
 ·have:=hv i hi
  simpa[Array.getD_eq_getD_getElem?,Array.getElem?_append_left (show i<cargs.size by omega),List.getD_eq_getElem?_getD,hi]using this
 ·have e1:args.getD i (.c undef)= .c undef:=by simp[List.getD_eq_getElem?_getD,List.getElem?_eq_none (Nat.le_of_not_lt hi)]
  rw[e1]
  refine VRep.of_eq ?_
  simp only[Array.getD_eq_getD_getElem?]
  rw[Array.getElem?_append_right (by omega)]
  by_cases h2:i - cargs.size<N - cargs.size
  ·rw[Array.getElem?_replicate,if_pos h2];rfl
  ·rw[Array.getElem?_replicate,if_neg h2];rfl
theorem jA{f:FuncId}{fc:FnC}(hf:zp P f=some fc):y7 P f=true∧∃fn c,P.funcs[f]? =some fn∧fn.body=some c∧fc.n=fn.ntmps∧zq P fn.ntmps c=some fc.body∧jS P fn.results.toList=some fc.rs:=by
 unfold zp at hf
 split at hf
 ·rename_i fn hfn
  split at hf
  ·cases hf
  ·rename_i hname
   split at hf
   ·rename_i c hb
    split at hf
    ·rename_i b rs hcb hcr
     obtain rfl:=Option.some.inj hf
     refine⟨?_,fn,c,hfn,hb,rfl,hcb,hcr⟩
     simp[y7,hfn,hb,hname]
    ·cases hf
   ·cases hf
 ·cases hf
theorem zaN{fn:Func}{rs:List RV}(hc:jS P fn.results.toList=some rs){e:Nat→V}{h:Heap}(hok:rs.all (J1 e h)=true){K:V→Heap→Prop}(hK:K (JZ rs e h) h){tmps:Array Value}(hsz:tmps.size=N):
  ∀ {ds:List Deferred}{w:World},(∀i,VRep g w (tmps.getD i undef) (e i))→HRel g h w w0 own0→DOK w0.heap.size g w ds→
  LeavesInM Fence.wide 1 P fn tmps (fun e w'=>∃g' h' cv v,e= .returned cv∧HRel g' h' w' w0 own0∧VRep g' w' cv v∧K v h') ds .returning w
 | [],w,ht,H,_=>by
   have R:Rel N g e h w0 ⟨own0.o,own0.F,own0.g,[]⟩ {tmps:=tmps,defers:=[]} w:=⟨hsz,ht,⟨[],rfl,trivial⟩,H.ds []⟩
   obtain⟨cv,k3,k4⟩:=zdI R hc hok
   exact⟨cv,k3,g,h,cv,_,rfl,H,k4,hK⟩
 |d::ds,w,ht,H,hd=>by
  obtain⟨⟨D,a,b,c,dd,ee⟩,r⟩:=hd
  subst a
  have s:Swap w0.heap.size w (w.putObj D (.deferred none)):=by
   refine⟨rfl,rfl,rfl,by simp,fun k hk=>World.putObj_heap_other (by omega),fun k cur el m hk=> ?_,fun k es c hk=> ?_⟩
   ·rw[World.putObj_heap_other]
    ·exact hk
    ·intro e;subst e;rw[hk]at dd;cases dd
   ·rw[World.putObj_heap_other]
    ·exact hk
    ·intro e;subst e;rw[hk]at dd;cases dd
  refine⟨by simp,.inl ⟨D,_,rfl,run_takeDeferred dd,?_⟩⟩
  refine zaN hc hok hK hsz (fun i=>(ht i).swap s) (H.swap s (Nat.le_refl _)) ?_
  clear ht H hok hK
  induction ds with
  |nil=>trivial
  |cons d' ds ih=>
   obtain⟨⟨D',a',b',c',dd',ee'⟩,r'⟩:=r
   refine⟨⟨D',a',b',c',?_,ee'⟩,ih r' (fun x hx=>ee x (List.mem_cons_of_mem _ hx))⟩
   rw[World.putObj_heap_other]
   ·exact dd'
   ·intro e;subst e
    exact ee d' (List.mem_cons_self ..) (by rw[a'])
theorem QP(T:Orc P)(hds:own0.ds= []){f:FuncId}{fc:FnC}(hf:zp P f=some fc){args:List V}(hn:args.length≤fc.n){K:V→Heap→Prop}(hw:wpC ⟨P,T,fc.n,w0,own0⟩ fc.body (zbx fc.rs K) (Yj args) h)
  {cargs:Array Value} (H:HRel g h w w0 own0) (hs:cargs.size=args.length) (hv:∀i,i<args.length→VRep g w (cargs.getD i undef) (args.getD i .any)):
  Calls P f cargs w fun e w'=>∃g' h' cv v,e= .returned cv∧HRel g' h' w' w0 own0∧VRep g' w' cv v∧K v h':=by
 obtain⟨_,fn,c,h1,h2,h3,h4,h5⟩:=jA hf
 rw[h3]at hn hw
 refine callsIn_wide.1 (callsIn_of_wp_marks (n:=1) h1 h2 trivial (wpIn_wide.2 (wp_mono (jb _ hw c h4 g _ w (zrZ hds hn hs hv H)) fun x a' w' hq=> ?_)))
 obtain⟨g',e',h',R',q⟩:=hq
 have key:fc.rs.all (J1 e' h')=true∧K (JZ fc.rs e' h') h'→LeavesInM Fence.wide 1 P fn a'.tmps (fun e w'=>∃g' h' cv v,e= .returned cv∧HRel g' h' w' w0 own0∧VRep g' w' cv v∧K v h') a'.defers .returning w':=by
  rintro⟨k1,k2⟩
  obtain⟨m,hm,hd⟩:=R'.defers
  rw[hm,hds,List.append_nil]
  exact zaN h5 k1 k2 R'.size R'.tm R'.heap hd
 cases x<;>simp only[zbx]at q<;>simp only[bodyPostM]
 ·exact key q
 ·exact key q
theorem zf.of(T:Orc P){f:FuncId}{fc:FnC}(hf:zp P f=some fc){args:List V}{r:V}(hn:args.length≤fc.n)
  (hw:∀w0 own0,wpC ⟨P,T,fc.n,w0,own0⟩ fc.body (zbx fc.rs fun v h=>res (fun _=>true) h 12 v=some r) (Yj args) ⟨[],0⟩):zf P f args r:=by
 refine⟨(jA hf).1,fun F w cargs hF hs hv=> ?_⟩
 have H:HRel ⟨F,[],fun _ _=>False⟩ ⟨[],0⟩ w w ⟨fun _=>False,F,⟨F,[],fun _ _=>False⟩,[]⟩:=by
  refine⟨fun _ _ h=>h.elim,rfl,by simp,by simp,by simp,hF.1,by simp,Frm.refl _ _,fun b hb=>.inl hb,Ext.refl _ _,hF.2⟩
 refine(QP T rfl hf hn (hw w _) H hs fun i hi=>.p _ _ (hv i hi)).mono fun e w' he=> ?_
 obtain⟨g',h',cv,v,rfl,H',hv',hr⟩:=he
 have hg:Grow w w':=⟨H'.frm.os,H'.frm.tape,H'.frm.output,H'.frm.size,fun b hb=>H'.frm.block b hb (by simp)⟩
 refine⟨cv,rfl,hg,(j7 H' 12 hv' hr).mono (fun b hb=> ?_) (fun _ _=>rfl)⟩
 rcases hb with hb|⟨j,I,hI,hIb,_⟩
 ·rcases H'.fin b hb with h|h|h
  ·exact .inl h
  ·exact h.elim
  ·exact .inr ⟨h,H'.Flt b hb⟩
 ·rcases H'.own j I b hI hIb with h|h
  ·exact h.elim
  ·exact .inr ⟨h,H'.blt hI hIb⟩
end
def zmg(sz:Nat)(h:Heap):V→Option (List (List V))
 | .c (.slice none 0 0)=>some []
 | .ref j ver off n=>if decide (off=0)&&h.cur j ver&& !(h.blk j).fz&&(h.blk j).sz==sz&&decide (n≤(h.blk j).es.length)then zx (zx (res (fun i=>i != j) h 11)) ((h.blk j).es.take n)else none
 |_=>none
section
variable {P:Program}
theorem jQ.of(T:Orc P){f:FuncId}{fc:FnC}(hf:zp P f=some fc){args:List V}{sz:Nat}(d:List V){es:List (List V)}(hn:args.length≤fc.n)
  (hw:∀w0 own0,wpC ⟨P,T,fc.n,w0,own0⟩ fc.body (zbx fc.rs fun v h=>zmg sz h v=some es) (Yj args) ⟨[],0⟩):jQ P f args sz d es:=by
 refine⟨(jA hf).1,fun F w cargs hF hs hv=> ?_⟩
 have H:HRel ⟨F,[],fun _ _=>False⟩ ⟨[],0⟩ w w ⟨fun _=>False,F,⟨F,[],fun _ _=>False⟩,[]⟩:=by
  refine⟨fun _ _ h=>h.elim,rfl,by simp,by simp,by simp,hF.1,by simp,Frm.refl _ _,fun b hb=>.inl hb,Ext.refl _ _,hF.2⟩
 refine(QP T rfl hf hn (hw w _) H hs fun i hi=>.p _ _ (hv i hi)).mono fun e w' he=> ?_
 obtain⟨g',h',cv,v,rfl,H',hv',hr⟩:=he
 have hg:Grow w w':=⟨H'.frm.os,H'.frm.tape,H'.frm.output,H'.frm.size,fun b hb=>H'.frm.block b hb (by simp)⟩
 have hFo:∀b,F b→g'.F b:=fun b hb=>H'.ext.F b hb
 have fin:∀b,g'.F b→F b∨(w.heap.size≤b∧b<w'.heap.size):=fun b hb=>by
  rcases H'.fin b hb with h|h|h
  ·exact .inl h
  ·exact h.elim
  ·exact .inr ⟨h,H'.Flt b hb⟩
 unfold zmg at hr
 split at hr
 ·obtain rfl:=Option.some.inj hr
  refine⟨cv,⟨0,none,sz,0⟩,g'.F,rfl,hg,hFo,fin,rfl,?_,by simp,fun _=>rfl,fun b hb=>by cases hb⟩
  simp[y5,hv'.inv_c]
 ·rename_i j ver off n
  split at hr
  ·rename_i hc
   simp only[Bool.and_eq_true,decide_eq_true_eq,Bool.not_eq_true',beq_iff_eq]at hc
   obtain⟨⟨⟨⟨rfl,hcur⟩,hfz⟩,hsz⟩,hle⟩:=hc
   obtain⟨B,I,hB,hI,hbl,hBv,hIv,hk⟩:=H'.cur hcur
   rw[hbl]at hfz hsz hle hr
   have hro:=hv'.inv_ref.2 I hI hIv
   obtain⟨hl,hes⟩:=qM hr
   have hln:n=es.length:=by rw[←hl,List.length_take];omega
   have helem:∀(i:Nat),i<es.length→zx (res (fun i=>i != j) h' 11) (B.es.getD i [])=some (es.getD i []):=fun i hi=>by
    have hi':i<B.es.length:=by omega
    obtain⟨zs,h1,h2⟩:=hes i (B.es[i]) (by simp[List.getElem?_take,show i<n by omega,hi'])
    simpa[List.getD_eq_getElem?_getD,hi',h1]using h2
   have hesl:∀e∈es,e.length=sz:=by
    intro e he
    obtain⟨i,hi,rfl⟩:=List.mem_iff_getElem.1 he
    have:=(qM (helem i hi)).1
    have h3:es.getD i []=es[i]:=by simp[List.getD_eq_getElem?_getD,hi]
    rw[h3]at this
    rw[←this,←hsz]
    have hi':i<B.es.length:=by omega
    exact hk.len _ (by rw[List.getD_eq_getElem?_getD,List.getElem?_eq_getElem hi'];exact List.getElem_mem _)
   refine⟨cv,⟨ver,I.blk,sz,I.cap⟩,FZ g' (fun i=>i != j),rfl,hg,fun b hb=>.inl (hFo b hb),fun b hb=> ?_,rfl,?_,hesl,fun hb=> ?_,fun b hb=> ?_⟩
   ·rcases hb with hb|⟨k,J,hJ,hJb,_⟩
    ·exact fin b hb
    ·rcases H'.own k J b hJ hJb with h|h
     ·exact h.elim
     ·exact .inr ⟨h,H'.blt hJ hJb⟩
   ·rw[←hln]
    have hIs:I.sz=sz:=hk.sz.trans hsz
    have e1:y5 ⟨ver,I.blk,sz,I.cap⟩ 0 n cv=y5 I 0 n cv:=by rw[←hIs];rfl
    rw[e1];exact hro
   ·have:=hk.gone hb
    rw[this]at hle
    simp only[List.length_nil]at hle
    exact List.eq_nil_of_length_eq_zero (by omega)
   ·obtain⟨cur,el,k1,k2,k3,k4,k5⟩:=hk.here b hb
    refine⟨(by rcases H'.own j I b hI hb with h|h;exact h.elim;exact h),?_,cur,el,k1,by rw[k2,hsz],by dsimp only;omega,k4,fun i k hi hk'=> ?_⟩
    ·rintro(hF'|⟨k,J,hJ,hJb,hS⟩)
     ·exact hk.nf b hb hfz hF'
     ·have:=H'.dist k j J I b hJ hI hJb hb
      subst this
      simp at hS
    ·rw[←hsz]at hk'⊢
     obtain⟨q1,q2⟩:=k5 i k (by omega) hk'
     refine⟨q1,j7 H' 11 q2 ?_⟩
     have h1:=helem i hi
     exact qT h1 (by rw[hesl _ (by rw[List.getD_eq_getElem?_getD,List.getElem?_eq_getElem hi];exact List.getElem_mem _),←hsz];exact hk')
  ·cases hr
 ·cases hr
end
theorem q8.any{cx:Cx}{e e':Nat→V}{h:Heap}(he:∀i,e' i=e i∨e' i= .any):q8 cx e h e' h:=fun g a w R=>
 ⟨g,R.size,fun i=>by rcases he i with h|h<;>rw[h];exact R.tm i;exact VRep.any _,R.defers,R.heap⟩
theorem yE{α:Type}{l:List α}{n j:Nat}{x:α}(h:(l.take n)[j]? =some x):l[j]? =some x:=by
 rw[List.getElem?_take]at h
 split at h
 ·exact h
 ·cases h
theorem q8.drop{cx:Cx}{e:Nat→V}{h:Heap}(n:Nat):q8 cx e h e ⟨h.bs.take n,h.clk⟩:=fun g a w R=>by
 have ex:Ext g w ⟨g.F,g.inf.take n,g.us⟩ w:=⟨⟨fun _ h=>h,fun _ _=>rfl,fun _ _ h=>h,fun j I hI _=>yE hI⟩,fun _ _ h=>.inl h⟩
 refine⟨⟨g.F,g.inf.take n,g.us⟩,R.size,fun i=>(R.tm i).mono ex,(let⟨m,hm,hd⟩:=R.defers;⟨m,hm,hd.mono ex⟩),?_⟩
 have H:=R.heap
 refine⟨H.clk,by simp[H.len],fun j B I hB hI=> ?_,fun j I hI=>H.vlt j I (yE hI),fun j k I J b hI hJ=>H.dist j k I J b (yE hI) (yE hJ),H.Flt,fun j I b hI=>H.own j I b (yE hI),H.frm,H.fin,H.ext.trans ex,H.glb⟩
 have hk:=H.ok j B I (yE hB) (yE hI)
 exact⟨hk.ver,hk.sz,hk.len,hk.gone,fun b hb=>(hk.here b hb).mono ex rfl,hk.fz,hk.nf⟩
theorem q8.nil{cx:Cx}{e:Nat→V}{h:Heap}(d sz:Nat)(z:List V)(hd:e d= .c (.slice none 0 0)):q8 cx e h (upd e d (.ref h.bs.length h.clk 0 0)) (h.alloc sz z []):=fun g a w R=>by
 obtain⟨ex,H'⟩:=R.heap.new (Grow.refl w) (I:=⟨h.clk,none,sz,0⟩) (sz:=sz) (es:=[]) rfl rfl (by simp) (by simp) (by simp) (by simp)
 refine⟨_,R.size,fun i=> ?_,(let⟨m,hm,hd⟩:=R.defers;⟨m,hm,hd.mono ex⟩),H'⟩
 simp only[upd]
 split
 ·rename_i hi
  subst hi
  have hv:=(R.tm i)
  rw[hd]at hv
  refine .ref _ _ _ _ _ (.inr ⟨rfl,rfl⟩) fun J hJ hJv=> ?_
  rw[←R.heap.len]at hJ
  simp at hJ
  subst hJ
  simp[y5,hv.inv_c]
 ·exact(R.tm i).mono ex
theorem HRel.recell{g:Gh}{h:Heap}{w w0:World}{own0:Own}(H:HRel g h w w0 own0){j:Nat}{B B':Blk}(hB:h.bs[j]? =some B)(h1:B'.ver=B.ver)(h2:B'.sz=B.sz)(h3:B'.fz=B.fz)(h4:B'.es.length=B.es.length)(h5:∀e∈B'.es,e.length=B'.sz)
  (hc:∀v i k,VRep g w v ((B.es.getD i []).getD k .any)→VRep g w v ((B'.es.getD i []).getD k .any)):HRel g ⟨h.bs.set j B',h.clk⟩ w w0 own0:=by
 have hj:j<h.bs.length:=(List.getElem?_eq_some_iff.1 hB).1
 refine⟨H.clk,by simp[H.len],fun k C K hC hK=> ?_,H.vlt,H.dist,H.Flt,H.own,H.frm,H.fin,H.ext,H.glb⟩
 by_cases hkj:k=j
 ·subst hkj
  simp only[List.getElem?_set_self hj]at hC
  obtain rfl:=Option.some.inj hC
  have hk:=H.ok k B K hB hK
  refine⟨hk.ver.trans h1.symm,hk.sz.trans h2.symm,h5,fun hn=> ?_,fun b hb=> ?_,fun b hb hf=>hk.fz b hb (h3▸hf),fun b hb hf=>hk.nf b hb (h3▸hf)⟩
  ·have:=hk.gone hn;rw[this]at h4;exact List.eq_nil_of_length_eq_zero h4
  ·obtain⟨cur,e,c1,c2,c3,c4,c5⟩:=hk.here b hb
   exact⟨cur,e,c1,by rw[h2];exact c2,by omega,c4,fun i m hi hm=>by rw[h2]at hm ⊢;exact⟨(c5 i m (by omega) hm).1,hc _ i m (c5 i m (by omega) hm).2⟩⟩
 ·simp only[List.getElem?_set_ne (Ne.symm hkj)]at hC
  exact H.ok k C K hC hK
theorem q8.cell{cx:Cx}{e:Nat→V}{h:Heap}(j i k sz:Nat)(z:List V){B:Blk}(hB:h.bs[j]? =some B)(hv:(B.es.getD i []).getD k .any= .c (.slice none 0 0)):
  q8 cx e h e (Heap.alloc ⟨h.bs.set j ⟨B.ver,B.sz,B.es.set i ((B.es.getD i []).set k (.ref h.bs.length h.clk 0 0)),B.fz,B.d⟩,h.clk⟩ sz z []):=fun g a w R=>by
 obtain⟨ex,H'⟩:=R.heap.new (Grow.refl w) (I:=⟨h.clk,none,sz,0⟩) (sz:=sz) (d:=z) (es:=[]) rfl rfl (by simp) (by simp) (by simp) (by simp)
 have hj:j<h.bs.length:=(List.getElem?_eq_some_iff.1 hB).1
 have hB':(h.alloc sz z []).bs[j]? =some B:=by simp only[Heap.alloc];rw[List.getElem?_append_left hj];exact hB
 have hlen:∀e∈B.es,e.length=B.sz:=by
  have hjI:j<g.inf.length:=by rw[R.heap.len];exact hj
  exact(R.heap.ok j B _ hB (List.getElem?_eq_getElem hjI)).len
 have H2:=H'.recell (B':=⟨B.ver,B.sz,B.es.set i ((B.es.getD i []).set k (.ref h.bs.length h.clk 0 0)),B.fz,B.d⟩) hB' rfl rfl rfl (by simp) (fun c hc=> ?_) (fun v i' k' hvr=> ?_)
 ·refine⟨_,R.size,fun i=>(R.tm i).mono ex,(let⟨m,hm,hd⟩:=R.defers;⟨m,hm,hd.mono ex⟩),?_⟩
  have e1:(h.alloc sz z []).bs.set j ⟨B.ver,B.sz,B.es.set i ((B.es.getD i []).set k (.ref h.bs.length h.clk 0 0)),B.fz,B.d⟩=h.bs.set j ⟨B.ver,B.sz,B.es.set i ((B.es.getD i []).set k (.ref h.bs.length h.clk 0 0)),B.fz,B.d⟩++ [⟨h.clk,sz,[],false,z⟩]:=by
   simp only[Heap.alloc];rw[List.set_append_left _ _ hj]
  rw[e1]at H2
  exact H2
 ·rcases List.mem_or_eq_of_mem_set hc with hc|rfl
  ·exact hlen c hc
  ·rw[List.length_set]
   by_cases hi:i<B.es.length
   ·rw[List.getD_eq_getElem?_getD,List.getElem?_eq_getElem hi];exact hlen _ (List.getElem_mem _)
   ·rw[List.set_eq_of_length_le (by omega)]at hc
    simp only[]at hc
    rw[List.getD_eq_getElem?_getD,List.getElem?_eq_none (by omega)]at hc⊢
    exact hlen _ (by simpa using hc)
 ·by_cases hii:i'=i∧k'=k∧i<B.es.length∧k<(B.es.getD i []).length
  ·obtain⟨rfl,rfl,hi,hk⟩:=hii
   have e2:((B.es.set i' ((B.es.getD i' []).set k' (.ref h.bs.length h.clk 0 0))).getD i' []).getD k' .any= .ref h.bs.length h.clk 0 0:=by
    simp only[List.getD_eq_getElem?_getD]at hk⊢
    rw[List.getElem?_set_self hi]
    simp only[Option.getD_some]
    rw[List.getElem?_set_self hk];rfl
   simp only[e2]
   rw[hv]at hvr
   refine .ref _ _ _ _ _ (.inr ⟨rfl,rfl⟩) fun J hJ hJv=> ?_
   rw[←R.heap.len]at hJ
   simp at hJ
   subst hJ
   simp[y5,hvr.inv_c]
  ·have e2:((B.es.set i ((B.es.getD i []).set k (.ref h.bs.length h.clk 0 0))).getD i' []).getD k' .any=(B.es.getD i' []).getD k' .any:=by
    by_cases hi:i'=i
    ·subst hi
     by_cases hl:i'<B.es.length
     ·simp only[List.getD_eq_getElem?_getD]at hii⊢
      rw[List.getElem?_set_self hl]
      simp only[Option.getD_some]
      by_cases hkk:k'=k
      ·subst hkk
       rw[List.set_eq_of_length_le]
       have:¬k'<(B.es[i']?.getD []).length:=fun hh=>hii ⟨by trivial,by trivial,hl,hh⟩
       omega
      ·rw[List.getElem?_set_ne (Ne.symm hkk)]
     ·rw[List.set_eq_of_length_le (by omega)]
    ·simp only[List.getD_eq_getElem?_getD]
     rw[List.getElem?_set_ne (Ne.symm hi)]
   simp only[e2];exact hvr
theorem q8.freeze{cx:Cx}{e:Nat→V}{h:Heap}:q8 cx e h e (h.freeze fun _=>true):=fun g a w R=>by
 have H:=R.heap
 have hF':∀b,g.F b→FZ g (fun _=>true) b:=fun b hb=>.inl hb
 have ex:Ext g w ⟨FZ g fun _=>true,g.inf,g.us⟩ w:=⟨⟨hF',fun b hb=>rfl,fun _ _ h=>h,fun _ _ h _=>h⟩,fun _ _ h=>.inl h⟩
 refine⟨⟨FZ g fun _=>true,g.inf,g.us⟩,R.size,fun i=>(R.tm i).mono ex,(let⟨m,hm,hd⟩:=R.defers;⟨m,hm,hd.mono ex⟩),?_⟩
 refine⟨H.clk,by simp[Heap.freeze,H.len],fun j B I hB hI=> ?_,H.vlt,H.dist,fun b hb=>QJ H hb,H.own,H.frm,fun b hb=> ?_,H.ext.trans ex,H.glb⟩
 ·simp only[Heap.freeze,List.getElem?_mapIdx,Option.map_eq_some_iff]at hB
  obtain⟨B0,hB0,rfl⟩:=hB
  have hk:=H.ok j B0 I hB0 hI
  refine⟨hk.ver,hk.sz,hk.len,hk.gone,fun b hb=>(hk.here b hb).mono ex rfl,fun b hb hf=>.inr ⟨j,I,hI,hb,rfl⟩,fun b hb hf hF=> ?_⟩
  simp at hf
 ·rcases hb with hb|⟨k,J,hJ,hJb,_⟩
  ·exact H.fin b hb
  ·exact .inr (H.own k J b hJ hJb)
theorem HRel.drop{g:Gh}{h:Heap}{w w0:World}{own0:Own}(H:HRel g h w w0 own0)(n:Nat):Ext g w ⟨g.F,g.inf.take n,g.us⟩ w∧HRel ⟨g.F,g.inf.take n,g.us⟩ ⟨h.bs.take n,h.clk⟩ w w0 own0:=by
 have ex:Ext g w ⟨g.F,g.inf.take n,g.us⟩ w:=⟨⟨fun _ h=>h,fun _ _=>rfl,fun _ _ h=>h,fun j I hI _=>yE hI⟩,fun _ _ h=>.inl h⟩
 refine⟨ex,?_⟩
 refine⟨H.clk,by simp[H.len],fun j B I hB hI=> ?_,fun j I hI=>H.vlt j I (yE hI),fun j k I J b hI hJ=>H.dist j k I J b (yE hI) (yE hJ),H.Flt,fun j I b hI=>H.own j I b (yE hI),H.frm,H.fin,H.ext.trans ex,H.glb⟩
 have hk:=H.ok j B I (yE hB) (yE hI)
 exact⟨hk.ver,hk.sz,hk.len,hk.gone,fun b hb=>(hk.here b hb).mono ex rfl,hk.fz,hk.nf⟩
theorem zJ.walk{P:Program}(T:Orc P){f:FuncId}{fc:FnC}(hf:zp P f=some fc){args:List V}{r:V}{h h':Heap}(hn:args.length≤fc.n)
  (hw:∀w0 own0,wpC ⟨P,T,fc.n,w0,own0⟩ fc.body (zbx fc.rs fun v h2=>v=r∧h2.bs.take h'.bs.length=h'.bs∧h2.clk=h'.clk) (Yj args) h):zJ P f args h r h':=by
 refine⟨(jA hf).1,fun g w w0 own0 cargs H hs hv=> ?_⟩
 have H1:HRel g h w w ⟨fun b=>∃(j:Nat)(I:Inf),g.inf[j]? =some I∧I.blk=some b,g.F,g,[]⟩:=
  ⟨H.clk,H.len,H.ok,H.vlt,H.dist,H.Flt,fun j I b hI hb=>.inl ⟨j,I,hI,hb⟩,Frm.refl _ _,fun b hb=>.inl hb,Ext.refl _ _,H.glbw⟩
 refine(QP T rfl hf hn (hw w _) H1 hs hv).mono fun e w' he=> ?_
 obtain⟨g1,h1,cv,v,rfl,H2,hcv,rfl,hb,hc⟩:=he
 obtain⟨ex,H3⟩:=H2.drop h'.bs.length
 rw[hb,hc]at H3
 have hex:=H3.ext
 refine⟨_,cv,rfl,?_,hex,hcv.mono ex⟩
 refine⟨H3.clk,H3.len,H3.ok,H3.vlt,H3.dist,H3.Flt,fun j I b hI hIb=> ?_,?_,fun b hb=> ?_,H.ext.trans hex,H.glb⟩
 ·rcases H3.own j I b hI hIb with⟨k,J,hJ,hJb⟩|hge
  ·exact H.own k J b hJ hJb
  ·exact .inr (Nat.le_trans H.frm.size hge)
 ·refine⟨H3.frm.os.trans H.frm.os,H3.frm.tape.trans H.frm.tape,H3.frm.output.trans H.frm.output,Nat.le_trans H.frm.size H3.frm.size,fun b hlt hno=> ?_⟩
  refine(H3.frm.block b (Nat.lt_of_lt_of_le hlt H.frm.size) ?_).trans (H.frm.block b hlt hno)
  rintro⟨j,I,hI,hIb⟩
  rcases H.own j I b hI hIb with ho|hge
  ·exact hno ho
  ·omega
 ·rcases H3.fin b hb with hF|⟨k,J,hJ,hJb⟩|hge
  ·exact H.fin b hF
  ·exact .inr (H.own k J b hJ hJb)
  ·exact .inr (.inr (Nat.le_trans H.frm.size hge))
end Go.Sx
end
section
set_option linter.unusedVariables false
namespace Go.Sx
def wpR(cx:Cx)(ops:List AOp)(rest:C)(Q:z6)(e:Nat→V)(h:Heap):Prop:=jZ cx.P cx.T ops e h fun e h=>wpC cx rest Q e h
def zw(cx:Cx)(ops:List AOp)(rest:C)(Q:z6)(e:Nat→V)(h:Heap):Prop:=zam cx.P cx.T ops e h fun e=>wpC cx rest Q e h
def zpE(cx:Cx)(hd tl:List AOp)(rest:C)(Q:z6)(e:Nat→V)(h:Heap):Prop:=J5 cx.T hd e h fun e=>wpR cx tl rest Q e h
def zpG(cx:Cx)(m:MR)(hd tl:List AOp)(rest:C)(Q:z6)(e0 e:Nat→V)(h:Heap):Prop:=J5 cx.T hd e h fun e'=>wpR cx tl rest Q (m.fin e0 e') h
def zpD(cx:Cx)(hd:List AOp)(b:Option AOp)(tl:List AOp)(rest:C)(Q:z6)(e0 e:Nat→V)(h:Heap):Prop:=
 KP cx.T hd e h (QM b e0 h) fun e'=>Jt b e0 h=true∧wpR cx tl rest Q (zcG b e' h) (QM b e0 h)
def zg7(cx:Cx)(hd:List (AOp×Bool×List Nat))(tr:List (Option Nat×List Nat))(m:Nat)(tl:List AOp)(rest:C)(Q:z6)(s:(Nat→V)×Heap):Prop:=
 wpX cx.T hd tr s fun e' h'=>wpR cx tl rest Q e' ⟨h'.bs,h'.clk+m⟩
def zfW(cx:Cx)(rest:C)(Q:z6):z6:=kH (fun e h=>wpC cx rest Q e h) Q
def zcE(cx:Cx)(id:Nat)(rest:C)(Q:z6):z6:=za4 id (kH (fun e h=>wpC cx rest Q e h) Q)
section
variable (cx:Cx) (Q:z6) (e:Nat→V) (h:Heap) (rest:C)
theorem zeP(ops:List AOp):wpC cx (.seq (.reg ops) rest) Q e h=wpR cx ops rest Q e h:=rfl
theorem ztc(ops:List AOp):wpC cx (.reg ops) Q e h=wpR cx ops .skip Q e h:=rfl
theorem zcm(ops:List AOp):wpC cx (.seq (.treg ops) rest) Q e h=wpR cx ops rest Q e h:=rfl
theorem zpB(ops:List AOp):wpC cx (.treg ops) Q e h=wpR cx ops .skip Q e h:=rfl
theorem zce(n:Nat)(ops:List AOp):wpC cx (.seq (.areg n ops) rest) Q e h=zpE cx (ops.take n) (ops.drop n) rest Q e h:=rfl
theorem zpt(n:Nat)(ops:List AOp):wpC cx (.areg n ops) Q e h=zpE cx (ops.take n) (ops.drop n) .skip Q e h:=rfl
theorem zcj(N d:Nat)(ks:List (Value×Nat))(bs tl:List AOp):wpC cx (.seq (.mreg ⟨N,d,ks,bs⟩ tl) rest) Q e h=zpG cx ⟨N,d,ks,[]⟩ bs tl rest Q e e h:=rfl
theorem zpy(N d:Nat)(ks:List (Value×Nat))(bs tl:List AOp):wpC cx (.mreg ⟨N,d,ks,bs⟩ tl) Q e h=zpG cx ⟨N,d,ks,[]⟩ bs tl .skip Q e e h:=rfl
theorem KO(n:Nat)(ops:List AOp):wpC cx (.seq (.breg n ops) rest) Q e h=zpD cx (ops.take n) ops[n]? (ops.drop (n+1)) rest Q e e h:=rfl
theorem zeN(n:Nat)(ops:List AOp):wpC cx (.breg n ops) Q e h=zpD cx (ops.take n) ops[n]? (ops.drop (n+1)) .skip Q e e h:=rfl
theorem zcn(hd:List (AOp×Bool×List Nat))(tl:List AOp):wpC cx (.seq (.xreg hd tl) rest) Q e h=zg7 cx hd [] (hd.length+1) tl rest Q (e,h):=rfl
theorem zpC(hd:List (AOp×Bool×List Nat))(tl:List AOp):wpC cx (.xreg hd tl) Q e h=zg7 cx hd [] (hd.length+1) tl .skip Q (e,h):=rfl
theorem zeO(c:C):wpC cx (.seq (.frz c) rest) Q e h=wpC cx (.seq c rest) Q e (h.freeze fun _=>true):=rfl
theorem ztb(c:C):wpC cx (.frz c) Q e h=wpC cx c Q e (h.freeze fun _=>true):=rfl
theorem zqp(tr:List (Option Nat×List Nat))(m:Nat)(tl:List AOp):zg7 cx [] tr m tl rest Q (e,h)=wpR cx tl rest Q e ⟨h.bs,h.clk+m⟩:=rfl
theorem zqq(b:AOp)(ws:List Nat)(r:List (AOp×Bool×List Nat))(tr:List (Option Nat×List Nat))(m:Nat)(tl:List AOp):zg7 cx ((b,true,ws)::r) tr m tl rest Q (e,h)=
 (zll cx.T b e h∧(yr b true e).all (fun j=>decide (j<h.bs.length))=true∧kQ ws (some ((xe cx.T b e h).at'.getD h.bs.length),yr b true e) 0 tr=true∧
   zg7 cx r (tr++ [(some ((xe cx.T b e h).at'.getD h.bs.length),yr b true e)]) m tl rest Q (zj e b.dst ((xe cx.T b e h).val h),(xe cx.T b e h).heap h)):=rfl
theorem zqo(b:AOp)(ws:List Nat)(r:List (AOp×Bool×List Nat))(tr:List (Option Nat×List Nat))(m:Nat)(tl:List AOp):zg7 cx ((b,false,ws)::r) tr m tl rest Q (e,h)=
 ((yL cx.T b e h∧(b.o.calls=true→∀h',yL cx.T b e h'∧zU cx.T b e h'=zU cx.T b e h))∧(yr b false e).all (fun j=>decide (j<h.bs.length))=true∧kQ ws (none,yr b false e) 0 tr=true∧
   zg7 cx r (tr++ [(none,yr b false e)]) m tl rest Q (zj e b.dst (zU cx.T b e h),h)):=rfl
theorem zck(ops:List AOp):wpC cx (.seq (.qreg ops) rest) Q e h=zw cx ops rest Q e h:=rfl
theorem zpz(ops:List AOp):wpC cx (.qreg ops) Q e h=zw cx ops .skip Q e h:=rfl
theorem zpA:wpC cx .skip Q e h=Q .normal e h:=rfl
theorem ztd:wpC cx .ret Q e h=Q .ret e h:=rfl
theorem zpv(id:Nat):wpC cx (.exit id) Q e h=Q (.exit id) e h:=rfl
theorem zpw(l:Nat):wpC cx (.goto l) Q e h=Q (.goto l) e h:=rfl
theorem zkL(l:Nat):wpC cx (.label l) Q e h=Q .normal e h:=rfl
theorem zte(x:X)(ps:List Nat)(a b:C):wpC cx (.rng x ps a b) Q e h=zQ cx (.rng x ps a b) Q e h:=rfl
theorem zeR(x:X)(ps:List Nat)(a b:C):wpC cx (.seq (.rng x ps a b) rest) Q e h=zQ cx (.rng x ps a b) (zfW cx rest Q) e h:=rfl
theorem zpx(c:C):wpC cx (.loop c) Q e h=zQ cx (.loop c) Q e h:=rfl
theorem zkM(c:C):wpC cx (.scope c) Q e h=zQ cx (.scope c) Q e h:=rfl
theorem zkK(id:Nat)(c:C):wpC cx (.block id c) Q e h=wpC cx c (zcE cx id .skip Q) e h:=by
 show wpC cx c (za4 id Q) e h=_
 have:za4 id Q=zcE cx id .skip Q:=by
  funext x e h
  cases x<;>simp only[za4,zcE,kH,wpC]
 rw[this]
theorem zcl:wpC cx (.seq .skip rest) Q e h=wpC cx rest Q e h:=rfl
theorem zeQ:wpC cx (.seq .ret rest) Q e h=Q .ret e h:=rfl
theorem zcg(id:Nat):wpC cx (.seq (.exit id) rest) Q e h=Q (.exit id) e h:=rfl
theorem zch(l:Nat):wpC cx (.seq (.goto l) rest) Q e h=Q (.goto l) e h:=rfl
theorem zak(l:Nat):wpC cx (.seq (.label l) rest) Q e h=wpC cx rest Q e h:=rfl
theorem zci(c:C):wpC cx (.seq (.loop c) rest) Q e h=zQ cx (.loop c) (zfW cx rest Q) e h:=rfl
theorem zal(c:C):wpC cx (.seq (.scope c) rest) Q e h=zQ cx (.scope c) (zfW cx rest Q) e h:=rfl
theorem zaj(id:Nat)(c:C):wpC cx (.seq (.block id c) rest) Q e h=wpC cx c (zcE cx id rest Q) e h:=rfl
theorem zeS(a b:C):wpC cx (.seq (.seq a b) rest) Q e h=wpC cx (.seq a (.seq b rest)) Q e h:=by
 show wpC cx a (kH (fun e h=>wpC cx b (kH (fun e h=>wpC cx rest Q e h) Q) e h) (kH (fun e h=>wpC cx rest Q e h) Q)) e h=wpC cx a (kH (fun e h=>wpC cx b (kH (fun e h=>wpC cx rest Q e h) Q) e h) Q) e h
 congr 1
 funext x e h
 cases x<;>rfl
theorem zcf(x:X)(a b:C):wpC cx (.seq (.cond x a b) rest) Q e h=
 ((val e x).gok=true∧(asB (zd e x)).2=true∧((asB (zd e x)).1=true→wpC cx (.seq a rest) Q e h)∧((asB (zd e x)).1=false→wpC cx (.seq b rest) Q e h)):=rfl
theorem zpu(x:X)(a b:C):wpC cx (.cond x a b) Q e h=
 ((val e x).gok=true∧(asB (zd e x)).2=true∧((asB (zd e x)).1=true→wpC cx a Q e h)∧((asB (zd e x)).1=false→wpC cx b Q e h)):=rfl
theorem zdK:zfW cx rest Q .normal e h=wpC cx rest Q e h:=rfl
theorem zi0(i:Nat):zfW cx rest Q (.exit i) e h=Q (.exit i) e h:=rfl
theorem zi1(i:Nat):zfW cx rest Q (.goto i) e h=Q (.goto i) e h:=rfl
theorem znl:zfW cx rest Q .ret e h=Q .ret e h:=rfl
theorem zcF(id:Nat):zcE cx id rest Q .normal e h=wpC cx rest Q e h:=rfl
theorem zh0(id i:Nat):zcE cx id rest Q (.exit i) e h=if i=id then wpC cx rest Q e h else Q (.exit i) e h:=rfl
theorem zh1(id i:Nat):zcE cx id rest Q (.goto i) e h=Q (.goto i) e h:=rfl
theorem zlB(id:Nat):zcE cx id rest Q .ret e h=Q .ret e h:=rfl
theorem zdL(K:(Nat→V)→Heap→Prop):kH K Q .normal e h=K e h:=rfl
theorem zi2(K:(Nat→V)→Heap→Prop)(i:Nat):kH K Q (.exit i) e h=Q (.exit i) e h:=rfl
theorem zi3(K:(Nat→V)→Heap→Prop)(i:Nat):kH K Q (.goto i) e h=Q (.goto i) e h:=rfl
theorem znm(K:(Nat→V)→Heap→Prop):kH K Q .ret e h=Q .ret e h:=rfl
theorem zfE(l i:Nat)(J:(Nat→V)→Heap→Prop):Yk l J Q (.goto i) e h=(i=l∧J e h):=rfl
theorem zbn(l:Nat)(J:(Nat→V)→Heap→Prop):Yk l J Q .normal e h=Q .normal e h:=rfl
theorem zfD(l i:Nat)(J:(Nat→V)→Heap→Prop):Yk l J Q (.exit i) e h=Q (.exit i) e h:=rfl
theorem ziD(l:Nat)(J:(Nat→V)→Heap→Prop):Yk l J Q .ret e h=Q .ret e h:=rfl
theorem znb(rs:List RV)(K:V→Heap→Prop):zbx rs K .ret e h=(rs.all (J1 e h)=true∧K (JZ rs e h) h):=rfl
theorem zdE(rs:List RV)(K:V→Heap→Prop):zbx rs K .normal e h=(rs.all (J1 e h)=true∧K (JZ rs e h) h):=rfl
theorem zty:wpR cx [] rest Q e h=wpC cx rest Q e h:=rfl
theorem zqn(d:Option Nat)(q:X×X×X)(r:List AOp):wpR cx (⟨d,none,some q,.mov (.k (.tuple #[]))⟩::r) rest Q e h=(okP (some q) (.mov (.k (.tuple #[]))) e h=true∧wpR cx r rest Q (zj e d (vP (some q) (.mov (.k (.tuple #[]))) e h)) h):=rfl
theorem zpY(d:Option Nat)(f:FuncId)(xs:List X)(r:List AOp):wpR cx (⟨d,none,none,.call f xs⟩::r) rest Q e h=
 (z9 e xs=true∧cx.T.pre f (xs.map (zd e)) h∧wpR cx r rest Q (zj e d (cx.T.v f (xs.map (zd e)) h)) (cx.T.hp f (xs.map (zd e)) h)):=rfl
theorem zla(d:Option Nat)(x:X)(xs:List X)(r:List AOp):wpR cx (⟨d,none,none,.callv x xs⟩::r) rest Q e h=
 (z9 e (x::xs)=true∧(zd e x).isFn=true∧cx.T.pre (zd e x).fnId (xs.map (zd e)++(zd e x).caps) h∧wpR cx r rest Q (zj e d (cx.T.v (zd e x).fnId (xs.map (zd e)++(zd e x).caps) h)) (cx.T.hp (zd e x).fnId (xs.map (zd e)++(zd e x).caps) h)):=rfl
theorem zli(d:Option Nat)(t:Nat)(want:Bool)(q:X×X×X)(r:List AOp):wpR cx (⟨d,some (t,want),some q,.mov (.k (.tuple #[]))⟩::r) rest Q e h=
 (((e t).gok=true→(asB (e t).un).2=true)∧(enB (e t) want=true→okP (some q) (.mov (.k (.tuple #[]))) e h=true)∧wpR cx r rest Q (zj e d (.gd (enB (e t) want) (vP (some q) (.mov (.k (.tuple #[]))) e h))) h):=rfl
theorem zb(d:Option Nat)(t:Nat)(want:Bool)(f:FuncId)(xs:List X)(r:List AOp):wpR cx (⟨d,some (t,want),none,.call f xs⟩::r) rest Q e h=
 (((e t).gok=true→(asB (e t).un).2=true)∧if cx.T.flat f=true then(enB (e t) want=true→z9 e xs=true∧cx.T.qpre f (xs.map (zd e)) h)∧wpR cx r rest Q (zj e d (.gd (enB (e t) want) (.c (cx.T.qv f (xs.map (zd e)) h)))) h
   else(enB (e t) want=true→z9 e xs=true∧cx.T.pre f (xs.map (zd e)) h∧wpR cx r rest Q (zj e d (cx.T.v f (xs.map (zd e)) h)) (cx.T.hp f (xs.map (zd e)) h))∧(enB (e t) want=false→wpR cx r rest Q (zj e d (.c undef)) h)):=rfl
theorem zg0(d:Option Nat)(t:Nat)(want:Bool)(x:X)(xs:List X)(r:List AOp):wpR cx (⟨d,some (t,want),none,.callv x xs⟩::r) rest Q e h=
 (((e t).gok=true→(asB (e t).un).2=true)∧(enB (e t) want=true→z9 e (x::xs)=true∧(zd e x).isFn=true∧cx.T.qpre (zd e x).fnId (xs.map (zd e)++(zd e x).caps) h)∧wpR cx r rest Q (zj e d (.gd (enB (e t) want) (.c (cx.T.qv (zd e x).fnId (xs.map (zd e)++(zd e x).caps) h)))) h):=rfl
theorem zpW:zw cx [] rest Q e h=wpC cx rest Q e h:=rfl
theorem zk8(d:Option Nat)(q:X×X×X)(r:List AOp):zw cx (⟨d,none,some q,.mov (.k (.tuple #[]))⟩::r) rest Q e h=(okP (some q) (.mov (.k (.tuple #[]))) e h=true∧zw cx r rest Q (zj e d (vP (some q) (.mov (.k (.tuple #[]))) e h)) h):=rfl
theorem zkP(d:Option Nat)(f:FuncId)(xs:List X)(r:List AOp):zw cx (⟨d,none,none,.call f xs⟩::r) rest Q e h=
 (z9 e xs=true∧cx.T.qpre f (xs.map (zd e)) h∧zw cx r rest Q (zj e d (.c (cx.T.qv f (xs.map (zd e)) h))) h):=rfl
theorem zgM(d:Option Nat)(x:X)(xs:List X)(r:List AOp):zw cx (⟨d,none,none,.callv x xs⟩::r) rest Q e h=
 (z9 e (x::xs)=true∧(zd e x).isFn=true∧cx.T.qpre (zd e x).fnId (xs.map (zd e)++(zd e x).caps) h∧zw cx r rest Q (zj e d (.c (cx.T.qv (zd e x).fnId (xs.map (zd e)++(zd e x).caps) h))) h):=rfl
theorem zgV(d:Option Nat)(t:Nat)(want:Bool)(q:X×X×X)(r:List AOp):zw cx (⟨d,some (t,want),some q,.mov (.k (.tuple #[]))⟩::r) rest Q e h=
 (((e t).gok=true→(asB (e t).un).2=true)∧(enB (e t) want=true→okP (some q) (.mov (.k (.tuple #[]))) e h=true)∧zw cx r rest Q (zj e d (.gd (enB (e t) want) (vP (some q) (.mov (.k (.tuple #[]))) e h))) h):=rfl
theorem zgO(d:Option Nat)(t:Nat)(want:Bool)(f:FuncId)(xs:List X)(r:List AOp):zw cx (⟨d,some (t,want),none,.call f xs⟩::r) rest Q e h=
 (((e t).gok=true→(asB (e t).un).2=true)∧(enB (e t) want=true→z9 e xs=true∧cx.T.qpre f (xs.map (zd e)) h)∧zw cx r rest Q (zj e d (.gd (enB (e t) want) (.c (cx.T.qv f (xs.map (zd e)) h)))) h):=rfl
theorem zeW(d:Option Nat)(t:Nat)(want:Bool)(x:X)(xs:List X)(r:List AOp):zw cx (⟨d,some (t,want),none,.callv x xs⟩::r) rest Q e h=
 (((e t).gok=true→(asB (e t).un).2=true)∧(enB (e t) want=true→z9 e (x::xs)=true∧(zd e x).isFn=true∧cx.T.qpre (zd e x).fnId (xs.map (zd e)++(zd e x).caps) h)∧zw cx r rest Q (zj e d (.gd (enB (e t) want) (.c (cx.T.qv (zd e x).fnId (xs.map (zd e)++(zd e x).caps) h)))) h):=rfl
end
section
variable (cx:Cx) (Q:z6) (e e0:Nat→V) (h:Heap) (rest:C) (tl r:List AOp) (bx:Option AOp)
theorem zpF:zpE cx [] tl rest Q e h=wpR cx tl rest Q e h:=rfl
theorem zkN(b:AOp):zpE cx (b::r) tl rest Q e h=(yL cx.T b e h∧zpE cx r tl rest Q (zj e b.dst (zU cx.T b e h)) h):=rfl
theorem zpH(m:MR):zpG cx m [] tl rest Q e0 e h=wpR cx tl rest Q (m.fin e0 e) h:=rfl
theorem zkO(m:MR)(b:AOp):zpG cx m (b::r) tl rest Q e0 e h=(yL cx.T b e h∧zpG cx m r tl rest Q e0 (zj e b.dst (zU cx.T b e h)) h):=rfl
theorem zvs(N d:Nat)(ks:List (Value×Nat))(bs:List AOp)(t:Nat):MR.fin ⟨N,d,ks,bs⟩ e0 e t=if t=d then .mp (ks.map fun p=>p.1) (ks.map fun p=>e p.2)else if N≤t then .c undef else e t:=rfl
theorem zeT:zpD cx [] bx tl rest Q e0 e h=(Jt bx e0 h=true∧wpR cx tl rest Q (zcG bx e h) (QM bx e0 h)):=rfl
theorem za2(b:AOp):zpD cx (b::r) bx tl rest Q e0 e h=(yL cx.T b e h∧yL cx.T b e (QM bx e0 h)∧zU cx.T b e (QM bx e0 h)=zU cx.T b e h∧zpD cx r bx tl rest Q e0 (zj e b.dst (zU cx.T b e h)) h):=rfl
end
theorem ziS(e:Nat→V)(d:Nat)(v:V):zj e (some d) v=upd e d v:=rfl
theorem ziR(e:Nat→V)(v:V):zj e none v=e:=rfl
theorem zr(e:Nat→V)(d i:Nat)(v:V):upd e d v i=if i=d then v else e i:=rfl
theorem zxo(e:Nat→V)(n:Nat):val e (.t n)=e n:=rfl
theorem zxn(e:Nat→V)(v:Value):val e (.k v)= .c v:=rfl
theorem zxm(e:Nat→V)(n:FuncId):val e (.f n)= .fn n []:=rfl
theorem zwk(e:Nat→V)(n:Nat):zd e (.t n)=(e n).un:=rfl
theorem zwj(e:Nat→V)(v:Value):zd e (.k v)= .c v:=rfl
theorem zwi(e:Nat→V)(n:FuncId):zd e (.f n)= .fn n []:=rfl
theorem zyk(v:Value):(V.c v).un= .c v:=rfl
theorem zwc(v:List V):(V.agg v).un= .agg v:=rfl
theorem zwg(v:List V):(V.tup v).un= .tup v:=rfl
theorem zwf(s:Nat)(v:List (List V)):(V.slc s v).un= .slc s v:=rfl
theorem zxk(v:List V):(V.pp v).un= .pp v:=rfl
theorem zxj(a:List Value)(b:List V):(V.mp a b).un= .mp a b:=rfl
theorem zvx(a:List Value)(b:List V):(V.mp a b).gok=true:=rfl
theorem zwe(a b c d:Nat):(V.ref a b c d).un= .ref a b c d:=rfl
theorem zwd(a b c d:Nat):(V.ptr a b c d).un= .ptr a b c d:=rfl
theorem zxh(f:FuncId)(v:List V):(V.fn f v).un= .fn f v:=rfl
theorem zxi(b:Bool)(v:V):(V.gd b v).un=v.un:=rfl
theorem zwT(v:Value):(V.c v).gok=true:=rfl
theorem zrQ(v:List V):(V.agg v).gok=true:=rfl
theorem zrU(v:List V):(V.tup v).gok=true:=rfl
theorem zrT(s:Nat)(v:List (List V)):(V.slc s v).gok=true:=rfl
theorem zvy(v:List V):(V.pp v).gok=true:=rfl
theorem zrS(a b c d:Nat):(V.ref a b c d).gok=true:=rfl
theorem zrR(a b c d:Nat):(V.ptr a b c d).gok=true:=rfl
theorem zvv(f:FuncId)(v:List V):(V.fn f v).gok=true:=rfl
theorem zvw(b:Bool)(v:V):(V.gd b v).gok=(b&&v.gok):=rfl
theorem X5(o:O)(e:Nat→V)(h:Heap):okP none o e h=((o.xs.all fun x=>(val e x).gok)&&(evP o (zd e) h).2):=rfl
theorem zcc(o:O)(e:Nat→V)(h:Heap):vP none o e h=(evP o (zd e) h).1:=rfl
theorem zmR(c a b:X)(o:O)(e:Nat→V)(h:Heap):okP (some (c,a,b)) o e h=((val e c).gok&&(asB (zd e c)).2&&cond (asB (zd e c)).1 ((val e a).gok&&(asB (zd e a)).2) ((val e b).gok&&(asB (zd e b)).2)):=rfl
theorem zs6(c a b:X)(o:O)(e:Nat→V)(h:Heap):vP (some (c,a,b)) o e h= .c (.bool (cond (asB (zd e c)).1 (asB (zd e a)).1 (asB (zd e b)).1)):=rfl
theorem zwA(b:Bool):asB (.c (.bool b))=(b,true):=rfl
theorem zwB(k:IntKind)(n:Int):asI (.c (.int k n))=(n,true):=rfl
theorem zwN(b want:Bool):enB (.c (.bool b)) want=(b==want):=by simp[enB,V.gok,V.un,asB]
theorem zvh(g b want:Bool):enB (.gd g (.c (.bool b))) want=(g&&(b==want)):=by simp[enB,V.gok,V.un,asB]
theorem zv(args:List V)(i:Nat):Yj args i=args.getD i (.c undef):=rfl
end Go.Sx
end
section
namespace Go.Sx
section
variable (cx:Cx) (Q:z6) (e:Nat→V) (h:Heap) (rest:C)
theorem ztx(d:Option Nat)(r:List AOp)(x:X):wpR cx (⟨d,none,none,.mov x⟩::r) rest Q e h=((((O.mov x).xs.all fun x=>(val e x).gok)&&(evP (.mov x) (zd e) h).2)=true∧wpR cx r rest Q (zj e d (evP (.mov x) (zd e) h).1) h):=rfl
theorem zqd(d:Option Nat)(t:Nat)(want:Bool)(r:List AOp)(x:X):wpR cx (⟨d,some (t,want),none,.mov x⟩::r) rest Q e h=(((e t).gok=true→(asB (e t).un).2=true)∧(enB (e t) want=true→(((O.mov x).xs.all fun x=>(val e x).gok)&&(evP (.mov x) (zd e) h).2)=true)∧wpR cx r rest Q (zj e d (.gd (enB (e t) want) (evP (.mov x) (zd e) h).1)) h):=rfl
theorem zpV(d:Option Nat)(r:List AOp)(x:X):zw cx (⟨d,none,none,.mov x⟩::r) rest Q e h=((((O.mov x).xs.all fun x=>(val e x).gok)&&(evP (.mov x) (zd e) h).2)=true∧zw cx r rest Q (zj e d (evP (.mov x) (zd e) h).1) h):=rfl
theorem zk1(d:Option Nat)(t:Nat)(want:Bool)(r:List AOp)(x:X):zw cx (⟨d,some (t,want),none,.mov x⟩::r) rest Q e h=(((e t).gok=true→(asB (e t).un).2=true)∧(enB (e t) want=true→(((O.mov x).xs.all fun x=>(val e x).gok)&&(evP (.mov x) (zd e) h).2)=true)∧zw cx r rest Q (zj e d (.gd (enB (e t) want) (evP (.mov x) (zd e) h).1)) h):=rfl
theorem zql(d:Option Nat)(r:List AOp)(kd:Nat)(zero:Value)(two:Bool)(x k:X):wpR cx (⟨d,none,none,.mget kd zero two x k⟩::r) rest Q e h=((((O.mget kd zero two x k).xs.all fun x=>(val e x).gok)&&(evP (.mget kd zero two x k) (zd e) h).2)=true∧wpR cx r rest Q (zj e d (evP (.mget kd zero two x k) (zd e) h).1) h):=rfl
theorem zlg(d:Option Nat)(t:Nat)(want:Bool)(r:List AOp)(kd:Nat)(zero:Value)(two:Bool)(x k:X):wpR cx (⟨d,some (t,want),none,.mget kd zero two x k⟩::r) rest Q e h=(((e t).gok=true→(asB (e t).un).2=true)∧(enB (e t) want=true→(((O.mget kd zero two x k).xs.all fun x=>(val e x).gok)&&(evP (.mget kd zero two x k) (zd e) h).2)=true)∧wpR cx r rest Q (zj e d (.gd (enB (e t) want) (evP (.mget kd zero two x k) (zd e) h).1)) h):=rfl
theorem zk6(d:Option Nat)(r:List AOp)(kd:Nat)(zero:Value)(two:Bool)(x k:X):zw cx (⟨d,none,none,.mget kd zero two x k⟩::r) rest Q e h=((((O.mget kd zero two x k).xs.all fun x=>(val e x).gok)&&(evP (.mget kd zero two x k) (zd e) h).2)=true∧zw cx r rest Q (zj e d (evP (.mget kd zero two x k) (zd e) h).1) h):=rfl
theorem zgT(d:Option Nat)(t:Nat)(want:Bool)(r:List AOp)(kd:Nat)(zero:Value)(two:Bool)(x k:X):zw cx (⟨d,some (t,want),none,.mget kd zero two x k⟩::r) rest Q e h=(((e t).gok=true→(asB (e t).un).2=true)∧(enB (e t) want=true→(((O.mget kd zero two x k).xs.all fun x=>(val e x).gok)&&(evP (.mget kd zero two x k) (zd e) h).2)=true)∧zw cx r rest Q (zj e d (.gd (enB (e t) want) (evP (.mget kd zero two x k) (zd e) h).1)) h):=rfl
theorem zk9(d:Option Nat)(r:List AOp)(z:List Value)(ps:List (Nat×Option Nat×X)):wpR cx (⟨d,none,none,.build z ps⟩::r) rest Q e h=((((O.build z ps).xs.all fun x=>(val e x).gok)&&(evP (.build z ps) (zd e) h).2)=true∧wpR cx r rest Q (zj e d (evP (.build z ps) (zd e) h).1) h):=rfl
theorem zgZ(d:Option Nat)(t:Nat)(want:Bool)(r:List AOp)(z:List Value)(ps:List (Nat×Option Nat×X)):wpR cx (⟨d,some (t,want),none,.build z ps⟩::r) rest Q e h=(((e t).gok=true→(asB (e t).un).2=true)∧(enB (e t) want=true→(((O.build z ps).xs.all fun x=>(val e x).gok)&&(evP (.build z ps) (zd e) h).2)=true)∧wpR cx r rest Q (zj e d (.gd (enB (e t) want) (evP (.build z ps) (zd e) h).1)) h):=rfl
theorem zgL(d:Option Nat)(r:List AOp)(z:List Value)(ps:List (Nat×Option Nat×X)):zw cx (⟨d,none,none,.build z ps⟩::r) rest Q e h=((((O.build z ps).xs.all fun x=>(val e x).gok)&&(evP (.build z ps) (zd e) h).2)=true∧zw cx r rest Q (zj e d (evP (.build z ps) (zd e) h).1) h):=rfl
theorem zeV(d:Option Nat)(t:Nat)(want:Bool)(r:List AOp)(z:List Value)(ps:List (Nat×Option Nat×X)):zw cx (⟨d,some (t,want),none,.build z ps⟩::r) rest Q e h=(((e t).gok=true→(asB (e t).un).2=true)∧(enB (e t) want=true→(((O.build z ps).xs.all fun x=>(val e x).gok)&&(evP (.build z ps) (zd e) h).2)=true)∧zw cx r rest Q (zj e d (.gd (enB (e t) want) (evP (.build z ps) (zd e) h).1)) h):=rfl
theorem zqk(d:Option Nat)(r:List AOp)(n:Option Nat)(x:X):wpR cx (⟨d,none,none,.load n x⟩::r) rest Q e h=((((O.load n x).xs.all fun x=>(val e x).gok)&&(evP (.load n x) (zd e) h).2)=true∧wpR cx r rest Q (zj e d (evP (.load n x) (zd e) h).1) h):=rfl
theorem zlf(d:Option Nat)(t:Nat)(want:Bool)(r:List AOp)(n:Option Nat)(x:X):wpR cx (⟨d,some (t,want),none,.load n x⟩::r) rest Q e h=(((e t).gok=true→(asB (e t).un).2=true)∧(enB (e t) want=true→(((O.load n x).xs.all fun x=>(val e x).gok)&&(evP (.load n x) (zd e) h).2)=true)∧wpR cx r rest Q (zj e d (.gd (enB (e t) want) (evP (.load n x) (zd e) h).1)) h):=rfl
theorem zk5(d:Option Nat)(r:List AOp)(n:Option Nat)(x:X):zw cx (⟨d,none,none,.load n x⟩::r) rest Q e h=((((O.load n x).xs.all fun x=>(val e x).gok)&&(evP (.load n x) (zd e) h).2)=true∧zw cx r rest Q (zj e d (evP (.load n x) (zd e) h).1) h):=rfl
theorem zgS(d:Option Nat)(t:Nat)(want:Bool)(r:List AOp)(n:Option Nat)(x:X):zw cx (⟨d,some (t,want),none,.load n x⟩::r) rest Q e h=(((e t).gok=true→(asB (e t).un).2=true)∧(enB (e t) want=true→(((O.load n x).xs.all fun x=>(val e x).gok)&&(evP (.load n x) (zd e) h).2)=true)∧zw cx r rest Q (zj e d (.gd (enB (e t) want) (evP (.load n x) (zd e) h).1)) h):=rfl
theorem ztk(d:Option Nat)(r:List AOp)(x:X):wpR cx (⟨d,none,none,.chk x⟩::r) rest Q e h=((((O.chk x).xs.all fun x=>(val e x).gok)&&(evP (.chk x) (zd e) h).2)=true∧wpR cx r rest Q (zj e d (evP (.chk x) (zd e) h).1) h):=rfl
theorem zp2(d:Option Nat)(t:Nat)(want:Bool)(r:List AOp)(x:X):wpR cx (⟨d,some (t,want),none,.chk x⟩::r) rest Q e h=(((e t).gok=true→(asB (e t).un).2=true)∧(enB (e t) want=true→(((O.chk x).xs.all fun x=>(val e x).gok)&&(evP (.chk x) (zd e) h).2)=true)∧wpR cx r rest Q (zj e d (.gd (enB (e t) want) (evP (.chk x) (zd e) h).1)) h):=rfl
theorem zpK(d:Option Nat)(r:List AOp)(x:X):zw cx (⟨d,none,none,.chk x⟩::r) rest Q e h=((((O.chk x).xs.all fun x=>(val e x).gok)&&(evP (.chk x) (zd e) h).2)=true∧zw cx r rest Q (zj e d (evP (.chk x) (zd e) h).1) h):=rfl
theorem zkS(d:Option Nat)(t:Nat)(want:Bool)(r:List AOp)(x:X):zw cx (⟨d,some (t,want),none,.chk x⟩::r) rest Q e h=(((e t).gok=true→(asB (e t).un).2=true)∧(enB (e t) want=true→(((O.chk x).xs.all fun x=>(val e x).gok)&&(evP (.chk x) (zd e) h).2)=true)∧zw cx r rest Q (zj e d (.gd (enB (e t) want) (evP (.chk x) (zd e) h).1)) h):=rfl
theorem zth(d:Option Nat)(r:List AOp)(op:BinOp)(x y:X):wpR cx (⟨d,none,none,.bin op x y⟩::r) rest Q e h=((((O.bin op x y).xs.all fun x=>(val e x).gok)&&(evP (.bin op x y) (zd e) h).2)=true∧wpR cx r rest Q (zj e d (evP (.bin op x y) (zd e) h).1) h):=rfl
theorem zpZ(d:Option Nat)(t:Nat)(want:Bool)(r:List AOp)(op:BinOp)(x y:X):wpR cx (⟨d,some (t,want),none,.bin op x y⟩::r) rest Q e h=(((e t).gok=true→(asB (e t).un).2=true)∧(enB (e t) want=true→(((O.bin op x y).xs.all fun x=>(val e x).gok)&&(evP (.bin op x y) (zd e) h).2)=true)∧wpR cx r rest Q (zj e d (.gd (enB (e t) want) (evP (.bin op x y) (zd e) h).1)) h):=rfl
theorem zpI(d:Option Nat)(r:List AOp)(op:BinOp)(x y:X):zw cx (⟨d,none,none,.bin op x y⟩::r) rest Q e h=((((O.bin op x y).xs.all fun x=>(val e x).gok)&&(evP (.bin op x y) (zd e) h).2)=true∧zw cx r rest Q (zj e d (evP (.bin op x y) (zd e) h).1) h):=rfl
theorem zkQ(d:Option Nat)(t:Nat)(want:Bool)(r:List AOp)(op:BinOp)(x y:X):zw cx (⟨d,some (t,want),none,.bin op x y⟩::r) rest Q e h=(((e t).gok=true→(asB (e t).un).2=true)∧(enB (e t) want=true→(((O.bin op x y).xs.all fun x=>(val e x).gok)&&(evP (.bin op x y) (zd e) h).2)=true)∧zw cx r rest Q (zj e d (.gd (enB (e t) want) (evP (.bin op x y) (zd e) h).1)) h):=rfl
theorem ztp(d:Option Nat)(r:List AOp)(b:Bool)(x y:X):wpR cx (⟨d,none,none,.eqb b x y⟩::r) rest Q e h=((((O.eqb b x y).xs.all fun x=>(val e x).gok)&&(evP (.eqb b x y) (zd e) h).2)=true∧wpR cx r rest Q (zj e d (evP (.eqb b x y) (zd e) h).1) h):=rfl
theorem zp7(d:Option Nat)(t:Nat)(want:Bool)(r:List AOp)(b:Bool)(x y:X):wpR cx (⟨d,some (t,want),none,.eqb b x y⟩::r) rest Q e h=(((e t).gok=true→(asB (e t).un).2=true)∧(enB (e t) want=true→(((O.eqb b x y).xs.all fun x=>(val e x).gok)&&(evP (.eqb b x y) (zd e) h).2)=true)∧wpR cx r rest Q (zj e d (.gd (enB (e t) want) (evP (.eqb b x y) (zd e) h).1)) h):=rfl
theorem zpN(d:Option Nat)(r:List AOp)(b:Bool)(x y:X):zw cx (⟨d,none,none,.eqb b x y⟩::r) rest Q e h=((((O.eqb b x y).xs.all fun x=>(val e x).gok)&&(evP (.eqb b x y) (zd e) h).2)=true∧zw cx r rest Q (zj e d (evP (.eqb b x y) (zd e) h).1) h):=rfl
theorem zkV(d:Option Nat)(t:Nat)(want:Bool)(r:List AOp)(b:Bool)(x y:X):zw cx (⟨d,some (t,want),none,.eqb b x y⟩::r) rest Q e h=(((e t).gok=true→(asB (e t).un).2=true)∧(enB (e t) want=true→(((O.eqb b x y).xs.all fun x=>(val e x).gok)&&(evP (.eqb b x y) (zd e) h).2)=true)∧zw cx r rest Q (zj e d (.gd (enB (e t) want) (evP (.eqb b x y) (zd e) h).1)) h):=rfl
theorem ztq(d:Option Nat)(r:List AOp)(b:Bool)(n:List Nat)(x y:X):wpR cx (⟨d,none,none,.eqc b n x y⟩::r) rest Q e h=((((O.eqc b n x y).xs.all fun x=>(val e x).gok)&&(evP (.eqc b n x y) (zd e) h).2)=true∧wpR cx r rest Q (zj e d (evP (.eqc b n x y) (zd e) h).1) h):=rfl
theorem zp8(d:Option Nat)(t:Nat)(want:Bool)(r:List AOp)(b:Bool)(n:List Nat)(x y:X):wpR cx (⟨d,some (t,want),none,.eqc b n x y⟩::r) rest Q e h=(((e t).gok=true→(asB (e t).un).2=true)∧(enB (e t) want=true→(((O.eqc b n x y).xs.all fun x=>(val e x).gok)&&(evP (.eqc b n x y) (zd e) h).2)=true)∧wpR cx r rest Q (zj e d (.gd (enB (e t) want) (evP (.eqc b n x y) (zd e) h).1)) h):=rfl
theorem zpO(d:Option Nat)(r:List AOp)(b:Bool)(n:List Nat)(x y:X):zw cx (⟨d,none,none,.eqc b n x y⟩::r) rest Q e h=((((O.eqc b n x y).xs.all fun x=>(val e x).gok)&&(evP (.eqc b n x y) (zd e) h).2)=true∧zw cx r rest Q (zj e d (evP (.eqc b n x y) (zd e) h).1) h):=rfl
theorem zkW(d:Option Nat)(t:Nat)(want:Bool)(r:List AOp)(b:Bool)(n:List Nat)(x y:X):zw cx (⟨d,some (t,want),none,.eqc b n x y⟩::r) rest Q e h=(((e t).gok=true→(asB (e t).un).2=true)∧(enB (e t) want=true→(((O.eqc b n x y).xs.all fun x=>(val e x).gok)&&(evP (.eqc b n x y) (zd e) h).2)=true)∧zw cx r rest Q (zj e d (.gd (enB (e t) want) (evP (.eqc b n x y) (zd e) h).1)) h):=rfl
theorem ztr(d:Option Nat)(r:List AOp)(b:Bool)(x:X):wpR cx (⟨d,none,none,.eqn b x⟩::r) rest Q e h=((((O.eqn b x).xs.all fun x=>(val e x).gok)&&(evP (.eqn b x) (zd e) h).2)=true∧wpR cx r rest Q (zj e d (evP (.eqn b x) (zd e) h).1) h):=rfl
theorem zp9(d:Option Nat)(t:Nat)(want:Bool)(r:List AOp)(b:Bool)(x:X):wpR cx (⟨d,some (t,want),none,.eqn b x⟩::r) rest Q e h=(((e t).gok=true→(asB (e t).un).2=true)∧(enB (e t) want=true→(((O.eqn b x).xs.all fun x=>(val e x).gok)&&(evP (.eqn b x) (zd e) h).2)=true)∧wpR cx r rest Q (zj e d (.gd (enB (e t) want) (evP (.eqn b x) (zd e) h).1)) h):=rfl
theorem zpP(d:Option Nat)(r:List AOp)(b:Bool)(x:X):zw cx (⟨d,none,none,.eqn b x⟩::r) rest Q e h=((((O.eqn b x).xs.all fun x=>(val e x).gok)&&(evP (.eqn b x) (zd e) h).2)=true∧zw cx r rest Q (zj e d (evP (.eqn b x) (zd e) h).1) h):=rfl
theorem zkX(d:Option Nat)(t:Nat)(want:Bool)(r:List AOp)(b:Bool)(x:X):zw cx (⟨d,some (t,want),none,.eqn b x⟩::r) rest Q e h=(((e t).gok=true→(asB (e t).un).2=true)∧(enB (e t) want=true→(((O.eqn b x).xs.all fun x=>(val e x).gok)&&(evP (.eqn b x) (zd e) h).2)=true)∧zw cx r rest Q (zj e d (.gd (enB (e t) want) (evP (.eqn b x) (zd e) h).1)) h):=rfl
theorem ztv(d:Option Nat)(r:List AOp)(b:Bool)(x:X):wpR cx (⟨d,none,none,.isn b x⟩::r) rest Q e h=((((O.isn b x).xs.all fun x=>(val e x).gok)&&(evP (.isn b x) (zd e) h).2)=true∧wpR cx r rest Q (zj e d (evP (.isn b x) (zd e) h).1) h):=rfl
theorem zqb(d:Option Nat)(t:Nat)(want:Bool)(r:List AOp)(b:Bool)(x:X):wpR cx (⟨d,some (t,want),none,.isn b x⟩::r) rest Q e h=(((e t).gok=true→(asB (e t).un).2=true)∧(enB (e t) want=true→(((O.isn b x).xs.all fun x=>(val e x).gok)&&(evP (.isn b x) (zd e) h).2)=true)∧wpR cx r rest Q (zj e d (.gd (enB (e t) want) (evP (.isn b x) (zd e) h).1)) h):=rfl
theorem zpT(d:Option Nat)(r:List AOp)(b:Bool)(x:X):zw cx (⟨d,none,none,.isn b x⟩::r) rest Q e h=((((O.isn b x).xs.all fun x=>(val e x).gok)&&(evP (.isn b x) (zd e) h).2)=true∧zw cx r rest Q (zj e d (evP (.isn b x) (zd e) h).1) h):=rfl
theorem zkZ(d:Option Nat)(t:Nat)(want:Bool)(r:List AOp)(b:Bool)(x:X):zw cx (⟨d,some (t,want),none,.isn b x⟩::r) rest Q e h=(((e t).gok=true→(asB (e t).un).2=true)∧(enB (e t) want=true→(((O.isn b x).xs.all fun x=>(val e x).gok)&&(evP (.isn b x) (zd e) h).2)=true)∧zw cx r rest Q (zj e d (.gd (enB (e t) want) (evP (.isn b x) (zd e) h).1)) h):=rfl
theorem zww(d:Option Nat)(r:List AOp)(op:UnOp)(x:X):wpR cx (⟨d,none,none,.un op x⟩::r) rest Q e h=((((O.un op x).xs.all fun x=>(val e x).gok)&&(evP (.un op x) (zd e) h).2)=true∧wpR cx r rest Q (zj e d (evP (.un op x) (zd e) h).1) h):=rfl
theorem ztu(d:Option Nat)(t:Nat)(want:Bool)(r:List AOp)(op:UnOp)(x:X):wpR cx (⟨d,some (t,want),none,.un op x⟩::r) rest Q e h=(((e t).gok=true→(asB (e t).un).2=true)∧(enB (e t) want=true→(((O.un op x).xs.all fun x=>(val e x).gok)&&(evP (.un op x) (zd e) h).2)=true)∧wpR cx r rest Q (zj e d (.gd (enB (e t) want) (evP (.un op x) (zd e) h).1)) h):=rfl
theorem ztg(d:Option Nat)(r:List AOp)(op:UnOp)(x:X):zw cx (⟨d,none,none,.un op x⟩::r) rest Q e h=((((O.un op x).xs.all fun x=>(val e x).gok)&&(evP (.un op x) (zd e) h).2)=true∧zw cx r rest Q (zj e d (evP (.un op x) (zd e) h).1) h):=rfl
theorem zpS(d:Option Nat)(t:Nat)(want:Bool)(r:List AOp)(op:UnOp)(x:X):zw cx (⟨d,some (t,want),none,.un op x⟩::r) rest Q e h=(((e t).gok=true→(asB (e t).un).2=true)∧(enB (e t) want=true→(((O.un op x).xs.all fun x=>(val e x).gok)&&(evP (.un op x) (zd e) h).2)=true)∧zw cx r rest Q (zj e d (.gd (enB (e t) want) (evP (.un op x) (zd e) h).1)) h):=rfl
theorem ztn(d:Option Nat)(r:List AOp)(k:IntKind)(x:X):wpR cx (⟨d,none,none,.cvi k x⟩::r) rest Q e h=((((O.cvi k x).xs.all fun x=>(val e x).gok)&&(evP (.cvi k x) (zd e) h).2)=true∧wpR cx r rest Q (zj e d (evP (.cvi k x) (zd e) h).1) h):=rfl
theorem zp5(d:Option Nat)(t:Nat)(want:Bool)(r:List AOp)(k:IntKind)(x:X):wpR cx (⟨d,some (t,want),none,.cvi k x⟩::r) rest Q e h=(((e t).gok=true→(asB (e t).un).2=true)∧(enB (e t) want=true→(((O.cvi k x).xs.all fun x=>(val e x).gok)&&(evP (.cvi k x) (zd e) h).2)=true)∧wpR cx r rest Q (zj e d (.gd (enB (e t) want) (evP (.cvi k x) (zd e) h).1)) h):=rfl
theorem zpL(d:Option Nat)(r:List AOp)(k:IntKind)(x:X):zw cx (⟨d,none,none,.cvi k x⟩::r) rest Q e h=((((O.cvi k x).xs.all fun x=>(val e x).gok)&&(evP (.cvi k x) (zd e) h).2)=true∧zw cx r rest Q (zj e d (evP (.cvi k x) (zd e) h).1) h):=rfl
theorem zkT(d:Option Nat)(t:Nat)(want:Bool)(r:List AOp)(k:IntKind)(x:X):zw cx (⟨d,some (t,want),none,.cvi k x⟩::r) rest Q e h=(((e t).gok=true→(asB (e t).un).2=true)∧(enB (e t) want=true→(((O.cvi k x).xs.all fun x=>(val e x).gok)&&(evP (.cvi k x) (zd e) h).2)=true)∧zw cx r rest Q (zj e d (.gd (enB (e t) want) (evP (.cvi k x) (zd e) h).1)) h):=rfl
theorem zto(d:Option Nat)(r:List AOp)(x:X):wpR cx (⟨d,none,none,.cvs x⟩::r) rest Q e h=((((O.cvs x).xs.all fun x=>(val e x).gok)&&(evP (.cvs x) (zd e) h).2)=true∧wpR cx r rest Q (zj e d (evP (.cvs x) (zd e) h).1) h):=rfl
theorem zp6(d:Option Nat)(t:Nat)(want:Bool)(r:List AOp)(x:X):wpR cx (⟨d,some (t,want),none,.cvs x⟩::r) rest Q e h=(((e t).gok=true→(asB (e t).un).2=true)∧(enB (e t) want=true→(((O.cvs x).xs.all fun x=>(val e x).gok)&&(evP (.cvs x) (zd e) h).2)=true)∧wpR cx r rest Q (zj e d (.gd (enB (e t) want) (evP (.cvs x) (zd e) h).1)) h):=rfl
theorem zpM(d:Option Nat)(r:List AOp)(x:X):zw cx (⟨d,none,none,.cvs x⟩::r) rest Q e h=((((O.cvs x).xs.all fun x=>(val e x).gok)&&(evP (.cvs x) (zd e) h).2)=true∧zw cx r rest Q (zj e d (evP (.cvs x) (zd e) h).1) h):=rfl
theorem zkU(d:Option Nat)(t:Nat)(want:Bool)(r:List AOp)(x:X):zw cx (⟨d,some (t,want),none,.cvs x⟩::r) rest Q e h=(((e t).gok=true→(asB (e t).un).2=true)∧(enB (e t) want=true→(((O.cvs x).xs.all fun x=>(val e x).gok)&&(evP (.cvs x) (zd e) h).2)=true)∧zw cx r rest Q (zj e d (.gd (enB (e t) want) (evP (.cvs x) (zd e) h).1)) h):=rfl
theorem ztj(d:Option Nat)(r:List AOp)(x:X):wpR cx (⟨d,none,none,.bts x⟩::r) rest Q e h=((((O.bts x).xs.all fun x=>(val e x).gok)&&(evP (.bts x) (zd e) h).2)=true∧wpR cx r rest Q (zj e d (evP (.bts x) (zd e) h).1) h):=rfl
theorem zp1(d:Option Nat)(t:Nat)(want:Bool)(r:List AOp)(x:X):wpR cx (⟨d,some (t,want),none,.bts x⟩::r) rest Q e h=(((e t).gok=true→(asB (e t).un).2=true)∧(enB (e t) want=true→(((O.bts x).xs.all fun x=>(val e x).gok)&&(evP (.bts x) (zd e) h).2)=true)∧wpR cx r rest Q (zj e d (.gd (enB (e t) want) (evP (.bts x) (zd e) h).1)) h):=rfl
theorem zpJ(d:Option Nat)(r:List AOp)(x:X):zw cx (⟨d,none,none,.bts x⟩::r) rest Q e h=((((O.bts x).xs.all fun x=>(val e x).gok)&&(evP (.bts x) (zd e) h).2)=true∧zw cx r rest Q (zj e d (evP (.bts x) (zd e) h).1) h):=rfl
theorem zkR(d:Option Nat)(t:Nat)(want:Bool)(r:List AOp)(x:X):zw cx (⟨d,some (t,want),none,.bts x⟩::r) rest Q e h=(((e t).gok=true→(asB (e t).un).2=true)∧(enB (e t) want=true→(((O.bts x).xs.all fun x=>(val e x).gok)&&(evP (.bts x) (zd e) h).2)=true)∧zw cx r rest Q (zj e d (.gd (enB (e t) want) (evP (.bts x) (zd e) h).1)) h):=rfl
theorem zqm(d:Option Nat)(r:List AOp)(f:FuncId)(xs:List X):wpR cx (⟨d,none,none,.mkfn f xs⟩::r) rest Q e h=((((O.mkfn f xs).xs.all fun x=>(val e x).gok)&&(evP (.mkfn f xs) (zd e) h).2)=true∧wpR cx r rest Q (zj e d (evP (.mkfn f xs) (zd e) h).1) h):=rfl
theorem zlh(d:Option Nat)(t:Nat)(want:Bool)(r:List AOp)(f:FuncId)(xs:List X):wpR cx (⟨d,some (t,want),none,.mkfn f xs⟩::r) rest Q e h=(((e t).gok=true→(asB (e t).un).2=true)∧(enB (e t) want=true→(((O.mkfn f xs).xs.all fun x=>(val e x).gok)&&(evP (.mkfn f xs) (zd e) h).2)=true)∧wpR cx r rest Q (zj e d (.gd (enB (e t) want) (evP (.mkfn f xs) (zd e) h).1)) h):=rfl
theorem zk7(d:Option Nat)(r:List AOp)(f:FuncId)(xs:List X):zw cx (⟨d,none,none,.mkfn f xs⟩::r) rest Q e h=((((O.mkfn f xs).xs.all fun x=>(val e x).gok)&&(evP (.mkfn f xs) (zd e) h).2)=true∧zw cx r rest Q (zj e d (evP (.mkfn f xs) (zd e) h).1) h):=rfl
theorem zgU(d:Option Nat)(t:Nat)(want:Bool)(r:List AOp)(f:FuncId)(xs:List X):zw cx (⟨d,some (t,want),none,.mkfn f xs⟩::r) rest Q e h=(((e t).gok=true→(asB (e t).un).2=true)∧(enB (e t) want=true→(((O.mkfn f xs).xs.all fun x=>(val e x).gok)&&(evP (.mkfn f xs) (zd e) h).2)=true)∧zw cx r rest Q (zj e d (.gd (enB (e t) want) (evP (.mkfn f xs) (zd e) h).1)) h):=rfl
theorem zlj(d:Option Nat)(r:List AOp)(s:Nat)(x:X)(lo hi:Option X):wpR cx (⟨d,none,none,.slice s x lo hi⟩::r) rest Q e h=((((O.slice s x lo hi).xs.all fun x=>(val e x).gok)&&(evP (.slice s x lo hi) (zd e) h).2)=true∧wpR cx r rest Q (zj e d (evP (.slice s x lo hi) (zd e) h).1) h):=rfl
theorem zg2(d:Option Nat)(t:Nat)(want:Bool)(r:List AOp)(s:Nat)(x:X)(lo hi:Option X):wpR cx (⟨d,some (t,want),none,.slice s x lo hi⟩::r) rest Q e h=(((e t).gok=true→(asB (e t).un).2=true)∧(enB (e t) want=true→(((O.slice s x lo hi).xs.all fun x=>(val e x).gok)&&(evP (.slice s x lo hi) (zd e) h).2)=true)∧wpR cx r rest Q (zj e d (.gd (enB (e t) want) (evP (.slice s x lo hi) (zd e) h).1)) h):=rfl
theorem zgW(d:Option Nat)(r:List AOp)(s:Nat)(x:X)(lo hi:Option X):zw cx (⟨d,none,none,.slice s x lo hi⟩::r) rest Q e h=((((O.slice s x lo hi).xs.all fun x=>(val e x).gok)&&(evP (.slice s x lo hi) (zd e) h).2)=true∧zw cx r rest Q (zj e d (evP (.slice s x lo hi) (zd e) h).1) h):=rfl
theorem zeY(d:Option Nat)(t:Nat)(want:Bool)(r:List AOp)(s:Nat)(x:X)(lo hi:Option X):zw cx (⟨d,some (t,want),none,.slice s x lo hi⟩::r) rest Q e h=(((e t).gok=true→(asB (e t).un).2=true)∧(enB (e t) want=true→(((O.slice s x lo hi).xs.all fun x=>(val e x).gok)&&(evP (.slice s x lo hi) (zd e) h).2)=true)∧zw cx r rest Q (zj e d (.gd (enB (e t) want) (evP (.slice s x lo hi) (zd e) h).1)) h):=rfl
theorem zg5(d:Option Nat)(r:List AOp)(x:X)(lo hi:Option X):wpR cx (⟨d,none,none,.sliceS x lo hi⟩::r) rest Q e h=((((O.sliceS x lo hi).xs.all fun x=>(val e x).gok)&&(evP (.sliceS x lo hi) (zd e) h).2)=true∧wpR cx r rest Q (zj e d (evP (.sliceS x lo hi) (zd e) h).1) h):=rfl
theorem ze5(d:Option Nat)(t:Nat)(want:Bool)(r:List AOp)(x:X)(lo hi:Option X):wpR cx (⟨d,some (t,want),none,.sliceS x lo hi⟩::r) rest Q e h=(((e t).gok=true→(asB (e t).un).2=true)∧(enB (e t) want=true→(((O.sliceS x lo hi).xs.all fun x=>(val e x).gok)&&(evP (.sliceS x lo hi) (zd e) h).2)=true)∧wpR cx r rest Q (zj e d (.gd (enB (e t) want) (evP (.sliceS x lo hi) (zd e) h).1)) h):=rfl
theorem ze0(d:Option Nat)(r:List AOp)(x:X)(lo hi:Option X):zw cx (⟨d,none,none,.sliceS x lo hi⟩::r) rest Q e h=((((O.sliceS x lo hi).xs.all fun x=>(val e x).gok)&&(evP (.sliceS x lo hi) (zd e) h).2)=true∧zw cx r rest Q (zj e d (evP (.sliceS x lo hi) (zd e) h).1) h):=rfl
theorem zcr(d:Option Nat)(t:Nat)(want:Bool)(r:List AOp)(x:X)(lo hi:Option X):zw cx (⟨d,some (t,want),none,.sliceS x lo hi⟩::r) rest Q e h=(((e t).gok=true→(asB (e t).un).2=true)∧(enB (e t) want=true→(((O.sliceS x lo hi).xs.all fun x=>(val e x).gok)&&(evP (.sliceS x lo hi) (zd e) h).2)=true)∧zw cx r rest Q (zj e d (.gd (enB (e t) want) (evP (.sliceS x lo hi) (zd e) h).1)) h):=rfl
theorem zg4(d:Option Nat)(r:List AOp)(n s:Nat)(x:X)(lo hi:Option X):wpR cx (⟨d,none,none,.sliceA n s x lo hi⟩::r) rest Q e h=((((O.sliceA n s x lo hi).xs.all fun x=>(val e x).gok)&&(evP (.sliceA n s x lo hi) (zd e) h).2)=true∧wpR cx r rest Q (zj e d (evP (.sliceA n s x lo hi) (zd e) h).1) h):=rfl
theorem ze4(d:Option Nat)(t:Nat)(want:Bool)(r:List AOp)(n s:Nat)(x:X)(lo hi:Option X):wpR cx (⟨d,some (t,want),none,.sliceA n s x lo hi⟩::r) rest Q e h=(((e t).gok=true→(asB (e t).un).2=true)∧(enB (e t) want=true→(((O.sliceA n s x lo hi).xs.all fun x=>(val e x).gok)&&(evP (.sliceA n s x lo hi) (zd e) h).2)=true)∧wpR cx r rest Q (zj e d (.gd (enB (e t) want) (evP (.sliceA n s x lo hi) (zd e) h).1)) h):=rfl
theorem zeZ(d:Option Nat)(r:List AOp)(n s:Nat)(x:X)(lo hi:Option X):zw cx (⟨d,none,none,.sliceA n s x lo hi⟩::r) rest Q e h=((((O.sliceA n s x lo hi).xs.all fun x=>(val e x).gok)&&(evP (.sliceA n s x lo hi) (zd e) h).2)=true∧zw cx r rest Q (zj e d (evP (.sliceA n s x lo hi) (zd e) h).1) h):=rfl
theorem zcq(d:Option Nat)(t:Nat)(want:Bool)(r:List AOp)(n s:Nat)(x:X)(lo hi:Option X):zw cx (⟨d,some (t,want),none,.sliceA n s x lo hi⟩::r) rest Q e h=(((e t).gok=true→(asB (e t).un).2=true)∧(enB (e t) want=true→(((O.sliceA n s x lo hi).xs.all fun x=>(val e x).gok)&&(evP (.sliceA n s x lo hi) (zd e) h).2)=true)∧zw cx r rest Q (zj e d (.gd (enB (e t) want) (evP (.sliceA n s x lo hi) (zd e) h).1)) h):=rfl
theorem zaq(d:Option Nat)(r:List AOp)(n:Nat)(x:X):wpR cx (⟨d,none,none,.fieldAddr n x⟩::r) rest Q e h=((((O.fieldAddr n x).xs.all fun x=>(val e x).gok)&&(evP (.fieldAddr n x) (zd e) h).2)=true∧wpR cx r rest Q (zj e d (evP (.fieldAddr n x) (zd e) h).1) h):=rfl
theorem WR(d:Option Nat)(t:Nat)(want:Bool)(r:List AOp)(n:Nat)(x:X):wpR cx (⟨d,some (t,want),none,.fieldAddr n x⟩::r) rest Q e h=(((e t).gok=true→(asB (e t).un).2=true)∧(enB (e t) want=true→(((O.fieldAddr n x).xs.all fun x=>(val e x).gok)&&(evP (.fieldAddr n x) (zd e) h).2)=true)∧wpR cx r rest Q (zj e d (.gd (enB (e t) want) (evP (.fieldAddr n x) (zd e) h).1)) h):=rfl
theorem WP(d:Option Nat)(r:List AOp)(n:Nat)(x:X):zw cx (⟨d,none,none,.fieldAddr n x⟩::r) rest Q e h=((((O.fieldAddr n x).xs.all fun x=>(val e x).gok)&&(evP (.fieldAddr n x) (zd e) h).2)=true∧zw cx r rest Q (zj e d (evP (.fieldAddr n x) (zd e) h).1) h):=rfl
theorem J6(d:Option Nat)(t:Nat)(want:Bool)(r:List AOp)(n:Nat)(x:X):zw cx (⟨d,some (t,want),none,.fieldAddr n x⟩::r) rest Q e h=(((e t).gok=true→(asB (e t).un).2=true)∧(enB (e t) want=true→(((O.fieldAddr n x).xs.all fun x=>(val e x).gok)&&(evP (.fieldAddr n x) (zd e) h).2)=true)∧zw cx r rest Q (zj e d (.gd (enB (e t) want) (evP (.fieldAddr n x) (zd e) h).1)) h):=rfl
theorem zlb(d:Option Nat)(r:List AOp)(n:Nat)(m:Option Nat)(x:X):wpR cx (⟨d,none,none,.field n m x⟩::r) rest Q e h=((((O.field n m x).xs.all fun x=>(val e x).gok)&&(evP (.field n m x) (zd e) h).2)=true∧wpR cx r rest Q (zj e d (evP (.field n m x) (zd e) h).1) h):=rfl
theorem zg1(d:Option Nat)(t:Nat)(want:Bool)(r:List AOp)(n:Nat)(m:Option Nat)(x:X):wpR cx (⟨d,some (t,want),none,.field n m x⟩::r) rest Q e h=(((e t).gok=true→(asB (e t).un).2=true)∧(enB (e t) want=true→(((O.field n m x).xs.all fun x=>(val e x).gok)&&(evP (.field n m x) (zd e) h).2)=true)∧wpR cx r rest Q (zj e d (.gd (enB (e t) want) (evP (.field n m x) (zd e) h).1)) h):=rfl
theorem zgN(d:Option Nat)(r:List AOp)(n:Nat)(m:Option Nat)(x:X):zw cx (⟨d,none,none,.field n m x⟩::r) rest Q e h=((((O.field n m x).xs.all fun x=>(val e x).gok)&&(evP (.field n m x) (zd e) h).2)=true∧zw cx r rest Q (zj e d (evP (.field n m x) (zd e) h).1) h):=rfl
theorem zeX(d:Option Nat)(t:Nat)(want:Bool)(r:List AOp)(n:Nat)(m:Option Nat)(x:X):zw cx (⟨d,some (t,want),none,.field n m x⟩::r) rest Q e h=(((e t).gok=true→(asB (e t).un).2=true)∧(enB (e t) want=true→(((O.field n m x).xs.all fun x=>(val e x).gok)&&(evP (.field n m x) (zd e) h).2)=true)∧zw cx r rest Q (zj e d (.gd (enB (e t) want) (evP (.field n m x) (zd e) h).1)) h):=rfl
theorem ze6(d:Option Nat)(r:List AOp)(s:Nat)(z:List Value)(x y:X):wpR cx (⟨d,none,none,.idxAddr s z x y⟩::r) rest Q e h=((((O.idxAddr s z x y).xs.all fun x=>(val e x).gok)&&(evP (.idxAddr s z x y) (zd e) h).2)=true∧wpR cx r rest Q (zj e d (evP (.idxAddr s z x y) (zd e) h).1) h):=rfl
theorem zcu(d:Option Nat)(t:Nat)(want:Bool)(r:List AOp)(s:Nat)(z:List Value)(x y:X):wpR cx (⟨d,some (t,want),none,.idxAddr s z x y⟩::r) rest Q e h=(((e t).gok=true→(asB (e t).un).2=true)∧(enB (e t) want=true→(((O.idxAddr s z x y).xs.all fun x=>(val e x).gok)&&(evP (.idxAddr s z x y) (zd e) h).2)=true)∧wpR cx r rest Q (zj e d (.gd (enB (e t) want) (evP (.idxAddr s z x y) (zd e) h).1)) h):=rfl
theorem zcs(d:Option Nat)(r:List AOp)(s:Nat)(z:List Value)(x y:X):zw cx (⟨d,none,none,.idxAddr s z x y⟩::r) rest Q e h=((((O.idxAddr s z x y).xs.all fun x=>(val e x).gok)&&(evP (.idxAddr s z x y) (zd e) h).2)=true∧zw cx r rest Q (zj e d (evP (.idxAddr s z x y) (zd e) h).1) h):=rfl
theorem zao(d:Option Nat)(t:Nat)(want:Bool)(r:List AOp)(s:Nat)(z:List Value)(x y:X):zw cx (⟨d,some (t,want),none,.idxAddr s z x y⟩::r) rest Q e h=(((e t).gok=true→(asB (e t).un).2=true)∧(enB (e t) want=true→(((O.idxAddr s z x y).xs.all fun x=>(val e x).gok)&&(evP (.idxAddr s z x y) (zd e) h).2)=true)∧zw cx r rest Q (zj e d (.gd (enB (e t) want) (evP (.idxAddr s z x y) (zd e) h).1)) h):=rfl
theorem zcw(d:Option Nat)(r:List AOp)(n s:Nat)(x y:X):wpR cx (⟨d,none,none,.idxAddrA n s x y⟩::r) rest Q e h=((((O.idxAddrA n s x y).xs.all fun x=>(val e x).gok)&&(evP (.idxAddrA n s x y) (zd e) h).2)=true∧wpR cx r rest Q (zj e d (evP (.idxAddrA n s x y) (zd e) h).1) h):=rfl
theorem zar(d:Option Nat)(t:Nat)(want:Bool)(r:List AOp)(n s:Nat)(x y:X):wpR cx (⟨d,some (t,want),none,.idxAddrA n s x y⟩::r) rest Q e h=(((e t).gok=true→(asB (e t).un).2=true)∧(enB (e t) want=true→(((O.idxAddrA n s x y).xs.all fun x=>(val e x).gok)&&(evP (.idxAddrA n s x y) (zd e) h).2)=true)∧wpR cx r rest Q (zj e d (.gd (enB (e t) want) (evP (.idxAddrA n s x y) (zd e) h).1)) h):=rfl
theorem zap(d:Option Nat)(r:List AOp)(n s:Nat)(x y:X):zw cx (⟨d,none,none,.idxAddrA n s x y⟩::r) rest Q e h=((((O.idxAddrA n s x y).xs.all fun x=>(val e x).gok)&&(evP (.idxAddrA n s x y) (zd e) h).2)=true∧zw cx r rest Q (zj e d (evP (.idxAddrA n s x y) (zd e) h).1) h):=rfl
theorem WQ(d:Option Nat)(t:Nat)(want:Bool)(r:List AOp)(n s:Nat)(x y:X):zw cx (⟨d,some (t,want),none,.idxAddrA n s x y⟩::r) rest Q e h=(((e t).gok=true→(asB (e t).un).2=true)∧(enB (e t) want=true→(((O.idxAddrA n s x y).xs.all fun x=>(val e x).gok)&&(evP (.idxAddrA n s x y) (zd e) h).2)=true)∧zw cx r rest Q (zj e d (.gd (enB (e t) want) (evP (.idxAddrA n s x y) (zd e) h).1)) h):=rfl
theorem zqi(d:Option Nat)(r:List AOp)(x y:X):wpR cx (⟨d,none,none,.idxS x y⟩::r) rest Q e h=((((O.idxS x y).xs.all fun x=>(val e x).gok)&&(evP (.idxS x y) (zd e) h).2)=true∧wpR cx r rest Q (zj e d (evP (.idxS x y) (zd e) h).1) h):=rfl
theorem zld(d:Option Nat)(t:Nat)(want:Bool)(r:List AOp)(x y:X):wpR cx (⟨d,some (t,want),none,.idxS x y⟩::r) rest Q e h=(((e t).gok=true→(asB (e t).un).2=true)∧(enB (e t) want=true→(((O.idxS x y).xs.all fun x=>(val e x).gok)&&(evP (.idxS x y) (zd e) h).2)=true)∧wpR cx r rest Q (zj e d (.gd (enB (e t) want) (evP (.idxS x y) (zd e) h).1)) h):=rfl
theorem zk3(d:Option Nat)(r:List AOp)(x y:X):zw cx (⟨d,none,none,.idxS x y⟩::r) rest Q e h=((((O.idxS x y).xs.all fun x=>(val e x).gok)&&(evP (.idxS x y) (zd e) h).2)=true∧zw cx r rest Q (zj e d (evP (.idxS x y) (zd e) h).1) h):=rfl
theorem zgQ(d:Option Nat)(t:Nat)(want:Bool)(r:List AOp)(x y:X):zw cx (⟨d,some (t,want),none,.idxS x y⟩::r) rest Q e h=(((e t).gok=true→(asB (e t).un).2=true)∧(enB (e t) want=true→(((O.idxS x y).xs.all fun x=>(val e x).gok)&&(evP (.idxS x y) (zd e) h).2)=true)∧zw cx r rest Q (zj e d (.gd (enB (e t) want) (evP (.idxS x y) (zd e) h).1)) h):=rfl
theorem zqh(d:Option Nat)(r:List AOp)(n s:Nat)(m:Option Nat)(x y:X):wpR cx (⟨d,none,none,.idxA n s m x y⟩::r) rest Q e h=((((O.idxA n s m x y).xs.all fun x=>(val e x).gok)&&(evP (.idxA n s m x y) (zd e) h).2)=true∧wpR cx r rest Q (zj e d (evP (.idxA n s m x y) (zd e) h).1) h):=rfl
theorem zlc(d:Option Nat)(t:Nat)(want:Bool)(r:List AOp)(n s:Nat)(m:Option Nat)(x y:X):wpR cx (⟨d,some (t,want),none,.idxA n s m x y⟩::r) rest Q e h=(((e t).gok=true→(asB (e t).un).2=true)∧(enB (e t) want=true→(((O.idxA n s m x y).xs.all fun x=>(val e x).gok)&&(evP (.idxA n s m x y) (zd e) h).2)=true)∧wpR cx r rest Q (zj e d (.gd (enB (e t) want) (evP (.idxA n s m x y) (zd e) h).1)) h):=rfl
theorem zk2(d:Option Nat)(r:List AOp)(n s:Nat)(m:Option Nat)(x y:X):zw cx (⟨d,none,none,.idxA n s m x y⟩::r) rest Q e h=((((O.idxA n s m x y).xs.all fun x=>(val e x).gok)&&(evP (.idxA n s m x y) (zd e) h).2)=true∧zw cx r rest Q (zj e d (evP (.idxA n s m x y) (zd e) h).1) h):=rfl
theorem zgP(d:Option Nat)(t:Nat)(want:Bool)(r:List AOp)(n s:Nat)(m:Option Nat)(x y:X):zw cx (⟨d,some (t,want),none,.idxA n s m x y⟩::r) rest Q e h=(((e t).gok=true→(asB (e t).un).2=true)∧(enB (e t) want=true→(((O.idxA n s m x y).xs.all fun x=>(val e x).gok)&&(evP (.idxA n s m x y) (zd e) h).2)=true)∧zw cx r rest Q (zj e d (.gd (enB (e t) want) (evP (.idxA n s m x y) (zd e) h).1)) h):=rfl
theorem ze1(d:Option Nat)(r:List AOp)(x:X)(n:Nat):wpR cx (⟨d,none,none,.extract x n⟩::r) rest Q e h=((((O.extract x n).xs.all fun x=>(val e x).gok)&&(evP (.extract x n) (zd e) h).2)=true∧wpR cx r rest Q (zj e d (evP (.extract x n) (zd e) h).1) h):=rfl
theorem zct(d:Option Nat)(t:Nat)(want:Bool)(r:List AOp)(x:X)(n:Nat):wpR cx (⟨d,some (t,want),none,.extract x n⟩::r) rest Q e h=(((e t).gok=true→(asB (e t).un).2=true)∧(enB (e t) want=true→(((O.extract x n).xs.all fun x=>(val e x).gok)&&(evP (.extract x n) (zd e) h).2)=true)∧wpR cx r rest Q (zj e d (.gd (enB (e t) want) (evP (.extract x n) (zd e) h).1)) h):=rfl
theorem zcp(d:Option Nat)(r:List AOp)(x:X)(n:Nat):zw cx (⟨d,none,none,.extract x n⟩::r) rest Q e h=((((O.extract x n).xs.all fun x=>(val e x).gok)&&(evP (.extract x n) (zd e) h).2)=true∧zw cx r rest Q (zj e d (evP (.extract x n) (zd e) h).1) h):=rfl
theorem zan(d:Option Nat)(t:Nat)(want:Bool)(r:List AOp)(x:X)(n:Nat):zw cx (⟨d,some (t,want),none,.extract x n⟩::r) rest Q e h=(((e t).gok=true→(asB (e t).un).2=true)∧(enB (e t) want=true→(((O.extract x n).xs.all fun x=>(val e x).gok)&&(evP (.extract x n) (zd e) h).2)=true)∧zw cx r rest Q (zj e d (.gd (enB (e t) want) (evP (.extract x n) (zd e) h).1)) h):=rfl
theorem ztw(d:Option Nat)(r:List AOp)(x:X):wpR cx (⟨d,none,none,.len x⟩::r) rest Q e h=((((O.len x).xs.all fun x=>(val e x).gok)&&(evP (.len x) (zd e) h).2)=true∧wpR cx r rest Q (zj e d (evP (.len x) (zd e) h).1) h):=rfl
theorem zqc(d:Option Nat)(t:Nat)(want:Bool)(r:List AOp)(x:X):wpR cx (⟨d,some (t,want),none,.len x⟩::r) rest Q e h=(((e t).gok=true→(asB (e t).un).2=true)∧(enB (e t) want=true→(((O.len x).xs.all fun x=>(val e x).gok)&&(evP (.len x) (zd e) h).2)=true)∧wpR cx r rest Q (zj e d (.gd (enB (e t) want) (evP (.len x) (zd e) h).1)) h):=rfl
theorem zpU(d:Option Nat)(r:List AOp)(x:X):zw cx (⟨d,none,none,.len x⟩::r) rest Q e h=((((O.len x).xs.all fun x=>(val e x).gok)&&(evP (.len x) (zd e) h).2)=true∧zw cx r rest Q (zj e d (evP (.len x) (zd e) h).1) h):=rfl
theorem zk0(d:Option Nat)(t:Nat)(want:Bool)(r:List AOp)(x:X):zw cx (⟨d,some (t,want),none,.len x⟩::r) rest Q e h=(((e t).gok=true→(asB (e t).un).2=true)∧(enB (e t) want=true→(((O.len x).xs.all fun x=>(val e x).gok)&&(evP (.len x) (zd e) h).2)=true)∧zw cx r rest Q (zj e d (.gd (enB (e t) want) (evP (.len x) (zd e) h).1)) h):=rfl
theorem zqj(d:Option Nat)(r:List AOp)(x:X):wpR cx (⟨d,none,none,.lenS x⟩::r) rest Q e h=((((O.lenS x).xs.all fun x=>(val e x).gok)&&(evP (.lenS x) (zd e) h).2)=true∧wpR cx r rest Q (zj e d (evP (.lenS x) (zd e) h).1) h):=rfl
theorem zle(d:Option Nat)(t:Nat)(want:Bool)(r:List AOp)(x:X):wpR cx (⟨d,some (t,want),none,.lenS x⟩::r) rest Q e h=(((e t).gok=true→(asB (e t).un).2=true)∧(enB (e t) want=true→(((O.lenS x).xs.all fun x=>(val e x).gok)&&(evP (.lenS x) (zd e) h).2)=true)∧wpR cx r rest Q (zj e d (.gd (enB (e t) want) (evP (.lenS x) (zd e) h).1)) h):=rfl
theorem zk4(d:Option Nat)(r:List AOp)(x:X):zw cx (⟨d,none,none,.lenS x⟩::r) rest Q e h=((((O.lenS x).xs.all fun x=>(val e x).gok)&&(evP (.lenS x) (zd e) h).2)=true∧zw cx r rest Q (zj e d (evP (.lenS x) (zd e) h).1) h):=rfl
theorem zgR(d:Option Nat)(t:Nat)(want:Bool)(r:List AOp)(x:X):zw cx (⟨d,some (t,want),none,.lenS x⟩::r) rest Q e h=(((e t).gok=true→(asB (e t).un).2=true)∧(enB (e t) want=true→(((O.lenS x).xs.all fun x=>(val e x).gok)&&(evP (.lenS x) (zd e) h).2)=true)∧zw cx r rest Q (zj e d (.gd (enB (e t) want) (evP (.lenS x) (zd e) h).1)) h):=rfl
theorem zwv(d:Option Nat)(r:List AOp)(b:Bool)(x y:X):wpR cx (⟨d,none,none,.mm b x y⟩::r) rest Q e h=((((O.mm b x y).xs.all fun x=>(val e x).gok)&&(evP (.mm b x y) (zd e) h).2)=true∧wpR cx r rest Q (zj e d (evP (.mm b x y) (zd e) h).1) h):=rfl
theorem ztt(d:Option Nat)(t:Nat)(want:Bool)(r:List AOp)(b:Bool)(x y:X):wpR cx (⟨d,some (t,want),none,.mm b x y⟩::r) rest Q e h=(((e t).gok=true→(asB (e t).un).2=true)∧(enB (e t) want=true→(((O.mm b x y).xs.all fun x=>(val e x).gok)&&(evP (.mm b x y) (zd e) h).2)=true)∧wpR cx r rest Q (zj e d (.gd (enB (e t) want) (evP (.mm b x y) (zd e) h).1)) h):=rfl
theorem ztf(d:Option Nat)(r:List AOp)(b:Bool)(x y:X):zw cx (⟨d,none,none,.mm b x y⟩::r) rest Q e h=((((O.mm b x y).xs.all fun x=>(val e x).gok)&&(evP (.mm b x y) (zd e) h).2)=true∧zw cx r rest Q (zj e d (evP (.mm b x y) (zd e) h).1) h):=rfl
theorem zpR(d:Option Nat)(t:Nat)(want:Bool)(r:List AOp)(b:Bool)(x y:X):zw cx (⟨d,some (t,want),none,.mm b x y⟩::r) rest Q e h=(((e t).gok=true→(asB (e t).un).2=true)∧(enB (e t) want=true→(((O.mm b x y).xs.all fun x=>(val e x).gok)&&(evP (.mm b x y) (zd e) h).2)=true)∧zw cx r rest Q (zj e d (.gd (enB (e t) want) (evP (.mm b x y) (zd e) h).1)) h):=rfl
theorem zts(d:Option Nat)(r:List AOp)(n:Nat)(x y:X):wpR cx (⟨d,none,none,.fop n x y⟩::r) rest Q e h=((((O.fop n x y).xs.all fun x=>(val e x).gok)&&(evP (.fop n x y) (zd e) h).2)=true∧wpR cx r rest Q (zj e d (evP (.fop n x y) (zd e) h).1) h):=rfl
theorem zqa(d:Option Nat)(t:Nat)(want:Bool)(r:List AOp)(n:Nat)(x y:X):wpR cx (⟨d,some (t,want),none,.fop n x y⟩::r) rest Q e h=(((e t).gok=true→(asB (e t).un).2=true)∧(enB (e t) want=true→(((O.fop n x y).xs.all fun x=>(val e x).gok)&&(evP (.fop n x y) (zd e) h).2)=true)∧wpR cx r rest Q (zj e d (.gd (enB (e t) want) (evP (.fop n x y) (zd e) h).1)) h):=rfl
theorem zpQ(d:Option Nat)(r:List AOp)(n:Nat)(x y:X):zw cx (⟨d,none,none,.fop n x y⟩::r) rest Q e h=((((O.fop n x y).xs.all fun x=>(val e x).gok)&&(evP (.fop n x y) (zd e) h).2)=true∧zw cx r rest Q (zj e d (evP (.fop n x y) (zd e) h).1) h):=rfl
theorem zkY(d:Option Nat)(t:Nat)(want:Bool)(r:List AOp)(n:Nat)(x y:X):zw cx (⟨d,some (t,want),none,.fop n x y⟩::r) rest Q e h=(((e t).gok=true→(asB (e t).un).2=true)∧(enB (e t) want=true→(((O.fop n x y).xs.all fun x=>(val e x).gok)&&(evP (.fop n x y) (zd e) h).2)=true)∧zw cx r rest Q (zj e d (.gd (enB (e t) want) (evP (.fop n x y) (zd e) h).1)) h):=rfl
theorem zti(d:Option Nat)(r:List AOp)(b:Bool)(s:Nat)(x:X):wpR cx (⟨d,none,none,.box b s x⟩::r) rest Q e h=(okE (.box b s x) e h=true∧wpR cx r rest Q (zj e d (evE (.box b s x) (zd e) h).1) (evE (.box b s x) (zd e) h).2.1):=rfl
theorem zp0(d:Option Nat)(t:Nat)(want:Bool)(r:List AOp)(b:Bool)(s:Nat)(x:X):wpR cx (⟨d,some (t,want),none,.box b s x⟩::r) rest Q e h=(((e t).gok=true→(asB (e t).un).2=true)∧(enB (e t) want=true→okE (.box b s x) e h=true∧wpR cx r rest Q (zj e d (evE (.box b s x) (zd e) h).1) (evE (.box b s x) (zd e) h).2.1)∧(enB (e t) want=false→wpR cx r rest Q (zj e d (.c undef)) h)):=rfl
theorem zgY(d:Option Nat)(r:List AOp)(b:Bool)(s n:Nat)(z:List Value)(ps:List (Nat×X)):wpR cx (⟨d,none,none,.bslice b s n z ps⟩::r) rest Q e h=(okE (.bslice b s n z ps) e h=true∧wpR cx r rest Q (zj e d (evE (.bslice b s n z ps) (zd e) h).1) (evE (.bslice b s n z ps) (zd e) h).2.1):=rfl
theorem ze3(d:Option Nat)(t:Nat)(want:Bool)(r:List AOp)(b:Bool)(s n:Nat)(z:List Value)(ps:List (Nat×X)):wpR cx (⟨d,some (t,want),none,.bslice b s n z ps⟩::r) rest Q e h=(((e t).gok=true→(asB (e t).un).2=true)∧(enB (e t) want=true→okE (.bslice b s n z ps) e h=true∧wpR cx r rest Q (zj e d (evE (.bslice b s n z ps) (zd e) h).1) (evE (.bslice b s n z ps) (zd e) h).2.1)∧(enB (e t) want=false→wpR cx r rest Q (zj e d (.c undef)) h)):=rfl
theorem ze7(d:Option Nat)(r:List AOp)(s m:Nat)(z:List Value)(x:X):wpR cx (⟨d,none,none,.mkslice s m z x⟩::r) rest Q e h=(okE (.mkslice s m z x) e h=true∧wpR cx r rest Q (zj e d (evE (.mkslice s m z x) (zd e) h).1) (evE (.mkslice s m z x) (zd e) h).2.1):=rfl
theorem zcv(d:Option Nat)(t:Nat)(want:Bool)(r:List AOp)(s m:Nat)(z:List Value)(x:X):wpR cx (⟨d,some (t,want),none,.mkslice s m z x⟩::r) rest Q e h=(((e t).gok=true→(asB (e t).un).2=true)∧(enB (e t) want=true→okE (.mkslice s m z x) e h=true∧wpR cx r rest Q (zj e d (evE (.mkslice s m z x) (zd e) h).1) (evE (.mkslice s m z x) (zd e) h).2.1)∧(enB (e t) want=false→wpR cx r rest Q (zj e d (.c undef)) h)):=rfl
theorem zgX(d:Option Nat)(r:List AOp)(s m:Nat)(z:List Value)(x y:X):wpR cx (⟨d,none,none,.append s m z x y⟩::r) rest Q e h=(okE (.append s m z x y) e h=true∧wpR cx r rest Q (zj e d (evE (.append s m z x y) (zd e) h).1) (evE (.append s m z x y) (zd e) h).2.1):=rfl
theorem ze2(d:Option Nat)(t:Nat)(want:Bool)(r:List AOp)(s m:Nat)(z:List Value)(x y:X):wpR cx (⟨d,some (t,want),none,.append s m z x y⟩::r) rest Q e h=(((e t).gok=true→(asB (e t).un).2=true)∧(enB (e t) want=true→okE (.append s m z x y) e h=true∧wpR cx r rest Q (zj e d (evE (.append s m z x y) (zd e) h).1) (evE (.append s m z x y) (zd e) h).2.1)∧(enB (e t) want=false→wpR cx r rest Q (zj e d (.c undef)) h)):=rfl
theorem zlk(d:Option Nat)(r:List AOp)(n:Option Nat)(x y:X):wpR cx (⟨d,none,none,.store n x y⟩::r) rest Q e h=(okE (.store n x y) e h=true∧wpR cx r rest Q (zj e d (evE (.store n x y) (zd e) h).1) (evE (.store n x y) (zd e) h).2.1):=rfl
theorem zg3(d:Option Nat)(t:Nat)(want:Bool)(r:List AOp)(n:Option Nat)(x y:X):wpR cx (⟨d,some (t,want),none,.store n x y⟩::r) rest Q e h=(((e t).gok=true→(asB (e t).un).2=true)∧(enB (e t) want=true→okE (.store n x y) e h=true∧wpR cx r rest Q (zj e d (evE (.store n x y) (zd e) h).1) (evE (.store n x y) (zd e) h).2.1)∧(enB (e t) want=false→wpR cx r rest Q (zj e d (.c undef)) h)):=rfl
theorem ztl(d:Option Nat)(r:List AOp)(s:Nat)(x:X):wpR cx (⟨d,none,none,.clr s x⟩::r) rest Q e h=(okE (.clr s x) e h=true∧wpR cx r rest Q (zj e d (evE (.clr s x) (zd e) h).1) (evE (.clr s x) (zd e) h).2.1):=rfl
theorem zp3(d:Option Nat)(t:Nat)(want:Bool)(r:List AOp)(s:Nat)(x:X):wpR cx (⟨d,some (t,want),none,.clr s x⟩::r) rest Q e h=(((e t).gok=true→(asB (e t).un).2=true)∧(enB (e t) want=true→okE (.clr s x) e h=true∧wpR cx r rest Q (zj e d (evE (.clr s x) (zd e) h).1) (evE (.clr s x) (zd e) h).2.1)∧(enB (e t) want=false→wpR cx r rest Q (zj e d (.c undef)) h)):=rfl
theorem ztm(d:Option Nat)(r:List AOp)(s:Nat)(x y:X):wpR cx (⟨d,none,none,.cpy s x y⟩::r) rest Q e h=(okE (.cpy s x y) e h=true∧wpR cx r rest Q (zj e d (evE (.cpy s x y) (zd e) h).1) (evE (.cpy s x y) (zd e) h).2.1):=rfl
theorem zp4(d:Option Nat)(t:Nat)(want:Bool)(r:List AOp)(s:Nat)(x y:X):wpR cx (⟨d,some (t,want),none,.cpy s x y⟩::r) rest Q e h=(((e t).gok=true→(asB (e t).un).2=true)∧(enB (e t) want=true→okE (.cpy s x y) e h=true∧wpR cx r rest Q (zj e d (evE (.cpy s x y) (zd e) h).1) (evE (.cpy s x y) (zd e) h).2.1)∧(enB (e t) want=false→wpR cx r rest Q (zj e d (.c undef)) h)):=rfl
theorem ztB(d:Option Nat)(r:List AOp)(x:X):wpR cx (⟨d,none,none,.sts x⟩::r) rest Q e h=(okE (.sts x) e h=true∧wpR cx r rest Q (zj e d (evE (.sts x) (zd e) h).1) (evE (.sts x) (zd e) h).2.1):=rfl
theorem zqg(d:Option Nat)(t:Nat)(want:Bool)(r:List AOp)(x:X):wpR cx (⟨d,some (t,want),none,.sts x⟩::r) rest Q e h=(((e t).gok=true→(asB (e t).un).2=true)∧(enB (e t) want=true→okE (.sts x) e h=true∧wpR cx r rest Q (zj e d (evE (.sts x) (zd e) h).1) (evE (.sts x) (zd e) h).2.1)∧(enB (e t) want=false→wpR cx r rest Q (zj e d (.c undef)) h)):=rfl
theorem ztA(d:Option Nat)(r:List AOp)(x:X):wpR cx (⟨d,none,none,.stb x⟩::r) rest Q e h=(okE (.stb x) e h=true∧wpR cx r rest Q (zj e d (evE (.stb x) (zd e) h).1) (evE (.stb x) (zd e) h).2.1):=rfl
theorem zqf(d:Option Nat)(t:Nat)(want:Bool)(r:List AOp)(x:X):wpR cx (⟨d,some (t,want),none,.stb x⟩::r) rest Q e h=(((e t).gok=true→(asB (e t).un).2=true)∧(enB (e t) want=true→okE (.stb x) e h=true∧wpR cx r rest Q (zj e d (evE (.stb x) (zd e) h).1) (evE (.stb x) (zd e) h).2.1)∧(enB (e t) want=false→wpR cx r rest Q (zj e d (.c undef)) h)):=rfl
theorem ztz(d:Option Nat)(r:List AOp)(s:Nat)(z:List Value)(x:X):wpR cx (⟨d,none,none,.nul s z x⟩::r) rest Q e h=(okE (.nul s z x) e h=true∧wpR cx r rest Q (zj e d (evE (.nul s z x) (zd e) h).1) (evE (.nul s z x) (zd e) h).2.1):=rfl
theorem zqe(d:Option Nat)(t:Nat)(want:Bool)(r:List AOp)(s:Nat)(z:List Value)(x:X):wpR cx (⟨d,some (t,want),none,.nul s z x⟩::r) rest Q e h=(((e t).gok=true→(asB (e t).un).2=true)∧(enB (e t) want=true→okE (.nul s z x) e h=true∧wpR cx r rest Q (zj e d (evE (.nul s z x) (zd e) h).1) (evE (.nul s z x) (zd e) h).2.1)∧(enB (e t) want=false→wpR cx r rest Q (zj e d (.c undef)) h)):=rfl
end
end Go.Sx
end
section
set_option linter.unusedVariables false
namespace Go.Sx
def ev:List (Nat×V)→Nat→V
 | [],_=>.any
 |(j,v)::l,i=>if i=j then v else ev l i
theorem zvk(i:Nat):ev [] i= .any:=rfl
theorem jT(j:Nat)(v:V)(l:List (Nat×V))(i:Nat):ev ((j,v)::l) i=if i=j then v else ev l i:=rfl
def zu:List (Nat×V)→(Nat→V)→Prop
 | [],_=>True
 |(j,v)::l,e=>e j=v∧zu l e
theorem zfc(e:Nat→V):zu [] e=True:=rfl
theorem zcy(j:Nat)(v:V)(l:List (Nat×V))(e:Nat→V):zu ((j,v)::l) e=(e j=v∧zu l e):=rfl
def St(cx:Cx)(st:List (Nat×V))(hp:Heap)(e:Nat→V)(h:Heap):Prop:=q8 cx e h (ev st) hp
section
variable {cx:Cx} {e e':Nat→V} {h h' hp:Heap} {st:List (Nat×V)} {Q:z6} {c r:C} {α:Type}
theorem zwP(he:zu st e)(i:Nat):ev st i=e i∨ev st i= .any:=by
 induction st with
 |nil=>exact .inr rfl
 |cons p st ih=>
  obtain⟨j,v⟩:=p
  rw[jT]
  split
  ·rename_i hi;subst hi;exact .inl he.1.symm
  ·exact ih he.2
theorem St.mk(he:zu st e):St cx st h e h:=q8.any (zwP he)
theorem St.of(hw:q8 cx e h e' h')(s:St cx st hp e' h'):St cx st hp e h:=fun g a w R=>
 let⟨g',R'⟩:=hw g a w R
 s g' a w R'
theorem St.drop(n:Nat)(he:zu st e):St cx st ⟨h.bs.take n,h.clk⟩ e h:=St.of (q8.drop n) (St.mk he)
theorem St.cut(he:zu st e)(hb:h.bs.take hp.bs.length=hp.bs)(hc:h.clk=hp.clk):St cx st hp e h:=by
 have:=St.drop (cx:=cx) (h:=h) hp.bs.length he
 rwa [hb,hc]at this
theorem St.nil(d sz:Nat)(z:List V)(hd:e d= .c (.slice none 0 0))(s:St cx st hp (upd e d (.ref h.bs.length h.clk 0 0)) (h.alloc sz z [])):St cx st hp e h:=St.of (q8.nil d sz z hd) s
theorem St.cell(j i k sz:Nat)(z:List V){B:Blk}(hB:h.bs[j]? =some B)(hv:(B.es.getD i []).getD k .any= .c (.slice none 0 0))
 (s:St cx st hp e (Heap.alloc ⟨h.bs.set j ⟨B.ver,B.sz,B.es.set i ((B.es.getD i []).set k (.ref h.bs.length h.clk 0 0)),B.fz,B.d⟩,h.clk⟩ sz z [])):St cx st hp e h:=St.of (q8.cell j i k sz z hB hv) s
theorem St.freeze(s:St cx st hp e (h.freeze fun _=>true)):St cx st hp e h:=St.of q8.freeze s
def lpQ(cx:Cx)(st:α→List (Nat×V))(hp:α→Heap)(ok:α→Prop)(μ:α→Nat)(a:α)(Q:z6):z6:=
 kH (fun e h=>∃b,ok b∧μ b<μ a∧zu (st b) e∧h.bs.take (hp b).bs.length=(hp b).bs∧h.clk=(hp b).clk) Q
section
variable (cx:Cx) (st:α→List (Nat×V)) (hp:α→Heap) (ok:α→Prop) (μ:α→Nat) (a:α) (Q:z6) (e:Nat→V) (h:Heap)
theorem zfJ:lpQ cx st hp ok μ a Q .normal e h= ∃b,ok b∧μ b<μ a∧zu (st b) e∧h.bs.take (hp b).bs.length=(hp b).bs∧h.clk=(hp b).clk:=rfl
theorem zmC(i:Nat):lpQ cx st hp ok μ a Q (.exit i) e h=Q (.exit i) e h:=rfl
theorem zmD(i:Nat):lpQ cx st hp ok μ a Q (.goto i) e h=Q (.goto i) e h:=rfl
theorem zr7:lpQ cx st hp ok μ a Q .ret e h=Q .ret e h:=rfl
end
theorem zQ.lp(st:α→List (Nat×V))(hp:α→Heap)(ok:α→Prop)(μ:α→Nat)(a0:α)(h0:ok a0)(start:St cx (st a0) (hp a0) e h)
  (round:∀a,ok a→wpC cx c (lpQ cx st hp ok μ a Q) (ev (st a)) (hp a)):zQ cx (.loop c) Q e h:=by
 intro code hc g a w R
 obtain⟨b,rfl,hb⟩:=Qm hc
 obtain⟨g0,R0⟩:=start g a w R
 refine WS (fun n a w=>∃x g,ok x∧μ x=n∧Rel cx.N g (ev (st x)) (hp x) cx.w0 cx.own0 a w) (n:=μ a0) ⟨a0,g0,h0,rfl,R0⟩ fun n a w ⟨x,g,hx,hn,R⟩=> ?_
 refine wp_mono (jb _ (round x hx) b hb g a w R) fun z a' w' hq=> ?_
 obtain⟨g',e',h',R',q⟩:=hq
 cases z<;>simp only[lpQ,kH]at q<;>simp only[Exit.then]
 ·obtain⟨y,hy,hlt,hs1,hs2,hs3⟩:=q
  have hs:=St.cut (cx:=cx) hs1 hs2 hs3
  obtain⟨g'',R''⟩:=hs g' a' w' R'
  exact⟨μ y,by omega,y,g'',hy,rfl,R''⟩
 all_goals exact⟨g',e',h',R',q⟩
def jpQ(cx:Cx)(l:Nat)(st:α→List (Nat×V))(hp:α→Heap)(ok:α→Prop)(lt:α→Prop)(Q:z6):z6:=
 Yk l (fun e h=>∃b,ok b∧lt b∧zu (st b) e∧h.bs.take (hp b).bs.length=(hp b).bs∧h.clk=(hp b).clk) Q
section
variable (cx:Cx) (l:Nat) (st:α→List (Nat×V)) (hp:α→Heap) (ok:α→Prop) (lt:α→Prop) (a:α) (Q:z6) (e:Nat→V) (h:Heap)
theorem zfC:jpQ cx l st hp ok lt Q .normal e h=Q .normal e h:=rfl
theorem zmr(i:Nat):jpQ cx l st hp ok lt Q (.exit i) e h=Q (.exit i) e h:=rfl
theorem zms(i:Nat):jpQ cx l st hp ok lt Q (.goto i) e h=(i=l∧∃b,ok b∧lt b∧zu (st b) e∧h.bs.take (hp b).bs.length=(hp b).bs∧h.clk=(hp b).clk):=rfl
theorem zr4:jpQ cx l st hp ok lt Q .ret e h=Q .ret e h:=rfl
end
end
def zbl:C→Nat→Bool
 | .label l',l=>l'==l
 |_,_=>false
def zic:C→Nat→Option (C×C)
 | .seq a b,l=>if zbl a l then some (.skip,b)else if(jd a l).isSome then none else(zic b l).map fun p=>(.seq a p.1,p.2)
 |_,_=>none
theorem zaz{l:Nat}:∀ {c p b:C},zic c l=some (p,b)→jd c l=some (.seq .skip b)
 | .seq x y,p,b,h=>by
   simp only[zic]at h
   split at h
   ·rename_i hl
    simp only[Option.some.injEq,Prod.mk.injEq]at h
    obtain⟨rfl,rfl⟩:=h
    cases x<;>simp only[zbl,Bool.false_eq_true]at hl
    simp only[jd,hl,if_true]
   ·split at h
    ·cases h
    ·rename_i hl hf
     simp only[Option.map_eq_some_iff]at h
     obtain⟨⟨p',b'⟩,h1,h2⟩:=h
     simp only[Prod.mk.injEq]at h2
     obtain⟨rfl,rfl⟩:=h2
     have hf':jd x l=none:=by simpa using hf
     simp only[jd,hf',zaz h1]
 | .skip,_,_,h| .reg _,_,_,h| .qreg _,_,_,h| .treg _,_,_,h| .areg _ _,_,_,h| .breg _ _,_,_,h| .xreg _ _,_,_,h| .mreg _ _,_,_,h| .cond _ _ _,_,_,h| .block _ _,_,_,h| .loop _,_,_,h| .exit _,_,_,h| .scope _,_,_,h| .label _,_,_,h| .goto _,_,_,h| .ret,_,_,h=>by cases h
theorem zcQ{cx:Cx}{l:Nat}{Q:z6}{K:(Nat→V)→Heap→Prop}:∀ {c p b:C},zic c l=some (p,b)→∀ {code:Code}{e:Nat→V}{h:Heap},zq cx.P cx.N code=some c→
  (∀e h,K e h→∃e' h',q8 cx e h e' h'∧zQ cx b Q e' h')→wpC cx p (kH K Q) e h→∀g a w,Rel cx.N g e h cx.w0 cx.own0 a w→code.wp cx.P (cx.post Q) a w
 | .seq x y,p,b,h,code,e,hh,hc,hK,hw,g,a,w,R=>by
   have hcode:∃x' y',code= .seq x' y'∧zq cx.P cx.N x'=some x∧zq cx.P cx.N y'=some y:=by
    cases code with
    |seq x' y'=>
     simp only[zq]at hc
     split at hc
     ·rename_i u v hu hv
      simp only[Option.some.injEq,C.seq.injEq]at hc
      obtain⟨rfl,rfl⟩:=hc
      exact⟨x',y',rfl,hu,hv⟩
     ·cases hc
    |region id ops draw=>rcases kf hc with⟨_,h⟩|⟨_,h⟩|⟨_,h⟩|⟨_,_,h⟩|⟨_,_,h⟩|⟨_,_,h⟩|⟨_,_,h⟩|⟨_,h⟩<;>cases h
    |cond x y z=>simp only[zq]at hc;split at hc<;>cases hc
    |rangeFunc f ps x y=>
     simp only[zq]at hc
     split at hc
     ·split at hc<;>cases hc
     ·cases hc
    |block id b=>simp only[zq,Option.map_eq_some_iff]at hc;obtain⟨_,_,h⟩:=hc;cases h
    |scope b=>simp only[zq,Option.map_eq_some_iff]at hc;obtain⟨_,_,h⟩:=hc;cases h
    |loop b=>simp only[zq,Option.map_eq_some_iff]at hc;obtain⟨_,_,h⟩:=hc;cases h
    |_=>simp[zq]at hc
   obtain⟨x',y',rfl,hx,hy⟩:=hcode
   simp only[zic]at h
   split at h
   ·rename_i hl
    simp only[Option.some.injEq,Prod.mk.injEq]at h
    obtain⟨rfl,rfl⟩:=h
    obtain⟨e',h',hwk,hwb⟩:=hK _ _ hw
    obtain⟨g',R'⟩:=hwk g a w R
    cases x<;>simp only[zbl,Bool.false_eq_true]at hl
    refine wp_seq (wp_mono (jb (cx:=cx) (.label _) (Q:=fun x e h=>x= .normal∧e=e'∧h=h') ⟨rfl,rfl,rfl⟩ _ hx g' a w R') fun z a' w' hq=> ?_)
    obtain⟨g'',e'',h'',R'',rfl,rfl,rfl⟩:=hq
    exact hwb y' hy g'' a' w' R''
   ·split at h
    ·cases h
    ·simp only[Option.map_eq_some_iff]at h
     obtain⟨⟨p',b'⟩,h1,h2⟩:=h
     simp only[Prod.mk.injEq]at h2
     obtain⟨rfl,rfl⟩:=h2
     have hw':wpC cx x (kH (fun e h=>wpC cx p' (kH K Q) e h) (kH K Q)) e hh:=hw
     refine wp_seq (wp_mono (jb x hw' x' hx g a w R) fun z a' w' hq=> ?_)
     obtain⟨g',e',h',R',q⟩:=hq
     cases z<;>simp only[kH]at q<;>simp only[Exit.then]
     ·exact zcQ h1 hy hK q g' a' w' R'
     all_goals exact⟨g',e',h',R',q⟩
 | .skip,_,_,h,_,_,_,_,_,_,_,_,_,_| .reg _,_,_,h,_,_,_,_,_,_,_,_,_,_| .qreg _,_,_,h,_,_,_,_,_,_,_,_,_,_| .treg _,_,_,h,_,_,_,_,_,_,_,_,_,_| .areg _ _,_,_,h,_,_,_,_,_,_,_,_,_,_| .breg _ _,_,_,h,_,_,_,_,_,_,_,_,_,_| .xreg _ _,_,_,h,_,_,_,_,_,_,_,_,_,_| .mreg _ _,_,_,h,_,_,_,_,_,_,_,_,_,_| .cond _ _ _,_,_,h,_,_,_,_,_,_,_,_,_,_
 | .block _ _,_,_,h,_,_,_,_,_,_,_,_,_,_| .loop _,_,_,h,_,_,_,_,_,_,_,_,_,_| .exit _,_,_,h,_,_,_,_,_,_,_,_,_,_| .scope _,_,_,h,_,_,_,_,_,_,_,_,_,_| .label _,_,_,h,_,_,_,_,_,_,_,_,_,_
 | .goto _,_,_,h,_,_,_,_,_,_,_,_,_,_| .ret,_,_,h,_,_,_,_,_,_,_,_,_,_=>by cases h
def zvU{α:Type}(cx:Cx)(st:α→List (Nat×V))(hp:α→Heap)(ok:α→Prop)(Q:z6):z6:=kH (fun e h=>∃b,ok b∧St cx (st b) (hp b) e h) Q
theorem zdy{α:Type}(cx:Cx)(st:α→List (Nat×V))(hp:α→Heap)(ok:α→Prop)(Q:z6)(e:Nat→V)(h:Heap):zvU cx st hp ok Q .normal e h= ∃b,ok b∧St cx (st b) (hp b) e h:=rfl
theorem zm0{α:Type}(cx:Cx)(st:α→List (Nat×V))(hp:α→Heap)(ok:α→Prop)(Q:z6)(e:Nat→V)(h:Heap):zvU cx st hp ok Q .ret e h=Q .ret e h:=rfl
theorem zQ.lab{α:Type}{cx:Cx}{c p b:C}{Q:z6}{e:Nat→V}{h:Heap}(l:Nat)(st:α→List (Nat×V))(hp:α→Heap)(ok:α→Prop)(μ:α→Nat)(hf:zic c l=some (p,b))
  (first:wpC cx p (zvU cx st hp ok (jpQ cx l st hp ok (fun _=>True) Q)) e h)
  (pass:∀a,ok a→wpC cx b (jpQ cx l st hp ok (fun b=>μ b<μ a) Q) (ev (st a)) (hp a)):zQ cx (.scope c) Q e h:=by
 intro code hc g a w R
 obtain⟨code',rfl,hb⟩:=Yf hc
 obtain⟨r',hf',hr⟩:=(XK hb).2 _ (zaz hf)
 have conv:∀(lt:α→Prop)(z:Exit)(a':Act)(w':World),cx.post (jpQ cx l st hp ok lt Q) z a' w'→Exit.jump' l (fun a w=>∃n x g,ok x∧μ x=n∧lt x∧Rel cx.N g (ev (st x)) (hp x) cx.w0 cx.own0 a w) (cx.post Q) z a' w':=by
  intro lt z a' w' ⟨g',e',h',R',q⟩
  cases z<;>simp only[jpQ,Yk]at q<;>simp only[Exit.jump']
  case goto l'=>
   obtain⟨hl,y,hy,hlt,hs1,hs2,hs3⟩:=q
   have hs:=St.cut (cx:=cx) hs1 hs2 hs3
   obtain⟨g'',R''⟩:=hs g' a' w' R'
   exact⟨hl,_,y,g'',hy,rfl,hlt,R''⟩
  all_goals exact⟨g',e',h',R',q⟩
 refine jc l (fun n a w=>∃x g,ok x∧μ x=n∧Rel cx.N g (ev (st x)) (hp x) cx.w0 cx.own0 a w) hf' ?_ fun n a w ⟨x,g,hx,hn,R⟩=> ?_
 ·have key:∀e h,(∃b,ok b∧St cx (st b) (hp b) e h)→∃e' h',q8 cx e h e' h'∧zQ cx b (jpQ cx l st hp ok (fun _=>True) Q) e' h':=by
   intro e h hh
   obtain⟨x,hx,hs⟩:=hh
   refine⟨_,_,hs,zQ.mono (jb b (pass x hx)) ?_⟩
   intro z e h hz
   cases z<;>simp only[jpQ,Yk]at hz⊢
   case goto l'=>obtain⟨hl,y,hy,_,hs⟩:=hz;exact⟨hl,y,hy,trivial,hs⟩
   all_goals exact hz
  refine wp_mono (zcQ (Q:=jpQ cx l st hp ok (fun _=>True) Q) hf hb key first g a w R) ?_
  intro z a' w' hq
  have:=conv _ z a' w' hq
  cases z<;>simp only[Exit.jump']at this⊢
  case goto l'=>obtain⟨hl,n,x,g,h1,h2,_,h3⟩:=this;exact⟨hl,n,x,g,h1,h2,h3⟩
  all_goals exact this
 ·refine wp_mono (jb (.seq .skip b) (Q:=jpQ cx l st hp ok (fun b=>μ b<μ x) Q) (pass x hx) r' hr g a w R) fun z a' w' hq=> ?_
  have:=conv _ z a' w' hq
  cases z<;>simp only[Exit.jump']at this⊢
  case goto l'=>obtain⟨hl,n,y,g,h1,h2,h4,h3⟩:=this;exact⟨hl,n,by omega,y,g,h1,h2,h3⟩
  all_goals exact this
end Go.Sx
end
section
set_option linter.unusedVariables false
namespace Go.Sx
section
variable {h:Heap} {S S':Nat→Bool}
end
section
variable {h:Heap}
end
section
variable {cx:Cx} {e:Nat→V} {h hp:Heap} {st:List (Nat×V)} {Q:z6} {c:C} {α:Type}
def lqQ(cx:Cx)(st:α→List (Nat×V))(hp:α→Heap)(ok:α→Prop)(μ:α→Nat)(a:α)(Q:z6):z6:=
 kH (fun e h=>∃b,ok b∧μ b<μ a∧St cx (st b) (hp b) e h) Q
section
variable (cx:Cx) (st:α→List (Nat×V)) (hp:α→Heap) (ok:α→Prop) (μ:α→Nat) (a:α) (Q:z6) (e:Nat→V) (h:Heap)
theorem zfK:lqQ cx st hp ok μ a Q .normal e h= ∃b,ok b∧μ b<μ a∧St cx (st b) (hp b) e h:=rfl
theorem zmE(i:Nat):lqQ cx st hp ok μ a Q (.exit i) e h=Q (.exit i) e h:=rfl
theorem zmF(i:Nat):lqQ cx st hp ok μ a Q (.goto i) e h=Q (.goto i) e h:=rfl
theorem zr8:lqQ cx st hp ok μ a Q .ret e h=Q .ret e h:=rfl
end
end
end Go.Sx
end
section
set_option maxHeartbeats 1000000
namespace Go.Sx
open Go.WideShapes
inductive Cell where
 |int (k:IntKind)
 |bool
 |str
 |slc (es:List Cell)
inductive CellOK:Cell→V→Prop
 |int (k:IntKind) (n:Int) (h:(Lit.int k n).wf=true):CellOK (.int k) (.c (.int k n))
 |bool (b:Bool):CellOK .bool (.c (.bool b))
 |str (s:ByteArray) (h:s.size≤maxLen):CellOK .str (.c (.string s))
 |slc (cs:List Cell) (ess:List (List V)) (hl:ess.length≤maxLen) (h:∀es∈ess,es.length=cs.length)
   (h2:∀es∈ess,∀i c,cs[i]? =some c→CellOK c (es.getD i .any)):CellOK (.slc cs) (.slc cs.length ess)
def XL(f:TypeId→Option (List Cell)):Nat→List Field→Option (List Cell)
 |_,[]=>some []
 |off,x::r=>if x.offset=off then(f x.type).bind fun cs=>(XL f (off+cs.length) r).map (cs++ ·)else none
def Ql(P:Program)(t:TypeId)(cs:List Cell):Option (List Cell):=if cs.length=P.cellsOf t then some cs else none
def flat(P:Program):Nat→TypeId→Option (List Cell)
 |0,_=>none
 |n+1,t=>match P.underlying t with
  |some (.int k)=>Ql P t [.int k]
  |some .bool=>Ql P t [.bool]
  |some .string=>Ql P t [.str]
  |some (.slice e)=>(flat P n e).bind fun cs=>if 0<cs.length then Ql P t [.slc cs]else none
  |some (.struct fs)=>(XL (flat P n) 0 fs.toList).bind (Ql P t)
  |_=>none
def Got(w:World)(vs:List Value)(cs:List Cell)(xs:List V):Prop:=
 vs.length=cs.length∧xs.length=cs.length∧∀i c,cs[i]? =some c→CellOK c (xs.getD i .any)∧PRep (fun b=>b<w.heap.size) w (vs.getD i undef) (xs.getD i .any)∧(vs.getD i undef).oneCell'=true
section
variable {P:Program} {w:World} {H:Type} {enc:TypeId×Value→H} {base:Nat} {spare:Nat→Bool} {held:Bool}
theorem qP{t:TypeId}{cs cs':List Cell}(h:Ql P t cs=some cs'):cs'=cs∧cs.length=P.cellsOf t:=by
 unfold Ql at h
 split at h
 ·exact⟨(Option.some.inj h).symm,by assumption⟩
 ·cases h
theorem zc5{n:Nat}{t:TypeId}{cs:List Cell}(h:flat P n t=some cs):cs.length=P.cellsOf t:=by
 cases n with
 |zero=>cases h
 |succ n=>
  unfold flat at h
  split at h
  all_goals first
   |(obtain⟨rfl,h2⟩:=qP h;exact h2)
   |cases h
   |skip
  ·simp only[Option.bind_eq_some_iff]at h
   obtain⟨es,_,h⟩:=h
   split at h
   ·obtain⟨rfl,h2⟩:=qP h;exact h2
   ·cases h
  ·simp only[Option.bind_eq_some_iff]at h
   obtain⟨es,_,h⟩:=h
   obtain⟨rfl,h2⟩:=qP h;exact h2
theorem Got.one{v:Value}{c:Cell}{x:V}(h1:CellOK c x)(h2:PRep (fun b=>b<w.heap.size) w v x)(h3:v.oneCell'=true):Got w [v] [c] [x]:=by
 refine⟨rfl,rfl,fun i c' hc=> ?_⟩
 cases i with
 |zero=>simp at hc;subst hc;exact⟨by simpa using h1,by simpa using h2,by simpa using h3⟩
 |succ i=>simp at hc
theorem Got.append{v1 v2:List Value}{c1 c2:List Cell}{x1 x2:List V}(h1:Got w v1 c1 x1)(h2:Got w v2 c2 x2):Got w (v1++v2) (c1++c2) (x1++x2):=by
 obtain⟨a1,b1,g1⟩:=h1
 obtain⟨a2,b2,g2⟩:=h2
 refine⟨by simp[a1,a2],by simp[b1,b2],fun i c hc=> ?_⟩
 by_cases hi:i<c1.length
 ·have hc':c1[i]? =some c:=by rwa [List.getElem?_append_left hi]at hc
  have:=g1 i c hc'
  simpa[List.getD_eq_getElem?_getD,List.getElem?_append_left,a1,b1,hi]using this
 ·have hc':c2[i - c1.length]? =some c:=by rwa [List.getElem?_append_right (by omega)]at hc
  have:=g2 _ c hc'
  have e1:(v1++v2)[i]? =v2[i - c1.length]? :=by rw[List.getElem?_append_right (by omega),a1]
  have e2:(x1++x2)[i]? =x2[i - c1.length]? :=by rw[List.getElem?_append_right (by omega),b1]
  simpa only[List.getD_eq_getElem?_getD,e1,e2]using this
theorem XN{n m:Nat}{vs:List Value}(ih:∀t vs x cs,flat P n t=some cs→DataW.trod enc P w base spare held m t vs=some x→∃xs,Got w vs cs xs):
  ∀(fs:List Field)(off:Nat)(cs:List Cell),XL (flat P n) off fs=some cs→(∀f∈fs,∃x,DataW.trod enc P w base spare held m f.type ((vs.drop f.offset).take (P.cellsOf f.type))=some x)→
   ∃xs,Got w ((vs.drop off).take cs.length) cs xs
 | [],off,cs,h,_=>by
   simp only[XL,Option.some.injEq]at h
   subst h
   exact⟨[],by simp,rfl,by simp⟩
 |f::fs,off,cs,h,ht=>by
  simp only[XL]at h
  split at h
  ·rename_i hoff
   simp only[Option.bind_eq_some_iff,Option.map_eq_some_iff]at h
   obtain⟨c1,h1,c2,h2,rfl⟩:=h
   obtain⟨x,hx⟩:=ht f (by simp)
   obtain⟨x1,g1⟩:=ih _ _ _ _ h1 hx
   obtain⟨x2,g2⟩:=XN ih fs _ c2 h2 fun f' hf'=>ht f' (by simp[hf'])
   refine⟨x1++x2,?_⟩
   have:=g1.append g2
   rw[hoff,←zc5 h1]at this
   rw[List.length_append,List.take_add,List.drop_drop]
   exact this
  ·cases h
theorem zix{a:Addr}{len cap:Nat}{ces:List Cell}(hle:len≤cap)(hcap:cap≤maxLen)(hpos:0<ces.length)
  (h:∀i,i<len→∃vals xs,w.cells? base (a.add (i*ces.length)) ces.length=some vals∧Got w vals ces xs):
  ∃x,Got w [.slice (some a) len cap] [.slc ces] [x]:=by
 have h':∀i:Nat,∃p:List Value×List V,i<len→w.cells? base (a.add (i*ces.length)) ces.length=some p.1∧Got w p.1 ces p.2:=by
  intro i
  by_cases hi:i<len
  ·obtain⟨v,x,hv⟩:=h i hi;exact⟨(v,x),fun _=>hv⟩
  ·exact⟨([],[]),fun hi'=>absurd hi' hi⟩
 obtain⟨f,hf⟩:=Classical.skolem.1 h'
 have hel:∀es∈(List.range len).map fun i=>(f i).2,∃i,i<len∧es=(f i).2:=by
  intro es hes
  obtain⟨i,hi,rfl⟩:=List.mem_map.1 hes
  exact⟨i,List.mem_range.1 hi,rfl⟩
 have hsz:∀es∈(List.range len).map fun i=>(f i).2,es.length=ces.length:=by
  intro es hes
  obtain⟨i,hi,rfl⟩:=hel es hes
  exact(hf i hi).2.2.1
 refine⟨.slc ces.length ((List.range len).map fun i=>(f i).2),Got.one (.slc _ _ (by simp;omega) hsz fun es hes i c hc=> ?_) ?_ rfl⟩
 ·obtain⟨j,hj,rfl⟩:=hel es hes
  exact((hf j hj).2.2.2 i c hc).1
 ·by_cases h0:len=0
  ·subst h0
   exact .slc _ _ _ _ _ 0 0 (fun _ _=>undef) (by simp) hle hsz (by simp) (by simp) (by simp)
  have hl0:0<len:=by omega
  have hs:a.spot=none:=by
   obtain⟨_,hl,hc⟩:=World.cells?_some (hf 0 hl0).1
   have:=hc 0 hpos
   rw[List.getElem?_eq_getElem (by omega)]at this
   have:=World.cell?_spot this
   simpa[Addr.add]using this
  obtain⟨b,o,s⟩:=a
  simp only at hs
  subst hs
  have add:∀n,(⟨b,o,none⟩:Addr).add n=⟨b,o+n,none⟩:=fun n=>by
   unfold Addr.add
   split<;>simp_all
  have cell:∀i k,i<len→k<ces.length→w.cell? ⟨b,o+(i*ces.length+k),none⟩=some ((f i).1.getD k undef):=by
   intro i k hi hk
   obtain⟨_,hl,hc⟩:=World.cells?_some (hf i hi).1
   have:=hc k hk
   rw[add]at this
   have add2:∀n m,(⟨b,m,none⟩:Addr).add n=⟨b,m+n,none⟩:=fun n m=>by
    unfold Addr.add
    split<;>simp_all
   rw[add2,List.getElem?_eq_getElem (by omega)]at this
   rw[List.getD_eq_getElem?_getD,List.getElem?_eq_getElem (by omega)]
   simpa[Nat.add_assoc]using this
  refine .slc _ _ _ _ _ b o (fun i k=>(f i).1.getD k undef) (by simp) hle hsz (fun h0=>⟨rfl,?_⟩) (fun i k hi hk=> ?_) (fun i k hi hk=> ?_)
  ·have:=World.cells?_block (hf 0 hl0).1 hpos
   rw[add]at this
   exact this
  ·have hi':i<len:=by simpa using hi
   exact⟨cell i k hi' hk,((hf i hi').2.2.2 k ces[k] (List.getElem?_eq_getElem hk)).2.2⟩
  ·have hi':i<len:=by simpa using hi
   have e1:(((List.range len).map fun i=>(f i).2).getD i [])=(f i).2:=by simp[List.getD_eq_getElem?_getD,hi']
   rw[e1]
   exact((hf i hi').2.2.2 k ces[k] (List.getElem?_eq_getElem hk)).2.1
theorem got:∀(n m:Nat)(t:TypeId)(vs:List Value)(x:DataW H×List MemPlace)(cs:List Cell),flat P n t=some cs→DataW.trod enc P w base spare held m t vs=some x→∃xs,Got w vs cs xs:=by
 intro n
 induction n with
 |zero=>intro m t vs x cs h;cases h
 |succ n ih=>
  intro m t vs x cs h hx
  unfold flat at h
  split at h
  ·rename_i k hk
   obtain⟨rfl,h2⟩:=qP h
   obtain⟨z,rfl,_,hw⟩:=DataW.trod_int hk hx
   exact⟨_,Got.one (.int k z hw) (.c _) rfl⟩
  ·rename_i hk
   obtain⟨rfl,h2⟩:=qP h
   obtain⟨z,rfl,_⟩:=DataW.trod_bool hk hx
   exact⟨_,Got.one (.bool z) (.c _) rfl⟩
  ·rename_i hk
   obtain⟨rfl,h2⟩:=qP h
   obtain⟨z,rfl,_,hw⟩:=DataW.trod_string hk hx
   exact⟨_,Got.one (.str z hw) (.c _) rfl⟩
  ·rename_i e hk
   simp only[Option.bind_eq_some_iff]at h
   obtain⟨es,hes,h⟩:=h
   split at h
   ·rename_i hpos
    obtain⟨rfl,h2⟩:=qP h
    rcases DataW.trod_slice hk hx with⟨rfl,_⟩|⟨a,len,cap,elems,rest,m',rfl,rfl,_,hb,hle,hcap,hlen,hel,_⟩
    ·exact⟨[.slc es.length []],Got.one (.slc _ [] (Nat.zero_le _) (by simp) (by simp)) (.slc none 0 0 _ [] 0 0 (fun _ _=>undef) rfl (Nat.le_refl _) (by simp) (by simp) (by simp) (by simp)) rfl⟩
    ·obtain⟨x,g⟩:=zix (w:=w) (base:=base) (a:=a) (len:=len) (cap:=cap) (ces:=es) hle hcap hpos fun i hi=>by
      have hi2:=hel i hi
      rw[List.getElem?_eq_getElem (by omega),Option.bind_eq_some_iff]at hi2
      obtain⟨vals,hv,ht⟩:=hi2
      obtain⟨xs,g⟩:=ih m' e vals _ es hes ht
      rw[←zc5 hes]at hv
      exact⟨vals,xs,hv,g⟩
     exact⟨[x],g⟩
   ·cases h
  ·rename_i fs hk
   simp only[Option.bind_eq_some_iff]at h
   obtain⟨cs',hcs,h⟩:=h
   obtain⟨rfl,h2⟩:=qP h
   obtain⟨xs,m',rfl,_,hl,hxl,hf⟩:=DataW.trod_struct hk hx
   obtain⟨ys,g⟩:=XN (vs:=vs) (fun t vs x cs=>ih m' t vs x cs) fs.toList 0 _ hcs fun f hf'=>by
    obtain⟨i,hi,rfl⟩:=List.mem_iff_getElem.1 hf'
    have hi':i<fs.size:=by simpa using hi
    have:=hf i fs[i] (by simp[hi'])
    refine⟨xs[i],?_⟩
    simpa[hxl,hi']using this
   rw[List.drop_zero,List.take_of_length_le (by omega)]at g
   exact⟨ys,g⟩
  ·cases h
theorem zbi{r:Reach}{b0 n:Nat}{t:TypeId}{v:Value}{c:Cell}{d:DataW H}{ps:List MemPlace}(hf:flat P n t=some [c])(hns:∀fs,P.underlying t≠some (.struct fs))
  (hval:Value.okWide P w r b0 t v) (hd:DataW.Trod enc P w base spare held t v d ps):∃x,CellOK c x∧PRep (fun b=>b<w.heap.size) w v x:=by
 obtain⟨m,hm⟩:=hd
 obtain⟨xs,h1,h2,h3⟩:=got n m t _ _ _ hf hm
 have hone:v.cells= #[v]:=by
  cases n with
  |zero=>cases hf
  |succ n=>
   unfold flat at hf
   split at hf
   ·rename_i hk;obtain⟨_,rfl⟩:=okWide_int hk hval;rfl
   ·rename_i hk;obtain⟨_,rfl⟩:=okWide_bool hk hval;rfl
   ·rename_i hk;obtain⟨_,rfl⟩:=okWide_string hk hval;rfl
   ·rename_i hk;obtain⟨_,_,_,rfl⟩:=okWide_slice hk hval;rfl
   ·rename_i hk;exact absurd hk (hns _)
   ·cases hf
 rw[hone]at h3
 have:=h3 0 c rfl
 exact⟨xs.getD 0 .any,this.1,by simpa using this.2.1⟩
end
end Go.Sx
end
section
namespace Go.Sx
set_option linter.unusedSimpArgs false
abbrev vi(n:Int):V:=.c (.int .i64 n)
abbrev vs(s:ByteArray):V:=.c (.string s)
abbrev vb(b:Bool):V:=.c (.bool b)
abbrev zD:V:=.c (.slice none 0 0)
def zO(l:List Int):V:=.slc 1 (l.map fun n=>[vi n])
structure Tok where
 kind:Int
 text:ByteArray
 n:Int
def Tok.enc(t:Tok):List V:=[vi t.kind,vs t.text,vi t.n]
def Tok.zero:Tok:=⟨0,⟨#[]⟩,0⟩
def zi(l:List Tok):V:=.slc 3 (l.map Tok.enc)
theorem qS(l:List Int)(i:Nat):(l.map fun n=>[vi n]).getD i [vi 0]= [vi (l.getD i 0)]:=by simp[List.getD_eq_getElem?_getD,vi]
theorem ziw(l:List Tok)(i:Nat):(l.map Tok.enc).getD i [vi 0,vs ⟨#[]⟩,vi 0]=(l.getD i .zero).enc:=by
 have:[vi 0,vs ⟨#[]⟩,vi 0]=Tok.zero.enc:=rfl
 rw[this]
 simp only[List.getD_eq_getElem?_getD,List.getElem?_map,Option.getD_map]
theorem zdD(S:Nat→Bool)(h:Heap)(u:Value):res S h 12 (.c u)=some (.c u):=rfl
theorem zss(S:Nat→Bool)(h:Heap)(sz:Nat)(es:List (List V)):res S h 12 (.slc sz es)=some (.slc sz es):=rfl
theorem zv3(S:Nat→Bool)(h:Heap)(cs:List V):res S h 12 (.pp cs)=some (.pp cs):=rfl
theorem zsp(S:Nat→Bool)(h:Heap)(cs:List V):res S h 12 (.agg cs)=(zx (res S h 11) cs).map .agg:=rfl
theorem zst(S:Nat→Bool)(h:Heap)(cs:List V):res S h 12 (.tup cs)=(zx (res S h 11) cs).map .tup:=rfl
theorem zv2(S:Nat→Bool)(h:Heap)(f:FuncId)(cs:List V):res S h 12 (.fn f cs)=(zx (res S h 11) cs).map (.fn f):=rfl
theorem zso(S:Nat→Bool)(h:Heap)(u:Value):res S h 11 (.c u)=some (.c u):=rfl
theorem ziW(S:Nat→Bool)(h:Heap)(sz:Nat)(es:List (List V)):res S h 11 (.slc sz es)=some (.slc sz es):=rfl
theorem zm9(S:Nat→Bool)(h:Heap)(cs:List V):res S h 11 (.pp cs)=some (.pp cs):=rfl
theorem zhH(S:Nat→Bool)(h:Heap)(u:Value):res S h 10 (.c u)=some (.c u):=rfl
theorem zv0(S:Nat→Bool)(h:Heap)(u:Value):res S h 9 (.c u)=some (.c u):=rfl
theorem zsr(S:Nat→Bool)(h:Heap)(j ver off len:Nat):res S h 12 (.ref j ver off len)=
 if S j&&h.cur j ver&&decide (off+len≤(h.blk j).es.length)then(zx (zx (res S h 11)) (((h.blk j).es.drop off).take len)).map (.slc (h.blk j).sz)else none:=rfl
theorem ziV(S:Nat→Bool)(h:Heap)(j ver off len:Nat):res S h 11 (.ref j ver off len)=
 if S j&&h.cur j ver&&decide (off+len≤(h.blk j).es.length)then(zx (zx (res S h 10)) (((h.blk j).es.drop off).take len)).map (.slc (h.blk j).sz)else none:=rfl
theorem zsq(S:Nat→Bool)(h:Heap)(j ver i o:Nat):res S h 12 (.ptr j ver i o)=
 if S j&&h.cur j ver&&decide (i<(h.blk j).es.length)then(zx (res S h 11) (((h.blk j).es.getD i (h.blk j).d).drop o)).map .pp else none:=rfl
theorem ziU(S:Nat→Bool)(h:Heap)(j ver i o:Nat):res S h 11 (.ptr j ver i o)=
 if S j&&h.cur j ver&&decide (i<(h.blk j).es.length)then(zx (res S h 10) (((h.blk j).es.getD i (h.blk j).d).drop o)).map .pp else none:=rfl
theorem qb{α:Type}(S:Nat→Bool)(h:Heap)(n:Nat)(f:α→List V)(hf:∀x,(f x).all (fun v=>v.isC)=true)(l:List α):zx (zx (res S h (n+1))) (l.map f)=some (l.map f):=by
 refine Kb fun x hx=> ?_
 obtain⟨y,_,rfl⟩:=List.mem_map.1 hx
 refine Kb fun v hv=> ?_
 have:=List.all_eq_true.1 (hf y) v hv
 rw[V.isC_ok this];rfl
theorem zdg(S:Nat→Bool)(h:Heap)(l:List Int):zx (zx (res S h 11)) (l.map fun n=>[vi n])=some (l.map fun n=>[vi n]):=qb S h 10 _ (fun _=>rfl) l
theorem zdf(S:Nat→Bool)(h:Heap)(l:List Int):zx (zx (res S h 10)) (l.map fun n=>[vi n])=some (l.map fun n=>[vi n]):=qb S h 9 _ (fun _=>rfl) l
theorem yV(S:Nat→Bool)(h:Heap)(l:List Tok):zx (zx (res S h 11)) (l.map Tok.enc)=some (l.map Tok.enc):=qb S h 10 _ (fun _=>rfl) l
theorem zdj(S:Nat→Bool)(h:Heap)(l:List Tok):zx (zx (res S h 10)) (l.map Tok.enc)=some (l.map Tok.enc):=qb S h 9 _ (fun _=>rfl) l
theorem jx{α β:Type}(f:α→β)(l:List α):(l.map f).take l.length=l.map f:=by rw[List.take_of_length_le (by simp)]
theorem zkH{α β:Type}(f:α→β)(l:List α)(n:Nat):(l.map f).take n=(l.take n).map f:=by simp
theorem Q7(n:Int):(inR n=true)=(-9223372036854775808≤n∧n≤9223372036854775807):=by simp[inR]
theorem zwm(a b:Int):(V.c (Value.int IntKind.i64 a)=V.c (Value.int IntKind.i64 b))=(a=b):=by simp
theorem zws(a b:ByteArray):(V.c (Value.string a)=V.c (Value.string b))=(a=b):=by simp
theorem zwl(a b:Bool):(V.c (Value.bool a)=V.c (Value.bool b))=(a=b):=by simp
theorem zaD(s:ByteArray):s.data.toList.length=s.size:=Array.length_toList
theorem zlD(agg:Bool)(zero:List Value)(ρ:X→V)(i:Nat):ZK agg zero [] ρ i=zero.map .c:=rfl
theorem zh3(agg:Bool)(zero:List Value)(j:Nat)(x:X)(ps:List (Nat×X))(ρ:X→V)(i:Nat):ZK agg zero ((j,x)::ps) ρ i=if j=i then cellsOf agg (ρ x)else ZK agg zero ps ρ i:=by
 simp only[ZK,List.find?_cons]
 by_cases h:j=i
 ·simp[h]
 ·have:(j==i)=false:=by simpa using h
  simp[this,h]
theorem zvW:List.range 1= [0]:=rfl
theorem zvX:List.range 2= [0,1]:=rfl
theorem zvY:List.range 3= [0,1,2]:=rfl
theorem zvZ:List.range 4= [0,1,2,3]:=rfl
theorem Tok.eta(t:Tok):(⟨t.kind,t.text,t.n⟩:Tok)=t:=rfl
theorem zrx(b:Bool):(bif b then b else true)=true:=by cases b<;>rfl
def V.int:V→Int
 | .c (.int _ n)=>n
 |_=>0
def V.str:V→ByteArray
 | .c (.string s)=>s
 |_=>⟨#[]⟩
def V.cs:V→List V
 | .agg cs=>cs
 | .pp cs=>cs
 |_=>[]
def V.es:V→List (List V)
 | .slc _ es=>es
 |_=>[]
theorem V.int_c(k:IntKind)(n:Int):V.int (.c (.int k n))=n:=rfl
theorem V.str_c(s:ByteArray):V.str (.c (.string s))=s:=rfl
theorem V.cs_agg(cs:List V):V.cs (.agg cs)=cs:=rfl
theorem V.cs_pp(cs:List V):V.cs (.pp cs)=cs:=rfl
theorem V.es_slc(sz:Nat)(es:List (List V)):V.es (.slc sz es)=es:=rfl
def zlW(l:List V):Tok:=⟨(l.getD 0 .any).int,(l.getD 1 .any).str,(l.getD 2 .any).int⟩
def Yg(v:V):Tok:=zlW v.cs
def zK(v:V):List Int:=v.es.map fun e=>(e.getD 0 .any).int
def zh(v:V):List Tok:=v.es.map zlW
theorem zlX(t:Tok):Yg (.agg [vi t.kind,vs t.text,vi t.n])=t:=rfl
theorem QX(a n:Int)(s:ByteArray):Yg (.agg [vi a,vs s,vi n])=⟨a,s,n⟩:=rfl
theorem z8(sz:Nat)(l:List Int):zK (.slc sz (l.map fun n=>[vi n]))=l:=by
 simp only[zK,V.es,List.map_map]
 exact List.map_id _
theorem zg(sz:Nat)(l:List Tok):zh (.slc sz (l.map Tok.enc))=l:=by
 simp only[zh,V.es,List.map_map]
 exact List.map_id _
theorem zif(sz:Nat):zK (.slc sz [])= []:=rfl
theorem zfo:zK zD= []:=rfl
end Go.Sx
end
section
namespace Go.Proofs.YtjcmoedalneldaaGreat
open Go.Sx
set_option linter.unusedSimpArgs false
set_option maxHeartbeats 4000000
def QG(l:List ByteArray):V:=.slc 1 (l.map fun s=>[vs s])
def V.boo:V→Bool
 | .c (.bool b)=>b
 |_=>false
theorem V.boo_c(b:Bool):V.boo (.c (.bool b))=b:=rfl
def kw(v:V):List ByteArray:=v.es.map fun e=>(e.getD 0 .any).str
def kU(v:V):List (ByteArray×ByteArray):=v.es.map fun e=>((e.getD 0 .any).str,(e.getD 1 .any).str)
theorem Zm(l:List ByteArray):kw (.slc 1 (l.map fun s=>[vs s]))=l:=by
 simp[kw,V.es,V.str,Function.comp_def]
theorem js(l:List (ByteArray×ByteArray)):kU (.slc 2 (l.map fun p=>[vs p.1,vs p.2]))=l:=by
 simp[kU,V.es,V.str,Function.comp_def]
theorem zaM(l:List ByteArray)(i:Nat):(l.map fun s=>[vs s]).getD i [vs ⟨#[]⟩]= [vs (l.getD i ⟨#[]⟩)]:=by
 simp only[List.getD_eq_getElem?_getD,List.getElem?_map]
 cases l[i]? <;>rfl
theorem K1(l:List (ByteArray×ByteArray))(i:Nat):(l.map fun p=>[vs p.1,vs p.2]).getD i [vs ⟨#[]⟩,vs ⟨#[]⟩]= [vs (l.getD i (⟨#[]⟩,⟨#[]⟩)).1,vs (l.getD i (⟨#[]⟩,⟨#[]⟩)).2]:=by
 simp only[List.getD_eq_getElem?_getD,List.getElem?_map]
 cases l[i]? <;>rfl
structure Node where
 parent:Int
 type:ByteArray
 id:ByteArray
 cls:List ByteArray
 attrs:List (ByteArray×ByteArray)
 text:ByteArray
def Node.zero:Node:=⟨0,⟨#[]⟩,⟨#[]⟩,[],[],⟨#[]⟩⟩
def Node.enc(n:Node):List V:=[vi n.parent,vs n.type,vs n.id,.slc 1 (n.cls.map fun s=>[vs s]),.slc 2 (n.attrs.map fun p=>[vs p.1,vs p.2]),vs n.text]
def zo(l:List Node):V:=.slc 6 (l.map Node.enc)
def zbc(l:List V):Node:=⟨(l.getD 0 .any).int,(l.getD 1 .any).str,(l.getD 2 .any).str,kw (l.getD 3 .any),kU (l.getD 4 .any),(l.getD 5 .any).str⟩
def zN(v:V):Node:=zbc v.cs
def zk(v:V):List Node:=v.es.map zbc
theorem Qr(n:Node):zbc n.enc=n:=by
 simp[zbc,Node.enc,Zm,js,V.int,V.str]
theorem qt(a:Int)(b c:ByteArray)(d:List ByteArray)(e:List (ByteArray×ByteArray))(f:ByteArray):
 zN (.agg [.c (.int .i64 a),.c (.string b),.c (.string c),.slc 1 (d.map fun s=>[vs s]),.slc 2 (e.map fun p=>[vs p.1,vs p.2]),.c (.string f)])=⟨a,b,c,d,e,f⟩:=Qr ⟨a,b,c,d,e,f⟩
theorem zl(l:List Node):zk (.slc 6 (l.map Node.enc))=l:=by
 simp[zk,V.es,Function.comp_def,Qr]
theorem Node.eta(n:Node):(⟨n.parent,n.type,n.id,n.cls,n.attrs,n.text⟩:Node)=n:=rfl
theorem yo(l:List Node)(i:Nat)(d:List V)(h:i<l.length):(l.map Node.enc).getD i d=(l.getD i .zero).enc:=by
 simp[List.getD_eq_getElem?_getD,h]
def F2{α β:Type}(R:α→β→Prop):List α→List β→Prop
 | [],[]=>True
 |a::l,b::m=>R a b∧F2 R l m
 |_,_=>False
def Sub:Nat→V→V→Prop
 |0,x,y=>x=y
 |n+1,x,y=>x=y∨match x,y with
  | .slc sz a,.slc sz' b=>sz=sz'∧F2 (F2 (Sub n)) a b
  | .agg a,.agg b=>F2 (Sub n) a b
  | .c (.slice none 0 0),.slc _ b=>b= []
  |_,_=>False
theorem Xl{α β:Type}{R:α→β→Prop}:∀ {a:List α}{b:List β},F2 R a b→a.length=b.length
 | [],[],_=>rfl
 |_::_,_::_,h=>by simp[Xl h.2]
 | [],_::_,h=>h.elim
 |_::_,[],h=>h.elim
theorem KR{α β:Type}{R:α→β→Prop}{d:α}{d':β}:∀ {a:List α}{b:List β}(i:Nat),F2 R a b→i<a.length→R (a.getD i d) (b.getD i d')
 | [],[],i,_,hi=>absurd hi (by simp)
 |_::_,_::_,0,h,_=>h.1
 |_::_,_::_,i+1,h,hi=>by
  have:=KR (d:=d) (d':=d') i h.2 (by simpa using hi)
  simpa using this
 | [],_::_,_,h,_=>h.elim
 |_::_,[],_,h,_=>h.elim
theorem Sub.prep{F:Nat→Prop}{w:World}:∀(n:Nat)(x y:V)(v:Value),Sub n x y→PRep F w v x→PRep F w v y
 |0,x,y,v,h,hp=>by cases h;exact hp
 |n+1,x,y,v,h,hp=>by
  rcases h with rfl|h
  ·exact hp
  ·split at h
   ·obtain⟨rfl,h⟩:=h
    rename_i sz a b
    have hl:=Xl h
    cases hp with
    |slc ad nn cap _ es bb o xs hn hc hsz ha hx hr=>
     refine .slc ad nn cap _ _ bb o xs (by omega) hc (fun e he=> ?_) (fun h0=>ha (by omega)) (fun i k hi hk=>hx i k (by omega) hk) fun i k hi hk=> ?_
     ·obtain⟨i,hi,rfl⟩:=List.getElem_of_mem he
      have h1:=KR (d:=[]) (d':=[]) i h (by omega)
      have h2:=Xl h1
      have h3:=hsz (a[i]'(by omega)) (List.getElem_mem _)
      rw[List.getD_eq_getElem?_getD,List.getElem?_eq_getElem (by omega),List.getD_eq_getElem?_getD,List.getElem?_eq_getElem hi]at h2
      simpa[h3]using h2.symm
     ·have h1:=KR (d:=[]) (d':=[]) i h (by omega)
      have h3:=hsz (a[i]'(by omega)) (List.getElem_mem _)
      have h4:(a.getD i []).length=sz:=by rw[List.getD_eq_getElem?_getD,List.getElem?_eq_getElem (by omega)];exact h3
      exact Sub.prep n _ _ _ (KR (d:=.any) (d':=.any) k h1 (by omega)) (hr i k (by omega) hk)
   ·rename_i a b
    have hl:=Xl h
    cases hp with
    |agg cs _ hl' h1 h2=>exact .agg cs _ (by omega) (fun i hi=>h1 i (by omega)) fun i hi=>Sub.prep n _ _ _ (KR (d:=.any) (d':=.any) i h (by omega)) (h2 i (by omega))
   ·subst h
    cases hp
    exact .slc none 0 0 _ [] 0 0 (fun _ _=>undef) rfl (Nat.le_refl _) (by simp) (by simp) (by simp) (by simp)
   ·exact h.elim
theorem zf.asub{P:Program}{f:FuncId}{args args':List V}{r:V}(n:Nat)(h:zf P f args r)(hs:F2 (Sub n) args' args):zf P f args' r:=by
 have hl:=Xl hs
 refine⟨h.1,fun F w cargs hF hc hv=>h.2 F w cargs hF (by omega) fun i hi=> ?_⟩
 exact Sub.prep n _ _ _ (KR (d:=.any) (d':=.any) i hs (by omega)) (hv i (by omega))
theorem zf.rsub{P:Program}{f:FuncId}{args:List V}{r r':V}(h:zf P f args r)(hs:∀F w v,PRep F w v r→PRep F w v r'):zf P f args r':=by
 refine⟨h.1,fun F w cargs hF hc hv=>(h.2 F w cargs hF hc hv).mono fun e w' he=> ?_⟩
 obtain⟨cv,h1,h2,h3⟩:=he
 exact⟨cv,h1,h2,hs _ _ _ h3⟩
theorem zf.rs{P:Program}{f:FuncId}{args:List V}{r r':V}(n:Nat)(h:zf P f args r)(hs:Sub n r r'):zf P f args r':=zf.rsub h fun _ _ _ hp=>Sub.prep n _ _ _ hs hp
theorem Sub.rfl(n:Nat)(x:V):Sub n x x:=by cases n<;>simp[Sub]
abbrev zhz:List Cell:=[.int .i64,.str,.str,.slc [.str],.slc [.str,.str],.str]
theorem zsG{x:V}(h:CellOK (.slc [.str]) x):∃l:List ByteArray,x= .slc 1 (l.map fun s=>[vs s]):=by
 cases h with
 |slc cs ess hl h h2=>
  refine⟨ess.map fun e=>(e.getD 0 .any).str,?_⟩
  rw[List.map_map]
  congr 1
  conv=>lhs;rw[←List.map_id ess]
  apply List.map_congr_left
  intro es hes
  have hlen:=h es hes
  have a0:=h2 es hes 0 _ rfl
  match es,hlen with
  | [a],_=>
    simp only[List.getD_cons_zero]at a0
    cases a0;rfl
theorem zsk{x:V}(h:CellOK (.slc [.str,.str]) x):∃l:List (ByteArray×ByteArray),x= .slc 2 (l.map fun p=>[vs p.1,vs p.2]):=by
 cases h with
 |slc cs ess hl h h2=>
  refine⟨ess.map fun e=>((e.getD 0 .any).str,(e.getD 1 .any).str),?_⟩
  rw[List.map_map]
  congr 1
  conv=>lhs;rw[←List.map_id ess]
  apply List.map_congr_left
  intro es hes
  have hlen:=h es hes
  have a0:=h2 es hes 0 _ rfl
  have a1:=h2 es hes 1 _ rfl
  match es,hlen with
  | [a,b],_=>
    simp only[List.getD_cons_zero,List.getD_cons_succ]at a0 a1
    cases a0;cases a1;rfl
theorem zmL{xs:List V}(hl:xs.length=6)(h:∀i c,zhz[i]? =some c→CellOK c (xs.getD i .any)):∃n:Node,xs=n.enc:=by
 have a0:=h 0 _ rfl
 have a1:=h 1 _ rfl
 have a2:=h 2 _ rfl
 have a3:=h 3 _ rfl
 have a4:=h 4 _ rfl
 have a5:=h 5 _ rfl
 match xs,hl with
 | [a,b,c,d,e,f],_=>
   simp only[List.getD_cons_zero,List.getD_cons_succ]at a0 a1 a2 a3 a4 a5
   obtain⟨s,rfl⟩:=zsG a3
   obtain⟨p,rfl⟩:=zsk a4
   cases a0;cases a1;cases a2;cases a5
   exact⟨⟨_,_,_,s,p,_⟩,rfl⟩
theorem zmM{x:V}(h:CellOK (.slc zhz) x):∃l:List Node,x=zo l:=by
 cases h with
 |slc cs ess hl h h2=>
  have key:∀(es:List (List V)),(∀e∈es,∃n:Node,e=n.enc)→∃l:List Node,es=l.map Node.enc:=by
   intro es
   induction es with
   |nil=>intro _;exact⟨[],rfl⟩
   |cons e es ih=>
    intro h
    obtain⟨l,rfl⟩:=ih fun e' he=>h e' (by simp[he])
    obtain⟨n,rfl⟩:=h e (by simp)
    exact⟨n::l,rfl⟩
  obtain⟨l,rfl⟩:=key ess fun e he=>zmL (h e he) (h2 e he)
  exact⟨l,rfl⟩
end Go.Proofs.YtjcmoedalneldaaGreat
end
section
set_option linter.unusedVariables false
set_option maxHeartbeats 1000000
namespace Go.Sx
section
variable {P:Program} {N:Nat} {g g':Gh} {e:Nat→V} {h h':Heap} {w w' w0:World} {own0:Own} {a:Act} {ops:Array Oper} {Q:Exit→Act→World→Prop} {K K':Act→World→Prop}
theorem zdF{n:Nat}{row:String}{args:Array Value}{R:Value→World→Prop}(l:Nat)(hr:Rows P row args w R):RowsIn (Fence.wide.inRound l) n P row args w R:=
 fun c cs _=>let⟨v,w',r,s⟩:=hr c cs;⟨v,w',r,stepsIn_wide.2 s⟩
theorem zhA(l n:Nat){o:Oper}(hnd:∀c,o.op≠.defer c)(hQ:¬LetsOut Q)(hK:∀a w,K a w→K' a w)(hw:o.wp P a w K Q):o.wpIn (Fence.wide.inRound l) n P a w K' Q:=by
 refine⟨fun _ _=>trivial,?_⟩
 rw[show(Fence.wide.inRound l).round=some l from rfl,Oper.semAt_some l a.eval o hnd]
 unfold Oper.wp at hw
 generalize(execOp a.eval o).run P w=r at*
 cases r with
 |ok x w'=>
  cases x
  case enter f args=>
   simp only[Oper.upon]at hw
   simp only[Oper.uponIn]
   have hw':=Calls.mono (R':=fun
    | .returned v,w''=>K' (a.put o.dst v) w''
    | .panicked chain,w''=>Q (.panic chain) a w''
    | .outgrown,_=>LetsOut Q) hw (fun e w'' he=>match e,he with| .returned _,he=>hK _ _ he| .panicked _,he=>he| .outgrown,he=>he)
   exact⟨fun hd=>absurd (show(none:Option Nat).isSome=true from hd) (by simp),callsIn_wide.2 hw'⟩
  all_goals simp only[Oper.upon]at hw
  all_goals simp only[Oper.uponIn]
  all_goals
   first
    |exact hK _ _ hw
    |exact⟨fun hd=>absurd (show(none:Option Nat).isSome=true from hd) (by simp),zdF l (Rows.mono hw fun v w'' he=>hK _ _ he)⟩
    |exact hw.elim
 |halt x w'=>cases x<;>simp only[Oper.upon]at hw<;>simp only[Oper.uponIn]<;>first|exact hw|exact hw.elim
theorem zbp(l n:Nat)(hQ:¬LetsOut Q):∀ {os:List Oper}{a:Act}{w:World},(∀o∈os,∀c,o.op≠.defer c)→wpList P ops Q os a w→wpListIn (Fence.wide.inRound l) n P ops Q os a w
 | [],_,_,_,hw=>hw
 |o::os,a,w,hnd,hw=>by
  simp only[wpList]at hw
  simp only[wpListIn]
  split
  ·rename_i hwa
   rw[if_pos hwa]at hw
   rcases hw with hw|hw
   ·exact zhA l n (hnd o (List.mem_cons_self ..)) hQ (fun a w h=>zbp l n hQ (fun o ho=>hnd o (List.mem_cons_of_mem _ ho)) h) hw
   ·exact absurd hw.2 hQ
  ·rename_i hwa
   rw[if_neg hwa]at hw
   exact⟨fun _ _=>trivial,zbp l n hQ (fun o ho=>hnd o (List.mem_cons_of_mem _ ho)) hw⟩
theorem Xp(l n:Nat)(hQ:¬LetsOut Q)(hnd:∀o∈ops.toList,∀c,o.op≠.defer c):∀(f:Nat){listed:Array Bool}{a:Act}{w:World},wpAny P .any ops Q f listed a w→wpAnyIn (Fence.wide.inRound l) n P .any ops Q f listed a w
 |0,_,_,_,hw=>hw
 |f+1,listed,a,w,hw=>by
  refine⟨hw.1,fun i hi=> ?_⟩
  have h1:=hw.2 i hi
  unfold wpOp at h1
  unfold wpOpIn
  cases ho:ops[i]? with
  |none=>
   simp only[ho]at h1
   exact Xp l n hQ hnd f h1
  |some o=>
   simp only[ho]at h1
   simp only
   split
   ·rename_i hwa
    rw[if_pos hwa]at h1
    rcases h1 with h1|h1
    ·exact zhA l n (hnd o (by have:=Array.mem_of_getElem? ho;simpa using this)) hQ (fun a w h=>Xp l n hQ hnd f h) h1
    ·exact absurd h1.2 hQ
   ·rename_i hwa
    rw[if_neg hwa]at h1
    exact⟨fun _ _=>trivial,Xp l n hQ hnd f h1⟩
theorem zbb{o:Oper}{b:AOp}(hc:zax P ops N o=some b)(c:Call):o.op≠.defer c:=by
 intro ho
 have C:=kR hc
 cases hp:b.pk with
 |none=>have:=C.op hp;rw[ho]at this;simp[zn]at this
 |some q=>have:=C.pk;rw[ho,hp]at this;simp[Xw]at this
theorem kO:∀ {l:List Oper}{bs:List AOp},zR P ops N l=some bs→∀o∈l,∀c,o.op≠.defer c
 | [],_,_,o,ho,_=>by cases ho
 |o::l,bs,hc,o',ho',c=>by
  simp only[zR,Option.bind_eq_some_iff,Option.map_eq_some_iff]at hc
  obtain⟨b,hb,cs,hcs,rfl⟩:=hc
  rcases List.mem_cons.1 ho' with rfl|hm
  ·exact zbb hb c
  ·exact kO hcs o' hm c
theorem Wn{Q:Exit→Act→World→Prop}{a:Act}{w:World}{l:List Oper}(n:Nat)(hB:Region.lexTailB .any l.toArray n=true)
  (h:wpStill P l.toArray w (fun a'=>wpList P l.toArray Q (l.drop n) a' w) (l.take n) a):wpAny P .any l.toArray Q l.toArray.size (Array.replicate l.toArray.size false) a w:=by
 simp only[Region.lexTailB,Bool.and_eq_true,decide_eq_true_eq]at hB
 obtain⟨⟨⟨⟨hsel,hn⟩,hs⟩,hc⟩,hlex⟩:=hB
 have hn':n<l.length:=by simpa using hn
 have htl:(l.take n).length=n:=by simp;omega
 have hdl:(l.drop n).length=l.toArray.size - n:=by simp
 have inv0:HeadInv .any l.toArray n (Array.replicate l.toArray.size false):=
  ⟨by simp,fun j oj _ hl=>(by rw[getD_replicate_false]at hl;cases hl),fun t _ ht=>getD_in (by simpa using ht) (getD_replicate_false _ _)⟩
 have H:=wpAnyL_lex (md:=.any) (g:=l.toArray.size - n) hsel hs hc hn (l.take n) 0 _ a (fun j hj=>by
  have hj':j<n:=by rw[htl]at hj;exact hj
  simp[hj']) (by simpa using htl) inv0 (by rw[htl];exact hlex) h
 have:=wpAny_of_head (Q':=Q) (g:=l.toArray.size - n) (fun listed a' hL=>by
  have:=wpAny_of_seq (md:=.any) (Q':=Q) (l.drop n) n listed a' w (fun j=>by simp[List.getElem?_drop]) (by rw[hdl];exact hL.1) hL.2
  rwa [hdl]at this) _ _ _ H
 rw[htl,show n+(l.toArray.size - n)=l.toArray.size by omega]at this
 exact this
theorem WY{bs bs':List AOp}(hc:Ze ops bs=some (.treg bs')):bs'=bs∧∃n,(bs.take n).all (·.isStill)=true∧Region.lexTailB .any ops n=true:=by
 rcases qr hc with⟨h2,hn⟩|⟨h2,_⟩|⟨n,h2,_⟩|⟨n,h2,_⟩|⟨n,h2,_⟩<;>cases h2
 exact⟨rfl,hn⟩
end
def C.rd:C→Bool
 | .skip| .reg _| .treg _| .areg .. | .breg .. | .xreg .. | .exit _| .label _| .goto _| .ret=>true
 | .seq a b| .cond _ a b=>a.rd&&b.rd
 | .block _ c=>c.rd
 |_=>false
theorem zbw{cx:Cx}{Q:z6}(hQ:∀e h,¬Q .outgrown e h):¬LetsOut (cx.post Q):=fun⟨_,_,_,e,h,_,q⟩=>hQ e h q
theorem zwu{cx:Cx}(l n:Nat):∀(code:Code)(c:C){Q:z6}{e:Nat→V}{h:Heap},zq cx.P cx.N code=some c→c.rd=true→(∀e h,¬Q .outgrown e h)→wpC cx c Q e h→
  ∀g a w,Rel cx.N g e h cx.w0 cx.own0 a w→code.wpIn (Fence.wide.inRound l) n cx.P (cx.post Q) a w:=by
 intro code
 induction code with
 |skip=>intro c Q e h hc _ _ hw g a w R;simp only[zq,Option.some.injEq]at hc;subst hc;exact wpIn_skip ⟨g,e,h,R,hw⟩
 |region id ops draw=>
  intro c Q e h hc hrd hQ hw g a w R
  cases draw with
  |false=>
   simp only[zq]at hc
   replace hc:=qX hc
   rcases hc with hc|hc
   rotate_left
   ·obtain⟨_,_,rfl⟩:=QU hc;cases hrd
   simp only[Option.map_eq_some_iff]at hc
   obtain⟨bs,hbs,rfl⟩:=hc
   rcases qR bs (.reg bs)with hf|hf
   case inr=>rw[hf]at hrd;cases hrd
   rw[hf]at hw
   exact wpIn_region_list (zbp l n (zbw hQ) (kO hbs) (kP hbs R (qI hw) fun g' e' h' a' w' hk hr=>⟨g',e',h',hr,hk⟩))
  |true=>
   simp only[zq]at hc
   replace hc:=qX hc
   rcases hc with hc|hc
   rotate_left
   ·obtain⟨_,_,rfl⟩:=QU hc;cases hrd
   split at hc
   ·rename_i hm
    simp only[Option.bind_eq_some_iff,Option.map_eq_some_iff]at hc
    obtain⟨bs,hbs,c',hc,rfl⟩:=hc
    rcases qR bs c' with hf|hf
    case inr=>rw[hf]at hrd;cases hrd
    rw[hf]at hw hrd
    cases c' with
    |treg bs'=>
     obtain⟨rfl,m,h1,h2⟩:=WY hc
     have R':=R.drew
     simp only[wpC]at hw
     have:=Wn (P:=cx.P) (Q:=cx.post Q) (a:=a) (w:={w with drawn:=w.drawn+1}) (l:=ops.toList) m (by rw[Array.toArray_toList];exact h2) (by
      rw[Array.toArray_toList]
      exact zg6 m hbs h1 R' (qI hw) fun g' e' h' a' w' hk hr=>⟨g',e',h',hr,hk⟩)
     rw[Array.toArray_toList]at this
     exact wpIn_region_any hm (Xp l n (zbw hQ) (kO hbs) _ this)
    |qreg bs'=>cases hrd
    |_=>
     exact wpIn_region_any hm (Xp l n (zbw hQ) (kO hbs) _ (QS hbs hc (fun _=>⟨nofun,nofun⟩) hw R.drew))
   ·cases hc
 |seq x y ihx ihy=>
  intro c Q e h hc hrd hQ hw g a w R
  simp only[zq]at hc
  split at hc
  ·rename_i cx' cy hx hy
   obtain rfl:=Option.some.inj hc
   simp only[C.rd,Bool.and_eq_true]at hrd
   simp only[wpC]at hw
   have hQ':∀e h,¬kH (fun e h=>wpC cx cy Q e h) Q .outgrown e h:=fun e h hh=>hQ e h hh
   refine wpIn_seq (wpIn_mono (ihx _ hx hrd.1 hQ' hw g a w R) fun z a' w' hq=> ?_)
   obtain⟨g',e',h',R',q⟩:=hq
   cases z<;>simp only[kH]at q<;>simp only[Exit.then]
   ·exact ihy _ hy hrd.2 hQ q g' a' w' R'
   all_goals exact⟨g',e',h',R',q⟩
  ·cases hc
 |cond x ca cb iha ihb=>
  intro c Q e h hc hrd hQ hw g a w R
  simp only[zq]at hc
  split at hc
  ·rename_i x' a' b' hx ha hb
   obtain rfl:=Option.some.inj hc
   simp only[C.rd,Bool.and_eq_true]at hrd
   simp only[wpC]at hw
   obtain⟨h1,h2,h3,h4⟩:=hw
   have hv:=Yb ((R.ev x x' hx).un h1) h2
   exact wpIn_cond_split hv (fun ht=>iha _ ha hrd.1 hQ (h3 ht) g a w R) (fun hf=>ihb _ hb hrd.2 hQ (h4 hf) g a w R)
  ·cases hc
 |block id b ih=>
  intro c Q e h hc hrd hQ hw g a w R
  simp only[zq,Option.map_eq_some_iff]at hc
  obtain⟨b',hb,rfl⟩:=hc
  simp only[C.rd]at hrd
  simp only[wpC]at hw
  have hQ':∀e h,¬za4 id Q .outgrown e h:=fun e h hh=>hQ e h hh
  refine wpIn_block (wpIn_mono (ih _ hb hrd hQ' hw g a w R) fun z a' w' hq=> ?_)
  obtain⟨g',e',h',R',q⟩:=hq
  cases z<;>simp only[za4]at q<;>simp only[Exit.inBlock]
  case exit i=>
   split
   ·rename_i hi;rw[if_pos hi]at q;exact⟨g',e',h',R',q⟩
   ·rename_i hi;rw[if_neg hi]at q;exact⟨g',e',h',R',q⟩
  all_goals exact⟨g',e',h',R',q⟩
 |loop b ih=>intro c Q e h hc hrd;simp only[zq,Option.map_eq_some_iff]at hc;obtain⟨b',hb,rfl⟩:=hc;cases hrd
 |rangeFunc f ps x y _ _=>
  intro c Q e h hc hrd
  simp only[zq]at hc
  split at hc
  ·split at hc
   ·obtain rfl:=Option.some.inj hc;cases hrd
   ·cases hc
  ·cases hc
 |exit id=>intro c Q e h hc _ _ hw g a w R;simp only[zq,Option.some.injEq]at hc;subst hc;exact wpIn_exit ⟨g,e,h,R,hw⟩
 |scope b ih=>intro c Q e h hc hrd;simp only[zq,Option.map_eq_some_iff]at hc;obtain⟨b',hb,rfl⟩:=hc;cases hrd
 |label l=>intro c Q e h hc _ _ hw g a w R;simp only[zq,Option.some.injEq]at hc;subst hc;exact wpIn_label ⟨g,e,h,R,hw⟩
 |goto l=>intro c Q e h hc _ _ hw g a w R;simp only[zq,Option.some.injEq]at hc;subst hc;exact wpIn_goto ⟨g,e,h,R,hw⟩
 |ret=>intro c Q e h hc _ _ hw g a w R;simp only[zq,Option.some.injEq]at hc;subst hc;exact wpIn_ret ⟨g,e,h,R,hw⟩
 |refuse why=>intro c Q e h hc;simp[zq]at hc
def zhC(g:Gh)(ds:List Deferred):Own:=⟨fun b=>∃(j:Nat)(I:Inf),g.inf[j]? =some I∧I.blk=some b,g.F,g,ds⟩
theorem HRel.base(ds:List Deferred){g:Gh}{h:Heap}{w w0:World}{own0:Own}(H:HRel g h w w0 own0):HRel g h w w (zhC g ds):=
 ⟨H.clk,H.len,H.ok,H.vlt,H.dist,H.Flt,fun j I b hI hb=>.inl ⟨j,I,hI,hb⟩,Frm.refl _ _,fun b hb=>.inl hb,Ext.refl _ _,H.glbw⟩
theorem HRel.back{g g':Gh}{h h':Heap}{w w' w0:World}{own0:Own}(H:HRel g h w w0 own0){ds:List Deferred}(H3:HRel g' h' w' w (zhC g ds)):HRel g' h' w' w0 own0∧Ext g w g' w':=by
 have hex:=H3.ext
 refine⟨⟨H3.clk,H3.len,H3.ok,H3.vlt,H3.dist,H3.Flt,fun j I b hI hIb=> ?_,?_,fun b hb=> ?_,H.ext.trans hex,H.glb⟩,hex⟩
 ·rcases H3.own j I b hI hIb with⟨k,J,hJ,hJb⟩|hge
  ·exact H.own k J b hJ hJb
  ·exact .inr (Nat.le_trans H.frm.size hge)
 ·refine⟨H3.frm.os.trans H.frm.os,H3.frm.tape.trans H.frm.tape,H3.frm.output.trans H.frm.output,Nat.le_trans H.frm.size H3.frm.size,fun b hlt hno=> ?_⟩
  refine(H3.frm.block b (Nat.lt_of_lt_of_le hlt H.frm.size) ?_).trans (H.frm.block b hlt hno)
  rintro⟨j,I,hI,hIb⟩
  rcases H.own j I b hI hIb with ho|hge
  ·exact hno ho
  ·omega
 ·rcases H3.fin b hb with hF|⟨k,J,hJ,hJb⟩|hge
  ·exact H.fin b hF
  ·exact .inr (H.own k J b hJ hJb)
  ·exact .inr (.inr (Nat.le_trans H.frm.size hge))
theorem zm7{P:Program}{T:Orc P}{N:Nat}{code:Code}{c:C}{Q:z6}{e:Nat→V}{h:Heap}(l n:Nat)(hc:zq P N code=some c)(hrd:c.rd=true)(hQ:∀e h,¬Q .outgrown e h)
  (hw:∀w0 own0,wpC ⟨P,T,N,w0,own0⟩ c Q e h) {g:Gh} {w w0:World} {own0:Own} {a:Act} (hsz:a.tmps.size=N) (htm:∀i,VRep g w (a.tmps.getD i undef) (e i)) (H:HRel g h w w0 own0):
  code.wpIn (Fence.wide.inRound l) n P (fun x a' w'=>∃g' e' h',a'.tmps.size=N∧(∀i,VRep g' w' (a'.tmps.getD i undef) (e' i))∧HRel g' h' w' w0 own0∧Ext g w g' w'∧Q x e' h') a w:=by
 have R:Rel N g e h w (zhC g a.defers) a w:=⟨hsz,htm,⟨[],rfl,trivial⟩,H.base _⟩
 refine wpIn_mono (zwu (cx:=⟨P,T,N,w,zhC g a.defers⟩) l n code c hc hrd hQ (hw w _) g _ w R) fun x a' w' hq=> ?_
 obtain⟨g',e',h',R',q⟩:=hq
 obtain⟨H',ex⟩:=H.back R'.heap
 exact⟨g',e',h',R'.size,R'.tm,H',ex,q⟩
theorem Swap.put{n l:Nat}{w:World}{o:Obj}(o':Obj)(h:w.heap[l]? =some o)(ho:∀c e m,o≠.cells c e m)(hm:∀es c,o≠.map es c)(hn:n≤l):Swap n w (w.putObj l o'):=
 ⟨rfl,rfl,rfl,by simp,fun k hk=>World.putObj_heap_other (by omega),fun k cur el m hk=>by
   rw[World.putObj_heap_other]
   ·exact hk
   ·intro e;subst e;rw[hk]at h;exact ho _ _ _ (Option.some.inj h).symm,fun k es c hk=>by
   rw[World.putObj_heap_other]
   ·exact hk
   ·intro e;subst e;rw[hk]at h;exact hm _ _ (Option.some.inj h).symm⟩
theorem DOK.put{n l:Nat}{g:Gh}{w:World}{r:Loop}(o:Obj)(hl:w.heap[l]? =some (.loop r)):∀ {ds:List Deferred},DOK n g w ds→DOK n g (w.putObj l o) ds
 | [],_=>trivial
 |_::_,⟨⟨D,a,b,c,d,e⟩,r'⟩=>⟨⟨D,a,b,c,(World.putObj_heap_other (fun e=>by subst e;rw[hl]at d;cases d)).trans d,e⟩,DOK.put o hl r'⟩
theorem DOK.lt{n m:Nat}{g:Gh}{w:World}(hF:∀b,g.F b→b<m):∀ {ds:List Deferred},DOK n g w ds→∀d∈ds,d.target≠.collected m
 | [],_,d,hd=>by cases hd
 |_::_,⟨⟨D,a,b,c,_,e⟩,r⟩,d,hd=>by
  rcases List.mem_cons.1 hd with rfl|hd
  ·rw[a];intro hh;have:=hF D c;simp at hh;omega
  ·exact DOK.lt hF r d hd
def zs5(e:Nat→V):List Nat→List V→Nat→V
 |p::ps,v::vs=>zs5 (upd e p v) ps vs
 |_,_=>e
theorem zhN{N:Nat}{g:Gh}{w:World}:∀(ps:List Nat)(vs:List V)(cs:List Value)(tmps:Array Value)(e:Nat→V),tmps.size=N→ps.all (fun t=>decide (t<N))=true→cs.length=vs.length→
  (∀i,i<vs.length→VRep g w (cs.getD i undef) (vs.getD i .any))→(∀i,VRep g w (tmps.getD i undef) (e i))→
  ((ps.zip cs).foldl (fun(t:Array Value)(p:Nat×Value)=>t.setIfInBounds p.1 p.2) tmps).size=N∧∀i,VRep g w (((ps.zip cs).foldl (fun(t:Array Value)(p:Nat×Value)=>t.setIfInBounds p.1 p.2) tmps).getD i undef) (zs5 e ps vs i)
 | [],vs,cs,tmps,e,hs,_,_,_,ht=>⟨hs,ht⟩
 |p::ps,[],cs,tmps,e,hs,_,hl,_,ht=>by
  have:cs= []:=List.length_eq_zero_iff.1 (by simpa using hl)
  subst this
  exact⟨hs,ht⟩
 |p::ps,v::vs,[],tmps,e,_,_,hl,_,_=>by simp at hl
 |p::ps,v::vs,c::cs,tmps,e,hs,hp,hl,hv,ht=>by
  simp only[List.all_cons,Bool.and_eq_true,decide_eq_true_eq]at hp
  simp only[List.zip_cons_cons,List.foldl_cons,zs5]
  refine zhN ps vs cs _ _ (by simp[hs]) hp.2 (by simpa using hl) (fun i hi=>by have:=hv (i+1) (by simpa using hi);simpa using this) fun i=> ?_
  have hn:p<tmps.size:=by rw[hs];exact hp.1
  rw[qD _ _ _ _ hn]
  simp only[upd]
  split
  ·have:=hv 0 (by simp);simpa using this
  ·exact ht i
def ztT(P:Program)(B:FuncId)(caps:List V)(n:Nat)(vs:Nat→List V):Prop:=
 y7 P B=true∧∀(F:Nat→Prop)(l:Nat)(J:Nat→World→Prop)(Jx:World→Prop)(W:World)(ccaps:Array Value),
  ccaps.size=caps.length→(∀i,i<caps.length→PRep F W (ccaps.getD i undef) (caps.getD i .any))→
  (∀k W1,J k W1→∀b,F b→W1.heap[b]? =W.heap[b]?)→(∀k W1 W2,J k W1→Grow W1 W2→J k W2)→
  (∀k W1(cargs:Array Value),k<n→J k W1→cargs.size=(vs k).length→(∀i,i<(vs k).length→PRep F W1 (cargs.getD i undef) ((vs k).getD i .any))→
    YieldAt Fence.wide 0 P l cargs W1 fun e W'=>(e= .returned (.bool true)∧J (k+1) W')∨(e= .returned (.bool false)∧Jx W'))→
  J 0 W→Calls P B (#[.func (.yield l) #[] #[]]++ccaps) W fun e W'=>(∃v,e= .returned v)∧(J n W'∨Jx W')
theorem zia{P:Program}{N:Nat}{code:Code}{x:X}{ps:List Nat}{ca cb:C}(hc:zq P N code=some (.rng x ps ca cb)):
  ∃g psA a b,code= .rangeFunc g psA a b∧zA g=some x∧ps=psA.toList∧zq P N a=some ca∧zq P N b=some cb∧ps.all (fun t=>decide (t<N))=true:=by
 cases code with
 |rangeFunc g psA a b=>
  simp only[zq]at hc
  split at hc
  ·rename_i x' a' b' hx ha hb
   split at hc
   ·rename_i hall
    simp only[Option.some.injEq,C.rng.injEq]at hc
    obtain⟨rfl,rfl,rfl,rfl⟩:=hc
    exact⟨g,psA,a,b,rfl,hx,rfl,ha,hb,hall⟩
   ·cases hc
  ·cases hc
 |region id ops draw=>rcases kf hc with⟨_,h⟩|⟨_,h⟩|⟨_,h⟩|⟨_,_,h⟩|⟨_,_,h⟩|⟨_,_,h⟩|⟨_,_,h⟩|⟨_,h⟩<;>cases h
 |seq x y=>simp only[zq]at hc;split at hc<;>cases hc
 |cond x y z=>simp only[zq]at hc;split at hc<;>cases hc
 |block id b=>simp only[zq,Option.map_eq_some_iff]at hc;obtain⟨_,_,h⟩:=hc;cases h
 |loop b=>simp only[zq,Option.map_eq_some_iff]at hc;obtain⟨_,_,h⟩:=hc;cases h
 |scope b=>simp only[zq,Option.map_eq_some_iff]at hc;obtain⟨_,_,h⟩:=hc;cases h
 |_=>simp[zq]at hc
def zwC(K:(Nat→V)→Heap→Prop):z6:=fun x e h=>match x with| .normal=>K e h|_=>False
section
variable {α:Type}
def zxa(st:List (Nat×V))(hp:α→Heap)(ok:Nat→α→Prop)(k:Nat)(Q:z6):z6:=fun x _ h=>
 match x with
 | .normal=>∃b,ok (k+1) b∧h.bs.take (hp b).bs.length=(hp b).bs∧h.clk=(hp b).clk
 | .ret=>Q .ret (ev st) h
 | .exit i=>Q (.exit i) (ev st) h
 | .goto l=>Q (.goto l) (ev st) h
 |_=>False
theorem zQ.rng{cx:Cx}{x:X}{ps:List Nat}{ca cb:C}{Q:z6}{e:Nat→V}{h:Heap}{B:FuncId}{caps:List V}{n:Nat}{vs:Nat→List V}(hit:ztT cx.P B caps n vs)
  (hrd:(ca.rd&&cb.rd)=true) (hcp:∀c∈caps,∃cs,c= .pp cs) (hl:∀k,(vs k).length=ps.length)
  (st:List (Nat×V)) (hp:α→Heap) (ok:Nat→α→Prop) (a0:α) (h0:ok 0 a0) (start:St cx st (hp a0) e h) (hg:(val (ev st) x).gok=true) (hx:zd (ev st) x= .fn B caps)
  (round:∀k a,k<n→ok k a→∀w0 own0,wpC ⟨cx.P,cx.T,cx.N,w0,own0⟩ ca (zwC fun e h=>∀w0 own0,wpC ⟨cx.P,cx.T,cx.N,w0,own0⟩ cb (zxa st hp ok k Q) e h) (zs5 (ev st) ps (vs k)) (hp a))
  (fin:∀a,ok n a→Q .normal (ev st) (hp a)):zQ cx (.rng x ps ca cb) Q e h:=by
 intro code hc gh a w R
 obtain⟨gx,psA,ac,bc,rfl,hgx,rfl,hca,hcb,hall⟩:=zia hc
 simp only[Bool.and_eq_true]at hrd
 obtain⟨g0,R0⟩:=start gh a w R
 have hv:=(R0.ev gx x hgx).un hg
 rw[show(val (ev st) x).un= .fn B caps from hx]at hv
 obtain⟨cs,hcs,hcl,hcv⟩:=hv.inv_fn
 obtain⟨m,hm,hd⟩:=R0.defers
 have hcall:=hit.1
 refine(wpIn_wide (n:=1)).1 (wpIn_rangeFunc fun fn _=> ?_)
 obtain⟨rec,hrec⟩:∃rec:LoopState→Option Code→Loop,rec=fun st pe=>{state:=st,pending:=pe,fn,tmps:=a.tmps,params:=psA,assign:=ac,body:=bc,defers:=w.heap.size}:=⟨_,rfl⟩
 obtain⟨W1,hW1⟩:∃W1,(w.alloc (.deferred (some []))).alloc (.loop (rec .ready none))=W1:=⟨_,rfl⟩
 have hL1:W1.heap[w.heap.size+1]? =some (.loop (rec .ready none)):=by
  rw[←hW1];have:=World.alloc_heap_new (w.alloc (.deferred (some []))) (.loop (rec .ready none));rwa [World.size_alloc]at this
 have hgr:Grow w W1:=by rw[←hW1];exact(Grow.alloc w _).trans (Grow.alloc _ _)
 have hK1:W1.heap[w.heap.size]? =some (.deferred (some [])):=by
  rw[←hW1];rw[heap_alloc_old _ _ (by rw[World.size_alloc];omega)];exact World.alloc_heap_new w _
 have hsz1:W1.heap.size=w.heap.size+2:=by rw[←hW1,World.size_alloc,World.size_alloc]
 have hw0:cx.w0.heap.size≤w.heap.size:=R0.heap.frm.size
 obtain⟨ex01,H1⟩:=R0.heap.grow hgr (fun b=>g0.F b∨b=w.heap.size∨b=w.heap.size+1) (fun b hb=>.inl hb)
  (fun b hb=>by rcases hb with hb|hb|hb
                ·have:=R0.heap.Flt b hb;omega
                ·omega
                ·omega)
  (fun j I b hI hb hF=>by
    have:=R0.heap.blt hI hb
    rcases hF with hF|hF|hF
    ·exact hF
    ·omega
    ·omega)
  (fun b hb=>by rcases hb with hb|hb|hb
                ·exact R0.heap.fin b hb
                ·exact .inr (.inr (by omega))
                ·exact .inr (.inr (by omega)))
 generalize hg1:(⟨fun b=>g0.F b∨b=w.heap.size∨b=w.heap.size+1,g0.inf,g0.us⟩:Gh)=g1 at*
 have hlF:g1.F (w.heap.size+1):=by rw[←hg1];exact .inr (.inr rfl)
 have tm1:∀i,VRep g1 W1 (a.tmps.getD i undef) (ev st i):=fun i=>(R0.tm i).mono ex01
 have dok1:DOK cx.w0.heap.size g1 W1 ({target:=.collected w.heap.size,args:=#[]}::m):=
  ⟨⟨w.heap.size,rfl,hw0,by rw[←hg1];exact .inr (.inl rfl),hK1,DOK.lt R0.heap.Flt hd⟩,hd.mono ex01⟩
 let J:Nat→World→Prop:=fun k W=>∃gk b,ok k b∧HRel gk (hp b) W cx.w0 cx.own0∧Ext g1 W1 gk W
 let Jx:World→Prop:=fun W=>∃gk hk cj,HRel gk hk W cx.w0 cx.own0∧(∀i,VRep gk W (a.tmps.getD i undef) (ev st i))∧DOK cx.w0.heap.size gk W ({target:=.collected w.heap.size,args:=#[]}::m)∧
  W.heap[w.heap.size+1]? =some (.loop (rec .done (some cj)))∧((cj= .ret∧Q .ret (ev st) hk)∨(∃i,cj= .exit i∧Q (.exit i) (ev st) hk)∨∃i,cj= .goto i∧Q (.goto i) (ev st) hk)
 have eg:∀args w,(callFunc B args).run cx.P w= .ok (.enter B args) w:=by
  intro args w
  unfold y7 at hcall
  cases hf:cx.P.funcs[B]? with
  |none=>simp[hf]at hcall
  |some fn=>
   simp only[hf,Option.any_some,Bool.and_eq_true,Bool.not_eq_true']at hcall
   have hb:¬fn.body=none:=fun hb=>by simp[hb]at hcall
   have hn:¬fn.name= "runtime.NumGoroutine" :=by simpa using hcall.2
   simp[callFunc,hf,hn,hb]
 refine⟨w.heap.size+1,[{target:=.collected w.heap.size,args:=#[]}],W1,{target:=.fn (.func B) cs,args:=#[.func (.yield (w.heap.size+1)) #[] #[]]},W1,B,
  #[.func (.yield (w.heap.size+1)) #[] #[]]++cs,W1,?_,?_,fun _ _=>trivial,?_,fun hd=>absurd (show(none:Option Nat).isSome=true from hd) (by simp),callsIn_wide.2 ?_⟩
 ·rw[←hW1,hrec];exact run_enterLoop_outer _ _ _ _ _
 ·simp only[resolve,hcs]
  simp[go_sem]
 ·simp[invoke,go_sem,eg]
 refine(hit.2 g1.F (w.heap.size+1) J Jx W1 cs hcl (fun i hi=> ?_) (fun k W hJ b hb=> ?_) (fun k Wa Wb hJ hgw=> ?_) (fun k W cargs hk hJ hcs hca'=> ?_) ⟨g1,a0,h0,H1,Ext.refl _ _⟩).mono fun e' W' he=> ?_
 ·have h1:=(hcv i hi).mono ex01
  obtain⟨cs',hcs'⟩:=hcp (caps.getD i .any) (by rw[List.getD_eq_getElem?_getD,List.getElem?_eq_getElem hi];exact List.getElem_mem _)
  rw[hcs']at h1⊢
  exact h1.inv_pp
 ·obtain⟨gk,b',_,_,ex⟩:=hJ
  exact ex.same b hb
 ·obtain⟨gk,b',hb',H,ex⟩:=hJ
  obtain⟨ex2,H2⟩:=H.grow' hgw
  exact⟨gk,b',hb',H2,ex.trans ex2⟩
 ·obtain⟨gk,b,hb,H,ex⟩:=hJ
  have hlw:W.heap[w.heap.size+1]? =some (.loop (rec .ready none)):=(ex.same _ hlF).trans hL1
  have hy:=run_yield (P:=cx.P) (args:=cargs) hlw (by rw[hrec,hcs,hl k];simp)
  rw[hrec]at hy
  refine⟨fn,_,ac,bc,hy,roundIn_of_wpIn trivial ?_⟩
  have hz:((psA.zip cargs).foldl (fun(t:Array Value)(p:Nat×Value)=>t.setIfInBounds p.1 p.2) a.tmps)=(psA.toList.zip cargs.toList).foldl (fun(t:Array Value)(p:Nat×Value)=>t.setIfInBounds p.1 p.2) a.tmps:=by
   rw[←Array.foldl_toList,Array.toList_zip]
  obtain⟨sz1,tm2⟩:=zhN (g:=gk) (w:=W) psA.toList (vs k) cargs.toList a.tmps (ev st) R0.size hall (by simpa using hcs) (fun i hi=>by
   have:=hca' i hi
   simpa[Array.getD_eq_getD_getElem?,List.getD_eq_getElem?_getD]using VRep.p _ _ (this.mono ex.F (fun _ _=>rfl))) fun i=>(tm1 i).mono ex
  rw[←hz]at sz1 tm2
  refine wpIn_mono (zm7 (T:=cx.T) (w0:=cx.w0) (own0:=cx.own0) (w:=W) (g:=gk) (a:={tmps:=(psA.zip cargs).foldl (fun(t:Array Value)(p:Nat×Value)=>t.setIfInBounds p.1 p.2) a.tmps,defers:=[]}) (w.heap.size+1) 0 hca hrd.1 (fun _ _ h=>h) (round k b hk hb) sz1 tm2 H) fun z a' w' hq=> ?_
  obtain⟨g',e',h',sz',tm',H',ex',q⟩:=hq
  cases z<;>simp only[zwC]at q<;>simp only[Exit.then]
  have exA:=ex.trans ex'
  have hl':w'.heap[w.heap.size+1]? =some (.loop (rec .ready none)):=(exA.same _ hlF).trans hL1
  have hlt':w.heap.size+1<w'.heap.size:=(Array.getElem?_eq_some_iff.1 hl').1
  refine⟨_,run_beginRound hl' (by rw[hrec]),?_⟩
  have s2:Swap cx.w0.heap.size w' (w'.putObj (w.heap.size+1) (.loop {rec .ready none with state:=.busy})):=Swap.put _ hl' nofun nofun (by omega)
  refine wpIn_mono (zm7 (T:=cx.T) (w0:=cx.w0) (own0:=cx.own0) (w.heap.size+1) 0 hcb hrd.2 (fun _ _ h=>h) q sz' (fun i=>(tm' i).swap s2) (H'.swap s2 (Nat.le_refl _))) fun z a3 w3 hq=> ?_
  obtain⟨g3,e3,h3,sz3,tm3,H3,ex3,q⟩:=hq
  have hb3:w3.heap[w.heap.size+1]? =some (.loop {rec .ready none with state:=.busy}):=(ex3.same _ (exA.F _ hlF)).trans (World.putObj_heap_same hlt')
  have hlt3:w.heap.size+1<w3.heap.size:=(Array.getElem?_eq_some_iff.1 hb3).1
  have leave:∀cj,((cj= .ret∧Q .ret (ev st) h3)∨(∃i,cj= .exit i∧Q (.exit i) (ev st) h3)∨∃i,cj= .goto i∧Q (.goto i) (ev st) h3)→
   ∃v w'',(Instr.endRound (w.heap.size+1) (some cj)).run cx.P w3= .ok v w''∧(((Ending.returned v= .returned (.bool true))∧J (k+1) w'')∨(Ending.returned v= .returned (.bool false)∧Jx w'')):=fun cj hcj=>by
   refine⟨_,_,run_endRound (some cj) hb3,.inr ⟨rfl,g3,h3,cj,?_,fun i=> ?_,?_,?_,hcj⟩⟩
   ·exact H3.swap (Swap.put _ hb3 nofun nofun (by omega)) (Nat.le_refl _)
   ·exact(((tm1 i).mono exA).swap s2 |>.mono ex3).swap (Swap.put (n:=cx.w0.heap.size) _ hb3 nofun nofun (by omega))
   ·exact DOK.put _ hb3 (DOK.mono ex3 (DOK.put _ hl' (dok1.mono exA)))
   ·rw[World.putObj_heap_same hlt3];rw[hrec];rfl
  cases z<;>simp only[zxa]at q<;>simp only[roundPost]
  ·obtain⟨b',hb',q1,q2⟩:=q
   refine⟨_,_,run_endRound none hb3,.inl ⟨rfl,?_⟩⟩
   obtain⟨exd,Hd⟩:=H3.drop (hp b').bs.length
   rw[q1,q2]at Hd
   have exB:=ex3.trans exd
   have s4:=Swap.put (n:=cx.w0.heap.size) (Obj.loop {({rec .ready none with state:=.busy}:Loop)with state:=if(none:Option Code).isNone then LoopState.ready else LoopState.done,pending:=none}) hb3 nofun nofun (by omega)
   refine⟨_,b',hb',Hd.swap s4 (Nat.le_refl _),⟨fun c hc=>exB.F c (exA.F c hc),fun c hc=> ?_,fun j v hv=>exB.us j v (exA.us j v hv),fun j I hj hI=>exA.inf j I (exB.inf j I hj (exA.us _ _ hI)) hI⟩,fun j v hv=>(exB.up j v hv).elim (exA.up j v) fun hh=>.inr fun a u hu=>hh a u (exA.us a u hu)⟩
   by_cases ec:c=w.heap.size+1
   ·subst ec
    rw[World.putObj_heap_same hlt3,hL1,hrec];rfl
   ·rw[World.putObj_heap_other ec,exB.same c (exA.F c hc),World.putObj_heap_other ec,exA.same c hc]
  ·exact leave _ (.inr (.inl ⟨_,rfl,q⟩))
  ·exact leave _ (.inr (.inr ⟨_,rfl,q⟩))
  ·exact leave _ (.inl ⟨rfl,q⟩)
 ·obtain⟨⟨v,rfl⟩,hJ⟩:=he
  rcases hJ with⟨gk,b,hb,H,ex⟩|⟨gk,hk,cj,H,tm,dk,hlw,hq⟩
  ·have hlw:W'.heap[w.heap.size+1]? =some (.loop (rec .ready none)):=(ex.same _ hlF).trans hL1
   have s:=Swap.put (n:=cx.w0.heap.size) (.loop {rec .ready none with state:=.exhausted}) hlw nofun nofun (by omega)
   have hend:(Instr.endLoop (w.heap.size+1)).run cx.P W'= .ok none (W'.putObj (w.heap.size+1) (.loop {rec .ready none with state:=.exhausted})):=by
    have:=run_endLoop (P:=cx.P) hlw (by rw[hrec];simp)
    rw[hrec]at this ⊢;exact this
   refine⟨none,_,hend,?_⟩
   exact⟨gk,ev st,hp b,⟨R0.size,fun i=>((tm1 i).mono ex).swap s,⟨_,by rw[hm];rfl,DOK.put _ hlw (dok1.mono ex)⟩,H.swap s (Nat.le_refl _)⟩,fin b hb⟩
  ·have s:=Swap.put (n:=cx.w0.heap.size) (.loop {rec .done (some cj)with state:=.exhausted}) hlw nofun nofun (by omega)
   have hend:(Instr.endLoop (w.heap.size+1)).run cx.P W'= .ok (some cj) (W'.putObj (w.heap.size+1) (.loop {rec .done (some cj)with state:=.exhausted})):=by
    have:=run_endLoop (P:=cx.P) hlw (by rw[hrec];simp)
    rw[hrec]at this ⊢;exact this
   refine⟨some cj,_,hend,?_⟩
   have RR:Rel cx.N gk (ev st) hk cx.w0 cx.own0 {a with defers:=[{target:=.collected w.heap.size,args:=#[]}]++a.defers} (W'.putObj (w.heap.size+1) (.loop {rec .done (some cj)with state:=.exhausted})):=
    ⟨R0.size,fun i=>(tm i).swap s,⟨_,by rw[hm];rfl,DOK.put _ hlw dk⟩,H.swap s (Nat.le_refl _)⟩
   rcases hq with⟨rfl,q⟩|⟨i,rfl,q⟩|⟨i,rfl,q⟩
   ·exact wpIn_ret ⟨gk,ev st,hk,RR,q⟩
   ·exact wpIn_exit ⟨gk,ev st,hk,RR,q⟩
   ·exact wpIn_goto ⟨gk,ev st,hk,RR,q⟩
end
end Go.Sx
end
section
namespace Go.Sx
attribute [go_sem] zeP ztc zeO ztb Heap.freeze List.mapIdx_cons List.mapIdx_nil Bool.or_true zcj zpy zpH zkO zvs zxj zvx ZR zce zpt zpF zkN yL zU evF V.allK V.isK O.still X5 zcc jm z2 lf lfs Heap.fzn V.isC' Yc zcm zpB zck zpz zpA ztd zpv zpw zkL zpx zte zeR zkM zkK zcl zeQ zcg zch zak zci zal zaj zeS zcf zpu zdK zi0 zi1 znl zcF zh0 zh1 zlB zdL zi2 zi3 znm zfE zbn zfD ziD znb zdE zty zqn zli zpY zla zg0 zpW zk8 zgV zkP zgM zgO zeW ziS ziR zr zxo zxn zxm zwk zwj zwi zyk zwc zwg zwf zxk zwe zwd zxh zxi zwT zrQ zrU zrT zvy zrS zrR zvv zvw zmR zs6 zwA zwB zwN zvh zv evP evE okE O.xs z9 Heap.nilV Option.isNone_none Option.isNone_some zlA arith Heap.idxOK V.idx ldA Heap.cells V.off Heap.isPtr V.cut V.slen Heap.cutOK yR cellsOf yN Heap.isOne Heap.view Heap.alloc Heap.put V.isAgg JZ rvV J1 List.all_cons List.all_nil Bool.and_true Bool.true_and List.length_map List.getD_cons_zero List.getD_cons_succ List.getD_nil if_true if_false List.map_cons List.map_nil Bool.cond_true_left Bool.cond_false_right Bool.and_eq_true Bool.or_eq_true decide_eq_true_eq true_and and_true forall_const List.length_cons List.length_nil Option.getD_none Option.getD_some beq_self_eq_true Bool.or_eq_false_iff decide_eq_false_iff_not Bool.and_self ite_true ite_false Bool.not_true Bool.not_false List.drop_zero List.take_succ_cons List.take_zero List.drop_succ_cons List.nil_append List.append_nil List.cons_append Option.isSome_none Option.isSome_some Option.map_none Option.map_some Bool.cond_true Bool.cond_false cond_true cond_false Bool.false_eq_true false_and and_false or_true true_or or_false false_or not_true_eq_false not_false_eq_true implies_true false_implies Bool.true_beq Bool.false_beq Bool.and_false Bool.false_and Bool.or_false Bool.true_or Bool.false_or eq_self imp_self beq_true beq_false Bool.not_eq_true Bool.not_eq_false Bool.not_eq_true' Bool.not_eq_false' Bool.not_not Int.cast_ofNat_Int Int.toNat_zero Int.toNat_one decide_true decide_false bne_self_eq_false Bool.bne_false Bool.bne_true Bool.false_bne Bool.true_bne Orc.flat_cons zdy zm0 zrx Option.toList_none Option.toList_some Nat.zero_add List.cons.injEq Blk.mk.injEq V.ref.injEq Heap.mk.injEq zkH zlD zh3 zvW zvX zvY zvZ Tok.eta List.nodup_cons List.nodup_nil List.mem_cons List.not_mem_nil zfc zcy zaD zdD zss zv3 zsp zst zv2 zso ziW zm9 zhH zv0 zsr ziV zsq ziU zdg zdf yV zdj jx Q7 zwm zws zwl V.int_c V.str_c V.cs_agg V.cs_pp V.es_slc zlX QX z8 zg zif zfo qS ziw Option.some.injEq Int.toNat_natCast Option.isSome_map Orc.pre_cons Orc.v_cons Orc.hp_cons Orc.qpre_cons Orc.qv_cons Sum.pre Sum.v Sum.hp V.isC V.toC V.isFn V.fnId V.caps z3 zx zfJ zmC zmD zr7 zfK zmE zmF zr8 zfC zmr zms zr4 jT zvk Heap.blk Heap.cur Value.oneCell' Bool.and_eq_false_iff List.getElem?_cons_zero List.getElem?_cons_succ List.getElem?_nil List.set_cons_zero List.set_cons_succ List.set_nil ztx zqd zpV zk1 zql zlg zk6 zgT zk9 zgZ zgL zeV zqk zlf zk5 zgS ztk zp2 zpK zkS zth zpZ zpI zkQ ztp zp7 zpN zkV ztq zp8 zpO zkW ztr zp9 zpP zkX ztv zqb zpT zkZ zww ztu ztg zpS ztn zp5 zpL zkT zto zp6 zpM zkU ztj zp1 zpJ zkR zqm zlh zk7 zgU zlj zg2 zgW zeY zg5 ze5 ze0 zcr zg4 ze4 zeZ zcq zaq WR WP J6 zlb zg1 zgN zeX ze6 zcu zcs zao zcw zar zap WQ zqi zld zk3 zgQ zqh zlc zk2 zgP ze1 zct zcp zan ztw zqc zpU zk0 zqj zle zk4 zgR zwv ztt ztf zpR zts zqa zpQ zkY zti zp0 zgY ze3 ze7 zcv zgX ze2 zlk zg3 ztl zp3 ztm zp4 ztB zqg ztA zqf ztz zqe List.range_zero
end Go.Sx
end
