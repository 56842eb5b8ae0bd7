/- Part of the proof of CascadeWins. No condition. -/
import Derived.Test.YtjcmoedalneldaaGreatE3
import Derived.RangeFuncLeaves
import Derived.RangeFuncRecord
import Derived.Test.YtjcmoedalneldaaGreatE1
import Derived.ChangeArms
import Derived.ChangeOld
import Derived.DataReads
import Derived.WideShapes
import Derived.RangeFuncSeq
import Derived.OrdersIn
section
set_option maxHeartbeats 1000000
namespace Go.Sx
theorem Cx.post_mono{cx:Cx}{Q Q':yv}(h:∀x e h,Q x e h→Q' x e h){x:Exit}{a:Act}{w:World}(hq:cx.post Q x a w):cx.post Q' x a w:=
 let⟨g,e,hh,R,q⟩:=hq
 ⟨g,e,hh,R,h _ _ _ q⟩
theorem zC.mono{cx:Cx}{c:C}{Q Q':yv}{e:Nat→V}{h:Heap}(hs:zC cx c Q e h)(hq:∀x e h,Q x e h→Q' x e h):zC cx c Q' e h:=
 fun code hc g a w R=>wp_mono (hs code hc g a w R) fun _ _ _ q=>Cx.post_mono hq q
theorem kM{ops:Array Oper}{bs:List AOp}{c:C}(hc:Qs ops bs=some c):
  (c= .treg bs∧∃n,(bs.take n).all (·.isStill)=true∧Region.lexTailB .any ops n=true)∨(c= .qreg bs∧Region.lexB .any ops=true∧bs.all (·.isQuiet)=true)∨
  (∃n,c= .areg n bs∧Region.lexTailB .any ops n=true∧zla ops bs n=true)∨(∃n,c= .breg n bs∧Region.lexTailB .any ops (n+1)=true∧zpN ops bs n=true)∨
  ∃n,c= .xreg (Z0 ops bs n) (bs.drop n)∧Region.lexTailB .any ops n=true∧zld ops bs n=true:=by
 have hx:∀ {c:C},(zk4 ops bs).map (fun n=>C.xreg (Z0 ops bs n) (bs.drop n))=some c→∃n,c= .xreg (Z0 ops bs n) (bs.drop n)∧Region.lexTailB .any ops n=true∧zld ops bs n=true:=by
  intro c hc
  simp only[Option.map_eq_some_iff]at hc
  obtain⟨n,hn,rfl⟩:=hc
  have hn:=List.find?_some hn
  simp only[Bool.and_eq_true]at hn
  exact⟨n,rfl,hn⟩
 unfold Qs at hc
 split at hc
 ·rename_i hq
  obtain rfl:=Option.some.inj hc
  simp only[Bool.and_eq_true]at hq
  obtain⟨n,hn⟩:=Option.isSome_iff_exists.1 hq.2
  have hn:=List.find?_some hn
  simp only[Bool.and_eq_true]at hn
  exact .inl ⟨rfl,n,hn⟩
 split at hc
 ·rename_i hq
  obtain rfl:=Option.some.inj hc
  simp only[Bool.and_eq_true]at hq
  exact .inr (.inl ⟨rfl,hq.2⟩)
 split at hc
 ·rename_i n hn
  obtain rfl:=Option.some.inj hc
  have hn:=List.find?_some hn
  simp only[Bool.and_eq_true]at hn
  exact .inl ⟨rfl,n,hn⟩
 split at hc
 ·exact .inr (.inr (.inr (.inr (hx hc))))
 split at hc
 ·rename_i n hn
  obtain rfl:=Option.some.inj hc
  have hn:=List.find?_some hn
  simp only[Bool.and_eq_true]at hn
  exact .inr (.inr (.inl ⟨n,rfl,hn⟩))
 split at hc
 ·rename_i n hn
  obtain rfl:=Option.some.inj hc
  have hn:=List.find?_some hn
  simp only[Bool.and_eq_true]at hn
  exact .inr (.inr (.inr (.inl ⟨n,rfl,hn⟩)))
 ·exact .inr (.inr (.inr (.inr (hx hc))))
theorem zdt{cx:Cx}{ops:Array Oper}{c:C}{bs:List AOp}(hb:z3 cx.P ops cx.N ops.toList=some bs)(hc:Qs ops bs=some c)(hr:∀bs,c≠.treg bs∧c≠.qreg bs){Q:yv}{e:Nat→V}{h:Heap}
  (hw:wpC cx c Q e h) {g:Gh} {a:Act} {w:World} (R':Rel cx.N g e h cx.w0 cx.own0 a w):wpAny cx.P .any ops (cx.post Q) ops.size (Array.replicate ops.size false) a w:=by
 rcases kM hc with⟨rfl,_⟩|⟨rfl,_⟩|⟨n,rfl,hT,hB⟩|⟨n,rfl,hT,hB⟩|⟨n,rfl,hT,hB⟩
 ·exact absurd rfl (hr _).1
 ·exact absurd rfl (hr _).2
 ·simp only[wpC]at hw
  have hsz:n≤ops.size:=by
   have:=hT
   simp only[Region.lexTailB,Bool.and_eq_true,decide_eq_true_eq]at this
   omega
  have hcnt:kL (Array.replicate ops.size false) n=n:=by
   have:∀k,k≤ops.size→kL (Array.replicate ops.size false) k=k:=by
    intro k
    induction k with
    |zero=>intro _;rfl
    |succ k ih=>
     intro hk
     have e:(Array.replicate ops.size false).getD k true=false:=getD_in (by simp;omega) (getD_replicate_false _ _)
     simp only[kL,ih (by omega),e,Bool.false_eq_true,if_false]
   exact this n hsz
  have inv0:HeadInv .any ops n (Array.replicate ops.size false):=
   ⟨by simp,fun j oj _ hl=>(by rw[getD_replicate_false]at hl;cases hl),fun t _ ht=>getD_in (by simpa using ht) (getD_replicate_false _ _)⟩
  have heL:eL cx.T h (bs.take n) e (Array.replicate ops.size false)=e:=by
   funext t
   exact qp fun k b _ _=>getD_replicate_false _ _
  have hfl:=Wo (fun e' hh=>jF hh) _ _ hw
  have:=zpO (Q:=cx.post Q) hb hT hB hfl (fun g' e' h' a' w' hk hr=>⟨g',e',h',hr,hk⟩) n _ a w inv0 hcnt ⟨g,by rw[heL];exact R'⟩
  rwa [show n+(ops.size - n)=ops.size by omega]at this
 ·simp only[wpC]at hw
  have hfl:=zb6 (K':=fun e'=>Wu bs[n]? e h=true∧W8 cx.P (bs.drop (n+1)) (zfd bs[n]? e' h) (Jl bs[n]? e h) (Q .normal)) (fun e' hh=>⟨hh.1,jF hh.2⟩) _ _ hw
  exact zlf (Q:=cx.post Q) hb hT hB hfl (fun g' e' h' a' w' hk hr=>⟨g',e',h',hr,hk⟩) ⟨g,R'⟩
 ·simp only[wpC]at hw
  have hlen:(Z0 ops bs n).length=n:=(zhS (by
   have:=hT
   simp only[Region.lexTailB,Bool.and_eq_true,decide_eq_true_eq]at this
   have h2:=(ju hb).1
   simp at h2;omega)).1
  rw[hlen]at hw
  exact zlg (Q:=cx.post Q) hb hT hB (zhP (fun e' h' hh=>jF hh) _ _ _ hw) (fun g' e' h' a' w' hk hr=>⟨g',e',h',hr,hk⟩) ⟨g,R'⟩
theorem Wx{cx:Cx}{id:Nat}{ops:Array Oper}{c:C}(hm:cx.P.follows .mixedOrders=true){bs:List AOp}(hb:z3 cx.P ops cx.N ops.toList=some bs)(hc:Qs ops bs=some c){Q:yv}{e:Nat→V}{h:Heap}
  (hw:wpC cx c Q e h) {g:Gh} {a:Act} {w:World} (R:Rel cx.N g e h cx.w0 cx.own0 a w):(Code.region id ops true).wp cx.P (cx.post Q) a w:=by
 have R':=R.drew
 by_cases h1:∃bs,c= .treg bs
 ·obtain⟨bs1,rfl⟩:=h1
  rcases kM hc with⟨h2,n,hn1,hn2⟩|⟨h2,_⟩|⟨n,h2,_⟩|⟨n,h2,_⟩|⟨n,h2,_⟩<;>cases h2
  simp only[wpC]at hw
  have:=wp_region_still_tail (P:=cx.P) (id:=id) (Q:=cx.post Q) (a:=a) (w:=w) (l:=ops.toList) n hm (by rw[Array.toArray_toList];exact hn2) (by
   rw[Array.toArray_toList]
   exact zu0 n hb hn1 R' (jF hw) fun g' e' h' a' w' hk hr=>⟨g',e',h',hr,hk⟩)
  rwa [Array.toArray_toList]at this
 by_cases h2:∃bs,c= .qreg bs
 ·obtain⟨bs1,rfl⟩:=h2
  rcases kM hc with⟨h2,_⟩|⟨h2,hq1,hq2⟩|⟨n,h2,_⟩|⟨n,h2,_⟩|⟨n,h2,_⟩<;>cases h2
  simp only[wpC]at hw
  refine wp_region_quiet (C:=Grow {w with drawn:=w.drawn+1}) hm hq1 (Grow.refl _) ?_
  refine zuM hb hq2 R' (Y8 hw) fun e' a' hk hr w' hg=> ?_
  obtain⟨k1,k2⟩:=hr.heap.grow' hg
  exact⟨g,e',h,hr.mono k1 k2,hk⟩
 ·exact wp_region_any hm (zdt hb hc (fun bs=>⟨fun e=>h1 ⟨bs,e⟩,fun e=>h2 ⟨bs,e⟩⟩) hw R')
theorem zfl{cx:Cx}{id:Nat}{ops:Array Oper}{draw:Bool}{c:C}(hc:zcN cx.P cx.N ops draw=some c){Q:yv}{e:Nat→V}{h:Heap}(hw:wpC cx c Q e h){g:Gh}{a:Act}{w:World}(R:Rel cx.N g e h cx.w0 cx.own0 a w):(Code.region id ops draw).wp cx.P (cx.post Q) a w:=by
 unfold zcN at hc
 split at hc
 ·rename_i d t ty po af r hops
  split at hc
  ·rename_i kt et hu
   simp only[Option.bind_eq_some_iff]at hc
   obtain⟨kd,hkd,l,hl,tl,htl,hc⟩:=hc
   split at hc
   ·rename_i hcond
    obtain⟨hdN,hn,hn1,hnd,hdist,hdr⟩:=hcond
    obtain rfl:=Option.some.inj hc
    simp only[wpC]at hw
    generalize hnn:Kg ops=n at*
    obtain⟨ds,hds,_,hE⟩:=zaW hkd
    have hkk:∀k∈(l.filterMap (·.2)).map (·.1),YO kd k=true:=fun k hk=>by
     obtain⟨p,hp,rfl⟩:=List.mem_map.1 hk
     obtain⟨⟨b,rr⟩,hb,hrr⟩:=List.mem_filterMap.1 hp
     obtain⟨i,hi,hii⟩:=List.mem_iff_getElem.1 hb
     obtain⟨h1,h2⟩:=KX hl
     obtain⟨o,ho⟩:∃o,(r.take (n - 1))[i]? =some o:=⟨_,List.getElem?_eq_getElem (by omega)⟩
     obtain⟨b',r',h3,h4⟩:=h2 i o ho
     rw[List.getElem?_eq_getElem hi,hii]at h3
     simp only[Option.some.injEq,Prod.mk.injEq]at h3
     simp only at hrr
     obtain⟨rfl,rfl⟩:=h3
     subst hrr
     rcases jt h4 with⟨_,_,_,_,_,_,hk2,_,_,_,hrr⟩|⟨hrr,_⟩
     ·simp only[Option.some.injEq]at hrr;rw[hrr];exact hk2
     ·cases hrr
    have hnd':=zc5 hE hkk hnd
    have hfin:∀g' e' h' a' w',Q .normal e' h'→Rel cx.N g' e' h' cx.w0 cx.own0 a' w'→cx.post Q .normal a' w':=fun g' e' h' a' w' hk hr=>⟨g',e',h',hr,hk⟩
    have hw':=Wo (K':=fun e'=>W8 cx.P tl ((⟨cx.N,d,l.filterMap (·.2),⟨some d,none,none,.mov (.k undef)⟩::l.map (·.1)⟩:MR).fin e e') h (Q .normal)) (fun e' hh=>jF hh) _ _ hw
    cases draw with
    |false=>
     refine wp_region_list ?_
     rw[hops]
     simp only[wpList]
     rw[if_pos (kI rfl _ _)]
     refine .inl (MInv.make (d:=d) (kd:=kd) (eF:=e) (v:=zV cx.T ⟨some d,none,none,.mov (.k undef)⟩ e h) (MInv.start R) rfl rfl hdN fun a' w' I'=> ?_)
     have hsp:r=r.take (n - 1)++r.drop (n - 1):=(List.take_append_drop _ _).symm
     rw[hsp]
     rw[←hsp]
     obtain⟨_,hw2⟩:=hw'
     have:=za3 (Q:=cx.post Q) (rest:=r.drop (n - 1)) hu hkd hl I' hw2 (by simpa using hnd') (fun p hp=>by cases hp) fun eF' a'' w'' hk I''=>by
      obtain⟨g',R'⟩:=I''.done (m:=⟨cx.N,d,l.filterMap (·.2),⟨some d,none,none,.mov (.k undef)⟩::l.map (·.1)⟩) rfl rfl R hdN hnd' (fun p hp=>by simpa using hp) (fun p hp=>by simpa using hp)
      exact j9 htl R' hk hfin
     rwa [←hsp]at this
    |true=>
     obtain⟨hm,hB⟩:=hdr rfl
     have hT:Region.lexTailB .any ops n=true:=by unfold zu6 at hB;simp only[Bool.and_eq_true]at hB;exact hB.1
     have R':=R.drew
     have inv0:HeadInv .any ops n (Array.replicate ops.size false):=
      ⟨by simp,fun j oj _ hl=>(by rw[getD_replicate_false]at hl;cases hl),fun t _ ht=>getD_in (by simpa using ht) (getD_replicate_false _ _)⟩
     have hcnt:kL (Array.replicate ops.size false) n=n:=by
      have:∀k,k≤ops.size→kL (Array.replicate ops.size false) k=k:=by
       intro k
       induction k with
       |zero=>intro _;rfl
       |succ k ih=>
        intro hk
        have e:(Array.replicate ops.size false).getD k true=false:=getD_in (by simp;omega) (getD_replicate_false _ _)
        simp only[kL,ih (by omega),e,Bool.false_eq_true,if_false]
      exact this n hn
     have heL:eL cx.T h (⟨some d,none,none,.mov (.k undef)⟩::l.map (·.1)) e (Array.replicate ops.size false)=e:=by
      funext t
      exact qp fun k b _ _=>getD_replicate_false _ _
     refine wp_region_any hm ?_
     have:=zwY (Q:=cx.post Q) (m:=⟨cx.N,d,l.filterMap (·.2),⟨some d,none,none,.mov (.k undef)⟩::l.map (·.1)⟩) hu hkd hn1 hops rfl rfl rfl hdN hl rfl htl hnd' hT hB hdist R' hw' hfin n _ a _ inv0 hcnt ⟨[],by
      rw[heL,getD_replicate_false];exact MInv.start R',fun p=>⟨fun hp=>(by cases hp),fun⟨i,b,hh,_⟩=>(by rw[getD_replicate_false]at hh;cases hh)⟩⟩
     rwa [show n+(ops.size - n)=ops.size by omega]at this
   ·cases hc
  ·cases hc
 ·cases hc
theorem zfk{P:Program}{N:Nat}{ops:Array Oper}{draw:Bool}{c:C}(hc:zcN P N ops draw=some c):∃m tl,c= .mreg m tl:=by
 unfold zcN at hc
 split at hc
 ·split at hc
  ·simp only[Option.bind_eq_some_iff]at hc
   obtain⟨kd,hkd,l,hl,tl,htl,hc⟩:=hc
   split at hc
   ·exact⟨_,_,(Option.some.inj hc).symm⟩
   ·cases hc
  ·cases hc
 ·cases hc
theorem ZU{α:Type}{x:Option α}{f:Unit→Option α}{y:α}(h:x.orElse f=some y):x=some y∨f ()=some y:=by
 cases x with
 |none=>exact .inr h
 |some a=>exact .inl h
theorem Rel.freeze{N:Nat}{g:Gh}{e:Nat→V}{h:Heap}{w0 w:World}{own0:Own}{a:Act}(R:Rel N g e h w0 own0 a w):∃g',Rel N g' e (h.freeze fun _=>true) w0 own0 a w:=by
 have H:=R.heap
 have hF':∀b,g.F b→FZ g (fun _=>true) b:=fun b hb=>.inl hb
 have ex:Ext g w ⟨FZ g fun _=>true,g.inf,g.us⟩ w:=⟨⟨hF',fun b hb=>rfl,fun _ _ h=>h,fun _ _ h _=>h⟩,fun _ _ h=>.inl h⟩
 refine⟨⟨FZ g fun _=>true,g.inf,g.us⟩,R.size,fun i=>(R.tm i).mono ex,(let⟨m,hm,hd⟩:=R.defers;⟨m,hm,hd.mono ex⟩),?_⟩
 refine⟨H.clk,by simp[Heap.freeze,H.len],fun j B I hB hI=> ?_,H.vlt,H.dist,fun b hb=>Ql H hb,H.own,H.frm,fun b hb=> ?_,H.ext.trans ex,H.glb⟩
 ·simp only[Heap.freeze,List.getElem?_mapIdx,Option.map_eq_some_iff]at hB
  obtain⟨B0,hB0,rfl⟩:=hB
  have hk:=H.ok j B0 I hB0 hI
  refine⟨hk.ver,hk.sz,hk.len,hk.gone,fun b hb=>(hk.here b hb).mono ex rfl,fun b hb hf=>.inr ⟨j,I,hI,hb,rfl⟩,fun b hb hf hF=> ?_⟩
  simp at hf
 ·rcases hb with hb|⟨k,J,hJ,hJb,_⟩
  ·exact H.fin b hb
  ·exact .inr (H.own k J b hJ hJb)
theorem ZS(bs:List AOp)(c:C):zfF bs c=c∨zfF bs c= .frz c:=by unfold zfF;split;exact .inr rfl;exact .inl rfl
theorem Yd{cx:Cx}:∀(c:C){Q:yv}{e:Nat→V}{h:Heap},wpC cx c Q e h→zC cx c Q e h:=by
 intro c
 have main:∀(code:Code)(c:C){Q:yv}{e:Nat→V}{h:Heap},zH cx.P cx.N code=some c→wpC cx c Q e h→∀g a w,Rel cx.N g e h cx.w0 cx.own0 a w→code.wp cx.P (cx.post Q) a w:=by
  intro code
  induction code with
  |skip=>intro c Q e h hc hw g a w R;simp only[zH,Option.some.injEq]at hc;subst hc;exact wp_skip ⟨g,e,h,R,hw⟩
  |region id ops draw=>
   intro c Q e h hc hw g a w R
   cases draw with
   |false=>
    simp only[zH]at hc
    replace hc:=ZU hc
    rcases hc with hc|hc
    rotate_left
    ·exact zfl hc hw R
    simp only[Option.map_eq_some_iff]at hc
    obtain⟨bs,hbs,rfl⟩:=hc
    rcases ZS bs (.reg bs)with hf|hf
    ·rw[hf]at hw
     exact wp_region_list (j9 hbs R (jF hw) fun g' e' h' a' w' hk hr=>⟨g',e',h',hr,hk⟩)
    ·rw[hf]at hw
     simp only[wpC]at hw
     obtain⟨g2,R2⟩:=R.freeze
     exact wp_region_list (j9 hbs R2 (jF hw) fun g' e' h' a' w' hk hr=>⟨g',e',h',hr,hk⟩)
   |true=>
    simp only[zH]at hc
    replace hc:=ZU hc
    rcases hc with hc|hc
    rotate_left
    ·exact zfl hc hw R
    split at hc
    ·rename_i hm
     simp only[Option.bind_eq_some_iff,Option.map_eq_some_iff]at hc
     obtain⟨bs,hbs,c',hc,rfl⟩:=hc
     rcases ZS bs c' with hf|hf
     ·rw[hf]at hw
      exact Wx hm hbs hc hw R
     ·rw[hf]at hw
      simp only[wpC]at hw
      obtain⟨g2,R2⟩:=R.freeze
      exact Wx hm hbs hc hw R2
    ·cases hc
  |seq x y ihx ihy=>
   intro c Q e h hc hw g a w R
   simp only[zH]at hc
   split at hc
   ·rename_i cx' cy hx hy
    obtain rfl:=Option.some.inj hc
    simp only[wpC]at hw
    refine wp_seq (wp_mono (ihx _ hx hw g a w R) fun z a' w' hq=> ?_)
    obtain⟨g',e',h',R',q⟩:=hq
    cases z<;>simp only[j7]at q<;>simp only[Exit.then]
    ·exact ihy _ hy q g' a' w' R'
    all_goals exact⟨g',e',h',R',q⟩
   ·cases hc
  |cond x ca cb iha ihb=>
   intro c Q e h hc hw g a w R
   simp only[zH]at hc
   split at hc
   ·rename_i x' a' b' hx ha hb
    obtain rfl:=Option.some.inj hc
    simp only[wpC]at hw
    obtain⟨h1,h2,h3,h4⟩:=hw
    have hv:=KP ((R.ev x x' hx).un h1) h2
    refine wp_cond_split hv (fun ht=>iha _ ha (h3 ht) g a w R) (fun hf=>ihb _ hb (h4 hf) g a w R)
   ·cases hc
  |block id b ih=>
   intro c Q e h hc hw g a w R
   simp only[zH,Option.map_eq_some_iff]at hc
   obtain⟨b',hb,rfl⟩:=hc
   simp only[wpC]at hw
   refine wp_block (wp_mono (ih _ hb hw g a w R) fun z a' w' hq=> ?_)
   obtain⟨g',e',h',R',q⟩:=hq
   cases z<;>simp only[zh1]at q<;>simp only[Exit.inBlock]
   case exit i=>
    split
    ·rename_i hi;rw[if_pos hi]at q;exact⟨g',e',h',R',q⟩
    ·rename_i hi;rw[if_neg hi]at q;exact⟨g',e',h',R',q⟩
   all_goals exact⟨g',e',h',R',q⟩
  |loop b ih=>
   intro c Q e h hc hw g a w R
   have hc':=hc
   simp only[zH,Option.map_eq_some_iff]at hc
   obtain⟨b',hb,rfl⟩:=hc
   exact hw _ hc' g a w R
  |rangeFunc f ps x y _ _=>
   intro c Q e h hc hw g a w R
   have hc':=hc
   simp only[zH]at hc
   split at hc
   ·split at hc
    ·obtain rfl:=Option.some.inj hc
     exact hw _ hc' g a w R
    ·cases hc
   ·cases hc
  |exit id=>intro c Q e h hc hw g a w R;simp only[zH,Option.some.injEq]at hc;subst hc;exact wp_exit ⟨g,e,h,R,hw⟩
  |scope b ih=>
   intro c Q e h hc hw g a w R
   have hc':=hc
   simp only[zH,Option.map_eq_some_iff]at hc
   obtain⟨b',hb,rfl⟩:=hc
   exact hw _ hc' g a w R
  |label l=>intro c Q e h hc hw g a w R;simp only[zH,Option.some.injEq]at hc;subst hc;exact wp_label ⟨g,e,h,R,hw⟩
  |goto l=>intro c Q e h hc hw g a w R;simp only[zH,Option.some.injEq]at hc;subst hc;exact wp_goto ⟨g,e,h,R,hw⟩
  |ret=>intro c Q e h hc hw g a w R;simp only[zH,Option.some.injEq]at hc;subst hc;exact wp_ret ⟨g,e,h,R,hw⟩
  |refuse why=>intro c Q e h hc;simp[zH]at hc
 intro Q e h hw code hc g a w R
 exact main code c hc hw g a w R
def jG(cx:Cx)(e:Nat→V)(h:Heap)(e':Nat→V)(h':Heap):Prop:=
 ∀g a w,Rel cx.N g e h cx.w0 cx.own0 a w→∃g',Rel cx.N g' e' h' cx.w0 cx.own0 a w
theorem zb9{P:Program}{c:Code}{Q:Exit→Act→World→Prop}(I:Nat→Act→World→Prop){n:Nat}{a:Act}{w:World}(h₀:I n a w)
  (round:∀n a w,I n a w→c.wp P (Exit.then (fun a' w'=>∃m,m<n∧I m a' w') Q) a w):(Code.loop c).wp P Q a w:=by
 intro b k cs
 have key:∀n a w,I n a w→∃e a' w',Q e a' w'∧Arrives P (lone (b.at a (.code c:: .inLoop c::k)) cs w) b k cs e a' w':=by
  intro n
  induction n using Nat.strongRecOn with
  |_ n ih=>
   intro a w hI
   obtain⟨e,a₁,w₁,hq,harr⟩:=round n a w hI b (.inLoop c::k) cs
   cases e with
   |normal=>
    obtain⟨m,hlt,hI₁⟩:=hq
    obtain⟨e₂,a₂,w₂,hq₂,harr₂⟩:=ih m hlt a₁ w₁ hI₁
    exact⟨e₂,a₂,w₂,hq₂,.of_steps (Steps.trans harr (.one step_inLoop)) harr₂⟩
   |exit id=>exact⟨_,a₁,w₁,hq,.pass (x:=.inLoop c) rfl (fun _ _=>.inl (by simp)) harr⟩
   |goto l=>exact⟨_,a₁,w₁,hq,.pass (x:=.inLoop c) rfl (fun _ _=>.inl (by simp)) harr⟩
   |ret=>exact⟨_,a₁,w₁,hq,.pass (x:=.inLoop c) rfl (fun _ _=>.inl (by simp)) harr⟩
   |panic ch=>exact⟨_,a₁,w₁,hq,.pass (x:=.inLoop c) rfl (fun _ _=>.inl (by simp)) harr⟩
   |outgrown=>exact⟨_,a₁,w₁,hq,.pass (x:=.inLoop c) rfl (fun _ _=>.inl (by simp)) harr⟩
 obtain⟨e,a',w',hq,harr⟩:=key n a w h₀
 exact⟨e,a',w',hq,.of_steps (.one step_loop) harr⟩
theorem jU{P:Program}{N:Nat}{id:Nat}{ops:Array Oper}{draw:Bool}{c:C}(hc:zH P N (.region id ops draw)=some c):(∃bs,c= .reg bs)∨(∃bs,c= .qreg bs)∨(∃bs,c= .treg bs)∨(∃n bs,c= .areg n bs)∨(∃n bs,c= .breg n bs)∨(∃n bs,c= .xreg n bs)∨(∃m tl,c= .mreg m tl)∨∃c',c= .frz c':=by
 cases draw with
 |false=>
  simp only[zH]at hc
  replace hc:=ZU hc
  rcases hc with hc|hc
  rotate_left
  ·exact .inr (.inr (.inr (.inr (.inr (.inr (.inl (zfk hc)))))))
  simp only[Option.map_eq_some_iff]at hc;obtain⟨bs,_,rfl⟩:=hc
  rcases ZS bs (.reg bs)with hf|hf<;>rw[hf]
  ·exact .inl ⟨bs,rfl⟩
  ·exact .inr (.inr (.inr (.inr (.inr (.inr (.inr ⟨_,rfl⟩))))))
 |true=>
  simp only[zH]at hc
  replace hc:=ZU hc
  rcases hc with hc|hc
  rotate_left
  ·exact .inr (.inr (.inr (.inr (.inr (.inr (.inl (zfk hc)))))))
  split at hc
  ·simp only[Option.bind_eq_some_iff,Option.map_eq_some_iff]at hc
   obtain⟨bs,_,c',hc,rfl⟩:=hc
   rcases ZS bs c' with hf|hf<;>rw[hf]
   ·rcases kM hc with⟨rfl,_⟩|⟨rfl,_⟩|⟨n,rfl,_⟩|⟨n,rfl,_⟩|⟨n,rfl,_⟩
    ·exact .inr (.inr (.inl ⟨_,rfl⟩))
    ·exact .inr (.inl ⟨_,rfl⟩)
    ·exact .inr (.inr (.inr (.inl ⟨_,_,rfl⟩)))
    ·exact .inr (.inr (.inr (.inr (.inl ⟨_,_,rfl⟩))))
    ·exact .inr (.inr (.inr (.inr (.inr (.inl ⟨_,_,rfl⟩)))))
   ·exact .inr (.inr (.inr (.inr (.inr (.inr (.inr ⟨_,rfl⟩))))))
  ·cases hc
theorem KW{P:Program}{N:Nat}{code:Code}{c:C}(hc:zH P N code=some (.loop c)):∃b,code= .loop b∧zH P N b=some c:=by
 cases code with
 |loop b=>simp only[zH,Option.map_eq_some_iff,C.loop.injEq]at hc;obtain⟨b',hb,rfl⟩:=hc;exact⟨b,rfl,hb⟩
 |region id ops draw=>rcases jU hc with⟨_,h⟩|⟨_,h⟩|⟨_,h⟩|⟨_,_,h⟩|⟨_,_,h⟩|⟨_,_,h⟩|⟨_,_,h⟩|⟨_,h⟩<;>cases h
 |seq x y=>simp only[zH]at hc;split at hc<;>cases hc
 |cond x y z=>simp only[zH]at hc;split at hc<;>cases hc
 |rangeFunc f ps x y=>
  simp only[zH]at hc
  split at hc
  ·split at hc<;>cases hc
  ·cases hc
 |block id b=>simp only[zH,Option.map_eq_some_iff]at hc;obtain⟨_,_,h⟩:=hc;cases h
 |scope b=>simp only[zH,Option.map_eq_some_iff]at hc;obtain⟨_,_,h⟩:=hc;cases h
 |_=>simp[zH]at hc
theorem Ww{P:Program}{N:Nat}{code:Code}{c:C}(hc:zH P N code=some (.scope c)):∃b,code= .scope b∧zH P N b=some c:=by
 cases code with
 |scope b=>simp only[zH,Option.map_eq_some_iff,C.scope.injEq]at hc;obtain⟨b',hb,rfl⟩:=hc;exact⟨b,rfl,hb⟩
 |region id ops draw=>rcases jU hc with⟨_,h⟩|⟨_,h⟩|⟨_,h⟩|⟨_,_,h⟩|⟨_,_,h⟩|⟨_,_,h⟩|⟨_,_,h⟩|⟨_,h⟩<;>cases h
 |seq x y=>simp only[zH]at hc;split at hc<;>cases hc
 |cond x y z=>simp only[zH]at hc;split at hc<;>cases hc
 |rangeFunc f ps x y=>
  simp only[zH]at hc
  split at hc
  ·split at hc<;>cases hc
  ·cases hc
 |block id b=>simp only[zH,Option.map_eq_some_iff]at hc;obtain⟨_,_,h⟩:=hc;cases h
 |loop b=>simp only[zH,Option.map_eq_some_iff]at hc;obtain⟨_,_,h⟩:=hc;cases h
 |_=>simp[zH]at hc
def Zo:C→Nat→Option C
 | .seq a b,l=>match Zo a l with
   |some r=>some (.seq r b)
   |none=>Zo b l
 | .label l',l=>if l'==l then some .skip else none
 |_,_=>none
theorem zfC{P:Program}{N:Nat}{l:Nat}:∀ {code:Code}{c:C},zH P N code=some c→(Zo c l=none→findLabel code l=none)∧∀r,Zo c l=some r→∃r',findLabel code l=some r'∧zH P N r'=some r:=by
 intro code
 induction code with
 |seq x y ihx ihy=>
  intro c hc
  simp only[zH]at hc
  split at hc
  ·rename_i cx cy hx hy
   obtain rfl:=Option.some.inj hc
   obtain⟨x1,x2⟩:=ihx hx
   obtain⟨y1,y2⟩:=ihy hy
   cases hf:Zo cx l with
   |none=>
    have:=x1 hf
    simp only[Zo,hf,findLabel,this]
    exact⟨y1,y2⟩
   |some r=>
    obtain⟨r',h1,h2⟩:=x2 r hf
    simp only[Zo,hf,findLabel,h1]
    refine⟨fun h=>(by cases h),fun r0 h=> ?_⟩
    obtain rfl:=Option.some.inj h
    exact⟨_,rfl,by simp only[zH,h2,hy]⟩
  ·cases hc
 |label l'=>
  intro c hc
  simp only[zH,Option.some.injEq]at hc;subst hc
  simp only[Zo,findLabel]
  split
  ·refine⟨fun h=>(by cases h),fun r h=> ?_⟩
   obtain rfl:=Option.some.inj h;exact⟨_,rfl,rfl⟩
  ·exact⟨fun _=>rfl,fun r h=>by cases h⟩
 |region id ops draw=>
  intro c hc
  refine⟨fun _=>rfl,fun r h=> ?_⟩
  rcases jU hc with⟨_,rfl⟩|⟨_,rfl⟩|⟨_,rfl⟩|⟨_,_,rfl⟩|⟨_,_,rfl⟩|⟨_,_,rfl⟩|⟨_,_,rfl⟩|⟨_,rfl⟩<;>cases h
 |cond x ca cb _ _=>
  intro c hc
  simp only[zH]at hc
  split at hc
  ·obtain rfl:=Option.some.inj hc;exact⟨fun _=>rfl,fun r h=>by cases h⟩
  ·cases hc
 |block id b _=>intro c hc;simp only[zH,Option.map_eq_some_iff]at hc;obtain⟨_,_,rfl⟩:=hc;exact⟨fun _=>rfl,fun r h=>by cases h⟩
 |loop b _=>intro c hc;simp only[zH,Option.map_eq_some_iff]at hc;obtain⟨_,_,rfl⟩:=hc;exact⟨fun _=>rfl,fun r h=>by cases h⟩
 |scope b _=>intro c hc;simp only[zH,Option.map_eq_some_iff]at hc;obtain⟨_,_,rfl⟩:=hc;exact⟨fun _=>rfl,fun r h=>by cases h⟩
 |rangeFunc f ps x y _ _=>
  intro c hc
  simp only[zH]at hc
  split at hc
  ·split at hc
   ·obtain rfl:=Option.some.inj hc;exact⟨fun _=>rfl,fun r h=>by cases h⟩
   ·cases hc
  ·cases hc
 |refuse=>intro c hc;simp[zH]at hc
 |_=>intro c hc;simp only[zH,Option.some.injEq]at hc;subst hc;exact⟨fun _=>rfl,fun r h=>by cases h⟩
def zaV(l:Nat)(J:(Nat→V)→Heap→Prop)(Q:yv):yv:=fun x e h=>match x with| .goto l'=>l'=l∧J e h|x=>Q x e h
def Exit.jump'(l:Nat)(J:Act→World→Prop)(Q:Exit→Act→World→Prop):Exit→Act→World→Prop
 | .goto l',a,w=>l'=l∧J a w
 |e,a,w=>Q e a w
theorem Qf{P:Program}{c rest:Code}{Q:Exit→Act→World→Prop}{a:Act}{w:World}(l:Nat)(J:Nat→Act→World→Prop)(hf:findLabel c l=some rest)
  (first:c.wp P (Exit.jump' l (fun a w=>∃n,J n a w) Q) a w)
  (pass:∀n a w,J n a w→rest.wp P (Exit.jump' l (fun a' w'=>∃m,m<n∧J m a' w') Q) a w):(Code.scope c).wp P Q a w:=by
 intro b k cs
 have hg:gotoIn l (.inScope c::k)=some (.code rest:: .inScope c::k):=by simp[gotoIn,hf]
 have key:∀n a w,J n a w→∃e a' w',Q e a' w'∧Arrives P (lone (b.at a (.code rest:: .inScope c::k)) cs w) b k cs e a' w':=by
  intro n
  induction n using Nat.strongRecOn with
  |_ n ih=>
   intro a w hJ
   obtain⟨e,a₁,w₁,hq,harr⟩:=pass n a w hJ b (.inScope c::k) cs
   cases e with
   |normal=>exact⟨.normal,a₁,w₁,hq,Steps.trans harr (.one step_inScope)⟩
   |exit id=>exact⟨.exit id,a₁,w₁,hq,fun k' hk=>harr k' (by simp[exitTo,hk])⟩
   |goto l'=>
    obtain⟨rfl,m,hlt,hJ'⟩:=hq
    obtain⟨e₂,a₂,w₂,hq₂,harr₂⟩:=ih m hlt a₁ w₁ hJ'
    exact⟨e₂,a₂,w₂,hq₂,.of_steps (harr _ hg) harr₂⟩
   |ret=>exact⟨_,a₁,w₁,hq,harr⟩
   |panic ch=>exact⟨_,a₁,w₁,hq,harr⟩
   |outgrown=>exact⟨_,a₁,w₁,hq,harr⟩
 obtain⟨e,a₁,w₁,hq,harr⟩:=first b (.inScope c::k) cs
 cases e with
 |normal=>exact⟨.normal,a₁,w₁,hq,.head step_scope (Steps.trans harr (.one step_inScope))⟩
 |exit id=>exact⟨.exit id,a₁,w₁,hq,fun k' hk=>.head step_scope (harr k' (by simp[exitTo,hk]))⟩
 |goto l'=>
  obtain⟨rfl,n,hJ'⟩:=hq
  obtain⟨e₂,a₂,w₂,hq₂,harr₂⟩:=key n a₁ w₁ hJ'
  exact⟨e₂,a₂,w₂,hq₂,.of_steps (.head step_scope (harr _ hg)) harr₂⟩
 |ret=>exact⟨_,a₁,w₁,hq,.of_steps (.one step_scope) harr⟩
 |panic ch=>exact⟨_,a₁,w₁,hq,.of_steps (.one step_scope) harr⟩
 |outgrown=>exact⟨_,a₁,w₁,hq,.of_steps (.one step_scope) harr⟩
end Go.Sx
end
section
set_option linter.unusedSimpArgs false
set_option maxHeartbeats 1000000
namespace Go.Sx
inductive RV where
 |tmp (t:Nat)
 |cell (t:Nat) (n:Option Nat)
def zdw(P:Program):ResultVar→Option RV
 | .tmp t=>some (.tmp t)
 | .cell t ty=>(shp P ty).map (.cell t)
def ZN(P:Program):List ResultVar→Option (List RV)
 | []=>some []
 |x::r=>match zdw P x,ZN P r with|some y,some ys=>some (y::ys)|_,_=>none
def rvV(e:Nat→V)(h:Heap):RV→V
 | .tmp t=>(e t).un
 | .cell t n=>ldA n (h.cells (e t).un).1
def W1(e:Nat→V)(h:Heap):RV→Bool
 | .tmp t=>(e t).gok
 | .cell t n=>(e t).gok&&(h.cells (e t).un).2&&decide (n.getD 1≤(h.cells (e t).un).1.length)
def WZ(rs:List RV)(e:Nat→V)(h:Heap):V:=
 match rs with
 | [r]=>rvV e h r
 |rs=>.tup (rs.map (rvV e h))
def zci(rs:List RV)(K:V→Heap→Prop):yv:=fun x e h=>
 match x with
 | .normal| .ret=>rs.all (W1 e h)=true∧K (WZ rs e h) h
 |_=>False
structure FnC where
 n:Nat
 rs:List RV
 body:C
def zr(P:Program)(f:FuncId):Option FnC:=
 match P.funcs[f]? with
 |some fn=>if fn.name== "runtime.NumGoroutine" then none else
  match fn.body with
  |some c=>match zH P fn.ntmps c,ZN P fn.results.toList with
   |some b,some rs=>some ⟨fn.ntmps,rs,b⟩
   |_,_=>none
  |none=>none
 |none=>none
def KI(args:List V):Nat→V:=fun i=>args.getD i (.c undef)
section
variable {P:Program} {N:Nat} {g g':Gh} {e:Nat→V} {h h':Heap} {w w' w0:World} {own0:Own} {a:Act}
def zbl(tmps:Array Value):ResultVar→Sem Value
 | .tmp t=>pure (tmps.getD t undef)
 | .cell a t=>do loadVar t (←asAddr (tmps.getD a undef))
theorem ziO(fn:Func)(tmps:Array Value):results fn tmps=(do let vs ←fn.results.mapM (zbl tmps);pure (if h:vs.size=1 then vs[0]else .tuple vs)):=by
 unfold results
 congr 2
theorem zBb(R:Rel N g e h w0 own0 a w){x:ResultVar}{y:RV}(hc:zdw P x=some y)(hok:W1 e h y=true):
  ∃cv,(zbl a.tmps x).run P w= .ok cv w∧VRep g w cv (rvV e h y):=by
 cases x with
 |tmp t=>
  simp only[zdw,Option.some.injEq]at hc;subst hc
  exact⟨_,rfl,(R.tm t).un hok⟩
 |cell p t=>
  simp only[zdw,Option.map_eq_some_iff]at hc
  obtain⟨n,hn,rfl⟩:=hc
  simp only[W1,Bool.and_eq_true,decide_eq_true_eq]at hok
  have hv:=(R.tm p).un hok.1.1
  obtain⟨cv,h1,h2⟩:=zbv hn R.heap hv hok.1.2 hok.2
  obtain⟨b,o,xs,hp,_,_⟩:=zav R.heap hv hok.1.2
  refine⟨cv,?_,h1⟩
  have:=h2 w (Grow.refl w)
  rw[hp]at this
  simp only[zbl,hp]
  simpa[Instr.loadAt,Instr.sureAddr,asAddr]using this
theorem zkT(R:Rel N g e h w0 own0 a w):∀ {xs:List ResultVar}{ys:List RV},ZN P xs=some ys→ys.all (W1 e h)=true→
  ∃vs:List Value,(xs.mapM (zbl a.tmps)).run P w= .ok vs w∧vs.length=ys.length∧
   ∀i,i<ys.length→VRep g w (vs.getD i undef) ((ys.map (rvV e h)).getD i .any)
 | [],ys,hc,_=>by simp[ZN]at hc;subst hc;exact⟨[],rfl,rfl,by simp⟩
 |x::xs,ys,hc,hok=>by
  simp only[ZN]at hc
  split at hc
  ·rename_i y zs hy hzs
   obtain rfl:=Option.some.inj hc
   simp only[List.all_cons,Bool.and_eq_true]at hok
   obtain⟨cv,h1,h2⟩:=zBb R hy hok.1
   obtain⟨vs,h3,h4,h5⟩:=zkT R hzs hok.2
   refine⟨cv::vs,?_,by simp[h4],fun i hi=> ?_⟩
   ·rw[List.mapM_cons]
    simp only[Sem.run_bind,h1,h3,Result.andThen_ok,Sem.run_pure]
   ·cases i with
    |zero=>simpa using h2
    |succ i=>simpa using h5 i (by simpa using hi)
  ·cases hc
theorem zgi(R:Rel N g e h w0 own0 a w){fn:Func}{rs:List RV}(hc:ZN P fn.results.toList=some rs)(hok:rs.all (W1 e h)=true):
  ∃cv,(results fn a.tmps).run P w= .ok cv w∧VRep g w cv (WZ rs e h):=by
 obtain⟨vs,h1,h2,h3⟩:=zkT R hc hok
 have hrun:(fn.results.mapM (zbl a.tmps)).run P w= .ok vs.toArray w:=by
  rw[Array.mapM_eq_mapM_toList]
  simp only[Sem.run_map,h1,Result.andThen_ok]
 rw[ziO]
 by_cases h1':vs.length=1
 ·obtain⟨v,rfl⟩:=List.length_eq_one_iff.1 h1'
  obtain⟨r,rfl⟩:=List.length_eq_one_iff.1 (h2▸h1':rs.length=1)
  refine⟨v,?_,by simpa[WZ]using h3 0 (by simp)⟩
  simp only[Sem.run_bind,hrun,Result.andThen_ok,Sem.run_pure]
  simp
 ·refine⟨.tuple vs.toArray,?_,?_⟩
  ·simp only[Sem.run_bind,hrun,Result.andThen_ok,Sem.run_pure]
   simp[h1']
  ·have hr:WZ rs e h= .tup (rs.map (rvV e h)):=by
    unfold WZ
    split
    ·simp at h2;omega
    ·rfl
   rw[hr]
   refine .tup _ _ (by simp[h2]) fun i hi=> ?_
   simpa[Array.getD_eq_getD_getElem?,List.getD_eq_getElem?_getD]using h3 i (by simpa using hi)
theorem zwL(hds:own0.ds= []){args:List V}{cargs:Array Value}(hn:args.length≤N)(hs:cargs.size=args.length)(hv:∀i,i<args.length→VRep g w (cargs.getD i undef) (args.getD i .any))(H:HRel g h w w0 own0):
  Rel N g (KI args) h w0 own0 {tmps:=cargs++Array.replicate (N - cargs.size) undef,defers:=[]} w:=by
 refine⟨by simp;omega,fun i=> ?_,⟨[],by simp[hds],trivial⟩,H⟩
 unfold KI
 by_cases hi:i<args.length
 ·have:=hv i hi
  simpa[Array.getD_eq_getD_getElem?,Array.getElem?_append_left (show i<cargs.size by omega),List.getD_eq_getElem?_getD,hi]using this
 ·have e1:args.getD i (.c undef)= .c undef:=by simp[List.getD_eq_getElem?_getD,List.getElem?_eq_none (Nat.le_of_not_lt hi)]
  rw[e1]
  refine VRep.of_eq ?_
  simp only[Array.getD_eq_getD_getElem?]
  rw[Array.getElem?_append_right (by omega)]
  by_cases h2:i - cargs.size<N - cargs.size
  ·rw[Array.getElem?_replicate,if_pos h2];rfl
  ·rw[Array.getElem?_replicate,if_neg h2];rfl
theorem Yf{f:FuncId}{fc:FnC}(hf:zr P f=some fc):kj P f=true∧∃fn c,P.funcs[f]? =some fn∧fn.body=some c∧fc.n=fn.ntmps∧zH P fn.ntmps c=some fc.body∧ZN P fn.results.toList=some fc.rs:=by
 unfold zr at hf
 split at hf
 ·rename_i fn hfn
  split at hf
  ·cases hf
  ·rename_i hname
   split at hf
   ·rename_i c hb
    split at hf
    ·rename_i b rs hcb hcr
     obtain rfl:=Option.some.inj hf
     refine⟨?_,fn,c,hfn,hb,rfl,hcb,hcr⟩
     simp[kj,hfn,hb,hname]
    ·cases hf
   ·cases hf
 ·cases hf
theorem zcY{fn:Func}{rs:List RV}(hc:ZN P fn.results.toList=some rs){e:Nat→V}{h:Heap}(hok:rs.all (W1 e h)=true){K:V→Heap→Prop}(hK:K (WZ rs e h) h){tmps:Array Value}(hsz:tmps.size=N):
  ∀ {ds:List Deferred}{w:World},(∀i,VRep g w (tmps.getD i undef) (e i))→HRel g h w w0 own0→DOK w0.heap.size g w ds→
  LeavesInM Fence.wide 1 P fn tmps (fun e w'=>∃g' h' cv v,e= .returned cv∧HRel g' h' w' w0 own0∧VRep g' w' cv v∧K v h') ds .returning w
 | [],w,ht,H,_=>by
   have R:Rel N g e h w0 ⟨own0.o,own0.F,own0.g,[]⟩ {tmps:=tmps,defers:=[]} w:=⟨hsz,ht,⟨[],rfl,trivial⟩,H.ds []⟩
   obtain⟨cv,k3,k4⟩:=zgi R hc hok
   exact⟨cv,k3,g,h,cv,_,rfl,H,k4,hK⟩
 |d::ds,w,ht,H,hd=>by
  obtain⟨⟨D,a,b,c,dd,ee⟩,r⟩:=hd
  subst a
  have s:Swap w0.heap.size w (w.putObj D (.deferred none)):=by
   refine⟨rfl,rfl,rfl,by simp,fun k hk=>World.putObj_heap_other (by omega),fun k cur el m hk=> ?_,fun k es c hk=> ?_⟩
   ·rw[World.putObj_heap_other]
    ·exact hk
    ·intro e;subst e;rw[hk]at dd;cases dd
   ·rw[World.putObj_heap_other]
    ·exact hk
    ·intro e;subst e;rw[hk]at dd;cases dd
  refine⟨by simp,.inl ⟨D,_,rfl,run_takeDeferred dd,?_⟩⟩
  refine zcY hc hok hK hsz (fun i=>(ht i).swap s) (H.swap s (Nat.le_refl _)) ?_
  clear ht H hok hK
  induction ds with
  |nil=>trivial
  |cons d' ds ih=>
   obtain⟨⟨D',a',b',c',dd',ee'⟩,r'⟩:=r
   refine⟨⟨D',a',b',c',?_,ee'⟩,ih r' (fun x hx=>ee x (List.mem_cons_of_mem _ hx))⟩
   rw[World.putObj_heap_other]
   ·exact dd'
   ·intro e;subst e
    exact ee d' (List.mem_cons_self ..) (by rw[a'])
theorem zau(T:Orc P)(hds:own0.ds= []){f:FuncId}{fc:FnC}(hf:zr P f=some fc){args:List V}(hn:args.length≤fc.n){K:V→Heap→Prop}(hw:wpC ⟨P,T,fc.n,w0,own0⟩ fc.body (zci fc.rs K) (KI args) h)
  {cargs:Array Value} (H:HRel g h w w0 own0) (hs:cargs.size=args.length) (hv:∀i,i<args.length→VRep g w (cargs.getD i undef) (args.getD i .any)):
  Calls P f cargs w fun e w'=>∃g' h' cv v,e= .returned cv∧HRel g' h' w' w0 own0∧VRep g' w' cv v∧K v h':=by
 obtain⟨_,fn,c,h1,h2,h3,h4,h5⟩:=Yf hf
 rw[h3]at hn hw
 refine callsIn_wide.1 (callsIn_of_wp_marks (n:=1) h1 h2 trivial (wpIn_wide.2 (wp_mono (Yd _ hw c h4 g _ w (zwL hds hn hs hv H)) fun x a' w' hq=> ?_)))
 obtain⟨g',e',h',R',q⟩:=hq
 have key:fc.rs.all (W1 e' h')=true∧K (WZ fc.rs e' h') h'→LeavesInM Fence.wide 1 P fn a'.tmps (fun e w'=>∃g' h' cv v,e= .returned cv∧HRel g' h' w' w0 own0∧VRep g' w' cv v∧K v h') a'.defers .returning w':=by
  rintro⟨k1,k2⟩
  obtain⟨m,hm,hd⟩:=R'.defers
  rw[hm,hds,List.append_nil]
  exact zcY h5 k1 k2 R'.size R'.tm R'.heap hd
 cases x<;>simp only[zci]at q<;>simp only[bodyPostM]
 ·exact key q
 ·exact key q
theorem zf.of(T:Orc P){f:FuncId}{fc:FnC}(hf:zr P f=some fc){args:List V}{r:V}(hn:args.length≤fc.n)
  (hw:∀w0 own0,wpC ⟨P,T,fc.n,w0,own0⟩ fc.body (zci fc.rs fun v h=>res (fun _=>true) h 12 v=some r) (KI args) ⟨[],0⟩):zf P f args r:=by
 refine⟨(Yf hf).1,fun F w cargs hF hs hv=> ?_⟩
 have H:HRel ⟨F,[],fun _ _=>False⟩ ⟨[],0⟩ w w ⟨fun _=>False,F,⟨F,[],fun _ _=>False⟩,[]⟩:=by
  refine⟨fun _ _ h=>h.elim,rfl,by simp,by simp,by simp,hF.1,by simp,Frm.refl _ _,fun b hb=>.inl hb,Ext.refl _ _,hF.2⟩
 refine(zau T rfl hf hn (hw w _) H hs fun i hi=>.p _ _ (hv i hi)).mono fun e w' he=> ?_
 obtain⟨g',h',cv,v,rfl,H',hv',hr⟩:=he
 have hg:Grow w w':=⟨H'.frm.os,H'.frm.tape,H'.frm.output,H'.frm.size,fun b hb=>H'.frm.block b hb (by simp)⟩
 refine⟨cv,rfl,hg,(jL H' 12 hv' hr).mono (fun b hb=> ?_) (fun _ _=>rfl)⟩
 rcases hb with hb|⟨j,I,hI,hIb,_⟩
 ·rcases H'.fin b hb with h|h|h
  ·exact .inl h
  ·exact h.elim
  ·exact .inr ⟨h,H'.Flt b hb⟩
 ·rcases H'.own j I b hI hIb with h|h
  ·exact h.elim
  ·exact .inr ⟨h,H'.blt hI hIb⟩
end
def zqT(sz:Nat)(h:Heap):V→Option (List (List V))
 | .c (.slice none 0 0)=>some []
 | .ref j ver off n=>if decide (off=0)&&h.cur j ver&& !(h.blk j).fz&&(h.blk j).sz==sz&&decide (n≤(h.blk j).es.length)then zA (zA (res (fun i=>i != j) h 11)) ((h.blk j).es.take n)else none
 |_=>none
section
variable {P:Program}
theorem ZL.of(T:Orc P){f:FuncId}{fc:FnC}(hf:zr P f=some fc){args:List V}{sz:Nat}(d:List V){es:List (List V)}(hn:args.length≤fc.n)
  (hw:∀w0 own0,wpC ⟨P,T,fc.n,w0,own0⟩ fc.body (zci fc.rs fun v h=>zqT sz h v=some es) (KI args) ⟨[],0⟩):ZL P f args sz d es:=by
 refine⟨(Yf hf).1,fun F w cargs hF hs hv=> ?_⟩
 have H:HRel ⟨F,[],fun _ _=>False⟩ ⟨[],0⟩ w w ⟨fun _=>False,F,⟨F,[],fun _ _=>False⟩,[]⟩:=by
  refine⟨fun _ _ h=>h.elim,rfl,by simp,by simp,by simp,hF.1,by simp,Frm.refl _ _,fun b hb=>.inl hb,Ext.refl _ _,hF.2⟩
 refine(zau T rfl hf hn (hw w _) H hs fun i hi=>.p _ _ (hv i hi)).mono fun e w' he=> ?_
 obtain⟨g',h',cv,v,rfl,H',hv',hr⟩:=he
 have hg:Grow w w':=⟨H'.frm.os,H'.frm.tape,H'.frm.output,H'.frm.size,fun b hb=>H'.frm.block b hb (by simp)⟩
 have hFo:∀b,F b→g'.F b:=fun b hb=>H'.ext.F b hb
 have fin:∀b,g'.F b→F b∨(w.heap.size≤b∧b<w'.heap.size):=fun b hb=>by
  rcases H'.fin b hb with h|h|h
  ·exact .inl h
  ·exact h.elim
  ·exact .inr ⟨h,H'.Flt b hb⟩
 unfold zqT at hr
 split at hr
 ·obtain rfl:=Option.some.inj hr
  refine⟨cv,⟨0,none,sz,0⟩,g'.F,rfl,hg,hFo,fin,rfl,?_,by simp,fun _=>rfl,fun b hb=>by cases hb⟩
  simp[qu,hv'.inv_c]
 ·rename_i j ver off n
  split at hr
  ·rename_i hc
   simp only[Bool.and_eq_true,decide_eq_true_eq,Bool.not_eq_true',beq_iff_eq]at hc
   obtain⟨⟨⟨⟨rfl,hcur⟩,hfz⟩,hsz⟩,hle⟩:=hc
   obtain⟨B,I,hB,hI,hbl,hBv,hIv,hk⟩:=H'.cur hcur
   rw[hbl]at hfz hsz hle hr
   have hro:=hv'.inv_ref.2 I hI hIv
   obtain⟨hl,hes⟩:=ky hr
   have hln:n=es.length:=by rw[←hl,List.length_take];omega
   have helem:∀(i:Nat),i<es.length→zA (res (fun i=>i != j) h' 11) (B.es.getD i [])=some (es.getD i []):=fun i hi=>by
    have hi':i<B.es.length:=by omega
    obtain⟨zs,h1,h2⟩:=hes i (B.es[i]) (by simp[List.getElem?_take,show i<n by omega,hi'])
    simpa[List.getD_eq_getElem?_getD,hi',h1]using h2
   have hesl:∀e∈es,e.length=sz:=by
    intro e he
    obtain⟨i,hi,rfl⟩:=List.mem_iff_getElem.1 he
    have:=(ky (helem i hi)).1
    have h3:es.getD i []=es[i]:=by simp[List.getD_eq_getElem?_getD,hi]
    rw[h3]at this
    rw[←this,←hsz]
    have hi':i<B.es.length:=by omega
    exact hk.len _ (by rw[List.getD_eq_getElem?_getD,List.getElem?_eq_getElem hi'];exact List.getElem_mem _)
   refine⟨cv,⟨ver,I.blk,sz,I.cap⟩,FZ g' (fun i=>i != j),rfl,hg,fun b hb=>.inl (hFo b hb),fun b hb=> ?_,rfl,?_,hesl,fun hb=> ?_,fun b hb=> ?_⟩
   ·rcases hb with hb|⟨k,J,hJ,hJb,_⟩
    ·exact fin b hb
    ·rcases H'.own k J b hJ hJb with h|h
     ·exact h.elim
     ·exact .inr ⟨h,H'.blt hJ hJb⟩
   ·rw[←hln]
    have hIs:I.sz=sz:=hk.sz.trans hsz
    have e1:qu ⟨ver,I.blk,sz,I.cap⟩ 0 n cv=qu I 0 n cv:=by rw[←hIs];rfl
    rw[e1];exact hro
   ·have:=hk.gone hb
    rw[this]at hle
    simp only[List.length_nil]at hle
    exact List.eq_nil_of_length_eq_zero (by omega)
   ·obtain⟨cur,el,k1,k2,k3,k4,k5⟩:=hk.here b hb
    refine⟨(by rcases H'.own j I b hI hb with h|h;exact h.elim;exact h),?_,cur,el,k1,by rw[k2,hsz],by dsimp only;omega,k4,fun i k hi hk'=> ?_⟩
    ·rintro(hF'|⟨k,J,hJ,hJb,hS⟩)
     ·exact hk.nf b hb hfz hF'
     ·have:=H'.dist k j J I b hJ hI hJb hb
      subst this
      simp at hS
    ·rw[←hsz]at hk'⊢
     obtain⟨q1,q2⟩:=k5 i k (by omega) hk'
     refine⟨q1,jL H' 11 q2 ?_⟩
     have h1:=helem i hi
     exact kE h1 (by rw[hesl _ (by rw[List.getD_eq_getElem?_getD,List.getElem?_eq_getElem hi];exact List.getElem_mem _),←hsz];exact hk')
  ·cases hr
 ·cases hr
end
theorem jG.any{cx:Cx}{e e':Nat→V}{h:Heap}(he:∀i,e' i=e i∨e' i= .any):jG cx e h e' h:=fun g a w R=>
 ⟨g,R.size,fun i=>by rcases he i with h|h<;>rw[h];exact R.tm i;exact VRep.any _,R.defers,R.heap⟩
theorem y5{α:Type}{l:List α}{n j:Nat}{x:α}(h:(l.take n)[j]? =some x):l[j]? =some x:=by
 rw[List.getElem?_take]at h
 split at h
 ·exact h
 ·cases h
theorem jG.drop{cx:Cx}{e:Nat→V}{h:Heap}(n:Nat):jG cx e h e ⟨h.bs.take n,h.clk⟩:=fun g a w R=>by
 have ex:Ext g w ⟨g.F,g.inf.take n,g.us⟩ w:=⟨⟨fun _ h=>h,fun _ _=>rfl,fun _ _ h=>h,fun j I hI _=>y5 hI⟩,fun _ _ h=>.inl h⟩
 refine⟨⟨g.F,g.inf.take n,g.us⟩,R.size,fun i=>(R.tm i).mono ex,(let⟨m,hm,hd⟩:=R.defers;⟨m,hm,hd.mono ex⟩),?_⟩
 have H:=R.heap
 refine⟨H.clk,by simp[H.len],fun j B I hB hI=> ?_,fun j I hI=>H.vlt j I (y5 hI),fun j k I J b hI hJ=>H.dist j k I J b (y5 hI) (y5 hJ),H.Flt,fun j I b hI=>H.own j I b (y5 hI),H.frm,H.fin,H.ext.trans ex,H.glb⟩
 have hk:=H.ok j B I (y5 hB) (y5 hI)
 exact⟨hk.ver,hk.sz,hk.len,hk.gone,fun b hb=>(hk.here b hb).mono ex rfl,hk.fz,hk.nf⟩
theorem jG.nil{cx:Cx}{e:Nat→V}{h:Heap}(d sz:Nat)(z:List V)(hd:e d= .c (.slice none 0 0)):jG cx e h (upd e d (.ref h.bs.length h.clk 0 0)) (h.alloc sz z []):=fun g a w R=>by
 obtain⟨ex,H'⟩:=R.heap.new (Grow.refl w) (I:=⟨h.clk,none,sz,0⟩) (sz:=sz) (es:=[]) rfl rfl (by simp) (by simp) (by simp) (by simp)
 refine⟨_,R.size,fun i=> ?_,(let⟨m,hm,hd⟩:=R.defers;⟨m,hm,hd.mono ex⟩),H'⟩
 simp only[upd]
 split
 ·rename_i hi
  subst hi
  have hv:=(R.tm i)
  rw[hd]at hv
  refine .ref _ _ _ _ _ (.inr ⟨rfl,rfl⟩) fun J hJ hJv=> ?_
  rw[←R.heap.len]at hJ
  simp at hJ
  subst hJ
  simp[qu,hv.inv_c]
 ·exact(R.tm i).mono ex
theorem HRel.recell{g:Gh}{h:Heap}{w w0:World}{own0:Own}(H:HRel g h w w0 own0){j:Nat}{B B':Blk}(hB:h.bs[j]? =some B)(h1:B'.ver=B.ver)(h2:B'.sz=B.sz)(h3:B'.fz=B.fz)(h4:B'.es.length=B.es.length)(h5:∀e∈B'.es,e.length=B'.sz)
  (hc:∀v i k,VRep g w v ((B.es.getD i []).getD k .any)→VRep g w v ((B'.es.getD i []).getD k .any)):HRel g ⟨h.bs.set j B',h.clk⟩ w w0 own0:=by
 have hj:j<h.bs.length:=(List.getElem?_eq_some_iff.1 hB).1
 refine⟨H.clk,by simp[H.len],fun k C K hC hK=> ?_,H.vlt,H.dist,H.Flt,H.own,H.frm,H.fin,H.ext,H.glb⟩
 by_cases hkj:k=j
 ·subst hkj
  simp only[List.getElem?_set_self hj]at hC
  obtain rfl:=Option.some.inj hC
  have hk:=H.ok k B K hB hK
  refine⟨hk.ver.trans h1.symm,hk.sz.trans h2.symm,h5,fun hn=> ?_,fun b hb=> ?_,fun b hb hf=>hk.fz b hb (h3▸hf),fun b hb hf=>hk.nf b hb (h3▸hf)⟩
  ·have:=hk.gone hn;rw[this]at h4;exact List.eq_nil_of_length_eq_zero h4
  ·obtain⟨cur,e,c1,c2,c3,c4,c5⟩:=hk.here b hb
   exact⟨cur,e,c1,by rw[h2];exact c2,by omega,c4,fun i m hi hm=>by rw[h2]at hm ⊢;exact⟨(c5 i m (by omega) hm).1,hc _ i m (c5 i m (by omega) hm).2⟩⟩
 ·simp only[List.getElem?_set_ne (Ne.symm hkj)]at hC
  exact H.ok k C K hC hK
theorem jG.cell{cx:Cx}{e:Nat→V}{h:Heap}(j i k sz:Nat)(z:List V){B:Blk}(hB:h.bs[j]? =some B)(hv:(B.es.getD i []).getD k .any= .c (.slice none 0 0)):
  jG cx e h e (Heap.alloc ⟨h.bs.set j ⟨B.ver,B.sz,B.es.set i ((B.es.getD i []).set k (.ref h.bs.length h.clk 0 0)),B.fz,B.d⟩,h.clk⟩ sz z []):=fun g a w R=>by
 obtain⟨ex,H'⟩:=R.heap.new (Grow.refl w) (I:=⟨h.clk,none,sz,0⟩) (sz:=sz) (d:=z) (es:=[]) rfl rfl (by simp) (by simp) (by simp) (by simp)
 have hj:j<h.bs.length:=(List.getElem?_eq_some_iff.1 hB).1
 have hB':(h.alloc sz z []).bs[j]? =some B:=by simp only[Heap.alloc];rw[List.getElem?_append_left hj];exact hB
 have hlen:∀e∈B.es,e.length=B.sz:=by
  have hjI:j<g.inf.length:=by rw[R.heap.len];exact hj
  exact(R.heap.ok j B _ hB (List.getElem?_eq_getElem hjI)).len
 have H2:=H'.recell (B':=⟨B.ver,B.sz,B.es.set i ((B.es.getD i []).set k (.ref h.bs.length h.clk 0 0)),B.fz,B.d⟩) hB' rfl rfl rfl (by simp) (fun c hc=> ?_) (fun v i' k' hvr=> ?_)
 ·refine⟨_,R.size,fun i=>(R.tm i).mono ex,(let⟨m,hm,hd⟩:=R.defers;⟨m,hm,hd.mono ex⟩),?_⟩
  have e1:(h.alloc sz z []).bs.set j ⟨B.ver,B.sz,B.es.set i ((B.es.getD i []).set k (.ref h.bs.length h.clk 0 0)),B.fz,B.d⟩=h.bs.set j ⟨B.ver,B.sz,B.es.set i ((B.es.getD i []).set k (.ref h.bs.length h.clk 0 0)),B.fz,B.d⟩++ [⟨h.clk,sz,[],false,z⟩]:=by
   simp only[Heap.alloc];rw[List.set_append_left _ _ hj]
  rw[e1]at H2
  exact H2
 ·rcases List.mem_or_eq_of_mem_set hc with hc|rfl
  ·exact hlen c hc
  ·rw[List.length_set]
   by_cases hi:i<B.es.length
   ·rw[List.getD_eq_getElem?_getD,List.getElem?_eq_getElem hi];exact hlen _ (List.getElem_mem _)
   ·rw[List.set_eq_of_length_le (by omega)]at hc
    simp only[]at hc
    rw[List.getD_eq_getElem?_getD,List.getElem?_eq_none (by omega)]at hc⊢
    exact hlen _ (by simpa using hc)
 ·by_cases hii:i'=i∧k'=k∧i<B.es.length∧k<(B.es.getD i []).length
  ·obtain⟨rfl,rfl,hi,hk⟩:=hii
   have e2:((B.es.set i' ((B.es.getD i' []).set k' (.ref h.bs.length h.clk 0 0))).getD i' []).getD k' .any= .ref h.bs.length h.clk 0 0:=by
    simp only[List.getD_eq_getElem?_getD]at hk⊢
    rw[List.getElem?_set_self hi]
    simp only[Option.getD_some]
    rw[List.getElem?_set_self hk];rfl
   simp only[e2]
   rw[hv]at hvr
   refine .ref _ _ _ _ _ (.inr ⟨rfl,rfl⟩) fun J hJ hJv=> ?_
   rw[←R.heap.len]at hJ
   simp at hJ
   subst hJ
   simp[qu,hvr.inv_c]
  ·have e2:((B.es.set i ((B.es.getD i []).set k (.ref h.bs.length h.clk 0 0))).getD i' []).getD k' .any=(B.es.getD i' []).getD k' .any:=by
    by_cases hi:i'=i
    ·subst hi
     by_cases hl:i'<B.es.length
     ·simp only[List.getD_eq_getElem?_getD]at hii⊢
      rw[List.getElem?_set_self hl]
      simp only[Option.getD_some]
      by_cases hkk:k'=k
      ·subst hkk
       rw[List.set_eq_of_length_le]
       have:¬k'<(B.es[i']?.getD []).length:=fun hh=>hii ⟨by trivial,by trivial,hl,hh⟩
       omega
      ·rw[List.getElem?_set_ne (Ne.symm hkk)]
     ·rw[List.set_eq_of_length_le (by omega)]
    ·simp only[List.getD_eq_getElem?_getD]
     rw[List.getElem?_set_ne (Ne.symm hi)]
   simp only[e2];exact hvr
theorem jG.freeze{cx:Cx}{e:Nat→V}{h:Heap}:jG cx e h e (h.freeze fun _=>true):=fun g a w R=>by
 have H:=R.heap
 have hF':∀b,g.F b→FZ g (fun _=>true) b:=fun b hb=>.inl hb
 have ex:Ext g w ⟨FZ g fun _=>true,g.inf,g.us⟩ w:=⟨⟨hF',fun b hb=>rfl,fun _ _ h=>h,fun _ _ h _=>h⟩,fun _ _ h=>.inl h⟩
 refine⟨⟨FZ g fun _=>true,g.inf,g.us⟩,R.size,fun i=>(R.tm i).mono ex,(let⟨m,hm,hd⟩:=R.defers;⟨m,hm,hd.mono ex⟩),?_⟩
 refine⟨H.clk,by simp[Heap.freeze,H.len],fun j B I hB hI=> ?_,H.vlt,H.dist,fun b hb=>Ql H hb,H.own,H.frm,fun b hb=> ?_,H.ext.trans ex,H.glb⟩
 ·simp only[Heap.freeze,List.getElem?_mapIdx,Option.map_eq_some_iff]at hB
  obtain⟨B0,hB0,rfl⟩:=hB
  have hk:=H.ok j B0 I hB0 hI
  refine⟨hk.ver,hk.sz,hk.len,hk.gone,fun b hb=>(hk.here b hb).mono ex rfl,fun b hb hf=>.inr ⟨j,I,hI,hb,rfl⟩,fun b hb hf hF=> ?_⟩
  simp at hf
 ·rcases hb with hb|⟨k,J,hJ,hJb,_⟩
  ·exact H.fin b hb
  ·exact .inr (H.own k J b hJ hJb)
theorem jG.seal{cx:Cx}{e e':Nat→V}{h:Heap}(he:∀i,e' i=e i∨res (fun _=>true) h 12 (e i)=some (e' i)):jG cx e h e' (h.freeze fun _=>true):=fun g a w R=>by
 have H:=R.heap
 have hF':∀b,g.F b→FZ g (fun _=>true) b:=fun b hb=>.inl hb
 have ex:Ext g w ⟨FZ g fun _=>true,g.inf,g.us⟩ w:=⟨⟨hF',fun b hb=>rfl,fun _ _ h=>h,fun _ _ h _=>h⟩,fun _ _ h=>.inl h⟩
 refine⟨⟨FZ g fun _=>true,g.inf,g.us⟩,R.size,fun i=> ?_,(let⟨m,hm,hd⟩:=R.defers;⟨m,hm,hd.mono ex⟩),?_⟩
 ·rcases he i with h|h
  ·rw[h];exact(R.tm i).mono ex
  ·exact .p _ _ (jL H 12 (R.tm i) h)
 refine⟨H.clk,by simp[Heap.freeze,H.len],fun j B I hB hI=> ?_,H.vlt,H.dist,fun b hb=>Ql H hb,H.own,H.frm,fun b hb=> ?_,H.ext.trans ex,H.glb⟩
 ·simp only[Heap.freeze,List.getElem?_mapIdx,Option.map_eq_some_iff]at hB
  obtain⟨B0,hB0,rfl⟩:=hB
  have hk:=H.ok j B0 I hB0 hI
  refine⟨hk.ver,hk.sz,hk.len,hk.gone,fun b hb=>(hk.here b hb).mono ex rfl,fun b hb hf=>.inr ⟨j,I,hI,hb,rfl⟩,fun b hb hf hF=> ?_⟩
  simp at hf
 ·rcases hb with hb|⟨k,J,hJ,hJb,_⟩
  ·exact H.fin b hb
  ·exact .inr (H.own k J b hJ hJb)
theorem HRel.drop{g:Gh}{h:Heap}{w w0:World}{own0:Own}(H:HRel g h w w0 own0)(n:Nat):Ext g w ⟨g.F,g.inf.take n,g.us⟩ w∧HRel ⟨g.F,g.inf.take n,g.us⟩ ⟨h.bs.take n,h.clk⟩ w w0 own0:=by
 have ex:Ext g w ⟨g.F,g.inf.take n,g.us⟩ w:=⟨⟨fun _ h=>h,fun _ _=>rfl,fun _ _ h=>h,fun j I hI _=>y5 hI⟩,fun _ _ h=>.inl h⟩
 refine⟨ex,?_⟩
 refine⟨H.clk,by simp[H.len],fun j B I hB hI=> ?_,fun j I hI=>H.vlt j I (y5 hI),fun j k I J b hI hJ=>H.dist j k I J b (y5 hI) (y5 hJ),H.Flt,fun j I b hI=>H.own j I b (y5 hI),H.frm,H.fin,H.ext.trans ex,H.glb⟩
 have hk:=H.ok j B I (y5 hB) (y5 hI)
 exact⟨hk.ver,hk.sz,hk.len,hk.gone,fun b hb=>(hk.here b hb).mono ex rfl,hk.fz,hk.nf⟩
theorem zQ.walk{P:Program}(T:Orc P){f:FuncId}{fc:FnC}(hf:zr P f=some fc){args:List V}{r:V}{h h':Heap}(hn:args.length≤fc.n)
  (hw:∀w0 own0,wpC ⟨P,T,fc.n,w0,own0⟩ fc.body (zci fc.rs fun v h2=>v=r∧h2.bs.take h'.bs.length=h'.bs∧h2.clk=h'.clk) (KI args) h):zQ P f args h r h':=by
 refine⟨(Yf hf).1,fun g w w0 own0 cargs H hs hv=> ?_⟩
 have H1:HRel g h w w ⟨fun b=>∃(j:Nat)(I:Inf),g.inf[j]? =some I∧I.blk=some b,g.F,g,[]⟩:=
  ⟨H.clk,H.len,H.ok,H.vlt,H.dist,H.Flt,fun j I b hI hb=>.inl ⟨j,I,hI,hb⟩,Frm.refl _ _,fun b hb=>.inl hb,Ext.refl _ _,H.glbw⟩
 refine(zau T rfl hf hn (hw w _) H1 hs hv).mono fun e w' he=> ?_
 obtain⟨g1,h1,cv,v,rfl,H2,hcv,rfl,hb,hc⟩:=he
 obtain⟨ex,H3⟩:=H2.drop h'.bs.length
 rw[hb,hc]at H3
 have hex:=H3.ext
 refine⟨_,cv,rfl,?_,hex,hcv.mono ex⟩
 refine⟨H3.clk,H3.len,H3.ok,H3.vlt,H3.dist,H3.Flt,fun j I b hI hIb=> ?_,?_,fun b hb=> ?_,H.ext.trans hex,H.glb⟩
 ·rcases H3.own j I b hI hIb with⟨k,J,hJ,hJb⟩|hge
  ·exact H.own k J b hJ hJb
  ·exact .inr (Nat.le_trans H.frm.size hge)
 ·refine⟨H3.frm.os.trans H.frm.os,H3.frm.tape.trans H.frm.tape,H3.frm.output.trans H.frm.output,Nat.le_trans H.frm.size H3.frm.size,fun b hlt hno=> ?_⟩
  refine(H3.frm.block b (Nat.lt_of_lt_of_le hlt H.frm.size) ?_).trans (H.frm.block b hlt hno)
  rintro⟨j,I,hI,hIb⟩
  rcases H.own j I b hI hIb with ho|hge
  ·exact hno ho
  ·omega
 ·rcases H3.fin b hb with hF|⟨k,J,hJ,hJb⟩|hge
  ·exact H.fin b hF
  ·exact .inr (H.own k J b hJ hJb)
  ·exact .inr (.inr (Nat.le_trans H.frm.size hge))
end Go.Sx
end
section
set_option linter.unusedVariables false
namespace Go.Sx
def wpR(cx:Cx)(ops:List AOp)(rest:C)(Q:yv)(e:Nat→V)(h:Heap):Prop:=ZZ cx.P cx.T ops e h fun e h=>wpC cx rest Q e h
def qt(cx:Cx)(ops:List AOp)(rest:C)(Q:yv)(e:Nat→V)(h:Heap):Prop:=zcD cx.P cx.T ops e h fun e=>wpC cx rest Q e h
def zuE(cx:Cx)(hd tl:List AOp)(rest:C)(Q:yv)(e:Nat→V)(h:Heap):Prop:=W6 cx.T hd e h fun e=>wpR cx tl rest Q e h
def zuF(cx:Cx)(m:MR)(hd tl:List AOp)(rest:C)(Q:yv)(e0 e:Nat→V)(h:Heap):Prop:=W6 cx.T hd e h fun e'=>wpR cx tl rest Q (m.fin e0 e') h
def zuD(cx:Cx)(hd:List AOp)(b:Option AOp)(tl:List AOp)(rest:C)(Q:yv)(e0 e:Nat→V)(h:Heap):Prop:=
 XH cx.T hd e h (Jl b e0 h) fun e'=>Wu b e0 h=true∧wpR cx tl rest Q (zfd b e' h) (Jl b e0 h)
def zj8(cx:Cx)(hd:List (AOp×Bool×List Nat))(tr:List (Option Nat×List Nat))(m:Nat)(tl:List AOp)(rest:C)(Q:yv)(s:(Nat→V)×Heap):Prop:=
 wpX cx.T hd tr s fun e' h'=>wpR cx tl rest Q e' ⟨h'.bs,h'.clk+m⟩
def ziT(cx:Cx)(rest:C)(Q:yv):yv:=j7 (fun e h=>wpC cx rest Q e h) Q
def zfb(cx:Cx)(id:Nat)(rest:C)(Q:yv):yv:=zh1 id (j7 (fun e h=>wpC cx rest Q e h) Q)
section
variable (cx:Cx) (Q:yv) (e:Nat→V) (h:Heap) (rest:C)
theorem zhF(ops:List AOp):wpC cx (.seq (.reg ops) rest) Q e h=wpR cx ops rest Q e h:=rfl
theorem zx3(ops:List AOp):wpC cx (.reg ops) Q e h=wpR cx ops .skip Q e h:=rfl
theorem zeY(ops:List AOp):wpC cx (.seq (.treg ops) rest) Q e h=wpR cx ops rest Q e h:=rfl
theorem zuB(ops:List AOp):wpC cx (.treg ops) Q e h=wpR cx ops .skip Q e h:=rfl
theorem kX(n:Nat)(ops:List AOp):wpC cx (.seq (.areg n ops) rest) Q e h=zuE cx (ops.take n) (ops.drop n) rest Q e h:=rfl
theorem Q4(n:Nat)(ops:List AOp):wpC cx (.areg n ops) Q e h=zuE cx (ops.take n) (ops.drop n) .skip Q e h:=rfl
theorem zeV(N d:Nat)(ks:List (Value×Nat))(bs tl:List AOp):wpC cx (.seq (.mreg ⟨N,d,ks,bs⟩ tl) rest) Q e h=zuF cx ⟨N,d,ks,[]⟩ bs tl rest Q e e h:=rfl
theorem zuy(N d:Nat)(ks:List (Value×Nat))(bs tl:List AOp):wpC cx (.mreg ⟨N,d,ks,bs⟩ tl) Q e h=zuF cx ⟨N,d,ks,[]⟩ bs tl .skip Q e e h:=rfl
theorem XG(n:Nat)(ops:List AOp):wpC cx (.seq (.breg n ops) rest) Q e h=zuD cx (ops.take n) ops[n]? (ops.drop (n+1)) rest Q e e h:=rfl
theorem zhD(n:Nat)(ops:List AOp):wpC cx (.breg n ops) Q e h=zuD cx (ops.take n) ops[n]? (ops.drop (n+1)) .skip Q e e h:=rfl
theorem zeZ(hd:List (AOp×Bool×List Nat))(tl:List AOp):wpC cx (.seq (.xreg hd tl) rest) Q e h=zj8 cx hd [] (hd.length+1) tl rest Q (e,h):=rfl
theorem zuC(hd:List (AOp×Bool×List Nat))(tl:List AOp):wpC cx (.xreg hd tl) Q e h=zj8 cx hd [] (hd.length+1) tl .skip Q (e,h):=rfl
theorem zhE(c:C):wpC cx (.seq (.frz c) rest) Q e h=wpC cx (.seq c rest) Q e (h.freeze fun _=>true):=rfl
theorem zx2(c:C):wpC cx (.frz c) Q e h=wpC cx c Q e (h.freeze fun _=>true):=rfl
theorem zu2(tr:List (Option Nat×List Nat))(m:Nat)(tl:List AOp):zj8 cx [] tr m tl rest Q (e,h)=wpR cx tl rest Q e ⟨h.bs,h.clk+m⟩:=rfl
theorem zu3(b:AOp)(ws:List Nat)(r:List (AOp×Bool×List Nat))(tr:List (Option Nat×List Nat))(m:Nat)(tl:List AOp):zj8 cx ((b,true,ws)::r) tr m tl rest Q (e,h)=
 (zpI cx.T b e h∧(yP b true e).all (fun j=>decide (j<h.bs.length))=true∧js ws (some ((xe cx.T b e h).at'.getD h.bs.length),yP b true e) 0 tr=true∧
   zj8 cx r (tr++ [(some ((xe cx.T b e h).at'.getD h.bs.length),yP b true e)]) m tl rest Q (zx e b.dst ((xe cx.T b e h).val h),(xe cx.T b e h).heap h)):=rfl
theorem zu1(b:AOp)(ws:List Nat)(r:List (AOp×Bool×List Nat))(tr:List (Option Nat×List Nat))(m:Nat)(tl:List AOp):zj8 cx ((b,false,ws)::r) tr m tl rest Q (e,h)=
 ((yR cx.T b e h∧(b.o.calls=true→∀h',yR cx.T b e h'∧zV cx.T b e h'=zV cx.T b e h))∧(yP b false e).all (fun j=>decide (j<h.bs.length))=true∧js ws (none,yP b false e) 0 tr=true∧
   zj8 cx r (tr++ [(none,yP b false e)]) m tl rest Q (zx e b.dst (zV cx.T b e h),h)):=rfl
theorem zeW(ops:List AOp):wpC cx (.seq (.qreg ops) rest) Q e h=qt cx ops rest Q e h:=rfl
theorem zuz(ops:List AOp):wpC cx (.qreg ops) Q e h=qt cx ops .skip Q e h:=rfl
theorem zuA:wpC cx .skip Q e h=Q .normal e h:=rfl
theorem zx4:wpC cx .ret Q e h=Q .ret e h:=rfl
theorem zuv(id:Nat):wpC cx (.exit id) Q e h=Q (.exit id) e h:=rfl
theorem zuw(l:Nat):wpC cx (.goto l) Q e h=Q (.goto l) e h:=rfl
theorem zpr(l:Nat):wpC cx (.label l) Q e h=Q .normal e h:=rfl
theorem zx5(x:X)(ps:List Nat)(a b:C):wpC cx (.rng x ps a b) Q e h=zC cx (.rng x ps a b) Q e h:=rfl
theorem zhH(x:X)(ps:List Nat)(a b:C):wpC cx (.seq (.rng x ps a b) rest) Q e h=zC cx (.rng x ps a b) (ziT cx rest Q) e h:=rfl
theorem zux(c:C):wpC cx (.loop c) Q e h=zC cx (.loop c) Q e h:=rfl
theorem zps(c:C):wpC cx (.scope c) Q e h=zC cx (.scope c) Q e h:=rfl
theorem zpq(id:Nat)(c:C):wpC cx (.block id c) Q e h=wpC cx c (zfb cx id .skip Q) e h:=by
 show wpC cx c (zh1 id Q) e h=_
 have:zh1 id Q=zfb cx id .skip Q:=by
  funext x e h
  cases x<;>simp only[zh1,zfb,j7,wpC]
 rw[this]
theorem zeX:wpC cx (.seq .skip rest) Q e h=wpC cx rest Q e h:=rfl
theorem zhG:wpC cx (.seq .ret rest) Q e h=Q .ret e h:=rfl
theorem zeS(id:Nat):wpC cx (.seq (.exit id) rest) Q e h=Q (.exit id) e h:=rfl
theorem zeT(l:Nat):wpC cx (.seq (.goto l) rest) Q e h=Q (.goto l) e h:=rfl
theorem zcB(l:Nat):wpC cx (.seq (.label l) rest) Q e h=wpC cx rest Q e h:=rfl
theorem zeU(c:C):wpC cx (.seq (.loop c) rest) Q e h=zC cx (.loop c) (ziT cx rest Q) e h:=rfl
theorem zcC(c:C):wpC cx (.seq (.scope c) rest) Q e h=zC cx (.scope c) (ziT cx rest Q) e h:=rfl
theorem zcA(id:Nat)(c:C):wpC cx (.seq (.block id c) rest) Q e h=wpC cx c (zfb cx id rest Q) e h:=rfl
theorem zhI(a b:C):wpC cx (.seq (.seq a b) rest) Q e h=wpC cx (.seq a (.seq b rest)) Q e h:=by
 show wpC cx a (j7 (fun e h=>wpC cx b (j7 (fun e h=>wpC cx rest Q e h) Q) e h) (j7 (fun e h=>wpC cx rest Q e h) Q)) e h=wpC cx a (j7 (fun e h=>wpC cx b (j7 (fun e h=>wpC cx rest Q e h) Q) e h) Q) e h
 congr 1
 funext x e h
 cases x<;>rfl
theorem zeR(x:X)(a b:C):wpC cx (.seq (.cond x a b) rest) Q e h=
 ((val e x).gok=true∧(asB (zi e x)).2=true∧((asB (zi e x)).1=true→wpC cx (.seq a rest) Q e h)∧((asB (zi e x)).1=false→wpC cx (.seq b rest) Q e h)):=rfl
theorem zuu(x:X)(a b:C):wpC cx (.cond x a b) Q e h=
 ((val e x).gok=true∧(asB (zi e x)).2=true∧((asB (zi e x)).1=true→wpC cx a Q e h)∧((asB (zi e x)).1=false→wpC cx b Q e h)):=rfl
theorem zgl:ziT cx rest Q .normal e h=wpC cx rest Q e h:=rfl
theorem zmx(i:Nat):ziT cx rest Q (.exit i) e h=Q (.exit i) e h:=rfl
theorem zmy(i:Nat):ziT cx rest Q (.goto i) e h=Q (.goto i) e h:=rfl
theorem zr2:ziT cx rest Q .ret e h=Q .ret e h:=rfl
theorem zfc(id:Nat):zfb cx id rest Q .normal e h=wpC cx rest Q e h:=rfl
theorem zlj(id i:Nat):zfb cx id rest Q (.exit i) e h=if i=id then wpC cx rest Q e h else Q (.exit i) e h:=rfl
theorem zlk(id i:Nat):zfb cx id rest Q (.goto i) e h=Q (.goto i) e h:=rfl
theorem zp3(id:Nat):zfb cx id rest Q .ret e h=Q .ret e h:=rfl
theorem zgm(K:(Nat→V)→Heap→Prop):j7 K Q .normal e h=K e h:=rfl
theorem zmz(K:(Nat→V)→Heap→Prop)(i:Nat):j7 K Q (.exit i) e h=Q (.exit i) e h:=rfl
theorem zmA(K:(Nat→V)→Heap→Prop)(i:Nat):j7 K Q (.goto i) e h=Q (.goto i) e h:=rfl
theorem zr3(K:(Nat→V)→Heap→Prop):j7 K Q .ret e h=Q .ret e h:=rfl
theorem ziv(l i:Nat)(J:(Nat→V)→Heap→Prop):zaV l J Q (.goto i) e h=(i=l∧J e h):=rfl
theorem zdF(l:Nat)(J:(Nat→V)→Heap→Prop):zaV l J Q .normal e h=Q .normal e h:=rfl
theorem ziu(l i:Nat)(J:(Nat→V)→Heap→Prop):zaV l J Q (.exit i) e h=Q (.exit i) e h:=rfl
theorem zl2(l:Nat)(J:(Nat→V)→Heap→Prop):zaV l J Q .ret e h=Q .ret e h:=rfl
theorem zrR(rs:List RV)(K:V→Heap→Prop):zci rs K .ret e h=(rs.all (W1 e h)=true∧K (WZ rs e h) h):=rfl
theorem zge(rs:List RV)(K:V→Heap→Prop):zci rs K .normal e h=(rs.all (W1 e h)=true∧K (WZ rs e h) h):=rfl
theorem zyh:wpR cx [] rest Q e h=wpC cx rest Q e h:=rfl
theorem zuZ(d:Option Nat)(q:X×X×X)(r:List AOp):wpR cx (⟨d,none,some q,.mov (.k (.tuple #[]))⟩::r) rest Q e h=(okP (some q) (.mov (.k (.tuple #[]))) e h=true∧wpR cx r rest Q (zx e d (vP (some q) (.mov (.k (.tuple #[]))) e h)) h):=rfl
theorem zuN(d:Option Nat)(f:FuncId)(xs:List X)(r:List AOp):wpR cx (⟨d,none,none,.call f xs⟩::r) rest Q e h=
 (yB e xs=true∧cx.T.pre f (xs.map (zi e)) h∧wpR cx r rest Q (zx e d (cx.T.v f (xs.map (zi e)) h)) (cx.T.hp f (xs.map (zi e)) h)):=rfl
theorem zpB(d:Option Nat)(x:X)(xs:List X)(r:List AOp):wpR cx (⟨d,none,none,.callv x xs⟩::r) rest Q e h=
 (yB e (x::xs)=true∧(zi e x).isFn=true∧cx.T.pre (zi e x).fnId (xs.map (zi e)++(zi e x).caps) h∧wpR cx r rest Q (zx e d (cx.T.v (zi e x).fnId (xs.map (zi e)++(zi e x).caps) h)) (cx.T.hp (zi e x).fnId (xs.map (zi e)++(zi e x).caps) h)):=rfl
theorem zpF(d:Option Nat)(t:Nat)(want:Bool)(q:X×X×X)(r:List AOp):wpR cx (⟨d,some (t,want),some q,.mov (.k (.tuple #[]))⟩::r) rest Q e h=
 (((e t).gok=true→(asB (e t).un).2=true)∧(enB (e t) want=true→okP (some q) (.mov (.k (.tuple #[]))) e h=true)∧wpR cx r rest Q (zx e d (.gd (enB (e t) want) (vP (some q) (.mov (.k (.tuple #[]))) e h))) h):=rfl
theorem zc(d:Option Nat)(t:Nat)(want:Bool)(f:FuncId)(xs:List X)(r:List AOp):wpR cx (⟨d,some (t,want),none,.call f xs⟩::r) rest Q e h=
 (((e t).gok=true→(asB (e t).un).2=true)∧if cx.T.flat f=true then(enB (e t) want=true→yB e xs=true∧cx.T.qpre f (xs.map (zi e)) h)∧wpR cx r rest Q (zx e d (.gd (enB (e t) want) (.c (cx.T.qv f (xs.map (zi e)) h)))) h
   else(enB (e t) want=true→yB e xs=true∧cx.T.pre f (xs.map (zi e)) h∧wpR cx r rest Q (zx e d (cx.T.v f (xs.map (zi e)) h)) (cx.T.hp f (xs.map (zi e)) h))∧(enB (e t) want=false→wpR cx r rest Q (zx e d (.c undef)) h)):=rfl
theorem zj6(d:Option Nat)(t:Nat)(want:Bool)(x:X)(xs:List X)(r:List AOp):wpR cx (⟨d,some (t,want),none,.callv x xs⟩::r) rest Q e h=
 (((e t).gok=true→(asB (e t).un).2=true)∧(enB (e t) want=true→yB e (x::xs)=true∧(zi e x).isFn=true∧cx.T.qpre (zi e x).fnId (xs.map (zi e)++(zi e x).caps) h)∧wpR cx r rest Q (zx e d (.gd (enB (e t) want) (.c (cx.T.qv (zi e x).fnId (xs.map (zi e)++(zi e x).caps) h)))) h):=rfl
theorem zuL:qt cx [] rest Q e h=wpC cx rest Q e h:=rfl
theorem zpz(d:Option Nat)(q:X×X×X)(r:List AOp):qt cx (⟨d,none,some q,.mov (.k (.tuple #[]))⟩::r) rest Q e h=(okP (some q) (.mov (.k (.tuple #[]))) e h=true∧qt cx r rest Q (zx e d (vP (some q) (.mov (.k (.tuple #[]))) e h)) h):=rfl
theorem zpu(d:Option Nat)(f:FuncId)(xs:List X)(r:List AOp):qt cx (⟨d,none,none,.call f xs⟩::r) rest Q e h=
 (yB e xs=true∧cx.T.qpre f (xs.map (zi e)) h∧qt cx r rest Q (zx e d (.c (cx.T.qv f (xs.map (zi e)) h))) h):=rfl
theorem zj2(d:Option Nat)(t:Nat)(want:Bool)(q:X×X×X)(r:List AOp):qt cx (⟨d,some (t,want),some q,.mov (.k (.tuple #[]))⟩::r) rest Q e h=
 (((e t).gok=true→(asB (e t).un).2=true)∧(enB (e t) want=true→okP (some q) (.mov (.k (.tuple #[]))) e h=true)∧qt cx r rest Q (zx e d (.gd (enB (e t) want) (vP (some q) (.mov (.k (.tuple #[]))) e h))) h):=rfl
theorem zj0(d:Option Nat)(t:Nat)(want:Bool)(f:FuncId)(xs:List X)(r:List AOp):qt cx (⟨d,some (t,want),none,.call f xs⟩::r) rest Q e h=
 (((e t).gok=true→(asB (e t).un).2=true)∧(enB (e t) want=true→yB e xs=true∧cx.T.qpre f (xs.map (zi e)) h)∧qt cx r rest Q (zx e d (.gd (enB (e t) want) (.c (cx.T.qv f (xs.map (zi e)) h)))) h):=rfl
end
section
variable (cx:Cx) (Q:yv) (e e0:Nat→V) (h:Heap) (rest:C) (tl r:List AOp) (bx:Option AOp)
theorem Q5:zuE cx [] tl rest Q e h=wpR cx tl rest Q e h:=rfl
theorem YD(b:AOp):zuE cx (b::r) tl rest Q e h=(yR cx.T b e h∧zuE cx r tl rest Q (zx e b.dst (zV cx.T b e h)) h):=rfl
theorem zuG(m:MR):zuF cx m [] tl rest Q e0 e h=wpR cx tl rest Q (m.fin e0 e) h:=rfl
theorem zpt(m:MR)(b:AOp):zuF cx m (b::r) tl rest Q e0 e h=(yR cx.T b e h∧zuF cx m r tl rest Q e0 (zx e b.dst (zV cx.T b e h)) h):=rfl
theorem zAA(N d:Nat)(ks:List (Value×Nat))(bs:List AOp)(t:Nat):MR.fin ⟨N,d,ks,bs⟩ e0 e t=if t=d then .mp (ks.map fun p=>p.1) (ks.map fun p=>e p.2)else if N≤t then .c undef else e t:=rfl
theorem zhJ:zuD cx [] bx tl rest Q e0 e h=(Wu bx e0 h=true∧wpR cx tl rest Q (zfd bx e h) (Jl bx e0 h)):=rfl
theorem zdk(b:AOp):zuD cx (b::r) bx tl rest Q e0 e h=(yR cx.T b e h∧yR cx.T b e (Jl bx e0 h)∧zV cx.T b e (Jl bx e0 h)=zV cx.T b e h∧zuD cx r bx tl rest Q e0 (zx e b.dst (zV cx.T b e h)) h):=rfl
end
theorem zmm(e:Nat→V)(d:Nat)(v:V):zx e (some d) v=upd e d v:=rfl
theorem zml(e:Nat→V)(v:V):zx e none v=e:=rfl
theorem zj(e:Nat→V)(d i:Nat)(v:V):upd e d v i=if i=d then v else e i:=rfl
theorem zCr(e:Nat→V)(n:Nat):val e (.t n)=e n:=rfl
theorem zCq(e:Nat→V)(v:Value):val e (.k v)= .c v:=rfl
theorem zCp(e:Nat→V)(n:FuncId):val e (.f n)= .fn n []:=rfl
theorem zBp(e:Nat→V)(n:Nat):zi e (.t n)=(e n).un:=rfl
theorem zBo(e:Nat→V)(v:Value):zi e (.k v)= .c v:=rfl
theorem zBn(e:Nat→V)(n:FuncId):zi e (.f n)= .fn n []:=rfl
theorem zDm(v:Value):(V.c v).un= .c v:=rfl
theorem zBh(v:List V):(V.agg v).un= .agg v:=rfl
theorem zBl(v:List V):(V.tup v).un= .tup v:=rfl
theorem zBk(s:Nat)(v:List (List V)):(V.slc s v).un= .slc s v:=rfl
theorem zCn(v:List V):(V.pp v).un= .pp v:=rfl
theorem zCm(a:List Value)(b:List V):(V.mp a b).un= .mp a b:=rfl
theorem zAF(a:List Value)(b:List V):(V.mp a b).gok=true:=rfl
theorem zBj(a b c d:Nat):(V.ref a b c d).un= .ref a b c d:=rfl
theorem zBi(a b c d:Nat):(V.ptr a b c d).un= .ptr a b c d:=rfl
theorem zCk(f:FuncId)(v:List V):(V.fn f v).un= .fn f v:=rfl
theorem zCl(b:Bool)(v:V):(V.gd b v).un=v.un:=rfl
theorem zBW(v:Value):(V.c v).gok=true:=rfl
theorem zwC(v:List V):(V.agg v).gok=true:=rfl
theorem zwG(v:List V):(V.tup v).gok=true:=rfl
theorem zwF(s:Nat)(v:List (List V)):(V.slc s v).gok=true:=rfl
theorem zAG(v:List V):(V.pp v).gok=true:=rfl
theorem zwE(a b c d:Nat):(V.ref a b c d).gok=true:=rfl
theorem zwD(a b c d:Nat):(V.ptr a b c d).gok=true:=rfl
theorem zAD(f:FuncId)(v:List V):(V.fn f v).gok=true:=rfl
theorem zAE(b:Bool)(v:V):(V.gd b v).gok=(b&&v.gok):=rfl
theorem Zv(o:O)(e:Nat→V)(h:Heap):okP none o e h=((o.xs.all fun x=>(val e x).gok)&&(evP o (zi e) h).2):=rfl
theorem Y7(o:O)(e:Nat→V)(h:Heap):vP none o e h=(evP o (zi e) h).1:=rfl
theorem zrA(c a b:X)(o:O)(e:Nat→V)(h:Heap):okP (some (c,a,b)) o e h=((val e c).gok&&(asB (zi e c)).2&&cond (asB (zi e c)).1 ((val e a).gok&&(asB (zi e a)).2) ((val e b).gok&&(asB (zi e b)).2)):=rfl
theorem zxW(c a b:X)(o:O)(e:Nat→V)(h:Heap):vP (some (c,a,b)) o e h= .c (.bool (cond (asB (zi e c)).1 (asB (zi e a)).1 (asB (zi e b)).1)):=rfl
theorem zBE(b:Bool):asB (.c (.bool b))=(b,true):=rfl
theorem zBF(k:IntKind)(n:Int):asI (.c (.int k n))=(n,true):=rfl
theorem zBQ(b want:Bool):enB (.c (.bool b)) want=(b==want):=by simp[enB,V.gok,V.un,asB]
theorem zAq(g b want:Bool):enB (.gd g (.c (.bool b))) want=(g&&(b==want)):=by simp[enB,V.gok,V.un,asB]
theorem zq(args:List V)(i:Nat):KI args i=args.getD i (.c undef):=rfl
end Go.Sx
end
section
namespace Go.Sx
section
variable (cx:Cx) (Q:yv) (e:Nat→V) (h:Heap) (rest:C)
theorem zyg(d:Option Nat)(r:List AOp)(x:X):wpR cx (⟨d,none,none,.mov x⟩::r) rest Q e h=((((O.mov x).xs.all fun x=>(val e x).gok)&&(evP (.mov x) (zi e) h).2)=true∧wpR cx r rest Q (zx e d (evP (.mov x) (zi e) h).1) h):=rfl
theorem zuT(d:Option Nat)(t:Nat)(want:Bool)(r:List AOp)(x:X):wpR cx (⟨d,some (t,want),none,.mov x⟩::r) rest Q e h=(((e t).gok=true→(asB (e t).un).2=true)∧(enB (e t) want=true→(((O.mov x).xs.all fun x=>(val e x).gok)&&(evP (.mov x) (zi e) h).2)=true)∧wpR cx r rest Q (zx e d (.gd (enB (e t) want) (evP (.mov x) (zi e) h).1)) h):=rfl
theorem zuK(d:Option Nat)(r:List AOp)(x:X):qt cx (⟨d,none,none,.mov x⟩::r) rest Q e h=((((O.mov x).xs.all fun x=>(val e x).gok)&&(evP (.mov x) (zi e) h).2)=true∧qt cx r rest Q (zx e d (evP (.mov x) (zi e) h).1) h):=rfl
theorem zpx(d:Option Nat)(t:Nat)(want:Bool)(r:List AOp)(x:X):qt cx (⟨d,some (t,want),none,.mov x⟩::r) rest Q e h=(((e t).gok=true→(asB (e t).un).2=true)∧(enB (e t) want=true→(((O.mov x).xs.all fun x=>(val e x).gok)&&(evP (.mov x) (zi e) h).2)=true)∧qt cx r rest Q (zx e d (.gd (enB (e t) want) (evP (.mov x) (zi e) h).1)) h):=rfl
theorem zuX(d:Option Nat)(r:List AOp)(kd:Nat)(zero:Value)(two:Bool)(x k:X):wpR cx (⟨d,none,none,.mget kd zero two x k⟩::r) rest Q e h=((((O.mget kd zero two x k).xs.all fun x=>(val e x).gok)&&(evP (.mget kd zero two x k) (zi e) h).2)=true∧wpR cx r rest Q (zx e d (evP (.mget kd zero two x k) (zi e) h).1) h):=rfl
theorem zpA(d:Option Nat)(r:List AOp)(z:List Value)(ps:List (Nat×Option Nat×X)):wpR cx (⟨d,none,none,.build z ps⟩::r) rest Q e h=((((O.build z ps).xs.all fun x=>(val e x).gok)&&(evP (.build z ps) (zi e) h).2)=true∧wpR cx r rest Q (zx e d (evP (.build z ps) (zi e) h).1) h):=rfl
theorem zj5(d:Option Nat)(t:Nat)(want:Bool)(r:List AOp)(z:List Value)(ps:List (Nat×Option Nat×X)):wpR cx (⟨d,some (t,want),none,.build z ps⟩::r) rest Q e h=(((e t).gok=true→(asB (e t).un).2=true)∧(enB (e t) want=true→(((O.build z ps).xs.all fun x=>(val e x).gok)&&(evP (.build z ps) (zi e) h).2)=true)∧wpR cx r rest Q (zx e d (.gd (enB (e t) want) (evP (.build z ps) (zi e) h).1)) h):=rfl
theorem zuW(d:Option Nat)(r:List AOp)(n:Option Nat)(x:X):wpR cx (⟨d,none,none,.load n x⟩::r) rest Q e h=((((O.load n x).xs.all fun x=>(val e x).gok)&&(evP (.load n x) (zi e) h).2)=true∧wpR cx r rest Q (zx e d (evP (.load n x) (zi e) h).1) h):=rfl
theorem zpD(d:Option Nat)(t:Nat)(want:Bool)(r:List AOp)(n:Option Nat)(x:X):wpR cx (⟨d,some (t,want),none,.load n x⟩::r) rest Q e h=(((e t).gok=true→(asB (e t).un).2=true)∧(enB (e t) want=true→(((O.load n x).xs.all fun x=>(val e x).gok)&&(evP (.load n x) (zi e) h).2)=true)∧wpR cx r rest Q (zx e d (.gd (enB (e t) want) (evP (.load n x) (zi e) h).1)) h):=rfl
theorem zpy(d:Option Nat)(r:List AOp)(n:Option Nat)(x:X):qt cx (⟨d,none,none,.load n x⟩::r) rest Q e h=((((O.load n x).xs.all fun x=>(val e x).gok)&&(evP (.load n x) (zi e) h).2)=true∧qt cx r rest Q (zx e d (evP (.load n x) (zi e) h).1) h):=rfl
theorem zj1(d:Option Nat)(t:Nat)(want:Bool)(r:List AOp)(n:Option Nat)(x:X):qt cx (⟨d,some (t,want),none,.load n x⟩::r) rest Q e h=(((e t).gok=true→(asB (e t).un).2=true)∧(enB (e t) want=true→(((O.load n x).xs.all fun x=>(val e x).gok)&&(evP (.load n x) (zi e) h).2)=true)∧qt cx r rest Q (zx e d (.gd (enB (e t) want) (evP (.load n x) (zi e) h).1)) h):=rfl
theorem zx6(d:Option Nat)(r:List AOp)(op:BinOp)(x y:X):wpR cx (⟨d,none,none,.bin op x y⟩::r) rest Q e h=((((O.bin op x y).xs.all fun x=>(val e x).gok)&&(evP (.bin op x y) (zi e) h).2)=true∧wpR cx r rest Q (zx e d (evP (.bin op x y) (zi e) h).1) h):=rfl
theorem zuO(d:Option Nat)(t:Nat)(want:Bool)(r:List AOp)(op:BinOp)(x y:X):wpR cx (⟨d,some (t,want),none,.bin op x y⟩::r) rest Q e h=(((e t).gok=true→(asB (e t).un).2=true)∧(enB (e t) want=true→(((O.bin op x y).xs.all fun x=>(val e x).gok)&&(evP (.bin op x y) (zi e) h).2)=true)∧wpR cx r rest Q (zx e d (.gd (enB (e t) want) (evP (.bin op x y) (zi e) h).1)) h):=rfl
theorem zuH(d:Option Nat)(r:List AOp)(op:BinOp)(x y:X):qt cx (⟨d,none,none,.bin op x y⟩::r) rest Q e h=((((O.bin op x y).xs.all fun x=>(val e x).gok)&&(evP (.bin op x y) (zi e) h).2)=true∧qt cx r rest Q (zx e d (evP (.bin op x y) (zi e) h).1) h):=rfl
theorem zpv(d:Option Nat)(t:Nat)(want:Bool)(r:List AOp)(op:BinOp)(x y:X):qt cx (⟨d,some (t,want),none,.bin op x y⟩::r) rest Q e h=(((e t).gok=true→(asB (e t).un).2=true)∧(enB (e t) want=true→(((O.bin op x y).xs.all fun x=>(val e x).gok)&&(evP (.bin op x y) (zi e) h).2)=true)∧qt cx r rest Q (zx e d (.gd (enB (e t) want) (evP (.bin op x y) (zi e) h).1)) h):=rfl
theorem zya(d:Option Nat)(r:List AOp)(b:Bool)(x y:X):wpR cx (⟨d,none,none,.eqb b x y⟩::r) rest Q e h=((((O.eqb b x y).xs.all fun x=>(val e x).gok)&&(evP (.eqb b x y) (zi e) h).2)=true∧wpR cx r rest Q (zx e d (evP (.eqb b x y) (zi e) h).1) h):=rfl
theorem zuP(d:Option Nat)(t:Nat)(want:Bool)(r:List AOp)(b:Bool)(x y:X):wpR cx (⟨d,some (t,want),none,.eqb b x y⟩::r) rest Q e h=(((e t).gok=true→(asB (e t).un).2=true)∧(enB (e t) want=true→(((O.eqb b x y).xs.all fun x=>(val e x).gok)&&(evP (.eqb b x y) (zi e) h).2)=true)∧wpR cx r rest Q (zx e d (.gd (enB (e t) want) (evP (.eqb b x y) (zi e) h).1)) h):=rfl
theorem zyb(d:Option Nat)(r:List AOp)(b:Bool)(n:List Nat)(x y:X):wpR cx (⟨d,none,none,.eqc b n x y⟩::r) rest Q e h=((((O.eqc b n x y).xs.all fun x=>(val e x).gok)&&(evP (.eqc b n x y) (zi e) h).2)=true∧wpR cx r rest Q (zx e d (evP (.eqc b n x y) (zi e) h).1) h):=rfl
theorem zuQ(d:Option Nat)(t:Nat)(want:Bool)(r:List AOp)(b:Bool)(n:List Nat)(x y:X):wpR cx (⟨d,some (t,want),none,.eqc b n x y⟩::r) rest Q e h=(((e t).gok=true→(asB (e t).un).2=true)∧(enB (e t) want=true→(((O.eqc b n x y).xs.all fun x=>(val e x).gok)&&(evP (.eqc b n x y) (zi e) h).2)=true)∧wpR cx r rest Q (zx e d (.gd (enB (e t) want) (evP (.eqc b n x y) (zi e) h).1)) h):=rfl
theorem zuI(d:Option Nat)(r:List AOp)(b:Bool)(n:List Nat)(x y:X):qt cx (⟨d,none,none,.eqc b n x y⟩::r) rest Q e h=((((O.eqc b n x y).xs.all fun x=>(val e x).gok)&&(evP (.eqc b n x y) (zi e) h).2)=true∧qt cx r rest Q (zx e d (evP (.eqc b n x y) (zi e) h).1) h):=rfl
theorem zyc(d:Option Nat)(r:List AOp)(b:Bool)(x:X):wpR cx (⟨d,none,none,.eqn b x⟩::r) rest Q e h=((((O.eqn b x).xs.all fun x=>(val e x).gok)&&(evP (.eqn b x) (zi e) h).2)=true∧wpR cx r rest Q (zx e d (evP (.eqn b x) (zi e) h).1) h):=rfl
theorem zuR(d:Option Nat)(t:Nat)(want:Bool)(r:List AOp)(b:Bool)(x:X):wpR cx (⟨d,some (t,want),none,.eqn b x⟩::r) rest Q e h=(((e t).gok=true→(asB (e t).un).2=true)∧(enB (e t) want=true→(((O.eqn b x).xs.all fun x=>(val e x).gok)&&(evP (.eqn b x) (zi e) h).2)=true)∧wpR cx r rest Q (zx e d (.gd (enB (e t) want) (evP (.eqn b x) (zi e) h).1)) h):=rfl
theorem zye(d:Option Nat)(r:List AOp)(b:Bool)(x:X):wpR cx (⟨d,none,none,.isn b x⟩::r) rest Q e h=((((O.isn b x).xs.all fun x=>(val e x).gok)&&(evP (.isn b x) (zi e) h).2)=true∧wpR cx r rest Q (zx e d (evP (.isn b x) (zi e) h).1) h):=rfl
theorem zBA(d:Option Nat)(r:List AOp)(op:UnOp)(x:X):wpR cx (⟨d,none,none,.un op x⟩::r) rest Q e h=((((O.un op x).xs.all fun x=>(val e x).gok)&&(evP (.un op x) (zi e) h).2)=true∧wpR cx r rest Q (zx e d (evP (.un op x) (zi e) h).1) h):=rfl
theorem zyd(d:Option Nat)(t:Nat)(want:Bool)(r:List AOp)(op:UnOp)(x:X):wpR cx (⟨d,some (t,want),none,.un op x⟩::r) rest Q e h=(((e t).gok=true→(asB (e t).un).2=true)∧(enB (e t) want=true→(((O.un op x).xs.all fun x=>(val e x).gok)&&(evP (.un op x) (zi e) h).2)=true)∧wpR cx r rest Q (zx e d (.gd (enB (e t) want) (evP (.un op x) (zi e) h).1)) h):=rfl
theorem zx8(d:Option Nat)(r:List AOp)(x:X):wpR cx (⟨d,none,none,.bts x⟩::r) rest Q e h=((((O.bts x).xs.all fun x=>(val e x).gok)&&(evP (.bts x) (zi e) h).2)=true∧wpR cx r rest Q (zx e d (evP (.bts x) (zi e) h).1) h):=rfl
theorem zuY(d:Option Nat)(r:List AOp)(f:FuncId)(xs:List X):wpR cx (⟨d,none,none,.mkfn f xs⟩::r) rest Q e h=((((O.mkfn f xs).xs.all fun x=>(val e x).gok)&&(evP (.mkfn f xs) (zi e) h).2)=true∧wpR cx r rest Q (zx e d (evP (.mkfn f xs) (zi e) h).1) h):=rfl
theorem zpE(d:Option Nat)(t:Nat)(want:Bool)(r:List AOp)(f:FuncId)(xs:List X):wpR cx (⟨d,some (t,want),none,.mkfn f xs⟩::r) rest Q e h=(((e t).gok=true→(asB (e t).un).2=true)∧(enB (e t) want=true→(((O.mkfn f xs).xs.all fun x=>(val e x).gok)&&(evP (.mkfn f xs) (zi e) h).2)=true)∧wpR cx r rest Q (zx e d (.gd (enB (e t) want) (evP (.mkfn f xs) (zi e) h).1)) h):=rfl
theorem zpG(d:Option Nat)(r:List AOp)(s:Nat)(x:X)(lo hi:Option X):wpR cx (⟨d,none,none,.slice s x lo hi⟩::r) rest Q e h=((((O.slice s x lo hi).xs.all fun x=>(val e x).gok)&&(evP (.slice s x lo hi) (zi e) h).2)=true∧wpR cx r rest Q (zx e d (evP (.slice s x lo hi) (zi e) h).1) h):=rfl
theorem zj7(d:Option Nat)(r:List AOp)(n s:Nat)(x:X)(lo hi:Option X):wpR cx (⟨d,none,none,.sliceA n s x lo hi⟩::r) rest Q e h=((((O.sliceA n s x lo hi).xs.all fun x=>(val e x).gok)&&(evP (.sliceA n s x lo hi) (zi e) h).2)=true∧wpR cx r rest Q (zx e d (evP (.sliceA n s x lo hi) (zi e) h).1) h):=rfl
theorem zcG(d:Option Nat)(r:List AOp)(n:Nat)(x:X):wpR cx (⟨d,none,none,.fieldAddr n x⟩::r) rest Q e h=((((O.fieldAddr n x).xs.all fun x=>(val e x).gok)&&(evP (.fieldAddr n x) (zi e) h).2)=true∧wpR cx r rest Q (zx e d (evP (.fieldAddr n x) (zi e) h).1) h):=rfl
theorem zb8(d:Option Nat)(t:Nat)(want:Bool)(r:List AOp)(n:Nat)(x:X):wpR cx (⟨d,some (t,want),none,.fieldAddr n x⟩::r) rest Q e h=(((e t).gok=true→(asB (e t).un).2=true)∧(enB (e t) want=true→(((O.fieldAddr n x).xs.all fun x=>(val e x).gok)&&(evP (.fieldAddr n x) (zi e) h).2)=true)∧wpR cx r rest Q (zx e d (.gd (enB (e t) want) (evP (.fieldAddr n x) (zi e) h).1)) h):=rfl
theorem zb7(d:Option Nat)(r:List AOp)(n:Nat)(x:X):qt cx (⟨d,none,none,.fieldAddr n x⟩::r) rest Q e h=((((O.fieldAddr n x).xs.all fun x=>(val e x).gok)&&(evP (.fieldAddr n x) (zi e) h).2)=true∧qt cx r rest Q (zx e d (evP (.fieldAddr n x) (zi e) h).1) h):=rfl
theorem W7(d:Option Nat)(t:Nat)(want:Bool)(r:List AOp)(n:Nat)(x:X):qt cx (⟨d,some (t,want),none,.fieldAddr n x⟩::r) rest Q e h=(((e t).gok=true→(asB (e t).un).2=true)∧(enB (e t) want=true→(((O.fieldAddr n x).xs.all fun x=>(val e x).gok)&&(evP (.fieldAddr n x) (zi e) h).2)=true)∧qt cx r rest Q (zx e d (.gd (enB (e t) want) (evP (.fieldAddr n x) (zi e) h).1)) h):=rfl
theorem zhN(d:Option Nat)(r:List AOp)(s:Nat)(z:List Value)(x y:X):wpR cx (⟨d,none,none,.idxAddr s z x y⟩::r) rest Q e h=((((O.idxAddr s z x y).xs.all fun x=>(val e x).gok)&&(evP (.idxAddr s z x y) (zi e) h).2)=true∧wpR cx r rest Q (zx e d (evP (.idxAddr s z x y) (zi e) h).1) h):=rfl
theorem ze2(d:Option Nat)(t:Nat)(want:Bool)(r:List AOp)(s:Nat)(z:List Value)(x y:X):wpR cx (⟨d,some (t,want),none,.idxAddr s z x y⟩::r) rest Q e h=(((e t).gok=true→(asB (e t).un).2=true)∧(enB (e t) want=true→(((O.idxAddr s z x y).xs.all fun x=>(val e x).gok)&&(evP (.idxAddr s z x y) (zi e) h).2)=true)∧wpR cx r rest Q (zx e d (.gd (enB (e t) want) (evP (.idxAddr s z x y) (zi e) h).1)) h):=rfl
theorem ze1(d:Option Nat)(r:List AOp)(s:Nat)(z:List Value)(x y:X):qt cx (⟨d,none,none,.idxAddr s z x y⟩::r) rest Q e h=((((O.idxAddr s z x y).xs.all fun x=>(val e x).gok)&&(evP (.idxAddr s z x y) (zi e) h).2)=true∧qt cx r rest Q (zx e d (evP (.idxAddr s z x y) (zi e) h).1) h):=rfl
theorem zcE(d:Option Nat)(t:Nat)(want:Bool)(r:List AOp)(s:Nat)(z:List Value)(x y:X):qt cx (⟨d,some (t,want),none,.idxAddr s z x y⟩::r) rest Q e h=(((e t).gok=true→(asB (e t).un).2=true)∧(enB (e t) want=true→(((O.idxAddr s z x y).xs.all fun x=>(val e x).gok)&&(evP (.idxAddr s z x y) (zi e) h).2)=true)∧qt cx r rest Q (zx e d (.gd (enB (e t) want) (evP (.idxAddr s z x y) (zi e) h).1)) h):=rfl
theorem ze3(d:Option Nat)(r:List AOp)(n s:Nat)(x y:X):wpR cx (⟨d,none,none,.idxAddrA n s x y⟩::r) rest Q e h=((((O.idxAddrA n s x y).xs.all fun x=>(val e x).gok)&&(evP (.idxAddrA n s x y) (zi e) h).2)=true∧wpR cx r rest Q (zx e d (evP (.idxAddrA n s x y) (zi e) h).1) h):=rfl
theorem zcF(d:Option Nat)(r:List AOp)(n s:Nat)(x y:X):qt cx (⟨d,none,none,.idxAddrA n s x y⟩::r) rest Q e h=((((O.idxAddrA n s x y).xs.all fun x=>(val e x).gok)&&(evP (.idxAddrA n s x y) (zi e) h).2)=true∧qt cx r rest Q (zx e d (evP (.idxAddrA n s x y) (zi e) h).1) h):=rfl
theorem zuU(d:Option Nat)(r:List AOp)(x y:X):wpR cx (⟨d,none,none,.idxS x y⟩::r) rest Q e h=((((O.idxS x y).xs.all fun x=>(val e x).gok)&&(evP (.idxS x y) (zi e) h).2)=true∧wpR cx r rest Q (zx e d (evP (.idxS x y) (zi e) h).1) h):=rfl
theorem zhL(d:Option Nat)(r:List AOp)(x:X)(n:Nat):wpR cx (⟨d,none,none,.extract x n⟩::r) rest Q e h=((((O.extract x n).xs.all fun x=>(val e x).gok)&&(evP (.extract x n) (zi e) h).2)=true∧wpR cx r rest Q (zx e d (evP (.extract x n) (zi e) h).1) h):=rfl
theorem zyf(d:Option Nat)(r:List AOp)(x:X):wpR cx (⟨d,none,none,.len x⟩::r) rest Q e h=((((O.len x).xs.all fun x=>(val e x).gok)&&(evP (.len x) (zi e) h).2)=true∧wpR cx r rest Q (zx e d (evP (.len x) (zi e) h).1) h):=rfl
theorem zuS(d:Option Nat)(t:Nat)(want:Bool)(r:List AOp)(x:X):wpR cx (⟨d,some (t,want),none,.len x⟩::r) rest Q e h=(((e t).gok=true→(asB (e t).un).2=true)∧(enB (e t) want=true→(((O.len x).xs.all fun x=>(val e x).gok)&&(evP (.len x) (zi e) h).2)=true)∧wpR cx r rest Q (zx e d (.gd (enB (e t) want) (evP (.len x) (zi e) h).1)) h):=rfl
theorem zuJ(d:Option Nat)(r:List AOp)(x:X):qt cx (⟨d,none,none,.len x⟩::r) rest Q e h=((((O.len x).xs.all fun x=>(val e x).gok)&&(evP (.len x) (zi e) h).2)=true∧qt cx r rest Q (zx e d (evP (.len x) (zi e) h).1) h):=rfl
theorem zpw(d:Option Nat)(t:Nat)(want:Bool)(r:List AOp)(x:X):qt cx (⟨d,some (t,want),none,.len x⟩::r) rest Q e h=(((e t).gok=true→(asB (e t).un).2=true)∧(enB (e t) want=true→(((O.len x).xs.all fun x=>(val e x).gok)&&(evP (.len x) (zi e) h).2)=true)∧qt cx r rest Q (zx e d (.gd (enB (e t) want) (evP (.len x) (zi e) h).1)) h):=rfl
theorem zuV(d:Option Nat)(r:List AOp)(x:X):wpR cx (⟨d,none,none,.lenS x⟩::r) rest Q e h=((((O.lenS x).xs.all fun x=>(val e x).gok)&&(evP (.lenS x) (zi e) h).2)=true∧wpR cx r rest Q (zx e d (evP (.lenS x) (zi e) h).1) h):=rfl
theorem zpC(d:Option Nat)(t:Nat)(want:Bool)(r:List AOp)(x:X):wpR cx (⟨d,some (t,want),none,.lenS x⟩::r) rest Q e h=(((e t).gok=true→(asB (e t).un).2=true)∧(enB (e t) want=true→(((O.lenS x).xs.all fun x=>(val e x).gok)&&(evP (.lenS x) (zi e) h).2)=true)∧wpR cx r rest Q (zx e d (.gd (enB (e t) want) (evP (.lenS x) (zi e) h).1)) h):=rfl
theorem zBz(d:Option Nat)(r:List AOp)(b:Bool)(x y:X):wpR cx (⟨d,none,none,.mm b x y⟩::r) rest Q e h=((((O.mm b x y).xs.all fun x=>(val e x).gok)&&(evP (.mm b x y) (zi e) h).2)=true∧wpR cx r rest Q (zx e d (evP (.mm b x y) (zi e) h).1) h):=rfl
theorem zx7(d:Option Nat)(r:List AOp)(b:Bool)(s:Nat)(x:X):wpR cx (⟨d,none,none,.box b s x⟩::r) rest Q e h=(okE (.box b s x) e h=true∧wpR cx r rest Q (zx e d (evE (.box b s x) (zi e) h).1) (evE (.box b s x) (zi e) h).2.1):=rfl
theorem zj4(d:Option Nat)(r:List AOp)(b:Bool)(s n:Nat)(z:List Value)(ps:List (Nat×X)):wpR cx (⟨d,none,none,.bslice b s n z ps⟩::r) rest Q e h=(okE (.bslice b s n z ps) e h=true∧wpR cx r rest Q (zx e d (evE (.bslice b s n z ps) (zi e) h).1) (evE (.bslice b s n z ps) (zi e) h).2.1):=rfl
theorem zhM(d:Option Nat)(t:Nat)(want:Bool)(r:List AOp)(b:Bool)(s n:Nat)(z:List Value)(ps:List (Nat×X)):wpR cx (⟨d,some (t,want),none,.bslice b s n z ps⟩::r) rest Q e h=(((e t).gok=true→(asB (e t).un).2=true)∧(enB (e t) want=true→okE (.bslice b s n z ps) e h=true∧wpR cx r rest Q (zx e d (evE (.bslice b s n z ps) (zi e) h).1) (evE (.bslice b s n z ps) (zi e) h).2.1)∧(enB (e t) want=false→wpR cx r rest Q (zx e d (.c undef)) h)):=rfl
theorem zhO(d:Option Nat)(r:List AOp)(s m:Nat)(z:List Value)(x:X):wpR cx (⟨d,none,none,.mkslice s m z x⟩::r) rest Q e h=(okE (.mkslice s m z x) e h=true∧wpR cx r rest Q (zx e d (evE (.mkslice s m z x) (zi e) h).1) (evE (.mkslice s m z x) (zi e) h).2.1):=rfl
theorem zj3(d:Option Nat)(r:List AOp)(s m:Nat)(z:List Value)(x y:X):wpR cx (⟨d,none,none,.append s m z x y⟩::r) rest Q e h=(okE (.append s m z x y) e h=true∧wpR cx r rest Q (zx e d (evE (.append s m z x y) (zi e) h).1) (evE (.append s m z x y) (zi e) h).2.1):=rfl
theorem zpH(d:Option Nat)(r:List AOp)(n:Option Nat)(x y:X):wpR cx (⟨d,none,none,.store n x y⟩::r) rest Q e h=(okE (.store n x y) e h=true∧wpR cx r rest Q (zx e d (evE (.store n x y) (zi e) h).1) (evE (.store n x y) (zi e) h).2.1):=rfl
theorem zx9(d:Option Nat)(r:List AOp)(s:Nat)(x:X):wpR cx (⟨d,none,none,.clr s x⟩::r) rest Q e h=(okE (.clr s x) e h=true∧wpR cx r rest Q (zx e d (evE (.clr s x) (zi e) h).1) (evE (.clr s x) (zi e) h).2.1):=rfl
theorem zyi(d:Option Nat)(r:List AOp)(x:X):wpR cx (⟨d,none,none,.stb x⟩::r) rest Q e h=(okE (.stb x) e h=true∧wpR cx r rest Q (zx e d (evE (.stb x) (zi e) h).1) (evE (.stb x) (zi e) h).2.1):=rfl
end
end Go.Sx
end
section
set_option linter.unusedVariables false
namespace Go.Sx
def ev:List (Nat×V)→Nat→V
 | [],_=>.any
 |(j,v)::l,i=>if i=j then v else ev l i
theorem zAt(i:Nat):ev [] i= .any:=rfl
theorem zn(j:Nat)(v:V)(l:List (Nat×V))(i:Nat):ev ((j,v)::l) i=if i=j then v else ev l i:=rfl
def zu:List (Nat×V)→(Nat→V)→Prop
 | [],_=>True
 |(j,v)::l,e=>e j=v∧zu l e
theorem zhU(e:Nat→V):zu [] e=True:=rfl
theorem ze5(j:Nat)(v:V)(l:List (Nat×V))(e:Nat→V):zu ((j,v)::l) e=(e j=v∧zu l e):=rfl
def St(cx:Cx)(st:List (Nat×V))(hp:Heap)(e:Nat→V)(h:Heap):Prop:=jG cx e h (ev st) hp
section
variable {cx:Cx} {e e':Nat→V} {h h' hp:Heap} {st:List (Nat×V)} {Q:yv} {c r:C} {α:Type}
theorem zBS(he:zu st e)(i:Nat):ev st i=e i∨ev st i= .any:=by
 induction st with
 |nil=>exact .inr rfl
 |cons p st ih=>
  obtain⟨j,v⟩:=p
  rw[zn]
  split
  ·rename_i hi;subst hi;exact .inl he.1.symm
  ·exact ih he.2
theorem St.mk(he:zu st e):St cx st h e h:=jG.any (zBS he)
theorem St.of(hw:jG cx e h e' h')(s:St cx st hp e' h'):St cx st hp e h:=fun g a w R=>
 let⟨g',R'⟩:=hw g a w R
 s g' a w R'
theorem St.drop(n:Nat)(he:zu st e):St cx st ⟨h.bs.take n,h.clk⟩ e h:=St.of (jG.drop n) (St.mk he)
theorem St.cut(he:zu st e)(hb:h.bs.take hp.bs.length=hp.bs)(hc:h.clk=hp.clk):St cx st hp e h:=by
 have:=St.drop (cx:=cx) (h:=h) hp.bs.length he
 rwa [hb,hc]at this
theorem St.nil(d sz:Nat)(z:List V)(hd:e d= .c (.slice none 0 0))(s:St cx st hp (upd e d (.ref h.bs.length h.clk 0 0)) (h.alloc sz z [])):St cx st hp e h:=St.of (jG.nil d sz z hd) s
theorem St.cell(j i k sz:Nat)(z:List V){B:Blk}(hB:h.bs[j]? =some B)(hv:(B.es.getD i []).getD k .any= .c (.slice none 0 0))
 (s:St cx st hp e (Heap.alloc ⟨h.bs.set j ⟨B.ver,B.sz,B.es.set i ((B.es.getD i []).set k (.ref h.bs.length h.clk 0 0)),B.fz,B.d⟩,h.clk⟩ sz z [])):St cx st hp e h:=St.of (jG.cell j i k sz z hB hv) s
theorem St.freeze(s:St cx st hp e (h.freeze fun _=>true)):St cx st hp e h:=St.of jG.freeze s
theorem St.seal{e':Nat→V}(he:∀i,e' i=e i∨res (fun _=>true) h 12 (e i)=some (e' i))(s:St cx st hp e' (h.freeze fun _=>true)):St cx st hp e h:=St.of (jG.seal he) s
theorem St.seal1(d:Nat){x:V}(hx:res (fun _=>true) h 12 (e d)=some x)(s:St cx st hp (upd e d x) (h.freeze fun _=>true)):St cx st hp e h:=
 St.seal (fun i=>by by_cases hi:i=d;subst hi;simp only[upd,if_true];exact .inr hx;simp only[upd,if_neg hi];exact .inl trivial) s
def lpQ(cx:Cx)(st:α→List (Nat×V))(hp:α→Heap)(ok:α→Prop)(μ:α→Nat)(a:α)(Q:yv):yv:=
 j7 (fun e h=>∃b,ok b∧μ b<μ a∧zu (st b) e∧h.bs.take (hp b).bs.length=(hp b).bs∧h.clk=(hp b).clk) Q
section
variable (cx:Cx) (st:α→List (Nat×V)) (hp:α→Heap) (ok:α→Prop) (μ:α→Nat) (a:α) (Q:yv) (e:Nat→V) (h:Heap)
theorem ziC:lpQ cx st hp ok μ a Q .normal e h= ∃b,ok b∧μ b<μ a∧zu (st b) e∧h.bs.take (hp b).bs.length=(hp b).bs∧h.clk=(hp b).clk:=rfl
theorem zri(i:Nat):lpQ cx st hp ok μ a Q (.exit i) e h=Q (.exit i) e h:=rfl
theorem zrj(i:Nat):lpQ cx st hp ok μ a Q (.goto i) e h=Q (.goto i) e h:=rfl
theorem zwW:lpQ cx st hp ok μ a Q .ret e h=Q .ret e h:=rfl
end
theorem zC.lp(st:α→List (Nat×V))(hp:α→Heap)(ok:α→Prop)(μ:α→Nat)(a0:α)(h0:ok a0)(start:St cx (st a0) (hp a0) e h)
  (round:∀a,ok a→wpC cx c (lpQ cx st hp ok μ a Q) (ev (st a)) (hp a)):zC cx (.loop c) Q e h:=by
 intro code hc g a w R
 obtain⟨b,rfl,hb⟩:=KW hc
 obtain⟨g0,R0⟩:=start g a w R
 refine zb9 (fun n a w=>∃x g,ok x∧μ x=n∧Rel cx.N g (ev (st x)) (hp x) cx.w0 cx.own0 a w) (n:=μ a0) ⟨a0,g0,h0,rfl,R0⟩ fun n a w ⟨x,g,hx,hn,R⟩=> ?_
 refine wp_mono (Yd _ (round x hx) b hb g a w R) fun z a' w' hq=> ?_
 obtain⟨g',e',h',R',q⟩:=hq
 cases z<;>simp only[lpQ,j7]at q<;>simp only[Exit.then]
 ·obtain⟨y,hy,hlt,hs1,hs2,hs3⟩:=q
  have hs:=St.cut (cx:=cx) hs1 hs2 hs3
  obtain⟨g'',R''⟩:=hs g' a' w' R'
  exact⟨μ y,by omega,y,g'',hy,rfl,R''⟩
 all_goals exact⟨g',e',h',R',q⟩
def jpQ(cx:Cx)(l:Nat)(st:α→List (Nat×V))(hp:α→Heap)(ok:α→Prop)(lt:α→Prop)(Q:yv):yv:=
 zaV l (fun e h=>∃b,ok b∧lt b∧zu (st b) e∧h.bs.take (hp b).bs.length=(hp b).bs∧h.clk=(hp b).clk) Q
section
variable (cx:Cx) (l:Nat) (st:α→List (Nat×V)) (hp:α→Heap) (ok:α→Prop) (lt:α→Prop) (a:α) (Q:yv) (e:Nat→V) (h:Heap)
theorem zit:jpQ cx l st hp ok lt Q .normal e h=Q .normal e h:=rfl
theorem zq6(i:Nat):jpQ cx l st hp ok lt Q (.exit i) e h=Q (.exit i) e h:=rfl
theorem zq7(i:Nat):jpQ cx l st hp ok lt Q (.goto i) e h=(i=l∧∃b,ok b∧lt b∧zu (st b) e∧h.bs.take (hp b).bs.length=(hp b).bs∧h.clk=(hp b).clk):=rfl
theorem zwS:jpQ cx l st hp ok lt Q .ret e h=Q .ret e h:=rfl
end
end
def zdC:C→Nat→Bool
 | .label l',l=>l'==l
 |_,_=>false
def zlA:C→Nat→Option (C×C)
 | .seq a b,l=>if zdC a l then some (.skip,b)else if(Zo a l).isSome then none else(zlA b l).map fun p=>(.seq a p.1,p.2)
 |_,_=>none
theorem zcP{l:Nat}:∀ {c p b:C},zlA c l=some (p,b)→Zo c l=some (.seq .skip b)
 | .seq x y,p,b,h=>by
   simp only[zlA]at h
   split at h
   ·rename_i hl
    simp only[Option.some.injEq,Prod.mk.injEq]at h
    obtain⟨rfl,rfl⟩:=h
    cases x<;>simp only[zdC,Bool.false_eq_true]at hl
    simp only[Zo,hl,if_true]
   ·split at h
    ·cases h
    ·rename_i hl hf
     simp only[Option.map_eq_some_iff]at h
     obtain⟨⟨p',b'⟩,h1,h2⟩:=h
     simp only[Prod.mk.injEq]at h2
     obtain⟨rfl,rfl⟩:=h2
     have hf':Zo x l=none:=by simpa using hf
     simp only[Zo,hf',zcP h1]
 | .skip,_,_,h| .reg _,_,_,h| .qreg _,_,_,h| .treg _,_,_,h| .areg _ _,_,_,h| .breg _ _,_,_,h| .xreg _ _,_,_,h| .mreg _ _,_,_,h| .cond _ _ _,_,_,h| .block _ _,_,_,h| .loop _,_,_,h| .exit _,_,_,h| .scope _,_,_,h| .label _,_,_,h| .goto _,_,_,h| .ret,_,_,h=>by cases h
theorem zfn{cx:Cx}{l:Nat}{Q:yv}{K:(Nat→V)→Heap→Prop}:∀ {c p b:C},zlA c l=some (p,b)→∀ {code:Code}{e:Nat→V}{h:Heap},zH cx.P cx.N code=some c→
  (∀e h,K e h→∃e' h',jG cx e h e' h'∧zC cx b Q e' h')→wpC cx p (j7 K Q) e h→∀g a w,Rel cx.N g e h cx.w0 cx.own0 a w→code.wp cx.P (cx.post Q) a w
 | .seq x y,p,b,h,code,e,hh,hc,hK,hw,g,a,w,R=>by
   have hcode:∃x' y',code= .seq x' y'∧zH cx.P cx.N x'=some x∧zH cx.P cx.N y'=some y:=by
    cases code with
    |seq x' y'=>
     simp only[zH]at hc
     split at hc
     ·rename_i u v hu hv
      simp only[Option.some.injEq,C.seq.injEq]at hc
      obtain⟨rfl,rfl⟩:=hc
      exact⟨x',y',rfl,hu,hv⟩
     ·cases hc
    |region id ops draw=>rcases jU hc with⟨_,h⟩|⟨_,h⟩|⟨_,h⟩|⟨_,_,h⟩|⟨_,_,h⟩|⟨_,_,h⟩|⟨_,_,h⟩|⟨_,h⟩<;>cases h
    |cond x y z=>simp only[zH]at hc;split at hc<;>cases hc
    |rangeFunc f ps x y=>
     simp only[zH]at hc
     split at hc
     ·split at hc<;>cases hc
     ·cases hc
    |block id b=>simp only[zH,Option.map_eq_some_iff]at hc;obtain⟨_,_,h⟩:=hc;cases h
    |scope b=>simp only[zH,Option.map_eq_some_iff]at hc;obtain⟨_,_,h⟩:=hc;cases h
    |loop b=>simp only[zH,Option.map_eq_some_iff]at hc;obtain⟨_,_,h⟩:=hc;cases h
    |_=>simp[zH]at hc
   obtain⟨x',y',rfl,hx,hy⟩:=hcode
   simp only[zlA]at h
   split at h
   ·rename_i hl
    simp only[Option.some.injEq,Prod.mk.injEq]at h
    obtain⟨rfl,rfl⟩:=h
    obtain⟨e',h',hwk,hwb⟩:=hK _ _ hw
    obtain⟨g',R'⟩:=hwk g a w R
    cases x<;>simp only[zdC,Bool.false_eq_true]at hl
    refine wp_seq (wp_mono (Yd (cx:=cx) (.label _) (Q:=fun x e h=>x= .normal∧e=e'∧h=h') ⟨rfl,rfl,rfl⟩ _ hx g' a w R') fun z a' w' hq=> ?_)
    obtain⟨g'',e'',h'',R'',rfl,rfl,rfl⟩:=hq
    exact hwb y' hy g'' a' w' R''
   ·split at h
    ·cases h
    ·simp only[Option.map_eq_some_iff]at h
     obtain⟨⟨p',b'⟩,h1,h2⟩:=h
     simp only[Prod.mk.injEq]at h2
     obtain⟨rfl,rfl⟩:=h2
     have hw':wpC cx x (j7 (fun e h=>wpC cx p' (j7 K Q) e h) (j7 K Q)) e hh:=hw
     refine wp_seq (wp_mono (Yd x hw' x' hx g a w R) fun z a' w' hq=> ?_)
     obtain⟨g',e',h',R',q⟩:=hq
     cases z<;>simp only[j7]at q<;>simp only[Exit.then]
     ·exact zfn h1 hy hK q g' a' w' R'
     all_goals exact⟨g',e',h',R',q⟩
 | .skip,_,_,h,_,_,_,_,_,_,_,_,_,_| .reg _,_,_,h,_,_,_,_,_,_,_,_,_,_| .qreg _,_,_,h,_,_,_,_,_,_,_,_,_,_| .treg _,_,_,h,_,_,_,_,_,_,_,_,_,_| .areg _ _,_,_,h,_,_,_,_,_,_,_,_,_,_| .breg _ _,_,_,h,_,_,_,_,_,_,_,_,_,_| .xreg _ _,_,_,h,_,_,_,_,_,_,_,_,_,_| .mreg _ _,_,_,h,_,_,_,_,_,_,_,_,_,_| .cond _ _ _,_,_,h,_,_,_,_,_,_,_,_,_,_
 | .block _ _,_,_,h,_,_,_,_,_,_,_,_,_,_| .loop _,_,_,h,_,_,_,_,_,_,_,_,_,_| .exit _,_,_,h,_,_,_,_,_,_,_,_,_,_| .scope _,_,_,h,_,_,_,_,_,_,_,_,_,_| .label _,_,_,h,_,_,_,_,_,_,_,_,_,_
 | .goto _,_,_,h,_,_,_,_,_,_,_,_,_,_| .ret,_,_,h,_,_,_,_,_,_,_,_,_,_=>by cases h
def zAY{α:Type}(cx:Cx)(st:α→List (Nat×V))(hp:α→Heap)(ok:α→Prop)(Q:yv):yv:=j7 (fun e h=>∃b,ok b∧St cx (st b) (hp b) e h) Q
theorem zf6{α:Type}(cx:Cx)(st:α→List (Nat×V))(hp:α→Heap)(ok:α→Prop)(Q:yv)(e:Nat→V)(h:Heap):zAY cx st hp ok Q .normal e h= ∃b,ok b∧St cx (st b) (hp b) e h:=rfl
theorem zrI{α:Type}(cx:Cx)(st:α→List (Nat×V))(hp:α→Heap)(ok:α→Prop)(Q:yv)(e:Nat→V)(h:Heap):zAY cx st hp ok Q .ret e h=Q .ret e h:=rfl
theorem zC.lab{α:Type}{cx:Cx}{c p b:C}{Q:yv}{e:Nat→V}{h:Heap}(l:Nat)(st:α→List (Nat×V))(hp:α→Heap)(ok:α→Prop)(μ:α→Nat)(hf:zlA c l=some (p,b))
  (first:wpC cx p (zAY cx st hp ok (jpQ cx l st hp ok (fun _=>True) Q)) e h)
  (pass:∀a,ok a→wpC cx b (jpQ cx l st hp ok (fun b=>μ b<μ a) Q) (ev (st a)) (hp a)):zC cx (.scope c) Q e h:=by
 intro code hc g a w R
 obtain⟨code',rfl,hb⟩:=Ww hc
 obtain⟨r',hf',hr⟩:=(zfC hb).2 _ (zcP hf)
 have conv:∀(lt:α→Prop)(z:Exit)(a':Act)(w':World),cx.post (jpQ cx l st hp ok lt Q) z a' w'→Exit.jump' l (fun a w=>∃n x g,ok x∧μ x=n∧lt x∧Rel cx.N g (ev (st x)) (hp x) cx.w0 cx.own0 a w) (cx.post Q) z a' w':=by
  intro lt z a' w' ⟨g',e',h',R',q⟩
  cases z<;>simp only[jpQ,zaV]at q<;>simp only[Exit.jump']
  case goto l'=>
   obtain⟨hl,y,hy,hlt,hs1,hs2,hs3⟩:=q
   have hs:=St.cut (cx:=cx) hs1 hs2 hs3
   obtain⟨g'',R''⟩:=hs g' a' w' R'
   exact⟨hl,_,y,g'',hy,rfl,hlt,R''⟩
  all_goals exact⟨g',e',h',R',q⟩
 refine Qf l (fun n a w=>∃x g,ok x∧μ x=n∧Rel cx.N g (ev (st x)) (hp x) cx.w0 cx.own0 a w) hf' ?_ fun n a w ⟨x,g,hx,hn,R⟩=> ?_
 ·have key:∀e h,(∃b,ok b∧St cx (st b) (hp b) e h)→∃e' h',jG cx e h e' h'∧zC cx b (jpQ cx l st hp ok (fun _=>True) Q) e' h':=by
   intro e h hh
   obtain⟨x,hx,hs⟩:=hh
   refine⟨_,_,hs,zC.mono (Yd b (pass x hx)) ?_⟩
   intro z e h hz
   cases z<;>simp only[jpQ,zaV]at hz⊢
   case goto l'=>obtain⟨hl,y,hy,_,hs⟩:=hz;exact⟨hl,y,hy,trivial,hs⟩
   all_goals exact hz
  refine wp_mono (zfn (Q:=jpQ cx l st hp ok (fun _=>True) Q) hf hb key first g a w R) ?_
  intro z a' w' hq
  have:=conv _ z a' w' hq
  cases z<;>simp only[Exit.jump']at this⊢
  case goto l'=>obtain⟨hl,n,x,g,h1,h2,_,h3⟩:=this;exact⟨hl,n,x,g,h1,h2,h3⟩
  all_goals exact this
 ·refine wp_mono (Yd (.seq .skip b) (Q:=jpQ cx l st hp ok (fun b=>μ b<μ x) Q) (pass x hx) r' hr g a w R) fun z a' w' hq=> ?_
  have:=conv _ z a' w' hq
  cases z<;>simp only[Exit.jump']at this⊢
  case goto l'=>obtain⟨hl,n,y,g,h1,h2,h4,h3⟩:=this;exact⟨hl,n,by omega,y,g,h1,h2,h3⟩
  all_goals exact this
end Go.Sx
end
section
set_option linter.unusedVariables false
namespace Go.Sx
section
variable {h:Heap} {S S':Nat→Bool}
theorem K4(h:Heap)(S:Nat→Bool)(j:Nat):(h.freeze S).bs[j]? =(h.bs[j]?).map fun B=>⟨B.ver,B.sz,B.es,B.fz||S j,B.d⟩:=by
 simp[Heap.freeze]
theorem ziq(h:Heap)(S:Nat→Bool)(j v:Nat):(h.freeze S).cur j v=h.cur j v:=by
 unfold Heap.cur;rw[K4];cases h.bs[j]? <;>rfl
theorem zio(h:Heap)(S:Nat→Bool)(j:Nat):((h.freeze S).blk j).es=(h.blk j).es∧((h.freeze S).blk j).sz=(h.blk j).sz∧((h.freeze S).blk j).d=(h.blk j).d:=by
 unfold Heap.blk;rw[K4];cases h.bs[j]? <;>exact⟨rfl,rfl,rfl⟩
theorem zbn(h:Heap)(S S':Nat→Bool):∀(n:Nat)(x:V),res S (h.freeze S') n x=res S h n x
 |0,_=>rfl
 |n+1,x=>by
  have e:res S (h.freeze S') n=res S h n:=by funext y;exact zbn h S S' n y
  have hb:=fun j=>zio h S' j
  cases x<;>simp only[res,e,ziq,(hb _).1,(hb _).2.1,(hb _).2.2]
theorem Rel.freezeS{N:Nat}{g:Gh}{e:Nat→V}{w0 w:World}{own0:Own}{a:Act}(S:Nat→Bool)(R:Rel N g e h w0 own0 a w):
  Ext g w ⟨FZ g S,g.inf,g.us⟩ w∧Rel N ⟨FZ g S,g.inf,g.us⟩ e (h.freeze S) w0 own0 a w:=by
 have H:=R.heap
 have hF':∀b,g.F b→FZ g S b:=fun b hb=>.inl hb
 have ex:Ext g w ⟨FZ g S,g.inf,g.us⟩ w:=⟨⟨hF',fun b hb=>rfl,fun _ _ h=>h,fun _ _ h _=>h⟩,fun _ _ h=>.inl h⟩
 refine⟨ex,R.size,fun i=>(R.tm i).mono ex,(let⟨m,hm,hd⟩:=R.defers;⟨m,hm,hd.mono ex⟩),?_⟩
 refine⟨H.clk,by simp[Heap.freeze,H.len],fun j B I hB hI=> ?_,H.vlt,H.dist,fun b hb=>Ql H hb,H.own,H.frm,fun b hb=> ?_,H.ext.trans ex,H.glb⟩
 ·simp only[Heap.freeze,List.getElem?_mapIdx,Option.map_eq_some_iff]at hB
  obtain⟨B0,hB0,rfl⟩:=hB
  have hk:=H.ok j B0 I hB0 hI
  refine⟨hk.ver,hk.sz,hk.len,hk.gone,fun b hb=>(hk.here b hb).mono ex rfl,fun b hb hf=> ?_,fun b hb hf hF=> ?_⟩
  ·simp only[Bool.or_eq_true]at hf
   rcases hf with hf|hf
   ·exact .inl (hk.fz b hb hf)
   ·exact .inr ⟨j,I,hI,hb,hf⟩
  ·simp only[Bool.or_eq_false_iff]at hf
   rcases hF with hF|⟨k,J,hJ,hJb,hS⟩
   ·exact hk.nf b hb hf.1 hF
   ·have:=H.dist j k I J b hI hJ hb hJb
    subst this
    rw[hf.2]at hS;cases hS
 ·rcases hb with hb|⟨k,J,hJ,hJb,_⟩
  ·exact H.fin b hb
  ·exact .inr (H.own k J b hJ hJb)
theorem jG.sealC{cx:Cx}{e:Nat→V}(S:Nat→Bool)(j i k:Nat){B:Blk}{y:V}(hB:h.bs[j]? =some B)(hr:res S h 11 ((B.es.getD i []).getD k .any)=some y):
  jG cx e h e ⟨(h.freeze S).bs.set j ⟨B.ver,B.sz,B.es.set i ((B.es.getD i []).set k y),B.fz||S j,B.d⟩,h.clk⟩:=fun g a w R=>by
 obtain⟨ex,R1⟩:=R.freezeS S
 have hB1:(h.freeze S).bs[j]? =some ⟨B.ver,B.sz,B.es,B.fz||S j,B.d⟩:=by rw[K4,hB];rfl
 have hj:j<h.bs.length:=(List.getElem?_eq_some_iff.1 hB).1
 have hlen:∀e∈B.es,e.length=B.sz:=by
  have hjI:j<g.inf.length:=by rw[R.heap.len];exact hj
  exact(R.heap.ok j B _ hB (List.getElem?_eq_getElem hjI)).len
 have H2:=R1.heap.recell (B':=⟨B.ver,B.sz,B.es.set i ((B.es.getD i []).set k y),B.fz||S j,B.d⟩) hB1 rfl rfl rfl (by simp) (fun c hc=> ?_) (fun v i' k' hvr=> ?_)
 ·exact⟨_,R1.size,R1.tm,R1.defers,H2⟩
 ·rcases List.mem_or_eq_of_mem_set hc with hc|rfl
  ·exact hlen c hc
  ·rw[List.length_set]
   by_cases hi:i<B.es.length
   ·rw[List.getD_eq_getElem?_getD,List.getElem?_eq_getElem hi];exact hlen _ (List.getElem_mem _)
   ·rw[List.set_eq_of_length_le (by omega)]at hc
    simp only[]at hc
    rw[List.getD_eq_getElem?_getD,List.getElem?_eq_none (by omega)]at hc⊢
    exact hlen _ (by simpa using hc)
 ·by_cases hii:i'=i∧k'=k∧i<B.es.length∧k<(B.es.getD i []).length
  ·obtain⟨rfl,rfl,hi,hk⟩:=hii
   have e2:((B.es.set i' ((B.es.getD i' []).set k' y)).getD i' []).getD k' .any=y:=by
    simp only[List.getD_eq_getElem?_getD]at hk⊢
    rw[List.getElem?_set_self hi]
    simp only[Option.getD_some]
    rw[List.getElem?_set_self hk];rfl
   simp only[e2]
   have h3:=jL R1.heap 11 hvr (by rw[zbn];exact hr)
   refine .p _ _ (h3.mono (fun b hb=> ?_) (fun _ _=>rfl))
   rcases hb with hb|hb
   ·exact hb
   ·exact .inr hb
  ·have e2:((B.es.set i ((B.es.getD i []).set k y)).getD i' []).getD k' .any=(B.es.getD i' []).getD k' .any:=by
    by_cases hi:i'=i
    ·subst hi
     by_cases hl:i'<B.es.length
     ·simp only[List.getD_eq_getElem?_getD]at hii⊢
      rw[List.getElem?_set_self hl]
      simp only[Option.getD_some]
      by_cases hkk:k'=k
      ·subst hkk
       rw[List.set_eq_of_length_le]
       have:¬k'<(B.es[i']?.getD []).length:=fun hh=>hii ⟨by trivial,by trivial,hl,hh⟩
       omega
      ·rw[List.getElem?_set_ne (Ne.symm hkk)]
     ·rw[List.set_eq_of_length_le (by omega)]
    ·simp only[List.getD_eq_getElem?_getD]
     rw[List.getElem?_set_ne (Ne.symm hi)]
   simp only[e2];exact hvr
end
section
variable {h:Heap}
end
section
variable {cx:Cx} {e:Nat→V} {h hp:Heap} {st:List (Nat×V)} {Q:yv} {c:C} {α:Type}
theorem St.sealC(S:Nat→Bool)(j i k:Nat){B:Blk}{y:V}(hB:h.bs[j]? =some B)(hr:res S h 11 ((B.es.getD i []).getD k .any)=some y)
 (s:St cx st hp e ⟨(h.freeze S).bs.set j ⟨B.ver,B.sz,B.es.set i ((B.es.getD i []).set k y),B.fz||S j,B.d⟩,h.clk⟩):St cx st hp e h:=St.of (jG.sealC S j i k hB hr) s
def lqQ(cx:Cx)(st:α→List (Nat×V))(hp:α→Heap)(ok:α→Prop)(μ:α→Nat)(a:α)(Q:yv):yv:=
 j7 (fun e h=>∃b,ok b∧μ b<μ a∧St cx (st b) (hp b) e h) Q
section
variable (cx:Cx) (st:α→List (Nat×V)) (hp:α→Heap) (ok:α→Prop) (μ:α→Nat) (a:α) (Q:yv) (e:Nat→V) (h:Heap)
theorem ziD:lqQ cx st hp ok μ a Q .normal e h= ∃b,ok b∧μ b<μ a∧St cx (st b) (hp b) e h:=rfl
theorem zrk(i:Nat):lqQ cx st hp ok μ a Q (.exit i) e h=Q (.exit i) e h:=rfl
theorem zrl(i:Nat):lqQ cx st hp ok μ a Q (.goto i) e h=Q (.goto i) e h:=rfl
theorem zwX:lqQ cx st hp ok μ a Q .ret e h=Q .ret e h:=rfl
end
theorem zC.lq(st:α→List (Nat×V))(hp:α→Heap)(ok:α→Prop)(μ:α→Nat)(a0:α)(h0:ok a0)(start:St cx (st a0) (hp a0) e h)
  (round:∀a,ok a→wpC cx c (lqQ cx st hp ok μ a Q) (ev (st a)) (hp a)):zC cx (.loop c) Q e h:=by
 intro code hc g a w R
 obtain⟨b,rfl,hb⟩:=KW hc
 obtain⟨g0,R0⟩:=start g a w R
 refine zb9 (fun n a w=>∃x g,ok x∧μ x=n∧Rel cx.N g (ev (st x)) (hp x) cx.w0 cx.own0 a w) (n:=μ a0) ⟨a0,g0,h0,rfl,R0⟩ fun n a w ⟨x,g,hx,hn,R⟩=> ?_
 refine wp_mono (Yd _ (round x hx) b hb g a w R) fun z a' w' hq=> ?_
 obtain⟨g',e',h',R',q⟩:=hq
 cases z<;>simp only[lqQ,j7]at q<;>simp only[Exit.then]
 ·obtain⟨y,hy,hlt,hs⟩:=q
  obtain⟨g'',R''⟩:=hs g' a' w' R'
  exact⟨μ y,by omega,y,g'',hy,rfl,R''⟩
 all_goals exact⟨g',e',h',R',q⟩
end
end Go.Sx
end
section
set_option maxHeartbeats 1000000
namespace Go.Sx
open Go.WideShapes
inductive Cell where
 |int (k:IntKind)
 |bool
 |str
 |slc (es:List Cell)
inductive CellOK:Cell→V→Prop
 |int (k:IntKind) (n:Int) (h:(Lit.int k n).wf=true):CellOK (.int k) (.c (.int k n))
 |bool (b:Bool):CellOK .bool (.c (.bool b))
 |str (s:ByteArray) (h:s.size≤maxLen):CellOK .str (.c (.string s))
 |slc (cs:List Cell) (ess:List (List V)) (hl:ess.length≤maxLen) (h:∀es∈ess,es.length=cs.length)
   (h2:∀es∈ess,∀i c,cs[i]? =some c→CellOK c (es.getD i .any)):CellOK (.slc cs) (.slc cs.length ess)
def zaL(f:TypeId→Option (List Cell)):Nat→List Field→Option (List Cell)
 |_,[]=>some []
 |off,x::r=>if x.offset=off then(f x.type).bind fun cs=>(zaL f (off+cs.length) r).map (cs++ ·)else none
def KV(P:Program)(t:TypeId)(cs:List Cell):Option (List Cell):=if cs.length=P.cellsOf t then some cs else none
def flat(P:Program):Nat→TypeId→Option (List Cell)
 |0,_=>none
 |n+1,t=>match P.underlying t with
  |some (.int k)=>KV P t [.int k]
  |some .bool=>KV P t [.bool]
  |some .string=>KV P t [.str]
  |some (.slice e)=>(flat P n e).bind fun cs=>if 0<cs.length then KV P t [.slc cs]else none
  |some (.struct fs)=>(zaL (flat P n) 0 fs.toList).bind (KV P t)
  |_=>none
def Got(w:World)(vs:List Value)(cs:List Cell)(xs:List V):Prop:=
 vs.length=cs.length∧xs.length=cs.length∧∀i c,cs[i]? =some c→CellOK c (xs.getD i .any)∧PRep (fun b=>b<w.heap.size) w (vs.getD i undef) (xs.getD i .any)∧(vs.getD i undef).oneCell'=true
section
variable {P:Program} {w:World} {H:Type} {enc:TypeId×Value→H} {base:Nat} {spare:Nat→Bool} {held:Bool}
theorem kA{t:TypeId}{cs cs':List Cell}(h:KV P t cs=some cs'):cs'=cs∧cs.length=P.cellsOf t:=by
 unfold KV at h
 split at h
 ·exact⟨(Option.some.inj h).symm,by assumption⟩
 ·cases h
theorem zfD{n:Nat}{t:TypeId}{cs:List Cell}(h:flat P n t=some cs):cs.length=P.cellsOf t:=by
 cases n with
 |zero=>cases h
 |succ n=>
  unfold flat at h
  split at h
  all_goals first
   |(obtain⟨rfl,h2⟩:=kA h;exact h2)
   |cases h
   |skip
  ·simp only[Option.bind_eq_some_iff]at h
   obtain⟨es,_,h⟩:=h
   split at h
   ·obtain⟨rfl,h2⟩:=kA h;exact h2
   ·cases h
  ·simp only[Option.bind_eq_some_iff]at h
   obtain⟨es,_,h⟩:=h
   obtain⟨rfl,h2⟩:=kA h;exact h2
theorem Got.one{v:Value}{c:Cell}{x:V}(h1:CellOK c x)(h2:PRep (fun b=>b<w.heap.size) w v x)(h3:v.oneCell'=true):Got w [v] [c] [x]:=by
 refine⟨rfl,rfl,fun i c' hc=> ?_⟩
 cases i with
 |zero=>simp at hc;subst hc;exact⟨by simpa using h1,by simpa using h2,by simpa using h3⟩
 |succ i=>simp at hc
theorem Got.append{v1 v2:List Value}{c1 c2:List Cell}{x1 x2:List V}(h1:Got w v1 c1 x1)(h2:Got w v2 c2 x2):Got w (v1++v2) (c1++c2) (x1++x2):=by
 obtain⟨a1,b1,g1⟩:=h1
 obtain⟨a2,b2,g2⟩:=h2
 refine⟨by simp[a1,a2],by simp[b1,b2],fun i c hc=> ?_⟩
 by_cases hi:i<c1.length
 ·have hc':c1[i]? =some c:=by rwa [List.getElem?_append_left hi]at hc
  have:=g1 i c hc'
  simpa[List.getD_eq_getElem?_getD,List.getElem?_append_left,a1,b1,hi]using this
 ·have hc':c2[i - c1.length]? =some c:=by rwa [List.getElem?_append_right (by omega)]at hc
  have:=g2 _ c hc'
  have e1:(v1++v2)[i]? =v2[i - c1.length]? :=by rw[List.getElem?_append_right (by omega),a1]
  have e2:(x1++x2)[i]? =x2[i - c1.length]? :=by rw[List.getElem?_append_right (by omega),b1]
  simpa only[List.getD_eq_getElem?_getD,e1,e2]using this
theorem zaP{n m:Nat}{vs:List Value}(ih:∀t vs x cs,flat P n t=some cs→DataW.trod enc P w base spare held m t vs=some x→∃xs,Got w vs cs xs):
  ∀(fs:List Field)(off:Nat)(cs:List Cell),zaL (flat P n) off fs=some cs→(∀f∈fs,∃x,DataW.trod enc P w base spare held m f.type ((vs.drop f.offset).take (P.cellsOf f.type))=some x)→
   ∃xs,Got w ((vs.drop off).take cs.length) cs xs
 | [],off,cs,h,_=>by
   simp only[zaL,Option.some.injEq]at h
   subst h
   exact⟨[],by simp,rfl,by simp⟩
 |f::fs,off,cs,h,ht=>by
  simp only[zaL]at h
  split at h
  ·rename_i hoff
   simp only[Option.bind_eq_some_iff,Option.map_eq_some_iff]at h
   obtain⟨c1,h1,c2,h2,rfl⟩:=h
   obtain⟨x,hx⟩:=ht f (by simp)
   obtain⟨x1,g1⟩:=ih _ _ _ _ h1 hx
   obtain⟨x2,g2⟩:=zaP ih fs _ c2 h2 fun f' hf'=>ht f' (by simp[hf'])
   refine⟨x1++x2,?_⟩
   have:=g1.append g2
   rw[hoff,←zfD h1]at this
   rw[List.length_append,List.take_add,List.drop_drop]
   exact this
  ·cases h
theorem zlU{a:Addr}{len cap:Nat}{ces:List Cell}(hle:len≤cap)(hcap:cap≤maxLen)(hpos:0<ces.length)
  (h:∀i,i<len→∃vals xs,w.cells? base (a.add (i*ces.length)) ces.length=some vals∧Got w vals ces xs):
  ∃x,Got w [.slice (some a) len cap] [.slc ces] [x]:=by
 have h':∀i:Nat,∃p:List Value×List V,i<len→w.cells? base (a.add (i*ces.length)) ces.length=some p.1∧Got w p.1 ces p.2:=by
  intro i
  by_cases hi:i<len
  ·obtain⟨v,x,hv⟩:=h i hi;exact⟨(v,x),fun _=>hv⟩
  ·exact⟨([],[]),fun hi'=>absurd hi' hi⟩
 obtain⟨f,hf⟩:=Classical.skolem.1 h'
 have hel:∀es∈(List.range len).map fun i=>(f i).2,∃i,i<len∧es=(f i).2:=by
  intro es hes
  obtain⟨i,hi,rfl⟩:=List.mem_map.1 hes
  exact⟨i,List.mem_range.1 hi,rfl⟩
 have hsz:∀es∈(List.range len).map fun i=>(f i).2,es.length=ces.length:=by
  intro es hes
  obtain⟨i,hi,rfl⟩:=hel es hes
  exact(hf i hi).2.2.1
 refine⟨.slc ces.length ((List.range len).map fun i=>(f i).2),Got.one (.slc _ _ (by simp;omega) hsz fun es hes i c hc=> ?_) ?_ rfl⟩
 ·obtain⟨j,hj,rfl⟩:=hel es hes
  exact((hf j hj).2.2.2 i c hc).1
 ·by_cases h0:len=0
  ·subst h0
   exact .slc _ _ _ _ _ 0 0 (fun _ _=>undef) (by simp) hle hsz (by simp) (by simp) (by simp)
  have hl0:0<len:=by omega
  have hs:a.spot=none:=by
   obtain⟨_,hl,hc⟩:=World.cells?_some (hf 0 hl0).1
   have:=hc 0 hpos
   rw[List.getElem?_eq_getElem (by omega)]at this
   have:=World.cell?_spot this
   simpa[Addr.add]using this
  obtain⟨b,o,s⟩:=a
  simp only at hs
  subst hs
  have add:∀n,(⟨b,o,none⟩:Addr).add n=⟨b,o+n,none⟩:=fun n=>by
   unfold Addr.add
   split<;>simp_all
  have cell:∀i k,i<len→k<ces.length→w.cell? ⟨b,o+(i*ces.length+k),none⟩=some ((f i).1.getD k undef):=by
   intro i k hi hk
   obtain⟨_,hl,hc⟩:=World.cells?_some (hf i hi).1
   have:=hc k hk
   rw[add]at this
   have add2:∀n m,(⟨b,m,none⟩:Addr).add n=⟨b,m+n,none⟩:=fun n m=>by
    unfold Addr.add
    split<;>simp_all
   rw[add2,List.getElem?_eq_getElem (by omega)]at this
   rw[List.getD_eq_getElem?_getD,List.getElem?_eq_getElem (by omega)]
   simpa[Nat.add_assoc]using this
  refine .slc _ _ _ _ _ b o (fun i k=>(f i).1.getD k undef) (by simp) hle hsz (fun h0=>⟨rfl,?_⟩) (fun i k hi hk=> ?_) (fun i k hi hk=> ?_)
  ·have:=World.cells?_block (hf 0 hl0).1 hpos
   rw[add]at this
   exact this
  ·have hi':i<len:=by simpa using hi
   exact⟨cell i k hi' hk,((hf i hi').2.2.2 k ces[k] (List.getElem?_eq_getElem hk)).2.2⟩
  ·have hi':i<len:=by simpa using hi
   have e1:(((List.range len).map fun i=>(f i).2).getD i [])=(f i).2:=by simp[List.getD_eq_getElem?_getD,hi']
   rw[e1]
   exact((hf i hi').2.2.2 k ces[k] (List.getElem?_eq_getElem hk)).2.1
theorem got:∀(n m:Nat)(t:TypeId)(vs:List Value)(x:DataW H×List MemPlace)(cs:List Cell),flat P n t=some cs→DataW.trod enc P w base spare held m t vs=some x→∃xs,Got w vs cs xs:=by
 intro n
 induction n with
 |zero=>intro m t vs x cs h;cases h
 |succ n ih=>
  intro m t vs x cs h hx
  unfold flat at h
  split at h
  ·rename_i k hk
   obtain⟨rfl,h2⟩:=kA h
   obtain⟨z,rfl,_,hw⟩:=DataW.trod_int hk hx
   exact⟨_,Got.one (.int k z hw) (.c _) rfl⟩
  ·rename_i hk
   obtain⟨rfl,h2⟩:=kA h
   obtain⟨z,rfl,_⟩:=DataW.trod_bool hk hx
   exact⟨_,Got.one (.bool z) (.c _) rfl⟩
  ·rename_i hk
   obtain⟨rfl,h2⟩:=kA h
   obtain⟨z,rfl,_,hw⟩:=DataW.trod_string hk hx
   exact⟨_,Got.one (.str z hw) (.c _) rfl⟩
  ·rename_i e hk
   simp only[Option.bind_eq_some_iff]at h
   obtain⟨es,hes,h⟩:=h
   split at h
   ·rename_i hpos
    obtain⟨rfl,h2⟩:=kA h
    rcases DataW.trod_slice hk hx with⟨rfl,_⟩|⟨a,len,cap,elems,rest,m',rfl,rfl,_,hb,hle,hcap,hlen,hel,_⟩
    ·exact⟨[.slc es.length []],Got.one (.slc _ [] (Nat.zero_le _) (by simp) (by simp)) (.slc none 0 0 _ [] 0 0 (fun _ _=>undef) rfl (Nat.le_refl _) (by simp) (by simp) (by simp) (by simp)) rfl⟩
    ·obtain⟨x,g⟩:=zlU (w:=w) (base:=base) (a:=a) (len:=len) (cap:=cap) (ces:=es) hle hcap hpos fun i hi=>by
      have hi2:=hel i hi
      rw[List.getElem?_eq_getElem (by omega),Option.bind_eq_some_iff]at hi2
      obtain⟨vals,hv,ht⟩:=hi2
      obtain⟨xs,g⟩:=ih m' e vals _ es hes ht
      rw[←zfD hes]at hv
      exact⟨vals,xs,hv,g⟩
     exact⟨[x],g⟩
   ·cases h
  ·rename_i fs hk
   simp only[Option.bind_eq_some_iff]at h
   obtain⟨cs',hcs,h⟩:=h
   obtain⟨rfl,h2⟩:=kA h
   obtain⟨xs,m',rfl,_,hl,hxl,hf⟩:=DataW.trod_struct hk hx
   obtain⟨ys,g⟩:=zaP (vs:=vs) (fun t vs x cs=>ih m' t vs x cs) fs.toList 0 _ hcs fun f hf'=>by
    obtain⟨i,hi,rfl⟩:=List.mem_iff_getElem.1 hf'
    have hi':i<fs.size:=by simpa using hi
    have:=hf i fs[i] (by simp[hi'])
    refine⟨xs[i],?_⟩
    simpa[hxl,hi']using this
   rw[List.drop_zero,List.take_of_length_le (by omega)]at g
   exact⟨ys,g⟩
  ·cases h
theorem zag{r:Reach}{b0 n:Nat}{t:TypeId}{v:Value}{c:Cell}{d:DataW H}{ps:List MemPlace}(hf:flat P n t=some [c])(hns:∀fs,P.underlying t≠some (.struct fs))
  (hval:Value.okWide P w r b0 t v) (hd:DataW.Trod enc P w base spare held t v d ps):∃x,CellOK c x∧PRep (fun b=>b<w.heap.size) w v x:=by
 obtain⟨m,hm⟩:=hd
 obtain⟨xs,h1,h2,h3⟩:=got n m t _ _ _ hf hm
 have hone:v.cells= #[v]:=by
  cases n with
  |zero=>cases hf
  |succ n=>
   unfold flat at hf
   split at hf
   ·rename_i hk;obtain⟨_,rfl⟩:=okWide_int hk hval;rfl
   ·rename_i hk;obtain⟨_,rfl⟩:=okWide_bool hk hval;rfl
   ·rename_i hk;obtain⟨_,rfl⟩:=okWide_string hk hval;rfl
   ·rename_i hk;obtain⟨_,_,_,rfl⟩:=okWide_slice hk hval;rfl
   ·rename_i hk;exact absurd hk (hns _)
   ·cases hf
 rw[hone]at h3
 have:=h3 0 c rfl
 exact⟨xs.getD 0 .any,this.1,by simpa using this.2.1⟩
end
end Go.Sx
end
section
namespace Go.Sx
set_option linter.unusedSimpArgs false
abbrev vi(n:Int):V:=.c (.int .i64 n)
abbrev vs(s:ByteArray):V:=.c (.string s)
abbrev vb(b:Bool):V:=.c (.bool b)
abbrev zz:V:=.c (.slice none 0 0)
def zD(l:List Int):V:=.slc 1 (l.map fun n=>[vi n])
structure Tok where
 kind:Int
 text:ByteArray
 n:Int
def Tok.enc(t:Tok):List V:=[vi t.kind,vs t.text,vi t.n]
def Tok.zero:Tok:=⟨0,⟨#[]⟩,0⟩
def zh(l:List Tok):V:=.slc 3 (l.map Tok.enc)
theorem qg(l:List Int)(i:Nat):(l.map fun n=>[vi n]).getD i [vi 0]= [vi (l.getD i 0)]:=by simp[List.getD_eq_getElem?_getD,vi]
theorem zcW(l:List Tok)(i:Nat):(l.map Tok.enc).getD i [vi 0,vs ⟨#[]⟩,vi 0]=(l.getD i .zero).enc:=by
 have:[vi 0,vs ⟨#[]⟩,vi 0]=Tok.zero.enc:=rfl
 rw[this]
 simp only[List.getD_eq_getElem?_getD,List.getElem?_map,Option.getD_map]
theorem zbm(S:Nat→Bool)(h:Heap)(u:Value):res S h 12 (.c u)=some (.c u):=rfl
theorem zxh(S:Nat→Bool)(h:Heap)(sz:Nat)(es:List (List V)):res S h 12 (.slc sz es)=some (.slc sz es):=rfl
theorem zA8(S:Nat→Bool)(h:Heap)(cs:List V):res S h 12 (.pp cs)=some (.pp cs):=rfl
theorem zxf(S:Nat→Bool)(h:Heap)(cs:List V):res S h 12 (.agg cs)=(zA (res S h 11) cs).map .agg:=rfl
theorem zxi(S:Nat→Bool)(h:Heap)(cs:List V):res S h 12 (.tup cs)=(zA (res S h 11) cs).map .tup:=rfl
theorem zA7(S:Nat→Bool)(h:Heap)(f:FuncId)(cs:List V):res S h 12 (.fn f cs)=(zA (res S h 11) cs).map (.fn f):=rfl
theorem zxe(S:Nat→Bool)(h:Heap)(u:Value):res S h 11 (.c u)=some (.c u):=rfl
theorem zmp(S:Nat→Bool)(h:Heap)(sz:Nat)(es:List (List V)):res S h 11 (.slc sz es)=some (.slc sz es):=rfl
theorem zrP(S:Nat→Bool)(h:Heap)(cs:List V):res S h 11 (.pp cs)=some (.pp cs):=rfl
theorem zkR(S:Nat→Bool)(h:Heap)(u:Value):res S h 10 (.c u)=some (.c u):=rfl
theorem zA5(S:Nat→Bool)(h:Heap)(u:Value):res S h 9 (.c u)=some (.c u):=rfl
theorem zkS(S:Nat→Bool)(h:Heap)(j ver off len:Nat):res S h 12 (.ref j ver off len)=
 if S j&&h.cur j ver&&decide (off+len≤(h.blk j).es.length)then(zA (zA (res S h 11)) (((h.blk j).es.drop off).take len)).map (.slc (h.blk j).sz)else none:=rfl
theorem X9(S:Nat→Bool)(h:Heap)(j ver off len:Nat):res S h 11 (.ref j ver off len)=
 if S j&&h.cur j ver&&decide (off+len≤(h.blk j).es.length)then(zA (zA (res S h 10)) (((h.blk j).es.drop off).take len)).map (.slc (h.blk j).sz)else none:=rfl
theorem zxg(S:Nat→Bool)(h:Heap)(j ver i o:Nat):res S h 12 (.ptr j ver i o)=
 if S j&&h.cur j ver&&decide (i<(h.blk j).es.length)then(zA (res S h 11) (((h.blk j).es.getD i (h.blk j).d).drop o)).map .pp else none:=rfl
theorem zmo(S:Nat→Bool)(h:Heap)(j ver i o:Nat):res S h 11 (.ptr j ver i o)=
 if S j&&h.cur j ver&&decide (i<(h.blk j).es.length)then(zA (res S h 10) (((h.blk j).es.getD i (h.blk j).d).drop o)).map .pp else none:=rfl
theorem qz{α:Type}(S:Nat→Bool)(h:Heap)(n:Nat)(f:α→List V)(hf:∀x,(f x).all (fun v=>v.isC)=true)(l:List α):zA (zA (res S h (n+1))) (l.map f)=some (l.map f):=by
 refine JL fun x hx=> ?_
 obtain⟨y,_,rfl⟩:=List.mem_map.1 hx
 refine JL fun v hv=> ?_
 have:=List.all_eq_true.1 (hf y) v hv
 rw[V.isC_ok this];rfl
theorem zfS(S:Nat→Bool)(h:Heap)(l:List Int):zA (zA (res S h 11)) (l.map fun n=>[vi n])=some (l.map fun n=>[vi n]):=qz S h 10 _ (fun _=>rfl) l
theorem zfR(S:Nat→Bool)(h:Heap)(l:List Int):zA (zA (res S h 10)) (l.map fun n=>[vi n])=some (l.map fun n=>[vi n]):=qz S h 9 _ (fun _=>rfl) l
theorem ql(S:Nat→Bool)(h:Heap)(l:List Tok):zA (zA (res S h 11)) (l.map Tok.enc)=some (l.map Tok.enc):=qz S h 10 _ (fun _=>rfl) l
theorem yX{α β:Type}(f:α→β)(l:List α):(l.map f).take l.length=l.map f:=by rw[List.take_of_length_le (by simp)]
theorem zpl{α β:Type}(f:α→β)(l:List α)(n:Nat):(l.map f).take n=(l.take n).map f:=by simp
theorem YN(n:Int):(inR n=true)=(-9223372036854775808≤n∧n≤9223372036854775807):=by simp[inR]
theorem zBr(a b:Int):(V.c (Value.int IntKind.i64 a)=V.c (Value.int IntKind.i64 b))=(a=b):=by simp
theorem zBx(a b:ByteArray):(V.c (Value.string a)=V.c (Value.string b))=(a=b):=by simp
theorem zBq(a b:Bool):(V.c (Value.bool a)=V.c (Value.bool b))=(a=b):=by simp
theorem Wy(s:ByteArray):s.data.toList.length=s.size:=Array.length_toList
theorem zp5(agg:Bool)(zero:List Value)(ρ:X→V)(i:Nat):YG agg zero [] ρ i=zero.map .c:=rfl
theorem zln(agg:Bool)(zero:List Value)(j:Nat)(x:X)(ps:List (Nat×X))(ρ:X→V)(i:Nat):YG agg zero ((j,x)::ps) ρ i=if j=i then cellsOf agg (ρ x)else YG agg zero ps ρ i:=by
 simp only[YG,List.find?_cons]
 by_cases h:j=i
 ·simp[h]
 ·have:(j==i)=false:=by simpa using h
  simp[this,h]
theorem zA1:List.range 1= [0]:=rfl
theorem zA2:List.range 2= [0,1]:=rfl
theorem zA3:List.range 3= [0,1,2]:=rfl
theorem zA4:List.range 4= [0,1,2,3]:=rfl
theorem Tok.eta(t:Tok):(⟨t.kind,t.text,t.n⟩:Tok)=t:=rfl
theorem zwl(b:Bool):(bif b then b else true)=true:=by cases b<;>rfl
def V.int:V→Int
 | .c (.int _ n)=>n
 |_=>0
def V.str:V→ByteArray
 | .c (.string s)=>s
 |_=>⟨#[]⟩
def V.cs:V→List V
 | .agg cs=>cs
 | .pp cs=>cs
 |_=>[]
def V.es:V→List (List V)
 | .slc _ es=>es
 |_=>[]
theorem V.int_c(k:IntKind)(n:Int):V.int (.c (.int k n))=n:=rfl
theorem V.str_c(s:ByteArray):V.str (.c (.string s))=s:=rfl
theorem V.cs_agg(cs:List V):V.cs (.agg cs)=cs:=rfl
theorem V.cs_pp(cs:List V):V.cs (.pp cs)=cs:=rfl
theorem V.es_slc(sz:Nat)(es:List (List V)):V.es (.slc sz es)=es:=rfl
def zqB(l:List V):Tok:=⟨(l.getD 0 .any).int,(l.getD 1 .any).str,(l.getD 2 .any).int⟩
def ZI(v:V):Tok:=zqB v.cs
def zJ(v:V):List Int:=v.es.map fun e=>(e.getD 0 .any).int
def zg(v:V):List Tok:=v.es.map zqB
theorem zqC(t:Tok):ZI (.agg [vi t.kind,vs t.text,vi t.n])=t:=rfl
theorem Jv(a n:Int)(s:ByteArray):ZI (.agg [vi a,vs s,vi n])=⟨a,s,n⟩:=rfl
theorem zT(sz:Nat)(l:List Int):zJ (.slc sz (l.map fun n=>[vi n]))=l:=by
 simp only[zJ,V.es,List.map_map]
 exact List.map_id _
theorem ze(sz:Nat)(l:List Tok):zg (.slc sz (l.map Tok.enc))=l:=by
 simp only[zg,V.es,List.map_map]
 exact List.map_id _
theorem zlD(sz:Nat):zJ (.slc sz [])= []:=rfl
theorem zid:zJ zz= []:=rfl
end Go.Sx
end
section
namespace Go.Proofs.YtjcmoedalneldaaGreat
open Go.Sx
set_option linter.unusedSimpArgs false
set_option maxHeartbeats 4000000
def YX(l:List ByteArray):V:=.slc 1 (l.map fun s=>[vs s])
def V.boo:V→Bool
 | .c (.bool b)=>b
 |_=>false
theorem V.boo_c(b:Bool):V.boo (.c (.bool b))=b:=rfl
def ki(l:List Bool):V:=.slc 1 (l.map fun b=>[vb b])
def jb(v:V):List ByteArray:=v.es.map fun e=>(e.getD 0 .any).str
def jw(v:V):List (ByteArray×ByteArray):=v.es.map fun e=>((e.getD 0 .any).str,(e.getD 1 .any).str)
theorem Ym(l:List ByteArray):jb (.slc 1 (l.map fun s=>[vs s]))=l:=by
 simp[jb,V.es,V.str,Function.comp_def]
theorem Zd(l:List (ByteArray×ByteArray)):jw (.slc 2 (l.map fun p=>[vs p.1,vs p.2]))=l:=by
 simp[jw,V.es,V.str,Function.comp_def]
theorem Kf(l:List ByteArray)(i:Nat):(l.map fun s=>[vs s]).getD i [vs ⟨#[]⟩]= [vs (l.getD i ⟨#[]⟩)]:=by
 simp only[List.getD_eq_getElem?_getD,List.getElem?_map]
 cases l[i]? <;>rfl
theorem zaN(l:List Bool)(i:Nat):(l.map fun s=>[vb s]).getD i [vb false]= [vb (l.getD i false)]:=by
 simp only[List.getD_eq_getElem?_getD,List.getElem?_map]
 cases l[i]? <;>rfl
theorem Zg(l:List (ByteArray×ByteArray))(i:Nat):(l.map fun p=>[vs p.1,vs p.2]).getD i [vs ⟨#[]⟩,vs ⟨#[]⟩]= [vs (l.getD i (⟨#[]⟩,⟨#[]⟩)).1,vs (l.getD i (⟨#[]⟩,⟨#[]⟩)).2]:=by
 simp only[List.getD_eq_getElem?_getD,List.getElem?_map]
 cases l[i]? <;>rfl
structure Node where
 parent:Int
 type:ByteArray
 id:ByteArray
 cls:List ByteArray
 attrs:List (ByteArray×ByteArray)
 text:ByteArray
def Node.zero:Node:=⟨0,⟨#[]⟩,⟨#[]⟩,[],[],⟨#[]⟩⟩
def Node.enc(n:Node):List V:=[vi n.parent,vs n.type,vs n.id,.slc 1 (n.cls.map fun s=>[vs s]),.slc 2 (n.attrs.map fun p=>[vs p.1,vs p.2]),vs n.text]
def zp(l:List Node):V:=.slc 6 (l.map Node.enc)
def zdx(l:List V):Node:=⟨(l.getD 0 .any).int,(l.getD 1 .any).str,(l.getD 2 .any).str,jb (l.getD 3 .any),jw (l.getD 4 .any),(l.getD 5 .any).str⟩
def zE(v:V):Node:=zdx v.cs
def zk(v:V):List Node:=v.es.map zdx
theorem K0(n:Node):zdx n.enc=n:=by
 simp[zdx,Node.enc,Ym,Zd,V.int,V.str]
theorem yp(a:Int)(b c:ByteArray)(d:List ByteArray)(e:List (ByteArray×ByteArray))(f:ByteArray):
 zE (.agg [.c (.int .i64 a),.c (.string b),.c (.string c),.slc 1 (d.map fun s=>[vs s]),.slc 2 (e.map fun p=>[vs p.1,vs p.2]),.c (.string f)])=⟨a,b,c,d,e,f⟩:=K0 ⟨a,b,c,d,e,f⟩
theorem zo(l:List Node):zk (.slc 6 (l.map Node.enc))=l:=by
 simp[zk,V.es,Function.comp_def,K0]
theorem Node.eta(n:Node):(⟨n.parent,n.type,n.id,n.cls,n.attrs,n.text⟩:Node)=n:=rfl
theorem yr(l:List Node)(i:Nat)(d:List V)(h:i<l.length):(l.map Node.enc).getD i d=(l.getD i .zero).enc:=by
 simp[List.getD_eq_getElem?_getD,h]
def F2{α β:Type}(R:α→β→Prop):List α→List β→Prop
 | [],[]=>True
 |a::l,b::m=>R a b∧F2 R l m
 |_,_=>False
def Sub:Nat→V→V→Prop
 |0,x,y=>x=y
 |n+1,x,y=>x=y∨match x,y with
  | .slc sz a,.slc sz' b=>sz=sz'∧F2 (F2 (Sub n)) a b
  | .agg a,.agg b=>F2 (Sub n) a b
  | .c (.slice none 0 0),.slc _ b=>b= []
  |_,_=>False
theorem zaq{α β:Type}{R:α→β→Prop}:∀ {a:List α}{b:List β},F2 R a b→a.length=b.length
 | [],[],_=>rfl
 |_::_,_::_,h=>by simp[zaq h.2]
 | [],_::_,h=>h.elim
 |_::_,[],h=>h.elim
theorem XJ{α β:Type}{R:α→β→Prop}{d:α}{d':β}:∀ {a:List α}{b:List β}(i:Nat),F2 R a b→i<a.length→R (a.getD i d) (b.getD i d')
 | [],[],i,_,hi=>absurd hi (by simp)
 |_::_,_::_,0,h,_=>h.1
 |_::_,_::_,i+1,h,hi=>by
  have:=XJ (d:=d) (d':=d') i h.2 (by simpa using hi)
  simpa using this
 | [],_::_,_,h,_=>h.elim
 |_::_,[],_,h,_=>h.elim
theorem Sub.prep{F:Nat→Prop}{w:World}:∀(n:Nat)(x y:V)(v:Value),Sub n x y→PRep F w v x→PRep F w v y
 |0,x,y,v,h,hp=>by cases h;exact hp
 |n+1,x,y,v,h,hp=>by
  rcases h with rfl|h
  ·exact hp
  ·split at h
   ·obtain⟨rfl,h⟩:=h
    rename_i sz a b
    have hl:=zaq h
    cases hp with
    |slc ad nn cap _ es bb o xs hn hc hsz ha hx hr=>
     refine .slc ad nn cap _ _ bb o xs (by omega) hc (fun e he=> ?_) (fun h0=>ha (by omega)) (fun i k hi hk=>hx i k (by omega) hk) fun i k hi hk=> ?_
     ·obtain⟨i,hi,rfl⟩:=List.getElem_of_mem he
      have h1:=XJ (d:=[]) (d':=[]) i h (by omega)
      have h2:=zaq h1
      have h3:=hsz (a[i]'(by omega)) (List.getElem_mem _)
      rw[List.getD_eq_getElem?_getD,List.getElem?_eq_getElem (by omega),List.getD_eq_getElem?_getD,List.getElem?_eq_getElem hi]at h2
      simpa[h3]using h2.symm
     ·have h1:=XJ (d:=[]) (d':=[]) i h (by omega)
      have h3:=hsz (a[i]'(by omega)) (List.getElem_mem _)
      have h4:(a.getD i []).length=sz:=by rw[List.getD_eq_getElem?_getD,List.getElem?_eq_getElem (by omega)];exact h3
      exact Sub.prep n _ _ _ (XJ (d:=.any) (d':=.any) k h1 (by omega)) (hr i k (by omega) hk)
   ·rename_i a b
    have hl:=zaq h
    cases hp with
    |agg cs _ hl' h1 h2=>exact .agg cs _ (by omega) (fun i hi=>h1 i (by omega)) fun i hi=>Sub.prep n _ _ _ (XJ (d:=.any) (d':=.any) i h (by omega)) (h2 i (by omega))
   ·subst h
    cases hp
    exact .slc none 0 0 _ [] 0 0 (fun _ _=>undef) rfl (Nat.le_refl _) (by simp) (by simp) (by simp) (by simp)
   ·exact h.elim
theorem zf.asub{P:Program}{f:FuncId}{args args':List V}{r:V}(n:Nat)(h:zf P f args r)(hs:F2 (Sub n) args' args):zf P f args' r:=by
 have hl:=zaq hs
 refine⟨h.1,fun F w cargs hF hc hv=>h.2 F w cargs hF (by omega) fun i hi=> ?_⟩
 exact Sub.prep n _ _ _ (XJ (d:=.any) (d':=.any) i hs (by omega)) (hv i (by omega))
theorem zf.rsub{P:Program}{f:FuncId}{args:List V}{r r':V}(h:zf P f args r)(hs:∀F w v,PRep F w v r→PRep F w v r'):zf P f args r':=by
 refine⟨h.1,fun F w cargs hF hc hv=>(h.2 F w cargs hF hc hv).mono fun e w' he=> ?_⟩
 obtain⟨cv,h1,h2,h3⟩:=he
 exact⟨cv,h1,h2,hs _ _ _ h3⟩
theorem Sub.rfl(n:Nat)(x:V):Sub n x x:=by cases n<;>simp[Sub]
abbrev zkH:List Cell:=[.int .i64,.str,.str,.slc [.str],.slc [.str,.str],.str]
theorem zxv{x:V}(h:CellOK (.slc [.str]) x):∃l:List ByteArray,x= .slc 1 (l.map fun s=>[vs s]):=by
 cases h with
 |slc cs ess hl h h2=>
  refine⟨ess.map fun e=>(e.getD 0 .any).str,?_⟩
  rw[List.map_map]
  congr 1
  conv=>lhs;rw[←List.map_id ess]
  apply List.map_congr_left
  intro es hes
  have hlen:=h es hes
  have a0:=h2 es hes 0 _ rfl
  match es,hlen with
  | [a],_=>
    simp only[List.getD_cons_zero]at a0
    cases a0;rfl
theorem zxb{x:V}(h:CellOK (.slc [.str,.str]) x):∃l:List (ByteArray×ByteArray),x= .slc 2 (l.map fun p=>[vs p.1,vs p.2]):=by
 cases h with
 |slc cs ess hl h h2=>
  refine⟨ess.map fun e=>((e.getD 0 .any).str,(e.getD 1 .any).str),?_⟩
  rw[List.map_map]
  congr 1
  conv=>lhs;rw[←List.map_id ess]
  apply List.map_congr_left
  intro es hes
  have hlen:=h es hes
  have a0:=h2 es hes 0 _ rfl
  have a1:=h2 es hes 1 _ rfl
  match es,hlen with
  | [a,b],_=>
    simp only[List.getD_cons_zero,List.getD_cons_succ]at a0 a1
    cases a0;cases a1;rfl
theorem zrs{xs:List V}(hl:xs.length=6)(h:∀i c,zkH[i]? =some c→CellOK c (xs.getD i .any)):∃n:Node,xs=n.enc:=by
 have a0:=h 0 _ rfl
 have a1:=h 1 _ rfl
 have a2:=h 2 _ rfl
 have a3:=h 3 _ rfl
 have a4:=h 4 _ rfl
 have a5:=h 5 _ rfl
 match xs,hl with
 | [a,b,c,d,e,f],_=>
   simp only[List.getD_cons_zero,List.getD_cons_succ]at a0 a1 a2 a3 a4 a5
   obtain⟨s,rfl⟩:=zxv a3
   obtain⟨p,rfl⟩:=zxb a4
   cases a0;cases a1;cases a2;cases a5
   exact⟨⟨_,_,_,s,p,_⟩,rfl⟩
theorem zrt{x:V}(h:CellOK (.slc zkH) x):∃l:List Node,x=zp l:=by
 cases h with
 |slc cs ess hl h h2=>
  have key:∀(es:List (List V)),(∀e∈es,∃n:Node,e=n.enc)→∃l:List Node,es=l.map Node.enc:=by
   intro es
   induction es with
   |nil=>intro _;exact⟨[],rfl⟩
   |cons e es ih=>
    intro h
    obtain⟨l,rfl⟩:=ih fun e' he=>h e' (by simp[he])
    obtain⟨n,rfl⟩:=h e (by simp)
    exact⟨n::l,rfl⟩
  obtain⟨l,rfl⟩:=key ess fun e he=>zrs (h e he) (h2 e he)
  exact⟨l,rfl⟩
end Go.Proofs.YtjcmoedalneldaaGreat
end
section
set_option linter.unusedVariables false
set_option maxHeartbeats 1000000
namespace Go.Sx
section
variable {P:Program} {N:Nat} {g g':Gh} {e:Nat→V} {h h':Heap} {w w' w0:World} {own0:Own} {a:Act} {ops:Array Oper} {Q:Exit→Act→World→Prop} {K K':Act→World→Prop}
end
section
variable {α:Type}
end
end Go.Sx
end
section
namespace Go.Sx
attribute [go_sem] zhF zx3 zhE zx2 Heap.freeze List.mapIdx_cons List.mapIdx_nil Bool.or_true zeV zuy zuG zpt zAA zCm zAF YO kX Q4 Q5 YD yR zV evF V.allK V.isK O.still Zv Y7 jY z9 lf lfs Heap.fzn V.isC' Qp zeY zuB zeW zuz zuA zx4 zuv zuw zpr zux zx5 zhH zps zpq zeX zhG zeS zeT zcB zeU zcC zcA zhI zeR zuu zgl zmx zmy zr2 zfc zlj zlk zp3 zgm zmz zmA zr3 ziv zdF ziu zl2 zrR zge zyh zuZ zpF zuN zpB zj6 zuL zpz zj2 zpu zj0 zmm zml zj zCr zCq zCp zBp zBo zBn zDm zBh zBl zBk zCn zBj zBi zCk zCl zBW zwC zwG zwF zAG zwE zwD zAD zAE zrA zxW zBE zBF zBQ zAq zq evP evE okE O.xs yB Heap.nilV Option.isNone_none Option.isNone_some zp2 arith Heap.idxOK V.idx ldA Heap.cells V.off Heap.isPtr V.cut V.slen Heap.cutOK qi cellsOf qd Heap.isOne Heap.view Heap.alloc Heap.put V.isAgg WZ rvV W1 List.all_cons List.all_nil Bool.and_true Bool.true_and List.length_map List.getD_cons_zero List.getD_cons_succ List.getD_nil if_true if_false List.map_cons List.map_nil Bool.cond_true_left Bool.cond_false_right Bool.and_eq_true Bool.or_eq_true decide_eq_true_eq true_and and_true forall_const List.length_cons List.length_nil Option.getD_none Option.getD_some beq_self_eq_true Bool.or_eq_false_iff decide_eq_false_iff_not Bool.and_self ite_true ite_false Bool.not_true Bool.not_false List.drop_zero List.take_succ_cons List.take_zero List.drop_succ_cons List.nil_append List.append_nil List.cons_append Option.isSome_none Option.isSome_some Option.map_none Option.map_some Bool.cond_true Bool.cond_false cond_true cond_false Bool.false_eq_true false_and and_false or_true true_or or_false false_or not_true_eq_false not_false_eq_true implies_true false_implies Bool.true_beq Bool.false_beq Bool.and_false Bool.false_and Bool.or_false Bool.true_or Bool.false_or eq_self imp_self beq_true beq_false Bool.not_eq_true Bool.not_eq_false Bool.not_eq_true' Bool.not_eq_false' Bool.not_not Int.cast_ofNat_Int Int.toNat_zero Int.toNat_one decide_true decide_false bne_self_eq_false Bool.bne_false Bool.bne_true Bool.false_bne Bool.true_bne Orc.flat_cons zf6 zrI zwl Option.toList_none Option.toList_some Nat.zero_add List.cons.injEq Blk.mk.injEq V.ref.injEq Heap.mk.injEq zpl zp5 zln zA1 zA2 zA3 zA4 Tok.eta List.nodup_cons List.nodup_nil List.mem_cons List.not_mem_nil zhU ze5 Wy zbm zxh zA8 zxf zxi zA7 zxe zmp zrP zkR zA5 zkS X9 zxg zmo zfS zfR ql yX YN zBr zBx zBq V.int_c V.str_c V.cs_agg V.cs_pp V.es_slc zqC Jv zT ze zlD zid qg zcW Option.some.injEq Int.toNat_natCast Option.isSome_map Orc.pre_cons Orc.v_cons Orc.hp_cons Orc.qpre_cons Orc.qv_cons Sum.pre Sum.v Sum.hp V.isC V.toC V.isFn V.fnId V.caps ya zA ziC zri zrj zwW ziD zrk zrl zwX zit zq6 zq7 zwS zn zAt Heap.blk Heap.cur Value.oneCell' Bool.and_eq_false_iff List.getElem?_cons_zero List.getElem?_cons_succ List.getElem?_nil List.set_cons_zero List.set_cons_succ List.set_nil zyg zuT zuK zpx zuX zpA zj5 zuW zpD zpy zj1 zx6 zuO zuH zpv zya zuP zyb zuQ zuI zyc zuR zye zBA zyd zx8 zuY zpE zpG zj7 zcG zb8 zb7 W7 zhN ze2 ze1 zcE ze3 zcF zuU zhL zyf zuS zuJ zpw zuV zpC zBz zx7 zj4 zhM zhO zj3 zpH zx9 zyi List.range_zero
end Go.Sx
end
