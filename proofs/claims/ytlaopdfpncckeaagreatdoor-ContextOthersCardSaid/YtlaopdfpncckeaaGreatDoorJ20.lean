/- Part of the proof of ContextOthers. No condition. -/
import Derived.Test.YtlaopdfpncckeaaGreatDoorJ19
namespace Go.Proofs.YtlaopdfpncckeaaGreatDoor
open Go.Sx
set_option linter.unusedSimpArgs false
set_option linter.unusedVariables false
set_option maxHeartbeats 8000000
set_option maxRecDepth 100000
section
section
variable {tl:ByteArray→List Tok→Bool} {bx:Int}
def WR(s s':Wst)(o o':Int):Prop:=s.b=s'.b∧s.o=s'.o∧(s.b=true→s.k.lv=s'.k.lv∧s.k.w=s'.k.w∧s.k.od<o∧s'.k.od<o')
theorem WR.mono{s s':Wst}{o o' q q':Int}(h:WR s s' o o')(h1:o≤q)(h2:o'≤q'):WR s s' q q':=
 ⟨h.1,h.2.1,fun hb=>by obtain⟨a,b,c,d⟩:=h.2.2 hb;exact⟨a,b,by omega,by omega⟩⟩
theorem zum{b:Bool}{a:Int}{d:Dcl}{lv:Int}{w:W3}{s s':Wst}{o o':Int}(h:WR s s' o o'):
  WR (qu tl bx b s a d ⟨lv,w,o⟩) (qu tl bx b s' a d ⟨lv,w,o'⟩) (o+1) (o'+1):=by
 have hc:(s.b=false∨bts ⟨lv,w,o⟩ s.k=true)↔(s'.b=false∨bts ⟨lv,w,o'⟩ s'.k=true):=by
  rw[←h.1]
  cases hb:s.b with
  |false=>simp
  |true=>
   obtain⟨e1,e2,e3,e4⟩:=h.2.2 hb
   unfold bts
   rw[←e1,←e2]
   simp only[decide_eq_true e3,decide_eq_true e4]
 unfold qu
 by_cases c:b=true∧a=bx∧tl (zO d.nm) d.v=true∧(s.b=false∨bts ⟨lv,w,o⟩ s.k=true)
 ·rw[if_pos c,if_pos ⟨c.1,c.2.1,c.2.2.1,hc.1 c.2.2.2⟩]
  exact⟨rfl,rfl,fun _=>⟨rfl,rfl,by dsimp only;omega,by dsimp only;omega⟩⟩
 ·rw[if_neg c,if_neg (fun h=>c ⟨h.1,h.2.1,h.2.2.1,hc.2 h.2.2.2⟩)]
  exact h.mono (by omega) (by omega)
theorem Xn{b:Bool}{n:Int}{w:W3}{a:Int}:∀(l:List Dcl)(o o':Int)(s s':Wst),WR s s' o o'→
  WR (yi tl bx b n w a o l s) (yi tl bx b n w a o' l s') (o+l.length) (o'+l.length)
 | [],o,o',s,s',h=>h.mono (by simp) (by simp)
 |d::r,o,o',s,s',h=>(Xn r (o+1) (o'+1) _ _ (zum h)).mono (by simp only[List.length_cons];omega) (by simp only[List.length_cons];omega)
theorem zdj{b:Bool}{n:Int}{w:W3}:∀(l:List Mg)(o o':Int)(s s':Wst),WR s s' o o'→
  WR (kg tl bx b n w o l s) (kg tl bx b n w o' l s') (o+Z2 l) (o'+Z2 l)
 | [],o,o',s,s',h=>h.mono (by simp[Z2]) (by simp[Z2])
 |m::r,o,o',s,s',h=>(zdj r _ _ _ _ (Xn m.ds o o' _ _ h)).mono (by rw[Z2];omega) (by rw[Z2];omega)
theorem KK{n:Int}{w:W3}{a:Int}:∀(l:List Dcl)(o:Int)(s:Wst),yi tl bx false n w a o l s=s
 | [],_,_=>rfl
 |d::r,o,s=>by rw[yi,KK r];unfold qu;rw[if_neg (fun h=>by cases h.1)]
theorem zaL{n:Int}{w:W3}:∀(l:List Mg)(o:Int)(s:Wst),kg tl bx false n w o l s=s
 | [],_,_=>rfl
 |m::r,o,s=>by rw[kg,zaL r,KK]
def jp(p:Sh)(l:List Rul):List Rul:=l.filter fun r=>(Zp r p).2
def Y2(ss:List (List Rul))(p:Sh):List (List Rul):=ss.map (jp p)
theorem XX{p:Sh}{n:Int}:∀(l:List Rul)(o o':Int)(s s':Wst),WR s s' o o'→
  WR (qU tl bx p n o l s) (qU tl bx p n o' (jp p l) s') (o+Q6 l) (o'+Q6 (jp p l))
 | [],o,o',s,s',h=>h.mono (by simp[Q6]) (by simp[Q6,jp])
 |r::l,o,o',s,s',h=>by
  unfold jp
  cases c:(Zp r p).2 with
  |true=>
   rw[List.filter_cons_of_pos (by exact c),qU,qU,c]
   refine(XX l _ _ _ _ (zdj r.ms _ _ _ _ (Xn r.ds o o' _ _ h))).mono ?_ ?_
   ·rw[Q6];omega
   ·rw[Q6];unfold jp;omega
  |false=>
   rw[List.filter_cons_of_neg (by rw[c];simp),qU,c,KK,zaL]
   have hm:=zdi r.ms
   refine(XX l _ _ _ _ (h.mono (q:=o+r.ds.length+Z2 r.ms) (by omega) (Int.le_refl _))).mono ?_ ?_
   ·rw[Q6];omega
   ·exact Int.le_refl _
theorem zdM{p:Sh}:∀(t:List (List Rul))(n o o':Int)(s s':Wst),WR s s' o o'→
  ∃q q',WR (ym tl bx p n o t s) (ym tl bx p n o' (Y2 t p) s') q q'
 | [],n,o,o',s,s',h=>⟨_,_,h⟩
 |l::t,n,o,o',s,s',h=>zdM t (n+1) _ _ _ _ (XX l o o' s s' h)
end
theorem zeO(tl:ByteArray→List Tok→Bool)(bx:Int)(ss:List (List Rul))(p:Sh):
  (ym tl bx p 0 0 ss yF).b=(ym tl bx p 0 0 (Y2 ss p) yF).b∧z7 (ym tl bx p 0 0 ss yF)=z7 (ym tl bx p 0 0 (Y2 ss p) yF):=by
 obtain⟨q,q',h⟩:=zdM (tl:=tl) (bx:=bx) (p:=p) ss 0 0 0 yF yF ⟨rfl,rfl,fun h=>by cases h⟩
 refine⟨h.1,?_⟩
 unfold z7
 rw[h.1,h.2.1]
theorem zzs{s s':Wst}(h:s.b=s'.b∧z7 s=z7 s'):szS s=szS s':=by unfold szS;rw[h.1,h.2]
theorem zbt{s s':Wst}(h:s.b=s'.b∧z7 s=z7 s')(k:Nat):ZG s k=ZG s' k:=by unfold ZG;rw[h.1,h.2]
theorem zfm{s s':Wst}(h:s.b=s'.b∧z7 s=z7 s')(d:ByteArray):zbd s d=zbd s' d:=by unfold zbd;rw[h.1,h.2]
theorem zfP{s s':Wst}(h:s.b=s'.b∧z7 s=z7 s')(d:Int):zbs s d=zbs s' d:=by unfold zbs;rw[h.1,h.2]
theorem zxk{s s':Wst}(h:s.b=s'.b∧z7 s=z7 s'):zqc s=zqc s':=by unfold zqc;rw[h.1,h.2]
theorem yx(ss:List (List Rul))(p:Sh)(k:Nat):(yG ss p k).b=(yG (Y2 ss p) p k).b∧z7 (yG ss p k)=z7 (yG (Y2 ss p) p k):=zeO (Kx k) (-1) ss p
theorem Zn(ss:List (List Rul))(p:Sh)(bx:Int)(k:Nat):(ZQ ss p bx k).b=(ZQ (Y2 ss p) p bx k).b∧z7 (ZQ ss p bx k)=z7 (ZQ (Y2 ss p) p bx k):=zeO (WN k) bx ss p
theorem zjj(ss:List (List Rul))(p:Sh):XQ (Y2 ss p) p=XQ ss p:=by
 unfold XQ
 rw[zzs (yx ss p 0),zbt (yx ss p 1),zbt (yx ss p 2),zbt (yx ss p 3),zbt (yx ss p 4),(yx ss p 5).2,(yx ss p 6).2,(yx ss p 7).2,zfm (yx ss p 8),zfP (yx ss p 9)]
theorem zjd{ss:List (List Rul)}(p:Sh)(h:kS ss):kS (Y2 ss p):=by
 refine⟨by unfold Y2;rw[List.length_map];exact h.1,fun l hl=> ?_⟩
 obtain⟨x,hx,rfl⟩:=List.mem_map.1 hl
 have:=h.2 x hx
 exact⟨Nat.le_trans (List.length_filter_le _ _) this.1,fun r hr=>this.2 r (List.mem_filter.1 hr).1⟩
theorem zrh(r:Rul)(p:Sh):((yI ((psO r.pre).getD []) p ((psO r.pre).getD []).length).2&&(psO r.pre).isSome&&decide (r.kind=2))=(Zp r p).2:=by
 unfold Zp
 cases psO r.pre with
 |none=>rw[Option.isSome_none,Bool.and_false,Bool.false_and]
 |some l=>
  rw[Option.isSome_some,Bool.and_true,Option.getD_some]
  by_cases c:r.kind=2
  ·rw[decide_eq_true c,Bool.and_true];simp only;rw[if_pos c]
  ·rw[decide_eq_false c,Bool.and_false];simp only;rw[if_neg c]
end
def zun:List V:=[vb false,qn [],vs ⟨#[]⟩,vi 0,vi 0]
def zbv(ss:List (List Rul))(p:Sh)(bx:Int):List V:=if 0≤bx∧bx≤15 then(if mgO ss p bx=true then mgL ss p bx else zun)else zun
theorem zmZ{f:FuncId}{args:List V}{e:Int}(h:ze Tryz.prog f args (.tup [.agg zBx,vi e])):ze Tryz.prog f args (.tup [.agg zun,vi e]):=by
 refine ze.rsub h fun F w v hp=> ?_
 cases hp with
 |tup cs _ hl hx=>
  refine .tup cs _ hl fun i hi=> ?_
  have:=hx i hi
  match i,hi with
  |0,_=>exact Sub.prep 2 (.agg zBx) _ _ (show Sub 2 _ (.agg zun)from Or.inr ⟨Sub.rfl 1 _,Or.inr rfl,Sub.rfl 1 _,Sub.rfl 1 _,Sub.rfl 1 _,trivial⟩) this
  |1,_=>exact this
theorem zfX(ss:List (List Rul))(p:Sh)(bx:Int)(hs:kS ss):ze Tryz.prog 23 [z6 ss,.agg p.enc,vi bx] (.tup [.agg (zbv ss p bx),vi (mgE bx)]):=by
 have h:=zi8 ss p bx hs
 unfold mgB at h
 unfold zbv
 split at h
 ·rw[if_pos (by assumption)]
  split at h
  ·rw[if_pos (by assumption)];exact h
  ·rw[if_neg (by assumption)];exact zmZ h
 ·rw[if_neg (by assumption)];exact zmZ h
def Kq:Sum Tryz.prog:=⟨23,fun args=>args= [z6 (zY (args.getD 0 .any)),.agg (Sh.enc (yd (args.getD 1 .any))),vi ((args.getD 2 .any).int)]∧kS (zY (args.getD 0 .any)),fun args=>.tup [.agg (zbv (zY (args.getD 0 .any)) (yd (args.getD 1 .any)) ((args.getD 2 .any).int)),vi (mgE ((args.getD 2 .any).int))],fun args h=>by
 have:=zfX (zY (args.getD 0 .any)) (yd (args.getD 1 .any)) ((args.getD 2 .any).int) h.2;rwa [←h.1]at this,false⟩
theorem zkn:Kq.f=23:=rfl
theorem zkm(args:List V):Kq.D args=(args= [z6 (zY (args.getD 0 .any)),.agg (Sh.enc (yd (args.getD 1 .any))),vi ((args.getD 2 .any).int)]∧kS (zY (args.getD 0 .any))):=rfl
theorem zb4:Kq.flat=false:=rfl
theorem zko(args:List V):Kq.r args= .tup [.agg (zbv (zY (args.getD 0 .any)) (yd (args.getD 1 .any)) ((args.getD 2 .any).int)),vi (mgE ((args.getD 2 .any).int))]:=rfl
attribute [go_sem] zkn zkm zb4 zko
theorem zi9(ss:List (List Rul))(p:Sh)(bx:Int):zbv (Y2 ss p) p bx=zbv ss p bx:=by
 unfold zbv mgO mgL
 rw[(Zn ss p bx 0).1,(Zn ss p bx 0).2,zfm (Zn ss p bx 1),zfP (Zn ss p bx 2),zxk (Zn ss p bx 3),zfm (yx ss p 8),zfP (yx ss p 9)]
theorem zsP(ss:List (List Rul))(p:Sh)(bx:Int)(hs:kS ss):∃(b:Bool)(l:List Itm)(c:ByteArray)(f w:Int),zbv ss p bx= [vb b,qn l,vs c,vi f,vi w]∧l.length≤2000000:=by
 unfold zbv
 split
 ·split
  ·exact⟨_,_,_,_,_,rfl,by have:=zr9 (z7 (ZQ ss p bx 0)).v;have:=(WF ss p bx 0 hs).1;omega⟩
  ·exact⟨_,_,_,_,_,rfl,by simp⟩
 ·exact⟨_,_,_,_,_,rfl,by simp⟩
def Ke:Sum Tryz.prog:=⟨24,fun args=>∃L,args= [.agg L,.agg L]∧zlJ L,fun _=>vb true,fun args h=>(by obtain⟨L,rfl,h⟩:=h;exact zfe h),true⟩
theorem zjV:Ke.f=24:=rfl
theorem zbW:Ke.flat=true:=rfl
theorem zjW(args:List V):Ke.r args=vb true:=rfl
theorem zjU(L:List V)(h:zlJ L):Ke.D [.agg L,.agg L]=True:=eq_true ⟨L,rfl,h⟩
attribute [go_sem] zgS zae zgT zjV zbW zjW
theorem zfB(l:List (List V))(x z:List V):(l++ [x]).getD l.length z=x:=by simp[List.getD_eq_getElem?_getD]
theorem zjx(l:List (List V))(x y:List V):(l++ [x]).set l.length y=l++ [y]:=by rw[List.set_append_right _ _ (Nat.le_refl _),Nat.sub_self];rfl
theorem zww(p:Sh)(l:List Rul):(jp p l).length≤l.length:=List.length_filter_le _ _
theorem zsF{p:Sh}{l:List Rul}{j:Nat}(h:j<l.length):jp p (l.take (j+1))=jp p (l.take j)++(if(Zp (l.getD j default) p).2=true then[l.getD j default]else[]):=by
 unfold jp
 rw[List.take_add_one,List.getElem?_eq_getElem h,List.filter_append,List.getD_eq_getElem?_getD,List.getElem?_eq_getElem h]
 congr 1
 show List.filter _ [l[j]]=_
 rw[List.filter_cons];rfl
theorem ziK(ss:List (List Rul))(p:Sh)(k:Nat)(h:k<ss.length):(Y2 ss p).getD k []=jp p (ss.getD k []):=by
 unfold Y2
 rw[List.getD_eq_getElem?_getD,List.getElem?_map,List.getD_eq_getElem?_getD,List.getElem?_eq_getElem h];rfl
theorem zfW(S:Nat→Bool)(h:Heap)(l:List (List Rul)):zz (zz (res S h 11)) (l.map shE)=some (l.map shE):=KU (zz (res S h 11)) shE (fun _=>rfl) l
theorem zfV(S:Nat→Bool)(h:Heap)(l:List Rul):zz (zz (res S h 10)) (l.map Rul.enc)=some (l.map Rul.enc):=KU (zz (res S h 10)) Rul.enc (fun _=>rfl) l
structure LsS where
 k:Nat
 ver:Nat
 clk:Nat
structure LiS where
 j:Nat
 ver:Nat
 clk:Nat
theorem QL(x:V)(hx:CellOK (.slc zw4) x)(y:List V)(hl:y.length=6)(hy:∀i c,shC[i]? =some c→CellOK c (y.getD i .any))(z:V)(hz:CellOK (.int .i64) z):
  ze Tryz.prog 5 [x,.agg y,z] (.c (.bool true)):=by
 obtain⟨ss,rfl,h6⟩:=zti hx
 have h6:zdo ss:=h6
 obtain⟨p,rfl⟩:=zw3 hl hy
 cases hz with|int _ bx _=> ?_
 by_cases hc:Jt ss p=true∧ss.length≤3
 case neg=>
  refine ze.of (Orc.cons Zj (Orc.cons YO (Orc.nil _))) zup (by simp[c5]) fun w0 own0=> ?_
  cases hf:Jt ss p with
  |false=>
   simp -implicitDefEqProofs only[c5,z6,Sh.enc,h6,hf,zE,zH,Sh.eta',List.isEmpty_cons,zc,zb,za,go_sem,seval,reduceIte,reduceCtorEq]
  |true=>
   have c:=eq_true (show(3:Int)<(ss.length:Int)by have:¬ss.length≤3:=fun h=>hc ⟨hf,h⟩;omega)
   simp -implicitDefEqProofs only[c5,z6,Sh.enc,h6,hf,c,List.length_map,zE,zH,Sh.eta',List.isEmpty_cons,zc,zb,za,go_sem,seval,reduceIte,reduceCtorEq]
 obtain⟨hf,h3⟩:=hc
 have hs:=zfx hf h3 h6
 have e1:=eq_false (show ¬(3:Int)<(ss.length:Int)by omega)
 have hls:=zjd p hs
 have hst:zto (XQ ss p):=⟨_,_,_,_,_,_,_,_,_,_,_,rfl,zgj _ _ (jz ss p 5 hs).1.1,zgj _ _ (jz ss p 6 hs).1.1,zgj _ _ (jz ss p 7 hs).1.1⟩
 have hD:=zgR _ hst
 have hPL:=zjj ss p
 obtain⟨b1,l1,c1,f1,w1,hM,hl1⟩:=zsP ss p bx hs
 have hML:=zi9 ss p bx
 rw[hM]at hML
 have hBD:=zjU _ ⟨b1,l1,c1,f1,w1,rfl,hl1⟩
 simp only[qn]at hBD
 obtain⟨g0,g1,g2,g3,g4,g5,y0,y1,y2,y3,y4,hP⟩:∃a b c d e f x y z u v,XQ ss p= [vi a,vi b,vi c,vi d,vi e,vi f,.slc 3 x,.slc 3 y,.slc 3 z,vs u,vi v]:=⟨_,_,_,_,_,_,_,_,_,_,_,rfl⟩
 rw[hP]at hD hPL
 have hLl:(Y2 ss p).length=ss.length:=by unfold Y2;rw[List.length_map]
 have hLg:=ziK ss p
 generalize Y2 ss p=L at*
 refine ze.of (Orc.cons YD (Orc.cons Ke (Orc.cons Zj (Orc.cons za0 (Orc.cons Kq (Orc.cons Ku (Orc.cons Yu (Orc.cons Wj (Orc.cons YO (Orc.nil _)))))))))) zup (by simp[c5]) fun w0 own0=> ?_
 simp -implicitDefEqProofs only[c5,z6,Sh.enc,h6,hf,e1,List.length_map,zE,zH,Sh.eta',List.isEmpty_cons,List.isEmpty_nil,zc,zb,za,go_sem,seval,reduceIte,reduceCtorEq]
 refine zD.lq (α:=LsS) (fun a=>[(0,.slc 1 (ss.map shE)),(2,vi bx),(4,.ptr 0 0 0 0),(7,.ref 1 a.ver 0 a.k),(35,.slc 1 (ss.map shE)),(36,vi ss.length),(37,vi a.k)])
  (fun a=>⟨[⟨0,6,[p.enc],false,[]⟩,⟨a.ver,1,(L.take a.k).map shE,false,[zB]⟩],a.clk⟩) (fun a=>a.k≤ss.length) (fun a=>ss.length - a.k) ⟨0,1,2⟩ (Nat.zero_le _) (St.nil 7 1 [zB] (by simp[zo]) (St.cut ?_ ?_ ?_)) fun a ha=> ?_
 ·simp[zt,zo,zu,yl,Heap.alloc]
 ·simp[Heap.alloc,Sh.enc]
 ·rfl
 obtain⟨k,ver,clk⟩:=a
 simp only at ha
 by_cases he:k=ss.length
 ·subst he
  have htk:L.take ss.length=L:=by rw[←hLl];exact List.take_length
  have htk2:(L.map shE).take ss.length=L.map shE:=by rw[←hLl,←List.length_map (f:=shE)];exact List.take_length
  have hle:=Nat.le_of_eq hLl.symm
  clear hLg
  simp -implicitDefEqProofs only[Int.lt_irrefl,htk,htk2,hLl,Nat.le_refl,zfW,hs,hls,hP,hPL,hM,hML,hD,hBD,qn,z6,Sh.enc,List.length_map,zE,zH,Sh.eta',List.isEmpty_cons,List.isEmpty_nil,zi,zI,zc,zb,za,go_sem,seval,reduceIte,reduceCtorEq]
 have f1:=eq_true (show(k:Int)<(ss.length:Int)by omega)
 have f0:=eq_true (show(0:Int)≤(k:Int)by omega)
 have hg:=fun z=>KN ss k z (by omega)
 obtain⟨hl8,hrr⟩:=hs.2 _ (yv (d:=([]:List Rul)) (show k<ss.length by omega))
 have hLk:=hLg k (by omega)
 have hts:L.take (k+1)=L.take k++ [L.getD k []]:=by
  rw[List.take_add_one,List.getD_eq_getElem?_getD,List.getElem?_eq_getElem (by omega)];rfl
 have htl:(L.take k).length=k:=by rw[List.length_take];omega
 rw[hLk]at hts
 generalize ss.getD k []=l at*
 simp -implicitDefEqProofs only[f0,f1,hg,shE,Sh.enc,List.length_map,zc,zb,za,go_sem,seval,reduceIte,reduceCtorEq]
 refine zD.lp (α:=LiS) (fun a=>[(0,.slc 1 (ss.map shE)),(2,vi bx),(4,.ptr 0 0 0 0),(7,.ref 1 ver 0 k),(10,.ref 2 a.ver 0 (jp p (l.take a.j)).length),(35,.slc 1 (ss.map shE)),(36,vi ss.length),(37,vi k),(41,.slc 4 (l.map Rul.enc)),(42,vi l.length),(43,vi a.j)])
  (fun a=>⟨[⟨0,6,[p.enc],false,[]⟩,⟨ver,1,(L.take k).map shE,false,[zB]⟩,⟨a.ver,4,(jp p (l.take a.j)).map Rul.enc,false,[vi 0,zB,zB,zB]⟩],a.clk⟩)
  (fun a=>a.j≤l.length) (fun a=>l.length - a.j) ⟨0,clk,clk+1⟩ (Nat.zero_le _) (St.nil 10 4 [vi 0,zB,zB,zB] (by simp[zo]) (St.cut ?_ ?_ ?_)) fun a ha=> ?_
 ·simp[zt,zo,yl,Heap.alloc,jp]
 ·simp[Heap.alloc,Sh.enc,jp]
 ·rfl
 obtain⟨j,ver2,clk2⟩:=a
 simp only at ha
 by_cases hj:j=l.length
 ·subst hj
  have e9:=eq_false (show ¬(l.length:Int)<(l.length:Int)by omega)
  rw[List.take_length]
  have htt:(L.take k).take k=L.take k:=List.take_of_length_le (by omega)
  simp -implicitDefEqProofs only[e9,htl,htt,Sh.enc,List.length_map,zc,zb,za,go_sem,seval,reduceIte,reduceCtorEq]
  refine⟨⟨Nat.le_refl _,by omega,by omega⟩,⟨by omega,by omega⟩,⟨k+1,clk2+1,clk2+2⟩,by dsimp only;omega,by dsimp only;omega,?_⟩
  have hml:((L.take k).map shE).length=k:=by rw[List.length_map];exact htl
  have hge:=zfB ((L.take k).map shE) [V.ref 2 ver2 0 (jp p l).length] []
  have hse:=zjx ((L.take k).map shE) [V.ref 2 ver2 0 (jp p l).length] [.slc 4 ((jp p l).map Rul.enc)]
  rw[hml]at hge hse
  refine St.sealC (fun j=>j==2) 1 k 0 (y:=.slc 4 ((jp p l).map Rul.enc)) rfl ?_ (St.cut ?_ ?_ ?_)
  ·simp only[hge,List.getD_cons_zero]
   rw[zaS]
   have ht3:((jp p l).map Rul.enc).take (jp p l).length=(jp p l).map Rul.enc:=List.take_of_length_le (by simp)
   simp[Heap.cur,Heap.blk,ht3]
   exact zfV _ _ _
  ·simp[zt,zo,yl]
  ·simp only[Heap.freeze,List.mapIdx_cons,List.set_cons_zero,List.set_cons_succ,List.length_cons,List.length_nil,Nat.zero_add,List.take_succ_cons,List.take_zero,hge,hse,hts,List.map_append,List.map_cons,List.map_nil]
   rfl
  ·rfl
 have j1:=eq_true (show(j:Int)<(l.length:Int)by omega)
 have j0:=eq_true (show(0:Int)≤(j:Int)by omega)
 have hgr:=fun z=>KM l j z (by omega)
 have hrj:=(hrr _ (yv (d:=default) (show j<l.length by omega))).1
 have hkt:=zsF (p:=p) (show j<l.length by omega)
 have hkl:=zww p (l.take j)
 have hkl2:(l.take j).length=j:=by rw[List.length_take];omega
 generalize l.getD j default=r at*
 obtain⟨hpT,hpS⟩:=KX hrj
 have hpT:qI r.pre:=hpT
 have hab:=zrh r p
 obtain⟨kd,pre,ds,ms⟩:=r
 simp only at hpT hpS hab
 have hsl:jS ((psO pre).getD []):=by
  cases hpo:psO pre with
  |none=>exact⟨by simp,fun i hi=>by simp at hi⟩
  |some l0=>exact hpS l0 hpo
 clear hpS
 rw[←hab]at hkt
 generalize hO:psO pre=o at*
 generalize hL0:o.getD []=l0 at*
 generalize hW:yI l0 p l0.length=W at*
 obtain⟨⟨wa,wb,wc⟩,q1⟩:=W
 generalize hK:jp p (l.take j)=K at*
 cases q1<;>cases hq:o.isSome<;>by_cases hk:kd=2<;>simp -implicitDefEqProofs only[hq,hk,Bool.and_true,Bool.and_false,Bool.true_and,Bool.false_and,decide_true,decide_false,if_true,if_false,Bool.false_eq_true,List.append_nil]at hkt<;>
  simp -implicitDefEqProofs only[j0,j1,hgr,hO,hL0,hW,hq,hk,hK,hpT,hsl,psV,Y4,qZ,Xf,W3.enc,Rul.enc,Sh.enc,zk,zh,zH,Sh.eta',List.length_map,List.isEmpty_cons,List.isEmpty_nil,zc,zb,za,go_sem,seval,reduceIte,reduceCtorEq]
 all_goals first
  |exact⟨by omega,⟨j+1,ver2,clk2+2⟩,by dsimp only;omega,by dsimp only;omega,⟨⟨rfl,by dsimp only;rw[hkt]⟩,by dsimp only;omega⟩,⟨rfl,by dsimp only;rw[hkt]⟩,rfl⟩
  |subst hk
   refine⟨⟨Nat.le_refl _,by omega,by omega⟩,by omega,⟨j+1,clk2+3,clk2+4⟩,by dsimp only;omega,by dsimp only;omega,⟨⟨rfl,?_⟩,by dsimp only;omega⟩,⟨rfl,?_⟩,rfl⟩
   ·dsimp only;rw[hkt];simp
   ·dsimp only;rw[hkt,List.map_append,List.take_length];rfl
end Go.Proofs.YtlaopdfpncckeaaGreatDoor
