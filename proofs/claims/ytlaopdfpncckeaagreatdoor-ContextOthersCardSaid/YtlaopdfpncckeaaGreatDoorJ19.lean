/- Part of the proof of ContextOthers. No condition. -/
import Derived.Test.YtlaopdfpncckeaaGreatDoorJ16
import Derived.Test.YtlaopdfpncckeaaGreatDoorJ18
import Derived.Test.YtlaopdfpncckeaaGreatDoorJ17
import Derived.Test.YtlaopdfpncckeaaGreatDoorAw
namespace Go.Proofs.YtlaopdfpncckeaaGreatDoor
open Go.Sx
set_option linter.unusedSimpArgs false
set_option linter.unusedVariables false
set_option maxHeartbeats 8000000
set_option maxRecDepth 100000
def zsI(k:List Tok):Option Int:=match k with| [t]=>zc7 t|_=>none
def qT(v:List Tok):Option Int:=zsI (kpT v)
def zbO(o:Option Int):V:=.tup [vi (o.getD 0),vb (decide (o.isSome=true∧0≤o.getD 0))]
def W5(o:Option Int):Bool:=decide (o.isSome=true∧0≤o.getD 0)
def zfn(o:Option ByteArray):V:=.tup [vs (o.getD ⟨#[]⟩),vb (decide (o.isSome=true∧¬o.getD ⟨#[]⟩=⟨#[]⟩))]
def zfl(o:Option ByteArray):Bool:=decide (o.isSome=true∧¬o.getD ⟨#[]⟩=⟨#[]⟩)
theorem zhT{v:List Tok}(h:okT v):Kz v:=h
theorem zc8(v:List Tok)(hv:okT v):ze Tryz.prog 36 [zk v] (kF (qT v)):=by
 obtain⟨hk1,hk2⟩:=zhO hv
 have hvl:=hv.1
 refine ze.of (Orc.cons YP (Orc.cons K9 (Orc.nil _))) zvw (by simp[c36]) fun w0 own0=> ?_
 unfold qT
 generalize hK:kpT v=K at*
 match K,hK with
 | [],hK=>
   simp -implicitDefEqProofs only[c36,hK,zsI,kF,zk,zh,hvl,List.length_nil,List.map_nil,zc,zb,za,go_sem,seval,reduceIte,reduceCtorEq]
 | [t],hK=>
   have ht:=hk2.2 t (by simp)
   have hg:=YK [t] 0
   simp only[List.map_cons,List.map_nil,List.getD_cons_zero]at hg
   simp -implicitDefEqProofs only[c36,hK,zsI,Zv,zk,zh,hvl,ht,Tok.enc,jH,Tok.eta,List.length_cons,List.length_nil,List.map_cons,List.map_nil,zc,zb,za,go_sem,seval,reduceIte,reduceCtorEq]
 |a::b::r,hK=>
  have e1:=eq_false (show ¬((r.length+1+1:Nat):Int)=1 by omega)
  simp -implicitDefEqProofs only[c36,hK,zsI,kF,zk,zh,hvl,e1,List.length_cons,zc,zb,za,go_sem,seval,reduceIte,reduceCtorEq]
def Qy:Sum Tryz.prog:=⟨36,fun args=>args= [zk (zj (args.getD 0 .any))]∧okT (zj (args.getD 0 .any)),fun args=>kF (qT (zj (args.getD 0 .any))),fun args h=>by
 have:=zc8 (zj (args.getD 0 .any)) h.2;rwa [←h.1]at this,false⟩
theorem zoJ:Qy.f=36:=rfl
theorem zoI(args:List V):Qy.D args=(args= [zk (zj (args.getD 0 .any))]∧okT (zj (args.getD 0 .any))):=rfl
theorem zeh:Qy.flat=false:=rfl
theorem zoK(args:List V):Qy.r args=kF (qT (zj (args.getD 0 .any))):=rfl
attribute [go_sem] zoJ zoI zeh zoK
theorem zjy(v:List Tok)(hv:okT v):ze Tryz.prog 40 [zk v] (zbO (qT v)):=by
 have hd:decide ((qT v).isSome=true∧0≤(qT v).getD 0)=((qT v).isSome&&decide (0≤(qT v).getD 0)):=by rw[Bool.eq_iff_iff];simp
 refine ze.of (Orc.cons Qy (Orc.nil _)) zvz (by simp[c40]) fun w0 own0=> ?_
 simp -implicitDefEqProofs only[c40,zbO,hd,Zv,zk,zh,hv,zc,zb,za,go_sem,seval,reduceIte,reduceCtorEq]
def YC:Sum Tryz.prog:=⟨40,fun args=>args= [zk (zj (args.getD 0 .any))]∧okT (zj (args.getD 0 .any)),fun args=>zbO (qT (zj (args.getD 0 .any))),fun args h=>by
 have:=zjy (zj (args.getD 0 .any)) h.2;rwa [←h.1]at this,false⟩
theorem zpE:YC.f=40:=rfl
theorem zpD(args:List V):YC.D args=(args= [zk (zj (args.getD 0 .any))]∧okT (zj (args.getD 0 .any))):=rfl
theorem zeD:YC.flat=false:=rfl
theorem zpF(args:List V):YC.r args=zbO (qT (zj (args.getD 0 .any))):=rfl
attribute [go_sem] zpE zpD zeD zpF
theorem zfo(v:List Tok)(hv:okT v):ze Tryz.prog 39 [zk v] (zfn (qp v)):=by
 have hd:decide ((qp v).isSome=true∧¬(qp v).getD ⟨#[]⟩=⟨#[]⟩)=((qp v).isSome&& !decide ((qp v).getD ⟨#[]⟩=⟨#[]⟩)):=by rw[Bool.eq_iff_iff];simp
 refine ze.of (Orc.cons YW (Orc.nil _)) zvy (by simp[c39]) fun w0 own0=> ?_
 simp -implicitDefEqProofs only[c39,zfn,hd,Q3,zk,zh,hv,zc,zb,za,go_sem,seval,reduceIte,reduceCtorEq]
def Qx:Sum Tryz.prog:=⟨39,fun args=>args= [zk (zj (args.getD 0 .any))]∧okT (zj (args.getD 0 .any)),fun args=>zfn (qp (zj (args.getD 0 .any))),fun args h=>by
 have:=zfo (zj (args.getD 0 .any)) h.2;rwa [←h.1]at this,false⟩
theorem zof:Qx.f=39:=rfl
theorem zoe(args:List V):Qx.D args=(args= [zk (zj (args.getD 0 .any))]∧okT (zj (args.getD 0 .any))):=rfl
theorem zd4:Qx.flat=false:=rfl
theorem zog(args:List V):Qx.r args=zfn (qp (zj (args.getD 0 .any))):=rfl
attribute [go_sem] zof zoe zd4 zog
theorem zgh(v:List Tok)(hv:okT v):ze Tryz.prog 119 [zk v] (vb (X2 (kpT v)).isSome):=by
 have hv':=zhT hv
 refine ze.of (Orc.cons Je (Orc.nil _)) zrB (by simp[zuZ]) fun w0 own0=> ?_
 simp -implicitDefEqProofs only[zuZ,W4,zk,zh,hv',zc,zb,za,go_sem,seval,reduceIte,reduceCtorEq]
def Ww:Sum Tryz.prog:=⟨119,fun args=>args= [zk (zj (args.getD 0 .any))]∧okT (zj (args.getD 0 .any)),fun args=>vb (X2 (kpT (zj (args.getD 0 .any)))).isSome,fun args h=>by
 have:=zgh (zj (args.getD 0 .any)) h.2;rwa [←h.1]at this,true⟩
theorem zpj:Ww.f=119:=rfl
theorem zpi(args:List V):Ww.D args=(args= [zk (zj (args.getD 0 .any))]∧okT (zj (args.getD 0 .any))):=rfl
theorem zew:Ww.flat=true:=rfl
theorem zpk(args:List V):Ww.r args=vb (X2 (kpT (zj (args.getD 0 .any)))).isSome:=rfl
attribute [go_sem] zpj zpi zew zpk
theorem zi1(v:List Tok)(hv:okT v):ze Tryz.prog 120 [zk v] (vb (qT v).isSome):=by
 refine ze.of (Orc.cons Qy (Orc.nil _)) zrC (by simp[zu1]) fun w0 own0=> ?_
 simp -implicitDefEqProofs only[zu1,Zv,zk,zh,hv,zc,zb,za,go_sem,seval,reduceIte,reduceCtorEq]
def Wx:Sum Tryz.prog:=⟨120,fun args=>args= [zk (zj (args.getD 0 .any))]∧okT (zj (args.getD 0 .any)),fun args=>vb (qT (zj (args.getD 0 .any))).isSome,fun args h=>by
 have:=zi1 (zj (args.getD 0 .any)) h.2;rwa [←h.1]at this,true⟩
theorem zpm:Wx.f=120:=rfl
theorem zpl(args:List V):Wx.D args=(args= [zk (zj (args.getD 0 .any))]∧okT (zj (args.getD 0 .any))):=rfl
theorem zex:Wx.flat=true:=rfl
theorem zpn(args:List V):Wx.r args=vb (qT (zj (args.getD 0 .any))).isSome:=rfl
attribute [go_sem] zpm zpl zex zpn
theorem zbi(v:List Tok)(hv:okQ v):ze Tryz.prog 121 [zk v] (vb (spO 0 v).isSome):=by
 refine ze.of (Orc.cons Jf (Orc.nil _)) zrD (by simp[zu2]) fun w0 own0=> ?_
 simp -implicitDefEqProofs only[zu2,spV,Yt,zk,zh,hv,zc,zb,za,go_sem,seval,reduceIte,reduceCtorEq]
def Wy:Sum Tryz.prog:=⟨121,fun args=>args= [zk (zj (args.getD 0 .any))]∧okQ (zj (args.getD 0 .any)),fun args=>vb (spO 0 (zj (args.getD 0 .any))).isSome,fun args h=>by
 have:=zbi (zj (args.getD 0 .any)) h.2;rwa [←h.1]at this,true⟩
theorem zpp:Wy.f=121:=rfl
theorem zpo(args:List V):Wy.D args=(args= [zk (zj (args.getD 0 .any))]∧okQ (zj (args.getD 0 .any))):=rfl
theorem zey:Wy.flat=true:=rfl
theorem zpq(args:List V):Wy.r args=vb (spO 0 (zj (args.getD 0 .any))).isSome:=rfl
attribute [go_sem] zpp zpo zey zpq
theorem WO(v:List Tok)(hv:okT v):ze Tryz.prog 122 [zk v] (vb (zfl (qp v))):=by
 refine ze.of (Orc.cons Qx (Orc.nil _)) zrE (by simp[zu3]) fun w0 own0=> ?_
 simp -implicitDefEqProofs only[zu3,zfn,zfl,zk,zh,hv,zc,zb,za,go_sem,seval,reduceIte,reduceCtorEq]
def Jc:Sum Tryz.prog:=⟨122,fun args=>args= [zk (zj (args.getD 0 .any))]∧okT (zj (args.getD 0 .any)),fun args=>vb (zfl (qp (zj (args.getD 0 .any)))),fun args h=>by
 have:=WO (zj (args.getD 0 .any)) h.2;rwa [←h.1]at this,true⟩
theorem zps:Jc.f=122:=rfl
theorem zpr(args:List V):Jc.D args=(args= [zk (zj (args.getD 0 .any))]∧okT (zj (args.getD 0 .any))):=rfl
theorem zez:Jc.flat=true:=rfl
theorem zpt(args:List V):Jc.r args=vb (zfl (qp (zj (args.getD 0 .any)))):=rfl
attribute [go_sem] zps zpr zez zpt
theorem zf7(v:List Tok)(hv:okT v):ze Tryz.prog 123 [zk v] (vb (W5 (qT v))):=by
 refine ze.of (Orc.cons YC (Orc.nil _)) zrF (by simp[zu4]) fun w0 own0=> ?_
 simp -implicitDefEqProofs only[zu4,zbO,W5,zk,zh,hv,zc,zb,za,go_sem,seval,reduceIte,reduceCtorEq]
def Jd:Sum Tryz.prog:=⟨123,fun args=>args= [zk (zj (args.getD 0 .any))]∧okT (zj (args.getD 0 .any)),fun args=>vb (W5 (qT (zj (args.getD 0 .any)))),fun args h=>by
 have:=zf7 (zj (args.getD 0 .any)) h.2;rwa [←h.1]at this,true⟩
theorem zpv:Jd.f=123:=rfl
theorem zpu(args:List V):Jd.D args=(args= [zk (zj (args.getD 0 .any))]∧okT (zj (args.getD 0 .any))):=rfl
theorem zeA:Jd.flat=true:=rfl
theorem zpw(args:List V):Jd.r args=vb (W5 (qT (zj (args.getD 0 .any)))):=rfl
attribute [go_sem] zpv zpu zeA zpw
def pgW:List ByteArray:=[⟨#[115,105,122,101]⟩,⟨#[109,97,114,103,105,110,45,116,111,112]⟩,⟨#[109,97,114,103,105,110,45,114,105,103,104,116]⟩,⟨#[109,97,114,103,105,110,45,98,111,116,116,111,109]⟩,⟨#[109,97,114,103,105,110,45,108,101,102,116]⟩,⟨#[99,111,117,110,116,101,114,45,114,101,115,101,116]⟩,⟨#[99,111,117,110,116,101,114,45,105,110,99,114,101,109,101,110,116]⟩,⟨#[99,111,117,110,116,101,114,45,115,101,116]⟩,⟨#[99,111,108,111,114]⟩,⟨#[102,111,110,116,45,115,105,122,101]⟩]
def jQ:List Nat:=[119,120,120,120,120,121,121,121,122,123]
def zfJ:ByteArray:=⟨#[109,97,114,103,105,110]⟩
def pgE(k:Nat):List V:=[vs (pgW.getD k ⟨#[]⟩),.fn (jQ.getD k 0) []]
def pgV:V:=.slc 2 [pgE 0,pgE 1,pgE 2,pgE 3,pgE 4,pgE 5,pgE 6,pgE 7,pgE 8,pgE 9]
theorem zjb:ze Tryz.prog 100 [] pgV:=by
 refine ze.of (Orc.nil _) zrr (by simp[zuS]) fun w0 own0=> ?_
 simp -implicitDefEqProofs only[zuS,zc,zb,za,go_sem,seval,reduceIte,reduceCtorEq]
 rfl
def Wt:Sum Tryz.prog:=⟨100,fun args=>args= [],fun args=>pgV,fun args h=>by
 have:=zjb;rwa [←h]at this,false⟩
theorem zo7:Wt.f=100:=rfl
theorem zo6(args:List V):Wt.D args=(args= []):=rfl
theorem zep:Wt.flat=false:=rfl
theorem zo8(args:List V):Wt.r args=pgV:=rfl
attribute [go_sem] zo7 zo6 zep zo8
def pvB(k:Nat)(v:List Tok):Bool:=
 if k=0 then(X2 (kpT v)).isSome else if k≤4 then(qT v).isSome else if k≤7 then(spO 0 v).isSome else if k=8 then zfl (qp v)else W5 (qT v)
def Kx(k:Nat)(nm:ByteArray)(v:List Tok):Bool:=
 if 1≤k∧k≤4∧nm=zfJ then(QZ v).isSome else decide (nm=pgW.getD k ⟨#[]⟩)&&pvB k v
theorem ztH(k:Nat)(d:Dcl)(hk:k≤9)(hv:okQ d.v):ze Tryz.prog 72 [vi k,.agg d.enc] (vb (Kx k d.nm d.v)):=by
 obtain⟨nm,v,imp⟩:=d
 have hT:=hv.1
 simp only at hv hT
 refine ze.of (Orc.cons Qz (Orc.cons Wt (Orc.cons Ww (Orc.cons Wx (Orc.cons Wy (Orc.cons Jc (Orc.cons Jd (Orc.nil _)))))))) zvQ (by simp[c72]) fun w0 own0=> ?_
 unfold Kx
 simp only
 by_cases hm:1≤k∧k≤4∧nm=zfJ
 ·rw[if_pos hm]
  have e1:=eq_true (show(1:Int)≤(k:Int)by omega)
  have e2:=eq_true (show(k:Int)≤4 by omega)
  have e3:=eq_true (show nm=⟨#[109,97,114,103,105,110]⟩from hm.2.2)
  simp -implicitDefEqProofs only[c72,e1,e2,e3,Dcl.enc,JN,zJ,zk,zh,hv,hT,List.isEmpty_cons,zc,zb,za,go_sem,seval,reduceIte,reduceCtorEq]
 ·rw[if_neg hm]
  match k,hk,hm with
  |0,_,hm=>
   by_cases c:nm=⟨#[115,105,122,101]⟩
   ·have hr:(decide (nm=pgW.getD 0 ⟨#[]⟩)&&pvB 0 v)=(X2 (kpT v)).isSome:=by rw[show pgW.getD 0 ⟨#[]⟩=⟨#[115,105,122,101]⟩from rfl,decide_eq_true c];rfl
    rw[hr]
    have c:=eq_true c
    simp -implicitDefEqProofs only[c72,c,Dcl.enc,pgV,pgE,pgW,jQ,List.getD_cons_zero,List.getD_cons_succ,List.isEmpty_nil,zk,zh,hv,hT,List.isEmpty_cons,Int.cast_ofNat_Int,Int.natCast_zero,Int.natCast_one,zc,zb,za,go_sem,seval,reduceIte,reduceCtorEq]
   ·have hr:(decide (nm=pgW.getD 0 ⟨#[]⟩)&&pvB 0 v)=false:=by rw[show pgW.getD 0 ⟨#[]⟩=⟨#[115,105,122,101]⟩from rfl,decide_eq_false c];rfl
    rw[hr]
    have c:=eq_false c
    simp -implicitDefEqProofs only[c72,c,Dcl.enc,pgV,pgE,pgW,jQ,List.getD_cons_zero,List.getD_cons_succ,List.isEmpty_nil,zk,zh,hv,hT,List.isEmpty_cons,Int.cast_ofNat_Int,Int.natCast_zero,Int.natCast_one,zc,zb,za,go_sem,seval,reduceIte,reduceCtorEq]
  |1,_,hm=>
   have e3:=eq_false (show ¬nm=⟨#[109,97,114,103,105,110]⟩from fun h=>hm ⟨by omega,by omega,h⟩)
   by_cases c:nm=⟨#[109,97,114,103,105,110,45,116,111,112]⟩
   ·have hr:(decide (nm=pgW.getD 1 ⟨#[]⟩)&&pvB 1 v)=(qT v).isSome:=by rw[show pgW.getD 1 ⟨#[]⟩=⟨#[109,97,114,103,105,110,45,116,111,112]⟩from rfl,decide_eq_true c];rfl
    rw[hr]
    have c:=eq_true c
    simp -implicitDefEqProofs only[c72,e3,c,Dcl.enc,pgV,pgE,pgW,jQ,List.getD_cons_zero,List.getD_cons_succ,List.isEmpty_nil,zk,zh,hv,hT,List.isEmpty_cons,Int.cast_ofNat_Int,Int.natCast_zero,Int.natCast_one,zc,zb,za,go_sem,seval,reduceIte,reduceCtorEq]
   ·have hr:(decide (nm=pgW.getD 1 ⟨#[]⟩)&&pvB 1 v)=false:=by rw[show pgW.getD 1 ⟨#[]⟩=⟨#[109,97,114,103,105,110,45,116,111,112]⟩from rfl,decide_eq_false c];rfl
    rw[hr]
    have c:=eq_false c
    simp -implicitDefEqProofs only[c72,e3,c,Dcl.enc,pgV,pgE,pgW,jQ,List.getD_cons_zero,List.getD_cons_succ,List.isEmpty_nil,zk,zh,hv,hT,List.isEmpty_cons,Int.cast_ofNat_Int,Int.natCast_zero,Int.natCast_one,zc,zb,za,go_sem,seval,reduceIte,reduceCtorEq]
  |2,_,hm=>
   have e3:=eq_false (show ¬nm=⟨#[109,97,114,103,105,110]⟩from fun h=>hm ⟨by omega,by omega,h⟩)
   by_cases c:nm=⟨#[109,97,114,103,105,110,45,114,105,103,104,116]⟩
   ·have hr:(decide (nm=pgW.getD 2 ⟨#[]⟩)&&pvB 2 v)=(qT v).isSome:=by rw[show pgW.getD 2 ⟨#[]⟩=⟨#[109,97,114,103,105,110,45,114,105,103,104,116]⟩from rfl,decide_eq_true c];rfl
    rw[hr]
    have c:=eq_true c
    simp -implicitDefEqProofs only[c72,e3,c,Dcl.enc,pgV,pgE,pgW,jQ,List.getD_cons_zero,List.getD_cons_succ,List.isEmpty_nil,zk,zh,hv,hT,List.isEmpty_cons,Int.cast_ofNat_Int,Int.natCast_zero,Int.natCast_one,zc,zb,za,go_sem,seval,reduceIte,reduceCtorEq]
   ·have hr:(decide (nm=pgW.getD 2 ⟨#[]⟩)&&pvB 2 v)=false:=by rw[show pgW.getD 2 ⟨#[]⟩=⟨#[109,97,114,103,105,110,45,114,105,103,104,116]⟩from rfl,decide_eq_false c];rfl
    rw[hr]
    have c:=eq_false c
    simp -implicitDefEqProofs only[c72,e3,c,Dcl.enc,pgV,pgE,pgW,jQ,List.getD_cons_zero,List.getD_cons_succ,List.isEmpty_nil,zk,zh,hv,hT,List.isEmpty_cons,Int.cast_ofNat_Int,Int.natCast_zero,Int.natCast_one,zc,zb,za,go_sem,seval,reduceIte,reduceCtorEq]
  |3,_,hm=>
   have e3:=eq_false (show ¬nm=⟨#[109,97,114,103,105,110]⟩from fun h=>hm ⟨by omega,by omega,h⟩)
   by_cases c:nm=⟨#[109,97,114,103,105,110,45,98,111,116,116,111,109]⟩
   ·have hr:(decide (nm=pgW.getD 3 ⟨#[]⟩)&&pvB 3 v)=(qT v).isSome:=by rw[show pgW.getD 3 ⟨#[]⟩=⟨#[109,97,114,103,105,110,45,98,111,116,116,111,109]⟩from rfl,decide_eq_true c];rfl
    rw[hr]
    have c:=eq_true c
    simp -implicitDefEqProofs only[c72,e3,c,Dcl.enc,pgV,pgE,pgW,jQ,List.getD_cons_zero,List.getD_cons_succ,List.isEmpty_nil,zk,zh,hv,hT,List.isEmpty_cons,Int.cast_ofNat_Int,Int.natCast_zero,Int.natCast_one,zc,zb,za,go_sem,seval,reduceIte,reduceCtorEq]
   ·have hr:(decide (nm=pgW.getD 3 ⟨#[]⟩)&&pvB 3 v)=false:=by rw[show pgW.getD 3 ⟨#[]⟩=⟨#[109,97,114,103,105,110,45,98,111,116,116,111,109]⟩from rfl,decide_eq_false c];rfl
    rw[hr]
    have c:=eq_false c
    simp -implicitDefEqProofs only[c72,e3,c,Dcl.enc,pgV,pgE,pgW,jQ,List.getD_cons_zero,List.getD_cons_succ,List.isEmpty_nil,zk,zh,hv,hT,List.isEmpty_cons,Int.cast_ofNat_Int,Int.natCast_zero,Int.natCast_one,zc,zb,za,go_sem,seval,reduceIte,reduceCtorEq]
  |4,_,hm=>
   have e3:=eq_false (show ¬nm=⟨#[109,97,114,103,105,110]⟩from fun h=>hm ⟨by omega,by omega,h⟩)
   by_cases c:nm=⟨#[109,97,114,103,105,110,45,108,101,102,116]⟩
   ·have hr:(decide (nm=pgW.getD 4 ⟨#[]⟩)&&pvB 4 v)=(qT v).isSome:=by rw[show pgW.getD 4 ⟨#[]⟩=⟨#[109,97,114,103,105,110,45,108,101,102,116]⟩from rfl,decide_eq_true c];rfl
    rw[hr]
    have c:=eq_true c
    simp -implicitDefEqProofs only[c72,e3,c,Dcl.enc,pgV,pgE,pgW,jQ,List.getD_cons_zero,List.getD_cons_succ,List.isEmpty_nil,zk,zh,hv,hT,List.isEmpty_cons,Int.cast_ofNat_Int,Int.natCast_zero,Int.natCast_one,zc,zb,za,go_sem,seval,reduceIte,reduceCtorEq]
   ·have hr:(decide (nm=pgW.getD 4 ⟨#[]⟩)&&pvB 4 v)=false:=by rw[show pgW.getD 4 ⟨#[]⟩=⟨#[109,97,114,103,105,110,45,108,101,102,116]⟩from rfl,decide_eq_false c];rfl
    rw[hr]
    have c:=eq_false c
    simp -implicitDefEqProofs only[c72,e3,c,Dcl.enc,pgV,pgE,pgW,jQ,List.getD_cons_zero,List.getD_cons_succ,List.isEmpty_nil,zk,zh,hv,hT,List.isEmpty_cons,Int.cast_ofNat_Int,Int.natCast_zero,Int.natCast_one,zc,zb,za,go_sem,seval,reduceIte,reduceCtorEq]
  |5,_,hm=>
   by_cases c:nm=⟨#[99,111,117,110,116,101,114,45,114,101,115,101,116]⟩
   ·have hr:(decide (nm=pgW.getD 5 ⟨#[]⟩)&&pvB 5 v)=(spO 0 v).isSome:=by rw[show pgW.getD 5 ⟨#[]⟩=⟨#[99,111,117,110,116,101,114,45,114,101,115,101,116]⟩from rfl,decide_eq_true c];rfl
    rw[hr]
    have c:=eq_true c
    simp -implicitDefEqProofs only[c72,c,Dcl.enc,pgV,pgE,pgW,jQ,List.getD_cons_zero,List.getD_cons_succ,List.isEmpty_nil,zk,zh,hv,hT,List.isEmpty_cons,Int.cast_ofNat_Int,Int.natCast_zero,Int.natCast_one,zc,zb,za,go_sem,seval,reduceIte,reduceCtorEq]
   ·have hr:(decide (nm=pgW.getD 5 ⟨#[]⟩)&&pvB 5 v)=false:=by rw[show pgW.getD 5 ⟨#[]⟩=⟨#[99,111,117,110,116,101,114,45,114,101,115,101,116]⟩from rfl,decide_eq_false c];rfl
    rw[hr]
    have c:=eq_false c
    simp -implicitDefEqProofs only[c72,c,Dcl.enc,pgV,pgE,pgW,jQ,List.getD_cons_zero,List.getD_cons_succ,List.isEmpty_nil,zk,zh,hv,hT,List.isEmpty_cons,Int.cast_ofNat_Int,Int.natCast_zero,Int.natCast_one,zc,zb,za,go_sem,seval,reduceIte,reduceCtorEq]
  |6,_,hm=>
   by_cases c:nm=⟨#[99,111,117,110,116,101,114,45,105,110,99,114,101,109,101,110,116]⟩
   ·have hr:(decide (nm=pgW.getD 6 ⟨#[]⟩)&&pvB 6 v)=(spO 0 v).isSome:=by rw[show pgW.getD 6 ⟨#[]⟩=⟨#[99,111,117,110,116,101,114,45,105,110,99,114,101,109,101,110,116]⟩from rfl,decide_eq_true c];rfl
    rw[hr]
    have c:=eq_true c
    simp -implicitDefEqProofs only[c72,c,Dcl.enc,pgV,pgE,pgW,jQ,List.getD_cons_zero,List.getD_cons_succ,List.isEmpty_nil,zk,zh,hv,hT,List.isEmpty_cons,Int.cast_ofNat_Int,Int.natCast_zero,Int.natCast_one,zc,zb,za,go_sem,seval,reduceIte,reduceCtorEq]
   ·have hr:(decide (nm=pgW.getD 6 ⟨#[]⟩)&&pvB 6 v)=false:=by rw[show pgW.getD 6 ⟨#[]⟩=⟨#[99,111,117,110,116,101,114,45,105,110,99,114,101,109,101,110,116]⟩from rfl,decide_eq_false c];rfl
    rw[hr]
    have c:=eq_false c
    simp -implicitDefEqProofs only[c72,c,Dcl.enc,pgV,pgE,pgW,jQ,List.getD_cons_zero,List.getD_cons_succ,List.isEmpty_nil,zk,zh,hv,hT,List.isEmpty_cons,Int.cast_ofNat_Int,Int.natCast_zero,Int.natCast_one,zc,zb,za,go_sem,seval,reduceIte,reduceCtorEq]
  |7,_,hm=>
   by_cases c:nm=⟨#[99,111,117,110,116,101,114,45,115,101,116]⟩
   ·have hr:(decide (nm=pgW.getD 7 ⟨#[]⟩)&&pvB 7 v)=(spO 0 v).isSome:=by rw[show pgW.getD 7 ⟨#[]⟩=⟨#[99,111,117,110,116,101,114,45,115,101,116]⟩from rfl,decide_eq_true c];rfl
    rw[hr]
    have c:=eq_true c
    simp -implicitDefEqProofs only[c72,c,Dcl.enc,pgV,pgE,pgW,jQ,List.getD_cons_zero,List.getD_cons_succ,List.isEmpty_nil,zk,zh,hv,hT,List.isEmpty_cons,Int.cast_ofNat_Int,Int.natCast_zero,Int.natCast_one,zc,zb,za,go_sem,seval,reduceIte,reduceCtorEq]
   ·have hr:(decide (nm=pgW.getD 7 ⟨#[]⟩)&&pvB 7 v)=false:=by rw[show pgW.getD 7 ⟨#[]⟩=⟨#[99,111,117,110,116,101,114,45,115,101,116]⟩from rfl,decide_eq_false c];rfl
    rw[hr]
    have c:=eq_false c
    simp -implicitDefEqProofs only[c72,c,Dcl.enc,pgV,pgE,pgW,jQ,List.getD_cons_zero,List.getD_cons_succ,List.isEmpty_nil,zk,zh,hv,hT,List.isEmpty_cons,Int.cast_ofNat_Int,Int.natCast_zero,Int.natCast_one,zc,zb,za,go_sem,seval,reduceIte,reduceCtorEq]
  |8,_,hm=>
   by_cases c:nm=⟨#[99,111,108,111,114]⟩
   ·have hr:(decide (nm=pgW.getD 8 ⟨#[]⟩)&&pvB 8 v)=zfl (qp v):=by rw[show pgW.getD 8 ⟨#[]⟩=⟨#[99,111,108,111,114]⟩from rfl,decide_eq_true c];rfl
    rw[hr]
    have c:=eq_true c
    simp -implicitDefEqProofs only[c72,c,Dcl.enc,pgV,pgE,pgW,jQ,List.getD_cons_zero,List.getD_cons_succ,List.isEmpty_nil,zk,zh,hv,hT,List.isEmpty_cons,Int.cast_ofNat_Int,Int.natCast_zero,Int.natCast_one,zc,zb,za,go_sem,seval,reduceIte,reduceCtorEq]
   ·have hr:(decide (nm=pgW.getD 8 ⟨#[]⟩)&&pvB 8 v)=false:=by rw[show pgW.getD 8 ⟨#[]⟩=⟨#[99,111,108,111,114]⟩from rfl,decide_eq_false c];rfl
    rw[hr]
    have c:=eq_false c
    simp -implicitDefEqProofs only[c72,c,Dcl.enc,pgV,pgE,pgW,jQ,List.getD_cons_zero,List.getD_cons_succ,List.isEmpty_nil,zk,zh,hv,hT,List.isEmpty_cons,Int.cast_ofNat_Int,Int.natCast_zero,Int.natCast_one,zc,zb,za,go_sem,seval,reduceIte,reduceCtorEq]
  |9,_,hm=>
   by_cases c:nm=⟨#[102,111,110,116,45,115,105,122,101]⟩
   ·have hr:(decide (nm=pgW.getD 9 ⟨#[]⟩)&&pvB 9 v)=W5 (qT v):=by rw[show pgW.getD 9 ⟨#[]⟩=⟨#[102,111,110,116,45,115,105,122,101]⟩from rfl,decide_eq_true c];rfl
    rw[hr]
    have c:=eq_true c
    simp -implicitDefEqProofs only[c72,c,Dcl.enc,pgV,pgE,pgW,jQ,List.getD_cons_zero,List.getD_cons_succ,List.isEmpty_nil,zk,zh,hv,hT,List.isEmpty_cons,Int.cast_ofNat_Int,Int.natCast_zero,Int.natCast_one,zc,zb,za,go_sem,seval,reduceIte,reduceCtorEq]
   ·have hr:(decide (nm=pgW.getD 9 ⟨#[]⟩)&&pvB 9 v)=false:=by rw[show pgW.getD 9 ⟨#[]⟩=⟨#[102,111,110,116,45,115,105,122,101]⟩from rfl,decide_eq_false c];rfl
    rw[hr]
    have c:=eq_false c
    simp -implicitDefEqProofs only[c72,c,Dcl.enc,pgV,pgE,pgW,jQ,List.getD_cons_zero,List.getD_cons_succ,List.isEmpty_nil,zk,zh,hv,hT,List.isEmpty_cons,Int.cast_ofNat_Int,Int.natCast_zero,Int.natCast_one,zc,zb,za,go_sem,seval,reduceIte,reduceCtorEq]
  |k+10,h,_=>exact absurd h (by omega)
theorem zp1(k:Int)(d:Dcl)(h0:0≤k)(hk:k≤9)(hv:okQ d.v):ze Tryz.prog 72 [vi k,.agg d.enc] (vb (Kx k.toNat d.nm d.v)):=by
 have:=ztH k.toNat d (by omega) hv
 rwa [Int.toNat_of_nonneg h0]at this
def WC:Sum Tryz.prog:=⟨72,fun args=>args= [vi ((args.getD 0 .any).int),.agg (Dcl.enc (qi (args.getD 1 .any)))]∧0≤((args.getD 0 .any).int)∧((args.getD 0 .any).int)≤9∧okQ ((qi (args.getD 1 .any))).v,fun args=>vb (Kx (((args.getD 0 .any).int)).toNat ((qi (args.getD 1 .any))).nm ((qi (args.getD 1 .any))).v),fun args h=>by
 have:=zp1 ((args.getD 0 .any).int) (qi (args.getD 1 .any)) h.2.1 h.2.2.1 h.2.2.2;rwa [←h.1]at this,true⟩
theorem zpQ:WC.f=72:=rfl
theorem zpP(args:List V):WC.D args=(args= [vi ((args.getD 0 .any).int),.agg (Dcl.enc (qi (args.getD 1 .any)))]∧0≤((args.getD 0 .any).int)∧((args.getD 0 .any).int)≤9∧okQ ((qi (args.getD 1 .any))).v):=rfl
theorem zeH:WC.flat=true:=rfl
theorem zpR(args:List V):WC.r args=vb (Kx (((args.getD 0 .any).int)).toNat ((qi (args.getD 1 .any))).nm ((qi (args.getD 1 .any))).v):=rfl
attribute [go_sem] zpQ zpP zeH zpR
def Zp(r:Rul)(p:Sh):W3×Bool:=match psO r.pre with
 |some l=>if r.kind=2 then yI l p l.length else(⟨0,0,0⟩,false)
 |none=>(⟨0,0,0⟩,false)
theorem zbF:∀(n:Nat)(l:List Tok)(s s':PSel)(m:Int),l.length≤n→q7 s m→psL l s=some s'→q7 s' (m+l.length)
 |_,[],s,s',m,_,hs,h=>by simp only[psL,Option.some.injEq]at h;subst h;simpa using hs
 |_,[_],s,s',m,_,hs,h=>by simp[psL]at h
 |0,_::_::_,s,s',m,hl,_,_=>by simp at hl
 |n+1,c::i::r,s,s',m,hl,hs,h=>by
  simp only[psL]at h
  split at h
  ·cases hb:jD s (zO i.text)with
   |none=>rw[hb]at h;cases h
   |some s1=>
    rw[hb]at h
    have h1:q7 s1 (m+1):=za5 hb hs.1 hs.2.1 hs.2.2.1 hs.2.2.2
    have:=zbF n r s1 s' (m+1) (by simp only[List.length_cons]at hl;omega) h1 h
    unfold q7 at*
    simp only[List.length_cons];omega
  ·cases h
theorem zlX{s:PSel}{m n:Int}(h:q7 s m)(hm:m≤n):q7 s n:=by unfold q7 at *;omega
theorem znc(l:List Tok)(s:PSel)(h:zbA l=some s):q7 s l.length:=by
 cases l with
 |nil=>cases h
 |cons t r=>
  have z:∀w,q7 ⟨w,0,0,0,0⟩ 0:=fun w=>by unfold q7;simp
  simp only[zbA]at h
  split at h
  ·exact zlX (zbF r.length r _ s 0 (Nat.le_refl _) (z _) h) (by simp only[List.length_cons];omega)
  ·exact zlX (zbF (r.length+1) (t::r) _ s 0 (Nat.le_refl _) (z _) h) (by simp only[List.length_cons];omega)
theorem zf3{l:List Tok}(hl:l.length≤40){s:PSel}(h:KY l=some s):kV s:=by
 have h1:=znc _ _ h
 have h2:(zcd l).length≤40:=by unfold zcd;rw[List.length_drop,List.length_take];omega
 unfold q7 at h1;unfold kV;omega
theorem XR(l:List Tok):∀(P:List (Int×Int))(xs:List PSel),jR l P=some xs→xs.length=P.length
 | [],xs,h=>by simp[jR]at h;subst h;rfl
 |p::P,xs,h=>by
  simp only[jR]at h
  split at h
  ·cases h
  ·simp only[Option.map_eq_some_iff]at h
   obtain⟨ys,hy,rfl⟩:=h
   simp[XR l P ys hy]
theorem zs3{l:List Tok}(h:qI l):((psO l).getD []).length≤1000001:=by
 unfold psO
 split
 ·simp
 ·rename_i hd
  have hd:yJ l=false:=by simpa using hd
  split
  ·simp
  ·cases hx:jR l (JR l)with
   |none=>simp
   |some xs=>
    have h1:=XR _ _ _ hx
    have h2:=(Ka hd).1
    have h3:=h.1
    simp only[Option.getD_some];omega
theorem XS(l:List Tok)(hl:l.length≤40):∀(P:List (Int×Int))(xs:List PSel),jR l P=some xs→∀x∈xs,kV x
 | [],xs,h,x,hx=>by simp only[jR,Option.some.injEq]at h;subst h;cases hx
 |p::P,xs,h,x,hx=>by
  simp only[jR]at h
  split at h
  ·cases h
  ·rename_i s hs
   obtain⟨ys,hy,rfl⟩:=Option.map_eq_some_iff.1 h
   rcases List.mem_cons.1 hx with rfl|hx
   ·exact zf3 (by rw[List.length_drop,List.length_take];omega) hs
   ·exact XS l hl P ys hy x hx
theorem zjl{l:List Tok}(h:qI l)(hl:l.length≤40){xs:List PSel}(hp:psO l=some xs):jS xs:=by
 have h1:=zs3 h
 rw[hp]at h1
 have hm:∀x∈xs,kV x:=by
  unfold psO at hp
  split at hp
  ·cases hp
  split at hp
  ·cases hp
   intro x hx
   have hx:x= .zero:=List.mem_singleton.1 hx
   subst hx;unfold kV;decide
  ·exact XS l hl _ _ hp
 have h2:xs.length≤1000000:=by
  unfold psO at hp
  split at hp
  ·cases hp
  rename_i hd
  have hd:yJ l=false:=by simpa using hd
  split at hp
  ·cases hp;decide
  ·have h2:=XR _ _ _ hp
   have h3:=(Ka hd).1
   omega
 refine⟨h2,fun i hi=>hm _ (yv hi)⟩
theorem zlu(r:Rul)(p:Sh)(h:okT r.pre)(hs:∀l,psO r.pre=some l→jS l):ze Tryz.prog 102 [.agg r.enc,.agg p.enc] (.tup [.agg (W3.enc (Zp r p).1),vb (Zp r p).2]):=by
 have hT:qI r.pre:=h
 obtain⟨kd,pre,ds,ms⟩:=r
 simp only at hT hs
 refine ze.of (Orc.cons Wv (Orc.cons Kd (Orc.nil _))) zrt (by simp[zlK]) fun w0 own0=> ?_
 unfold Zp
 simp only
 cases hp:psO pre with
 |none=>
  simp -implicitDefEqProofs only[zlK,hp,psV,Rul.enc,Sh.enc,W3.enc,zk,zh,hT,Option.getD_none,Option.isSome_none,qZ,List.map_nil,List.isEmpty_cons,List.isEmpty_nil,zi,zc,zb,za,go_sem,seval,reduceIte,reduceCtorEq]
  omega
 |some l=>
  have hsl:=hs l hp
  simp only
  by_cases k2:kd=2
  ·rw[if_pos k2]
   have k2:=eq_true k2
   simp -implicitDefEqProofs only[zlK,hp,hsl,k2,psV,Y4,Rul.enc,Sh.enc,W3.enc,zk,qZ,zh,Xf,zH,Sh.eta',hT,Option.getD_some,Option.isSome_some,List.isEmpty_cons,List.isEmpty_nil,zi,zc,zb,za,go_sem,seval,reduceIte,reduceCtorEq]
  ·rw[if_neg k2]
   have k2:=eq_false k2
   simp -implicitDefEqProofs only[zlK,hp,k2,psV,Rul.enc,Sh.enc,W3.enc,zk,qZ,zh,hT,Option.getD_some,Option.isSome_some,List.isEmpty_cons,List.isEmpty_nil,zi,zc,zb,za,go_sem,seval,reduceIte,reduceCtorEq]
theorem KX{r:Rul}(h:shR r):okT r.pre∧∀l,psO r.pre=some l→jS l:=by
 have h1:okT r.pre:=⟨by have:=h.1.1;omega,fun t ht=>by have:=h.1.2 t ht;omega⟩
 exact⟨h1,fun l hl=>zjl h1 (by have:=h.1.1;omega) hl⟩
def X7:Sum Tryz.prog:=⟨102,fun args=>args= [.agg (Rul.enc (WQ (args.getD 0 .any))),.agg (Sh.enc (yd (args.getD 1 .any)))]∧shR (WQ (args.getD 0 .any)),fun args=>.tup [.agg (W3.enc (Zp (WQ (args.getD 0 .any)) (yd (args.getD 1 .any))).1),vb (Zp (WQ (args.getD 0 .any)) (yd (args.getD 1 .any))).2],fun args h=>by
 have:=zlu (WQ (args.getD 0 .any)) (yd (args.getD 1 .any)) (KX h.2).1 (KX h.2).2;rwa [←h.1]at this,false⟩
theorem znI:X7.f=102:=rfl
theorem znH(args:List V):X7.D args=(args= [.agg (Rul.enc (WQ (args.getD 0 .any))),.agg (Sh.enc (yd (args.getD 1 .any)))]∧shR (WQ (args.getD 0 .any))):=rfl
theorem zdS:X7.flat=false:=rfl
theorem znJ(args:List V):X7.r args= .tup [.agg (W3.enc (Zp (WQ (args.getD 0 .any)) (yd (args.getD 1 .any))).1),vb (Zp (WQ (args.getD 0 .any)) (yd (args.getD 1 .any))).2]:=rfl
attribute [go_sem] znI znH zdS znJ
def bxW:List ByteArray:=[⟨#[116,111,112,45,108,101,102,116,45,99,111,114,110,101,114]⟩,⟨#[116,111,112,45,108,101,102,116]⟩,⟨#[116,111,112,45,99,101,110,116,101,114]⟩,⟨#[116,111,112,45,114,105,103,104,116]⟩,⟨#[116,111,112,45,114,105,103,104,116,45,99,111,114,110,101,114]⟩,⟨#[114,105,103,104,116,45,116,111,112]⟩,⟨#[114,105,103,104,116,45,109,105,100,100,108,101]⟩,⟨#[114,105,103,104,116,45,98,111,116,116,111,109]⟩,⟨#[98,111,116,116,111,109,45,114,105,103,104,116,45,99,111,114,110,101,114]⟩,⟨#[98,111,116,116,111,109,45,114,105,103,104,116]⟩,⟨#[98,111,116,116,111,109,45,99,101,110,116,101,114]⟩,⟨#[98,111,116,116,111,109,45,108,101,102,116]⟩,⟨#[98,111,116,116,111,109,45,108,101,102,116,45,99,111,114,110,101,114]⟩,⟨#[108,101,102,116,45,98,111,116,116,111,109]⟩,⟨#[108,101,102,116,45,109,105,100,100,108,101]⟩,⟨#[108,101,102,116,45,116,111,112]⟩]
def bxN(s:ByteArray):Int:=ixS bxW s
structure BxS where
 k:Nat
 ver:Nat
 clk:Nat
theorem zlH:ze Tryz.prog 58 [] (ju bxW):=by
 refine ze.of (Orc.nil _) zvI (by simp[c58]) fun w0 own0=> ?_
 simp -implicitDefEqProofs only[c58,zc,zb,za,go_sem,seval,reduceIte,reduceCtorEq]
 refine zD.lp (α:=BxS) (fun x=>[(1,.ref 0 x.ver 0 x.k),(4,.c (.agg (bxW.map Value.string).toArray)),(5,vi x.k)]) (fun x=>⟨[⟨x.ver,1,(bxW.take x.k).map (fun s=>[vs s]),false,[vs ⟨#[]⟩]⟩],x.clk⟩)
  (fun x=>x.k≤16) (fun x=>16 - x.k) ⟨0,0,1⟩ (by dsimp only;omega) (St.nil 1 1 [vs ⟨#[]⟩] (by simp[zo]) (St.cut ?_ ?_ ?_)) fun x hx=> ?_
 ·simp[zt,zo,zu];rfl
 ·simp[Heap.alloc]
 ·rfl
 obtain⟨k,ver,clk⟩:=x
 simp only at hx
 have hc:k=0∨k=1∨k=2∨k=3∨k=4∨k=5∨k=6∨k=7∨k=8∨k=9∨k=10∨k=11∨k=12∨k=13∨k=14∨k=15∨k=16:=by omega
 rcases hc with rfl|rfl|rfl|rfl|rfl|rfl|rfl|rfl|rfl|rfl|rfl|rfl|rfl|rfl|rfl|rfl|rfl
 case inr.inr.inr.inr.inr.inr.inr.inr.inr.inr.inr.inr.inr.inr.inr.inr=>
  simp -implicitDefEqProofs only[bxW,ju,List.map_cons,List.map_nil,List.take_zero,List.take_succ_cons,Int.cast_ofNat_Int,Int.natCast_zero,Int.natCast_one,zc,zb,za,go_sem,seval,reduceIte,reduceCtorEq]
 all_goals
  simp -implicitDefEqProofs only[bxW,List.map_cons,List.map_nil,List.take_zero,List.take_succ_cons,Int.cast_ofNat_Int,Int.natCast_zero,Int.natCast_one,zc,zb,za,go_sem,seval,reduceIte,reduceCtorEq]
  refine⟨⟨_,clk+1,clk+1+1⟩,?_,?_,⟨⟨rfl,rfl⟩,rfl⟩,⟨rfl,rfl⟩,rfl⟩
  all_goals (dsimp only;omega)
def K7:Sum Tryz.prog:=⟨58,fun args=>args= [],fun args=>ju bxW,fun args h=>by
 have:=zlH;rwa [←h]at this,false⟩
theorem zn6:K7.f=58:=rfl
theorem zn5(args:List V):K7.D args=(args= []):=rfl
theorem zd1:K7.flat=false:=rfl
theorem zn7(args:List V):K7.r args=ju bxW:=rfl
attribute [go_sem] zn6 zn5 zd1 zn7
theorem zuP(s:ByteArray)(hs:s.size≤1000000):ze Tryz.prog 105 [vs s] (vi (bxN (zO s))):=by
 refine ze.of (Orc.cons kp (Orc.nil _)) zrv (by simp[zuU]) fun w0 own0=> ?_
 simp -implicitDefEqProofs only[zuU,zc,zb,za,go_sem,seval,reduceIte,reduceCtorEq]
 have hF:bxN (zO s)=fst (fun i=>decide (zO s=bxW.getD i ⟨#[]⟩)) (16 - 0) 0:=rfl
 rw[hF]
 generalize hR:fst (fun i=>decide (zO s=bxW.getD i ⟨#[]⟩)) (16 - 0) 0=R
 refine zD.lp (α:=Nat) (fun k=>[(0,vs s),(5,.c (.agg (bxW.map Value.string).toArray)),(6,vi k)]) (fun _=>⟨[],0⟩)
  (fun k=>k≤16∧fst (fun i=>decide (zO s=bxW.getD i ⟨#[]⟩)) (16 - k) k=R) (fun k=>16 - k) 0 ⟨Nat.zero_le _,hR⟩ (St.cut ?_ ?_ ?_) fun k hk=> ?_
 ·simp[zt,zo,zu];rfl
 ·rfl
 ·rfl
 clear hR hF
 obtain⟨h1,h2⟩:=hk
 have hc:k=0∨k=1∨k=2∨k=3∨k=4∨k=5∨k=6∨k=7∨k=8∨k=9∨k=10∨k=11∨k=12∨k=13∨k=14∨k=15∨k=16:=by omega
 rcases hc with rfl|rfl|rfl|rfl|rfl|rfl|rfl|rfl|rfl|rfl|rfl|rfl|rfl|rfl|rfl|rfl|rfl
 case inr.inr.inr.inr.inr.inr.inr.inr.inr.inr.inr.inr.inr.inr.inr.inr=>
  have h2:(-1:Int)=R:=h2
  subst h2
  simp -implicitDefEqProofs only[Int.cast_ofNat_Int,Int.natCast_zero,Int.natCast_one,hs,zc,zb,za,go_sem,seval,reduceIte,reduceCtorEq]
 all_goals
  rw[zcV _ _ _ (by omega)]at h2
  split at h2
  ·rename_i c
   subst h2
   have c:=of_decide_eq_true c
   simp only[bxW,List.getD_cons_zero,List.getD_cons_succ]at c
   have c:=eq_true c.symm
   simp -implicitDefEqProofs only[c,bxW,List.map_cons,List.map_nil,Int.cast_ofNat_Int,Int.natCast_zero,Int.natCast_one,hs,zc,zb,za,go_sem,seval,reduceIte,reduceCtorEq]
  ·rename_i c
   have c:=of_decide_eq_false (Bool.eq_false_iff.2 c)
   simp only[bxW,List.getD_cons_zero,List.getD_cons_succ]at c
   have c:=eq_false (Ne.symm c)
   simp -implicitDefEqProofs only[c,bxW,List.map_cons,List.map_nil,Int.cast_ofNat_Int,Int.natCast_zero,Int.natCast_one,hs,zc,zb,za,go_sem,seval,reduceIte,reduceCtorEq]
   exact⟨_,⟨by omega,h2⟩,by omega,rfl⟩
def Wc:Sum Tryz.prog:=⟨105,fun args=>args= [vs ((args.getD 0 .any).str)]∧(((args.getD 0 .any).str)).size≤1000000,fun args=>vi (bxN (zO ((args.getD 0 .any).str))),fun args h=>by
 have:=zuP ((args.getD 0 .any).str) h.2;rwa [←h.1]at this,true⟩
theorem zn0:Wc.f=105:=rfl
theorem znZ(args:List V):Wc.D args=(args= [vs ((args.getD 0 .any).str)]∧(((args.getD 0 .any).str)).size≤1000000):=rfl
theorem zdZ:Wc.flat=true:=rfl
theorem zn1(args:List V):Wc.r args=vi (bxN (zO ((args.getD 0 .any).str))):=rfl
attribute [go_sem] zn0 znZ zdZ zn1
theorem HRel.upc{g:Gh}{h:Heap}{w w0:World}{own0:Sx.Own}(H:HRel g h w w0 own0){c:Nat}(hc:h.clk≤c):HRel g ⟨h.bs,c⟩ w w0 own0:=
 ⟨fun j v hu=>Nat.lt_of_lt_of_le (H.clk j v hu) hc,H.len,H.ok,H.vlt,H.dist,H.Flt,H.own,H.frm,H.fin,H.ext,H.glb⟩
theorem zx.walkL{P:Program}(T:Orc P){f:FuncId}{fc:FnC}(hf:zq P f=some fc){args:List V}{r:V}{h h':Heap}(hn:args.length≤fc.n)
  (hw:∀w0 own0,wpC ⟨P,T,fc.n,w0,own0⟩ fc.body (zbG fc.rs fun v h2=>v=r∧h2.bs.take h'.bs.length=h'.bs∧h2.clk≤h'.clk) (ZW args) h):zx P f args h r h':=by
 refine⟨(jY hf).1,fun g w w0 own0 cargs H hs hv=> ?_⟩
 have H1:HRel g h w w ⟨fun b=>∃(j:Nat)(I:Inf),g.inf[j]? =some I∧I.blk=some b,g.F,g,[]⟩:=
  ⟨H.clk,H.len,H.ok,H.vlt,H.dist,H.Flt,fun j I b hI hb=>.inl ⟨j,I,hI,hb⟩,Frm.refl _ _,fun b hb=>.inl hb,Ext.refl _ _,H.glbw⟩
 refine(QF T rfl hf hn (hw w _) H1 hs hv).mono fun e w' he=> ?_
 obtain⟨g1,h1,cv,v,rfl,H2,hcv,rfl,hb,hc⟩:=he
 obtain⟨ex,H3⟩:=H2.drop h'.bs.length
 rw[hb]at H3
 replace H3:=HRel.upc H3 (c:=h'.clk) hc
 have hex:=H3.ext
 refine⟨_,cv,rfl,?_,hex,hcv.mono ex⟩
 refine⟨H3.clk,H3.len,H3.ok,H3.vlt,H3.dist,H3.Flt,fun j I b hI hIb=> ?_,?_,fun b hb=> ?_,H.ext.trans hex,H.glb⟩
 ·rcases H3.own j I b hI hIb with⟨k,J,hJ,hJb⟩|hge
  ·exact H.own k J b hJ hJb
  ·exact .inr (Nat.le_trans H.frm.size hge)
 ·refine⟨H3.frm.os.trans H.frm.os,H3.frm.tape.trans H.frm.tape,H3.frm.output.trans H.frm.output,Nat.le_trans H.frm.size H3.frm.size,fun b hlt hno=> ?_⟩
  refine(H3.frm.block b (Nat.lt_of_lt_of_le hlt H.frm.size) ?_).trans (H.frm.block b hlt hno)
  rintro⟨j,I,hI,hIb⟩
  rcases H.own j I b hI hIb with ho|hge
  ·exact hno ho
  ·omega
 ·rcases H3.fin b hb with hF|⟨k,J,hJ,hJb⟩|hge
  ·exact H.fin b hF
  ·exact .inr (H.own k J b hJ hJb)
  ·exact .inr (.inr (Nat.le_trans H.frm.size hge))
structure Wst where
 k:Ky
 o:List V
 b:Bool
def lwD(d:Dcl):Dcl:=⟨zO d.nm,d.v,d.imp⟩
def qu(tl:ByteArray→List Tok→Bool)(bx:Int)(by':Bool)(s:Wst)(a:Int)(d:Dcl)(k:Ky):Wst:=
 if by'=true∧a=bx∧tl (zO d.nm) d.v=true∧(s.b=false∨bts k s.k=true)then⟨k,(lwD d).enc,true⟩else s
def zW(P:List V)(bx pr:Int)(B3 B4:Blk)(vf:Nat)(s:Wst)(R:List Blk):List Blk:=
 ⟨0,6,[P],false,[]⟩::⟨1,1,[[vi bx]],false,[]⟩::⟨2,1,[[vi pr]],false,[]⟩::B3::B4::⟨5,1,[[.fn vf []]],false,[]⟩::⟨6,5,[s.k.enc],false,[]⟩::⟨7,3,[s.o],false,[]⟩::⟨8,1,[[vb s.b]],false,[]⟩::R
structure VOK (S:Sum Tryz.prog) (vf:Nat) (pr:Int) (tl:ByteArray→List Tok→Bool):Prop where
 f:S.f=vf
 flat:S.flat=true
 D:∀nm v imp,okQ v→S.D [.c (.int .i64 pr),.agg [.c (.string nm),.slc 3 (v.map Tok.enc),.c (.bool imp)]]
 r:∀nm v imp,S.r [.c (.int .i64 pr),.agg [.c (.string nm),.slc 3 (v.map Tok.enc),.c (.bool imp)]]= .c (.bool (tl nm v))
 n1:¬vf=66
 n2:¬vf=76
def okD(d:Dcl):Prop:=d.nm.size≤1000000∧okQ d.v
theorem ztO{S:Sum Tryz.prog}{vf:Nat}{pr:Int}{tl:ByteArray→List Tok→Bool}(hV:VOK S vf pr tl)(P:List V)(bx:Int)(B3 B4 C9 C10 C11 C12 C13 C14 C15 C16:Blk)(s:Wst)(ho:s.o.length=3)(clk:Nat)(a:Int)(d:Dcl)(hd:okD d)(k:Ky)(by':Bool):
  zx Tryz.prog 75 [vi a,.agg d.enc,.agg k.enc,vb by',.ptr 1 1 0 0,.ptr 5 5 0 0,.ptr 2 2 0 0,.ptr 8 8 0 0,.ptr 6 6 0 0,.ptr 7 7 0 0] ⟨zW P bx pr B3 B4 vf s [C9,C10,C11,C12,C13,C14,C15,C16],clk⟩ (.tup []) ⟨zW P bx pr B3 B4 vf (qu tl bx by' s a d k) [C9,C10,C11,C12,C13,C14,C15,C16],clk+7⟩:=by
 obtain⟨nm,v,imp⟩:=d
 obtain⟨kl,⟨ka,kb,kc⟩,ko⟩:=k
 obtain⟨⟨sl,⟨sa,sb,sc⟩,so⟩,out,has⟩:=s
 obtain⟨h1,h2⟩:=hd
 have hdr:out.drop 3= []:=List.drop_eq_nil_of_le (by simp only at ho;omega)
 clear ho
 simp only at h1 h2
 obtain⟨vF,vFl,vD,vr,n1,n2⟩:=hV
 have n1:=eq_false n1;have n2:=eq_false n2
 have n3:=eq_false (show ¬66=vf from fun h=>(of_eq_false n1) h.symm);have n4:=eq_false (show ¬76=vf from fun h=>(of_eq_false n2) h.symm)
 have hD:=eq_true (vD (zO nm) v imp h2)
 have hr:=vr (zO nm) v imp
 clear vD vr
 refine zx.walkL (Orc.cons S (Orc.cons kp (Orc.cons K6 (Orc.nil _)))) zlT (by simp[c75]) fun w0 own0=> ?_
 unfold qu
 simp only
 generalize htl:tl (zO nm) v=T at*
 generalize hbt:bts ⟨kl,⟨ka,kb,kc⟩,ko⟩ ⟨sl,⟨sa,sb,sc⟩,so⟩=Bt at*
 have e1:(a=bx)=(a=bx):=rfl
 by_cases hab:a=bx
 case neg=>
  rw[if_neg (fun h=>hab h.2.1)]
  have hab:=eq_false hab
  cases by'<;>simp -implicitDefEqProofs only[c75,zW,Ky.enc,Dcl.enc,h1,hab,List.isEmpty_nil,List.isEmpty_cons,vF,vFl,hD,hr,n1,n2,n3,n4,kP,hdr,zc,zb,za,go_sem,seval,reduceIte,reduceCtorEq]<;>omega
 have hab':=eq_true hab
 cases by' with
 |false=>
  rw[if_neg (fun h=>by cases h.1)]
  simp -implicitDefEqProofs only[c75,zW,Ky.enc,Dcl.enc,h1,hab',List.isEmpty_nil,List.isEmpty_cons,vF,vFl,hD,hr,n1,n2,n3,n4,kP,hdr,zc,zb,za,go_sem,seval,reduceIte,reduceCtorEq]<;>omega
 |true=>
  cases T with
  |false=>
   rw[if_neg (fun h=>by cases h.2.2.1)]
   simp -implicitDefEqProofs only[c75,zW,Ky.enc,Dcl.enc,h1,hab',List.isEmpty_nil,List.isEmpty_cons,vF,vFl,hD,hr,n1,n2,n3,n4,kP,hdr,zc,zb,za,go_sem,seval,reduceIte,reduceCtorEq]<;>omega
  |true=>
   cases has with
   |false=>
    rw[if_pos ⟨rfl,hab,rfl,.inl rfl⟩]
    simp -implicitDefEqProofs only[c75,zW,Ky.enc,Dcl.enc,lwD,h1,hab',List.isEmpty_nil,List.isEmpty_cons,vF,vFl,hD,hr,n1,n2,n3,n4,kP,hdr,zc,zb,za,go_sem,seval,reduceIte,reduceCtorEq]<;>omega
   |true=>
    cases Bt with
    |false=>
     rw[if_neg (fun h=>by rcases h.2.2.2 with h|h<;>cases h)]
     simp -implicitDefEqProofs only[c75,zW,Ky.enc,Dcl.enc,hbt,h1,hab',List.isEmpty_nil,List.isEmpty_cons,vF,vFl,hD,hr,n1,n2,n3,n4,kP,hdr,zc,zb,za,go_sem,seval,reduceIte,reduceCtorEq]<;>omega
    |true=>
     rw[if_pos ⟨rfl,hab,rfl,.inr rfl⟩]
     simp -implicitDefEqProofs only[c75,zW,Ky.enc,Dcl.enc,lwD,hbt,h1,hab',List.isEmpty_nil,List.isEmpty_cons,vF,vFl,hD,hr,n1,n2,n3,n4,kP,hdr,zc,zb,za,go_sem,seval,reduceIte,reduceCtorEq]<;>omega
theorem ztP{S:Sum Tryz.prog}{vf:Nat}{pr:Int}{tl:ByteArray→List Tok→Bool}(hV:VOK S vf pr tl)(P:List V)(bx:Int)(B3 B4 C9 C10 C11 C12 C13 C14 C15 C16 C17:Blk)(s:Wst)(ho:s.o.length=3)(clk:Nat)(a:Int)(d:Dcl)(hd:okD d)(k:Ky)(by':Bool):
  zx Tryz.prog 75 [vi a,.agg d.enc,.agg k.enc,vb by',.ptr 1 1 0 0,.ptr 5 5 0 0,.ptr 2 2 0 0,.ptr 8 8 0 0,.ptr 6 6 0 0,.ptr 7 7 0 0] ⟨zW P bx pr B3 B4 vf s [C9,C10,C11,C12,C13,C14,C15,C16,C17],clk⟩ (.tup []) ⟨zW P bx pr B3 B4 vf (qu tl bx by' s a d k) [C9,C10,C11,C12,C13,C14,C15,C16,C17],clk+7⟩:=by
 obtain⟨nm,v,imp⟩:=d
 obtain⟨kl,⟨ka,kb,kc⟩,ko⟩:=k
 obtain⟨⟨sl,⟨sa,sb,sc⟩,so⟩,out,has⟩:=s
 obtain⟨h1,h2⟩:=hd
 have hdr:out.drop 3= []:=List.drop_eq_nil_of_le (by simp only at ho;omega)
 clear ho
 simp only at h1 h2
 obtain⟨vF,vFl,vD,vr,n1,n2⟩:=hV
 have n1:=eq_false n1;have n2:=eq_false n2
 have n3:=eq_false (show ¬66=vf from fun h=>(of_eq_false n1) h.symm);have n4:=eq_false (show ¬76=vf from fun h=>(of_eq_false n2) h.symm)
 have hD:=eq_true (vD (zO nm) v imp h2)
 have hr:=vr (zO nm) v imp
 clear vD vr
 refine zx.walkL (Orc.cons S (Orc.cons kp (Orc.cons K6 (Orc.nil _)))) zlT (by simp[c75]) fun w0 own0=> ?_
 unfold qu
 simp only
 generalize htl:tl (zO nm) v=T at*
 generalize hbt:bts ⟨kl,⟨ka,kb,kc⟩,ko⟩ ⟨sl,⟨sa,sb,sc⟩,so⟩=Bt at*
 have e1:(a=bx)=(a=bx):=rfl
 by_cases hab:a=bx
 case neg=>
  rw[if_neg (fun h=>hab h.2.1)]
  have hab:=eq_false hab
  cases by'<;>simp -implicitDefEqProofs only[c75,zW,Ky.enc,Dcl.enc,h1,hab,List.isEmpty_nil,List.isEmpty_cons,vF,vFl,hD,hr,n1,n2,n3,n4,kP,hdr,zc,zb,za,go_sem,seval,reduceIte,reduceCtorEq]<;>omega
 have hab':=eq_true hab
 cases by' with
 |false=>
  rw[if_neg (fun h=>by cases h.1)]
  simp -implicitDefEqProofs only[c75,zW,Ky.enc,Dcl.enc,h1,hab',List.isEmpty_nil,List.isEmpty_cons,vF,vFl,hD,hr,n1,n2,n3,n4,kP,hdr,zc,zb,za,go_sem,seval,reduceIte,reduceCtorEq]<;>omega
 |true=>
  cases T with
  |false=>
   rw[if_neg (fun h=>by cases h.2.2.1)]
   simp -implicitDefEqProofs only[c75,zW,Ky.enc,Dcl.enc,h1,hab',List.isEmpty_nil,List.isEmpty_cons,vF,vFl,hD,hr,n1,n2,n3,n4,kP,hdr,zc,zb,za,go_sem,seval,reduceIte,reduceCtorEq]<;>omega
  |true=>
   cases has with
   |false=>
    rw[if_pos ⟨rfl,hab,rfl,.inl rfl⟩]
    simp -implicitDefEqProofs only[c75,zW,Ky.enc,Dcl.enc,lwD,h1,hab',List.isEmpty_nil,List.isEmpty_cons,vF,vFl,hD,hr,n1,n2,n3,n4,kP,hdr,zc,zb,za,go_sem,seval,reduceIte,reduceCtorEq]<;>omega
   |true=>
    cases Bt with
    |false=>
     rw[if_neg (fun h=>by rcases h.2.2.2 with h|h<;>cases h)]
     simp -implicitDefEqProofs only[c75,zW,Ky.enc,Dcl.enc,hbt,h1,hab',List.isEmpty_nil,List.isEmpty_cons,vF,vFl,hD,hr,n1,n2,n3,n4,kP,hdr,zc,zb,za,go_sem,seval,reduceIte,reduceCtorEq]<;>omega
    |true=>
     rw[if_pos ⟨rfl,hab,rfl,.inr rfl⟩]
     simp -implicitDefEqProofs only[c75,zW,Ky.enc,Dcl.enc,lwD,hbt,h1,hab',List.isEmpty_nil,List.isEmpty_cons,vF,vFl,hD,hr,n1,n2,n3,n4,kP,hdr,zc,zb,za,go_sem,seval,reduceIte,reduceCtorEq]<;>omega
def doC:List V:=[.ptr 1 1 0 0,.ptr 5 5 0 0,.ptr 2 2 0 0,.ptr 8 8 0 0,.ptr 6 6 0 0,.ptr 7 7 0 0]
def doA(a:Int)(d:Dcl)(k:Ky)(b:Bool):List V:=[vi a,.agg d.enc,.agg k.enc,vb b,.ptr 1 1 0 0,.ptr 5 5 0 0,.ptr 2 2 0 0,.ptr 8 8 0 0,.ptr 6 6 0 0,.ptr 7 7 0 0]
def doH(tl:ByteArray→List Tok→Bool)(P:List V)(bx pr:Int)(B3 B4:Blk)(vf:Nat)(args:List V)(h:Heap):Heap:=
 ⟨zW P bx pr B3 B4 vf (qu tl bx (V.boo (args.getD 3 .any)) ⟨dKy (.agg ((h.blk 6).es.getD 0 [])),(h.blk 7).es.getD 0 [],V.boo (((h.blk 8).es.getD 0 []).getD 0 .any)⟩ (args.getD 0 .any).int (qi (args.getD 1 .any)) (dKy (args.getD 2 .any))) (h.bs.drop 9),h.clk+7⟩
theorem zl7(tl:ByteArray→List Tok→Bool)(P:List V)(bx pr:Int)(B3 B4:Blk)(vf:Nat)(s:Wst)(R:List Blk)(clk:Nat)(a:Int)(d:Dcl)(k:Ky)(b:Bool):
  doH tl P bx pr B3 B4 vf (doA a d k b) ⟨zW P bx pr B3 B4 vf s R,clk⟩=⟨zW P bx pr B3 B4 vf (qu tl bx b s a d k) R,clk+7⟩:=by
 have e:qi (.agg d.enc)=d:=qC d
 show(⟨zW P bx pr B3 B4 vf (qu tl bx b s a (qi (.agg d.enc)) k) R,clk+7⟩:Heap)=_
 rw[e]
structure DoOK (A:ESum Tryz.prog) (tl:ByteArray→List Tok→Bool) (P:List V) (bx pr:Int) (B3 B4:Blk) (vf:Nat):Prop where
 f:A.f=75
 pre:∀s R clk a d k b,s.o.length=3→okD d→(R.length=8∨R.length=9)→A.pre (doA a d k b) ⟨zW P bx pr B3 B4 vf s R,clk⟩
 v:∀args h,A.v args h= .tup []
 hp:∀s R clk a d k b,A.hp (doA a d k b) ⟨zW P bx pr B3 B4 vf s R,clk⟩=⟨zW P bx pr B3 B4 vf (qu tl bx b s a d k) R,clk+7⟩
theorem zwa{S:Sum Tryz.prog}{vf:Nat}{pr:Int}{tl:ByteArray→List Tok→Bool}(hV:VOK S vf pr tl)(P:List V)(bx:Int)(B3 B4:Blk):∃A:ESum Tryz.prog,DoOK A tl P bx pr B3 B4 vf:=by
 refine⟨⟨75,fun args h=>∃s R clk a d k b,s.o.length=3∧okD d∧(R.length=8∨R.length=9)∧args=doA a d k b∧h=⟨zW P bx pr B3 B4 vf s R,clk⟩,fun _ _=>.tup [],doH tl P bx pr B3 B4 vf,fun args h hp=> ?_⟩,rfl,fun s R clk a d k b h1 h2 h3=>⟨s,R,clk,a,d,k,b,h1,h2,h3,rfl,rfl⟩,fun _ _=>rfl,fun s R clk a d k b=>zl7 tl P bx pr B3 B4 vf s R clk a d k b⟩
 obtain⟨s,R,clk,a,d,k,b,h1,h2,h3,rfl,rfl⟩:=hp
 rw[zl7]
 rcases h3 with h3|h3
 ·match R,h3 with
  | [C9,C10,C11,C12,C13,C14,C15,C16],_=>exact ztO hV P bx B3 B4 C9 C10 C11 C12 C13 C14 C15 C16 s h1 clk a d h2 k b
 ·match R,h3 with
  | [C9,C10,C11,C12,C13,C14,C15,C16,C17],_=>exact ztP hV P bx B3 B4 C9 C10 C11 C12 C13 C14 C15 C16 C17 s h1 clk a d h2 k b
def eaR(C9:Blk)(o:Int)(vS:Nat)(n:Int)(C13:Blk)(vW:Nat)(w:W3)(vB:Nat)(b:Bool)(X:List Blk):List Blk:=
 C9::⟨10,1,[[.fn 75 doC]],false,[]⟩::⟨11,1,[[vi o]],false,[]⟩::⟨vS,1,[[vi n]],false,[]⟩::C13::⟨vW,3,[w.enc],false,[]⟩::⟨vB,1,[[vb b]],false,[]⟩::X
def yi(tl:ByteArray→List Tok→Bool)(bx:Int)(b:Bool)(n:Int)(w:W3)(a:Int):Int→List Dcl→Wst→Wst
 |_,[],s=>s
 |o,d::r,s=>yi tl bx b n w a (o+1) r (qu tl bx b s a d ⟨lvl n d.imp,w,o⟩)
theorem zcy{tl:ByteArray→List Tok→Bool}{bx:Int}{b:Bool}{s:Wst}{a:Int}{d:Dcl}{k:Ky}(h:s.o.length=3):(qu tl bx b s a d k).o.length=3:=by
 unfold qu
 split
 ·rfl
 ·exact h
theorem Yf{tl:ByteArray→List Tok→Bool}{bx:Int}{b:Bool}{n:Int}{w:W3}{a:Int}:∀(l:List Dcl)(o:Int)(s:Wst),s.o.length=3→(yi tl bx b n w a o l s).o.length=3
 | [],_,s,h=>h
 |d::r,o,s,h=>Yf r (o+1) _ (zcy h)
structure E1S where
 k:Nat
 s:Wst
theorem zmb{A:ESum Tryz.prog}{tl:ByteArray→List Tok→Bool}{P:List V}{bx pr:Int}{B3 B4:Blk}{vf:Nat}(hA:DoOK A tl P bx pr B3 B4 vf)(C9 C13:Blk)(s:Wst)(ho:s.o.length=3)(clk:Nat)(a o n:Int)(h0:0≤o)(vS vW vB:Nat)(w:W3)(b:Bool)(l:List Dcl)(hd:∀d∈l,okD d)(hb:o+l.length≤1000000):
  zx Tryz.prog 103 [vi a,.slc 3 (l.map Dcl.enc),.ptr 10 10 0 0,.ptr 12 vS 0 0,.ptr 14 vW 0 0,.ptr 11 11 0 0,.ptr 15 vB 0 0] ⟨zW P bx pr B3 B4 vf s (eaR C9 o vS n C13 vW w vB b []),clk⟩ (.tup [])
   ⟨zW P bx pr B3 B4 vf (yi tl bx b n w a o l s) (eaR C9 (o+l.length) vS n C13 vW w vB b []),clk+8*l.length⟩:=by
 obtain⟨aF,aP,aV,aH⟩:=hA
 refine zx.walkL (Orc.econs A (Orc.cons Ja (Orc.nil _))) zht (by simp[zlL]) fun w0 own0=> ?_
 generalize hR:yi tl bx b n w a o l s=R
 simp -implicitDefEqProofs only[zlL,zc,zb,za,go_sem,seval,reduceIte,reduceCtorEq]
 refine zD.lp (α:=E1S) (fun x=>[(0,vi a),(1,.slc 3 (l.map Dcl.enc)),(2,.ptr 10 10 0 0),(3,.ptr 12 vS 0 0),(4,.ptr 14 vW 0 0),(5,.ptr 11 11 0 0),(6,.ptr 15 vB 0 0),(11,.slc 3 (l.map Dcl.enc)),(12,vi l.length),(13,vi x.k)])
  (fun x=>⟨zW P bx pr B3 B4 vf x.s (eaR C9 (o+x.k) vS n C13 vW w vB b []),clk+8*x.k⟩)
  (fun x=>x.k≤l.length∧x.s.o.length=3∧yi tl bx b n w a (o+x.k) (l.drop x.k) x.s=R) (fun x=>l.length - x.k) ⟨0,s⟩ ⟨Nat.zero_le _,ho,by simpa using hR⟩ (St.cut ?_ ?_ ?_) fun x hx=> ?_
 ·simp[zt,zo,zu]
 ·simp[zW,eaR]
 ·simp
 clear hR ho
 obtain⟨k,s⟩:=x
 obtain⟨g1,ho,g2⟩:=hx
 simp only at g1 ho g2
 by_cases he:k=l.length
 ·subst he
  rw[List.drop_length]at g2
  simp only[yi]at g2
  subst g2
  simp -implicitDefEqProofs only[Int.lt_irrefl,zW,eaR,zc,zb,za,go_sem,seval,reduceIte,reduceCtorEq]
  exact Nat.le_refl _
 have f1:=eq_true (show(k:Int)<(l.length:Int)by omega)
 have f0:=eq_true (show(0:Int)≤(k:Int)by omega)
 have hg:=fun z=>KL l k z (by omega)
 have hdk:=hd _ (yv (d:=default) (show k<l.length by omega))
 have hdr:l.drop k=l.getD k default::l.drop (k+1):=by rw[List.drop_eq_getElem_cons (by omega),List.getD_eq_getElem?_getD,List.getElem?_eq_getElem (by omega)];rfl
 rw[hdr]at g2
 simp only[yi]at g2
 clear hdr hd
 generalize l.getD k default=d at*
 have ho':=zcy (tl:=tl) (bx:=bx) (b:=b) (a:=a) (d:=d) (k:=⟨lvl n d.imp,w,o+(k:Int)⟩) ho
 have pA:=fun D c=>aP s (eaR C9 (o+k) vS n C13 vW w vB b ([D])) c a d ⟨lvl n d.imp,w,o+(k:Int)⟩ b ho hdk (.inl rfl)
 have hA:=fun D c=>aH s (eaR C9 (o+k) vS n C13 vW w vB b ([D])) c a d ⟨lvl n d.imp,w,o+(k:Int)⟩ b
 generalize qu tl bx b s a d ⟨lvl n d.imp,w,o+(k:Int)⟩=s' at*
 obtain⟨nm,v,imp⟩:=d
 simp only[doA,zW,eaR,doC,W3.enc,Dcl.enc,Ky.enc]at pA hA
 have hbo:∀b,V.boo (.c (.bool b))=b:=fun _=>rfl
 clear aP aH
 have o1:=eq_true (show -9223372036854775808≤o+(k:Int)+1 by omega)
 have o2:=eq_true (show o+(k:Int)+1≤9223372036854775807 by omega)
 simp -implicitDefEqProofs only[f0,f1,hg,o1,o2,zW,eaR,doC,Dcl.enc,W3.enc,Ky.enc,hbo,aF,aV,pA,hA,zc,zb,za,go_sem,seval,reduceIte,reduceCtorEq]
 exact⟨⟨by omega,by omega⟩,⟨k+1,s'⟩,⟨by dsimp only;omega,ho',by dsimp only;rw[show o+((k+1:Nat):Int)=o+(k:Int)+1 by omega];exact g2⟩,by dsimp only;omega,by dsimp only;omega,⟨⟨rfl,rfl,rfl,rfl,rfl⟩,rfl,rfl,by dsimp only;omega⟩,by dsimp only;omega⟩
theorem zmc{A:ESum Tryz.prog}{tl:ByteArray→List Tok→Bool}{P:List V}{bx pr:Int}{B3 B4:Blk}{vf:Nat}(hA:DoOK A tl P bx pr B3 B4 vf)(C9 C13 C16:Blk)(s:Wst)(ho:s.o.length=3)(clk:Nat)(a o n:Int)(h0:0≤o)(vS vW vB:Nat)(w:W3)(b:Bool)(l:List Dcl)(hd:∀d∈l,okD d)(hb:o+l.length≤1000000):
  zx Tryz.prog 103 [vi a,.slc 3 (l.map Dcl.enc),.ptr 10 10 0 0,.ptr 12 vS 0 0,.ptr 14 vW 0 0,.ptr 11 11 0 0,.ptr 15 vB 0 0] ⟨zW P bx pr B3 B4 vf s (eaR C9 o vS n C13 vW w vB b [C16]),clk⟩ (.tup [])
   ⟨zW P bx pr B3 B4 vf (yi tl bx b n w a o l s) (eaR C9 (o+l.length) vS n C13 vW w vB b [C16]),clk+8*l.length⟩:=by
 obtain⟨aF,aP,aV,aH⟩:=hA
 refine zx.walkL (Orc.econs A (Orc.cons Ja (Orc.nil _))) zht (by simp[zlL]) fun w0 own0=> ?_
 generalize hR:yi tl bx b n w a o l s=R
 simp -implicitDefEqProofs only[zlL,zc,zb,za,go_sem,seval,reduceIte,reduceCtorEq]
 refine zD.lp (α:=E1S) (fun x=>[(0,vi a),(1,.slc 3 (l.map Dcl.enc)),(2,.ptr 10 10 0 0),(3,.ptr 12 vS 0 0),(4,.ptr 14 vW 0 0),(5,.ptr 11 11 0 0),(6,.ptr 15 vB 0 0),(11,.slc 3 (l.map Dcl.enc)),(12,vi l.length),(13,vi x.k)])
  (fun x=>⟨zW P bx pr B3 B4 vf x.s (eaR C9 (o+x.k) vS n C13 vW w vB b [C16]),clk+8*x.k⟩)
  (fun x=>x.k≤l.length∧x.s.o.length=3∧yi tl bx b n w a (o+x.k) (l.drop x.k) x.s=R) (fun x=>l.length - x.k) ⟨0,s⟩ ⟨Nat.zero_le _,ho,by simpa using hR⟩ (St.cut ?_ ?_ ?_) fun x hx=> ?_
 ·simp[zt,zo,zu]
 ·simp[zW,eaR]
 ·simp
 clear hR ho
 obtain⟨k,s⟩:=x
 obtain⟨g1,ho,g2⟩:=hx
 simp only at g1 ho g2
 by_cases he:k=l.length
 ·subst he
  rw[List.drop_length]at g2
  simp only[yi]at g2
  subst g2
  simp -implicitDefEqProofs only[Int.lt_irrefl,zW,eaR,zc,zb,za,go_sem,seval,reduceIte,reduceCtorEq]
  exact Nat.le_refl _
 have f1:=eq_true (show(k:Int)<(l.length:Int)by omega)
 have f0:=eq_true (show(0:Int)≤(k:Int)by omega)
 have hg:=fun z=>KL l k z (by omega)
 have hdk:=hd _ (yv (d:=default) (show k<l.length by omega))
 have hdr:l.drop k=l.getD k default::l.drop (k+1):=by rw[List.drop_eq_getElem_cons (by omega),List.getD_eq_getElem?_getD,List.getElem?_eq_getElem (by omega)];rfl
 rw[hdr]at g2
 simp only[yi]at g2
 clear hdr hd
 generalize l.getD k default=d at*
 have ho':=zcy (tl:=tl) (bx:=bx) (b:=b) (a:=a) (d:=d) (k:=⟨lvl n d.imp,w,o+(k:Int)⟩) ho
 have pA:=fun D c=>aP s (eaR C9 (o+k) vS n C13 vW w vB b (C16:: [D])) c a d ⟨lvl n d.imp,w,o+(k:Int)⟩ b ho hdk (.inr rfl)
 have hA:=fun D c=>aH s (eaR C9 (o+k) vS n C13 vW w vB b (C16:: [D])) c a d ⟨lvl n d.imp,w,o+(k:Int)⟩ b
 generalize qu tl bx b s a d ⟨lvl n d.imp,w,o+(k:Int)⟩=s' at*
 obtain⟨nm,v,imp⟩:=d
 simp only[doA,zW,eaR,doC,W3.enc,Dcl.enc,Ky.enc]at pA hA
 have hbo:∀b,V.boo (.c (.bool b))=b:=fun _=>rfl
 clear aP aH
 have o1:=eq_true (show -9223372036854775808≤o+(k:Int)+1 by omega)
 have o2:=eq_true (show o+(k:Int)+1≤9223372036854775807 by omega)
 simp -implicitDefEqProofs only[f0,f1,hg,o1,o2,zW,eaR,doC,Dcl.enc,W3.enc,Ky.enc,hbo,aF,aV,pA,hA,zc,zb,za,go_sem,seval,reduceIte,reduceCtorEq]
 exact⟨⟨by omega,by omega⟩,⟨k+1,s'⟩,⟨by dsimp only;omega,ho',by dsimp only;rw[show o+((k+1:Nat):Int)=o+(k:Int)+1 by omega];exact g2⟩,by dsimp only;omega,by dsimp only;omega,⟨⟨rfl,rfl,rfl,rfl,rfl⟩,rfl,rfl,by dsimp only;omega⟩,by dsimp only;omega⟩
def e1A(a:Int)(l:List Dcl)(vS vW vB:Nat):List V:=[vi a,.slc 3 (l.map Dcl.enc),.ptr 10 10 0 0,.ptr 12 vS 0 0,.ptr 14 vW 0 0,.ptr 11 11 0 0,.ptr 15 vB 0 0]
def c0(B:Blk):V:=(B.es.getD 0 []).getD 0 .any
def e1H(tl:ByteArray→List Tok→Bool)(P:List V)(bx pr:Int)(B3 B4:Blk)(vf:Nat)(args:List V)(h:Heap):Heap:=
 ⟨zW P bx pr B3 B4 vf (yi tl bx (V.boo (c0 (h.blk 15))) (c0 (h.blk 12)).int (dW3 (.agg ((h.blk 14).es.getD 0 []))) (args.getD 0 .any).int (c0 (h.blk 11)).int (qD (args.getD 1 .any)) ⟨dKy (.agg ((h.blk 6).es.getD 0 [])),(h.blk 7).es.getD 0 [],V.boo (c0 (h.blk 8))⟩)
   (eaR (h.blk 9) ((c0 (h.blk 11)).int+(qD (args.getD 1 .any)).length) (h.blk 12).ver (c0 (h.blk 12)).int (h.blk 13) (h.blk 14).ver (dW3 (.agg ((h.blk 14).es.getD 0 []))) (h.blk 15).ver (V.boo (c0 (h.blk 15))) (h.bs.drop 16)),h.clk+8*(qD (args.getD 1 .any)).length⟩
theorem zl9(tl:ByteArray→List Tok→Bool)(P:List V)(bx pr:Int)(B3 B4:Blk)(vf:Nat)(s:Wst)(C9 C13:Blk)(X:List Blk)(clk:Nat)(a o n:Int)(vS vW vB:Nat)(w:W3)(b:Bool)(l:List Dcl):
  e1H tl P bx pr B3 B4 vf (e1A a l vS vW vB) ⟨zW P bx pr B3 B4 vf s (eaR C9 o vS n C13 vW w vB b X),clk⟩=⟨zW P bx pr B3 B4 vf (yi tl bx b n w a o l s) (eaR C9 (o+l.length) vS n C13 vW w vB b X),clk+8*l.length⟩:=by
 have e:qD (.slc 3 (l.map Dcl.enc))=l:=qE 3 l
 show(⟨zW P bx pr B3 B4 vf (yi tl bx b n w a o (qD (.slc 3 (l.map Dcl.enc))) s) (eaR C9 (o+(qD (.slc 3 (l.map Dcl.enc))).length) vS n C13 vW w vB b X),clk+8*(qD (.slc 3 (l.map Dcl.enc))).length⟩:Heap)=_
 rw[e]
structure E1OK (A:ESum Tryz.prog) (tl:ByteArray→List Tok→Bool) (P:List V) (bx pr:Int) (B3 B4:Blk) (vf:Nat):Prop where
 f:A.f=103
 pre:∀(s:Wst)(C9 C13:Blk)(X:List Blk)(clk:Nat)(a o n:Int)(vS vW vB:Nat)(w:W3)(b:Bool)(l:List Dcl),s.o.length=3→X.length≤1→0≤o→(∀d∈l,okD d)→o+l.length≤1000000→A.pre (e1A a l vS vW vB) ⟨zW P bx pr B3 B4 vf s (eaR C9 o vS n C13 vW w vB b X),clk⟩
 v:∀args h,A.v args h= .tup []
 hp:∀(s:Wst)(C9 C13:Blk)(X:List Blk)(clk:Nat)(a o n:Int)(vS vW vB:Nat)(w:W3)(b:Bool)(l:List Dcl),A.hp (e1A a l vS vW vB) ⟨zW P bx pr B3 B4 vf s (eaR C9 o vS n C13 vW w vB b X),clk⟩=⟨zW P bx pr B3 B4 vf (yi tl bx b n w a o l s) (eaR C9 (o+l.length) vS n C13 vW w vB b X),clk+8*l.length⟩
theorem zwb{S:Sum Tryz.prog}{vf:Nat}{pr:Int}{tl:ByteArray→List Tok→Bool}(hV:VOK S vf pr tl)(P:List V)(bx:Int)(B3 B4:Blk):∃A:ESum Tryz.prog,E1OK A tl P bx pr B3 B4 vf:=by
 obtain⟨D,hD⟩:=zwa hV P bx B3 B4
 refine⟨⟨103,fun args h=>∃(s:Wst)(C9 C13:Blk)(X:List Blk)(clk:Nat)(a o n:Int)(vS vW vB:Nat)(w:W3)(b:Bool)(l:List Dcl),s.o.length=3∧X.length≤1∧0≤o∧(∀d∈l,okD d)∧o+l.length≤1000000∧args=e1A a l vS vW vB∧h=⟨zW P bx pr B3 B4 vf s (eaR C9 o vS n C13 vW w vB b X),clk⟩,fun _ _=>.tup [],e1H tl P bx pr B3 B4 vf,fun args h hp=> ?_⟩,rfl,
  fun s C9 C13 X clk a o n vS vW vB w b l h1 h2 h3 h4 h5=>⟨s,C9,C13,X,clk,a,o,n,vS,vW,vB,w,b,l,h1,h2,h3,h4,h5,rfl,rfl⟩,fun _ _=>rfl,fun s C9 C13 X clk a o n vS vW vB w b l=>zl9 tl P bx pr B3 B4 vf s C9 C13 X clk a o n vS vW vB w b l⟩
 obtain⟨s,C9,C13,X,clk,a,o,n,vS,vW,vB,w,b,l,h1,h2,h3,h4,h5,rfl,rfl⟩:=hp
 rw[zl9]
 match X,h2 with
 | [],_=>exact zmb hD C9 C13 s h1 clk a o n h3 vS vW vB w b l h4 h5
 | [C16],_=>exact zmc hD C9 C13 C16 s h1 clk a o n h3 vS vW vB w b l h4 h5
def bxP(nm:ByteArray):Int:=if bxN (zO nm)<0 then 99 else bxN (zO nm)
def kg(tl:ByteArray→List Tok→Bool)(bx:Int)(b:Bool)(n:Int)(w:W3):Int→List Mg→Wst→Wst
 |_,[],s=>s
 |o,m::r,s=>kg tl bx b n w (o+m.ds.length) r (yi tl bx b n w (bxP m.nm) o m.ds s)
def Z2:List Mg→Int
 | []=>0
 |m::r=>m.ds.length+Z2 r
def qU(tl:ByteArray→List Tok→Bool)(bx:Int)(p:Sh)(n:Int):Int→List Rul→Wst→Wst
 |_,[],s=>s
 |o,r::l,s=>qU tl bx p n (o+r.ds.length+Z2 r.ms) l (kg tl bx (Zp r p).2 n (Zp r p).1 (o+r.ds.length) r.ms (yi tl bx (Zp r p).2 n (Zp r p).1 (-1) o r.ds s))
def Q6:List Rul→Int
 | []=>0
 |r::l=>r.ds.length+Z2 r.ms+Q6 l
def ym(tl:ByteArray→List Tok→Bool)(bx:Int)(p:Sh):Int→Int→List (List Rul)→Wst→Wst
 |_,_,[],s=>s
 |n,o,l::t,s=>ym tl bx p (n+1) (o+Q6 l) t (qU tl bx p n o l s)
theorem XJ{tl:ByteArray→List Tok→Bool}{bx:Int}{b:Bool}{n:Int}{w:W3}:∀(l:List Mg)(o:Int)(s:Wst),s.o.length=3→(kg tl bx b n w o l s).o.length=3
 | [],_,s,h=>h
 |m::r,o,s,h=>XJ r _ _ (Yf _ _ _ h)
theorem zdB{tl:ByteArray→List Tok→Bool}{bx:Int}{p:Sh}{n:Int}:∀(l:List Rul)(o:Int)(s:Wst),s.o.length=3→(qU tl bx p n o l s).o.length=3
 | [],_,s,h=>h
 |m::r,o,s,h=>zdB r _ _ (XJ _ _ _ (Yf _ _ _ h))
def zm9(r:Rul):Prop:=shR r∧zbz r
theorem zby{l:List Dcl}(h:shD l)(h2:zhS l):∀d∈l,okD d:=fun d hd=>by
 obtain⟨h3,h4,h5⟩:=h.2 d hd
 exact⟨by omega,⟨by omega,fun t ht=>by have:=h5 t ht;omega⟩,fun t ht=>h2.2 d hd t ht⟩
structure EcS where
 k:Nat
 s:Wst
 o:Int
 clk:Nat
theorem zsd{S:Sum Tryz.prog}{vf:Nat}{pr:Int}{tl:ByteArray→List Tok→Bool}(hV:VOK S vf pr tl)(p:Sh)(bx:Int)(B3 B4:Blk)(s:Wst)(ho:s.o.length=3)(ss:List (List Rul))(hl:ss.length≤4)(hs:∀l∈ss,l.length≤8∧∀r∈l,zm9 r):
  zx Tryz.prog 74 [z6 ss,.agg p.enc,.fn 75 doC] ⟨zW p.enc bx pr B3 B4 vf s [],9⟩ (.tup []) ⟨zW p.enc bx pr B3 B4 vf (ym tl bx p 0 0 ss s) [],1000000⟩:=by
 obtain⟨A,aF,aP,aV,aH⟩:=zwb hV p.enc bx B3 B4
 refine zx.walkL (Orc.econs A (Orc.cons X7 (Orc.cons Wc (Orc.nil _)))) zvS (by simp[c74]) fun w0 own0=> ?_
 generalize hR:ym tl bx p 0 0 ss s=R
 simp -implicitDefEqProofs only[c74,zW,Sh.enc,z6,doC,List.isEmpty_cons,List.isEmpty_nil,zc,zb,za,go_sem,seval,reduceIte,reduceCtorEq]
 refine zD.lp (α:=EcS) (fun x=>[(4,.ptr 9 9 0 0),(5,.ptr 10 10 0 0),(6,.ptr 11 11 0 0),(17,.slc 1 (ss.map shE)),(18,vi ss.length),(19,vi x.k)])
  (fun x=>⟨zW p.enc bx pr B3 B4 vf x.s [⟨9,6,[p.enc],false,[]⟩,⟨10,1,[[.fn 75 doC]],false,[]⟩,⟨11,1,[[vi x.o]],false,[]⟩],x.clk⟩)
  (fun x=>x.k≤ss.length∧x.s.o.length=3∧0≤x.o∧x.o≤x.k*1000∧x.clk≤12+x.k*20000∧ym tl bx p x.k x.o (ss.drop x.k) x.s=R) (fun x=>ss.length - x.k) ⟨0,s,0,12⟩ ⟨Nat.zero_le _,ho,by simp,by simp,by simp,hR⟩ (St.cut ?_ ?_ ?_) fun x hx=> ?_
 ·simp[zt,zo,zu]
 ·simp[zW,doC,Sh.enc]
 ·rfl
 clear hR ho
 obtain⟨i,s,o,clk⟩:=x
 obtain⟨g1,ho,g3,g4,g5,g2⟩:=hx
 simp only at g1 ho g2 g3 g4 g5
 by_cases he:i=ss.length
 ·subst he
  rw[List.drop_length]at g2
  simp only[ym]at g2
  subst g2
  simp -implicitDefEqProofs only[Int.lt_irrefl,zW,zc,zb,za,go_sem,seval,reduceIte,reduceCtorEq]
  exact⟨rfl,by omega⟩
 have f1:=eq_true (show(i:Int)<(ss.length:Int)by omega)
 have f0:=eq_true (show(0:Int)≤(i:Int)by omega)
 have hg:=fun z=>KN ss i z (by omega)
 obtain⟨hl8,hrr⟩:=hs _ (yv (d:=([]:List Rul)) (show i<ss.length by omega))
 have hdr:ss.drop i=ss.getD i []::ss.drop (i+1):=by rw[List.drop_eq_getElem_cons (by omega),List.getD_eq_getElem?_getD,List.getElem?_eq_getElem (by omega)];rfl
 rw[hdr]at g2
 simp only[ym]at g2
 clear hdr hs
 generalize ss.getD i []=l at*
 simp -implicitDefEqProofs only[f0,f1,hg,shE,zW,doC,Sh.enc,zc,zb,za,go_sem,seval,reduceIte,reduceCtorEq]
 generalize hR2:qU tl bx p i o l s=s2 at g2
 have hro:=zdB (tl:=tl) (bx:=bx) (p:=p) (n:=i) l o s ho
 rw[hR2]at hro
 refine zD.lp (α:=EcS) (fun x=>[(4,.ptr 9 9 0 0),(5,.ptr 10 10 0 0),(6,.ptr 11 11 0 0),(7,.ptr 12 clk 0 0),(17,.slc 1 (ss.map shE)),(18,vi ss.length),(19,vi i),(24,.slc 4 (l.map Rul.enc)),(25,vi l.length),(26,vi x.k)])
  (fun x=>⟨zW p.enc bx pr B3 B4 vf x.s [⟨9,6,[p.enc],false,[]⟩,⟨10,1,[[.fn 75 doC]],false,[]⟩,⟨11,1,[[vi x.o]],false,[]⟩,⟨clk,1,[[vi i]],false,[]⟩],x.clk⟩)
  (fun x=>x.k≤l.length∧x.s.o.length=3∧0≤x.o∧x.o≤i*1000+x.k*100∧x.clk≤13+i*20000+x.k*2000∧x.o+Q6 (l.drop x.k)=o+Q6 l∧qU tl bx p i x.o (l.drop x.k) x.s=s2) (fun x=>l.length - x.k) ⟨0,s,o,clk+1⟩ ⟨Nat.zero_le _,ho,g3,by simpa using g4,by dsimp only;omega,rfl,hR2⟩ (St.cut ?_ ?_ ?_) fun x hx=> ?_
 ·simp[zt,zo,yl]
 ·simp[zW,doC,Sh.enc]
 ·rfl
 clear hR2 ho
 obtain⟨j,s,o',clk'⟩:=x
 obtain⟨k1,ho,k3,k4,k5,k6,k2⟩:=hx
 simp only at k1 ho k2 k3 k4 k5 k6
 by_cases hj:j=l.length
 ·subst hj
  rw[List.drop_length]at k2 k6
  simp only[qU,Q6]at k2 k6
  subst k2
  have e9:=eq_false (show ¬(l.length:Int)<(l.length:Int)by omega)
  simp -implicitDefEqProofs only[e9,zW,doC,Sh.enc,zc,zb,za,go_sem,seval,reduceIte,reduceCtorEq]
  exact⟨⟨by omega,by omega⟩,⟨i+1,s,o',clk'⟩,⟨by dsimp only;omega,ho,k3,by dsimp only;omega,by dsimp only;omega,by dsimp only;rw[show((i+1:Nat):Int)=(i:Int)+1 by omega,show o'=o+Q6 l by omega];exact g2⟩,by dsimp only;omega,by dsimp only;omega,⟨rfl,rfl,rfl,rfl⟩,rfl⟩
 have j1:=eq_true (show(j:Int)<(l.length:Int)by omega)
 have j0:=eq_true (show(0:Int)≤(j:Int)by omega)
 have hgr:=fun z=>KM l j z (by omega)
 have hrj:=hrr _ (yv (d:=default) (show j<l.length by omega))
 have hdr:l.drop j=l.getD j default::l.drop (j+1):=by rw[List.drop_eq_getElem_cons (by omega),List.getD_eq_getElem?_getD,List.getElem?_eq_getElem (by omega)];rfl
 rw[hdr]at k2 k6
 simp only[qU,Q6]at k2 k6
 clear hdr hrr
 generalize l.getD j default=r at*
 obtain⟨hsh,hok⟩:=hrj
 have hd0:=zby hsh.2.1 hok.2.1
 have hm0:∀m∈r.ms,m.nm.size≤100∧m.ds.length≤8∧∀d∈m.ds,okD d:=fun m hm=>by
  obtain⟨h1,h2⟩:=hsh.2.2.2 m hm
  exact⟨h1,h2.1,zby h2 (hok.2.2 m hm)⟩
 have hd8:=hsh.2.1.1
 have hm8:=hsh.2.2.1
 have hAb:=eq_true hsh
 have ho1:=Yf (tl:=tl) (bx:=bx) (b:=(Zp r p).2) (n:=i) (w:=(Zp r p).1) (a:= -1) r.ds o' s ho
 rcases hab:Zp r p with⟨W,bb⟩
 rw[hab]at k2 ho1
 simp only at k2 ho1
 have pA:=fun C9 C13 vS vW vB c=>aP s C9 C13 [] c (-1) o' i vS vW vB W bb r.ds ho (by simp) k3 hd0 (by omega)
 have hA:=fun C9 C13 vS vW vB c=>aH s C9 C13 [] c (-1) o' i vS vW vB W bb r.ds
 generalize yi tl bx bb i W (-1) o' r.ds s=s1 at*
 obtain⟨kd,pre,ds,ms⟩:=r
 simp only at k2 k6 hd0 hm0 hd8 hm8 pA hA
 simp only[e1A,zW,eaR,doC,W3.enc,Sh.enc,Ky.enc]at pA hA
 simp -implicitDefEqProofs only[j0,j1,hgr,hAb,hab,zW,doC,Sh.enc,Rul.enc,W3.enc,Ky.enc,zsc,zH,Sh.eta',aF,aV,pA,hA,List.isEmpty_cons,List.isEmpty_nil,zc,zb,za,go_sem,seval,reduceIte,reduceCtorEq]
 clear pA hA
 generalize hR3:kg tl bx bb i W (o'+ds.length) ms s1=s3 at k2
 have hmo:=XJ (tl:=tl) (bx:=bx) (b:=bb) (n:=i) (w:=W) ms (o'+ds.length) s1 ho1
 rw[hR3]at hmo
 refine zD.lp (α:=EcS) (fun x=>[(4,.ptr 9 9 0 0),(5,.ptr 10 10 0 0),(6,.ptr 11 11 0 0),(7,.ptr 12 clk 0 0),(13,.fn 103 [.ptr 10 10 0 0,.ptr 12 clk 0 0,.ptr 14 (clk'+1) 0 0,.ptr 11 11 0 0,.ptr 15 (clk'+1+1) 0 0]),(17,.slc 1 (ss.map shE)),(18,vi ss.length),(19,vi i),(24,.slc 4 (l.map Rul.enc)),(25,vi l.length),(26,vi j),(42,.slc 2 (ms.map Mg.enc)),(43,vi ms.length),(44,vi x.k)])
  (fun x=>⟨zW p.enc bx pr B3 B4 vf x.s [⟨9,6,[p.enc],false,[]⟩,⟨10,1,[[.fn 75 doC]],false,[]⟩,⟨11,1,[[vi x.o]],false,[]⟩,⟨clk,1,[[vi i]],false,[]⟩,⟨clk',4,[Rul.enc ⟨kd,pre,ds,ms⟩],false,[]⟩,⟨clk'+1,3,[W.enc],false,[]⟩,⟨clk'+1+1,1,[[vb bb]],false,[]⟩],x.clk⟩)
  (fun x=>x.k≤ms.length∧x.s.o.length=3∧0≤x.o∧x.o≤o'+ds.length+x.k*8∧x.clk≤clk'+3+8*ds.length+x.k*70∧x.o+Z2 (ms.drop x.k)=o'+ds.length+Z2 ms∧kg tl bx bb i W x.o (ms.drop x.k) x.s=s3) (fun x=>ms.length - x.k) ⟨0,s1,o'+ds.length,clk'+1+1+1+8*ds.length⟩ ⟨Nat.zero_le _,ho1,by dsimp only;omega,by simp,by dsimp only;omega,rfl,hR3⟩ (St.cut ?_ ?_ ?_) fun x hx=> ?_
 ·simp[zt,zo,yl]
 ·simp[zW,doC,Sh.enc,Rul.enc,W3.enc,Ky.enc]
 ·rfl
 clear hR3 ho1
 obtain⟨q,s',oq,cq⟩:=x
 obtain⟨q1,hq,q3,q4,q5,q6,q2⟩:=hx
 simp only at q1 hq q2 q3 q4 q5 q6
 by_cases hqe:q=ms.length
 ·subst hqe
  rw[List.drop_length]at q2 q6
  simp only[kg,Z2]at q2 q6
  subst q2
  have e9:=eq_false (show ¬(ms.length:Int)<(ms.length:Int)by omega)
  simp -implicitDefEqProofs only[e9,zW,doC,Sh.enc,Ky.enc,zc,zb,za,go_sem,seval,reduceIte,reduceCtorEq]
  exact⟨⟨by omega,by omega⟩,⟨j+1,s',oq,cq⟩,⟨by dsimp only;omega,hq,q3,by dsimp only;omega,by dsimp only;omega,by dsimp only;omega,by dsimp only;rw[show oq=o'+ds.length+Z2 ms by omega];exact k2⟩,by dsimp only;omega,by dsimp only;omega,⟨⟨rfl,rfl,rfl,rfl,rfl⟩,rfl,rfl,rfl⟩,rfl⟩
 have m1:=eq_true (show(q:Int)<(ms.length:Int)by omega)
 have m0:=eq_true (show(0:Int)≤(q:Int)by omega)
 have hgm:=fun z=>zcW ms q z (by omega)
 obtain⟨hnm,hds8,hdm⟩:=hm0 _ (yv (d:=default) (show q<ms.length by omega))
 have hdr:ms.drop q=ms.getD q default::ms.drop (q+1):=by rw[List.drop_eq_getElem_cons (by omega),List.getD_eq_getElem?_getD,List.getElem?_eq_getElem (by omega)];rfl
 rw[hdr]at q2 q6
 simp only[kg,Z2]at q2 q6
 clear hdr hm0
 generalize ms.getD q default=m at*
 have ho2:=Yf (tl:=tl) (bx:=bx) (b:=bb) (n:=i) (w:=W) (a:=bxP m.nm) m.ds oq s' hq
 have pA:=fun C9 C13 vS vW vB c D=>aP s' C9 C13 [D] c (bxP m.nm) oq i vS vW vB W bb m.ds hq (by simp) q3 hdm (by omega)
 have hA:=fun C9 C13 vS vW vB c D=>aH s' C9 C13 [D] c (bxP m.nm) oq i vS vW vB W bb m.ds
 generalize yi tl bx bb i W (bxP m.nm) oq m.ds s'=s4 at*
 obtain⟨nm,md⟩:=m
 simp only at q2 q6 hnm hds8 hdm pA hA
 have hnm6:=eq_true (show nm.size≤1000000 by omega)
 simp only[e1A,zW,eaR,doC,W3.enc,Sh.enc,Ky.enc]at pA hA
 unfold bxP at pA hA
 by_cases hb0:bxN (zO nm)<0
 ·rw[if_pos hb0]at pA hA
  have hb0:=eq_true hb0
  simp -implicitDefEqProofs only[m0,m1,hgm,hnm6,hb0,zW,doC,Sh.enc,Rul.enc,Mg.enc,W3.enc,Ky.enc,aF,aV,pA,hA,List.isEmpty_cons,List.isEmpty_nil,zc,zb,za,go_sem,seval,reduceIte,reduceCtorEq]
  exact⟨⟨by omega,by omega⟩,⟨q+1,s4,oq+md.length,cq+1+8*md.length⟩,⟨by dsimp only;omega,ho2,by dsimp only;omega,by dsimp only;omega,by dsimp only;omega,by dsimp only;omega,q2⟩,by dsimp only;omega,by dsimp only;omega,⟨⟨rfl,rfl,rfl,rfl,rfl⟩,rfl,rfl,rfl⟩,rfl⟩
 ·rw[if_neg hb0]at pA hA
  have hb0:=eq_false hb0
  simp -implicitDefEqProofs only[m0,m1,hgm,hnm6,hb0,zW,doC,Sh.enc,Rul.enc,Mg.enc,W3.enc,Ky.enc,aF,aV,pA,hA,List.isEmpty_cons,List.isEmpty_nil,zc,zb,za,go_sem,seval,reduceIte,reduceCtorEq]
  exact⟨⟨by omega,by omega⟩,⟨q+1,s4,oq+md.length,cq+1+8*md.length⟩,⟨by dsimp only;omega,ho2,by dsimp only;omega,by dsimp only;omega,by dsimp only;omega,by dsimp only;omega,q2⟩,by dsimp only;omega,by dsimp only;omega,⟨⟨rfl,rfl,rfl,rfl,rfl⟩,rfl,rfl,rfl⟩,rfl⟩
def yF:Wst:=⟨⟨0,⟨0,0,0⟩,0⟩,[vs ⟨#[]⟩,zB,vb false],false⟩
def zag(s:Wst):Prop:=s=yF∨∃d k,s=⟨k,Dcl.enc d,true⟩
theorem zlr{tl:ByteArray→List Tok→Bool}{bx:Int}{b:Bool}{s:Wst}{a:Int}{d:Dcl}{k:Ky}(h:zag s):zag (qu tl bx b s a d k):=by
 unfold qu
 split
 ·exact .inr ⟨_,_,rfl⟩
 ·exact h
theorem Ql{tl:ByteArray→List Tok→Bool}{bx:Int}{b:Bool}{n:Int}{w:W3}{a:Int}:∀(l:List Dcl)(o:Int)(s:Wst),zag s→zag (yi tl bx b n w a o l s)
 | [],_,s,h=>h
 |d::r,o,s,h=>Ql r (o+1) _ (zlr h)
theorem XI{tl:ByteArray→List Tok→Bool}{bx:Int}{b:Bool}{n:Int}{w:W3}:∀(l:List Mg)(o:Int)(s:Wst),zag s→zag (kg tl bx b n w o l s)
 | [],_,s,h=>h
 |m::r,o,s,h=>XI r _ _ (Ql _ _ _ h)
theorem XY{tl:ByteArray→List Tok→Bool}{bx:Int}{p:Sh}{n:Int}:∀(l:List Rul)(o:Int)(s:Wst),zag s→zag (qU tl bx p n o l s)
 | [],_,s,h=>h
 |m::r,o,s,h=>XY r _ _ (XI _ _ _ (Ql _ _ _ h))
theorem Qu{tl:ByteArray→List Tok→Bool}{bx:Int}{p:Sh}:∀(t:List (List Rul))(n o:Int)(s:Wst),zag s→zag (ym tl bx p n o t s)
 | [],_,_,s,h=>h
 |l::t,n,o,s,h=>Qu t _ _ _ (XY _ _ _ h)
def z7(s:Wst):Dcl:=if s.b=true then zhv s.o else⟨⟨#[]⟩,[],false⟩
def qW(s:Wst):V:=.tup [.agg (Dcl.enc (z7 s)),.agg s.k.enc,vb s.b]
def kS(ss:List (List Rul)):Prop:=ss.length≤3∧∀l∈ss,l.length≤8∧∀r∈l,zm9 r
theorem zmd{S:Sum Tryz.prog}{vf:Nat}{pr:Int}{tl:ByteArray→List Tok→Bool}(hV:VOK S vf pr tl)(p:Sh)(bx:Int)(B3 B4:Blk)(ss:List (List Rul))(hs:kS ss):
  ∃A:ESum Tryz.prog,A.f=74∧A.pre [z6 ss,.agg p.enc,.fn 75 doC] ⟨zW p.enc bx pr B3 B4 vf yF [],9⟩∧(∀args h,A.v args h= .tup [])∧∀args h,A.hp args h=⟨zW p.enc bx pr B3 B4 vf (ym tl bx p 0 0 ss yF) [],1000000⟩:=
 ⟨⟨74,fun args h=>args= [z6 ss,.agg p.enc,.fn 75 doC]∧h=⟨zW p.enc bx pr B3 B4 vf yF [],9⟩,fun _ _=>.tup [],fun _ _=>⟨zW p.enc bx pr B3 B4 vf (ym tl bx p 0 0 ss yF) [],1000000⟩,fun args h hp=>by
   obtain⟨rfl,rfl⟩:=hp
   exact zsd hV p bx B3 B4 yF rfl ss (by have:=hs.1;omega) hs.2⟩,rfl,⟨rfl,rfl⟩,fun _ _=>rfl,fun _ _=>rfl⟩
def wB3:Blk:=⟨3,3,[[vs ⟨#[]⟩,zB,vb false]],false,[]⟩
def wB4:Blk:=⟨4,5,[[vi 0,vi 0,vi 0,vi 0,vi 0]],false,[]⟩
theorem zI(S:Nat→Bool)(h:Heap)(sz:Nat)(es:List (List V)):res S h 10 (.slc sz es)=some (.slc sz es):=rfl
theorem ztR{S:Sum Tryz.prog}{vf:Nat}{bx pr:Int}{tl:ByteArray→List Tok→Bool}(hV:VOK S vf pr tl)(p:Sh)(ss:List (List Rul))(hs:kS ss)(h0:0≤pr)
  (hc:bx= -1∧pr≤9∧vf=72∨0≤bx∧bx≤15∧pr≤3∧vf=73):
  ze Tryz.prog 35 [z6 ss,.agg p.enc,vi bx,vi pr] (.tup [.agg (ym tl bx p 0 0 ss yF).o,.agg (ym tl bx p 0 0 ss yF).k.enc,vb (ym tl bx p 0 0 ss yF).b]):=by
 obtain⟨A,aF,aP,aV,aH⟩:=zmd hV p bx wB3 wB4 ss hs
 have hi:=Qu (tl:=tl) (bx:=bx) (p:=p) ss 0 0 yF (.inl rfl)
 generalize ym tl bx p 0 0 ss yF=R at*
 have hs3:=hs.1
 refine ze.of (Orc.econs A (Orc.cons K7 (Orc.nil _))) zvv (by simp[c35]) fun w0 own0=> ?_
 have e1:=eq_false (show ¬(3:Int)<(ss.length:Int)by omega)
 have e2:=eq_false (show ¬pr<0 by omega)
 simp only[zW,yF,wB3,wB4,z6,Sh.enc,Ky.enc,doC]at aP
 simp only[zW,wB3,wB4,Sh.enc,Ky.enc]at aH
 rcases hc with⟨rfl,h9,rfl⟩|⟨b0,b15,h3,rfl⟩
 ·have e3:=eq_false (show ¬(10:Int)≤pr by omega)
  rcases hi with rfl|⟨d,k,rfl⟩
  ·simp -implicitDefEqProofs only[c35,z6,Sh.enc,Ky.enc,yF,e1,e2,e3,aF,aP,aV,aH,ju,bxW,List.map_cons,List.map_nil,List.length_cons,List.length_nil,List.isEmpty_cons,List.isEmpty_nil,zi,zI,zc,zb,za,go_sem,seval,reduceIte,reduceCtorEq]
  ·simp -implicitDefEqProofs only[c35,z6,Sh.enc,Ky.enc,Dcl.enc,e1,e2,e3,aF,aP,aV,aH,ju,bxW,List.map_cons,List.map_nil,List.length_cons,List.length_nil,List.isEmpty_cons,List.isEmpty_nil,zi,zI,zc,zb,za,go_sem,seval,reduceIte,reduceCtorEq]
 ·have e3:=eq_false (show ¬(4:Int)≤pr by omega)
  have e4:=eq_true b0
  have e5:=eq_false (show ¬bx< -1 by omega)
  have e6:=eq_false (show ¬(16:Int)≤bx by omega)
  rcases hi with rfl|⟨d,k,rfl⟩
  ·simp -implicitDefEqProofs only[c35,z6,Sh.enc,Ky.enc,yF,e1,e2,e3,e4,e5,e6,aF,aP,aV,aH,ju,bxW,List.map_cons,List.map_nil,List.length_cons,List.length_nil,List.isEmpty_cons,List.isEmpty_nil,zi,zI,zc,zb,za,go_sem,seval,reduceIte,reduceCtorEq]
  ·simp -implicitDefEqProofs only[c35,z6,Sh.enc,Ky.enc,Dcl.enc,e1,e2,e3,e4,e5,e6,aF,aP,aV,aH,ju,bxW,List.map_cons,List.map_nil,List.length_cons,List.length_nil,List.isEmpty_cons,List.isEmpty_nil,zi,zI,zc,zb,za,go_sem,seval,reduceIte,reduceCtorEq]
theorem zqg{S:Sum Tryz.prog}{vf:Nat}{bx pr:Int}{tl:ByteArray→List Tok→Bool}(hV:VOK S vf pr tl)(p:Sh)(ss:List (List Rul))(hs:kS ss)(h0:0≤pr)
  (hc:bx= -1∧pr≤9∧vf=72∨0≤bx∧bx≤15∧pr≤3∧vf=73):
  ze Tryz.prog 35 [z6 ss,.agg p.enc,vi bx,vi pr] (qW (ym tl bx p 0 0 ss yF)):=by
 have h:=ztR hV p ss hs h0 hc
 have hi:=Qu (tl:=tl) (bx:=bx) (p:=p) ss 0 0 yF (.inl rfl)
 generalize ym tl bx p 0 0 ss yF=R at*
 rcases hi with rfl|⟨d,k,rfl⟩
 ·refine ze.rsub h fun F w v hp=> ?_
  cases hp with
  |tup cs _ hl hx=>
   refine .tup cs _ hl fun i hi=> ?_
   have:=hx i hi
   match i,hi with
   |0,_=>exact Sub.prep 2 (.agg [vs ⟨#[]⟩,zB,vb false]) _ _ (show Sub 2 _ (.agg [vs ⟨#[]⟩,.slc 3 (([]:List Tok).map Tok.enc),vb false])from Or.inr ⟨Sub.rfl 1 _,Or.inr rfl,Sub.rfl 1 _,trivial⟩) this
   |1,_=>exact this
   |2,_=>exact this
 ·have e:qW ⟨k,Dcl.enc d,true⟩= .tup [.agg (Dcl.enc d),.agg k.enc,vb true]:=by
   unfold qW z7
   rw[if_pos rfl,qC]
  rw[e];exact h
theorem zp7(pr:Nat)(h:pr≤9):VOK WC 72 pr (Kx pr) where
 f:=rfl
 flat:=rfl
 D:=fun nm v imp hv=>by
  have e:qi (.agg [.c (.string nm),.slc 3 (v.map Tok.enc),.c (.bool imp)])=⟨nm,v,imp⟩:=qC ⟨nm,v,imp⟩
  show _=_∧_
  refine⟨?_,?_,?_,?_⟩
  ·show _= [vi pr,.agg (Dcl.enc (qi (.agg [.c (.string nm),.slc 3 (v.map Tok.enc),.c (.bool imp)])))]
   rw[e];rfl
  ·show(0:Int)≤(pr:Int);omega
  ·show(pr:Int)≤9;omega
  ·show okQ (qi (.agg [.c (.string nm),.slc 3 (v.map Tok.enc),.c (.bool imp)])).v
   rw[e];exact hv
 r:=fun nm v imp=>by
  have e:qi (.agg [.c (.string nm),.slc 3 (v.map Tok.enc),.c (.bool imp)])=⟨nm,v,imp⟩:=qC ⟨nm,v,imp⟩
  show vb (Kx pr (qi (.agg [.c (.string nm),.slc 3 (v.map Tok.enc),.c (.bool imp)])).nm (qi (.agg [.c (.string nm),.slc 3 (v.map Tok.enc),.c (.bool imp)])).v)=_
  rw[e]
 n1:=by decide
 n2:=by decide
def yG(ss:List (List Rul))(p:Sh)(pr:Nat):Wst:=ym (Kx pr) (-1) p 0 0 ss yF
theorem ztQ(ss:List (List Rul))(p:Sh)(pr:Nat)(hp:pr≤9)(hs:kS ss):ze Tryz.prog 35 [z6 ss,.agg p.enc,vi (-1),vi pr] (qW (yG ss p pr)):=
 zqg (zp7 pr hp) p ss hs (by omega) (.inl ⟨rfl,by omega,rfl⟩)
section
theorem zqe(ss:List (List Rul))(p:Sh)(pr:Int)(h0:0≤pr)(h9:pr≤9)(hs:kS ss):ze Tryz.prog 35 [z6 ss,.agg p.enc,vi (-1),vi pr] (qW (yG ss p pr.toNat)):=by
 have:=ztQ ss p pr.toNat (by omega) hs
 rwa [Int.toNat_of_nonneg h0]at this
def YX:Sum Tryz.prog:=⟨35,fun args=>args= [z6 (zY (args.getD 0 .any)),.agg (Sh.enc (yd (args.getD 1 .any))),vi (-1),vi ((args.getD 3 .any).int)]∧kS (zY (args.getD 0 .any))∧0≤((args.getD 3 .any).int)∧((args.getD 3 .any).int)≤9,fun args=>qW (yG (zY (args.getD 0 .any)) (yd (args.getD 1 .any)) (((args.getD 3 .any).int)).toNat),fun args h=>by
 have:=zqe (zY (args.getD 0 .any)) (yd (args.getD 1 .any)) ((args.getD 3 .any).int) h.2.2.1 h.2.2.2 h.2.1;rwa [←h.1]at this,false⟩
theorem zkF:YX.f=35:=rfl
theorem zkE(args:List V):YX.D args=(args= [z6 (zY (args.getD 0 .any)),.agg (Sh.enc (yd (args.getD 1 .any))),vi (-1),vi ((args.getD 3 .any).int)]∧kS (zY (args.getD 0 .any))∧0≤((args.getD 3 .any).int)∧((args.getD 3 .any).int)≤9):=rfl
theorem zca:YX.flat=false:=rfl
theorem zkG(args:List V):YX.r args=qW (yG (zY (args.getD 0 .any)) (yd (args.getD 1 .any)) (((args.getD 3 .any).int)).toNat):=rfl
attribute [go_sem] zkF zkE zca zkG
def WL(tl:ByteArray→List Tok→Bool)(s:Wst):Prop:=s=yF∨∃d k,s=⟨k,Dcl.enc d,true⟩∧okQ d.v∧tl d.nm d.v=true
section
variable {tl:ByteArray→List Tok→Bool} {bx:Int}
theorem zls{b:Bool}{s:Wst}{a:Int}{d:Dcl}{k:Ky}(hd:okD d)(h:WL tl s):WL tl (qu tl bx b s a d k):=by
 unfold qu
 split
 ·rename_i hc;exact .inr ⟨_,_,rfl,hd.2,hc.2.2.1⟩
 ·exact h
theorem Qm{b:Bool}{n:Int}{w:W3}{a:Int}:∀(l:List Dcl)(o:Int)(s:Wst),(∀d∈l,okD d)→WL tl s→WL tl (yi tl bx b n w a o l s)
 | [],_,s,_,h=>h
 |d::r,o,s,hd,h=>Qm r (o+1) _ (fun x hx=>hd x (by simp[hx])) (zls (hd d (by simp)) h)
theorem XK{b:Bool}{n:Int}{w:W3}:∀(l:List Mg)(o:Int)(s:Wst),(∀m∈l,∀d∈m.ds,okD d)→WL tl s→WL tl (kg tl bx b n w o l s)
 | [],_,s,_,h=>h
 |m::r,o,s,hd,h=>XK r _ _ (fun x hx=>hd x (by simp[hx])) (Qm _ _ _ (hd m (by simp)) h)
theorem zna{r:Rul}(h:zm9 r):(∀d∈r.ds,okD d)∧∀m∈r.ms,∀d∈m.ds,okD d:=
 ⟨zby h.1.2.1 h.2.2.1,fun m hm=>zby (h.1.2.2.2 m hm).2 (h.2.2.2 m hm)⟩
theorem XZ{p:Sh}{n:Int}:∀(l:List Rul)(o:Int)(s:Wst),(∀r∈l,zm9 r)→WL tl s→WL tl (qU tl bx p n o l s)
 | [],_,s,_,h=>h
 |m::r,o,s,hr,h=>XZ r _ _ (fun x hx=>hr x (by simp[hx])) (XK _ _ _ (zna (hr m (by simp))).2 (Qm _ _ _ (zna (hr m (by simp))).1 h))
theorem Qv{p:Sh}:∀(t:List (List Rul))(n o:Int)(s:Wst),(∀l∈t,∀r∈l,zm9 r)→WL tl s→WL tl (ym tl bx p n o t s)
 | [],_,_,s,_,h=>h
 |l::t,n,o,s,hr,h=>Qv t _ _ _ (fun x hx=>hr x (by simp[hx])) (XZ _ _ _ (hr l (by simp)) h)
theorem zrf{s:Wst}(h:WL tl s):okQ (z7 s).v∧(s.b=true→tl (z7 s).nm (z7 s).v=true):=by
 rcases h with rfl|⟨d,k,rfl,h1,h2⟩
 ·exact⟨⟨⟨by decide,fun t ht=>by cases ht⟩,fun t ht=>by cases ht⟩,fun h=>by cases h⟩
 ·have e:z7 ⟨k,Dcl.enc d,true⟩=d:=by unfold z7;rw[if_pos rfl,qC]
  rw[e];exact⟨h1,fun _=>h2⟩
end
theorem jz(ss:List (List Rul))(p:Sh)(pr:Nat)(hs:kS ss):okQ (z7 (yG ss p pr)).v∧((yG ss p pr).b=true→Kx pr (z7 (yG ss p pr)).nm (z7 (yG ss p pr)).v=true):=
 zrf (Qv ss 0 0 yF (fun l hl r hr=>(hs.2 l hl).2 r hr) (.inl rfl))
theorem zD.lp2{cx:Cx}{e:Nat→V}{h:Heap}{Q:z4}{c:C}{α:Type}(st:α→List (Nat×V))(hp:α→Heap)(ok:α→Prop)(μ:α→Nat)(a0:α)(h0:ok a0)(start:St cx (st a0) (hp a0) e h)(fin:α→Prop)
  (round:∀a,ok a→¬fin a→∀Q',wpC cx c (lpQ cx st hp ok μ a Q') (ev (st a)) (hp a)) (last:∀a,ok a→fin a→wpC cx c (lpQ cx st hp ok μ a Q) (ev (st a)) (hp a)):zD cx (.loop c) Q e h:=
 zD.lp st hp ok μ a0 h0 start fun a ha=>by
  by_cases hf:fin a
  ·exact last a ha hf
  ·exact round a ha hf Q
def X6(u:Int)(v:List Tok):V:=Yt (((spO u v).getD []).map toS)
def pgB(ss:List (List Rul))(p:Sh)(B2 B3 B4:Blk):List Blk:=[⟨0,1,[[z6 ss]],false,[]⟩,⟨1,6,[p.enc],false,[]⟩,B2,B3,B4]
theorem znh(ss:List (List Rul))(p:Sh)(hs:kS ss)(B2 B3 B4:Blk)(clk:Nat)(pr u:Int)(h0:0≤pr)(h9:pr≤9):
  zx Tryz.prog 37 [vi pr,vi u,.ptr 0 0 0 0,.ptr 1 1 0 0] ⟨pgB ss p B2 B3 B4,clk⟩ (X6 u (z7 (yG ss p pr.toNat)).v) ⟨pgB ss p B2 B3 B4,clk+10⟩:=by
 refine zx.walkL (Orc.cons YX (Orc.cons Jf (Orc.nil _))) zvx (by simp[c37]) fun w0 own0=> ?_
 have hq:=(jz ss p pr.toNat hs).1
 have hpr:(pr).toNat=pr.toNat:=rfl
 generalize hW:yG ss p pr.toNat=s at*
 unfold X6
 generalize hD:z7 s=d at*
 obtain⟨nm,v,imp⟩:=d
 simp only at hq
 simp -implicitDefEqProofs only[c37,pgB,z6,Sh.enc,Ky.enc,Dcl.enc,h0,h9,hs,hW,hD,hq,qW,spV,Yt,zk,zE,zH,Sh.eta',zh,List.isEmpty_cons,List.isEmpty_nil,zc,zb,za,go_sem,seval,reduceIte,reduceCtorEq]
 omega
structure Pg1OK (A:ESum Tryz.prog) (ss:List (List Rul)) (p:Sh):Prop where
 f:A.f=37
 pre:∀B2 B3 B4 clk(pr u:Int),0≤pr→pr≤9→A.pre [.c (.int .i64 pr),.c (.int .i64 u),.ptr 0 0 0 0,.ptr 1 1 0 0] ⟨pgB ss p B2 B3 B4,clk⟩
 v:∀(pr u:Int) h,A.v [.c (.int .i64 pr),.c (.int .i64 u),.ptr 0 0 0 0,.ptr 1 1 0 0] h=X6 u (z7 (yG ss p pr.toNat)).v
 hp:∀args h,A.hp args h=⟨h.bs,h.clk+10⟩
theorem zs1(ss:List (List Rul))(p:Sh)(hs:kS ss):∃A:ESum Tryz.prog,Pg1OK A ss p:=by
 refine⟨⟨37,fun args h=>∃(B2 B3 B4:Blk)(clk:Nat)(pr u:Int),0≤pr∧pr≤9∧args= [.c (.int .i64 pr),.c (.int .i64 u),.ptr 0 0 0 0,.ptr 1 1 0 0]∧h=⟨pgB ss p B2 B3 B4,clk⟩,fun args _=>X6 (args.getD 1 .any).int (z7 (yG ss p (args.getD 0 .any).int.toNat)).v,fun _ h=>⟨h.bs,h.clk+10⟩,fun args h hp=> ?_⟩,rfl,
  fun B2 B3 B4 clk pr u h1 h2=>⟨B2,B3,B4,clk,pr,u,h1,h2,rfl,rfl⟩,fun _ _ _=>rfl,fun _ _=>rfl⟩
 obtain⟨B2,B3,B4,clk,pr,u,h1,h2,rfl,rfl⟩:=hp
 exact znh ss p hs B2 B3 B4 clk pr u h1 h2
def ziV:ByteArray:=⟨#[98,108,97,99,107]⟩
def szS(s:Wst):Int×Int:=if s.b=true then(X2 (kpT (z7 s).v)).getD (0,0)else(793700,1122519)
def ZG(s:Wst)(k:Nat):Int:=if s.b=true then(if(z7 s).nm=zfJ then((QZ (z7 s).v).getD []).getD k 0 else(qT (z7 s).v).getD 0)else 48000
def zbd(s:Wst)(d:ByteArray):ByteArray:=if s.b=true then(qp (z7 s).v).getD ⟨#[]⟩else d
def zbs(s:Wst)(d:Int):Int:=if s.b=true then(qT (z7 s).v).getD 0 else d
def Qr(M:Nat→Int):Nat→List V
 |0=>[vi 0,vi 0,vi 0,vi 0]
 |1=>[vi (M 0),vi 0,vi 0,vi 0]
 |2=>[vi (M 0),vi (M 1),vi 0,vi 0]
 |3=>[vi (M 0),vi (M 1),vi (M 2),vi 0]
 |_=>[vi (M 0),vi (M 1),vi (M 2),vi (M 3)]
def XQ(ss:List (List Rul))(p:Sh):List V:=
 [vi (szS (yG ss p 0)).1,vi (szS (yG ss p 0)).2,vi (ZG (yG ss p 1) 0),vi (ZG (yG ss p 2) 1),vi (ZG (yG ss p 3) 2),vi (ZG (yG ss p 4) 3),
   X6 0 (z7 (yG ss p 5)).v,X6 1 (z7 (yG ss p 6)).v,X6 0 (z7 (yG ss p 7)).v,vs (zbd (yG ss p 8) ziV),vi (zbs (yG ss p 9) 16000)]
structure PgS where
 k:Nat
 clk:Nat
theorem zs0(ss:List (List Rul))(p:Sh)(hs:kS ss):ze Tryz.prog 12 [z6 ss,.agg p.enc] (.tup [.agg (XQ ss p),vi 0]):=by
 obtain⟨A,aF,aP,aV,aH⟩:=zs1 ss p hs
 have hs3:=hs.1
 have e1:=eq_false (show ¬(3:Int)<(ss.length:Int)by omega)
 have hm:Y8 ⟨#[97,52]⟩=some (793700,1122519):=rfl
 simp only[pgB,z6,Sh.enc]at aP
 refine ze.of (Orc.econs A (Orc.cons Jb (Orc.cons YX (Orc.cons Je (Orc.cons Qz (Orc.cons Qy (Orc.cons Qx (Orc.cons YC (Orc.nil _))))))))) zva (by simp[c12]) fun w0 own0=> ?_
 have hq0:=jz ss p 0 hs
 have hq1:=jz ss p 1 hs
 have hq2:=jz ss p 2 hs
 have hq3:=jz ss p 3 hs
 have hq4:=jz ss p 4 hs
 have hq8:=jz ss p 8 hs
 have hq9:=jz ss p 9 hs
 unfold XQ
 generalize hW0:yG ss p 0=s0 at*
 generalize hW1:yG ss p 1=s1 at*
 generalize hW2:yG ss p 2=s2 at*
 generalize hW3:yG ss p 3=s3 at*
 generalize hW4:yG ss p 4=s4 at*
 generalize hW5:X6 0 (z7 (yG ss p 5)).v=v5 at*
 generalize hW6:X6 1 (z7 (yG ss p 6)).v=v6 at*
 generalize hW7:X6 0 (z7 (yG ss p 7)).v=v7 at*
 generalize hW8:yG ss p 8=s8 at*
 generalize hW9:yG ss p 9=s9 at*
 have hM:∃M:Nat→Int,M 0=ZG s1 0∧M 1=ZG s2 1∧M 2=ZG s3 2∧M 3=ZG s4 3:=⟨fun i=>match i with|0=>ZG s1 0|1=>ZG s2 1|2=>ZG s3 2|_=>ZG s4 3,rfl,rfl,rfl,rfl⟩
 obtain⟨M,hM0,hM1,hM2,hM3⟩:=hM
 rw[←hM0,←hM1,←hM2,←hM3]
 have a5:=fun B2 B3 B4 clk=>eq_true (aP B2 B3 B4 clk 5 0 (by omega) (by omega))
 have a6:=fun B2 B3 B4 clk=>eq_true (aP B2 B3 B4 clk 6 1 (by omega) (by omega))
 have a7:=fun B2 B3 B4 clk=>eq_true (aP B2 B3 B4 clk 7 0 (by omega) (by omega))
 have b5:=fun h=>(aV 5 0 h).trans hW5
 have b6:=fun h=>(aV 6 1 h).trans hW6
 have b7:=fun h=>(aV 7 0 h).trans hW7
 obtain⟨x5,rfl⟩:∃x,v5= .slc 3 x:=⟨_,hW5.symm⟩
 obtain⟨x6,rfl⟩:∃x,v6= .slc 3 x:=⟨_,hW6.symm⟩
 obtain⟨x7,rfl⟩:∃x,v7= .slc 3 x:=⟨_,hW7.symm⟩
 clear aP aV hW5 hW6 hW7
 have hq0v:=hq0.1.1
 generalize hZ:szS s0=z at*
 generalize hD0:z7 s0=d0 at*
 obtain⟨n0,v0,i0⟩:=d0
 simp only at hq0v
 have hkz:=zhT hq0v
 have hz:(s0.b=false∧z=(793700,1122519))∨(s0.b=true∧z=(X2 (kpT v0)).getD (0,0)):=by
  rw[←hZ];unfold szS;rw[hD0]
  cases s0.b with
  |false=>exact .inl ⟨rfl,rfl⟩
  |true=>exact .inr ⟨rfl,rfl⟩
 clear hZ hq0
 rcases hz with⟨hb0,hz⟩|⟨hb0,hz⟩
 case' inl=>simp -implicitDefEqProofs only[c12,hm,e1,hW0,hb0,hD0,hq0v,pps,Zf,Option.map_some,Option.getD_some,hs,aF,aH,z6,Sh.enc,Ky.enc,Dcl.enc,qW,zk,zE,zH,Sh.eta',zh,List.isEmpty_cons,List.isEmpty_nil,zi,zI,List.cons_append,List.nil_append,zc,zb,za,go_sem,seval,reduceIte,reduceCtorEq]
 case' inr=>simp -implicitDefEqProofs only[c12,hm,e1,hW0,hb0,hD0,hkz,W4,pps,Zf,Option.map_some,Option.getD_some,hs,aF,aH,z6,Sh.enc,Ky.enc,Dcl.enc,qW,zk,zE,zH,Sh.eta',zh,List.isEmpty_cons,List.isEmpty_nil,zi,zI,List.cons_append,List.nil_append,zc,zb,za,go_sem,seval,reduceIte,reduceCtorEq]
 all_goals
  refine zD.lp2 (α:=PgS) (fun x=>[(2,.ptr 0 0 0 0),(3,.ptr 1 1 0 0),(4,.ptr 2 2 0 0),(7,.ptr 4 4 0 0),(52,vi x.k)])
   (fun x=>⟨[⟨0,1,[[.slc 1 (ss.map shE)]],false,[]⟩,⟨1,6,[p.enc],false,[]⟩,⟨2,11,[[vi 0,vi 0,vi 0,vi 0,vi 0,vi 0,zB,zB,zB,vs ⟨#[]⟩,vi 0]],false,[]⟩,⟨3,2,[[vi 793700,vi 1122519]],false,[]⟩,
     ⟨4,11,[vi z.1::vi z.2::(Qr M x.k++ [zB,zB,zB,vs ziV,vi 16000])],false,[]⟩],x.clk⟩) (fun x=>x.k≤4) (fun x=>4 - x.k) ⟨0,7⟩ (Nat.zero_le _) (St.cut ?_ ?_ ?_) (fun x=>x.k=4) (fun x hx hf Q'=> ?_) fun x hx hf=> ?_
  ·simp[zt,zo,yl]
  ·simp[hz,Sh.enc,Qr,ziV]
  ·rfl
  all_goals clear hz hb0 hkz hq0v hD0
  obtain⟨k,clk⟩:=x
  simp only at hx hf
  rcases(show k=0∨k=1∨k=2∨k=3 by omega)with rfl|rfl|rfl|rfl
  ·obtain⟨hq,hv⟩:=hq1
   have hqT:=hq.1
   unfold ZG at hM0
   generalize hD:z7 s1=d at*
   obtain⟨nm,v,im⟩:=d
   simp only at hq hqT hv hM0
   cases hb:s1.b with
   |false=>
    rw[if_neg (by rw[hb];simp)]at hM0
    simp -implicitDefEqProofs only[hW1,hb,hD,hM0,Qr,Int.cast_ofNat_Int,Int.natCast_zero,Int.natCast_one,hs,aF,aH,z6,Sh.enc,Ky.enc,Dcl.enc,qW,zk,zE,zH,Sh.eta',zh,List.isEmpty_cons,List.isEmpty_nil,zi,zI,List.cons_append,List.nil_append,zc,zb,za,go_sem,seval,reduceIte,reduceCtorEq]
    exact⟨⟨1,_⟩,by dsimp only;omega,by dsimp only;omega,rfl,rfl,rfl⟩
   |true=>
    rw[if_pos hb]at hM0
    have hv:=hv hb
    by_cases hn:nm=zfJ
    ·rw[if_pos hn]at hM0
     unfold Kx at hv
     rw[if_pos ⟨by omega,by omega,hn⟩]at hv
     cases hL:QZ v with
     |none=>rw[hL]at hv;cases hv
     |some l=>
      have h4:=Za hL
      rw[hL,Option.getD_some]at hM0
      have hg:=ya l 0
      have hlt:=eq_true (show(0:Int)<(l.length:Int)by omega)
      have hn:=eq_true (show nm=⟨#[109,97,114,103,105,110]⟩from hn)
      simp -implicitDefEqProofs only[hW1,hb,hD,hM0,hn,hqT,hL,hg,hlt,JN,zJ,zR,Option.getD_some,Option.isSome_some,Qr,Int.cast_ofNat_Int,Int.natCast_zero,Int.natCast_one,hs,aF,aH,z6,Sh.enc,Ky.enc,Dcl.enc,qW,zk,zE,zH,Sh.eta',zh,List.isEmpty_cons,List.isEmpty_nil,zi,zI,List.cons_append,List.nil_append,zc,zb,za,go_sem,seval,reduceIte,reduceCtorEq]
      exact⟨⟨1,_⟩,by dsimp only;omega,by dsimp only;omega,rfl,rfl,rfl⟩
    ·rw[if_neg hn]at hM0
     have hn:=eq_false (show ¬nm=⟨#[109,97,114,103,105,110]⟩from hn)
     simp -implicitDefEqProofs only[hW1,hb,hD,hM0,hn,hqT,Zv,Qr,Int.cast_ofNat_Int,Int.natCast_zero,Int.natCast_one,hs,aF,aH,z6,Sh.enc,Ky.enc,Dcl.enc,qW,zk,zE,zH,Sh.eta',zh,List.isEmpty_cons,List.isEmpty_nil,zi,zI,List.cons_append,List.nil_append,zc,zb,za,go_sem,seval,reduceIte,reduceCtorEq]
     exact⟨⟨1,_⟩,by dsimp only;omega,by dsimp only;omega,rfl,rfl,rfl⟩
  ·obtain⟨hq,hv⟩:=hq2
   have hqT:=hq.1
   unfold ZG at hM1
   generalize hD:z7 s2=d at*
   obtain⟨nm,v,im⟩:=d
   simp only at hq hqT hv hM1
   cases hb:s2.b with
   |false=>
    rw[if_neg (by rw[hb];simp)]at hM1
    simp -implicitDefEqProofs only[hW2,hb,hD,hM1,Qr,Int.cast_ofNat_Int,Int.natCast_zero,Int.natCast_one,hs,aF,aH,z6,Sh.enc,Ky.enc,Dcl.enc,qW,zk,zE,zH,Sh.eta',zh,List.isEmpty_cons,List.isEmpty_nil,zi,zI,List.cons_append,List.nil_append,zc,zb,za,go_sem,seval,reduceIte,reduceCtorEq]
    exact⟨⟨2,_⟩,by dsimp only;omega,by dsimp only;omega,rfl,rfl,rfl⟩
   |true=>
    rw[if_pos hb]at hM1
    have hv:=hv hb
    by_cases hn:nm=zfJ
    ·rw[if_pos hn]at hM1
     unfold Kx at hv
     rw[if_pos ⟨by omega,by omega,hn⟩]at hv
     cases hL:QZ v with
     |none=>rw[hL]at hv;cases hv
     |some l=>
      have h4:=Za hL
      rw[hL,Option.getD_some]at hM1
      have hg:=ya l 1
      have hlt:=eq_true (show(1:Int)<(l.length:Int)by omega)
      have hn:=eq_true (show nm=⟨#[109,97,114,103,105,110]⟩from hn)
      simp -implicitDefEqProofs only[hW2,hb,hD,hM1,hn,hqT,hL,hg,hlt,JN,zJ,zR,Option.getD_some,Option.isSome_some,Qr,Int.cast_ofNat_Int,Int.natCast_zero,Int.natCast_one,hs,aF,aH,z6,Sh.enc,Ky.enc,Dcl.enc,qW,zk,zE,zH,Sh.eta',zh,List.isEmpty_cons,List.isEmpty_nil,zi,zI,List.cons_append,List.nil_append,zc,zb,za,go_sem,seval,reduceIte,reduceCtorEq]
      exact⟨⟨2,_⟩,by dsimp only;omega,by dsimp only;omega,rfl,rfl,rfl⟩
    ·rw[if_neg hn]at hM1
     have hn:=eq_false (show ¬nm=⟨#[109,97,114,103,105,110]⟩from hn)
     simp -implicitDefEqProofs only[hW2,hb,hD,hM1,hn,hqT,Zv,Qr,Int.cast_ofNat_Int,Int.natCast_zero,Int.natCast_one,hs,aF,aH,z6,Sh.enc,Ky.enc,Dcl.enc,qW,zk,zE,zH,Sh.eta',zh,List.isEmpty_cons,List.isEmpty_nil,zi,zI,List.cons_append,List.nil_append,zc,zb,za,go_sem,seval,reduceIte,reduceCtorEq]
     exact⟨⟨2,_⟩,by dsimp only;omega,by dsimp only;omega,rfl,rfl,rfl⟩
  ·obtain⟨hq,hv⟩:=hq3
   have hqT:=hq.1
   unfold ZG at hM2
   generalize hD:z7 s3=d at*
   obtain⟨nm,v,im⟩:=d
   simp only at hq hqT hv hM2
   cases hb:s3.b with
   |false=>
    rw[if_neg (by rw[hb];simp)]at hM2
    simp -implicitDefEqProofs only[hW3,hb,hD,hM2,Qr,Int.cast_ofNat_Int,Int.natCast_zero,Int.natCast_one,hs,aF,aH,z6,Sh.enc,Ky.enc,Dcl.enc,qW,zk,zE,zH,Sh.eta',zh,List.isEmpty_cons,List.isEmpty_nil,zi,zI,List.cons_append,List.nil_append,zc,zb,za,go_sem,seval,reduceIte,reduceCtorEq]
    exact⟨⟨3,_⟩,by dsimp only;omega,by dsimp only;omega,rfl,rfl,rfl⟩
   |true=>
    rw[if_pos hb]at hM2
    have hv:=hv hb
    by_cases hn:nm=zfJ
    ·rw[if_pos hn]at hM2
     unfold Kx at hv
     rw[if_pos ⟨by omega,by omega,hn⟩]at hv
     cases hL:QZ v with
     |none=>rw[hL]at hv;cases hv
     |some l=>
      have h4:=Za hL
      rw[hL,Option.getD_some]at hM2
      have hg:=ya l 2
      have hlt:=eq_true (show(2:Int)<(l.length:Int)by omega)
      have hn:=eq_true (show nm=⟨#[109,97,114,103,105,110]⟩from hn)
      simp -implicitDefEqProofs only[hW3,hb,hD,hM2,hn,hqT,hL,hg,hlt,JN,zJ,zR,Option.getD_some,Option.isSome_some,Qr,Int.cast_ofNat_Int,Int.natCast_zero,Int.natCast_one,hs,aF,aH,z6,Sh.enc,Ky.enc,Dcl.enc,qW,zk,zE,zH,Sh.eta',zh,List.isEmpty_cons,List.isEmpty_nil,zi,zI,List.cons_append,List.nil_append,zc,zb,za,go_sem,seval,reduceIte,reduceCtorEq]
      exact⟨⟨3,_⟩,by dsimp only;omega,by dsimp only;omega,rfl,rfl,rfl⟩
    ·rw[if_neg hn]at hM2
     have hn:=eq_false (show ¬nm=⟨#[109,97,114,103,105,110]⟩from hn)
     simp -implicitDefEqProofs only[hW3,hb,hD,hM2,hn,hqT,Zv,Qr,Int.cast_ofNat_Int,Int.natCast_zero,Int.natCast_one,hs,aF,aH,z6,Sh.enc,Ky.enc,Dcl.enc,qW,zk,zE,zH,Sh.eta',zh,List.isEmpty_cons,List.isEmpty_nil,zi,zI,List.cons_append,List.nil_append,zc,zb,za,go_sem,seval,reduceIte,reduceCtorEq]
     exact⟨⟨3,_⟩,by dsimp only;omega,by dsimp only;omega,rfl,rfl,rfl⟩
  ·obtain⟨hq,hv⟩:=hq4
   have hqT:=hq.1
   unfold ZG at hM3
   generalize hD:z7 s4=d at*
   obtain⟨nm,v,im⟩:=d
   simp only at hq hqT hv hM3
   cases hb:s4.b with
   |false=>
    rw[if_neg (by rw[hb];simp)]at hM3
    simp -implicitDefEqProofs only[hW4,hb,hD,hM3,Qr,Int.cast_ofNat_Int,Int.natCast_zero,Int.natCast_one,hs,aF,aH,z6,Sh.enc,Ky.enc,Dcl.enc,qW,zk,zE,zH,Sh.eta',zh,List.isEmpty_cons,List.isEmpty_nil,zi,zI,List.cons_append,List.nil_append,zc,zb,za,go_sem,seval,reduceIte,reduceCtorEq]
    exact⟨⟨4,_⟩,by dsimp only;omega,by dsimp only;omega,rfl,rfl,rfl⟩
   |true=>
    rw[if_pos hb]at hM3
    have hv:=hv hb
    by_cases hn:nm=zfJ
    ·rw[if_pos hn]at hM3
     unfold Kx at hv
     rw[if_pos ⟨by omega,by omega,hn⟩]at hv
     cases hL:QZ v with
     |none=>rw[hL]at hv;cases hv
     |some l=>
      have h4:=Za hL
      rw[hL,Option.getD_some]at hM3
      have hg:=ya l 3
      have hlt:=eq_true (show(3:Int)<(l.length:Int)by omega)
      have hn:=eq_true (show nm=⟨#[109,97,114,103,105,110]⟩from hn)
      simp -implicitDefEqProofs only[hW4,hb,hD,hM3,hn,hqT,hL,hg,hlt,JN,zJ,zR,Option.getD_some,Option.isSome_some,Qr,Int.cast_ofNat_Int,Int.natCast_zero,Int.natCast_one,hs,aF,aH,z6,Sh.enc,Ky.enc,Dcl.enc,qW,zk,zE,zH,Sh.eta',zh,List.isEmpty_cons,List.isEmpty_nil,zi,zI,List.cons_append,List.nil_append,zc,zb,za,go_sem,seval,reduceIte,reduceCtorEq]
      exact⟨⟨4,_⟩,by dsimp only;omega,by dsimp only;omega,rfl,rfl,rfl⟩
    ·rw[if_neg hn]at hM3
     have hn:=eq_false (show ¬nm=⟨#[109,97,114,103,105,110]⟩from hn)
     simp -implicitDefEqProofs only[hW4,hb,hD,hM3,hn,hqT,Zv,Qr,Int.cast_ofNat_Int,Int.natCast_zero,Int.natCast_one,hs,aF,aH,z6,Sh.enc,Ky.enc,Dcl.enc,qW,zk,zE,zH,Sh.eta',zh,List.isEmpty_cons,List.isEmpty_nil,zi,zI,List.cons_append,List.nil_append,zc,zb,za,go_sem,seval,reduceIte,reduceCtorEq]
     exact⟨⟨4,_⟩,by dsimp only;omega,by dsimp only;omega,rfl,rfl,rfl⟩
  ·obtain⟨k,clk⟩:=x
   simp only at hf
   subst hf
   obtain⟨hq8,_⟩:=hq8
   obtain⟨hq9,_⟩:=hq9
   unfold zbd zbs
   generalize hD8:z7 s8=d8 at*
   generalize hD9:z7 s9=d9 at*
   obtain⟨m8,v8,j8⟩:=d8
   obtain⟨m9,v9,j9⟩:=d9
   simp only at hq8 hq9
   have hq8:=hq8.1
   have hq9:=hq9.1
   cases hb8:s8.b<;>cases hb9:s9.b
   all_goals simp -implicitDefEqProofs only[a5,a6,a7,b5,b6,b7,hW8,hW9,hb8,hb9,hD8,hD9,hq8,hq9,zfn,zbO,ziV,Qr,if_true,Bool.false_eq_true,if_false,hs,aF,aH,z6,Sh.enc,Ky.enc,Dcl.enc,qW,zk,zE,zH,Sh.eta',zh,List.isEmpty_cons,List.isEmpty_nil,zi,zI,List.cons_append,List.nil_append,zc,zb,za,go_sem,seval,reduceIte,reduceCtorEq]
end

def YO:Sum Tryz.prog:=⟨8,fun args=>args= [],fun args=>vb true,fun args h=>by
 have:=zlA;rwa [←h]at this,true⟩
theorem zjM:YO.f=8:=rfl
theorem zjL(args:List V):YO.D args=(args= []):=rfl
theorem zbT:YO.flat=true:=rfl
theorem zjN(args:List V):YO.r args=vb true:=rfl
attribute [go_sem] zjM zjL zbT zjN
def zto(L:List V):Prop:=∃(w h m0 m1 m2 m3 f:Int)(a b c:List Stp)(col:ByteArray),L= [vi w,vi h,vi m0,vi m1,vi m2,vi m3,Yt a,Yt b,Yt c,vs col,vi f]∧zf2 a∧zf2 b∧zf2 c
theorem zjE{L:List V}(h:zto L):ze Tryz.prog 13 [.agg L,.agg L] (vb true):=by
 obtain⟨w,h,m0,m1,m2,m3,f,a,b,c,col,rfl,h1,h2,h3⟩:=h
 refine ze.of (Orc.cons Wz (Orc.nil _)) zvc (by simp[c13]) fun w0 own0=> ?_
 simp -implicitDefEqProofs only[c13,Yt,h1,h2,h3,ziz,List.isEmpty_cons,List.isEmpty_nil,zc,zb,za,go_sem,seval,reduceIte,reduceCtorEq]
def YD:Sum Tryz.prog:=⟨13,fun args=>∃L,args= [.agg L,.agg L]∧zto L,fun _=>vb true,fun args h=>(by obtain⟨L,rfl,h⟩:=h;exact zjE h),true⟩
theorem zgS:YD.f=13:=rfl
theorem zae:YD.flat=true:=rfl
theorem zgT(args:List V):YD.r args=vb true:=rfl
theorem zgR(L:List V)(h:zto L):YD.D [.agg L,.agg L]=True:=eq_true ⟨L,rfl,h⟩
structure MgS where
 k:Nat
 v1:Nat
 v2:Nat
 clk:Nat
structure Rn where
 w:Int
 h:Int
 t:Int
def rnF(n1:Bool):List Tok→Rn→Option Rn
 | [],s=>some s
 |x::r,s=>
  if x.kind=2 then
   if zO x.text=kPo∨zO x.text=kLa then
    if 0<s.t then none else rnF n1 r ⟨s.w,s.h,if zO x.text=kLa then 2 else 1⟩
   else if 0<s.w then none
   else if zO x.text=kA4∨(zO x.text=kAu∧n1=true)then rnF n1 r ⟨793700,1122519,s.t⟩
   else if zO x.text=kA5 then rnF n1 r ⟨559370,793700,s.t⟩
   else if zO x.text=kLt then rnF n1 r ⟨816000,1056000,s.t⟩
   else none
  else none
structure RnS where
 k:Nat
 s:Rn
inductive Ks (s:ByteArray):Prop
 |pap (z:Int×Int) (h:Y8 s=some z) (n1:s≠kPo) (n2:s≠kLa) (n3:s≠kAu) (hz:0<z.1)
   (d:∀n1 r(q:Rn),q.w≤0→∀t,t.kind=2→zO t.text=s→rnF n1 (t::r) q=rnF n1 r ⟨z.1,z.2,q.t⟩)
   (d':∀n1 r(q:Rn),0<q.w→∀t,t.kind=2→zO t.text=s→rnF n1 (t::r) q=none)
 |trn (h:Y8 s=none) (n1:s=kPo∨s=kLa) (n3:s≠kAu)
 |aut (h:Y8 s=none) (n1:s=kAu) (n2:¬(s=kPo∨s=kLa))
 |oth (h:Y8 s=none) (n2:¬(s=kPo∨s=kLa)) (n3:s≠kAu) (h4:s≠kA4) (h5:s≠kA5) (h6:s≠kLt)

abbrev Fnd:=Ky×Dcl
theorem KU{α β:Type}(f:β→Option β)(g:α→β)(h:∀x,f (g x)=some (g x)):∀l:List α,zz f (l.map g)=some (l.map g)
 | []=>rfl
 |x::r=>by simp only[List.map_cons,zz,h x,KU f g h r]
structure AlS where
 k:Nat
 f:List Fnd
 o:Int
 ver:Nat
 clk:Nat
structure WnS where
 j:Nat
 b:Bool
 clk:Nat
section
section
variable {tl:ByteArray→List Tok→Bool}
theorem zdi:∀l:List Mg,0≤Z2 l
 | []=>by simp[Z2]
 |m::r=>by have:=zdi r;simp only[Z2];omega
end
end
section
section
variable {tl:ByteArray→List Tok→Bool}
end
end

section
section
variable {tl:ByteArray→List Tok→Bool}
end
end
theorem zml:ze Tryz.prog 71 [zB] (vb true):=by
 refine ze.of (Orc.nil _) zvP (by simp[c71]) fun w0 own0=> ?_
 simp -implicitDefEqProofs only[c71,zc,zb,za,go_sem,seval,reduceIte,reduceCtorEq]
 refine zD.lp (α:=Nat) (fun _=>[(0,zB),(3,vi 0)]) (fun k=>⟨[],k⟩) (fun _=>True) (fun _=>0) 0 trivial (St.cut ?_ ?_ ?_) fun a _=> ?_
 ·simp[zt,zo,zu]
 ·rfl
 ·rfl
 simp -implicitDefEqProofs only[c71,zc,zb,za,go_sem,seval,reduceIte,reduceCtorEq]
def Yx:Sum Tryz.prog:=⟨71,fun args=>args= [zB],fun args=>vb true,fun args h=>by
 have:=zml;rwa [←h]at this,true⟩
theorem zgE:Yx.f=71:=rfl
theorem zgD(args:List V):Yx.D args=(args= [zB]):=rfl
theorem zaa:Yx.flat=true:=rfl
theorem zgF(args:List V):Yx.r args=vb true:=rfl
attribute [go_sem] zgE zgD zaa zgF
theorem zmi{s:List (List Rul)}{k:Nat}(h:k<s.length)(h4:k≤4)(hn:Qn (s.getD k [])=false):QR s=false:=
 decide_eq_false fun hh=>by have:=hh.1 k h h4;rw[hn]at this;cases this
def zdo(s:List (List Rul)):Prop:=∀l∈s,∀r∈l,zbz r
theorem zmj(s:List (List Rul))(hs:zdo s):ze Tryz.prog 33 [z6 s,zB] (vb (QR s)):=by
 refine ze.of (Orc.cons Kl (Orc.cons Yx (Orc.nil _))) zvt (by simp[c33]) fun w0 own0=> ?_
 simp -implicitDefEqProofs only[c33,z6,zc,zb,za,go_sem,seval,reduceIte,reduceCtorEq]
 refine zD.lp (α:=FdS) (fun a=>[(0,.slc 1 (s.map shE)),(1,zB),(5,vi a.k)]) (fun a=>⟨[],a.clk⟩)
  (fun a=>a.k≤s.length∧a.k≤5∧∀i,i<a.k→Qn (s.getD i [])=true) (fun a=>s.length - a.k) ⟨0,0⟩ ⟨Nat.zero_le _,by dsimp only;omega,fun i hi=>by simp at hi⟩ (St.cut ?_ ?_ ?_) fun a ha=> ?_
 ·simp[zt,zo,zu]
 ·rfl
 ·rfl
 obtain⟨k,clk⟩:=a
 obtain⟨g1,g5,g2⟩:=ha
 simp only at g1 g5 g2
 by_cases he:k<s.length∧k≤4
 case neg=>
  by_cases c:s.length≤4
  ·have hR:QR s=true:=decide_eq_true ⟨fun i hi _=>g2 i (by omega),c⟩
   have n4:=eq_true (show(s.length:Int)≤4 by omega)
   have f1:=eq_false (show ¬(k:Int)<(s.length:Int)by omega)
   simp -implicitDefEqProofs only[hR,n4,f1,List.length_map,zc,zb,za,go_sem,seval,reduceIte,reduceCtorEq]
  ·have hR:QR s=false:=decide_eq_false fun h=>c h.2
   have n4:=eq_false (show ¬(s.length:Int)≤4 by omega)
   by_cases hk:k<s.length
   ·have f1:=eq_true (show(k:Int)<(s.length:Int)by omega)
    have f4:=eq_false (show ¬(k:Int)≤4 by omega)
    simp -implicitDefEqProofs only[hR,n4,f1,f4,List.length_map,zc,zb,za,go_sem,seval,reduceIte,reduceCtorEq]
   ·have f1:=eq_false (show ¬(k:Int)<(s.length:Int)by omega)
    simp -implicitDefEqProofs only[hR,n4,f1,List.length_map,zc,zb,za,go_sem,seval,reduceIte,reduceCtorEq]
 obtain⟨k1,k2⟩:=he
 have f1:=eq_true (show(k:Int)<(s.length:Int)by omega)
 have f4:=eq_true (show(k:Int)≤4 by omega)
 have f0:=eq_true (show(0:Int)≤(k:Int)by omega)
 have hg:=fun z=>KN s k z (by omega)
 have hno:=zmi (s:=s) k1 k2
 have hnx:Qn (s.getD k [])=true→∀i,i<k+1→Qn (s.getD i [])=true:=fun h i hi=>by
  by_cases e:i=k
  ·rw[e];exact h
  ·exact g2 i (by omega)
 have hrk:=hs _ (yv (d:=[]) k1)
 generalize s.getD k []=l at*
 cases hf:Qn l with
 |true=>
  simp -implicitDefEqProofs only[f0,f1,f4,hg,hf,shE,zgc,KI,List.length_map,zc,zb,za,go_sem,seval,reduceIte,reduceCtorEq]
  exact⟨hrk,⟨by omega,by omega⟩,⟨k+1,clk⟩,⟨by dsimp only;omega,by dsimp only;omega,hnx hf⟩,by dsimp only;omega,by dsimp only;omega,rfl⟩
 |false=>
  have h0:=hno hf
  simp -implicitDefEqProofs only[f0,f1,f4,hg,hf,h0,shE,zgc,KI,List.length_map,zc,zb,za,go_sem,seval,reduceIte,reduceCtorEq]
  exact hrk
def Yw:Sum Tryz.prog:=⟨33,fun args=>args= [z6 (zY (args.getD 0 .any)),zB]∧zdo (zY (args.getD 0 .any)),fun args=>vb (QR (zY (args.getD 0 .any))),fun args h=>by
 have:=zmj (zY (args.getD 0 .any)) h.2;rwa [←h.1]at this,true⟩
theorem zgy:Yw.f=33:=rfl
theorem zgx(args:List V):Yw.D args=(args= [z6 (zY (args.getD 0 .any)),zB]∧zdo (zY (args.getD 0 .any))):=rfl
theorem W8:Yw.flat=true:=rfl
theorem zgz(args:List V):Yw.r args=vb (QR (zY (args.getD 0 .any))):=rfl
attribute [go_sem] zgy zgx W8 zgz
def Jt(s:List (List Rul))(p:Sh):Bool:=QR s&&decide (p.name.size≤100)
theorem zmk(s:List (List Rul))(p:Sh)(hs:zdo s):ze Tryz.prog 11 [z6 s,.agg p.enc] (vb (Jt s p)):=by
 refine ze.of (Orc.cons Yw (Orc.nil _)) zu0 (by simp[c11]) fun w0 own0=> ?_
 unfold Jt
 cases hf:QR s with
 |true=>
  simp -implicitDefEqProofs only[c11,z6,Sh.enc,hs,hf,zE,List.isEmpty_cons,zc,zb,za,go_sem,seval,reduceIte,reduceCtorEq]
  rw[Bool.eq_iff_iff,decide_eq_true_eq,decide_eq_true_eq];omega
 |false=>simp -implicitDefEqProofs only[c11,z6,Sh.enc,hs,hf,zE,List.isEmpty_cons,zc,zb,za,go_sem,seval,reduceIte,reduceCtorEq]
def Zj:Sum Tryz.prog:=⟨11,fun args=>args= [z6 (zY (args.getD 0 .any)),.agg (Sh.enc (yd (args.getD 1 .any)))]∧zdo (zY (args.getD 0 .any)),fun args=>vb (Jt (zY (args.getD 0 .any)) (yd (args.getD 1 .any))),fun args h=>by
 have:=zmk (zY (args.getD 0 .any)) (yd (args.getD 1 .any)) h.2;rwa [←h.1]at this,true⟩
theorem zgB:Zj.f=11:=rfl
theorem zgA(args:List V):Zj.D args=(args= [z6 (zY (args.getD 0 .any)),.agg (Sh.enc (yd (args.getD 1 .any)))]∧zdo (zY (args.getD 0 .any))):=rfl
theorem W9:Zj.flat=true:=rfl
theorem zgC(args:List V):Zj.r args=vb (Jt (zY (args.getD 0 .any)) (yd (args.getD 1 .any))):=rfl
attribute [go_sem] zgB zgA W9 zgC
theorem zfx{s:List (List Rul)}{p:Sh}(h:Jt s p=true)(h3:s.length≤3)(h6:zdo s):kS s:=by
 unfold Jt at h
 rw[Bool.and_eq_true]at h
 refine⟨h3,fun l hl=> ?_⟩
 have h:=h.1
 unfold QR at h;rw[decide_eq_true_eq]at h
 obtain⟨i,hi,rfl⟩:=Ze (d:=[]) hl
 have:=zsn (h.1 i hi (by omega))
 exact⟨this.1,fun r hr=>⟨this.2 r hr,h6 _ hl r hr⟩⟩
def za0:Sum Tryz.prog:=⟨12,fun args=>args= [z6 (zY (args.getD 0 .any)),.agg (Sh.enc (yd (args.getD 1 .any)))]∧kS (zY (args.getD 0 .any)),fun args=>.tup [.agg (XQ (zY (args.getD 0 .any)) (yd (args.getD 1 .any))),vi 0],fun args h=>by
 have:=zs0 (zY (args.getD 0 .any)) (yd (args.getD 1 .any)) h.2;rwa [←h.1]at this,false⟩
theorem ztz:za0.f=12:=rfl
theorem zty(args:List V):za0.D args=(args= [z6 (zY (args.getD 0 .any)),.agg (Sh.enc (yd (args.getD 1 .any)))]∧kS (zY (args.getD 0 .any))):=rfl
theorem zgQ:za0.flat=false:=rfl
theorem ztA(args:List V):za0.r args= .tup [.agg (XQ (zY (args.getD 0 .any)) (yd (args.getD 1 .any))),vi 0]:=rfl
attribute [go_sem] ztz zty zgQ ztA
def lwB(ss:List (List Rul))(p:Sh)(v3:Nat)(B1 B2 B4 B5:Blk):List Blk:=[⟨0,1,[[z6 ss]],false,[]⟩,B1,B2,⟨v3,6,[p.enc],false,[]⟩,B4,B5]
structure Lw1OK (A:ESum Tryz.prog) (ss:List (List Rul)) (p:Sh):Prop where
 f:A.f=19
 pre:∀v3 B1 B2 B4 B5 clk(pr u:Int),0≤pr→pr≤9→A.pre [.c (.int .i64 pr),.c (.int .i64 u),.ptr 0 0 0 0,.ptr 3 v3 0 0] ⟨lwB ss p v3 B1 B2 B4 B5,clk⟩
 v:∀v3(pr u:Int) h,A.v [.c (.int .i64 pr),.c (.int .i64 u),.ptr 0 0 0 0,.ptr 3 v3 0 0] h=X6 u (z7 (yG ss p pr.toNat)).v
 hp:∀args h,A.hp args h=⟨h.bs,h.clk+10⟩
def zqb(v:List Tok):Int:=if qp v=some ⟨#[]⟩then -1 else(qT v).getD 0
def zeN(v:List Tok):Bool:=if qp v=some ⟨#[]⟩then true else W5 (qT v)
theorem zkO(v:List Tok)(hv:okT v):ze Tryz.prog 60 [zk v] (.tup [vi (zqb v),vb (zeN v)]):=by
 refine ze.of (Orc.cons YW (Orc.cons YC (Orc.nil _))) zvJ (by simp[c60]) fun w0 own0=> ?_
 unfold zqb zeN
 cases hn:qp v with
 |none=>
  rw[if_neg (by simp),if_neg (by simp)]
  simp -implicitDefEqProofs only[c60,hn,zbO,W5,Q3,Option.getD_none,Option.isSome_none,zk,zh,hv,zc,zb,za,go_sem,seval,reduceIte,reduceCtorEq]
 |some s=>
  by_cases c:s=⟨#[]⟩
  ·rw[if_pos (by rw[c]),if_pos (by rw[c])]
   have c:=eq_true c
   simp -implicitDefEqProofs only[c60,hn,c,Q3,Option.getD_some,Option.isSome_some,zk,zh,hv,zc,zb,za,go_sem,seval,reduceIte,reduceCtorEq]
  ·rw[if_neg (fun h=>c (Option.some.inj h)),if_neg (fun h=>c (Option.some.inj h))]
   have c:=eq_false c
   simp -implicitDefEqProofs only[c60,hn,c,zbO,W5,Q3,Option.getD_some,Option.isSome_some,zk,zh,hv,zc,zb,za,go_sem,seval,reduceIte,reduceCtorEq]
def Jg:Sum Tryz.prog:=⟨60,fun args=>args= [zk (zj (args.getD 0 .any))]∧okT (zj (args.getD 0 .any)),fun args=>.tup [vi (zqb (zj (args.getD 0 .any))),vb (zeN (zj (args.getD 0 .any)))],fun args h=>by
 have:=zkO (zj (args.getD 0 .any)) h.2;rwa [←h.1]at this,false⟩
theorem zpT:Jg.f=60:=rfl
theorem zpS(args:List V):Jg.D args=(args= [zk (zj (args.getD 0 .any))]∧okT (zj (args.getD 0 .any))):=rfl
theorem zeI:Jg.flat=false:=rfl
theorem zpU(args:List V):Jg.r args= .tup [vi (zqb (zj (args.getD 0 .any))),vb (zeN (zj (args.getD 0 .any)))]:=rfl
attribute [go_sem] zpT zpS zeI zpU
theorem zc9(v:List Tok)(hv:okT v):ze Tryz.prog 124 [zk v] (vb (ctO v).is):=by
 refine ze.of (Orc.cons zaW (Orc.nil _)) zrG (by simp[zu5]) fun w0 own0=> ?_
 simp -implicitDefEqProofs only[zu5,ctV,qn,zk,zh,hv,zc,zb,za,go_sem,seval,reduceIte,reduceCtorEq]
def X8:Sum Tryz.prog:=⟨124,fun args=>args= [zk (zj (args.getD 0 .any))]∧okT (zj (args.getD 0 .any)),fun args=>vb (ctO (zj (args.getD 0 .any))).is,fun args h=>by
 have:=zc9 (zj (args.getD 0 .any)) h.2;rwa [←h.1]at this,true⟩
theorem znU:X8.f=124:=rfl
theorem znT(args:List V):X8.D args=(args= [zk (zj (args.getD 0 .any))]∧okT (zj (args.getD 0 .any))):=rfl
theorem zdX:X8.flat=true:=rfl
theorem znV(args:List V):X8.r args=vb (ctO (zj (args.getD 0 .any))).is:=rfl
attribute [go_sem] znU znT zdX znV
theorem zff(v:List Tok)(hv:okT v):ze Tryz.prog 125 [zk v] (vb (zeN v)):=by
 refine ze.of (Orc.cons Jg (Orc.nil _)) zrH (by simp[zu6]) fun w0 own0=> ?_
 simp -implicitDefEqProofs only[zu6,zk,zh,hv,zc,zb,za,go_sem,seval,reduceIte,reduceCtorEq]
def X9:Sum Tryz.prog:=⟨125,fun args=>args= [zk (zj (args.getD 0 .any))]∧okT (zj (args.getD 0 .any)),fun args=>vb (zeN (zj (args.getD 0 .any))),fun args h=>by
 have:=zff (zj (args.getD 0 .any)) h.2;rwa [←h.1]at this,true⟩
theorem znX:X9.f=125:=rfl
theorem znW(args:List V):X9.D args=(args= [zk (zj (args.getD 0 .any))]∧okT (zj (args.getD 0 .any))):=rfl
theorem zdY:X9.flat=true:=rfl
theorem znY(args:List V):X9.r args=vb (zeN (zj (args.getD 0 .any))):=rfl
attribute [go_sem] znX znW zdY znY
def bpW:List ByteArray:=[⟨#[99,111,110,116,101,110,116]⟩,⟨#[99,111,108,111,114]⟩,⟨#[102,111,110,116,45,115,105,122,101]⟩,⟨#[119,105,100,116,104]⟩]
def zuQ:List Nat:=[124,122,123,125]
def bpE(k:Nat):List V:=[vs (bpW.getD k ⟨#[]⟩),.fn (zuQ.getD k 0) []]
def bpV:V:=.slc 2 [bpE 0,bpE 1,bpE 2,bpE 3]
theorem zm5:ze Tryz.prog 101 [] bpV:=by
 refine ze.of (Orc.nil _) zrs (by simp[zuT]) fun w0 own0=> ?_
 simp -implicitDefEqProofs only[zuT,zc,zb,za,go_sem,seval,reduceIte,reduceCtorEq]
 rfl
def Ws:Sum Tryz.prog:=⟨101,fun args=>args= [],fun args=>bpV,fun args h=>by
 have:=zm5;rwa [←h]at this,false⟩
theorem zo4:Ws.f=101:=rfl
theorem zo3(args:List V):Ws.D args=(args= []):=rfl
theorem zeo:Ws.flat=false:=rfl
theorem zo5(args:List V):Ws.r args=bpV:=rfl
attribute [go_sem] zo4 zo3 zeo zo5
def bvB(k:Nat)(v:List Tok):Bool:=match k with|0=>(ctO v).is|1=>zfl (qp v)|2=>W5 (qT v)|_=>zeN v
def WN(k:Nat)(nm:ByteArray)(v:List Tok):Bool:=decide (nm=bpW.getD k ⟨#[]⟩)&&bvB k v
theorem zlG(k:Nat)(d:Dcl)(hk:k≤3)(hv:okQ d.v):ze Tryz.prog 73 [vi k,.agg d.enc] (vb (WN k d.nm d.v)):=by
 obtain⟨nm,v,imp⟩:=d
 have hT:=hv.1
 simp only at hv hT
 refine ze.of (Orc.cons Ws (Orc.cons X8 (Orc.cons Jc (Orc.cons Jd (Orc.cons X9 (Orc.nil _)))))) zvR (by simp[c73]) fun w0 own0=> ?_
 unfold WN
 simp only
 by_cases c:nm=bpW.getD k ⟨#[]⟩
 ·rw[decide_eq_true c,Bool.true_and]
  rcases(show k=0∨k=1∨k=2∨k=3 by omega)with rfl|rfl|rfl|rfl
  all_goals
   simp only[bpW,List.getD_cons_zero,List.getD_cons_succ]at c
   have c:=eq_true c
   unfold bvB
   simp -implicitDefEqProofs only[c73,c,Dcl.enc,bpV,bpE,bpW,zuQ,List.getD_cons_zero,List.getD_cons_succ,List.isEmpty_nil,zk,zh,hv,hT,List.isEmpty_cons,Int.cast_ofNat_Int,Int.natCast_zero,Int.natCast_one,zc,zb,za,go_sem,seval,reduceIte,reduceCtorEq]
 ·rw[decide_eq_false c,Bool.false_and]
  rcases(show k=0∨k=1∨k=2∨k=3 by omega)with rfl|rfl|rfl|rfl
  all_goals
   simp only[bpW,List.getD_cons_zero,List.getD_cons_succ]at c
   have c:=eq_false c
   simp -implicitDefEqProofs only[c73,c,Dcl.enc,bpV,bpE,bpW,zuQ,List.getD_cons_zero,List.getD_cons_succ,List.isEmpty_nil,zk,zh,hv,hT,List.isEmpty_cons,Int.cast_ofNat_Int,Int.natCast_zero,Int.natCast_one,zc,zb,za,go_sem,seval,reduceIte,reduceCtorEq]
theorem zim(k:Int)(d:Dcl)(h0:0≤k)(hk:k≤3)(hv:okQ d.v):ze Tryz.prog 73 [vi k,.agg d.enc] (vb (WN k.toNat d.nm d.v)):=by
 have:=zlG k.toNat d (by omega) hv
 rwa [Int.toNat_of_nonneg h0]at this
def Wd:Sum Tryz.prog:=⟨73,fun args=>args= [vi ((args.getD 0 .any).int),.agg (Dcl.enc (qi (args.getD 1 .any)))]∧0≤((args.getD 0 .any).int)∧((args.getD 0 .any).int)≤3∧okQ ((qi (args.getD 1 .any))).v,fun args=>vb (WN (((args.getD 0 .any).int)).toNat ((qi (args.getD 1 .any))).nm ((qi (args.getD 1 .any))).v),fun args h=>by
 have:=zim ((args.getD 0 .any).int) (qi (args.getD 1 .any)) h.2.1 h.2.2.1 h.2.2.2;rwa [←h.1]at this,true⟩
theorem zn3:Wd.f=73:=rfl
theorem zn2(args:List V):Wd.D args=(args= [vi ((args.getD 0 .any).int),.agg (Dcl.enc (qi (args.getD 1 .any)))]∧0≤((args.getD 0 .any).int)∧((args.getD 0 .any).int)≤3∧okQ ((qi (args.getD 1 .any))).v):=rfl
theorem zd0:Wd.flat=true:=rfl
theorem zn4(args:List V):Wd.r args=vb (WN (((args.getD 0 .any).int)).toNat ((qi (args.getD 1 .any))).nm ((qi (args.getD 1 .any))).v):=rfl
attribute [go_sem] zn3 zn2 zd0 zn4
theorem zkM(pr:Nat)(h:pr≤3):VOK Wd 73 pr (WN pr) where
 f:=rfl
 flat:=rfl
 D:=fun nm v imp hv=>by
  have e:qi (.agg [.c (.string nm),.slc 3 (v.map Tok.enc),.c (.bool imp)])=⟨nm,v,imp⟩:=qC ⟨nm,v,imp⟩
  show _=_∧_
  refine⟨?_,?_,?_,?_⟩
  ·show _= [vi pr,.agg (Dcl.enc (qi (.agg [.c (.string nm),.slc 3 (v.map Tok.enc),.c (.bool imp)])))]
   rw[e];rfl
  ·show(0:Int)≤(pr:Int);omega
  ·show(pr:Int)≤3;omega
  ·show okQ (qi (.agg [.c (.string nm),.slc 3 (v.map Tok.enc),.c (.bool imp)])).v
   rw[e];exact hv
 r:=fun nm v imp=>by
  have e:qi (.agg [.c (.string nm),.slc 3 (v.map Tok.enc),.c (.bool imp)])=⟨nm,v,imp⟩:=qC ⟨nm,v,imp⟩
  show vb (WN pr (qi (.agg [.c (.string nm),.slc 3 (v.map Tok.enc),.c (.bool imp)])).nm (qi (.agg [.c (.string nm),.slc 3 (v.map Tok.enc),.c (.bool imp)])).v)=_
  rw[e]
 n1:=by decide
 n2:=by decide
def ZQ(ss:List (List Rul))(p:Sh)(bx:Int)(pr:Nat):Wst:=ym (WN pr) bx p 0 0 ss yF
theorem zqf(ss:List (List Rul))(p:Sh)(bx pr:Int)(b0:0≤bx)(b1:bx≤15)(h0:0≤pr)(h3:pr≤3)(hs:kS ss):ze Tryz.prog 35 [z6 ss,.agg p.enc,vi bx,vi pr] (qW (ZQ ss p bx pr.toNat)):=by
 have:=zqg (bx:=bx) (zkM pr.toNat (by omega)) p ss hs (by omega) (.inr ⟨b0,b1,by omega,rfl⟩)
 rwa [Int.toNat_of_nonneg h0]at this
def Kw:Sum Tryz.prog:=⟨35,fun args=>args= [z6 (zY (args.getD 0 .any)),.agg (Sh.enc (yd (args.getD 1 .any))),vi ((args.getD 2 .any).int),vi ((args.getD 3 .any).int)]∧kS (zY (args.getD 0 .any))∧0≤((args.getD 2 .any).int)∧((args.getD 2 .any).int)≤15∧0≤((args.getD 3 .any).int)∧((args.getD 3 .any).int)≤3,fun args=>qW (ZQ (zY (args.getD 0 .any)) (yd (args.getD 1 .any)) ((args.getD 2 .any).int) (((args.getD 3 .any).int)).toNat),fun args h=>by
 have:=zqf (zY (args.getD 0 .any)) (yd (args.getD 1 .any)) ((args.getD 2 .any).int) ((args.getD 3 .any).int) h.2.2.1 h.2.2.2.1 h.2.2.2.2.1 h.2.2.2.2.2 h.2.1;rwa [←h.1]at this,false⟩
theorem zkI:Kw.f=35:=rfl
theorem zkH(args:List V):Kw.D args=(args= [z6 (zY (args.getD 0 .any)),.agg (Sh.enc (yd (args.getD 1 .any))),vi ((args.getD 2 .any).int),vi ((args.getD 3 .any).int)]∧kS (zY (args.getD 0 .any))∧0≤((args.getD 2 .any).int)∧((args.getD 2 .any).int)≤15∧0≤((args.getD 3 .any).int)∧((args.getD 3 .any).int)≤3):=rfl
theorem zcb:Kw.flat=false:=rfl
theorem zkJ(args:List V):Kw.r args=qW (ZQ (zY (args.getD 0 .any)) (yd (args.getD 1 .any)) ((args.getD 2 .any).int) (((args.getD 3 .any).int)).toNat):=rfl
attribute [go_sem] zkI zkH zcb zkJ
theorem WF(ss:List (List Rul))(p:Sh)(bx:Int)(pr:Nat)(hs:kS ss):okT (z7 (ZQ ss p bx pr)).v:=
 (zrf (tl:=WN pr) (Qv (bx:=bx) (p:=p) ss 0 0 yF (fun l hl r hr=>(hs.2 l hl).2 r hr) (.inl rfl))).1.1
def zBx:List V:=[vb false,zB,vs ⟨#[]⟩,vi 0,vi 0]
def zqc(s:Wst):Int:=if s.b=true then zqb (z7 s).v else -1
def mgO(ss:List (List Rul))(p:Sh)(bx:Int):Bool:=(ZQ ss p bx 0).b&& !(ctO (z7 (ZQ ss p bx 0)).v).none
def mgL(ss:List (List Rul))(p:Sh)(bx:Int):List V:=
 [vb true,qn (ctO (z7 (ZQ ss p bx 0)).v).l,vs (zbd (ZQ ss p bx 1) (zbd (yG ss p 8) ziV)),vi (zbs (ZQ ss p bx 2) (zbs (yG ss p 9) 16000)),vi (zqc (ZQ ss p bx 3))]
def mgB(ss:List (List Rul))(p:Sh)(bx:Int):List V:=if 0≤bx∧bx≤15 then(if mgO ss p bx=true then mgL ss p bx else zBx)else zBx
def mgE(bx:Int):Int:=if 0≤bx∧bx≤15 then 0 else 1
theorem zi8(ss:List (List Rul))(p:Sh)(bx:Int)(hs:kS ss):ze Tryz.prog 23 [z6 ss,.agg p.enc,vi bx] (.tup [.agg (mgB ss p bx),vi (mgE bx)]):=by
 obtain⟨c0,hc0⟩:∃x,zbd (yG ss p 8) ziV=x:=⟨_,rfl⟩
 obtain⟨f0,hf0⟩:∃x,zbs (yG ss p 9) 16000=x:=⟨_,rfl⟩
 obtain⟨g0,g1,g2,g3,g4,g5,y0,y1,y2,hP⟩:∃a b c d e f x y z,XQ ss p= [vi a,vi b,vi c,vi d,vi e,vi f,.slc 3 x,.slc 3 y,.slc 3 z,vs c0,vi f0]:=⟨_,_,_,_,_,_,_,_,_,by unfold XQ;rw[hc0,hf0];rfl⟩
 refine ze.of (Orc.cons za0 (Orc.cons Kw (Orc.cons zaW (Orc.cons Qx (Orc.cons YC (Orc.cons Jg (Orc.cons K7 (Orc.nil _)))))))) zvn (by simp[c23]) fun w0 own0=> ?_
 unfold mgB mgE
 by_cases hb:0≤bx∧bx≤15
 case neg=>
  rw[if_neg hb,if_neg hb]
  by_cases h:bx<0
  ·have h:=eq_true h
   simp -implicitDefEqProofs only[c23,z6,Sh.enc,hs,hP,h,zBx,ju,bxW,zE,zH,Sh.eta',List.length_cons,List.length_nil,List.length_map,List.map_cons,List.map_nil,List.isEmpty_cons,List.isEmpty_nil,zi,zI,zc,zb,za,go_sem,seval,reduceIte,reduceCtorEq]
  ·have h:=eq_false h
   have h2:=eq_true (show(16:Int)≤bx by omega)
   simp -implicitDefEqProofs only[c23,z6,Sh.enc,hs,hP,h,h2,zBx,ju,bxW,zE,zH,Sh.eta',List.length_cons,List.length_nil,List.length_map,List.map_cons,List.map_nil,List.isEmpty_cons,List.isEmpty_nil,zi,zI,zc,zb,za,go_sem,seval,reduceIte,reduceCtorEq]
 rw[if_pos hb,if_pos hb]
 have hb0:=eq_false (show ¬bx<0 by omega)
 have hb1:=eq_false (show ¬(16:Int)≤bx by omega)
 have hb2:=eq_true hb.1
 have hb3:=eq_true hb.2
 have q0:=WF ss p bx 0 hs
 have q1:=WF ss p bx 1 hs
 have q2:=WF ss p bx 2 hs
 have q3:=WF ss p bx 3 hs
 unfold mgO mgL
 rw[hc0,hf0]
 clear hc0 hf0
 generalize hW0:ZQ ss p bx 0=s0 at*
 generalize hW1:ZQ ss p bx 1=s1 at*
 generalize hW2:ZQ ss p bx 2=s2 at*
 generalize hW3:ZQ ss p bx 3=s3 at*
 unfold zbd zbs zqc
 generalize hD0:z7 s0=d0 at*
 generalize hD1:z7 s1=d1 at*
 generalize hD2:z7 s2=d2 at*
 generalize hD3:z7 s3=d3 at*
 obtain⟨n0,v0,i0⟩:=d0
 obtain⟨n1,v1,i1⟩:=d1
 obtain⟨n2,v2,i2⟩:=d2
 obtain⟨n3,v3,i3⟩:=d3
 simp only at q0 q1 q2 q3⊢
 generalize hC:ctO v0=c at*
 obtain⟨l,nn,is⟩:=c
 cases hB0:s0.b with
 |false=>
  rw[Bool.false_and,if_neg (by simp)]
  simp -implicitDefEqProofs only[c23,z6,Sh.enc,hs,hP,hb0,hb1,hb2,hb3,hW0,hD0,hB0,hC,q0,ctV,qn,qW,Ky.enc,Dcl.enc,zk,zh,zBx,ju,bxW,zE,zH,Sh.eta',List.length_cons,List.length_nil,List.length_map,List.map_cons,List.map_nil,List.isEmpty_cons,List.isEmpty_nil,zi,zI,zc,zb,za,go_sem,seval,reduceIte,reduceCtorEq]
 |true=>
 cases nn with
 |true=>
  rw[Bool.not_true,Bool.and_false,if_neg (by simp)]
  simp -implicitDefEqProofs only[c23,z6,Sh.enc,hs,hP,hb0,hb1,hb2,hb3,hW0,hD0,hB0,hC,q0,ctV,qn,qW,Ky.enc,Dcl.enc,zk,zh,zBx,ju,bxW,zE,zH,Sh.eta',List.length_cons,List.length_nil,List.length_map,List.map_cons,List.map_nil,List.isEmpty_cons,List.isEmpty_nil,zi,zI,zc,zb,za,go_sem,seval,reduceIte,reduceCtorEq]
 |false=>
 rw[Bool.not_false,Bool.and_true,if_pos rfl]
 cases hB1:s1.b<;>cases hB2:s2.b<;>cases hB3:s3.b<;>
  simp -implicitDefEqProofs only[c23,z6,Sh.enc,hs,hP,hb0,hb1,hb2,hb3,hW0,hW1,hW2,hW3,hD0,hD1,hD2,hD3,hB0,hB1,hB2,hB3,hC,q0,q1,q2,q3,zfn,zbO,ctV,qn,qW,Ky.enc,Dcl.enc,zk,zh,zBx,ju,bxW,zE,zH,Sh.eta',List.length_cons,List.length_nil,List.length_map,List.map_cons,List.map_nil,List.isEmpty_cons,List.isEmpty_nil,zi,zI,zc,zb,za,go_sem,seval,reduceIte,reduceCtorEq]
def zlJ(L:List V):Prop:=∃(b:Bool)(l:List Itm)(c:ByteArray)(f w:Int),L= [vb b,qn l,vs c,vi f,vi w]∧l.length≤2000000
theorem zfe{L:List V}(h:zlJ L):ze Tryz.prog 24 [.agg L,.agg L] (vb true):=by
 obtain⟨b,l,c,f,w,rfl,h⟩:=h
 refine ze.of (Orc.cons K8 (Orc.nil _)) zvo (by simp[c24]) fun w0 own0=> ?_
 simp -implicitDefEqProofs only[c24,qn,h,KH,List.isEmpty_cons,List.isEmpty_nil,zc,zb,za,go_sem,seval,reduceIte,reduceCtorEq]
end Go.Proofs.YtlaopdfpncckeaaGreatDoor
