/- Part of the proof of layer-11. No condition. -/
import Derived.Test.YtjcmoedalneldaaGreatJ13
import Derived.Test.YtjcmoedalneldaaGreatJ14
import Derived.Test.YtjcmoedalneldaaGreatJ11
import Derived.Test.YtjcmoedalneldaaGreatJ10
import Derived.Test.YtjcmoedalneldaaGreatV7v
namespace Go.Proofs.YtjcmoedalneldaaGreat
open Go.Sx
set_option linter.unusedSimpArgs false
set_option linter.unusedVariables false
set_option maxHeartbeats 8000000
set_option maxRecDepth 100000
theorem zrE(v:List Tok)(k:Nat):zg Tryz.prog 136 [zj v,vi k] (vi (knd v k)):=by
 refine zg.of (Orc.nil _) zwq (by simp[zwp]) fun w0 o0=> ?_
 by_cases h:k<v.length
 ·have e2:(k:Int)<(v.length:Int):=by omega
  have e0:(0:Int)≤(k:Int):=by omega
  have hg:=yi v k
  simp only[zwp,knd,zj,h,e0,e2,hg,Tok.enc,if_true,go_sem,zc,seval,reduceIte,reduceCtorEq]
 ·have e2:=eq_false (show ¬(k:Int)<(v.length:Int)by omega)
  simp only[zwp,knd,zj,h,e2,Tok.enc,if_false,go_sem,zc,seval,reduceIte,reduceCtorEq]
theorem zmC(v:List Tok)(k:Int)(h:0≤k):zg Tryz.prog 136 [zj v,vi k] (vi (knd v k.toNat)):=by
 have:=zrE v k.toNat;rwa [Int.toNat_of_nonneg h]at this
def Zf:Sum Tryz.prog:=⟨136,fun args=>args= [zj (zh (args.getD 0 .any)),vi ((args.getD 1 .any).int)]∧0≤((args.getD 1 .any).int),fun args=>vi (knd (zh (args.getD 0 .any)) (((args.getD 1 .any).int)).toNat),fun args h=>by
 have:=zmC (zh (args.getD 0 .any)) ((args.getD 1 .any).int) h.2;rwa [←h.1]at this,true⟩
theorem zoE:Zf.f=136:=rfl
theorem zoD(args:List V):Zf.D args=(args= [zj (zh (args.getD 0 .any)),vi ((args.getD 1 .any).int)]∧0≤((args.getD 1 .any).int)):=rfl
theorem zeJ:Zf.flat=true:=rfl
theorem zoF(args:List V):Zf.r args=vi (knd (zh (args.getD 0 .any)) (((args.getD 1 .any).int)).toNat):=rfl
attribute [go_sem] zoE zoD zeJ zoF
theorem zme(v:List Tok)(k:Nat)(w:ByteArray):zg Tryz.prog 137 [zj v,vi k,vs w] (vb (dlm v k w)):=by
 refine zg.of (Orc.cons Zf (Orc.nil _)) zws (by simp[zwr]) fun w0 o0=> ?_
 have e0:(0:Int)≤(k:Int):=by omega
 by_cases h:knd v k=11
 ·obtain⟨h1,h2⟩:=yx h (by decide)
  have e2:(k:Int)<(v.length:Int):=by omega
  have hg:=yi v k
  have e:dlm v k w=decide ((v.getD k .zero).text=w):=by
   unfold dlm
   rw[decide_eq_decide]
   exact⟨fun hh=>hh.2.2,fun hh=>⟨h1,h2,hh⟩⟩
  have h:=eq_true h
  simp only[zwr,zj,zf,e,e0,e2,hg,h,Tok.enc,Int.toNat_natCast,go_sem,zc,seval,reduceIte,reduceCtorEq]
 ·have e:dlm v k w=false:=decide_eq_false fun hh=>h (by unfold knd;rw[if_pos hh.1];exact hh.2.1)
  have h:=eq_false h
  simp only[zwr,zj,zf,e,e0,h,Tok.enc,Int.toNat_natCast,go_sem,zc,seval,reduceIte,reduceCtorEq]
theorem ziH(v:List Tok)(k:Int)(w:ByteArray)(h:0≤k):zg Tryz.prog 137 [zj v,vi k,vs w] (vb (dlm v k.toNat w)):=by
 have:=zme v k.toNat w;rwa [Int.toNat_of_nonneg h]at this
def Z4:Sum Tryz.prog:=⟨137,fun args=>args= [zj (zh (args.getD 0 .any)),vi ((args.getD 1 .any).int),vs ((args.getD 2 .any).str)]∧0≤((args.getD 1 .any).int),fun args=>vb (dlm (zh (args.getD 0 .any)) (((args.getD 1 .any).int)).toNat ((args.getD 2 .any).str)),fun args h=>by
 have:=ziH (zh (args.getD 0 .any)) ((args.getD 1 .any).int) ((args.getD 2 .any).str) h.2;rwa [←h.1]at this,true⟩
theorem zod:Z4.f=137:=rfl
theorem zoc(args:List V):Z4.D args=(args= [zj (zh (args.getD 0 .any)),vi ((args.getD 1 .any).int),vs ((args.getD 2 .any).str)]∧0≤((args.getD 1 .any).int)):=rfl
theorem zez:Z4.flat=true:=rfl
theorem zoe(args:List V):Z4.r args=vb (dlm (zh (args.getD 0 .any)) (((args.getD 1 .any).int)).toNat ((args.getD 2 .any).str)):=rfl
attribute [go_sem] zod zoc zez zoe
def zS:Smp:=⟨0,⟨#[]⟩,⟨#[]⟩⟩
def inF(v:List Tok):Nat→Nat→List Tok→List Tok×Nat
 |0,k,L=>(L,k)
 |f+1,k,L=>if knd v k≠0∧¬(knd v k=13∧txt v k=⟨#[93]⟩)∧L.length<4 then inF v f (k+1) (if knd v k=1 then L else L++ [v.getD k .zero])else(L,k)
def zcB(v:List Tok)(k:Nat)(r:List Tok×Nat):Smp×Nat:=
 if knd v r.2=13 then match Qp r.1 with|some s=>(s,r.2+1 - k)|none=>(zS,0)else(zS,0)
def Qt(v:List Tok)(k:Nat):Smp×Nat:=
 if dlm v k ⟨#[42]⟩=true then(⟨1,⟨#[]⟩,⟨#[]⟩⟩,1)
 else if knd v k=2 then(⟨2,txt v k,⟨#[]⟩⟩,1)
 else if knd v k=5 then(⟨3,txt v k,⟨#[]⟩⟩,1)
 else if dlm v k ⟨#[46]⟩=true∧knd v (k+1)=2 then(⟨4,txt v (k+1),⟨#[]⟩⟩,2)
 else if knd v k=12∧txt v k=⟨#[91]⟩then zcB v k (inF v v.length (k+1) [])
 else(zS,0)
def kp(r:Smp×Nat):V:=.tup [.agg r.1.enc,vi r.2]
structure InS8 where
 k:Nat
 L:List Tok
 f:Nat
 ver:Nat
 clk:Nat
theorem zjn(v:List Tok)(hl:v.length≤1000000)(k:Nat)(hk:k≤v.length):zg Tryz.prog 135 [zj v,vi k] (kp (Qt v k)):=by
 refine zg.of (Orc.cons Zf (Orc.cons Z4 (Orc.nil _))) zwo (by simp[jw]) fun w0 o0=> ?_
 have e0:(0:Int)≤(k:Int):=by omega
 have e0':(0:Int)≤(k:Int)+1:=by omega
 have t1:((k:Int)+1).toNat=k+1:=by omega
 have o1:=eq_true (show(k:Int)+1≤9223372036854775807 by omega)
 have o2:=eq_true (show -9223372036854775808≤(k:Int)+1 by omega)
 unfold Qt
 by_cases h1:dlm v k ⟨#[42]⟩=true
 ·rw[if_pos h1]
  simp -implicitDefEqProofs only[jw,kp,zj,zf,e0,h1,Int.toNat_natCast,Smp.enc,zn,zd,zb,za,go_sem,seval,reduceIte,reduceCtorEq]
 have h1:dlm v k ⟨#[42]⟩=false:=by simpa using h1
 rw[if_neg (by rw[h1];simp)]
 by_cases h2:knd v k=2
 ·rw[if_pos h2]
  have hkl:=(yx h2 (by decide)).1
  have e2:(k:Int)<(v.length:Int):=by omega
  have hg:=yi v k
  have h2:=eq_true h2
  simp -implicitDefEqProofs only[jw,kp,zj,txt,zf,e0,e2,h1,h2,hg,Int.toNat_natCast,Smp.enc,Tok.enc,zn,zd,zb,za,go_sem,seval,reduceIte,reduceCtorEq]
 rw[if_neg h2]
 by_cases h3:knd v k=5
 ·rw[if_pos h3]
  have hkl:=(yx h3 (by decide)).1
  have e2:(k:Int)<(v.length:Int):=by omega
  have hg:=yi v k
  have h2:=eq_false h2;have h3:=eq_true h3
  simp -implicitDefEqProofs only[jw,kp,zj,txt,zf,e0,e2,h1,h2,h3,hg,Int.toNat_natCast,Smp.enc,Tok.enc,zn,zd,zb,za,go_sem,seval,reduceIte,reduceCtorEq]
 rw[if_neg h3]
 have h2':=eq_false h2;have h3':=eq_false h3
 by_cases h4:dlm v k ⟨#[46]⟩=true∧knd v (k+1)=2
 ·rw[if_pos h4]
  obtain⟨h4,h5⟩:=h4
  have hkl:=(yx h5 (by decide)).1
  have e2:(k:Int)+1<(v.length:Int):=by omega
  have hg:=yi v (k+1)
  have h5:=eq_true h5
  simp -implicitDefEqProofs only[jw,kp,zj,txt,zf,e0,e0',e2,t1,o1,o2,h1,h2',h3',h4,h5,hg,Int.toNat_natCast,Smp.enc,Tok.enc,zn,zd,zb,za,go_sem,seval,reduceIte,reduceCtorEq]
 rw[if_neg h4]
 by_cases h12:knd v k=12∧txt v k=⟨#[91]⟩
 case neg=>
  rw[if_neg h12]
  by_cases hn:knd v k=12
  ·have ht:¬(v.getD k .zero).text=⟨#[91]⟩:=fun hh=>h12 ⟨hn,hh⟩
   obtain⟨hkl,hk12⟩:=yx hn (by decide)
   have h4:dlm v k ⟨#[46]⟩=false:=JU (by omega)
   have e2:(k:Int)<(v.length:Int):=by omega
   have hg:=yi v k
   have hn:=eq_true hn;have ht:=eq_false ht
   simp -implicitDefEqProofs only[jw,e2,h4,hn,ht,hg,kp,zS,zj,txt,zf,e0,e0',t1,o1,o2,h1,h2',h3',Int.toNat_natCast,Smp.enc,Tok.enc,zn,zd,zb,za,go_sem,seval,reduceIte,reduceCtorEq]
  ·have hn:=eq_false hn
   cases h5:dlm v k ⟨#[46]⟩with
   |true=>
    have h6:=eq_false (fun hh=>h4 ⟨h5,hh⟩)
    simp -implicitDefEqProofs only[jw,h5,h6,hn,kp,zS,zj,txt,zf,e0,e0',t1,o1,o2,h1,h2',h3',Int.toNat_natCast,Smp.enc,Tok.enc,zn,zd,zb,za,go_sem,seval,reduceIte,reduceCtorEq]
   |false=>
    simp -implicitDefEqProofs only[jw,h5,hn,kp,zS,zj,txt,zf,e0,e0',t1,o1,o2,h1,h2',h3',Int.toNat_natCast,Smp.enc,Tok.enc,zn,zd,zb,za,go_sem,seval,reduceIte,reduceCtorEq]
 rw[if_pos h12]
 obtain⟨hn,ht⟩:=h12
 obtain⟨hkl,hk12⟩:=yx hn (by decide)
 have h4:dlm v k ⟨#[46]⟩=false:=JU (by omega)
 have e2:(k:Int)<(v.length:Int):=by omega
 have hg:=yi v k
 have ht':(v.getD k .zero).text=⟨#[91]⟩:=ht
 have hn:=eq_true hn;have ht':=eq_true ht'
 generalize hR:inF v v.length (k+1) []=R
 simp -implicitDefEqProofs only[jw,zj,txt,zf,e0,e0',e2,t1,o1,o2,h1,h2',h3',h4,hn,ht',hg,Int.toNat_natCast,Smp.enc,Tok.enc,zn,zd,zb,za,go_sem,seval,reduceIte,reduceCtorEq]
 refine zD.lp (α:=InS8) (fun x=>[(0,.slc 3 (v.map Tok.enc)),(1,vi k),(4,.ptr 0 0 0 0),(6,.ref 1 x.ver 0 x.L.length),(7,vi x.k)])
  (fun x=>⟨[⟨0,3,[[vi 0,vs ⟨#[]⟩,vs ⟨#[]⟩]],false,[]⟩,⟨x.ver,3,x.L.map Tok.enc,false,[vi 0,vs ⟨#[]⟩,vi 0]⟩],x.clk⟩)
  (fun x=>k<x.k∧x.k≤v.length∧x.L.length≤4∧v.length+1≤x.f+x.k∧inF v x.f x.k x.L=R) (fun x=>v.length - x.k) ⟨k+1,[],v.length,1,2⟩
  ⟨by dsimp only;omega,by dsimp only;omega,by simp,by dsimp only;omega,hR⟩ (St.nil 6 3 [vi 0,vs ⟨#[]⟩,vi 0] (by simp[zk]) (St.cut ?_ ?_ ?_)) fun x hx=> ?_
 ·simp[zu,zk,zt]
 ·simp[Heap.alloc]
 ·rfl
 clear hR e0 e0' t1 o1 o2 h1 h2 h3 h2' h3' h4 hn ht ht' e2 hg
 obtain⟨j,L,f,ver,clk⟩:=x
 obtain⟨g1,g2,g3,g4,g5⟩:=hx
 simp only at g1 g2 g3 g4 g5
 obtain⟨f,rfl⟩:∃g,f=g+1:=⟨f - 1,by omega⟩
 have f0:(0:Int)≤(j:Int):=by omega
 have hgj:=yi v j
 simp only[inF]at g5
 by_cases c0:knd v j=0
 ·rw[if_neg (fun hh=>hh.1 c0)]at g5
  subst g5
  have hS:zcB v k (L,j)=(zS,0):=if_neg (by show ¬knd v j=13;omega)
  rw[hS]
  have c0:=eq_true c0
  have c13:=eq_false (show ¬knd v j=13 by omega)
  simp -implicitDefEqProofs only[c0,c13,jw,kp,zS,zj,zf,f0,hgj,Int.toNat_natCast,Smp.enc,Tok.enc,zn,List.take_length,zd,zb,za,go_sem,seval,reduceIte,reduceCtorEq]
 have hjl:j<v.length:=by
  unfold knd at c0
  by_cases h:j<v.length
  ·exact h
  ·rw[if_neg h]at c0;exact absurd rfl c0
 have f2:(j:Int)<(v.length:Int):=by omega
 have c0':=eq_false c0
 by_cases c4:L.length<4
 case neg=>
  rw[if_neg (fun hh=>c4 hh.2.2)]at g5
  subst g5
  have hS:zcB v k (L,j)=(zS,0):=by
   unfold zcB
   split
   ·have:Qp L=none:=by
     rcases L with _|⟨_,_|⟨_,_|⟨_,_|⟨_,L⟩⟩⟩⟩<;>first|rfl|(simp at c4)
    rw[this]
   ·rfl
  rw[hS]
  have c4':=eq_false (show ¬(L.length:Int)<4 by omega)
  have l1:=eq_false (show ¬(L.length:Int)=1 by omega)
  have l3:=eq_false (show ¬(L.length:Int)=3 by omega)
  by_cases c13:knd v j=13
  ·have c13:=eq_true c13
   by_cases ct:(v.getD j .zero).text=⟨#[93]⟩
   ·have ct:=eq_true ct
    simp -implicitDefEqProofs only[c0',c13,ct,c4',l1,l3,f2,jw,kp,zS,zj,zf,f0,hgj,Int.toNat_natCast,Smp.enc,Tok.enc,zn,List.take_length,zd,zb,za,go_sem,seval,reduceIte,reduceCtorEq]
   ·have ct:=eq_false ct
    simp -implicitDefEqProofs only[c0',c13,ct,c4',l1,l3,f2,jw,kp,zS,zj,zf,f0,hgj,Int.toNat_natCast,Smp.enc,Tok.enc,zn,List.take_length,zd,zb,za,go_sem,seval,reduceIte,reduceCtorEq]
  ·have c13:=eq_false c13
   simp -implicitDefEqProofs only[c0',c13,c4',l1,l3,f2,jw,kp,zS,zj,zf,f0,hgj,Int.toNat_natCast,Smp.enc,Tok.enc,zn,List.take_length,zd,zb,za,go_sem,seval,reduceIte,reduceCtorEq]
 have c4':=eq_true (show(L.length:Int)<4 by omega)
 by_cases c13:knd v j=13
 ·by_cases ct:(v.getD j .zero).text=⟨#[93]⟩
  ·rw[if_neg (fun hh=>hh.2.1 ⟨c13,ct⟩)]at g5
   subst g5
   have hS:zcB v k (L,j)=match Qp L with|some s=>(s,j+1 - k)|none=>(zS,0):=if_pos c13
   rw[hS]
   clear hS g4
   have c13:=eq_true c13;have ct:=eq_true ct
   have m1:((j:Int)+1) - (k:Int)=((j+1 - k:Nat):Int):=by omega
   have q1:=eq_true (show -9223372036854775808≤(j:Int)+1 by omega)
   have q2:=eq_true (show(j:Int)+1≤9223372036854775807 by omega)
   have q3:=eq_true (show -9223372036854775808≤((j+1 - k:Nat):Int)by omega)
   have q4:=eq_true (show((j+1 - k:Nat):Int)≤9223372036854775807 by omega)
   have hz:Tok.zero.enc= [vi 0,vs ⟨#[]⟩,vi 0]:=rfl
   have hf:∀ {P:Prop}[Decidable P]{x y:Option Smp},¬P→(if P then x else y)=y:=fun h=>if_neg h
   match L,g3,c4 with
   | [],_,_=>
     have hA:Qp []=none:=rfl
     rw[hA]
     simp -implicitDefEqProofs only[c0',c13,ct,f2,List.map_nil,List.map_cons,List.length_cons,List.length_nil,jw,kp,zS,zj,zf,f0,hgj,Int.toNat_natCast,Smp.enc,Tok.enc,zn,List.take_length,zd,zb,za,go_sem,seval,reduceIte,reduceCtorEq]
   | [⟨ak,at',an⟩],_,_=>
     have hA:Qp [⟨ak,at',an⟩]=if ak=2 then some ⟨5,at',⟨#[]⟩⟩else none:=rfl
     rw[hA]
     by_cases h:ak=2
     ·rw[if_pos h];have h:=eq_true h
      simp -implicitDefEqProofs only[c0',c13,ct,f2,h,m1,q1,q2,q3,q4,List.map_nil,List.map_cons,List.length_cons,List.length_nil,jw,kp,zS,zj,zf,f0,hgj,Int.toNat_natCast,Smp.enc,Tok.enc,zn,List.take_length,zd,zb,za,go_sem,seval,reduceIte,reduceCtorEq]
     ·rw[hf h];have h:=eq_false h
      simp -implicitDefEqProofs only[c0',c13,ct,f2,h,List.map_nil,List.map_cons,List.length_cons,List.length_nil,jw,kp,zS,zj,zf,f0,hgj,Int.toNat_natCast,Smp.enc,Tok.enc,zn,List.take_length,zd,zb,za,go_sem,seval,reduceIte,reduceCtorEq]
   | [a,b],_,_=>
     have hA:Qp [a,b]=none:=rfl
     rw[hA]
     simp -implicitDefEqProofs only[c0',c13,ct,f2,List.map_nil,List.map_cons,List.length_cons,List.length_nil,jw,kp,zS,zj,zf,f0,hgj,Int.toNat_natCast,Smp.enc,Tok.enc,zn,List.take_length,zd,zb,za,go_sem,seval,reduceIte,reduceCtorEq]
   | [⟨ak,at',an⟩,⟨bk,bt,bn⟩,⟨ck,ct',cn⟩],_,_=>
     have hd:∀w,dlm [⟨ak,at',an⟩,⟨bk,bt,bn⟩,⟨ck,ct',cn⟩] 1 w=decide (bk=11∧bt=w):=fun w=>by simp[dlm]
     have hdt:zh (.slc 3 [[vi ak,vs at',vi an],[vi bk,vs bt,vi bn],[vi ck,vs ct',vi cn]])= [⟨ak,at',an⟩,⟨bk,bt,bn⟩,⟨ck,ct',cn⟩]:=rfl
     have htk:zj [⟨ak,at',an⟩,⟨bk,bt,bn⟩,⟨ck,ct',cn⟩]= .slc 3 [[vi ak,vs at',vi an],[vi bk,vs bt,vi bn],[vi ck,vs ct',vi cn]]:=rfl
     have hd1:dlm [⟨ak,at',an⟩,⟨bk,bt,bn⟩,⟨ck,ct',cn⟩] 1 ⟨#[61]⟩=decide (bk=11∧bt=⟨#[61]⟩):=hd _
     have hA:Qp [⟨ak,at',an⟩,⟨bk,bt,bn⟩,⟨ck,ct',cn⟩]=if ak=2∧bk=11∧bt=⟨#[61]⟩∧(ck=2∨ck=6)then some ⟨6,at',ct'⟩else none:=rfl
     rw[hA]
     by_cases h:ak=2
     ·cases hb:decide (bk=11∧bt=(⟨#[61]⟩:ByteArray))with
      |false=>
       have hb':=of_decide_eq_false hb
       rw[hb]at hd1
       rw[hf (fun hh=>hb' ⟨hh.2.1,hh.2.2.1⟩)]
       have h:=eq_true h
       simp -implicitDefEqProofs only[c0',c13,ct,f2,h,hdt,htk,hd1,List.map_nil,List.map_cons,List.length_cons,List.length_nil,jw,kp,zS,zj,zf,f0,hgj,Int.toNat_natCast,Smp.enc,Tok.enc,zn,List.take_length,zd,zb,za,go_sem,seval,reduceIte,reduceCtorEq]
      |true=>
       have hb':=of_decide_eq_true hb
       rw[hb]at hd1
       by_cases hc:ck=2
       ·rw[if_pos ⟨h,hb'.1,hb'.2,.inl hc⟩]
        have h:=eq_true h;have hc:=eq_true hc
        simp -implicitDefEqProofs only[c0',c13,ct,f2,h,hc,hdt,htk,hd1,m1,q1,q2,q3,q4,List.map_nil,List.map_cons,List.length_cons,List.length_nil,jw,kp,zS,zj,zf,f0,hgj,Int.toNat_natCast,Smp.enc,Tok.enc,zn,List.take_length,zd,zb,za,go_sem,seval,reduceIte,reduceCtorEq]
       ·by_cases hc6:ck=6
        ·rw[if_pos ⟨h,hb'.1,hb'.2,.inr hc6⟩]
         have h:=eq_true h;have hc:=eq_false hc;have hc6:=eq_true hc6
         simp -implicitDefEqProofs only[c0',c13,ct,f2,h,hc,hc6,hdt,htk,hd1,m1,q1,q2,q3,q4,List.map_nil,List.map_cons,List.length_cons,List.length_nil,jw,kp,zS,zj,zf,f0,hgj,Int.toNat_natCast,Smp.enc,Tok.enc,zn,List.take_length,zd,zb,za,go_sem,seval,reduceIte,reduceCtorEq]
        ·rw[hf (fun hh=>hh.2.2.2.elim hc hc6)]
         have h:=eq_true h;have hc:=eq_false hc;have hc6:=eq_false hc6
         simp -implicitDefEqProofs only[c0',c13,ct,f2,h,hc,hc6,hdt,htk,hd1,List.map_nil,List.map_cons,List.length_cons,List.length_nil,jw,kp,zS,zj,zf,f0,hgj,Int.toNat_natCast,Smp.enc,Tok.enc,zn,List.take_length,zd,zb,za,go_sem,seval,reduceIte,reduceCtorEq]
     ·rw[hf (fun hh=>h hh.1)]
      have h:=eq_false h
      simp -implicitDefEqProofs only[c0',c13,ct,f2,h,hdt,htk,hd1,List.map_nil,List.map_cons,List.length_cons,List.length_nil,jw,kp,zS,zj,zf,f0,hgj,Int.toNat_natCast,Smp.enc,Tok.enc,zn,List.take_length,zd,zb,za,go_sem,seval,reduceIte,reduceCtorEq]
  ·rw[if_pos ⟨c0,fun hh=>ct hh.2,c4⟩,if_neg (by omega)]at g5
   have c1:=eq_false (show ¬knd v j=1 by omega)
   have c13:=eq_true c13;have ct:=eq_false ct
   simp -implicitDefEqProofs only[c0',c13,c1,ct,c4',f2,jw,kp,zS,zj,zf,f0,hgj,Int.toNat_natCast,Smp.enc,Tok.enc,zn,List.take_length,zd,zb,za,go_sem,seval,reduceIte,reduceCtorEq]
   generalize v.getD j .zero=t at*
   exact⟨⟨Nat.le_refl _,by omega,by omega⟩,by omega,⟨j+1,L++ [t],f,_,_⟩,⟨by dsimp only;omega,by dsimp only;omega,by simp;omega,by dsimp only;omega,g5⟩,by dsimp only;omega,⟨⟨rfl,by simp⟩,by dsimp only;omega⟩,⟨rfl,by simp[Tok.enc]⟩,rfl⟩
 ·rw[if_pos ⟨c0,fun hh=>c13 hh.1,c4⟩]at g5
  have c13:=eq_false c13
  by_cases c1:knd v j=1
  ·rw[if_pos c1]at g5
   have c1:=eq_true c1
   simp -implicitDefEqProofs only[c0',c13,c1,c4',f2,jw,kp,zS,zj,zf,f0,hgj,Int.toNat_natCast,Smp.enc,Tok.enc,zn,List.take_length,zd,zb,za,go_sem,seval,reduceIte,reduceCtorEq]
   exact⟨by omega,⟨j+1,L,f,_,_⟩,⟨by dsimp only;omega,by dsimp only;omega,g3,by dsimp only;omega,g5⟩,by dsimp only;omega,⟨⟨rfl,rfl⟩,by dsimp only;omega⟩,⟨rfl,rfl⟩,rfl⟩
  ·rw[if_neg c1]at g5
   have c1:=eq_false c1
   simp -implicitDefEqProofs only[c0',c13,c1,c4',f2,jw,kp,zS,zj,zf,f0,hgj,Int.toNat_natCast,Smp.enc,Tok.enc,zn,List.take_length,zd,zb,za,go_sem,seval,reduceIte,reduceCtorEq]
   generalize v.getD j .zero=t at*
   exact⟨⟨Nat.le_refl _,by omega,by omega⟩,by omega,⟨j+1,L++ [t],f,_,_⟩,⟨by dsimp only;omega,by dsimp only;omega,by simp;omega,by dsimp only;omega,g5⟩,by dsimp only;omega,⟨⟨rfl,by simp⟩,by dsimp only;omega⟩,⟨rfl,by simp[Tok.enc]⟩,rfl⟩
theorem zgM{v:List Tok}{k:Int}(h0:0≤k)(h1:k≤v.length)(hl:v.length≤1000000):zg Tryz.prog 135 [zj v,vi k] (kp (Qt v k.toNat)):=by
 have:=zjn v hl k.toNat (by omega);rwa [Int.toNat_of_nonneg h0]at this
def Qh:Sum Tryz.prog:=⟨135,fun args=>args= [zj (zh (args.getD 0 .any)),vi ((args.getD 1 .any).int)]∧0≤((args.getD 1 .any).int)∧((args.getD 1 .any).int)≤((zh (args.getD 0 .any))).length∧((zh (args.getD 0 .any))).length≤1000000,fun args=>kp (Qt (zh (args.getD 0 .any)) (((args.getD 1 .any).int)).toNat),fun args h=>by
 have:=zgM h.2.1 h.2.2.1 h.2.2.2;rwa [←h.1]at this,false⟩
theorem zpn:Qh.f=135:=rfl
theorem zpm(args:List V):Qh.D args=(args= [zj (zh (args.getD 0 .any)),vi ((args.getD 1 .any).int)]∧0≤((args.getD 1 .any).int)∧((args.getD 1 .any).int)≤((zh (args.getD 0 .any))).length∧((zh (args.getD 0 .any))).length≤1000000):=rfl
theorem zeY:Qh.flat=false:=rfl
theorem zpo(args:List V):Qh.r args=kp (Qt (zh (args.getD 0 .any)) (((args.getD 1 .any).int)).toNat):=rfl
attribute [go_sem] zpn zpm zeY zpo
end Go.Proofs.YtjcmoedalneldaaGreat
section
section
namespace Go.Proofs.YtjcmoedalneldaaGreat
open Go.Sx
set_option linter.unusedSimpArgs false
set_option linter.unusedVariables false
set_option maxHeartbeats 8000000
set_option maxRecDepth 100000
theorem zk3(v:List Tok):∀(f k:Nat)(L:List Tok),k≤v.length→k≤(inF v f k L).2∧(inF v f k L).2≤v.length
 |0,k,L,hk=>by simp only[inF];omega
 |f+1,k,L,hk=>by
  simp only[inF]
  split
  ·rename_i hc
   have hlt:k<v.length:=by
    by_cases h:k<v.length
    ·exact h
    ·exact absurd (by unfold knd;rw[if_neg h]) hc.1
   have:=zk3 v f (k+1) (if knd v k=1 then L else L++ [v.getD k .zero]) (by omega)
   omega
  ·simp only;omega
theorem zgN(v:List Tok)(k:Nat)(hk:k≤v.length):k+(Qt v k).2≤v.length:=by
 unfold Qt
 split
 ·rename_i h1;have:=zdT h1;dsimp only;omega
 split
 ·rename_i h1;have:=(yx h1 (by decide)).1;dsimp only;omega
 split
 ·rename_i h1;have:=(yx h1 (by decide)).1;dsimp only;omega
 split
 ·rename_i h1;have:=(yx h1.2 (by decide)).1;dsimp only;omega
 split
 ·rename_i h1
  have h0:=(yx h1.1 (by decide)).1
  have h2:=zk3 v v.length (k+1) [] (by omega)
  unfold zcB
  split
  ·rename_i h3
   have:=(yx h3 (by decide)).1
   split
   ·dsimp only;omega
   ·dsimp only;omega
  ·dsimp only;omega
 ·dsimp only;omega
def X6(v:List Tok):Nat→Nat→List Smp→List Smp×Nat
 |0,k,L=>(L,k)
 |f+1,k,L=>if(Qt v k).2=0∨(0<L.length∧(Qt v k).1.kind≤2)then(L,k)else X6 v f (k+(Qt v k).2) (L++ [(Qt v k).1])
def JM(v:List Tok)(k:Nat):List Smp×Nat:=X6 v (v.length+1) k []
def onG(w:List Tok):Nat→Nat→Int→List Cmp→Option (List Cmp)
 |0,_,_,_=>none
 |f+1,k,n,L=>
  if ¬k<w.length then none
  else if(JM w k).1.length=0 then none
  else if(JM w k).2=w.length then some (L++ [⟨n,(JM w k).1⟩])
  else if(jF w (JM w k).2).1=0 then none
  else onG w f (jF w (JM w k).2).2 (jF w (JM w k).2).1 (L++ [⟨n,(JM w k).1⟩])
def onS(v:List Tok):Option Sel:=onG (Q8 v) ((Q8 v).length+1) 0 0 []
def zi7:Option Sel→V
 |none=>.tup [.agg [zA],vb false]
 |some s=>.tup [.agg (zX s),vb (decide ((s.length:Int)≤64))]
def onV(o:Option Sel):V:=.tup [.agg (zX (o.getD [])),vb (match o with|none=>false|some s=>decide ((s.length:Int)≤64))]
theorem zr6(o:Option Sel){f:FuncId}{args:List V}(h:zg Tryz.prog f args (zi7 o)):zg Tryz.prog f args (onV o):=by
 cases o with
 |some l=>exact h
 |none=>exact zdp none h
theorem zfB{v:List Tok}:∀(f k:Nat)(L:List Smp),k≤v.length→k≤(X6 v f k L).2∧(X6 v f k L).2≤v.length∧L.length≤(X6 v f k L).1.length∧(X6 v f k L).1.length+k≤L.length+(X6 v f k L).2
 |0,k,L,hk=>by simp only[X6];omega
 |f+1,k,L,hk=>by
  simp only[X6]
  split
  ·simp only;omega
  ·rename_i hc
   have h0:(Qt v k).2≠0:=fun h=>hc (.inl h)
   have h1:=zgN v k hk
   have h2:=zfB (v:=v) f (k+(Qt v k).2) (L++ [(Qt v k).1]) h1
   simp only[List.length_append,List.length_cons,List.length_nil]at h2
   omega
theorem zqU{v:List Tok}(k:Nat)(hk:k≤v.length):k≤(JM v k).2∧(JM v k).2≤v.length∧(JM v k).1.length+k≤(JM v k).2:=by
 have:=zfB (v:=v) (v.length+1) k [] hk
 simp only[List.length_nil]at this
 unfold JM;omega
theorem zdt(S:Nat→Bool)(h:Heap)(j ver off len:Nat):res S h 9 (.ref j ver off len)=
 if S j&&h.cur j ver&&decide (off+len≤(h.blk j).es.length)then(zB (zB (res S h 8)) (((h.blk j).es.drop off).take len)).map (.slc (h.blk j).sz)else none:=rfl
theorem zdk(S:Nat→Bool)(h:Heap)(l:List Smp):zB (zB (res S h 8)) (l.map Smp.enc)=some (l.map Smp.enc):=qH S h 7 _ (fun _=>rfl) l
theorem zbn(S:Nat→Bool)(h:Heap)(e:List V):∀l:List Cmp,zB (zB (res S h 9)) (l.map Cmp.enc++ [e])=(zB (res S h 9) e).map fun e'=>l.map Cmp.enc++ [e']
 | []=>by
   simp only[List.map_nil,List.nil_append,zB]
   cases zB (res S h 9) e<;>rfl
 |c::l=>by
  have hc:zB (res S h 9) c.enc=some c.enc:=rfl
  simp only[List.map_cons,List.cons_append,zB,zbn S h e l,hc]
  cases zB (res S h 9) e<;>rfl
theorem zl0(L:List Cmp)(n:Int)(C:List Smp):L.map Cmp.enc++ [[vi n,.slc 3 (C.map Smp.enc)]]=(L++ [(⟨n,C⟩:Cmp)]).map Cmp.enc:=by simp[Cmp.enc]
theorem zu0{α:Type}(l:List α)(x:α)(n:Nat)(h:l.length=n):(l++ [x]).take (n+1)=l++ [x]:=List.take_of_length_le (by simp;omega)
structure LkG8 where
 j:Nat
 n:Int
 f:Nat
structure OgS8 where
 k:Nat
 n:Int
 L:List Cmp
 f:Nat
 ver:Nat
 clk:Nat
structure CgS8 where
 k:Nat
 C:List Smp
 f:Nat
 ver:Nat
 clk:Nat
def zdI:C:=zai.body.tl.tl.tl.tl.tl.tl.hd.inn.inn
def zdH:C:=(zdI).tl.inn.tl.tl.tl.tl.tl.tl.tl.hd.inn.inn
theorem zrK(w:List Tok)(hwl:w.length≤1000000)(j:Nat)(hj:j≤w.length)(B:List Blk)(clk0:Nat)(w0:World)(o0:Sx.Own)(Q:yy)(e:Nat→V)(h:Heap)
  (start:St ⟨Tryz.prog,(Orc.cons ZN (Orc.cons Qh (Orc.cons Zf (Orc.cons Z4 (Orc.nil _))))),102,w0,o0⟩ [(0,.slc 3 (w.map Tok.enc)),(2,.ptr 0 0 0 0),(6,.ptr 1 1 0 0),(7,vi j),(8,vi 0)] ⟨B,clk0⟩ e h)
  (hQ:∀(e':Nat→V),e' 0= .slc 3 (w.map Tok.enc)→e' 2= .ptr 0 0 0 0→e' 6= .ptr 1 1 0 0→e' 7=vi (jF w j).2→e' 8=vi (jF w j).1→Q (.exit 4) e' ⟨B,clk0⟩):
  zD ⟨Tryz.prog,(Orc.cons ZN (Orc.cons Qh (Orc.cons Zf (Orc.cons Z4 (Orc.nil _))))),102,w0,o0⟩ (.loop (zdH)) Q e h:=by
 unfold jF at hQ
 generalize hR:QJ w (w.length+1) j 0=R at hQ
 refine zD.lp (α:=LkG8) (fun x=>[(0,.slc 3 (w.map Tok.enc)),(2,.ptr 0 0 0 0),(6,.ptr 1 1 0 0),(7,vi x.j),(8,vi x.n)]) (fun x=>⟨B,clk0⟩)
  (fun x=>x.j≤w.length∧(x.n=0∨x.n=1∨x.n=2)∧w.length+1≤x.f+x.j∧QJ w x.f x.j x.n=R) (fun x=>w.length - x.j) ⟨j,0,w.length+1⟩
  ⟨hj,.inl rfl,by dsimp only;omega,hR⟩ start fun x hx=> ?_
 obtain⟨k,n,f⟩:=x
 obtain⟨h1,h2,h3,h4⟩:=hx
 simp only at h1 h2 h3 h4
 obtain⟨f,rfl⟩:∃g,f=g+1:=⟨f - 1,by omega⟩
 have e0:(0:Int)≤(k:Int):=by omega
 simp only[QJ]at h4
 have key:∀m:Int,(m=0∨m=1∨m=2)→k<w.length→QJ w f (k+1) m=R→∃x:LkG8,(x.j≤w.length∧(x.n=0∨x.n=1∨x.n=2)∧w.length+1≤x.f+x.j∧QJ w x.f x.j x.n=R)∧w.length - x.j<w.length - k∧((k:Int)+1=x.j∧m=x.n)∧List.take B.length B=B:=
  fun m hm hkl hR=>⟨⟨k+1,m,f⟩,⟨by dsimp only;omega,hm,by dsimp only;omega,hR⟩,by dsimp only;omega,⟨by dsimp only;omega,rfl⟩,List.take_length⟩
 by_cases c1:knd w k=1
 ·obtain⟨hkl,hk1⟩:=yx c1 (by decide)
  rw[if_pos (.inl c1),if_neg (by omega)]at h4
  have c11:=eq_false (show ¬knd w k=11 by omega)
  have c1:=eq_true c1
  rcases h2 with rfl|rfl|rfl
  ·simp -implicitDefEqProofs only[zdH,zdI,zai,C.tl,C.hd,C.inn,e0,c1,c11,zj,zf,Int.toNat_natCast,zd,zb,za,go_sem,seval,reduceIte,reduceCtorEq]
   exact⟨by omega,key 1 (by omega) hkl h4⟩
  ·simp -implicitDefEqProofs only[zdH,zdI,zai,C.tl,C.hd,C.inn,e0,c1,c11,zj,zf,Int.toNat_natCast,zd,zb,za,go_sem,seval,reduceIte,reduceCtorEq]
   exact⟨by omega,key 1 (by omega) hkl h4⟩
  ·simp -implicitDefEqProofs only[zdH,zdI,zai,C.tl,C.hd,C.inn,e0,c1,c11,zj,zf,Int.toNat_natCast,zd,zb,za,go_sem,seval,reduceIte,reduceCtorEq]
   exact⟨by omega,key 2 (by omega) hkl h4⟩
 ·by_cases c2:n≠2∧dlm w k ⟨#[62]⟩=true
  ·obtain⟨c2,c3⟩:=c2
   have hd:=of_decide_eq_true c3
   have hk11:knd w k=11:=by unfold knd;rw[if_pos hd.1];exact hd.2.1
   rw[if_pos (.inr ⟨c2,c3⟩),if_pos hk11]at h4
   have c1:=eq_false c1
   have hk11:=eq_true hk11
   rcases h2 with rfl|rfl|rfl
   ·simp -implicitDefEqProofs only[zdH,zdI,zai,C.tl,C.hd,C.inn,e0,c1,c3,hk11,zj,zf,Int.toNat_natCast,zd,zb,za,go_sem,seval,reduceIte,reduceCtorEq]
    exact⟨by omega,key 2 (by omega) hd.1 h4⟩
   ·simp -implicitDefEqProofs only[zdH,zdI,zai,C.tl,C.hd,C.inn,e0,c1,c3,hk11,zj,zf,Int.toNat_natCast,zd,zb,za,go_sem,seval,reduceIte,reduceCtorEq]
    exact⟨by omega,key 2 (by omega) hd.1 h4⟩
   ·exact absurd rfl c2
  ·rw[if_neg (by rintro(h|h); ·exact c1 h
                 ·exact c2 h)]at h4
   subst h4
   have c1:=eq_false c1
   by_cases c3:n=2
   ·subst c3
    cases c4:dlm w k ⟨#[62]⟩with
    |true=>
     simp -implicitDefEqProofs only[zdH,zdI,zai,C.tl,C.hd,C.inn,e0,c1,c4,zj,zf,Int.toNat_natCast,zd,zb,za,go_sem,seval,reduceIte,reduceCtorEq]
     exact hQ _ (by simp[zk,zp]) (by simp[zk,zp]) (by simp[zk,zp]) (by simp[zk,zp]) (by simp[zk,zp])
    |false=>
     simp -implicitDefEqProofs only[zdH,zdI,zai,C.tl,C.hd,C.inn,e0,c1,c4,zj,zf,Int.toNat_natCast,zd,zb,za,go_sem,seval,reduceIte,reduceCtorEq]
     exact hQ _ (by simp[zk,zp]) (by simp[zk,zp]) (by simp[zk,zp]) (by simp[zk,zp]) (by simp[zk,zp])
   ·have c4:dlm w k ⟨#[62]⟩=false:=by
     cases hh:dlm w k ⟨#[62]⟩with
     |false=>rfl
     |true=>exact absurd ⟨c3,hh⟩ c2
    simp -implicitDefEqProofs only[zdH,zdI,zai,C.tl,C.hd,C.inn,e0,c1,c4,zj,zf,Int.toNat_natCast,zd,zb,za,go_sem,seval,reduceIte,reduceCtorEq]
    exact hQ _ (by simp[zk,zp]) (by simp[zk,zp]) (by simp[zk,zp]) (by simp[zk,zp]) (by simp[zk,zp])
theorem zxN(v:List Tok)(hv:v.length≤1000000):zg Tryz.prog 111 [zj v] (onV (onS v)):=by
 refine zr6 _ ?_
 unfold onS
 have htr:=ze8 v
 have htv:trV v= .tup [vi (trA v),vi (trB v)]:=rfl
 have hcut:List.take (trB v - trA v) (List.drop (trA v) (v.map Tok.enc))=(Q8 v).map Tok.enc:=by unfold Q8;rw[List.map_drop,List.map_take,List.drop_take]
 have hwl:=Q9 v
 have b1:=eq_true (show((trA v:Nat):Int)≤((trB v:Nat):Int)by omega)
 have b2:=eq_true (show((trB v:Nat):Int)≤(v.length:Int)by omega)
 have b0:=eq_true (show(0:Int)≤((trA v:Nat):Int)by omega)
 have hwl:(Q8 v).length≤1000000:=by omega
 generalize Q8 v=w at*
 generalize trA v=ta at*
 generalize trB v=tb at*
 generalize hR:onG w (w.length+1) 0 0 []=R
 refine zg.of (Orc.cons ZN (Orc.cons Qh (Orc.cons Zf (Orc.cons Z4 (Orc.nil _))))) zv8 (by simp[zai]) fun w0 o0=> ?_
 simp -implicitDefEqProofs only[zai,zj,zf,hv,htv,hcut,b0,b1,b2,Int.toNat_natCast,zd,zb,za,go_sem,seval,reduceIte,reduceCtorEq]
 refine zD.lp (α:=OgS8) (fun x=>[(0,.slc 3 (w.map Tok.enc)),(2,.ptr 0 0 0 0),(6,.ptr 1 1 0 0),(7,vi x.k),(8,vi x.n)])
  (fun x=>⟨[⟨0,1,[[zA]],false,[]⟩,⟨1,1,[[.ref 2 x.ver 0 x.L.length]],false,[]⟩,⟨x.ver,2,x.L.map Cmp.enc,false,[vi 0,zA]⟩],x.clk⟩)
  (fun x=>x.k≤w.length∧x.L.length≤x.k∧w.length+1≤x.f+x.k∧onG w x.f x.k x.n x.L=R) (fun x=>w.length+1 - x.k) ⟨0,0,[],w.length+1,2,3⟩
  ⟨Nat.zero_le _,by simp,by dsimp only;omega,hR⟩ (St.cell 1 0 0 2 [vi 0,zA] rfl rfl (St.cut ?_ ?_ ?_)) fun x hx=> ?_
 ·simp[zu,zk,zt]
 ·simp[Heap.alloc]
 ·rfl
 clear hR htr htv hcut b0 b1 b2 hv
 obtain⟨k,n,L,f,ver,clk⟩:=x
 obtain⟨h1,h2,h3,h4⟩:=hx
 simp only at h1 h2 h3 h4
 obtain⟨f,rfl⟩:∃g,f=g+1:=⟨f - 1,by omega⟩
 simp only[onG]at h4
 by_cases hk:k<w.length
 case neg=>
  rw[if_pos hk]at h4
  subst h4
  have hk:=eq_false (show ¬(k:Int)<(w.length:Int)by omega)
  simp -implicitDefEqProofs only[hk,zi7,zn,zd,zb,za,go_sem,seval,reduceIte,reduceCtorEq]
 rw[if_neg (by omega)]at h4
 have hk':=eq_true (show(k:Int)<(w.length:Int)by omega)
 have hcr:=zqU (v:=w) k h1
 generalize hcg:JM w k=cg at*
 obtain⟨C0,j0⟩:=cg
 simp only at hcr h4
 simp -implicitDefEqProofs only[hk',zd,zb,za,go_sem,seval,reduceIte,reduceCtorEq]
 refine zD.lp (α:=CgS8) (fun x=>[(0,.slc 3 (w.map Tok.enc)),(2,.ptr 0 0 0 0),(6,.ptr 1 1 0 0),(7,vi x.k),(8,vi n),(9,.ptr 3 clk 0 0)])
  (fun x=>⟨[⟨0,1,[[zA]],false,[]⟩,⟨1,1,[[.ref 2 ver 0 L.length]],false,[]⟩,⟨ver,2,L.map Cmp.enc,false,[vi 0,zA]⟩,⟨clk,2,[[vi n,.ref 4 x.ver 0 x.C.length]],false,[]⟩,⟨x.ver,3,x.C.map Smp.enc,false,[vi 0,vs ⟨#[]⟩,vs ⟨#[]⟩]⟩],x.clk⟩)
  (fun x=>x.k≤w.length∧x.C.length≤x.k∧w.length+1≤x.f+x.k∧X6 w x.f x.k x.C=(C0,j0)) (fun x=>w.length+1 - x.k) ⟨k,[],w.length+1,clk+1,clk+2⟩
  ⟨h1,by simp,by dsimp only;omega,hcg⟩ (St.cell 3 0 1 3 [vi 0,vs ⟨#[]⟩,vs ⟨#[]⟩] rfl rfl (St.cut ?_ ?_ ?_)) fun x hx=> ?_
 ·simp[zu,zk,zp]
 ·simp[Heap.alloc]
 ·rfl
 obtain⟨j,C,g,v2,q9⟩:=x
 obtain⟨i1,i2,i3,i4⟩:=hx
 simp only at i1 i2 i3 i4
 obtain⟨g,rfl⟩:∃g',g=g'+1:=⟨g - 1,by omega⟩
 simp only[X6]at i4
 have e0:(0:Int)≤(j:Int):=by omega
 have e1:(j:Int)≤(w.length:Int):=by omega
 have hsr:=zgN w j i1
 generalize hsm:Qt w j=sr at*
 obtain⟨⟨sk,stx,sv⟩,m⟩:=sr
 simp only at hsr i4
 by_cases hx:m=0∨(0<C.length∧sk≤2)
 case neg=>
  rw[if_neg hx]at i4
  have hm:¬m=0:=fun h=>hx (.inl h)
  have m0:=eq_false (show ¬(m:Int)=0 by omega)
  by_cases q1:0<C.length
  ·have q2:=eq_false (fun h=>hx (.inr ⟨q1,h⟩))
   have q1:=eq_true (show(0:Int)<(C.length:Int)by omega)
   simp -implicitDefEqProofs only[e0,e1,hwl,hsm,kp,m0,q1,q2,Smp.enc,zj,zf,Int.toNat_natCast,zd,zb,za,go_sem,seval,reduceIte,reduceCtorEq]
   exact⟨⟨Nat.le_refl _,by omega,by omega⟩,by omega,⟨j+m,C++ [⟨sk,stx,sv⟩],g,_,_⟩,⟨by dsimp only;omega,by simp;omega,by dsimp only;omega,i4⟩,by dsimp only;omega,by dsimp only;omega,⟨⟨rfl,by simp⟩,rfl,by simp[Smp.enc]⟩,rfl⟩
  ·have q1:=eq_false (show ¬(0:Int)<(C.length:Int)by omega)
   simp -implicitDefEqProofs only[e0,e1,hwl,hsm,kp,m0,q1,Smp.enc,zj,zf,Int.toNat_natCast,zd,zb,za,go_sem,seval,reduceIte,reduceCtorEq]
   exact⟨⟨Nat.le_refl _,by omega,by omega⟩,by omega,⟨j+m,C++ [⟨sk,stx,sv⟩],g,_,_⟩,⟨by dsimp only;omega,by simp;omega,by dsimp only;omega,i4⟩,by dsimp only;omega,by dsimp only;omega,⟨⟨rfl,by simp⟩,rfl,by simp[Smp.enc]⟩,rfl⟩
 rw[if_pos hx]at i4
 obtain⟨rfl,rfl⟩:=Prod.mk.inj i4
 by_cases c0:C.length=0
 ·rw[if_pos c0]at h4
  subst h4
  have hm:m=0:=by rcases hx with h|h;exact h;omega
  have m0:=eq_true (show(m:Int)=0 by omega)
  have c0:=eq_true (show(C.length:Int)=0 by omega)
  simp -implicitDefEqProofs only[e0,e1,hwl,hsm,kp,m0,c0,zi7,zn,Smp.enc,zj,zf,Int.toNat_natCast,zd,zb,za,go_sem,seval,reduceIte,reduceCtorEq]
 rw[if_neg c0]at h4
 have c0':=eq_false (show ¬(C.length:Int)=0 by omega)
 have q1:=eq_true (show(0:Int)<(C.length:Int)by omega)
 have htl:L.take L.length=L:=List.take_length
 have hTk:=zu0 (L.map Cmp.enc) [vi n,V.ref 4 v2 0 C.length] L.length (by simp)
 have hsn:=zl0 L n C
 by_cases c3:j=w.length
 ·rw[if_pos c3]at h4
  subst h4
  have c3:=eq_true (show(j:Int)=(w.length:Int)by omega)
  by_cases hm:m=0
  ·have m0:=eq_true (show(m:Int)=0 by omega)
   simp -implicitDefEqProofs only[e0,e1,hwl,hsm,kp,m0,c0',c3,zi7,zX,zn,htl,hTk,hsn,yP,zdt,zbn,zdk,Smp.enc,zj,zf,Int.toNat_natCast,zd,zb,za,go_sem,seval,reduceIte,reduceCtorEq]
   refine⟨⟨Nat.le_refl _,by omega,by omega⟩,?_⟩
   rw[if_pos (by simp),if_pos (Nat.le_refl _),List.take_length]
   show some (V.tup [V.agg [V.slc 2 (L.map Cmp.enc++ [[vi n,.slc 3 (C.map Smp.enc)]])],_])=_
   rw[hsn,List.length_append];rfl
  ·have m0:=eq_false (show ¬(m:Int)=0 by omega)
   have q2:=eq_true (show sk≤2 by rcases hx with h|h;exact absurd h hm;exact h.2)
   simp -implicitDefEqProofs only[e0,e1,hwl,hsm,kp,m0,q1,q2,c0',c3,zi7,zX,zn,htl,hTk,hsn,yP,zdt,zbn,zdk,Smp.enc,zj,zf,Int.toNat_natCast,zd,zb,za,go_sem,seval,reduceIte,reduceCtorEq]
   refine⟨⟨Nat.le_refl _,by omega,by omega⟩,?_⟩
   rw[if_pos (by simp),if_pos (Nat.le_refl _),List.take_length]
   show some (V.tup [V.agg [V.slc 2 (L.map Cmp.enc++ [[vi n,.slc 3 (C.map Smp.enc)]])],_])=_
   rw[hsn,List.length_append];rfl
 rw[if_neg c3]at h4
 have c3':=eq_false (show ¬(j:Int)=(w.length:Int)by omega)
 by_cases hm:m=0
 ·have m0:=eq_true (show(m:Int)=0 by omega)
  simp -implicitDefEqProofs only[e0,e1,hwl,hsm,kp,m0,c0',c3',zn,Smp.enc,zj,zf,Int.toNat_natCast,zd,zb,za,go_sem,seval,reduceIte,reduceCtorEq]
  refine⟨⟨Nat.le_refl _,by omega,by omega⟩,zrK w hwl j i1 [⟨0,1,[[zA]],false,[]⟩,⟨1,1,[[.ref 2 (q9+1+1) 0 (L.length+1)]],false,[]⟩,⟨q9+1+1,2,(L++ [(⟨n,C⟩:Cmp)]).map Cmp.enc,false,[vi 0,zA]⟩] (q9+1+1+1) w0 o0 _ _ _ ?_ (fun e' t0 t2 t6 t7 t8=> ?_)⟩
  ·have hge:=zf2 (L.map Cmp.enc) [vi n,V.ref 4 v2 0 C.length] []
   have hse:=zlm (L.map Cmp.enc) [vi n,V.ref 4 v2 0 C.length] [vi n,.slc 3 (C.map Smp.enc)]
   rw[List.length_map]at hge hse
   rw[htl]
   refine St.sealC (fun j=>j==4) 2 L.length 1 (y:=.slc 3 (C.map Smp.enc)) rfl ?_ (St.cut ?_ ?_ ?_)
   ·simp only[hge,List.getD_cons_zero,List.getD_cons_succ]
    rw[Wo]
    have ht3:(C.map Smp.enc).take C.length=C.map Smp.enc:=List.take_of_length_le (by simp)
    simp[Heap.cur,Heap.blk,ht3]
    exact Jr _ _ C
   ·simp[zu,zk,zp]
   ·simp only[Heap.freeze,List.mapIdx_cons,List.mapIdx_nil,List.set_cons_succ,List.set_cons_zero,List.length_cons,List.length_nil,Nat.zero_add,List.take_succ_cons,List.take_zero,hge,hse,hsn]
    rfl
   ·rfl
  have hlk:=QK (v:=w) j i1
  generalize jF w j=q at*
  obtain⟨m',k2⟩:=q
  simp only at hlk h4 t7 t8
  by_cases c4:m'=0
  ·rw[if_pos c4]at h4
   subst h4
   have c4':=eq_true c4
   simp -implicitDefEqProofs only[t0,t2,t6,t7,t8,c4',zi7,zn,Smp.enc,zj,zf,Int.toNat_natCast,zd,zb,za,go_sem,seval,reduceIte,reduceCtorEq]
  ·rw[if_neg c4]at h4
   have c4':=eq_false c4
   simp -implicitDefEqProofs only[t0,t2,t6,t7,t8,c4',Smp.enc,zj,zf,Int.toNat_natCast,zd,zb,za,go_sem,seval,reduceIte,reduceCtorEq]
   have hm:=hlk.2 c4
   exact⟨⟨k2,m',L++ [⟨n,C⟩],f,_,_⟩,⟨hlk.1,by simp;omega,by dsimp only;omega,h4⟩,by dsimp only;omega,⟨rfl,rfl⟩,⟨⟨rfl,by simp⟩,rfl,rfl⟩,rfl⟩
 ·have m0:=eq_false (show ¬(m:Int)=0 by omega)
  have q2:=eq_true (show sk≤2 by rcases hx with h|h;exact absurd h hm;exact h.2)
  simp -implicitDefEqProofs only[e0,e1,hwl,hsm,kp,m0,q1,q2,c0',c3',zn,Smp.enc,zj,zf,Int.toNat_natCast,zd,zb,za,go_sem,seval,reduceIte,reduceCtorEq]
  refine⟨⟨Nat.le_refl _,by omega,by omega⟩,zrK w hwl j i1 [⟨0,1,[[zA]],false,[]⟩,⟨1,1,[[.ref 2 (q9+1+1) 0 (L.length+1)]],false,[]⟩,⟨q9+1+1,2,(L++ [(⟨n,C⟩:Cmp)]).map Cmp.enc,false,[vi 0,zA]⟩] (q9+1+1+1) w0 o0 _ _ _ ?_ (fun e' t0 t2 t6 t7 t8=> ?_)⟩
  ·have hge:=zf2 (L.map Cmp.enc) [vi n,V.ref 4 v2 0 C.length] []
   have hse:=zlm (L.map Cmp.enc) [vi n,V.ref 4 v2 0 C.length] [vi n,.slc 3 (C.map Smp.enc)]
   rw[List.length_map]at hge hse
   rw[htl]
   refine St.sealC (fun j=>j==4) 2 L.length 1 (y:=.slc 3 (C.map Smp.enc)) rfl ?_ (St.cut ?_ ?_ ?_)
   ·simp only[hge,List.getD_cons_zero,List.getD_cons_succ]
    rw[Wo]
    have ht3:(C.map Smp.enc).take C.length=C.map Smp.enc:=List.take_of_length_le (by simp)
    simp[Heap.cur,Heap.blk,ht3]
    exact Jr _ _ C
   ·simp[zu,zk,zp]
   ·simp only[Heap.freeze,List.mapIdx_cons,List.mapIdx_nil,List.set_cons_succ,List.set_cons_zero,List.length_cons,List.length_nil,Nat.zero_add,List.take_succ_cons,List.take_zero,hge,hse,hsn]
    rfl
   ·rfl
  have hlk:=QK (v:=w) j i1
  generalize jF w j=q at*
  obtain⟨m',k2⟩:=q
  simp only at hlk h4 t7 t8
  by_cases c4:m'=0
  ·rw[if_pos c4]at h4
   subst h4
   have c4':=eq_true c4
   simp -implicitDefEqProofs only[t0,t2,t6,t7,t8,c4',zi7,zn,Smp.enc,zj,zf,Int.toNat_natCast,zd,zb,za,go_sem,seval,reduceIte,reduceCtorEq]
  ·rw[if_neg c4]at h4
   have c4':=eq_false c4
   simp -implicitDefEqProofs only[t0,t2,t6,t7,t8,c4',Smp.enc,zj,zf,Int.toNat_natCast,zd,zb,za,go_sem,seval,reduceIte,reduceCtorEq]
   have hm:=hlk.2 c4
   exact⟨⟨k2,m',L++ [⟨n,C⟩],f,_,_⟩,⟨hlk.1,by simp;omega,by dsimp only;omega,h4⟩,by dsimp only;omega,⟨rfl,rfl⟩,⟨⟨rfl,by simp⟩,rfl,rfl⟩,rfl⟩
def WD:Sum Tryz.prog:=⟨111,fun args=>args= [zj (zh (args.getD 0 .any))]∧((zh (args.getD 0 .any))).length≤1000000,fun args=>onV (onS (zh (args.getD 0 .any))),fun args h=>by
 have:=zxN (zh (args.getD 0 .any)) h.2;rwa [←h.1]at this,false⟩
theorem zt3:WD.f=111:=rfl
theorem zt2(args:List V):WD.D args=(args= [zj (zh (args.getD 0 .any))]∧((zh (args.getD 0 .any))).length≤1000000):=rfl
theorem zhx:WD.flat=false:=rfl
theorem zt4(args:List V):WD.r args=onV (onS (zh (args.getD 0 .any))):=rfl
attribute [go_sem] zt3 zt2 zhx zt4
end Go.Proofs.YtjcmoedalneldaaGreat
end
section
namespace Go.Proofs.YtjcmoedalneldaaGreat
open Go.Sx
set_option linter.unusedSimpArgs false
set_option linter.unusedVariables false
set_option maxHeartbeats 8000000
set_option maxRecDepth 100000
def zbD(l:List Tok):List (Int×Int)→Option (List Sel)
 | []=>some []
 |p::ps=>match onS ((l.take p.2.toNat).drop p.1.toNat)with|none=>none|some s=>if s.length≤64 then(zbD l ps).map (s:: ·)else none
def psG(l:List Tok):Option (List Sel):=if yq l=true then none else zbD l (Wu l)
theorem zmS(l:List Tok)(P:List (Int×Int))(k:Nat)(h:k<P.length):zbD l (P.drop k)=match onS ((l.take (P.getD k (0,0)).2.toNat).drop (P.getD k (0,0)).1.toNat)with|none=>none|some s=>if s.length≤64 then(zbD l (P.drop (k+1))).map (s:: ·)else none:=by
 rw[List.drop_eq_getElem_cons h,List.getD_eq_getElem?_getD,List.getElem?_eq_getElem h];rfl
def spR(args:List V):Prop:=args= [zj (zh (args.getD 0 .any)),zE (zz (zh (args.getD 0 .any))),vi 0,vi (zh (args.getD 0 .any)).length,vi 16]∧yq (zh (args.getD 0 .any))=false∧(zh (args.getD 0 .any)).length≤1000000
def KL:Sum Tryz.prog:=⟨110,spR,fun args=>prs (Wu (zh (args.getD 0 .any))),fun args h=>(by
 have:=znb (zh (args.getD 0 .any)) h.2.1 h.2.2
 rwa [←h.1]at this),false⟩
theorem zpt:KL.f=110:=rfl
theorem zps(args:List V):KL.D args=spR args:=rfl
theorem ze0:KL.flat=false:=rfl
theorem zpu(args:List V):KL.r args=prs (Wu (zh (args.getD 0 .any))):=rfl
attribute [go_sem] zpt zps ze0 zpu
theorem zmP(l:List Tok)(h1:l.length≤1000000):zg Tryz.prog 85 [zj l] (zbE (psG l)):=by
 refine zdr _ ?_
 unfold psG
 cases hd:yq l with
 |true=>
  rw[if_pos rfl]
  have he:jP l=3:=by unfold jP;rw[if_pos hd]
  refine zg.of (Orc.cons zaf (Orc.cons KL (Orc.cons WD (Orc.nil _)))) zqL (by simp[c85]) fun w0 o0=> ?_
  simp -implicitDefEqProofs only[c85,zj,zE,ZW,ZX,zf,zW,h1,he,W7,zd,zb,za,qR,qQ,yo,qS,go_sem,seval,reduceIte,reduceCtorEq]
 |false=>
  rw[if_neg (by simp)]
  have he:jP l=0:=by unfold jP;rw[hd];rfl
  obtain⟨hPl,hPr⟩:=zbP hd
  have hsp:spR [.slc 3 (l.map Tok.enc),.slc 1 ((zz l).map fun n=>[vi n]),vi 0,vi l.length,vi 16]:=by
   have e:zh (.slc 3 (l.map Tok.enc))=l:=zf 3 l
   exact⟨by simp only[List.getD_cons_zero,e,zj,zE],by simp only[List.getD_cons_zero,e];exact hd,by simp only[List.getD_cons_zero,e];exact h1⟩
  generalize hP:Wu l=P at*
  generalize hR:zbD l P=R
  refine zg.of (Orc.cons zaf (Orc.cons KL (Orc.cons WD (Orc.nil _)))) zqL (by simp[c85]) fun w0 o0=> ?_
  simp -implicitDefEqProofs only[c85,zj,zE,ZW,ZX,zf,zW,h1,he,hsp,hP,prs,zd,zb,za,qR,qQ,yo,qS,go_sem,seval,reduceIte,reduceCtorEq]
  refine zD.lp (α:=QrS8) (fun a=>[(0,.slc 3 (l.map Tok.enc)),(6,.ref 0 a.ver 0 a.out.length),(7,.slc 2 (P.map fun p=>[vi p.1,vi p.2])),(8,vi a.k)])
   (fun a=>⟨[⟨a.ver,1,a.out.map zX,false,[zA]⟩],a.clk⟩) (fun a=>a.k≤P.length∧a.out.length=a.k∧(zbD l (P.drop a.k)).map (a.out++ ·)=R) (fun a=>P.length - a.k) ⟨0,[],0,1⟩
   ⟨Nat.zero_le _,rfl,by rw[←hR];simp only[List.drop_zero,List.nil_append];cases zbD l P<;>rfl⟩ (St.nil 6 1 [zA] (by simp[zk]) (St.cut ?_ ?_ ?_)) fun a ha=> ?_
  ·simp[zu,zk,zt]
  ·simp[Heap.alloc]
  ·rfl
  obtain⟨k,out,ver,clk⟩:=a
  obtain⟨h2,h3,h4⟩:=ha
  simp only at h2 h3 h4
  have hot:out.take out.length=out:=List.take_length
  by_cases hk:k=P.length
  ·subst hk
   rw[List.drop_length]at h4
   simp only[zbD,Option.map_some,List.append_nil]at h4
   subst h4
   simp -implicitDefEqProofs only[Int.lt_irrefl,hot,W7,k9,Jq,Nat.le_refl,zd,zb,za,qR,qQ,yo,qS,go_sem,seval,reduceIte,reduceCtorEq]
  ·have e1:(k:Int)<(P.length:Int):=by omega
   have e0:(0:Int)≤(k:Int):=by omega
   have hlt:k<P.length:=by omega
   rw[zmS l P k hlt]at h4
   have hg:=za9 P k
   have hmem:P.getD k (0,0)∈P:=by rw[List.getD_eq_getElem?_getD,List.getElem?_eq_getElem hlt];exact List.getElem_mem _
   have hr:=hPr _ hmem
   clear hmem
   generalize P.getD k (0,0)=p at*
   obtain⟨a,b⟩:=p
   simp only at hr h4 hg
   obtain⟨a,rfl⟩:∃n:Nat,a=n:=⟨a.toNat,by omega⟩
   obtain⟨b,rfl⟩:∃n:Nat,b=n:=⟨b.toNat,by omega⟩
   obtain⟨r1,r2,r3⟩:=hr
   have hcut:List.take (b - a) (List.drop a (l.map Tok.enc))=((l.take b).drop a).map Tok.enc:=by rw[List.map_drop,List.map_take,List.drop_take]
   have hul:((l.take b).drop a).length≤1000000:=by simp;omega
   simp only[Int.toNat_natCast]at h4
   generalize(l.take b).drop a=v at*
   cases ho:onS v with
   |none=>
    rw[ho]at h4
    simp only[Option.map_none]at h4
    subst h4
    simp -implicitDefEqProofs only[e0,e1,hg,r1,r2,r3,hcut,hul,ho,onV,zX,Option.getD_none,W7,zj,zf,zd,zb,za,qR,qQ,yo,qS,go_sem,seval,reduceIte,reduceCtorEq]
   |some s=>
    rw[ho]at h4
    simp only at h4
    by_cases h6:s.length≤64
    ·rw[if_pos h6]at h4
     have h6':=eq_true (show(s.length:Int)≤64 by omega)
     have h7:=eq_false (show ¬(64:Int)<(s.length:Int)by omega)
     simp -implicitDefEqProofs only[e0,e1,hg,r1,r2,r3,hcut,hul,ho,hot,h6',h7,onV,zX,decide_true,Option.getD_some,zj,zf,zd,zb,za,qR,qQ,yo,qS,go_sem,seval,reduceIte,reduceCtorEq]
     refine⟨⟨Nat.le_refl _,by omega,by omega⟩,by omega,⟨k+1,out++ [s],_,_⟩,⟨by dsimp only;omega,by simp;omega,?_⟩,by dsimp only;omega,⟨⟨rfl,by simp⟩,by dsimp only;omega⟩,⟨rfl,by simp[zX]⟩,rfl⟩
     rw[←h4];cases zbD l (P.drop (k+1))<;>simp
    ·rw[if_neg h6]at h4
     simp only[Option.map_none]at h4
     subst h4
     have h6':=eq_false (show ¬(s.length:Int)≤64 by omega)
     simp -implicitDefEqProofs only[e0,e1,hg,r1,r2,r3,hcut,hul,ho,hot,h6',onV,zX,decide_false,Option.getD_some,W7,zj,zf,zd,zb,za,qR,qQ,yo,qS,go_sem,seval,reduceIte,reduceCtorEq]
def zcc:Sum Tryz.prog:=⟨85,fun args=>args= [zj (zh (args.getD 0 .any))]∧((zh (args.getD 0 .any))).length≤1000000,fun args=>zbE (psG (zh (args.getD 0 .any))),fun args h=>by
 have:=zmP (zh (args.getD 0 .any)) h.2;rwa [←h.1]at this,false⟩
theorem zt9:zcc.f=85:=rfl
theorem zt8(args:List V):zcc.D args=(args= [zj (zh (args.getD 0 .any))]∧((zh (args.getD 0 .any))).length≤1000000):=rfl
theorem zhz:zcc.flat=false:=rfl
theorem zua(args:List V):zcc.r args=zbE (psG (zh (args.getD 0 .any))):=rfl
attribute [go_sem] zt9 zt8 zhz zua
end Go.Proofs.YtjcmoedalneldaaGreat
end
section
namespace Go.Proofs.YtjcmoedalneldaaGreat
open Go.Sx
set_option linter.unusedSimpArgs false
set_option linter.unusedVariables false
set_option maxHeartbeats 4000000
set_option maxRecDepth 100000
end Go.Proofs.YtjcmoedalneldaaGreat
end
section
namespace Go.Proofs.YtjcmoedalneldaaGreat
open Go.Sx
set_option linter.unusedSimpArgs false
set_option linter.unusedVariables false
set_option maxHeartbeats 8000000
set_option maxRecDepth 100000
end Go.Proofs.YtjcmoedalneldaaGreat
end
end
namespace Go.Proofs.YtjcmoedalneldaaGreat
open Go.Sx
set_option linter.unusedSimpArgs false
set_option linter.unusedVariables false
set_option maxHeartbeats 8000000
set_option maxRecDepth 100000
theorem zCA{t:Tok}(h:t.kind=13):zG t=⟨#[]⟩:=by unfold zG;simp[h]
def plT(t:Tok):Prop:=zG t=⟨#[]⟩∧t.kind≠13
theorem Kt{v:List Tok}{k m:Nat}(hp:∀j,k<j→j<m→plT (v.getD j .zero)):∀d,k+1+d≤m→opn v (k+1+d)=opn v (k+1)
 |0,_=>rfl
 |d+1,h=>by
  have h1:=hp (k+1+d) (by omega) (by omega)
  rw[show k+1+(d+1)=(k+1+d)+1 by omega,ZE h1.1 (fun hh=>h1.2 hh.2.1),Kt hp d (by omega)]
theorem zbj(st:List Int)(k:Int):(st++ [k]).getD ((st++ [k]).length - 1) 0=k:=by simp[List.getD_eq_getElem?_getD]
theorem zc7{v:List Tok}{k i:Nat}(ho:opn v (k+1)=opn v k++ [(k:Int)])(h:opn v (i+1)=opn v (k+1)):¬jA v k i:=by
 unfold jA
 rw[h,ho]
 rintro(h1|h1)
 ·omega
 ·exact h1 (zbj _ _)
theorem zmh{v:List Tok}{k m:Nat}(hc:¬zG (v.getD k .zero)=⟨#[]⟩)(hk:k<m)(hm:m<v.length)(hp:∀j,k<j→j<m→plT (v.getD j .zero))(h13:(v.getD m .zero).kind=13)(ht:zG (v.getD k .zero)=(v.getD m .zero).text):Qq v k=m:=by
 have ho:opn v (k+1)=opn v k++ [(k:Int)]:=ke hc
 have hmm:opn v m=opn v k++ [(k:Int)]:=by
  have:=Kt hp (m - (k+1)) (by omega)
  rw[show k+1+(m - (k+1))=m by omega]at this
  rw[this,ho]
 have hpop:opn v (m+1)=opn v k:=by
  rw[Ku ⟨zCA h13,h13,by rw[hmm];simp,by rw[hmm,zbj,Int.toNat_natCast];exact ht⟩,hmm]
  simp
 have hcm:jA v k m:=by unfold jA;rw[hpop,ho];left;simp
 unfold Qq
 rw[if_neg hc,zaA (m - (k+1)) (k+1) (by omega) (fun i h1 h2=>zc7 ho (by
  have:=Kt hp (i+1 - (k+1)) (by omega)
  rwa [show k+1+(i+1 - (k+1))=i+1 by omega]at this)),show k+1+(m - (k+1))=m by omega,J0 v k m hm,if_pos hcm]
theorem ziL{v:List Tok}{k e:Nat}(hc:¬zG (v.getD k .zero)=⟨#[]⟩)(hk:k<e)(he:e<v.length)(h:Qq v k=e)(hp:∀j,k<j→j<e→plT (v.getD j .zero)):(v.getD e .zero).kind=13∧zG (v.getD k .zero)=(v.getD e .zero).text:=by
 have ho:opn v (k+1)=opn v k++ [(k:Int)]:=ke hc
 have hmm:opn v e=opn v k++ [(k:Int)]:=by
  have:=Kt hp (e - (k+1)) (by omega)
  rw[show k+1+(e - (k+1))=e by omega]at this
  rw[this,ho]
 unfold Qq at h
 rw[if_neg hc]at h
 rcases zkX v k (v.length - (k+1)) (k+1) (by omega)with h1|⟨m,h1,h2,h3,h4,h5⟩
 ·omega
 ·have:m=e:=by omega
  subst this
  by_cases c:zG (v.getD m .zero)=⟨#[]⟩
  ·by_cases p:Xf v (opn v m) m
   ·obtain⟨_,p1,_,p2⟩:=p
    rw[hmm,zbj,Int.toNat_natCast]at p2
    exact⟨p1,p2⟩
   ·exact absurd h4 (zc7 ho (by rw[ZE c p,hmm,ho]))
  ·exfalso
   have:=ke c
   rw[hmm]at this
   unfold jA at h4
   rw[this,ho]at h4
   rcases h4 with h4|h4
   ·simp at h4
   ·apply h4;simp[List.getD_eq_getElem?_getD]
theorem zsw{v:List Tok}{k m:Nat}(h:k<m)(hm:m≤v.length):(v.take m).drop k=v.getD k .zero::(v.take m).drop (k+1):=by
 rw[List.drop_eq_getElem_cons (by rw[List.length_take];omega),List.getElem_take,List.getD_eq_getElem?_getD,List.getElem?_eq_getElem (by omega)];rfl
theorem zx8{v:List Tok}{k m j:Nat}(h1:k≤j)(h2:j<m)(hm:m≤v.length):v.getD j .zero∈(v.take m).drop k:=by
 rw[List.mem_iff_getElem]
 refine⟨j - k,by rw[List.length_drop,List.length_take];omega,?_⟩
 rw[List.getElem_drop,List.getElem_take,List.getD_eq_getElem?_getD,List.getElem?_eq_getElem (by omega)]
 simp[show k+(j - k)=j by omega]
theorem ziX{v:List Tok}{j:Nat}(h:j<v.length):knd v j=(v.getD j .zero).kind:=by unfold knd;rw[if_pos h]
def zrt(v:List Tok)(j:Nat):Prop:=knd v j=13∧txt v j=⟨#[93]⟩
theorem zf5(v:List Tok):∀(f k:Nat)(L:List Tok),k≤v.length→k≤(inF v f k L).2∧(inF v f k L).2≤v.length∧(inF v f k L).1=L++kpT ((v.take (inF v f k L).2).drop k)∧(∀j,k≤j→j<(inF v f k L).2→¬zrt v j)∧(v.length≤k+f→knd v (inF v f k L).2=0∨zrt v (inF v f k L).2∨4≤(inF v f k L).1.length)
 |0,k,L,hk=>by
  have e:(v.take k).drop k= []:=List.drop_eq_nil_of_le (by rw[List.length_take];omega)
  refine⟨Nat.le_refl _,hk,?_,fun j h1 h2=> ?_,fun h=>.inl ?_⟩
  ·simp only[inF];rw[e];simp[kpT]
  ·simp only[inF]at h2;omega
  ·simp only[inF];unfold knd;rw[if_neg (by omega)]
 |f+1,k,L,hk=>by
  simp only[inF]
  split
  ·rename_i hc
   have hlt:k<v.length:=by
    by_cases h:k<v.length
    ·exact h
    ·exact absurd (by unfold knd;rw[if_neg h]) hc.1
   obtain⟨h1,h2,h3,h4,h5⟩:=zf5 v f (k+1) (if knd v k=1 then L else L++ [v.getD k .zero]) (by omega)
   generalize inF v f (k+1) (if knd v k=1 then L else L++ [v.getD k .zero])=r at*
   refine⟨by omega,h2,?_,fun j g1 g2=> ?_,fun h=>h5 (by omega)⟩
   ·rw[h3,zsw (k:=k) (by omega) h2,ziX hlt]
    unfold kpT
    by_cases c:(v.getD k .zero).kind=1
    ·rw[if_pos c,List.filter_cons_of_neg (by simpa using c)]
    ·rw[if_neg c,List.filter_cons_of_pos (by simpa using c),List.append_assoc];rfl
   ·by_cases e:j=k
    ·subst e;exact hc.2.1
    ·exact h4 j (by omega) g2
  ·rename_i hc
   have e:(v.take k).drop k= []:=List.drop_eq_nil_of_le (by rw[List.length_take];omega)
   refine⟨Nat.le_refl _,hk,by simp only;rw[e];simp[kpT],fun j h1 h2=>by simp only at h2;omega,fun h=> ?_⟩
   simp only
   by_cases c1:knd v k=0
   ·exact .inl c1
   ·by_cases c2:zrt v k
    ·exact .inr (.inl c2)
    ·exact .inr (.inr (by
      by_cases c3:L.length<4
      ·exact absurd ⟨c1,c2,c3⟩ hc
      ·omega))
theorem K6{L:List Tok}{s:Smp}(h:Qp L=some s):L.length≤3∧∀t∈L,t.kind=2∨t.kind=11∨t.kind=6:=by
 unfold Qp at h
 split at h
 ·rename_i a
  split at h
  ·rename_i c;exact⟨by simp,fun t ht=>by rw[List.mem_singleton.1 ht];exact .inl c⟩
  ·cases h
 ·rename_i a b c
  split at h
  ·rename_i d
   refine⟨by simp,fun t ht=> ?_⟩
   have:t=a∨t=b∨t=c:=by simpa using ht
   rcases this with rfl|rfl|rfl
   ·exact .inl d.1
   ·exact .inr (.inl d.2.1)
   ·rcases d.2.2.2 with x|x
    ·exact .inl x
    ·exact .inr (.inr x)
  ·cases h
 ·cases h
theorem zdu{v:List Tok}{k m:Nat}{s:Smp}(hm:m≤v.length)(h:Qp (kpT ((v.take m).drop (k+1)))=some s):∀j,k<j→j<m→plT (v.getD j .zero)∧(v.getD j .zero).kind≠0:=fun j h1 h2=>by
 have hmem:=zx8 (v:=v) (k:=k+1) (show k+1≤j by omega) h2 hm
 have hk:(v.getD j .zero).kind=1∨(v.getD j .zero).kind=2∨(v.getD j .zero).kind=11∨(v.getD j .zero).kind=6:=by
  by_cases c:(v.getD j .zero).kind=1
  ·exact .inl c
  ·exact .inr ((K6 h).2 _ (List.mem_filter.2 ⟨hmem,by simpa using c⟩))
 generalize v.getD j .zero=t at*
 refine⟨⟨?_,by omega⟩,by omega⟩
 unfold zG
 rw[if_neg (by omega),if_neg (by omega),if_neg (by omega)]
theorem zA5{t:Tok}(h:t.kind=12)(h2:t.text=⟨#[91]⟩):zG t=⟨#[93]⟩:=by unfold zG;rw[h,h2];decide
theorem zB1{v:List Tok}(hd:yq v=false){k:Nat}(hk:k≤v.length):
  ((yJ v k).ok=true→Qt v k=((yJ v k).s,(yJ v k).to - k))∧((yJ v k).ok=false→(Qt v k).2=0):=by
 unfold yJ Qt
 by_cases c1:dlm v k ⟨#[42]⟩=true
 ·rw[if_pos c1,if_pos c1];exact⟨fun _=>by simp,fun h=>by cases h⟩
 rw[if_neg c1,if_neg c1]
 by_cases c2:knd v k=2
 ·rw[if_pos c2,if_pos c2];exact⟨fun _=>by simp,fun h=>by cases h⟩
 rw[if_neg c2,if_neg c2]
 by_cases c3:knd v k=5
 ·rw[if_pos c3,if_pos c3];exact⟨fun _=>by simp,fun h=>by cases h⟩
 rw[if_neg c3,if_neg c3]
 by_cases c4:dlm v k ⟨#[46]⟩=true∧knd v (k+1)=2
 ·rw[if_pos c4,if_pos c4];exact⟨fun _=>by simp,fun h=>by cases h⟩
 rw[if_neg c4,if_neg c4]
 by_cases c5:knd v k=12∧txt v k=⟨#[91]⟩
 case neg=>
  rw[if_neg (fun h=>c5 ⟨h.1,h.2.1⟩),if_neg c5]
  exact⟨fun h=>(by cases h),fun _=>rfl⟩
 rw[if_pos c5]
 obtain⟨hkl,hk12⟩:=yx c5.1 (by decide)
 have hkt:(v.getD k .zero).text=⟨#[91]⟩:=c5.2
 have hsq:=zA5 hk12 hkt
 have hc:¬zG (v.getD k .zero)=⟨#[]⟩:=by rw[hsq];decide
 obtain⟨i1,i2,i3,i4,i5⟩:=zf5 v v.length (k+1) [] (by omega)
 have i5:=i5 (by omega)
 have hE:=za0 hd c5.1 c5.2
 rw[Zl v hd k hkl]at hE⊢
 generalize hr:inF v v.length (k+1) []=r at*
 rw[List.nil_append]at i3
 by_cases g:∃s,knd v r.2=13∧Qp r.1=some s
 ·obtain⟨s,g1,g2⟩:=g
  have hlt:r.2<v.length:=(yx g1 (by decide)).1
  have h3:=(K6 g2).1
  have hcl:zrt v r.2:=by
   rcases i5 with h|h|h
   ·omega
   ·exact h
   ·omega
  have hpl:=zdu (k:=k) i2 (by rw[←i3];exact g2)
  have he:=zmh hc (by omega) hlt (fun j a b=>(hpl j a b).1) (yx hcl.1 (by decide)).2 (by rw[hsq];exact hcl.2.symm)
  have hs:zcB v k r=(s,r.2+1 - k):=by unfold zcB;rw[if_pos g1,g2]
  rw[he,if_pos ⟨c5.1,c5.2,by omega⟩,Int.toNat_natCast,hs]
  have ha:JG ((v.take r.2).drop (k+1))=some s:=by rw[←g2,i3];rfl
  rw[ha]
  exact⟨fun _=>rfl,fun h=>by cases h⟩
 ·have hz:zcB v k r=(zS,0):=by
   unfold zcB
   split
   ·rename_i g1
    split
    ·rename_i s ha;exact absurd ⟨s,g1,ha⟩ g
    ·rfl
   ·rfl
  rw[hz]
  split
  ·rename_i q
   obtain⟨e,he⟩:∃e:Nat,Qq v k=e:=⟨(Qq v k).toNat,by omega⟩
   rw[he,Int.toNat_natCast]
   have hel:e<v.length:=by have:=q.2.2;omega
   cases ha:JG ((v.take e).drop (k+1))with
   |none=>exact⟨fun h=>(by cases h),fun _=>rfl⟩
   |some s=>
    exfalso
    have ha':Qp (kpT ((v.take e).drop (k+1)))=some s:=ha
    have hpl:=zdu (k:=k) (by omega) ha'
    have h13:=ziL hc (by omega) hel he (fun j a b=>(hpl j a b).1)
    have hcl:zrt v e:=⟨by rw[ziX hel];exact h13.1,by have:=h13.2;rw[hsq]at this;exact this.symm⟩
    have hle:r.2≤e:=by
     by_cases h:r.2≤e
     ·exact h
     ·exact absurd hcl (i4 e (by omega) (by omega))
    have hq:r.2=e:=by
     by_cases h:r.2=e
     ·exact h
     ·exfalso
      have hlt:r.2<e:=by omega
      have h1:=hpl r.2 (by omega) hlt
      rcases i5 with h|h|h
      ·rw[ziX (by omega)]at h;exact h1.2 h
      ·exact h1.1.2 (yx h.1 (by decide)).2
      ·have hsub:(kpT ((v.take r.2).drop (k+1))).length≤(kpT ((v.take e).drop (k+1))).length:=by
        have e1:(v.take e).drop (k+1)=(v.take r.2).drop (k+1)++(v.take e).drop r.2:=by
         have e2:v.take r.2=(v.take e).take r.2:=by rw[List.take_take,Nat.min_eq_left hle]
         rw[e2]
         have e3:((v.take e).take r.2).drop (k+1)++(v.take e).drop r.2=(((v.take e).take r.2)++(v.take e).drop r.2).drop (k+1):=by
          rw[List.drop_append_of_le_length (by rw[List.length_take,List.length_take];omega)]
         rw[e3,List.take_append_drop]
        rw[e1];unfold kpT;rw[List.filter_append,List.length_append];omega
       have:=(K6 ha').1
       rw[i3]at h
       omega
    exact g ⟨s,by rw[hq];exact hcl.1,by rw[i3,hq];exact ha'⟩
  ·exact⟨fun h=>(by cases h),fun _=>rfl⟩
theorem zy5{v:List Tok}(hd:yq v=false):∀(f k:Nat)(L:List Smp),k≤v.length→X6 v f k L=JN v f k L
 |0,_,_,_=>rfl
 |f+1,k,L,hk=>by
  obtain⟨h1,h2⟩:=zB1 hd hk
  have hB:=Xn hd k hk
  rw[X6,JN]
  cases ho:(yJ v k).ok with
  |false=>rw[if_pos (.inl (h2 ho)),if_pos (.inl rfl)]
  |true=>
   have e:=h1 ho
   obtain⟨b1,b2⟩:=hB ho
   rw[e]
   simp only
   by_cases c:0<L.length∧(yJ v k).s.kind≤2
   ·rw[if_pos (.inr c),if_pos (.inr c)]
   ·rw[if_neg (by rintro(h|h);omega;exact c h),if_neg (by rintro(h|h);cases h;exact c h),show k+((yJ v k).to - k)=(yJ v k).to by omega]
    exact zy5 hd f _ _ b2
theorem zA6{v:List Tok}(hd:yq v=false){k:Nat}(hk:k≤v.length):JM v k=j5 v k:=zy5 hd _ k [] hk
theorem zld{w:List Tok}:∀(f k:Nat)(n:Int)(L:List Cmp)(s:Sel),onG w f k n L=some s→L.length<s.length
 |0,_,_,_,_,h=>by cases h
 |f+1,k,n,L,s,h=>by
  rw[onG]at h
  split at h
  ·cases h
  split at h
  ·cases h
  split at h
  ·obtain rfl:=Option.some.inj h;simp
  split at h
  ·cases h
  ·have:=zld f _ _ _ s h;simp at this;omega
theorem zzh{w:List Tok}(hd:yq w=false):∀(f k:Nat)(n:Int)(L:List Cmp),k≤w.length→L.length≤64→zd7 w f k n L=(onG w f k n L).bind fun s=>if s.length≤64 then some s else none
 |0,_,_,_,_,_=>rfl
 |f+1,k,n,L,hk,hL=>by
  have h1:=zaQ (Xn hd) k hk
  have hl:=zld (w:=w) (f+1) k n L
  have hcr:=zA6 hd hk
  rw[onG]at hl
  rw[zd7,onG]
  rw[hcr]at hl⊢
  by_cases c0:(j5 w k).1.length=0
  ·rw[if_pos (.inl c0)]
   by_cases c:¬k<w.length
   ·rw[if_pos c];rfl
   ·rw[if_neg c,if_pos c0];rfl
  have hkl:¬ ¬k<w.length:=by omega
  rw[if_neg hkl,if_neg c0]at hl
  rw[if_neg hkl,if_neg c0]
  by_cases c1:L.length=64
  ·rw[if_pos (.inr c1)]
   symm
   rw[Option.bind_eq_none_iff]
   intro s hs
   have:=hl s hs
   rw[if_neg (by omega)]
  rw[if_neg (by rintro(h|h);exact c0 h;exact c1 h)]
  by_cases c2:(j5 w k).2=w.length
  ·rw[if_pos c2,if_pos c2]
   show _=if(L++ [_]).length≤64 then _ else _
   rw[if_pos (by simp;omega)]
  rw[if_neg c2,if_neg c2]
  by_cases c3:(jF w (j5 w k).2).1=0
  ·rw[if_pos c3,if_pos c3];rfl
  rw[if_neg c3,if_neg c3]
  exact zzh hd f _ _ _ (QK _ h1.2.1).1 (by simp;omega)
theorem zxQ{v:List Tok}(hv:v.length≤64):Xd v=(onS v).bind fun s=>if s.length≤64 then some s else none:=by
 have hl:=Q9 v
 have hd:=ziG (a:=Q8 v) (by omega)
 unfold Xd zle onS
 rw[hd,if_neg (by simp)]
 exact zzh hd _ 0 0 [] (Nat.zero_le _) (by simp)
theorem zsf{l:List Tok}(hl:l.length≤64):∀P:List (Int×Int),zbD l P=Xg l P
 | []=>rfl
 |p::ps=>by
  rw[zbD,Xg,zxQ (by rw[List.length_drop,List.length_take];omega)]
  cases onS ((l.take p.2.toNat).drop p.1.toNat)with
  |none=>rfl
  |some s=>
   simp only[Option.bind_some]
   by_cases c:s.length≤64
   ·rw[if_pos c,if_pos c,zsf hl ps]
   ·rw[if_neg c,if_neg c]
theorem zBM{l:List Tok}(hl:l.length≤64):psG l=psC l:=by
 unfold psG psC
 rw[zsf hl]
theorem zse(s:ByteArray)(hs:s.size≤1000000):zg Tryz.prog 53 [vs s] (vi (prN s)):=by
 refine zg.of (Orc.cons Qc (Orc.nil _)) zAt (by simp[c53]) fun w0 o0=> ?_
 simp -implicitDefEqProofs only[c53,zd,zb,za,go_sem,seval,reduceIte,reduceCtorEq]
 have hF:prN s=fst (fun i=>decide (jG s=prW.getD i ⟨#[]⟩)) (8 - 0) 0:=rfl
 rw[hF]
 generalize hR:fst (fun i=>decide (jG s=prW.getD i ⟨#[]⟩)) (8 - 0) 0=R
 refine zD.lp (α:=Nat) (fun k=>[(0,vs s),(3,.ref 0 0 0 8),(4,vi k)]) (fun _=>⟨[⟨0,1,prW.map fun s=>[vs s],false,[vs ⟨#[]⟩]⟩],1⟩)
  (fun k=>k≤8∧fst (fun i=>decide (jG s=prW.getD i ⟨#[]⟩)) (8 - k) k=R) (fun k=>8 - k) 0 ⟨Nat.zero_le _,hR⟩ (St.cut ?_ ?_ ?_) fun k hk=> ?_
 ·simp[zu,zk,zt,zp,prW]
 ·simp[prW]
 ·rfl
 clear hR hF
 obtain⟨h1,h2⟩:=hk
 have hl:prW.length=8:=rfl
 by_cases he:k=8
 ·subst he
  have h2:(-1:Int)=R:=h2
  subst h2
  simp -implicitDefEqProofs only[List.length_map,hl,Int.lt_irrefl,Int.cast_ofNat_Int,hs,zd,zb,za,go_sem,seval,reduceIte,reduceCtorEq]
 ·have f1:=eq_true (show(k:Int)<8 by omega)
  have f0:=eq_true (show(0:Int)≤(k:Int)by omega)
  have hg:∀z,(prW.map fun s=>[vs s]).getD k z= [vs (prW.getD k ⟨#[]⟩)]:=fun z=>by
   rw[List.getD_eq_getElem?_getD,List.getElem?_map,List.getElem?_eq_getElem (by rw[hl];omega),List.getD_eq_getElem?_getD,List.getElem?_eq_getElem (by rw[hl];omega)];rfl
  rw[kV _ _ _ (by omega)]at h2
  generalize prW.getD k ⟨#[]⟩=u at*
  by_cases c:jG s=u
  ·rw[if_pos (decide_eq_true c)]at h2
   subst h2
   have c:=eq_true c.symm
   simp -implicitDefEqProofs only[List.length_map,hl,f0,f1,hg,c,Int.cast_ofNat_Int,hs,zd,zb,za,go_sem,seval,reduceIte,reduceCtorEq]
   omega
  ·rw[if_neg (by rw[decide_eq_false c];simp)]at h2
   have c:=eq_false (Ne.symm c)
   simp -implicitDefEqProofs only[List.length_map,hl,f0,f1,hg,c,Int.cast_ofNat_Int,hs,zd,zb,za,go_sem,seval,reduceIte,reduceCtorEq]
   exact⟨by omega,⟨by omega,by omega⟩,k+1,⟨by omega,h2⟩,by omega,by omega⟩
def XP:Sum Tryz.prog:=⟨53,fun args=>args= [vs ((args.getD 0 .any).str)]∧(((args.getD 0 .any).str)).size≤1000000,fun args=>vi (prN ((args.getD 0 .any).str)),fun args h=>by
 have:=zse ((args.getD 0 .any).str) h.2;rwa [←h.1]at this,true⟩
theorem zo5:XP.f=53:=rfl
theorem zo4(args:List V):XP.D args=(args= [vs ((args.getD 0 .any).str)]∧(((args.getD 0 .any).str)).size≤1000000):=rfl
theorem zeS:XP.flat=true:=rfl
theorem zo6(args:List V):XP.r args=vi (prN ((args.getD 0 .any).str)):=rfl
attribute [go_sem] zo5 zo4 zeS zo6
theorem zhY(k:Int)(v:List Tok)(hv:okQ v):zg Tryz.prog 54 [vi k,zj v] (vb (JB k v)):=by
 have hT:=hv.1
 refine zg.of (Orc.cons Kx (Orc.cons YI (Orc.cons KM (Orc.cons KN (Orc.cons KK (Orc.nil _)))))) zAu (by simp[c54]) fun w0 o0=> ?_
 unfold JB
 by_cases h:k=0∨k=1∨k=2∨k=3∨k=4∨k=5∨k=6∨k=7
 ·rcases h with rfl|rfl|rfl|rfl|rfl|rfl|rfl|rfl<;>
   simp -implicitDefEqProofs only[c54,zaw,Xb,spV,zbQ,jI,zj,hv,hT,zf,List.isEmpty_cons,List.isEmpty_nil,zd,zb,za,go_sem,seval,reduceIte,reduceCtorEq]
 ·have n0:=eq_false (show ¬k=0 by omega)
  have n1:=eq_false (show ¬k=1 by omega)
  have n2:=eq_false (show ¬k=2 by omega)
  have n3:=eq_false (show ¬k=3 by omega)
  have n4:=eq_false (show ¬k=4 by omega)
  have n5:=eq_false (show ¬k=5 by omega)
  have n6:=eq_false (show ¬k=6 by omega)
  have n7:=eq_false (show ¬k=7 by omega)
  by_cases c:3≤k
  ·have c1:=eq_true c
   have c2:=eq_false (show ¬k≤5 by omega)
   simp -implicitDefEqProofs only[c54,zj,n0,n1,n2,n3,n4,n5,n6,n7,c1,c2,hv,hT,zf,List.isEmpty_cons,List.isEmpty_nil,zd,zb,za,go_sem,seval,reduceIte,reduceCtorEq]
  ·have c1:=eq_false c
   simp -implicitDefEqProofs only[c54,zj,n0,n1,n2,n3,n4,n5,n6,n7,c1,hv,hT,zf,List.isEmpty_cons,List.isEmpty_nil,zd,zb,za,go_sem,seval,reduceIte,reduceCtorEq]
def XU:Sum Tryz.prog:=⟨54,fun args=>args= [vi ((args.getD 0 .any).int),zj (zh (args.getD 1 .any))]∧okQ (zh (args.getD 1 .any)),fun args=>vb (JB ((args.getD 0 .any).int) (zh (args.getD 1 .any))),fun args h=>by
 have:=zhY ((args.getD 0 .any).int) (zh (args.getD 1 .any)) h.2;rwa [←h.1]at this,true⟩
theorem zpI:XU.f=54:=rfl
theorem zpH(args:List V):XU.D args=(args= [vi ((args.getD 0 .any).int),zj (zh (args.getD 1 .any))]∧okQ (zh (args.getD 1 .any))):=rfl
theorem ze5:XU.flat=true:=rfl
theorem zpJ(args:List V):XU.r args=vb (JB ((args.getD 0 .any).int) (zh (args.getD 1 .any))):=rfl
attribute [go_sem] zpI zpH ze5 zpJ
structure WtS11 where
 n:Nat
 w:W3
 b:Bool
 clk:Nat
theorem ze9(r:Rul)(l:List Node)(k:Int)(hr:shR r)(hl:l.length≤1000)(hn:jS l)(hE:isE l k=true):zg Tryz.prog 52 [.agg r.enc,zo l,vi k] (.tup [.agg (abC r l k).1.enc,vb (abC r l k).2]):=by
 have hp:=hr.1.1
 obtain⟨kd,pre,ds,ms⟩:=r
 simp only at hp
 unfold isE at hE
 simp only[Bool.and_eq_true,Bool.not_eq_true',decide_eq_true_eq,decide_eq_false_iff_not]at hE
 obtain⟨⟨hD,hk0,hk1⟩,_⟩:=hE
 have hP:=zfN hl hn ((zfM l).1 hD)
 have hM:okM ((psC pre).getD []):=by
  cases h:psC pre with
  |none=>exact⟨by simp,fun i hi=>by simp at hi⟩
  |some a=>exact zlb (by omega) h
 have hp6:pre.length≤1000000:=by omega
 have hps:psG pre=psC pre:=zBM (by omega)
 refine zg.of (Orc.cons zcc (Orc.cons XR (Orc.cons QT (Orc.cons XV (Orc.cons Kw (Orc.nil _)))))) zAs (by simp[c52]) fun w0 o0=> ?_
 unfold abC
 simp only
 generalize hO:psC pre=o at*
 generalize hS:o.getD []=S at*
 generalize ho:o.isSome=q at*
 generalize hR:Ja l k (⟨0,0,0⟩,false) S=R
 have hZ:∀(cd:Prop)[Decidable cd],cd=(kd=1)→(if cd then(if q=true then R else(⟨0,0,0⟩,false))else(⟨0,0,0⟩,false))=if kd=1∧q=true then R else((⟨0,0,0⟩:W3),false):=fun cd _ e=>by
  subst e
  by_cases h1:kd=1
  ·rw[if_pos h1]
   cases q with
   |true=>rw[if_pos rfl,if_pos ⟨h1,rfl⟩]
   |false=>rw[if_neg (by simp),if_neg (fun h=>by cases h.2)]
  ·rw[if_neg h1,if_neg (fun h=>h1 h.1)]
 rw[hZ _ rfl]
 clear hZ
 simp -implicitDefEqProofs only[c52,Rul.enc,hps,hS,ho,hp6,zbE,k9,zo,W3.enc,zj,zf,List.isEmpty_cons,zd,zb,za,go_sem,seval,reduceIte,reduceCtorEq]
 refine zD.lp (α:=WtS11) (fun a=>[(1,.slc 6 (l.map Node.enc)),(2,vi k),(3,.ptr 0 0 0 0),(6,.ptr 1 1 0 0),(8,.ptr 2 2 0 0),(9,vb a.b),(10,.slc 1 (S.map zX)),(11,vb q),(12,vi a.n)])
  (fun a=>⟨[⟨0,4,[[vi kd,.slc 3 (pre.map Tok.enc),.slc 3 (ds.map Dcl.enc),.slc 2 (ms.map Mg.enc)]],false,[]⟩,⟨1,3,[[vi 0,vi 0,vi 0]],false,[]⟩,⟨2,3,[a.w.enc],false,[]⟩],a.clk⟩)
  (fun a=>a.n≤S.length∧(if kd=1∧q=true then Ja l k (a.w,a.b) (S.drop a.n)=R else a.w=⟨0,0,0⟩∧a.b=false)) (fun a=>S.length - a.n) ⟨0,⟨0,0,0⟩,false,3⟩ ⟨Nat.zero_le _,by split;exact hR;exact⟨rfl,rfl⟩⟩ (St.cut ?_ ?_ ?_) fun a ha=> ?_
 ·simp[zu,zk,zt,zp]
 ·simp[W3.enc]
 ·rfl
 clear hR
 obtain⟨n,w,b,clk⟩:=a
 obtain⟨k1,k2⟩:=ha
 simp only at k1 k2
 by_cases hA:kd=1∧q=true
 case neg=>
  rw[if_neg hA]at k2⊢
  obtain⟨rfl,rfl⟩:=k2
  by_cases c1:n=S.length
  ·have e1:=eq_false (show ¬(n:Int)<(S.length:Int)by omega)
   simp -implicitDefEqProofs only[e1,List.length_map,W3.enc,yQ,qp,zd,zb,za,go_sem,seval,reduceIte,reduceCtorEq]
  ·have e1:=eq_true (show(n:Int)<(S.length:Int)by omega)
   cases q with
   |false=>simp -implicitDefEqProofs only[e1,List.length_map,W3.enc,yQ,qp,zd,zb,za,go_sem,seval,reduceIte,reduceCtorEq]
   |true=>
    have c2:=eq_false (show ¬kd=1 from fun h=>hA ⟨h,rfl⟩)
    simp -implicitDefEqProofs only[e1,c2,List.length_map,W3.enc,yQ,qp,zd,zb,za,go_sem,seval,reduceIte,reduceCtorEq]
 rw[if_pos hA]at k2⊢
 obtain⟨rfl,rfl⟩:=hA
 by_cases he:n=S.length
 ·subst he
  rw[List.drop_length]at k2
  have e:(w,b)=R:=k2
  subst e
  have e1:=eq_false (show ¬(S.length:Int)<(S.length:Int)by omega)
  obtain⟨wa,wb,wc⟩:=w
  simp -implicitDefEqProofs only[e1,List.length_map,W3.enc,yQ,qp,zd,zb,za,go_sem,seval,reduceIte,reduceCtorEq]
 have e1:=eq_true (show(n:Int)<(S.length:Int)by omega)
 have e0:=eq_true (show(0:Int)≤(n:Int)by omega)
 have hlt:n<S.length:=by omega
 have hSl:=hM.1
 have hg:=Kl S n [.c (.slice none 0 0)] hlt
 have hoc:=hM.2 n hlt
 rw[zc2 l k _ S n hlt]at k2
 generalize hx:S.getD n []=x at*
 have hM1:=zla hoc
 have hds:ql (.slc 1 [[.slc 2 (x.map Cmp.enc)]])= [x]:=Wb [x]
 have hi:isM l k x=(Ye [x]&&upN l x (x.length - 1) k.toNat):=by unfold isM;rw[hD,decide_eq_true ⟨hk0,hk1⟩,Bool.true_and,Bool.true_and]
 have hkn:k.toNat<l.length:=by omega
 have hgb:=za8 (jH l x (x.length - 1)) k.toNat
 rw[zbK l x _ k.toNat hkn]at hgb
 have hrl:=eq_true (show k<((jH l x (x.length - 1)).length:Int)by rw[ZF];exact hk1)
 have hk0:=eq_true hk0
 obtain⟨wa,wb,wc⟩:=w
 cases hr1:Ye [x]with
 |false=>
  have hp:zah l k (⟨wa,wb,wc⟩,b) x=(⟨wa,wb,wc⟩,b):=by unfold zah;rw[hi,hr1,if_neg (by simp)]
  rw[hp]at k2
  simp -implicitDefEqProofs only[e0,e1,hg,hM1,hds,hr1,zX,k9,W3.enc,List.length_map,List.map_cons,List.map_nil,zd,zb,za,go_sem,seval,reduceIte,reduceCtorEq]
  exact⟨by omega,⟨n+1,⟨wa,wb,wc⟩,b,clk+1⟩,⟨by dsimp only;omega,k2⟩,by dsimp only;omega,⟨rfl,by dsimp only;omega⟩,⟨rfl,rfl,rfl⟩,rfl⟩
 |true=>
  obtain⟨r1,_⟩:=zgB hr1
  cases hu:upN l x (x.length - 1) k.toNat with
  |false=>
   have hp:zah l k (⟨wa,wb,wc⟩,b) x=(⟨wa,wb,wc⟩,b):=by unfold zah;rw[hi,hr1,hu,if_neg (by simp)]
   rw[hp]at k2
   simp -implicitDefEqProofs only[e0,e1,hg,hM1,hds,hr1,hu,hP,hoc,r1,hgb,hrl,hk0,kv,zo,zr,zfK,zX,k9,W3.enc,List.length_map,List.map_cons,List.map_nil,zd,zb,za,go_sem,seval,reduceIte,reduceCtorEq]
   exact⟨by omega,⟨n+1,⟨wa,wb,wc⟩,b,clk+1⟩,⟨by dsimp only;omega,k2⟩,by dsimp only;omega,⟨rfl,by dsimp only;omega⟩,⟨rfl,rfl,rfl⟩,rfl⟩
  |true=>
   have hp:zah l k (⟨wa,wb,wc⟩,b) x=if b=false∨abv (wtS x) ⟨wa,wb,wc⟩=true then(wtS x,true)else(⟨wa,wb,wc⟩,b):=by unfold zah;rw[hi,hr1,hu];rfl
   rw[hp]at k2
   generalize hW:wtS x=W at*
   obtain⟨va,vb',vc⟩:=W
   generalize hAb:abv ⟨va,vb',vc⟩ ⟨wa,wb,wc⟩=T at*
   cases b<;>cases T<;>simp only[Bool.false_eq_true,or_self,or_true,true_or,or_false,if_true,if_false,reduceCtorEq]at k2<;>
    simp -implicitDefEqProofs only[e0,e1,hg,hM1,hds,hr1,hu,hP,hoc,r1,hgb,hrl,hk0,hW,hAb,Ya,kv,zo,zr,zfK,zX,k9,W3.enc,List.length_map,List.map_cons,List.map_nil,zd,zb,za,go_sem,seval,reduceIte,reduceCtorEq]
   all_goals first
    |exact⟨by omega,⟨n+1,⟨va,vb',vc⟩,true,clk+2⟩,⟨by dsimp only;omega,k2⟩,by dsimp only;omega,⟨rfl,by dsimp only;omega⟩,⟨rfl,rfl,rfl⟩,rfl⟩
    |exact⟨by omega,⟨n+1,⟨wa,wb,wc⟩,true,clk+2⟩,⟨by dsimp only;omega,k2⟩,by dsimp only;omega,⟨rfl,by dsimp only;omega⟩,⟨rfl,rfl,rfl⟩,rfl⟩
def Q6:Sum Tryz.prog:=⟨52,fun args=>args= [.agg (Rul.enc (YS (args.getD 0 .any))),zo (zl (args.getD 1 .any)),vi ((args.getD 2 .any).int)]∧shR (YS (args.getD 0 .any))∧((zl (args.getD 1 .any))).length≤1000∧jS (zl (args.getD 1 .any))∧isE (zl (args.getD 1 .any)) ((args.getD 2 .any).int)=true,fun args=>.tup [.agg (abC (YS (args.getD 0 .any)) (zl (args.getD 1 .any)) ((args.getD 2 .any).int)).1.enc,vb (abC (YS (args.getD 0 .any)) (zl (args.getD 1 .any)) ((args.getD 2 .any).int)).2],fun args h=>by
 have:=ze9 (YS (args.getD 0 .any)) (zl (args.getD 1 .any)) ((args.getD 2 .any).int) h.2.1 h.2.2.1 h.2.2.2.1 h.2.2.2.2;rwa [←h.1]at this,false⟩
theorem zkm:Q6.f=52:=rfl
theorem zkl(args:List V):Q6.D args=(args= [.agg (Rul.enc (YS (args.getD 0 .any))),zo (zl (args.getD 1 .any)),vi ((args.getD 2 .any).int)]∧shR (YS (args.getD 0 .any))∧((zl (args.getD 1 .any))).length≤1000∧jS (zl (args.getD 1 .any))∧isE (zl (args.getD 1 .any)) ((args.getD 2 .any).int)=true):=rfl
theorem zcR:Q6.flat=false:=rfl
theorem zkn(args:List V):Q6.r args= .tup [.agg (abC (YS (args.getD 0 .any)) (zl (args.getD 1 .any)) ((args.getD 2 .any).int)).1.enc,vb (abC (YS (args.getD 0 .any)) (zl (args.getD 1 .any)) ((args.getD 2 .any).int)).2]:=rfl
attribute [go_sem] zkm zkl zcR zkn
abbrev F11:=Ky×List Tok
def jQ(x:F11):List V:=[vi x.1.lv,vi x.1.w.a,vi x.1.w.b,vi x.1.w.c,vi x.1.od,.slc 3 (x.2.map Tok.enc)]
def zau:List V:=[vi 0,vi 0,vi 0,vi 0,vi 0,zA]
def aD(pr n:Int)(w:W3)(b:Bool)(ds:List Dcl)(o:Int):Nat→List F11
 |0=>[]
 |j+1=>aD pr n w b ds o j++(if b=true∧prN (ds.getD j default).nm=pr∧JB pr (ds.getD j default).v=true then[(⟨lvl n (ds.getD j default).imp,w,o+j⟩,(ds.getD j default).v)]else[])
def oR(rs:List Rul):Nat→Int
 |0=>0
 |j+1=>oR rs j+(rs.getD j default).ds.length
def aR(pr n:Int)(l:List Node)(k:Int)(rs:List Rul)(o:Int):Nat→List F11
 |0=>[]
 |j+1=>aR pr n l k rs o j++aD pr n (abC (rs.getD j default) l k).1 (abC (rs.getD j default) l k).2 (rs.getD j default).ds (o+oR rs j) (rs.getD j default).ds.length
def oS(ss:List (List Rul)):Nat→Int
 |0=>0
 |n+1=>oS ss n+oR (ss.getD n []) (ss.getD n []).length
def aS(pr:Int)(l:List Node)(k:Int)(ss:List (List Rul)):Nat→List F11
 |0=>[]
 |n+1=>aS pr l k ss n++aR pr n l k (ss.getD n []) (oS ss n) (ss.getD n []).length
theorem zil(pr n:Int)(w:W3)(b:Bool)(ds:List Dcl)(o:Int):∀j,(aD pr n w b ds o j).length≤j
 |0=>Nat.le_refl _
 |j+1=>by
  have:=zil pr n w b ds o j
  rw[aD,List.length_append]
  split
  ·simp only[List.length_cons,List.length_nil];omega
  ·simp only[List.length_nil];omega
theorem zbr(rs:List Rul):∀j,0≤oR rs j
 |0=>Int.le_refl _
 |j+1=>by have:=zbr rs j;rw[oR];omega
theorem zim(pr n:Int)(l:List Node)(k:Int)(rs:List Rul)(o:Int):∀j,((aR pr n l k rs o j).length:Int)≤oR rs j
 |0=>Int.le_refl _
 |j+1=>by
  have h1:=zim pr n l k rs o j
  have h2:=zil pr n (abC (rs.getD j default) l k).1 (abC (rs.getD j default) l k).2 (rs.getD j default).ds (o+oR rs j) (rs.getD j default).ds.length
  rw[aR,oR,List.length_append];omega
theorem zrY{rs:List Rul}(h:∀r∈rs,r.ds.length≤8):∀j,j≤rs.length→oR rs j≤8*j
 |0,_=>Int.le_refl _
 |j+1,hj=>by
  have h1:=zrY h j (by omega)
  have h2:=h _ (yh (d:=default) (show j<rs.length by omega))
  rw[oR];omega
theorem zi5(ss:List (List Rul)):∀n,0≤oS ss n
 |0=>Int.le_refl _
 |n+1=>by have:=zi5 ss n;have:=zbr (ss.getD n []) (ss.getD n []).length;rw[oS];omega
theorem zin(pr:Int)(l:List Node)(k:Int)(ss:List (List Rul)):∀n,((aS pr l k ss n).length:Int)≤oS ss n
 |0=>Int.le_refl _
 |n+1=>by
  have h1:=zin pr l k ss n
  have h2:=zim pr n l k (ss.getD n []) (oS ss n) (ss.getD n []).length
  rw[aS,oS,List.length_append];omega
theorem zrZ{ss:List (List Rul)}(h:ZD ss):∀n,n≤ss.length→oS ss n≤64*n
 |0,_=>Int.le_refl _
 |n+1,hn=>by
  have h1:=zrZ h n (by omega)
  obtain⟨h2,h3⟩:=h _ (yh (d:=[]) (show n<ss.length by omega))
  have h4:=zrY (fun r hr=>(h3 r hr).1.2.1.1) (ss.getD n []).length (Nat.le_refl _)
  rw[oS];omega
theorem W5{α β:Type}(f:β→Option β)(g:α→β)(h:∀x,f (g x)=some (g x)):∀l:List α,zB f (l.map g)=some (l.map g)
 | []=>rfl
 |x::r=>by simp only[List.map_cons,zB,h x,W5 f g h r]
theorem zrQ(S:Nat→Bool)(h:Heap)(l:List F11):zB (zB (res S h 11)) (l.map jQ)=some (l.map jQ):=W5 (zB (res S h 11)) jQ (fun _=>rfl) l
structure AlS11 where
 k:Nat
 f:List F11
 o:Int
 ver:Nat
 clk:Nat
def CR(s t:Cst):Prop:=s.v=t.v∧s.b=t.b∧(s.b=true→s.k.lv=t.k.lv∧s.k.w=t.k.w∧s.k.od≤s.o∧t.k.od≤t.o)
theorem zEM{pr n:Int}{w:W3}{b:Bool}{s t:Cst}{d:Dcl}(h:CR s t):CR (zdR pr n w b s d) (zdR pr n w b t d):=by
 have hc:(s.b=false∨bts ⟨lvl n d.imp,w,s.o+1⟩ s.k=true)↔(t.b=false∨bts ⟨lvl n d.imp,w,t.o+1⟩ t.k=true):=by
  rw[←h.2.1]
  cases hb:s.b with
  |false=>simp
  |true=>
   obtain⟨e1,e2,e3,e4⟩:=h.2.2 hb
   unfold bts
   rw[←e1,←e2]
   simp only[decide_eq_true (show s.k.od<s.o+1 by omega),decide_eq_true (show t.k.od<t.o+1 by omega)]
 unfold zdR
 by_cases c:b=true∧prN d.nm=pr∧JB pr d.v=true∧(s.b=false∨bts ⟨lvl n d.imp,w,s.o+1⟩ s.k=true)
 ·rw[if_pos c,if_pos ⟨c.1,c.2.1,c.2.2.1,hc.1 c.2.2.2⟩]
  exact⟨rfl,rfl,fun _=>⟨rfl,rfl,Int.le_refl _,Int.le_refl _⟩⟩
 ·rw[if_neg c,if_neg (fun h=>c ⟨h.1,h.2.1,h.2.2.1,hc.2 h.2.2.2⟩)]
  exact⟨h.1,h.2.1,fun hb=>by obtain⟨e1,e2,e3,e4⟩:=h.2.2 hb;exact⟨e1,e2,by dsimp only;omega,by dsimp only;omega⟩⟩
theorem zEQ{pr n:Int}{w:W3}{b:Bool}{ds:List Dcl}{s t:Cst}(h:CR s t):∀j,CR (cD pr n w b ds s j) (cD pr n w b ds t j)
 |0=>h
 |j+1=>zEM (zEQ h j)
theorem zEF{pr n:Int}{w:W3}{b:Bool}{ds:List Dcl}{s t:Cst}{o:Int}(h:CR s t):∀j,aD pr n w b ds o j= []→CR (cD pr n w b ds s j) t
 |0,_=>h
 |j+1,h0=>by
  rw[aD,List.append_eq_nil_iff]at h0
  obtain⟨h1,h2⟩:=h0
  have ih:=zEF (pr:=pr) (n:=n) (w:=w) (b:=b) (ds:=ds) h j h1
  rw[cD];unfold zdR
  rw[if_neg (fun hh=>by rw[if_pos ⟨hh.1,hh.2.1,hh.2.2.1⟩]at h2;cases h2)]
  exact⟨ih.1,ih.2.1,fun hb=>by obtain⟨e1,e2,e3,e4⟩:=ih.2.2 hb;exact⟨e1,e2,by dsimp only;omega,e4⟩⟩
def kpB(l:List Node)(k:Int)(r:Rul)(n:Nat):Bool:=(List.range n).any fun i=>decide (0<(aS i l k [[r]] 1).length)
theorem zEH(l:List Node)(k:Int)(r:Rul)(n:Nat):kpB l k r (n+1)=(kpB l k r n||decide (0<(aS n l k [[r]] 1).length)):=by
 unfold kpB;rw[List.range_succ,List.any_append];simp
def zEj(l:List Node)(k:Int)(rs:List Rul):List Rul:=rs.filter fun r=>kpB l k r 8
def zEn(ss:List (List Rul))(l:List Node)(k:Int):List (List Rul):=ss.map (zEj l k)
theorem zEO{l:List Node}{k:Int}{r:Rul}(h:kpB l k r 8=false)(pr:Nat)(hp:pr≤7)(n:Int):aD pr n (abC r l k).1 (abC r l k).2 r.ds 0 r.ds.length= []:=by
 have hg:∀(n m:Int)(w:W3)(b:Bool)(ds:List Dcl)(j:Nat),aD pr n w b ds 0 j= []→aD pr m w b ds 0 j= []:=by
  intro n m w b ds j
  induction j with
  |zero=>intro _;rfl
  |succ j ih=>
   intro h
   rw[aD,List.append_eq_nil_iff]at h
   rw[aD,ih h.1]
   have h2:=h.2
   by_cases c:b=true∧prN (ds.getD j default).nm=(pr:Int)∧JB pr (ds.getD j default).v=true
   ·rw[if_pos c]at h2;cases h2
   ·rw[if_neg c];rfl
 refine hg 0 n _ _ _ _ ?_
 unfold kpB at h
 rw[List.any_eq_false]at h
 have:=h pr (List.mem_range.2 (by omega))
 rw[decide_eq_true_eq]at this
 have h0:aS (pr:Int) l k [[r]] 1= []:=List.length_eq_zero_iff.1 (by omega)
 exact h0
def zEJ(pr n:Int)(l:List Node)(k:Int)(s:Cst)(r:Rul):Cst:=cD pr n (abC r l k).1 (abC r l k).2 r.ds s r.ds.length
theorem zEo(pr n:Int)(l:List Node)(k:Int)(rs:List Rul)(s:Cst):∀j,j≤rs.length→cR pr n l k rs s j=(rs.take j).foldl (zEJ pr n l k) s
 |0,_=>rfl
 |j+1,hj=>by
  rw[cR,zEo pr n l k rs s j (by omega),List.take_add_one,List.getElem?_eq_getElem (by omega),List.foldl_append,List.getD_eq_getElem?_getD,List.getElem?_eq_getElem (by omega)]
  rfl
theorem zEq{pr:Nat}(hp:pr≤7){n:Int}{l:List Node}{k:Int}:∀(rs:List Rul)(s t:Cst),CR s t→CR (rs.foldl (zEJ pr n l k) s) ((zEj l k rs).foldl (zEJ pr n l k) t)
 | [],s,t,h=>h
 |r::rs,s,t,h=>by
  unfold zEj
  cases c:kpB l k r 8 with
  |true=>
   rw[List.filter_cons_of_pos (by exact c),List.foldl_cons,List.foldl_cons]
   exact zEq hp rs _ _ (zEQ h _)
  |false=>
   rw[List.filter_cons_of_neg (by rw[c];simp),List.foldl_cons]
   exact zEq hp rs _ _ (zEF h _ (zEO c pr hp n))
theorem zEt(ss:List (List Rul))(l:List Node)(k:Int)(n:Nat)(h:n<ss.length):(zEn ss l k).getD n []=zEj l k (ss.getD n []):=by
 unfold zEn
 rw[List.getD_eq_getElem?_getD,List.getElem?_map,List.getD_eq_getElem?_getD,List.getElem?_eq_getElem h];rfl
theorem zER{pr:Nat}(hp:pr≤7){l:List Node}{k:Int}{ss:List (List Rul)}:∀n,n≤ss.length→CR (cS pr l k ss n) (cS pr l k (zEn ss l k) n)
 |0,_=>⟨rfl,rfl,fun h=>by cases h⟩
 |n+1,hn=>by
  have ih:=zER hp (l:=l) (k:=k) (ss:=ss) n (by omega)
  rw[cS,cS,zEt ss l k n (by omega),zEo _ _ _ _ _ _ _ (Nat.le_refl _),zEo _ _ _ _ _ _ _ (Nat.le_refl _),List.take_length,List.take_length]
  exact zEq hp _ _ _ ih
theorem zEs(ss:List (List Rul))(l:List Node)(k:Int):(zEn ss l k).length=ss.length:=by unfold zEn;rw[List.length_map]
theorem zET(ss:List (List Rul))(l:List Node)(k:Int)(pr:Nat)(hp:pr≤7):wv (zEn ss l k) l k pr=wv ss l k pr:=by
 unfold wv
 rw[zEs]
 exact(zER hp ss.length (Nat.le_refl _)).1.symm
theorem zEN(ss:List (List Rul))(l:List Node)(k:Int):elP (zEn ss l k) l k=elP ss l k:=by
 unfold elP
 have h:=zET ss l k
 have h0:=h 0 (by decide);have h1:=h 1 (by decide);have h2:=h 2 (by decide);have h3:=h 3 (by decide);have h4:=h 4 (by decide);have h5:=h 5 (by decide);have h6:=h 6 (by decide);have h7:=h 7 (by decide)
 simp only[Int.cast_ofNat_Int,Int.natCast_zero,Int.natCast_one]at h0 h1 h2 h3 h4 h5 h6 h7
 rw[h0,h1,h2,h3,h4,h5,h6,h7]
theorem zEP{ss:List (List Rul)}(l:List Node)(k:Int)(h:ZD ss):ZD (zEn ss l k):=fun x hx=>by
 obtain⟨y,hy,rfl⟩:=List.mem_map.1 hx
 have:=h y hy
 exact⟨Nat.le_trans (List.length_filter_le _ _) this.1,fun r hr=>this.2 r (List.mem_filter.1 hr).1⟩
theorem zEL{ss:List (List Rul)}{l:List Node}{k:Int}(h:WK ss l k):WK (zEn ss l k) l k:=⟨by rw[zEs];exact h.1,h.2.1,h.2.2.1,h.2.2.2.1,zEP l k h.2.2.2.2⟩
end Go.Proofs.YtjcmoedalneldaaGreat
section
namespace Go.Sx
theorem zL.of_fa{P:Program}{h:Heap}{f:FuncId}{args args':List V}{sz n:Nat}{d:List V}{es:List (List V)}(c:ZT P f args' sz d es)(hr:zB (res (fun _=>true) h n) args=some args'):
  zL P f args h (.ref h.bs.length h.clk 0 es.length) (h.alloc sz d (es.map fun e=>e.map fun _=>.any)):=by
 refine⟨c.1,fun g w w0 o0 cargs H hs hv=> ?_⟩
 obtain⟨h1,h2⟩:=JF H hr hs hv
 refine(c.2 (FZ g fun _=>true) w cargs ⟨fun b hb=>Qu H hb,H.glbw.mono (fun b hb=>.inl hb) fun _ _=>rfl⟩ h1 h2).mono fun e w' he=> ?_
 obtain⟨cv,I,F',rfl,hg,hF,hF',hsz,hro,hlen,hgone,hcell⟩:=he
 obtain⟨ex,H1⟩:=H.grow' hg
 obtain⟨ex2,H2⟩:=H1.adopt (I:=⟨h.clk,I.blk,I.sz,I.cap⟩) (sz:=sz) (d:=d) (es:=es.map fun e=>e.map fun _=>.any) rfl hsz (fun b hb hFb=>(hcell b hb).2.1 (hF b (.inl hFb))) (fun b j J hb hJ hJb=>by
  have:=H.blt hJ hJb
  have:=(hcell b hb).1
  omega) (fun b hb=>.inr (Nat.le_trans H.frm.size (hcell b hb).1)) (fun e he=>by obtain⟨x,hx,rfl⟩:=List.mem_map.1 he;rw[List.length_map];exact hlen x hx) (fun hb=>by rw[hgone hb];rfl) (fun b hb=>by
  obtain⟨_,_,cur,el,k1,k2,k3,k4,k5⟩:=hcell b hb
  refine⟨cur,el,k1,k2,by rw[List.length_map];exact k3,k4,fun i k hi hk=> ?_⟩
  rw[List.length_map]at hi
  refine⟨(k5 i k hi hk).1,?_⟩
  have h6:((es.map fun e=>e.map fun _=>V.any).getD i []).getD k .any= .any:=by
   simp only[List.getD_eq_getElem?_getD,List.getElem?_map]
   cases es[i]? with
   |none=>rfl
   |some e=>simp only[Option.map_some,Option.getD_some,List.getElem?_map];cases e[k]? <;>rfl
  rw[h6]
  exact .p _ _ (.any _))
 refine⟨_,cv,rfl,H2,ex.trans ex2,?_⟩
 refine .ref _ _ _ _ _ (.inr ⟨rfl,rfl⟩) fun J hJ _=> ?_
 simp only at hJ
 rw[←H1.len]at hJ
 simp at hJ
 subst hJ
 exact hro
end Go.Sx
namespace Go.Proofs.YtjcmoedalneldaaGreat
open Go.Sx
set_option linter.unusedSimpArgs false
set_option linter.unusedVariables false
set_option maxHeartbeats 8000000
set_option maxRecDepth 100000
theorem zEv(ss:List (List Rul))(l:List Node)(k pr:Int)(h4:ss.length≤4)(hE:isE l k=true)(hl:l.length≤1000)(hn:jS l)(hs:ZD ss):ZT Tryz.prog 26 [yz ss,zo l,vi k,vi pr] 6 zau ((aS pr l k ss ss.length).map jQ):=by
 refine ZT.of (Orc.cons Q6 (Orc.cons XP (Orc.cons XU (Orc.cons XK (Orc.nil _))))) zz8 zau (by simp[c26]) fun w0 o0=> ?_
 generalize hR:aS pr l k ss ss.length=R
 simp -implicitDefEqProofs only[c26,yz,zo,zr,zM,Rul.enc,Dcl.enc,W3.enc,Ky.enc,zj,zf,V.boo_c,List.length_map,List.isEmpty_cons,List.isEmpty_nil,zd,zb,za,go_sem,seval,reduceIte,reduceCtorEq]
 refine zD.lp (α:=AlS11) (fun x=>[(0,.slc 1 (ss.map shE)),(1,.slc 6 (l.map Node.enc)),(2,vi k),(3,vi pr),(9,.ref 0 x.ver 0 x.f.length),(10,vi x.o),(11,vi x.k)])
  (fun x=>⟨[⟨x.ver,6,x.f.map jQ,false,zau⟩],x.clk⟩)
  (fun x=>x.k≤ss.length∧x.f=aS pr l k ss x.k∧x.o=oS ss x.k) (fun x=>ss.length - x.k) ⟨0,[],0,0,1⟩ ⟨Nat.zero_le _,rfl,rfl⟩ (St.nil 9 6 zau (by simp[zk]) (St.cut ?_ ?_ ?_)) fun x hx=> ?_
 ·simp[zu,zk,zt,zp,Heap.alloc]
 ·simp[Heap.alloc]
 ·rfl
 obtain⟨i,F,o,ver,clk⟩:=x
 obtain⟨g1,g2,g3⟩:=hx
 simp only at g1 g2 g3
 by_cases he:i=ss.length
 ·subst he
  rw[hR]at g2
  subst g2
  have htk:(F.map jQ).take F.length=F.map jQ:=List.take_of_length_le (by simp)
  simp -implicitDefEqProofs only[Int.lt_irrefl,zrn,htk,Nat.le_refl,if_true,zrQ,Option.map_some,yz,zo,zr,zM,Rul.enc,Dcl.enc,W3.enc,Ky.enc,zj,zf,V.boo_c,List.length_map,List.isEmpty_cons,List.isEmpty_nil,zd,zb,za,go_sem,seval,reduceIte,reduceCtorEq]
 have f1:=eq_true (show(i:Int)<(ss.length:Int)by omega)
 have f0:=eq_true (show(0:Int)≤(i:Int)by omega)
 have hg:=fun z=>Wf ss i z (by omega)
 obtain⟨hl8,hrr⟩:=hs _ (yh (d:=([]:List Rul)) (show i<ss.length by omega))
 have hN:aS pr l k ss (i+1)=F++aR pr i l k (ss.getD i []) o (ss.getD i []).length:=by rw[aS,g2,g3]
 have hNo:oS ss (i+1)=o+oR (ss.getD i []) (ss.getD i []).length:=by rw[oS,g3]
 have b1:=zin pr l k ss i
 have b2:=zrZ hs i g1
 have b3:=zi5 ss i
 rw[←g2,←g3]at b1
 rw[←g3]at b2 b3
 generalize ss.getD i []=rs at*
 clear hR
 simp -implicitDefEqProofs only[f0,f1,yz,zo,zr,zM,Rul.enc,Dcl.enc,W3.enc,Ky.enc,zj,zf,V.boo_c,List.length_map,List.isEmpty_cons,List.isEmpty_nil,zd,zb,za,go_sem,seval,reduceIte,reduceCtorEq]
 refine zD.lp (α:=AlS11) (fun x=>[(0,.slc 1 (ss.map shE)),(1,.slc 6 (l.map Node.enc)),(2,vi k),(3,vi pr),(9,.ref 0 x.ver 0 x.f.length),(10,vi x.o),(11,vi i),(12,vi x.k)])
  (fun x=>⟨[⟨x.ver,6,x.f.map jQ,false,zau⟩],x.clk⟩)
  (fun x=>x.k≤rs.length∧x.f=F++aR pr i l k rs o x.k∧x.o=o+oR rs x.k) (fun x=>rs.length - x.k) ⟨0,F,o,ver,clk⟩ ⟨Nat.zero_le _,by simp[aR],by simp[oR]⟩ (St.cut ?_ ?_ ?_) fun x hx=> ?_
 ·simp[zu,zk,zp]
 ·simp
 ·rfl
 obtain⟨j,F2,o2,v2,q9⟩:=x
 obtain⟨j1,j2,j3⟩:=hx
 simp only at j1 j2 j3
 by_cases hj:j=rs.length
 ·subst hj
  have e9:=eq_false (show ¬(rs.length:Int)<(rs.length:Int)by omega)
  simp -implicitDefEqProofs only[f0,f1,hg,shE,e9,yz,zo,zr,zM,Rul.enc,Dcl.enc,W3.enc,Ky.enc,zj,zf,V.boo_c,List.length_map,List.isEmpty_cons,List.isEmpty_nil,zd,zb,za,go_sem,seval,reduceIte,reduceCtorEq]
  exact⟨⟨by omega,by omega⟩,⟨i+1,F2,o2,v2,q9⟩,⟨by dsimp only;omega,by dsimp only;rw[hN];exact j2,by dsimp only;rw[hNo];exact j3⟩,by dsimp only;omega,⟨⟨rfl,rfl⟩,rfl,by dsimp only;omega⟩,⟨rfl,rfl⟩,rfl⟩
 have q1:=eq_true (show(j:Int)<(rs.length:Int)by omega)
 have q0:=eq_true (show(0:Int)≤(j:Int)by omega)
 have hgr:=fun z=>We rs j z (by omega)
 have hrj:=hrr _ (yh (d:=default) (show j<rs.length by omega))
 have hN2:F++aR pr i l k rs o (j+1)=F2++aD pr i (abC (rs.getD j default) l k).1 (abC (rs.getD j default) l k).2 (rs.getD j default).ds o2 (rs.getD j default).ds.length:=by rw[aR,←List.append_assoc,j2,j3]
 have hNo2:o+oR rs (j+1)=o2+(rs.getD j default).ds.length:=by rw[oR,j3];omega
 have c1:=zim pr i l k rs o j
 have c2:=zrY (fun r hr=>(hrr r hr).1.2.1.1) j j1
 have c3:=zbr rs j
 have c4:(F2.length:Int)≤o2:=by rw[j2,j3,List.length_append];omega
 generalize rs.getD j default=r at*
 have hsh:=hrj.1
 have hd8:=hsh.2.1.1
 have hdd:=zr0 hrj
 obtain⟨kd,pre,ds,ms⟩:=r
 simp only at hd8 hdd hN2 hNo2
 generalize hab:abC ⟨kd,pre,ds,ms⟩ l k=ab at*
 obtain⟨⟨wa,wb,wc⟩,by'⟩:=ab
 simp only at hN2
 clear hrr hrj
 simp -implicitDefEqProofs only[f0,f1,hg,shE,q0,q1,hgr,hsh,hab,zkO,hE,hl,hn,yz,zo,zr,zM,Rul.enc,Dcl.enc,W3.enc,Ky.enc,zj,zf,V.boo_c,List.length_map,List.isEmpty_cons,List.isEmpty_nil,zd,zb,za,go_sem,seval,reduceIte,reduceCtorEq]
 refine zD.lp (α:=AlS11) (fun x=>[(0,.slc 1 (ss.map shE)),(1,.slc 6 (l.map Node.enc)),(2,vi k),(3,vi pr),(9,.ref 0 x.ver 0 x.f.length),(10,vi x.o),(11,vi i),(12,vi j),(13,.ptr 1 q9 0 0),(14,.ptr 2 (q9+1) 0 0),(15,vb by'),(16,vi x.k)])
  (fun x=>⟨[⟨x.ver,6,x.f.map jQ,false,zau⟩,⟨q9,4,[[vi kd,.slc 3 (pre.map Tok.enc),.slc 3 (ds.map Dcl.enc),.slc 2 (ms.map Mg.enc)]],false,[]⟩,⟨q9+1,3,[[vi wa,vi wb,vi wc]],false,[]⟩],x.clk⟩)
  (fun x=>x.k≤ds.length∧x.f=F2++aD pr i ⟨wa,wb,wc⟩ by' ds o2 x.k∧x.o=o2+x.k) (fun x=>ds.length - x.k) ⟨0,F2,o2,v2,q9+2⟩ ⟨Nat.zero_le _,by simp[aD],by simp⟩ (St.cut ?_ ?_ ?_) fun x hx=> ?_
 ·simp[zu,zk,zp]
 ·simp
 ·rfl
 obtain⟨q,F3,o3,ver3,clk3⟩:=x
 obtain⟨u1,u2,u3⟩:=hx
 simp only at u1 u2 u3
 by_cases hq:q=ds.length
 ·subst hq
  have e9:=eq_false (show ¬(ds.length:Int)<(ds.length:Int)by omega)
  simp -implicitDefEqProofs only[e9,yz,zo,zr,zM,Rul.enc,Dcl.enc,W3.enc,Ky.enc,zj,zf,V.boo_c,List.length_map,List.isEmpty_cons,List.isEmpty_nil,zd,zb,za,go_sem,seval,reduceIte,reduceCtorEq]
  exact⟨by omega,⟨j+1,F3,o3,ver3,clk3⟩,⟨by dsimp only;omega,by dsimp only;rw[hN2];exact u2,by dsimp only;rw[hNo2];exact u3⟩,by dsimp only;omega,⟨⟨rfl,rfl⟩,rfl,by dsimp only;omega⟩,⟨rfl,rfl⟩,rfl⟩
 have r1:=eq_true (show(q:Int)<(ds.length:Int)by omega)
 have r0:=eq_true (show(0:Int)≤(q:Int)by omega)
 have hgd:=fun z=>Wd ds q z (by omega)
 obtain⟨hnm,hqv⟩:=hdd _ (yh (d:=default) (show q<ds.length by omega))
 have hN3:F2++aD pr i ⟨wa,wb,wc⟩ by' ds o2 (q+1)=F3++(if by'=true∧prN (ds.getD q default).nm=pr∧JB pr (ds.getD q default).v=true then[(⟨lvl i (ds.getD q default).imp,⟨wa,wb,wc⟩,o3⟩,(ds.getD q default).v)]else[]):=by rw[aD,←List.append_assoc,u2,u3]
 have d1:=zil pr i ⟨wa,wb,wc⟩ by' ds o2 q
 have d4:(F3.length:Int)≤o3:=by rw[u2,u3,List.length_append];omega
 have d5:o3≤1000∧0≤o3:=by omega
 generalize ds.getD q default=d at*
 obtain⟨nm,v,imp⟩:=d
 simp only at hnm hqv hN3
 generalize hV:JB pr v=vd at*
 have htk:(F3.map jQ).take F3.length=F3.map jQ:=List.take_of_length_le (by simp)
 by_cases hp:prN nm=pr
 case neg=>
  rw[if_neg (fun h=>hp h.2.1),List.append_nil]at hN3
  have hp:=eq_false hp
  cases by'<;>simp -implicitDefEqProofs only[r0,r1,hgd,hnm,hp,yz,zo,zr,zM,Rul.enc,Dcl.enc,W3.enc,Ky.enc,zj,zf,V.boo_c,List.length_map,List.isEmpty_cons,List.isEmpty_nil,zd,zb,za,go_sem,seval,reduceIte,reduceCtorEq]<;>first
   |exact⟨by omega,by omega,⟨q+1,F3,o3+1,ver3,clk3+1⟩,⟨by dsimp only;omega,hN3.symm,by dsimp only;omega⟩,by dsimp only;omega,⟨⟨rfl,rfl⟩,rfl,by dsimp only;omega⟩,⟨rfl,rfl⟩,rfl⟩
   |exact⟨by omega,by omega,⟨q+1,F3,o3+1,ver3,clk3⟩,⟨by dsimp only;omega,hN3.symm,by dsimp only;omega⟩,by dsimp only;omega,⟨⟨rfl,rfl⟩,rfl,by dsimp only;omega⟩,⟨rfl,rfl⟩,rfl⟩
 rw[hp]at hN3
 have hp:=eq_true hp
 cases by'<;>cases vd<;>simp only[eq_self,Bool.false_eq_true,false_and,and_false,true_and,and_true,if_true,if_false,List.append_nil,reduceCtorEq]at hN3<;>
  simp -implicitDefEqProofs only[r0,r1,hgd,hnm,hqv,hp,hV,htk,yz,zo,zr,zM,Rul.enc,Dcl.enc,W3.enc,Ky.enc,zj,zf,V.boo_c,List.length_map,List.isEmpty_cons,List.isEmpty_nil,zd,zb,za,go_sem,seval,reduceIte,reduceCtorEq]
 all_goals first
  |exact⟨by omega,by omega,⟨q+1,F3,o3+1,ver3,clk3+1⟩,⟨by dsimp only;omega,hN3.symm,by dsimp only;omega⟩,by dsimp only;omega,⟨⟨rfl,rfl⟩,rfl,by dsimp only;omega⟩,⟨rfl,rfl⟩,rfl⟩
  |exact⟨by omega,by omega,⟨q+1,F3,o3+1,ver3,clk3⟩,⟨by dsimp only;omega,hN3.symm,by dsimp only;omega⟩,by dsimp only;omega,⟨⟨rfl,rfl⟩,rfl,by dsimp only;omega⟩,⟨rfl,rfl⟩,rfl⟩
  |exact⟨⟨Nat.le_refl _,by omega,by omega⟩,by omega,by omega,⟨q+1,F3++ [(⟨lvl i imp,⟨wa,wb,wc⟩,o3⟩,v)],o3+1,clk3+1,clk3+2⟩,⟨by dsimp only;omega,hN3.symm,by dsimp only;omega⟩,by dsimp only;omega,⟨⟨rfl,by simp⟩,rfl,by dsimp only;omega⟩,⟨rfl,by simp[jQ]⟩,rfl⟩
def zEK(args:List V):Prop:=args= [yz (zY (args.getD 0 .any)),zo (zl (args.getD 1 .any)),vi (args.getD 2 .any).int,vi (args.getD 3 .any).int]∧(zY (args.getD 0 .any)).length≤4∧isE (zl (args.getD 1 .any)) (args.getD 2 .any).int=true∧(zl (args.getD 1 .any)).length≤1000∧jS (zl (args.getD 1 .any))∧ZD (zY (args.getD 0 .any))
def zEw(args:List V):List (List V):=(aS (args.getD 3 .any).int (zl (args.getD 1 .any)) (args.getD 2 .any).int (zY (args.getD 0 .any)) (zY (args.getD 0 .any)).length).map jQ
def zEl:ESum Tryz.prog:=⟨26,fun args h=>(ye true h args).isSome=true∧zEK ((ye true h args).getD []),fun args h=>.ref h.bs.length h.clk 0 (zEw ((ye true h args).getD [])).length,fun args h=>h.alloc 6 zau ((zEw ((ye true h args).getD [])).map fun e=>e.map fun _=>.any),fun args h hp=>by
 obtain⟨h1,h2⟩:=hp
 obtain⟨xs,ha⟩:=Option.isSome_iff_exists.1 h1
 rw[ha]at h2⊢
 simp only[Option.getD_some]at h2⊢
 have:=zEv (zY (xs.getD 0 .any)) (zl (xs.getD 1 .any)) (xs.getD 2 .any).int (xs.getD 3 .any).int h2.2.1 h2.2.2.1 h2.2.2.2.1 h2.2.2.2.2.1 h2.2.2.2.2.2
 rw[←h2.1]at this
 exact zL.of_fa this ha⟩
theorem zEh:zEl.f=26:=rfl
theorem zEf(args:List V)(h:Heap):zEl.pre args h=((ye true h args).isSome=true∧zEK ((ye true h args).getD [])):=rfl
theorem zEi(args:List V)(h:Heap):zEl.v args h= .ref h.bs.length h.clk 0 (zEw ((ye true h args).getD [])).length:=rfl
theorem zEg(args:List V)(h:Heap):zEl.hp args h=h.alloc 6 zau ((zEw ((ye true h args).getD [])).map fun e=>e.map fun _=>.any):=rfl
end Go.Proofs.YtjcmoedalneldaaGreat
end
namespace Go.Proofs.YtjcmoedalneldaaGreat
open Go.Sx
set_option linter.unusedSimpArgs false
set_option linter.unusedVariables false
set_option maxHeartbeats 8000000
set_option maxRecDepth 100000
def zEu(L:List V):Prop:=∃(a b:Int)(c r:ByteArray)(x3 x4 x5 x6:List Stp),L= [vi a,vi b,vs c,.slc 3 (x3.map Stp.enc),.slc 3 (x4.map Stp.enc),.slc 3 (x5.map Stp.enc),.slc 3 (x6.map Stp.enc),vs r]∧zr5 x3∧zr5 x4∧zr5 x5∧zr5 x6
theorem zEI{L:List V}(h:zEu L):zg Tryz.prog 27 [.agg L,.agg L] (vb true):=by
 obtain⟨a,b,c,r,x3,x4,x5,x6,rfl,o3,o4,o5,o6⟩:=h
 refine zg.of (Orc.cons zce (Orc.nil _)) zDk (by simp[c27]) fun w0 o0=> ?_
 simp -implicitDefEqProofs only[c27,jI,zl8,o3,o4,o5,o6,zd,zb,za,go_sem,seval,reduceIte,reduceCtorEq]
def zEm:Sum Tryz.prog:=⟨27,fun args=>∃L,args= [.agg L,.agg L]∧zEu L,fun _=>vb true,fun args h=>(by obtain⟨L,rfl,h⟩:=h;exact zEI h),true⟩
theorem zEC:zEm.f=27:=rfl
theorem zEp:zEm.flat=true:=rfl
theorem zED(args:List V):zEm.r args=vb true:=rfl
theorem zEB(L:List V)(h:zEu L):zEm.D [.agg L,.agg L]=True:=eq_true ⟨L,rfl,h⟩
attribute [go_sem] zEC zEp zED
theorem zES{ss:List (List Rul)}{l:List Node}{k:Int}(h:WK ss l k):zEu (elP ss l k):=
 ⟨_,_,_,_,_,_,_,_,rfl,zjp 0 _ (KT h 3).1,zjp 1 _ (KT h 4).1,zjp 0 _ (KT h 5).1,zB2 _ (KT h 6).1⟩
theorem zEr(l:List (List V))(x z:List V):(l++ [x]).getD l.length z=x:=by simp[List.getD_eq_getElem?_getD]
theorem zEA(l:List (List V))(x y:List V):(l++ [x]).set l.length y=l++ [y]:=by rw[List.set_append_right _ _ (Nat.le_refl _),Nat.sub_self];rfl
theorem zEG(l:List Node)(k:Int)(rs:List Rul):(zEj l k rs).length≤rs.length:=List.length_filter_le _ _
theorem zEx{l:List Node}{k:Int}{rs:List Rul}{j:Nat}(h:j<rs.length):zEj l k (rs.take (j+1))=zEj l k (rs.take j)++(if kpB l k (rs.getD j default) 8=true then[rs.getD j default]else[]):=by
 unfold zEj
 rw[List.take_add_one,List.getElem?_eq_getElem h,List.filter_append,List.getD_eq_getElem?_getD,List.getElem?_eq_getElem h]
 congr 1
 show List.filter _ [rs[j]]=_
 rw[List.filter_cons];rfl
theorem zEz(S:Nat→Bool)(h:Heap)(l:List (List Rul)):zB (zB (res S h 11)) (l.map shE)=some (l.map shE):=W5 (zB (res S h 11)) shE (fun _=>rfl) l
theorem zEy(S:Nat→Bool)(h:Heap)(l:List Rul):zB (zB (res S h 10)) (l.map Rul.enc)=some (l.map Rul.enc):=W5 (zB (res S h 10)) Rul.enc (fun _=>rfl) l
structure LbS where
 k:Nat
 ver:Nat
 clk:Nat
structure LaS where
 j:Nat
 ab:Bool
 clk:Nat
theorem zEk(x:V)(hx:CellOK (.slc zBZ) x)(y:V)(hy:CellOK (.slc zk9) y)(z:V)(hz:CellOK (.int .i64) z):zg Tryz.prog 6 [x,y,z] (.c (.bool true)):=by
 obtain⟨ss,rfl,h6⟩:=zx9 hx
 have h6:zr3 ss:=h6
 obtain⟨l,rfl⟩:=zrX hy
 cases hz with|int _ k _=> ?_
 cases hf:(KX ss&&Yv l)with
 |false=>
  refine zg.of (Orc.cons ZI (Orc.cons Jy (Orc.cons Y7 (Orc.nil _)))) zEE (by simp[c6]) fun w0 o0=> ?_
  simp -implicitDefEqProofs only[c6,yz,zo,h6,hf,zr,zM,List.length_map,List.isEmpty_cons,List.isEmpty_nil,zd,zb,za,go_sem,seval,reduceIte,reduceCtorEq]
 |true=>
 have hf2:=(Bool.and_eq_true _ _▸hf:KX ss=true∧Yv l=true)
 obtain⟨l60,hns⟩:=zfR hf2.2
 have hl:l.length≤1000:=by omega
 have hs:=zmj hf2.1 h6
 by_cases hX:ss.length≤3∧isE l k=true
 case neg=>
  refine zg.of (Orc.cons ZI (Orc.cons Jy (Orc.cons Y7 (Orc.nil _)))) zEE (by simp[c6]) fun w0 o0=> ?_
  by_cases h3:(3:Int)<(ss.length:Int)
  ·have h3:=eq_true h3
   simp -implicitDefEqProofs only[c6,h3,hl,yz,zo,h6,hf,zr,zM,List.length_map,List.isEmpty_cons,List.isEmpty_nil,zd,zb,za,go_sem,seval,reduceIte,reduceCtorEq]
  ·have hE:isE l k=false:=by
    cases e:isE l k with
    |false=>rfl
    |true=>exact absurd ⟨by omega,e⟩ hX
   have h3:=eq_false h3
   simp -implicitDefEqProofs only[c6,h3,hE,hl,yz,zo,h6,hf,zr,zM,List.length_map,List.isEmpty_cons,List.isEmpty_nil,zd,zb,za,go_sem,seval,reduceIte,reduceCtorEq]
 have h:WK ss l k:=⟨hX.1,hX.2,hl,hns,hs⟩
 obtain⟨h3,hE⟩:=hX
 have e3:=eq_false (show ¬(3:Int)<(ss.length:Int)by omega)
 have hwL:=zEL h
 have hPL:=zEN ss l k
 have hD:=zEB _ (zES h)
 obtain⟨g0,g1,g2,g7,y3,y4,y5,y6,hP⟩:∃a b c r x3 x4 x5 x6,elP ss l k= [vi a,vi b,vs c,.slc 3 x3,.slc 3 x4,.slc 3 x5,.slc 3 x6,vs r]:=⟨_,_,_,_,_,_,_,_,rfl⟩
 rw[hP]at hD hPL
 have hLl:=zEs ss l k
 have hLg:=zEt ss l k
 generalize zEn ss l k=L at*
 refine zg.of (Orc.econs zEl (Orc.cons zEm (Orc.cons ZI (Orc.cons Jy (Orc.cons zeA (Orc.cons Y7 (Orc.nil _))))))) zEE (by simp[c6]) fun w0 o0=> ?_
 simp -implicitDefEqProofs only[c6,e3,hE,hl,h6,hf,yz,zo,zr,zM,List.length_map,List.isEmpty_cons,List.isEmpty_nil,zd,zb,za,zEh,zEf,zEi,zEg,go_sem,seval,reduceIte,reduceCtorEq]
 refine zD.lq (α:=LbS) (fun a=>[(0,.slc 1 (ss.map shE)),(1,.slc 6 (l.map Node.enc)),(2,vi k),(7,.ref 0 a.ver 0 a.k),(35,.slc 1 (ss.map shE)),(36,vi ss.length),(37,vi a.k)])
  (fun a=>⟨[⟨a.ver,1,(L.take a.k).map shE,false,[zA]⟩],a.clk⟩) (fun a=>a.k≤ss.length) (fun a=>ss.length - a.k) ⟨0,0,1⟩ (Nat.zero_le _) (St.nil 7 1 [zA] (by simp[zk]) (St.cut ?_ ?_ ?_)) fun a ha=> ?_
 ·simp[zu,zk,zt,zp,Heap.alloc]
 ·simp[Heap.alloc]
 ·rfl
 obtain⟨i,ver,clk⟩:=a
 simp only at ha
 by_cases he:i=ss.length
 ·subst he
  have htk:L.take ss.length=L:=by rw[←hLl];exact List.take_length
  have htk2:(L.map shE).take ss.length=L.map shE:=by rw[←hLl,←List.length_map (f:=shE)];exact List.take_length
  have hle:=Nat.le_of_eq hLl.symm
  clear hLg
  simp -implicitDefEqProofs only[Int.lt_irrefl,htk,htk2,hLl,Nat.le_refl,zEz,h,hwL,hP,hPL,hD,yz,zo,List.length_map,zr,zM,List.isEmpty_cons,List.isEmpty_nil,yQ,qp,zd,zb,za,zEh,zEf,zEi,zEg,go_sem,seval,reduceIte,reduceCtorEq]
 have f1:=eq_true (show(i:Int)<(ss.length:Int)by omega)
 have f0:=eq_true (show(0:Int)≤(i:Int)by omega)
 have hg:=fun z=>Wf ss i z (by omega)
 obtain⟨hl8,hrr⟩:=hs _ (yh (d:=([]:List Rul)) (show i<ss.length by omega))
 have hLk:=hLg i (by omega)
 have hts:L.take (i+1)=L.take i++ [L.getD i []]:=by
  rw[List.take_add_one,List.getD_eq_getElem?_getD,List.getElem?_eq_getElem (by omega)];rfl
 have htl:(L.take i).length=i:=by rw[List.length_take];omega
 rw[hLk]at hts
 generalize ss.getD i []=rs at*
 clear h hwL hP hPL hD
 simp -implicitDefEqProofs only[f0,f1,hg,shE,List.length_map,zd,zb,za,zEh,zEf,zEi,zEg,go_sem,seval,reduceIte,reduceCtorEq]
 refine zD.lp (α:=LbS) (fun a=>[(0,.slc 1 (ss.map shE)),(1,.slc 6 (l.map Node.enc)),(2,vi k),(7,.ref 0 ver 0 i),(10,.ref 1 a.ver 0 (zEj l k (rs.take a.k)).length),(35,.slc 1 (ss.map shE)),(36,vi ss.length),(37,vi i),(41,.slc 4 (rs.map Rul.enc)),(42,vi rs.length),(43,vi a.k)])
  (fun a=>⟨[⟨ver,1,(L.take i).map shE,false,[zA]⟩,⟨a.ver,4,(zEj l k (rs.take a.k)).map Rul.enc,false,[vi 0,zA,zA,zA]⟩],a.clk⟩)
  (fun a=>a.k≤rs.length) (fun a=>rs.length - a.k) ⟨0,clk,clk+1⟩ (Nat.zero_le _) (St.nil 10 4 [vi 0,zA,zA,zA] (by simp[zk]) (St.cut ?_ ?_ ?_)) fun a ha=> ?_
 ·simp[zu,zk,zp,Heap.alloc,zEj]
 ·simp[Heap.alloc,zEj]
 ·rfl
 obtain⟨j,v2,q9⟩:=a
 simp only at ha
 by_cases hj:j=rs.length
 ·subst hj
  have e9:=eq_false (show ¬(rs.length:Int)<(rs.length:Int)by omega)
  rw[List.take_length]
  have htt:(L.take i).take i=L.take i:=List.take_of_length_le (by omega)
  simp -implicitDefEqProofs only[e9,htl,htt,List.length_map,zd,zb,za,zEh,zEf,zEi,zEg,go_sem,seval,reduceIte,reduceCtorEq]
  refine⟨⟨Nat.le_refl _,by omega,by omega⟩,⟨by omega,by omega⟩,⟨i+1,q9+1,q9+2⟩,by dsimp only;omega,by dsimp only;omega,?_⟩
  have hml:((L.take i).map shE).length=i:=by rw[List.length_map];exact htl
  have hge:=zEr ((L.take i).map shE) [V.ref 1 v2 0 (zEj l k rs).length] []
  have hse:=zEA ((L.take i).map shE) [V.ref 1 v2 0 (zEj l k rs).length] [.slc 4 ((zEj l k rs).map Rul.enc)]
  rw[hml]at hge hse
  refine St.sealC (fun j=>j==1) 0 i 0 (y:=.slc 4 ((zEj l k rs).map Rul.enc)) rfl ?_ (St.cut ?_ ?_ ?_)
  ·simp only[hge,List.getD_cons_zero]
   rw[zC4]
   have ht3:((zEj l k rs).map Rul.enc).take (zEj l k rs).length=(zEj l k rs).map Rul.enc:=List.take_of_length_le (by simp)
   simp[Heap.cur,Heap.blk,ht3]
   exact zEy _ _ _
  ·simp[zu,zk,zp]
  ·simp only[Heap.freeze,List.mapIdx_cons,List.set_cons_zero,List.set_cons_succ,List.length_cons,List.length_nil,Nat.zero_add,List.take_succ_cons,List.take_zero,hge,hse,hts,List.map_append,List.map_cons,List.map_nil]
   rfl
  ·rfl
 have j1:=eq_true (show(j:Int)<(rs.length:Int)by omega)
 have j0:=eq_true (show(0:Int)≤(j:Int)by omega)
 have hgr:=fun z=>We rs j z (by omega)
 have hrj:=hrr _ (yh (d:=default) (show j<rs.length by omega))
 have hkt:=zEx (l:=l) (k:=k) (show j<rs.length by omega)
 have hkl:=zEG l k (rs.take j)
 have hkl2:(rs.take j).length=j:=by rw[List.length_take];omega
 generalize rs.getD j default=r at*
 have h11:ZD [[r]]:=fun x hx=>by rw[List.mem_singleton.1 hx];exact⟨by simp,fun q hq=>by rw[List.mem_singleton.1 hq];exact hrj⟩
 have hd1:=zM 1 [[r]]
 have hks:=zEH l k r
 generalize hK:zEj l k (rs.take j)=K at*
 have hk0:kpB l k r 0=false:=rfl
 clear hrj hrr hLg hLk
 obtain⟨kd,pre,ds,ms⟩:=r
 simp only[shE,List.map_cons,List.map_nil,Rul.enc]at hd1
 simp -implicitDefEqProofs only[j0,j1,hgr,Rul.enc,List.length_map,zd,zb,za,zEh,zEf,zEi,zEg,go_sem,seval,reduceIte,reduceCtorEq]
 refine zD.lp (α:=LaS) (fun a=>[(0,.slc 1 (ss.map shE)),(1,.slc 6 (l.map Node.enc)),(2,vi k),(7,.ref 0 ver 0 i),(10,.ref 1 v2 0 K.length),(12,.ptr 2 q9 0 0),(13,vb a.ab),(35,.slc 1 (ss.map shE)),(36,vi ss.length),(37,vi i),(41,.slc 4 (rs.map Rul.enc)),(42,vi rs.length),(43,vi j),(47,vi a.j)])
  (fun a=>⟨[⟨ver,1,(L.take i).map shE,false,[zA]⟩,⟨v2,4,K.map Rul.enc,false,[vi 0,zA,zA,zA]⟩,⟨q9,4,[[vi kd,.slc 3 (pre.map Tok.enc),.slc 3 (ds.map Dcl.enc),.slc 2 (ms.map Mg.enc)]],false,[]⟩],a.clk⟩)
  (fun a=>a.j≤8∧a.ab=kpB l k ⟨kd,pre,ds,ms⟩ a.j) (fun a=>8 - a.j) ⟨0,false,q9+1⟩ ⟨Nat.zero_le _,hk0.symm⟩ (St.cut ?_ ?_ ?_) fun a ha=> ?_
 ·simp[zu,zk,zp]
 ·simp[hK]
 ·rfl
 obtain⟨n,ab,clk3⟩:=a
 obtain⟨n1,n2⟩:=ha
 simp only at n1 n2
 by_cases hn:n=8
 ·subst hn
  rw[←n2]at hkt
  cases ab<;>simp -implicitDefEqProofs only[Bool.false_eq_true,if_true,if_false,List.append_nil]at hkt<;>
   simp -implicitDefEqProofs only[Int.cast_ofNat_Int,Int.lt_irrefl,List.length_map,zd,zb,za,zEh,zEf,zEi,zEg,go_sem,seval,reduceIte,reduceCtorEq]
  ·exact⟨by omega,⟨j+1,v2,clk3⟩,by dsimp only;omega,by dsimp only;omega,⟨⟨rfl,by dsimp only;rw[hkt]⟩,by dsimp only;omega⟩,⟨rfl,by dsimp only;rw[hkt]⟩,rfl⟩
  ·refine⟨⟨Nat.le_refl _,by omega,by omega⟩,by omega,⟨j+1,clk3+1,clk3+2⟩,by dsimp only;omega,by dsimp only;omega,⟨⟨rfl,?_⟩,by dsimp only;omega⟩,⟨rfl,?_⟩,rfl⟩
   ·dsimp only;rw[hkt];simp
   ·dsimp only;rw[hkt,List.map_append,List.take_length];rfl
 have m1:=eq_true (show(n:Int)<8 by omega)
 have hkn:=hks n
 rw[←n2]at hkn
 cases ab with
 |true=>
  simp -implicitDefEqProofs only[m1,List.length_map,zd,zb,za,zEh,zEf,zEi,zEg,go_sem,seval,reduceIte,reduceCtorEq]
  exact⟨by omega,⟨n+1,true,clk3⟩,⟨by dsimp only;omega,by dsimp only;rw[hkn];rfl⟩,by dsimp only;omega,⟨rfl,by dsimp only;omega⟩,rfl⟩
 |false=>
  have hAl:(zEw [.slc 1 [[.slc 4 [[vi kd,.slc 3 (pre.map Tok.enc),.slc 3 (ds.map Dcl.enc),.slc 2 (ms.map Mg.enc)]]]],.slc 6 (l.map Node.enc),vi k,vi n]).length=(aS n l k [[⟨kd,pre,ds,ms⟩]] 1).length:=by
   have hd0:=hd1
   unfold zEw;simp only[List.getD_cons_zero,List.getD_cons_succ];rw[hd1,zr,List.length_map];rfl
  have hAd:zEK [.slc 1 [[.slc 4 [[vi kd,.slc 3 (pre.map Tok.enc),.slc 3 (ds.map Dcl.enc),.slc 2 (ms.map Mg.enc)]]]],.slc 6 (l.map Node.enc),vi k,vi n]:=by
   unfold zEK;simp only[List.getD_cons_zero,List.getD_cons_succ];rw[hd1,zr];exact⟨rfl,by simp,hE,hl,hns,h11⟩
  generalize(aS n l k [[⟨kd,pre,ds,ms⟩]] 1).length=A at*
  simp -implicitDefEqProofs only[m1,hAl,hAd,zC4,zDo,zC5,yz,zo,shE,Rul.enc,zr,List.map_cons,List.map_nil,List.length_cons,List.length_nil,List.length_map,List.isEmpty_cons,List.isEmpty_nil,zd,zb,za,zEh,zEf,zEi,zEg,go_sem,seval,reduceIte,reduceCtorEq]
  exact⟨by omega,⟨n+1,decide ((0:Int)<(A:Int)),clk3+3⟩,⟨by dsimp only;omega,by dsimp only;rw[hkn,Bool.false_or];exact decide_eq_decide.2 (by omega)⟩,by dsimp only;omega,⟨rfl,by dsimp only;omega⟩,rfl⟩
end Go.Proofs.YtjcmoedalneldaaGreat
