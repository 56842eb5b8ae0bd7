/- Part of the proof of ContextPage. No condition. -/
import Derived.Test.YtlaopdfpncckeaaGreatDoorCd
import Derived.Test.YtlaopdfpncckeaaGreatDoorE4
import Derived.Test.YtlaopdfpncckeaaGreatDoorCe
import Derived.Test.YtlaopdfpncckeaaGreatDoorGc
namespace Go.Proofs.YtlaopdfpncckeaaGreatDoor
open Go.Sx
set_option linter.unusedSimpArgs false
set_option linter.unusedVariables false
set_option maxHeartbeats 8000000
set_option maxRecDepth 100000
def K7(b:UInt8):UInt8:=if 65≤b.toNat∧b.toNat≤90 then UInt8.ofNat (b.toNat+32)else b
def zy(s:ByteArray):ByteArray:=⟨⟨s.data.toList.map K7⟩⟩
def u8c(b:UInt8):List V:=[.c (.int .u8 b.toNat)]
theorem ziN(l:List UInt8):(l.map u8c).map (fun e=>(Go.Sx.byteOf e).getD 0)=l:=by
 rw[List.map_map]
 conv=>rhs;rw[←List.map_id l]
 apply List.map_congr_left
 intro b _
 simp[u8c,Go.Sx.byteOf]
theorem zrg(l:List UInt8):(l.map u8c).all (fun e=>(Go.Sx.byteOf e).isSome)=true:=by
 simp[List.all_eq_true,u8c,Go.Sx.byteOf]
theorem zuB(l:List UInt8)(k:Nat)(h:k<l.length):(l.map u8c).getD k [.c (.int .u8 0)]=u8c (l.getD k 0):=by
 simp[List.getD_eq_getElem?_getD,h]
def jm(s:ByteArray)(k:Nat):List UInt8:=(s.data.toList.take k).map K7++s.data.toList.drop k
theorem kD(s:ByteArray)(k:Nat):(jm s k).length=s.size:=by
 simp only[jm,List.length_append,List.length_map,List.length_take,List.length_drop]
 have:s.data.toList.length=s.size:=JF s
 omega
theorem za2(s:ByteArray)(k:Nat)(h:k<s.size):(jm s k).getD k 0=s.data.toList.getD k 0:=by
 have:s.data.toList.length=s.size:=JF s
 simp only[jm,List.getD_eq_getElem?_getD]
 rw[List.getElem?_append_right (by simp;omega)]
 simp only[List.length_map,List.length_take,List.getElem?_drop]
 congr 2;omega
theorem zgp(s:ByteArray)(k:Nat)(h:k<s.size):jm s (k+1)=(jm s k).set k (K7 (s.data.toList.getD k 0)):=by
 have hl:s.data.toList.length=s.size:=JF s
 apply List.ext_getElem?
 intro i
 by_cases hi:i=k
 ·subst hi
  rw[List.getElem?_set_self (by rw[kD];exact h)]
  simp only[jm]
  rw[List.getElem?_append_left (by simp;omega)]
  have h':i<s.data.size:=h
  simp only[List.getElem?_map,List.getElem?_take,List.getD_eq_getElem?_getD,if_pos (Nat.lt_succ_self i),List.getElem?_eq_getElem (show i<s.data.toList.length by omega),Option.map_some,Option.getD_some]
 ·rw[List.getElem?_set_ne (Ne.symm hi)]
  simp only[jm]
  rcases Nat.lt_or_ge i k with hlt|hge
  ·rw[List.getElem?_append_left (by simp;omega),List.getElem?_append_left (by simp;omega)]
   simp only[List.getElem?_map,List.getElem?_take,if_pos hlt,if_pos (show i<k+1 by omega)]
  ·rw[List.getElem?_append_right (by simp;omega),List.getElem?_append_right (by simp;omega)]
   simp only[List.length_map,List.length_take,List.getElem?_drop]
   congr 1;omega
theorem zgq(s:ByteArray):jm s 0=s.data.toList:=by simp[jm]
theorem zjN(s:ByteArray):(⟨⟨jm s s.size⟩⟩:ByteArray)=zy s:=by
 have hl:s.data.toList.length=s.size:=JF s
 unfold jm zy
 rw[List.take_of_length_le (by omega),List.drop_eq_nil_of_le (by omega),List.append_nil]
theorem zvt(n:Int)(h0:0≤n)(h1:n<256):IntKind.u8.wrap n=n:=by
 simp[IntKind.wrap,IntKind.bits,IntKind.signed];omega
theorem zx4(l:List UInt8):(l.map fun b=>[V.c (.int .u8 b.toNat)])=l.map u8c:=rfl
theorem zn7(s:ByteArray)(hs:s.size≤1000000):ze Tryz.prog 66 [vs s] (vs (zy s)):=by
 refine ze.of (Orc.nil _) zwJ (by simp[c66]) fun w0 own0=> ?_
 have hl:s.data.toList.length=s.size:=JF s
 simp only[c66,hl,zx4,go_sem,zd,seval,reduceIte,reduceCtorEq]
 refine⟨by omega,?_⟩
 refine zG.lp (α:=Nat) (fun k=>[(3,.ref 0 0 0 s.size),(8,.ref 0 0 0 s.size),(9,vi s.size),(10,vi k)]) (fun k=>⟨[⟨0,1,(jm s k).map u8c,false,[.c (.int .u8 0)]⟩],1⟩) (fun k=>k≤s.size) (fun k=>s.size - k) 0 (Nat.zero_le _) (St.mk (by simp[zq,zo,zt,zgq])) fun k hk=> ?_
 by_cases he:k=s.size
 ·subst he
  have ht:((jm s s.size).map u8c).take s.size=(jm s s.size).map u8c:=List.take_of_length_le (by simp[kD])
  simp only[Int.lt_irrefl,ht,ziN,zrg,zjN,kD,Nat.le_refl,go_sem,zd,seval,reduceIte,reduceCtorEq]
 ·have e1:(k:Int)<(s.size:Int):=by omega
  have e0:(0:Int)≤(k:Int):=by omega
  have hlt:k<s.size:=by omega
  have hg:=zuB (jm s k) k (by rw[kD];exact hlt)
  rw[za2 s k hlt]at hg
  have hsu:=zgp s k hlt
  generalize hb:s.data.toList.getD k 0=b at*
  have hb256:b.toNat<256:=b.toNat_lt
  simp only[e0,e1,hg,u8c,kD,go_sem,zd,seval,reduceIte,reduceCtorEq]
  have hlow:(65≤(b.toNat:Int)∧(b.toNat:Int)≤90)↔(65≤b.toNat∧b.toNat≤90):=by omega
  refine⟨hlt,fun hc=>⟨hlt,by omega,k+1,by omega,by omega,by omega,?_⟩,fun hc=>⟨by omega,k+1,by omega,by omega,by omega,?_⟩⟩
  ·rw[hsu,List.map_set,K7,if_pos (hlow.1 hc)]
   have h1:IntKind.u8.wrap ((b.toNat:Int)+32)=(b.toNat:Int)+32:=zvt _ (by omega) (by omega)
   have h2:(UInt8.ofNat (b.toNat+32)).toNat=b.toNat+32:=by simp;omega
   have h3:u8c (UInt8.ofNat (b.toNat+32))= [V.c (Value.int IntKind.u8 (IntKind.u8.wrap ((b.toNat:Int)+32)))]:=by
    unfold u8c;rw[h1,h2,Int.natCast_add];rfl
   rw[h3]
  ·rw[hsu,K7,if_neg (by omega),←hb,←za2 s k hlt]
   congr 1
   apply List.ext_getElem?
   intro i
   by_cases hi:i=k
   ·subst hi
    rw[List.getElem?_set_self (by rw[kD];exact hlt),List.getD_eq_getElem?_getD,List.getElem?_eq_getElem (by rw[kD];exact hlt)];rfl
   ·rw[List.getElem?_set_ne (Ne.symm hi)]
def jI:Sum Tryz.prog:=⟨66,fun args=>args= [vs ((args.getD 0 .any).str)]∧(((args.getD 0 .any).str)).size≤1000000,fun args=>vs (zy ((args.getD 0 .any).str)),fun args h=>by
 have:=zn7 ((args.getD 0 .any).str) h.2;rwa [←h.1]at this,true⟩
theorem zpW:jI.f=66:=rfl
theorem zpV(args:List V):jI.D args=(args= [vs ((args.getD 0 .any).str)]∧(((args.getD 0 .any).str)).size≤1000000):=rfl
theorem zeY:jI.flat=true:=rfl
theorem zpX(args:List V):jI.r args=vs (zy ((args.getD 0 .any).str)):=rfl
attribute [go_sem] zpW zpV zeY zpX
structure LoS where
 k:Nat
 ver:Nat
 clk:Nat
theorem zgr(s:ByteArray)(k:Nat)(h:k<s.size):(s.data.toList.take (k+1)).map K7=(s.data.toList.take k).map K7++ [K7 (s.data.toList.getD k 0)]:=by
 have hl:s.data.toList.length=s.size:=JF s
 rw[List.take_add_one,List.map_append,List.getD_eq_getElem?_getD,List.getElem?_eq_getElem (by omega)];rfl
theorem zjP(s:ByteArray)(hs:s.size≤1000000):ze Tryz.prog 32 [vs s] (vs (zy s)):=by
 refine ze.of (Orc.nil _) zwi (by simp[c32]) fun w0 own0=> ?_
 have hl:s.data.toList.length=s.size:=JF s
 simp only[c32,go_sem,zd,seval,reduceIte,reduceCtorEq]
 refine zG.lp (α:=LoS) (fun a=>[(0,vs s),(3,.ref 0 a.ver 0 a.k),(4,vi a.k)]) (fun a=>⟨[⟨a.ver,1,((s.data.toList.take a.k).map K7).map u8c,false,[.c (.int .u8 0)]⟩],a.clk⟩) (fun a=>a.k≤s.size) (fun a=>s.size - a.k) ⟨0,0,1⟩ (Nat.zero_le _)
  (St.nil 3 1 [.c (.int .u8 0)] (by simp[zo]) (St.mk (by simp[zq,zo,zt]))) fun a hk=> ?_
 obtain⟨k,ver,clk⟩:=a
 simp only at hk
 have htl:((s.data.toList.take k).map K7).length=k:=by rw[List.length_map,List.length_take];omega
 have htk:∀l:List (List V),l.length=k→l.take k=l:=fun l hh=>List.take_of_length_le (by omega)
 by_cases he:k=s.size
 ·subst he
  have ht:=htk (((s.data.toList.take s.size).map K7).map u8c) (by simp)
  simp only[Int.lt_irrefl,ht,ziN,zrg,htl,Nat.le_refl,go_sem,zd,seval,reduceIte,reduceCtorEq]
  rw[List.take_of_length_le (by omega)];rfl
 ·have e1:(k:Int)<(s.size:Int):=by omega
  have e0:(0:Int)≤(k:Int):=by omega
  have hlt:k<s.size:=by omega
  have hsu:=zgr s k hlt
  simp only[e0,e1,htl,go_sem,zd,seval,reduceIte,reduceCtorEq]
  generalize hb:s.data.toList.getD k 0=b at*
  have hb256:b.toNat<256:=b.toNat_lt
  have hm:(s.data.toList.take k).take k=s.data.toList.take k:=List.take_of_length_le (by rw[List.length_take];omega)
  refine⟨fun hc=>⟨⟨by omega,by omega,by omega⟩,by omega,⟨k+1,clk+1,clk+2⟩,by dsimp only;omega,by dsimp only;omega,⟨⟨rfl,rfl⟩,by dsimp only;omega⟩,⟨rfl,?_⟩,rfl⟩,fun hc=>⟨⟨by omega,by omega,by omega⟩,by omega,⟨k+1,clk+1,clk+2⟩,by dsimp only;omega,by dsimp only;omega,⟨⟨rfl,rfl⟩,by dsimp only;omega⟩,⟨rfl,?_⟩,rfl⟩⟩
  ·dsimp only
   rw[hsu,hm,List.map_append,K7,if_pos (by omega)]
   have h1:IntKind.u8.wrap ((b.toNat:Int)+32)=(b.toNat:Int)+32:=zvt _ (by omega) (by omega)
   have h2:(UInt8.ofNat (b.toNat+32)).toNat=b.toNat+32:=by simp;omega
   simp only[u8c,h1,h2,Int.natCast_add,List.map_cons,List.map_nil]
   rfl
  ·dsimp only
   rw[hsu,hm,List.map_append,K7,if_neg (by omega)]
   rfl
def ku:Sum Tryz.prog:=⟨32,fun args=>args= [vs ((args.getD 0 .any).str)]∧(((args.getD 0 .any).str)).size≤1000000,fun args=>vs (zy ((args.getD 0 .any).str)),fun args h=>by
 have:=zjP ((args.getD 0 .any).str) h.2;rwa [←h.1]at this,true⟩
theorem zlc:ku.f=32:=rfl
theorem zlb(args:List V):ku.D args=(args= [vs ((args.getD 0 .any).str)]∧(((args.getD 0 .any).str)).size≤1000000):=rfl
theorem zcr:ku.flat=true:=rfl
theorem zld(args:List V):ku.r args=vs (zy ((args.getD 0 .any).str)):=rfl
attribute [go_sem] zlc zlb zcr zld
def zC(t:Tok):ByteArray:=
 if t.kind=3∨t.kind=12∧t.text=⟨#[40]⟩then⟨#[41]⟩else if t.kind=12∧t.text=⟨#[91]⟩then⟨#[93]⟩else if t.kind=12∧t.text=⟨#[123]⟩then⟨#[125]⟩else⟨#[]⟩
def skip(ends:List Int)(k:Int):Int:=if k<0∨(ends.length:Int)≤k∨ends.getD k.toNat 0<k then k+1 else min (ends.getD k.toNat 0+1) ends.length
theorem zuh(l:List Int)(k:Int)(hk: -9223372036854775808≤k)(hk':k<9223372036854775807)(hl:l.getD k.toNat 0<9223372036854775807):ze Tryz.prog 97 [zH l,vi k] (vi (skip l k)):=by
 refine ze.of (Orc.nil _) zw4 (by simp[c97]) fun w0 own0=> ?_
 simp only[c97,zH,z4,Wf,ZT,Option.some.injEq,go_sem,zd,seval,reduceIte,reduceCtorEq]
 unfold skip
 grind
theorem zon(t:Tok):ze Tryz.prog 118 [.agg t.enc] (vs (zC t)):=by
 refine ze.of (Orc.nil _) zsK (by simp[zvO]) fun w0 own0=> ?_
 simp only[zvO,Tok.enc,Wf,ZT,Option.some.injEq,go_sem,zd,seval,reduceIte,reduceCtorEq]
 unfold zC
 grind
theorem zm6(t:Tok):ze Tryz.prog 87 [.agg t.enc] (vs (zC t)):=by
 refine ze.of (Orc.nil _) zw1 (by simp[c87]) fun w0 own0=> ?_
 simp only[c87,Tok.enc,Wf,ZT,Option.some.injEq,go_sem,zd,seval,reduceIte,reduceCtorEq]
 unfold zC
 grind
theorem zgG(l:List Int)(k:Int)(hk: -9223372036854775808≤k)(hk':k<9223372036854775807)(hl:l.getD k.toNat 0<9223372036854775807):ze Tryz.prog 94 [zH l,vi k] (vi (skip l k)):=by
 refine ze.of (Orc.nil _) zw2 (by simp[c94]) fun w0 own0=> ?_
 simp only[c94,zH,z4,Wf,ZT,Option.some.injEq,go_sem,zd,seval,reduceIte,reduceCtorEq]
 unfold skip
 grind
theorem zl0(n a b:Int):ze Tryz.prog 167 [vi n,vi a,vi b] (vb (decide (0≤a∧a≤b∧b≤n))):=by
 refine ze.of (Orc.nil _) zs0 (by simp[zv3]) fun w0 own0=> ?_
 simp only[zv3,zH,z4,Wf,ZT,Option.some.injEq,go_sem,zd,seval,reduceIte,reduceCtorEq]
 grind
theorem zjB(t:Tok)(k:Int):ze Tryz.prog 168 [.agg t.enc,.pp [vi k]] (vb (decide (t.kind=k))):=by
 refine ze.of (Orc.nil _) zs1 (by simp[zv4]) fun w0 own0=> ?_
 simp only[zv4,Tok.enc,Wf,ZT,Option.some.injEq,go_sem,zd,seval,reduceIte,reduceCtorEq]
def few(l:List Tok):Bool:=decide (l.length≤100∧∀i,i<l.length→(l.getD i .zero).text.size≤100)
theorem zxj(l:List Tok):ze Tryz.prog 7 [zj l] (vb (few l)):=by
 refine ze.of (Orc.nil _) zyu (by simp[c7]) fun w0 own0=> ?_
 simp only[c7,zj,go_sem,zd,seval,reduceIte,reduceCtorEq]
 refine zG.lp (α:=Nat) (fun k=>[(0,.slc 3 (l.map Tok.enc)),(3,vi k)]) (fun _=>⟨[],0⟩) (fun k=>k≤l.length∧k≤101∧∀i,i<k→(l.getD i .zero).text.size≤100) (fun k=>l.length - k) 0 (by simp) (St.mk (by simp[zq,zo,zt])) fun k hk=> ?_
 simp only[Tok.enc,go_sem,zd,seval,reduceIte,reduceCtorEq]
 refine⟨fun h=>⟨by grind,fun h2=> ?_,fun h2=>⟨by grind,k+1,by grind⟩⟩,fun h=> ?_⟩
 ·have h5:¬ ∀i,i<l.length→(l.getD i .zero).text.size≤100:=fun hh=>by have:=hh k (by grind);omega
  simp only[few,h5,and_false,decide_false]
 ·unfold few
  grind
def qU(l:List Tok)(st:List Int)(k:Nat):List Int:=
 if ¬zC (l.getD k .zero)=⟨#[]⟩then st++ [(k:Int)]
 else if(l.getD k .zero).kind=13∧0<st.length∧zC (l.getD (st.getD (st.length - 1) 0).toNat .zero)=(l.getD k .zero).text then st.take (st.length - 1)else st
def opn(l:List Tok):Nat→List Int
 |0=>[]
 |k+1=>qU l (opn l k) k
theorem yU(l:List Tok):∀k,∀x∈opn l k,0≤x∧x<k
 |0,x,hx=>by simp[opn]at hx
 |k+1,x,hx=>by
  have ih:=yU l k x
  simp only[opn,qU]at hx
  split at hx
  ·simp only[List.mem_append,List.mem_singleton]at hx;grind
  ·split at hx
   ·have:=ih (List.mem_of_mem_take hx);omega
   ·have:=ih hx;omega
theorem Xb(l:List Tok):∀k,(opn l k).length≤k
 |0=>Nat.le_refl _
 |k+1=>by
  have ih:=Xb l k
  simp only[opn,qU]
  split
  ·simp;omega
  ·split
   ·simp;omega
   ·omega
def jG:Sum Tryz.prog:=⟨87,fun args=>args= [.agg (qj (args.getD 0 .any)).enc],fun args=>vs (zC (qj (args.getD 0 .any))),fun args h=>by
 have:=zm6 (qj (args.getD 0 .any));rwa [←h]at this,true⟩
structure OpS where
 k:Nat
 es:List Int
 ver:Nat
 clk:Nat
theorem ztW(l:List Tok)(n:Nat)(hn:n≤l.length)(hl:l.length≤1000000):ze Tryz.prog 86 [zj l,vi n] (zH (opn l n)):=by
 refine ze.of (Orc.cons jG (Orc.nil _)) zw0 (by simp[c86]) fun w0 own0=> ?_
 simp only[c86,zH,zj,go_sem,zd,seval,reduceIte,reduceCtorEq]
 refine zG.lp (α:=OpS) (fun a=>[(0,.slc 3 (l.map Tok.enc)),(1,vi n),(5,.ref 0 a.ver 0 (opn l a.k).length),(6,vi a.k)])
  (fun a=>⟨[⟨a.ver,1,a.es.map fun n=>[vi n],false,[vi 0]⟩],a.clk⟩) (fun a=>a.k≤n∧a.es.take (opn l a.k).length=opn l a.k∧(opn l a.k).length≤a.es.length) (fun a=>n - a.k) ⟨0,[],0,1⟩
  (by simp[opn]) (St.nil 5 1 [vi 0] (by simp[zo]) (St.mk (by simp[zq,zo,zt,opn]))) fun a ha=> ?_
 obtain⟨k,es,ver,clk⟩:=a
 simp only[Tok.enc,jG,go_sem,zd,seval,reduceIte,reduceCtorEq]
 simp only at ha
 obtain⟨h1,h2,h3⟩:=ha
 have hm:=yU l k
 have hlen:=Xb l k
 have hnext:opn l (k+1)=qU l (opn l k) k:=rfl
 have hN:((((opn l k).length:Nat):Int) - 1).toNat=(opn l k).length - 1:=by omega
 rw[hN]
 unfold qU at hnext
 generalize hst:opn l k=st at*
 have hget:0<st.length→es.getD (st.length - 1) 0=st.getD (st.length - 1) 0:=fun h=>by
  have e1:st.getD (st.length - 1) 0=(es.take st.length).getD (st.length - 1) 0:=by rw[h2]
  rw[e1,List.getD_eq_getElem?_getD,List.getD_eq_getElem?_getD,List.getElem?_take,if_pos (by omega)]
 have hlast:0<st.length→0≤es.getD (st.length - 1) 0∧es.getD (st.length - 1) 0<k:=fun h=>by
  rw[hget h,List.getD_eq_getElem?_getD,List.getElem?_eq_getElem (by omega)]
  exact hm _ (List.getElem_mem _)
 refine⟨fun hk=>⟨by omega,fun hc=>⟨by omega,by omega,⟨k+1,es.take st.length++ [(k:Int)],clk+1,clk+1+1⟩,?_⟩,fun hc=>⟨by omega,by omega,by omega,by omega,by grind,by omega,fun hp=>⟨by omega,by omega,by omega,⟨k+1,es,ver,clk⟩,?_⟩,fun hp=>⟨by omega,⟨k+1,es,ver,clk⟩,?_⟩⟩⟩,fun hk=> ?_⟩
 ·have e:opn l (k+1)=st++ [(k:Int)]:=by rw[hnext,if_pos hc]
  have e2:List.take (st.length+1) (st++ [(k:Int)])=st++ [(k:Int)]:=List.take_of_length_le (by simp)
  simp only[e,h2]
  simp[e2]
  omega
 ·have e:opn l (k+1)=st.take (st.length - 1):=by
   rw[hnext,if_neg (by simpa using hc),if_pos]
   have h0:0<st.length:=by have:=hp.1.2;omega
   exact⟨hp.1.1,h0,by rw[←hget h0];exact hp.2⟩
  simp only[e]
  have:List.take (st.length - 1) es=List.take (st.length - 1) st:=by
   have e3:(es.take st.length).take (st.length - 1)=es.take (st.length - 1):=by rw[List.take_take];congr 1;omega
   rw[←e3,h2]
  simp[this]
  omega
 ·have e:opn l (k+1)=st:=by
   rw[hnext,if_neg (by simpa using hc),if_neg]
   rintro⟨q1,q2,q3⟩
   rcases hp with(hp|hp)|hp
   ·exact hp q1
   ·omega
   ·rw[hget q2]at hp;exact hp q3
  simp only[e]
  simp[h2,h3]
  omega
 ·have:n=k:=by omega
  subst this
  rw[if_pos h3,h2,hst]
def jT(l:List Tok)(k j:Nat):Prop:=(opn l (j+1)).length<(opn l (k+1)).length∨¬(opn l (j+1)).getD ((opn l (k+1)).length - 1) 0=k
instance (l:List Tok) (k j:Nat):Decidable (jT l k j):=by unfold jT;infer_instance
def fe(l:List Tok)(k:Nat):Nat→Nat→Int
 |0,_=>l.length
 |f+1,j=>if jT l k j then j else fe l k f (j+1)
def qa(l:List Tok)(k:Nat):Int:=if zC (l.getD k .zero)=⟨#[]⟩then -1 else fe l k (l.length - (k+1)) (k+1)
def jb(l:List Tok)(m:Nat):List Int:=(List.range m).map (qa l)
theorem JH(l:List Tok)(m:Nat):jb l (m+1)=jb l m++ [qa l m]:=by simp[jb,List.range_succ]
theorem yi(l:List Tok)(m:Nat):(jb l m).length=m:=by simp[jb]
def z3(l:List Tok):Bool:=decide (∃i,i<l.length∧64<(opn l (i+1)).length)
def Xx(l:List Tok):V:=bif z3 l then .tup [zI,vi 3]else .tup [zH (jb l l.length),vi 0]
def KL:Sum Tryz.prog:=⟨86,fun args=>args= [zj (zi (args.getD 0 .any)),vi (args.getD 1 .any).int]∧0≤(args.getD 1 .any).int∧(args.getD 1 .any).int≤(zi (args.getD 0 .any)).length∧(zi (args.getD 0 .any)).length≤1000000,
 fun args=>zH (opn (zi (args.getD 0 .any)) (args.getD 1 .any).int.toNat),fun args ⟨h,h0,h1,h2⟩=>by
  have:=ztW (zi (args.getD 0 .any)) (args.getD 1 .any).int.toNat (by omega) h2
  rw[Int.toNat_of_nonneg h0,←h]at this;exact this,false⟩
theorem zbm:KL.f=86:=rfl
theorem zbl(args:List V):KL.D args=(args= [zj (zi (args.getD 0 .any)),vi (args.getD 1 .any).int]∧0≤(args.getD 1 .any).int∧(args.getD 1 .any).int≤(zi (args.getD 0 .any)).length∧(zi (args.getD 0 .any)).length≤1000000):=rfl
theorem KM:KL.flat=false:=rfl
theorem zbn(args:List V):KL.r args=zH (opn (zi (args.getD 0 .any)) (args.getD 1 .any).int.toNat):=rfl
theorem Ww:jG.f=87:=rfl
theorem Wv(args:List V):jG.D args=(args= [.agg (qj (args.getD 0 .any)).enc]):=rfl
theorem Qv:jG.flat=true:=rfl
theorem Wx(args:List V):jG.r args=vs (zC (qj (args.getD 0 .any))):=rfl
theorem J5(l:List Tok)(k j:Nat)(h:j<l.length):fe l k (l.length - j) j=if jT l k j then(j:Int)else fe l k (l.length - (j+1)) (j+1):=by
 have:l.length - j=(l.length - (j+1))+1:=by omega
 rw[this]
 rfl
theorem QQ(k:Nat):((k:Int)+1).toNat=k+1:=by omega
structure KVC where
 k:Nat
 ver:Nat
 clk:Nat
theorem zgF(l:List Tok)(hl:l.length≤1000000):ze Tryz.prog 51 [zj l] (Xx l):=by
 refine ze.of (Orc.cons KL (Orc.cons jG (Orc.nil _))) zwz (by simp[c51]) fun w0 own0=> ?_
 simp only[c51,zH,zj,go_sem,zd,seval,reduceIte,reduceCtorEq]
 refine zG.lp (α:=KVC) (fun a=>[(0,.slc 3 (l.map Tok.enc)),(4,.ref 0 a.ver 0 a.k),(5,vi a.k)])
  (fun a=>⟨[⟨a.ver,1,(jb l a.k).map fun n=>[vi n],false,[vi 0]⟩],a.clk⟩) (fun a=>a.k≤l.length∧∀i,i<a.k→(opn l (i+1)).length≤64) (fun a=>l.length - a.k) ⟨0,0,1⟩
  (by simp) (St.nil 4 1 [vi 0] (by simp[zo]) (St.mk (by simp[zq,zo,zt]))) fun a ha=> ?_
 obtain⟨k,ver,clk⟩:=a
 simp only[Tok.enc,Ww,Wv,Qv,Wx,zbm,zbl,KM,zbn,zj,zH,QQ,go_sem,zd,seval,reduceIte,reduceCtorEq]
 simp only at ha
 refine⟨fun hk=>⟨by omega,by omega,fun h64=> ?_,fun h64=>⟨by omega,fun hc=>⟨by omega,?_⟩,fun hc=> ?_⟩⟩,fun hk=> ?_⟩
 ·have:z3 l=true:=by simp only[z3,decide_eq_true_eq];exact⟨k,by omega,by omega⟩
  simp only[Xx,this];rfl
 ·refine zG.lp (α:=Nat) (fun j=>[(0,.slc 3 (l.map Tok.enc)),(4,.ref 0 ver 0 k),(5,vi k),(6,.slc 1 ((opn l (k+1)).map fun n=>[vi n])),(7,vi (fe l k (l.length - (j+1)) (j+1))),(8,vi j)])
   (fun _=>⟨[⟨ver,1,(jb l k).map fun n=>[vi n],false,[vi 0]⟩],clk⟩) (fun j=>k≤j∧j<l.length) (fun j=>j) (l.length - 1) (by omega) (St.mk ?_) fun j hj=> ?_
  ·simp only[go_sem,zd,seval,reduceIte,reduceCtorEq]
   have:l.length - (l.length - 1+1)=0:=by omega
   rw[this]
   exact⟨rfl,by omega⟩
  ·simp only[Tok.enc,Ww,Wv,Qv,Wx,zbm,zbl,KM,zbn,zj,zH,QQ,go_sem,zd,seval,reduceIte,reduceCtorEq]
   have hpos:0<(opn l (k+1)).length:=by
    have:opn l (k+1)=opn l k++ [(k:Int)]:=by show qU l (opn l k) k=_;unfold qU;rw[if_pos hc]
    rw[this];simp
   have hN:((((opn l (k+1)).length:Nat):Int) - 1).toNat=(opn l (k+1)).length - 1:=by omega
   rw[hN]
   refine⟨fun hkj=>⟨by omega,by omega,by omega,by omega,by omega,fun hC=>⟨by omega,j - 1,by omega,by omega,?_,by omega⟩,fun hC=>⟨by omega,j - 1,by omega,by omega,?_,by omega⟩⟩,fun hkj=>⟨?_,by omega,⟨k+1,clk+1,clk+1+1⟩,⟨by dsimp only;omega,fun i hi=> ?_⟩,by dsimp only;omega,⟨⟨rfl,rfl⟩,by dsimp only;omega⟩,⟨rfl,?_⟩,rfl⟩⟩
   ·have e:j - 1+1=j:=by omega
    rw[e,J5 l k j hj.2,if_pos]
    unfold jT
    rcases hC with hC|hC
    ·left;omega
    ·right;exact hC
   ·have e:j - 1+1=j:=by omega
    rw[e,J5 l k j hj.2,if_neg]
    unfold jT
    rintro(h|h)
    ·omega
    ·exact h hC.2
   ·have:=yi l k;omega
   ·by_cases h:i<k
    ·exact ha.2 i h
    ·have:i=k:=by have:i<k+1:=hi;omega
     subst this;omega
   ·have e:j=k:=by omega
    subst e
    rw[List.take_of_length_le (by rw[yi];exact Nat.le_refl _)]
    simp only[JH,qa,if_neg hc,List.map_append,List.map_cons,List.map_nil]
 ·refine⟨?_,by omega,⟨k+1,clk+1,clk+1+1⟩,⟨by dsimp only;omega,fun i hi=> ?_⟩,by dsimp only;omega,⟨⟨rfl,rfl⟩,by dsimp only;omega⟩,⟨rfl,?_⟩,rfl⟩
  ·have:=yi l k;omega
  ·by_cases h:i<k
   ·exact ha.2 i h
   ·have:i=k:=by have:i<k+1:=hi;omega
    subst this;omega
  ·rw[List.take_of_length_le (by rw[yi];exact Nat.le_refl _)]
   simp only[JH,qa,if_pos hc,List.map_append,List.map_cons,List.map_nil]
 ·have e:k=l.length:=by omega
  subst e
  have hd:z3 l=false:=by
   simp only[z3,decide_eq_false_iff_not]
   rintro⟨i,h1,h2⟩
   have:=ha.2 i h1
   omega
  rw[yi,if_pos (Nat.le_refl _),List.take_of_length_le (by rw[yi];exact Nat.le_refl _)]
  simp only[Xx,hd,Option.map_some]
  rfl
def Kk(l:List Tok)(st:List Int)(k:Nat):Prop:=zC (l.getD k .zero)=⟨#[]⟩∧(l.getD k .zero).kind=13∧0<st.length∧zC (l.getD (st.getD (st.length - 1) 0).toNat .zero)=(l.getD k .zero).text
instance (l:List Tok) (st:List Int) (k:Nat):Decidable (Kk l st k):=by unfold Kk;infer_instance
def ZB(l:List Tok):Nat→List Int
 |0=>List.replicate l.length 0
 |m+1=>if Kk l (opn l m) m then((ZB l m).set m (-1)).set ((opn l m).getD ((opn l m).length - 1) 0).toNat m else(ZB l m).set m (-1)
def JW(l:List Tok)(i:Nat):List Int:=((opn l l.length).take i).foldl (fun o x=>o.set x.toNat l.length) (ZB l l.length)
def zdT(l:List Tok):V:=bif z3 l then .tup [zI,vi 3]else .tup [zH (JW l (opn l l.length).length),vi 0]
def YV:Sum Tryz.prog:=⟨118,fun args=>args= [.agg (qj (args.getD 0 .any)).enc],fun args=>vs (zC (qj (args.getD 0 .any))),fun args h=>by
 have:=zon (qj (args.getD 0 .any));rwa [←h]at this,true⟩
theorem zhr:YV.f=118:=rfl
theorem zhq(args:List V):YV.D args=(args= [.agg (qj (args.getD 0 .any)).enc]):=rfl
theorem zav:YV.flat=true:=rfl
theorem zhs(args:List V):YV.r args=vs (zC (qj (args.getD 0 .any))):=rfl
structure EnS where
 m:Nat
 es:List Int
 vo:Nat
 ve:Nat
 clk:Nat
theorem YJ(l:List Tok):∀m,(ZB l m).length=l.length
 |0=>by simp[ZB]
 |m+1=>by
  have:=YJ l m
  simp only[ZB]
  split<;>simp[this]
theorem zby{t:Tok}(h:¬zC t=⟨#[]⟩):¬t.kind=13:=by
 intro hk
 apply h
 simp[zC,hk]
theorem YN(l:List Int)(i:Nat)(v:Int):(l.map fun n=>[vi n]).set i [V.c (Value.int IntKind.i64 v)]=(l.set i v).map fun n=>[vi n]:=by
 rw[List.map_set]
theorem zdW(l:List Tok)(hl:l.length≤1000000):ze Tryz.prog 96 [zj l] (zdT l):=by
 refine ze.of (Orc.cons YV (Orc.nil _)) zw3 (by simp[c96]) fun w0 own0=> ?_
 simp only[c96,zH,zj,go_sem,zd,seval,reduceIte,reduceCtorEq]
 refine zG.lab (α:=EnS) 0 (fun a=>[(0,.slc 3 (l.map Tok.enc)),(4,.ref 0 a.vo 0 l.length),(5,.ref 1 a.ve 0 (opn l a.m).length),(6,vi a.m)])
  (fun a=>⟨[⟨a.vo,1,(ZB l a.m).map fun n=>[vi n],false,[vi 0]⟩,⟨a.ve,1,a.es.map fun n=>[vi n],false,[vi 0]⟩],a.clk⟩)
  (fun a=>a.m≤l.length∧a.es.take (opn l a.m).length=opn l a.m∧(opn l a.m).length≤a.es.length∧∀i,i<a.m→(opn l (i+1)).length≤64) (fun a=>l.length - a.m) rfl ?_ fun a ha=> ?_
 ·simp only[go_sem,zd,seval,reduceIte,reduceCtorEq]
  refine⟨⟨by omega,by omega,by first|omega|(simp;omega)⟩,⟨0,[],0,1,2⟩,by simp[opn],St.nil 5 1 [vi 0] (by simp[zo]) (St.cut ?_ ?_ ?_)⟩
  ·simp[zq,zo,zt,opn]
  ·simp[Heap.alloc,ZB]
  ·simp[Heap.alloc]
 ·obtain⟨m,es,vo,ve,clk⟩:=a
  simp only[Tok.enc,zhr,zhq,zav,zhs,zj,zH,QQ,go_sem,zd,seval,reduceIte,reduceCtorEq]
  simp only at ha
  obtain⟨h1,h2,h3,h4⟩:=ha
  have hol:=YJ l m
  have hm:=yU l m
  have hlen:=Xb l m
  have hnext:opn l (m+1)=qU l (opn l m) m:=rfl
  have hN:((((opn l m).length:Nat):Int) - 1).toNat=(opn l m).length - 1:=by omega
  unfold qU at hnext
  refine⟨fun h=> ?_,fun h=>⟨by omega,by omega,by omega,fun hc=> ?_,fun hc=> ?_⟩⟩
  ·have e:m=l.length:=by omega
   subst e
   refine zG.lp (α:=Nat) (fun i=>[(0,.slc 3 (l.map Tok.enc)),(4,.ref 0 vo 0 l.length),(18,.ref 1 ve 0 (opn l l.length).length),(19,vi (opn l l.length).length),(20,vi i)])
    (fun i=>⟨[⟨vo,1,(JW l i).map fun n=>[vi n],false,[vi 0]⟩,⟨ve,1,es.map fun n=>[vi n],false,[vi 0]⟩],clk⟩)
    (fun i=>i≤(opn l l.length).length) (fun i=>(opn l l.length).length - i) 0 (by simp) (St.cut ?_ ?_ ?_) fun i hi=> ?_
   ·simp only[go_sem,zd,seval,reduceIte,reduceCtorEq]
   ·simp[JW]
   ·rfl
   ·simp only[go_sem,zd,seval,reduceIte,reduceCtorEq]
    have hfl:∀i,(JW l i).length=l.length:=by
     intro i
     have key:∀(t:List Int)(o:List Int),(t.foldl (fun o x=>o.set x.toNat l.length) o).length=o.length:=by
      intro t
      induction t with
      |nil=>intro o;rfl
      |cons x t ih=>intro o;simp only[List.foldl_cons];rw[ih];simp
     simp only[JW]
     rw[key,hol]
    have hget:∀i,i<(opn l l.length).length→es.getD i 0=(opn l l.length).getD i 0:=fun i h=>by
     generalize opn l l.length=st at*
     have e1:st.getD i 0=(es.take st.length).getD i 0:=by rw[h2]
     rw[e1,List.getD_eq_getElem?_getD,List.getD_eq_getElem?_getD,List.getElem?_take,if_pos (by omega)]
    have hin:∀i,i<(opn l l.length).length→0≤es.getD i 0∧es.getD i 0<l.length:=fun i h=>by
     rw[hget i h,List.getD_eq_getElem?_getD,List.getElem?_eq_getElem h]
     exact hm _ (List.getElem_mem _)
    refine⟨fun hlt=> ?_,fun hge=> ?_⟩
    ·have hi':i<(opn l l.length).length:=by omega
     have:=hin i hi'
     refine⟨by omega,by omega,this,by rw[hfl];omega,by omega,i+1,by omega,by omega,by omega,?_⟩
     rw[YN]
     congr 1
     simp only[JW]
     rw[List.take_add_one,List.foldl_append,List.getElem?_eq_getElem hi',hget i hi',List.getD_eq_getElem?_getD,List.getElem?_eq_getElem hi']
     rfl
    ·have e:i=(opn l l.length).length:=by omega
     subst e
     have hd:z3 l=false:=by
      simp only[z3,decide_eq_false_iff_not]
      rintro⟨i,h1,h2⟩
      have:=h4 i h1
      omega
     rw[hfl,if_pos (Nat.le_refl _),List.take_of_length_le (by rw[hfl];exact Nat.le_refl _)]
     simp only[zdT,hd,Option.map_some]
     rfl
  ·have hk:=zby hc
   simp only[hk,false_and,and_false,false_implies,true_and,not_false_eq_true,or_true,true_or,forall_const]
   rw[if_pos hc]at hnext
   have hnp:¬Kk l (opn l m) m:=fun hp=>hc hp.1
   have hno:ZB l (m+1)=(ZB l m).set m (-1):=by simp only[ZB,if_neg hnp]
   refine⟨by omega,fun h64=> ?_,fun h64=>⟨by omega,⟨m+1,es.take (opn l m).length++ [(m:Int)],vo,clk+1+1,clk+1+1+1⟩,?_⟩⟩
   ·have:z3 l=true:=by
     simp only[z3,decide_eq_true_eq]
     exact⟨m,by omega,by rw[hnext];simp;omega⟩
    simp only[zdT,this];rfl
   ·simp only[hnext,hno,YN,h2,List.map_append,List.map_cons,List.map_nil,List.length_append,List.length_cons,List.length_nil]
    refine⟨⟨by omega,List.take_of_length_le (by simp),by omega,fun i hi=> ?_⟩,by omega,⟨trivial,⟨trivial,by first|trivial|omega⟩,by first|trivial|omega⟩,by simp⟩
    by_cases e:i<m
    ·exact h4 i e
    ·have:i=m:=by omega
     subst this
     rw[hnext];simp;omega
  ·rw[hN]
   rw[if_neg (by simpa using hc)]at hnext
   have h0:(opn l m).length≤64:=by
    by_cases e:m=0
    ·subst e;simp[opn]
    ·have:=h4 (m - 1) (by omega)
     rwa [show m - 1+1=m by omega]at this
   have hget:0<(opn l m).length→es.getD ((opn l m).length - 1) 0=(opn l m).getD ((opn l m).length - 1) 0:=fun h=>by
    generalize opn l m=st at*
    have e1:st.getD (st.length - 1) 0=(es.take st.length).getD (st.length - 1) 0:=by rw[h2]
    rw[e1,List.getD_eq_getElem?_getD,List.getD_eq_getElem?_getD,List.getElem?_take,if_pos (by omega)]
   have hlast:0<(opn l m).length→0≤es.getD ((opn l m).length - 1) 0∧es.getD ((opn l m).length - 1) 0<m:=fun h=>by
    rw[hget h,List.getD_eq_getElem?_getD,List.getElem?_eq_getElem (by omega)]
    exact hm _ (List.getElem_mem _)
   refine⟨by omega,by omega,by omega,by grind,fun hp=> ?_,fun hp=>⟨by omega,⟨m+1,es,vo,ve,clk+1⟩,?_⟩⟩
   ·have hp0:0<(opn l m).length:=by have:=hp.1.2;omega
    have hpp:Kk l (opn l m) m:=⟨hc,hp.1.1,hp0,by rw[←hget hp0];exact hp.2⟩
    have hno:ZB l (m+1)=((ZB l m).set m (-1)).set (es.getD ((opn l m).length - 1) 0).toNat m:=by simp only[ZB,if_pos hpp,hget hp0]
    rw[if_pos ⟨hpp.2.1,hpp.2.2.1,hpp.2.2.2⟩]at hnext
    refine⟨by omega,by omega,by omega,by have:=hlast hp0;omega,?_,by omega,by omega,by omega,⟨m+1,es,vo,ve,clk+1⟩,?_⟩
    ·simp only[YN,decide_eq_true_eq,List.length_map,List.length_set,hol];have:=hlast hp0;omega
    ·have e4:List.take ((opn l m).length - 1) es=List.take ((opn l m).length - 1) (opn l m):=by
      generalize opn l m=st at*
      have e3:(es.take st.length).take (st.length - 1)=es.take (st.length - 1):=by rw[List.take_take];congr 1;omega
      rw[←e3,h2]
     have e5:(List.take ((opn l m).length - 1) (opn l m)).length=(opn l m).length - 1:=by simp
     simp only[hnext,hno,YN,z4,List.drop_succ_cons,List.drop_nil,List.drop_zero,e5,e4]
     refine⟨⟨by omega,trivial,by omega,fun i hi=> ?_⟩,by omega,⟨trivial,⟨trivial,by omega⟩,by omega⟩,by simp⟩
     by_cases e:i<m
     ·exact h4 i e
     ·have:i=m:=by omega
      subst this
      rw[hnext,e5];omega
   ·have hnp:¬Kk l (opn l m) m:=by
     rintro⟨_,q1,q2,q3⟩
     rcases hp with(hp|hp)|hp
     ·exact hp q1
     ·omega
     ·rw[hget q2]at hp;exact hp q3
    have hno:ZB l (m+1)=(ZB l m).set m (-1):=by simp only[ZB,if_neg hnp]
    rw[if_neg (fun hh=>hnp ⟨hc,hh⟩)]at hnext
    simp only[hnext,hno,YN]
    refine⟨⟨by omega,h2,h3,fun i hi=> ?_⟩,by omega,⟨trivial,⟨trivial,trivial⟩,by omega⟩,by simp⟩
    by_cases e:i<m
    ·exact h4 i e
    ·have:i=m:=by omega
     subst this
     rw[hnext];omega
theorem jE(l:List Tok)(m:Nat):opn l (m+1)=qU l (opn l m) m:=rfl
theorem qD{l:List Tok}{m:Nat}(h:¬zC (l.getD m .zero)=⟨#[]⟩):opn l (m+1)=opn l m++ [(m:Int)]:=by rw[jE,qU,if_pos h]
theorem Y8{l:List Tok}{m:Nat}(h:Kk l (opn l m) m):opn l (m+1)=(opn l m).take ((opn l m).length - 1):=by
 rw[jE,qU,if_neg (by simpa using h.1),if_pos h.2]
theorem kY{l:List Tok}{m:Nat}(h:zC (l.getD m .zero)=⟨#[]⟩)(hp:¬Kk l (opn l m) m):opn l (m+1)=opn l m:=by
 rw[jE,qU,if_neg (by simpa using h),if_neg (fun hh=>hp ⟨h,hh⟩)]
theorem zoo{l:List Tok}{k m:Nat}(hk:k<m)(h:¬(k:Int)∈opn l m):¬(k:Int)∈opn l (m+1):=by
 by_cases hc:zC (l.getD m .zero)=⟨#[]⟩
 ·by_cases hp:Kk l (opn l m) m
  ·rw[Y8 hp];exact fun hh=>h (List.mem_of_mem_take hh)
  ·rw[kY hc hp];exact h
 ·rw[qD hc];simp only[List.mem_append,List.mem_singleton,not_or];exact⟨h,by omega⟩
theorem zd0{l:List Tok}{k:Nat}:∀(d m:Nat),k<m→(k:Int)∈opn l (m+d)→(k:Int)∈opn l m
 |0,_,_,h=>h
 |d+1,m,hk,h=>zd0 d m hk (Decidable.byContradiction fun hn=>zoo (by omega) hn h)
theorem ZD{l:List Tok}{k m m':Nat}(hk:k<m)(hm:m≤m')(h:(k:Int)∈opn l m'):(k:Int)∈opn l m:=by
 obtain⟨d,rfl⟩:∃d,m'=m+d:=⟨m' - m,by omega⟩
 exact zd0 d m hk h
theorem qS{l:List Tok}:∀(m:Nat)(k:Nat),(k:Int)∈opn l m→¬zC (l.getD k .zero)=⟨#[]⟩
 |0,k,h=>by simp[opn]at h
 |m+1,k,h=>by
  by_cases hc:zC (l.getD m .zero)=⟨#[]⟩
  ·by_cases hp:Kk l (opn l m) m
   ·rw[Y8 hp]at h;exact qS m k (List.mem_of_mem_take h)
   ·rw[kY hc hp]at h;exact qS m k h
  ·rw[qD hc]at h
   simp only[List.mem_append,List.mem_singleton]at h
   rcases h with h|h
   ·exact qS m k h
   ·have:k=m:=by omega
    subst this;exact hc
theorem zbc(l:List Tok):∀m,(opn l m).Nodup
 |0=>by simp[opn]
 |m+1=>by
  have ih:=zbc l m
  by_cases hc:zC (l.getD m .zero)=⟨#[]⟩
  ·by_cases hp:Kk l (opn l m) m
   ·rw[Y8 hp];exact ih.sublist (List.take_sublist _ _)
   ·rw[kY hc hp];exact ih
  ·rw[qD hc,List.nodup_append]
   refine⟨ih,by simp,fun a ha b hb=> ?_⟩
   have:=yU l m a ha
   simp at hb
   omega
theorem X4{l:List Tok}{k:Nat}(hc:¬zC (l.getD k .zero)=⟨#[]⟩):∀(d:Nat),(k:Int)∈opn l (k+1+d)→∃t,opn l (k+1+d)=opn l k++(k:Int)::t
 |0,_=>⟨[],qD hc⟩
 |d+1,h=>by
  have hin:(k:Int)∈opn l (k+1+d):=ZD (by omega) (by omega) h
  obtain⟨t,ht⟩:=X4 hc d hin
  have e:k+1+(d+1)=(k+1+d)+1:=by omega
  rw[e]at h⊢
  generalize k+1+d=m at*
  by_cases hm:zC (l.getD m .zero)=⟨#[]⟩
  ·by_cases hp:Kk l (opn l m) m
   ·rw[Y8 hp]at h⊢
    rw[ht]at h⊢
    have e2:(opn l k++(k:Int)::t).length - 1=(opn l k).length+t.length:=by simp
    rw[e2,List.take_append,List.take_of_length_le (by omega)]at h⊢
    cases t with
    |nil=>
     simp at h
     have:=yU l k _ h
     omega
    |cons x t=>exact⟨(x::t).take t.length,by simp⟩
   ·rw[kY hm hp];exact⟨t,ht⟩
  ·rw[qD hm];exact⟨t++ [(m:Int)],by rw[ht];simp⟩
theorem Zo{l:List Tok}{k j:Nat}(hc:¬zC (l.getD k .zero)=⟨#[]⟩)(hj:k≤j):jT l k j↔¬(k:Int)∈opn l (j+1):=by
 have hd:(opn l (k+1)).length=(opn l k).length+1:=by rw[qD hc];simp
 constructor
 ·intro h hin
  obtain⟨d,rfl⟩:∃d,j=k+d:=⟨j - k,by omega⟩
  have e:k+d+1=k+1+d:=by omega
  unfold jT at h
  rw[e]at h hin
  obtain⟨t,ht⟩:=X4 hc d hin
  rw[ht,hd]at h
  rcases h with h|h
  ·simp at h
  ·apply h;simp[List.getD_eq_getElem?_getD]
 ·intro hn
  unfold jT
  by_cases h1:(opn l (j+1)).length<(opn l (k+1)).length
  ·exact .inl h1
  ·refine .inr fun h2=>hn ?_
   rw[←h2,List.getD_eq_getElem?_getD,List.getElem?_eq_getElem (by omega)]
   exact List.getElem_mem _
theorem zbH{l:List Tok}{k:Nat}:∀(d j:Nat),j+d≤l.length→(∀i,j≤i→i<j+d→¬jT l k i)→fe l k (l.length - j) j=fe l k (l.length - (j+d)) (j+d)
 |0,_,_,_=>rfl
 |d+1,j,h,hn=>by
  rw[J5 l k j (by omega),if_neg (hn j (by omega) (by omega)),zbH d (j+1) (by omega) (fun i h1 h2=>hn i (by omega) (by omega))]
  have e:j+1+d=j+(d+1):=by omega
  rw[e]
theorem Kb(o:List Int)(i k:Nat)(v:Int)(hk:k<o.length):(o.set i v).getD k 0=if i=k then v else o.getD k 0:=by
 rw[List.getD_eq_getElem?_getD,List.getElem?_set]
 split
 ·rename_i h;subst h;simp[hk]
 ·rw[List.getD_eq_getElem?_getD]
def feE(l:List Tok)(k:Nat):Int:=fe l k (l.length - (k+1)) (k+1)
theorem zdU(l:List Tok):∀(m:Nat),m≤l.length→∀k,k<m→(ZB l m).getD k 0=if zC (l.getD k .zero)=⟨#[]⟩then -1 else if(k:Int)∈opn l m then -1 else feE l k
 |0,_,k,hk=>by omega
 |m+1,hm,k,hk=>by
  have ih:=zdU l m (by omega)
  have hlen:=YJ l m
  by_cases hp:Kk l (opn l m) m
  ·have hop:=Y8 hp
   have h0:=hp.2.2.1
   have ho:∃o:Nat,(opn l m).getD ((opn l m).length - 1) 0=(o:Int)∧o<m∧(o:Int)∈opn l m:=by
    have hin:(opn l m).getD ((opn l m).length - 1) 0∈opn l m:=by
     rw[List.getD_eq_getElem?_getD,List.getElem?_eq_getElem (by omega)];exact List.getElem_mem _
    have:=yU l m _ hin
    exact⟨((opn l m).getD ((opn l m).length - 1) 0).toNat,by omega,by omega,by rw[Int.toNat_of_nonneg this.1];exact hin⟩
   obtain⟨o,ho,hom,hoin⟩:=ho
   have hsplit:opn l m=opn l (m+1)++ [(o:Int)]:=by
    rw[hop]
    have e:=List.take_append_drop ((opn l m).length - 1) (opn l m)
    rw[List.drop_eq_getElem_cons (by omega)]at e
    have e2:(opn l m)[(opn l m).length - 1]'(by omega)=(o:Int):=by
     rw[←ho,List.getD_eq_getElem?_getD,List.getElem?_eq_getElem (by omega)];rfl
    rw[e2,show(opn l m).length - 1+1=(opn l m).length by omega,List.drop_length]at e
    exact e.symm
   have hnot:¬(o:Int)∈opn l (m+1):=by
    have:=zbc l m
    rw[hsplit,List.nodup_append]at this
    exact fun h=>this.2.2 _ h _ (by simp) rfl
   simp only[ZB,if_pos hp,ho,Int.toNat_natCast]
   rw[Kb _ _ _ _ (by simp;omega),Kb _ _ _ _ (by omega)]
   by_cases h1:o=k
   ·subst h1
    rw[if_pos rfl,if_neg (qS m o hoin),if_neg hnot]
    unfold feE
    have hc:=qS m o hoin
    obtain⟨d,hd⟩:∃d,m=o+1+d:=⟨m - (o+1),by omega⟩
    rw[zbH d (o+1) (by omega) (fun i hi1 hi2=>by
     rw[Zo hc (by omega)]
     exact fun hn=>hn (ZD (by omega) (by omega) hoin)),←hd,J5 l o m (by omega),if_pos ((Zo hc (by omega)).2 hnot)]
   ·rw[if_neg h1]
    by_cases h2:m=k
    ·subst h2;rw[if_pos rfl,if_pos hp.1]
    ·rw[if_neg h2,ih k (by omega)]
     have:(k:Int)∈opn l m↔(k:Int)∈opn l (m+1):=by
      rw[hsplit];simp only[List.mem_append,List.mem_singleton]
      constructor
      ·rintro(h|h)
       ·exact h
       ·omega
      ·exact fun h=>.inl h
     simp only[this]
  ·simp only[ZB,if_neg hp]
   rw[Kb _ _ _ _ (by omega)]
   by_cases h2:m=k
   ·subst h2
    rw[if_pos rfl]
    by_cases hc:zC (l.getD m .zero)=⟨#[]⟩
    ·rw[if_pos hc]
    ·rw[if_neg hc,if_pos (by rw[qD hc];simp)]
   ·rw[if_neg h2,ih k (by omega)]
    have:(k:Int)∈opn l m↔(k:Int)∈opn l (m+1):=by
     by_cases hc:zC (l.getD m .zero)=⟨#[]⟩
     ·rw[kY hc hp]
     ·rw[qD hc];simp only[List.mem_append,List.mem_singleton]
      constructor
      ·exact fun h=>.inl h
      ·rintro(h|h)
       ·exact h
       ·omega
    simp only[this]
theorem Zr(v:Int):∀(t:List Int)(o:List Int)(k:Nat),(∀x∈t,0≤x)→k<o.length→(t.foldl (fun o x=>o.set x.toNat v) o).getD k 0=if(k:Int)∈t then v else o.getD k 0
 | [],o,k,_,_=>by simp
 |x::t,o,k,hx,hk=>by
  have h0:=hx x (by simp)
  rw[List.foldl_cons,Zr v t _ k (fun y hy=>hx y (by simp[hy])) (by simpa using hk),Kb _ _ _ _ hk]
  by_cases h1:(k:Int)∈t
  ·simp[h1]
  ·have e:x.toNat=k↔(k:Int)=x:=by omega
   simp only[List.mem_cons,h1,or_false,if_false,e]
theorem ztT(l:List Tok):JW l (opn l l.length).length=jb l l.length:=by
 have hlen:∀(t o:List Int),(t.foldl (fun o x=>o.set x.toNat (l.length:Int)) o).length=o.length:=by
  intro t
  induction t with
  |nil=>intro o;rfl
  |cons x t ih=>intro o;rw[List.foldl_cons,ih];simp
 have hl2:(JW l (opn l l.length).length).length=l.length:=by unfold JW;rw[hlen,YJ]
 apply List.ext_getElem (by rw[hl2,yi])
 intro k h1 h2
 have hk:k<l.length:=by omega
 have e1:(JW l (opn l l.length).length)[k]=(JW l (opn l l.length).length).getD k 0:=by rw[List.getD_eq_getElem?_getD,List.getElem?_eq_getElem h1];rfl
 rw[e1]
 unfold JW
 rw[List.take_length,Zr _ _ _ _ (fun x hx=>(yU l _ x hx).1) (by rw[YJ];exact hk),zdU l l.length (Nat.le_refl _) k hk]
 simp only[jb,List.getElem_map,List.getElem_range,qa]
 by_cases hin:(k:Int)∈opn l l.length
 ·have hc:=qS _ k hin
  rw[if_pos hin,if_neg hc]
  obtain⟨d,hd⟩:∃d,l.length=k+1+d:=⟨l.length - (k+1),by omega⟩
  rw[zbH d (k+1) (by omega) (fun i hi1 hi2=>by
   rw[Zo hc (by omega)]
   exact fun hn=>hn (ZD (by omega) (by omega) hin)),←hd]
  simp[fe]
 ·rw[if_neg hin,if_neg hin];rfl
theorem zoe(l:List Tok):zdT l=Xx l:=by
 unfold zdT Xx
 rw[ztT]
theorem PRep.nilS{F:Nat→Prop}{w:World}{v:Value}(sz:Nat)(h:PRep F w v zI):PRep F w v (.slc sz []):=by
 cases h
 exact .slc none 0 0 sz [] 0 0 (fun _ _=>undef) rfl (Nat.le_refl _) (by simp) (by simp) (by simp) (by simp)
def zv(l:List Tok):List Int:=if z3 l then[]else jb l l.length
def j4(l:List Tok):Int:=if z3 l then 3 else 0
theorem zaR(l:List Tok)(F:Nat→Prop)(w:World)(v:Value)(h:PRep F w v (Xx l)):PRep F w v (.tup [zH (zv l),vi (j4 l)]):=by
 unfold Xx at h
 unfold zv j4
 cases hd:z3 l with
 |false=>simpa[hd]using h
 |true=>
  simp only[hd,cond_true]at h
  simp only[if_true]
  cases h with
  |tup cs xs hl h=>
   refine .tup cs _ hl fun i hi=> ?_
   have:=h i hi
   match i,hi with
   |0,_=>exact PRep.nilS 1 this
   |1,_=>exact this
   |n+2,hi=>exact absurd hi (by simp)
theorem zbR(l:List Tok)(hl:l.length≤1000000):ze Tryz.prog 96 [zj l] (.tup [zH (zv l),vi (j4 l)]):=by
 have:=zdW l hl
 rw[zoe]at this
 exact ze.rsub this (zaR l)
theorem zed(l:List Tok)(hl:l.length≤1000000):ze Tryz.prog 51 [zj l] (.tup [zH (zv l),vi (j4 l)]):=ze.rsub (zgF l hl) (zaR l)
def jU(args:List V):Prop:=args= [zj (zi (args.getD 0 .any))]∧(zi (args.getD 0 .any)).length≤1000000
def jV(args:List V):V:=.tup [zH (zv (zi (args.getD 0 .any))),vi (j4 (zi (args.getD 0 .any)))]
def KC:Sum Tryz.prog:=⟨96,jU,jV,fun args h=>by have:=zbR _ h.2;rwa [←h.1]at this,false⟩
theorem qe:KC.f=96:=rfl
theorem qd(args:List V):KC.D args=jU args:=rfl
theorem yj:KC.flat=false:=rfl
theorem qf(args:List V):KC.r args=jV args:=rfl
def KD:Sum Tryz.prog:=⟨51,jU,jV,fun args h=>by have:=zed _ h.2;rwa [←h.1]at this,false⟩
theorem qh:KD.f=51:=rfl
theorem qg(args:List V):KD.D args=jU args:=rfl
theorem yk:KD.flat=false:=rfl
theorem qi(args:List V):KD.r args=jV args:=rfl
def zbh(l:List Int)(k:Int):Prop:= -9223372036854775808≤k∧k<9223372036854775807∧l.getD k.toNat 0<9223372036854775807
def Ye:Sum Tryz.prog:=⟨97,fun args=>args= [zH (zP (args.getD 0 .any)),vi (args.getD 1 .any).int]∧zbh (zP (args.getD 0 .any)) (args.getD 1 .any).int,fun args=>vi (skip (zP (args.getD 0 .any)) (args.getD 1 .any).int),fun args h=>by
 have:=zuh (zP (args.getD 0 .any)) (args.getD 1 .any).int h.2.1 h.2.2.1 h.2.2.2;rwa [←h.1]at this,true⟩
theorem y7:Ye.f=97:=rfl
theorem y6(args:List V):Ye.D args=(args= [zH (zP (args.getD 0 .any)),vi (args.getD 1 .any).int]∧zbh (zP (args.getD 0 .any)) (args.getD 1 .any).int):=rfl
theorem yp:Ye.flat=true:=rfl
theorem y8(args:List V):Ye.r args=vi (skip (zP (args.getD 0 .any)) (args.getD 1 .any).int):=rfl
theorem zca(ends:List Int)(k:Int)(hk:k<ends.length):k+1≤skip ends k:=by
 unfold skip
 grind
theorem ziJ(ends:List Int)(k:Int)(hk:k<ends.length):skip ends k≤ends.length:=by
 unfold skip
 grind
def jK:Sum Tryz.prog:=⟨94,fun args=>args= [zH (zP (args.getD 0 .any)),vi (args.getD 1 .any).int]∧zbh (zP (args.getD 0 .any)) (args.getD 1 .any).int,fun args=>vi (skip (zP (args.getD 0 .any)) (args.getD 1 .any).int),fun args h=>by
 have:=zgG (zP (args.getD 0 .any)) (args.getD 1 .any).int h.2.1 h.2.2.1 h.2.2.2;rwa [←h.1]at this,true⟩
theorem Yc:jK.f=94:=rfl
theorem Yb(args:List V):jK.D args=(args= [zH (zP (args.getD 0 .any)),vi (args.getD 1 .any).int]∧zbh (zP (args.getD 0 .any)) (args.getD 1 .any).int):=rfl
theorem jg:jK.flat=true:=rfl
theorem Yd(args:List V):jK.r args=vi (skip (zP (args.getD 0 .any)) (args.getD 1 .any).int):=rfl
theorem znv(l:List Tok)(k:Nat):∀(f j:Nat),j+f=l.length→(j:Int)≤fe l k f j∧fe l k f j≤l.length
 |0,j,h=>by simp only[fe];omega
 |f+1,j,h=>by
  simp only[fe]
  split
  ·omega
  ·have:=znv l k f (j+1) (by omega);omega
theorem Xw(l:List Tok)(k:Nat)(hk:k<l.length):qa l k= -1∨((k:Int)<qa l k∧qa l k≤l.length):=by
 unfold qa
 split
 ·exact .inl rfl
 ·have:=znv l k (l.length - (k+1)) (k+1) (by omega);right;omega
theorem Zp(l:List Tok)(hd:z3 l=false)(k:Nat)(hk:k<l.length):(zv l).getD k 0=qa l k:=by
 simp only[zv,hd,Bool.false_eq_true,if_false,jb]
 simp[List.getD_eq_getElem?_getD,hk]
theorem YA(l:List Tok)(k:Nat):(zv l).getD k 0≤l.length:=by
 cases hd:z3 l with
 |true=>simp[zv,hd]
 |false=>
  by_cases hk:k<l.length
  ·rw[Zp l hd k hk];have:=Xw l k hk;omega
  ·have:(zv l).length≤k:=by simp[zv,hd,yi];omega
   rw[List.getD_eq_getElem?_getD,List.getElem?_eq_none this];simp
theorem zie(l:List Tok)(k:Nat):∀(f j:Nat),j+f=l.length→fe l k f j=l.length∨∃m,j≤m∧m<l.length∧fe l k f j=m∧jT l k m∧∀i,j≤i→i<m→¬jT l k i
 |0,j,h=>by simp only[fe];exact .inl trivial
 |f+1,j,h=>by
  simp only[fe]
  split
  ·rename_i hc;exact .inr ⟨j,Nat.le_refl _,by omega,rfl,hc,fun i h1 h2=>by omega⟩
  ·rename_i hc
   rcases zie l k f (j+1) (by omega)with h1|⟨m,h1,h2,h3,h4,h5⟩
   ·exact .inl h1
   ·refine .inr ⟨m,by omega,h2,h3,h4,fun i hi1 hi2=> ?_⟩
    by_cases e:i=j
    ·subst e;exact hc
    ·exact h5 i (by omega) hi2
structure Part where
 t:Tok
 ar:Option (List Tok)
instance:Inhabited Part:=⟨⟨.zero,none⟩⟩
def avO(o:Option (List Tok)):V:=match o with|none=>zI|some l=>zj l
def Part.enc(p:Part):List V:=[vi p.t.kind,vs p.t.text,vi p.t.n,avO p.ar]
def parts(l:List Part):V:=.slc 4 (l.map Part.enc)
theorem Part.eta'(p:Part):(⟨⟨p.t.kind,p.t.text,p.t.n⟩,p.ar⟩:Part)=p:=rfl
theorem zoB(S:Nat→Bool)(h:Heap)(o:Option (List Tok)):res S h 10 (avO o)=some (avO o):=by cases o<;>rfl
theorem ZZ(S:Nat→Bool)(h:Heap):∀l:List Part,zL (zL (res S h 10)) (l.map Part.enc)=some (l.map Part.enc)
 | []=>rfl
 |p::l=>by
  have e:zL (res S h 10) p.enc=some p.enc:=by simp only[Part.enc,zL,ziG,zoB]
  simp only[List.map_cons,zL,ZZ S h l,e]
def plR(ends:List Int)(to:Int):Nat→Int→List Int
 |0,_=>[]
 |f+1,a=>if a<to then a::plR ends to f (skip ends a)else[]
def pAt(l:List Tok)(k:Nat):Part:=⟨l.getD k .zero,if 0≤(zv l).getD k 0 then some ((l.take ((zv l).getD k 0).toNat).drop (k+1))else none⟩
def zY(l:List Tok):List Int→Option (List Part)
 | []=>some []
 |k::r=>if(zv l).getD k.toNat 0=l.length then none else(zY l r).map fun ps=>if(l.getD k.toNat .zero).kind=1 then ps else pAt l k.toNat::ps
def ptO(l:List Tok):Option (List Part):=if z3 l=true then none else zY l (plR (zv l) l.length (l.length+1) 0)
def ptL(l:List Tok):List Part:=(ptO l).getD []
def ptB(l:List Tok):Bool:=(ptO l).isSome
def ptV(l:List Tok):V:=.tup [parts (ptL l),vb (ptB l)]
theorem QS(F:Nat→Prop)(w:World)(v:Value)(h:PRep F w v (.tup [zI,vb false])):PRep F w v (.tup [parts [],vb false]):=by
 cases h with
 |tup cs _ hl hx=>
  refine .tup cs _ hl fun i hi=> ?_
  have:=hx i hi
  match i,hi with
  |0,_=>exact PRep.nilS 4 this
  |1,_=>exact this
def zd9:Option (List Part)→V
 |none=>.tup [zI,vb false]
 |some ps=>.tup [parts ps,vb true]
structure PtS where
 k:Nat
 f:Nat
 out:List Part
 ver:Nat
 clk:Nat
theorem kZ{l:List Tok}(hd:z3 l=false)(k:Nat)(hk:k<l.length):∃n:Nat,skip (zv l) k=n∧k<n∧n≤l.length:=by
 have hlen:(zv l).length=l.length:=by unfold zv;rw[hd];simp[yi]
 have h1:=zca (zv l) k (by rw[hlen];omega)
 have h2:=ziJ (zv l) k (by rw[hlen];omega)
 exact⟨(skip (zv l) k).toNat,by omega,by omega,by omega⟩
theorem ziC{l:List Tok}{x:Option (List Part)}(h:ptO l=x):ptV l= .tup [parts (x.getD []),vb x.isSome]:=by unfold ptV ptL ptB;rw[h]
theorem zea{f:FuncId}{args:List V}(R:Option (List Part))(h:ze Tryz.prog f args (zd9 R)):ze Tryz.prog f args (.tup [parts (R.getD []),vb R.isSome]):=by
 cases R with
 |none=>exact ze.rsub h QS
 |some ps=>exact h
theorem zor(l:List Tok)(hl:l.length≤1000000):ze Tryz.prog 67 [zj l] (ptV l):=by
 by_cases hd:z3 l=true
 ·have hO:ptO l=none:=by unfold ptO;rw[if_pos hd]
  rw[ziC hO]
  refine ze.rsub ?_ QS
  refine ze.of (Orc.cons KC (Orc.cons Ye (Orc.nil _))) zm3 (by simp[c67]) fun w0 own0=> ?_
  have he:j4 l=3:=by unfold j4;rw[if_pos hd]
  simp only[c67,zj,jU,jV,zf,hl,he,zH,qe,qd,yj,qf,y7,y6,yp,y8,go_sem,zd,seval,reduceIte,reduceCtorEq]
 have hd:z3 l=false:=by simpa using hd
 have he:j4 l=0:=by unfold j4;rw[hd];rfl
 have hlen:(zv l).length=l.length:=by unfold zv;rw[hd];simp[yi]
 generalize hO:ptO l=R
 rw[ziC hO]
 have hO':zY l (plR (zv l) l.length (l.length+1) 0)=R:=by rw[←hO];unfold ptO;rw[hd];rfl
 refine zea R ?_
 refine ze.of (Orc.cons KC (Orc.cons Ye (Orc.nil _))) zm3 (by simp[c67]) fun w0 own0=> ?_
 simp only[c67,zj,jU,jV,zf,hl,he,zH,qe,qd,yj,qf,y7,y6,yp,y8,go_sem,zd,seval,reduceIte,reduceCtorEq]
 refine zG.lp (α:=PtS) (fun a=>[(0,.slc 3 (l.map Tok.enc)),(4,.slc 1 ((zv l).map fun n=>[vi n])),(6,.ref 0 a.ver 0 a.out.length),(7,vi a.k)])
  (fun a=>⟨[⟨a.ver,4,a.out.map Part.enc,false,[vi 0,vs ⟨#[]⟩,vi 0,zI]⟩],a.clk⟩) (fun a=>a.k≤l.length∧a.out.length≤a.k∧l.length+1≤a.k+a.f∧(zY l (plR (zv l) l.length a.f a.k)).map (a.out++ ·)=R) (fun a=>l.length - a.k) ⟨0,l.length+1,[],0,1⟩
  ⟨Nat.zero_le _,Nat.zero_le _,by dsimp only;omega,by dsimp only;rw[show((0:Nat):Int)=0 from rfl,hO'];simp⟩ (St.nil 6 4 [vi 0,vs ⟨#[]⟩,vi 0,zI] (by simp[zo]) (St.cut ?_ ?_ ?_)) fun a ha=> ?_
 ·simp[zq,zo,zt]
 ·simp[Heap.alloc]
 ·rfl
 obtain⟨k,f,out,ver,clk⟩:=a
 obtain⟨h1,h2,h3,h4⟩:=ha
 simp only at h1 h2 h3 h4
 obtain⟨f',rfl⟩:∃f',f=f'+1:=⟨f - 1,by omega⟩
 by_cases hk:k=l.length
 ·subst hk
  simp only[plR,Int.lt_irrefl,if_false,zY,Option.map_some,List.append_nil]at h4
  subst h4
  simp only[Int.lt_irrefl,List.take_length,ZZ,qW,Nat.le_refl,zd9,parts,qe,qd,yj,qf,y7,y6,yp,y8,go_sem,zd,seval,reduceIte,reduceCtorEq]
 ·have e1:(k:Int)<(l.length:Int):=by omega
  have e0:(0:Int)≤(k:Int):=by omega
  have hlt:k<l.length:=by omega
  have hle:=YA l k
  have hrg:=Xw l k hlt
  rw[←Zp l hd k hlt]at hrg
  obtain⟨n,hn1,hn2,hn3⟩:=kZ hd k hlt
  have hsk:zbh (zv l) k:=⟨by omega,by omega,by rw[Int.toNat_natCast];omega⟩
  simp only[plR,e1,if_true,zY,Int.toNat_natCast,hn1]at h4
  have hp:pAt l k=⟨l.getD k .zero,if 0≤(zv l).getD k 0 then some ((l.take ((zv l).getD k 0).toNat).drop (k+1))else none⟩:=rfl
  obtain⟨en,hen⟩:∃en,(zv l).getD k 0=en:=⟨_,rfl⟩
  rw[hen]at hle hrg h4 hp
  obtain⟨x,hx⟩:∃x,l.getD k .zero=x:=⟨_,rfl⟩
  rw[hx]at h4 hp
  have hot:out.take out.length=out:=List.take_length
  by_cases c1:en=l.length
  ·rw[if_pos c1]at h4
   simp only[Option.map_none]at h4
   subst h4
   simp only[e0,e1,hlen,hx,hen,c1,Tok.enc,zH,zd9,qe,qd,yj,qf,y7,y6,yp,y8,go_sem,zd,seval,reduceIte,reduceCtorEq]
  ·rw[if_neg c1]at h4
   by_cases c2:0≤en
   ·rw[if_pos c2]at hp
    have hek:(k:Int)+1≤en:=by omega
    have hk1:((k:Int)+1).toNat=k+1:=by omega
    have hk0:(0:Int)≤(k:Int)+1:=by omega
    have hcut:List.take (en.toNat - (k+1)) (List.drop (k+1) (List.map Tok.enc l))=((l.take en.toNat).drop (k+1)).map Tok.enc:=by
     rw[←List.map_drop,←List.map_take,List.drop_take]
    by_cases c3:x.kind=1
    ·simp only[c3,if_true]at h4
     have h4:(zY l (plR (zv l) l.length f' n)).map (out++ ·)=R:=by rw[←h4];cases zY l (plR (zv l) l.length f' n)<;>rfl
     simp only[e0,e1,hlen,hx,hen,c1,c2,c3,hsk,hn1,hle,hek,hk0,hk1,zK,Tok.enc,zH,qe,qd,yj,qf,y7,y6,yp,y8,go_sem,zd,seval,reduceIte,reduceCtorEq]
     exact⟨by omega,⟨n,f',out,ver,clk+1⟩,⟨by dsimp only;omega,by dsimp only;omega,by dsimp only;omega,h4⟩,by dsimp only;omega,⟨⟨rfl,rfl⟩,rfl⟩,⟨rfl,rfl⟩,rfl⟩
    ·simp only[c3,if_false]at h4
     simp only[e0,e1,hlen,hx,hen,c1,c2,c3,hsk,hn1,hle,hek,hk0,hk1,hcut,hot,zK,Tok.enc,zH,qe,qd,yj,qf,y7,y6,yp,y8,go_sem,zd,seval,reduceIte,reduceCtorEq]
     refine⟨by omega,⟨by omega,by omega,by omega⟩,⟨n,f',out++ [pAt l k],clk+2,clk+3⟩,⟨by dsimp only;omega,by simp;omega,by dsimp only;omega,?_⟩,by dsimp only;omega,⟨⟨rfl,by simp⟩,rfl⟩,⟨rfl,?_⟩,rfl⟩
     ·rw[←h4];cases zY l (plR (zv l) l.length f' n)<;>simp
     ·rw[hp];simp[Part.enc,avO,zj]
   ·rw[if_neg c2]at hp
    by_cases c3:x.kind=1
    ·simp only[c3,if_true]at h4
     have h4:(zY l (plR (zv l) l.length f' n)).map (out++ ·)=R:=by rw[←h4];cases zY l (plR (zv l) l.length f' n)<;>rfl
     simp only[e0,e1,hlen,hx,hen,c1,c2,c3,hsk,hn1,zK,Tok.enc,zH,qe,qd,yj,qf,y7,y6,yp,y8,go_sem,zd,seval,reduceIte,reduceCtorEq]
     exact⟨⟨n,f',out,ver,clk+1⟩,⟨by dsimp only;omega,by dsimp only;omega,by dsimp only;omega,h4⟩,by dsimp only;omega,⟨⟨rfl,rfl⟩,rfl⟩,⟨rfl,rfl⟩,rfl⟩
    ·simp only[c3,if_false]at h4
     simp only[e0,e1,hlen,hx,hen,c1,c2,c3,hsk,hn1,hot,zK,Tok.enc,zH,qe,qd,yj,qf,y7,y6,yp,y8,go_sem,zd,seval,reduceIte,reduceCtorEq]
     refine⟨⟨by omega,by omega,by omega⟩,⟨n,f',out++ [pAt l k],clk+2,clk+3⟩,⟨by dsimp only;omega,by simp;omega,by dsimp only;omega,?_⟩,by dsimp only;omega,⟨⟨rfl,by simp⟩,rfl⟩,⟨rfl,?_⟩,rfl⟩
     ·rw[←h4];cases zY l (plR (zv l) l.length f' n)<;>simp
     ·rw[hp];simp[Part.enc,avO]
structure PlS where
 k:Nat
 f:Nat
 out:List Int
 ver:Nat
 clk:Nat
theorem zj6(l:List Tok)(hd:z3 l=false)(hl:l.length≤1000000):ze Tryz.prog 84 [zH (zv l),vi 0,vi l.length] (zH (plR (zv l) l.length (l.length+1) 0)):=by
 refine ze.of (Orc.cons jK (Orc.nil _)) zwY (by simp[c84]) fun w0 own0=> ?_
 have hlen:(zv l).length=l.length:=by unfold zv;rw[hd];simp[yi]
 generalize hR:plR (zv l) l.length (l.length+1) 0=R
 simp only[c84,zH,Yc,Yb,jg,Yd,go_sem,zd,seval,reduceIte,reduceCtorEq]
 refine zG.lp (α:=PlS) (fun a=>[(0,.slc 1 ((zv l).map fun n=>[vi n])),(2,vi l.length),(7,.ref 0 a.ver 0 a.out.length),(8,vi a.k)])
  (fun a=>⟨[⟨a.ver,1,a.out.map fun n=>[vi n],false,[vi 0]⟩],a.clk⟩) (fun a=>a.k≤l.length∧a.out.length≤a.k∧l.length+1≤a.k+a.f∧a.out++plR (zv l) l.length a.f a.k=R) (fun a=>l.length - a.k) ⟨0,l.length+1,[],0,1⟩
  ⟨Nat.zero_le _,Nat.zero_le _,by dsimp only;omega,by dsimp only;rw[show((0:Nat):Int)=0 from rfl,hR];rfl⟩ (St.nil 7 1 [vi 0] (by simp[zo]) (St.cut ?_ ?_ ?_)) fun a ha=> ?_
 ·simp[zq,zo,zt]
 ·simp[Heap.alloc]
 ·rfl
 obtain⟨k,f,out,ver,clk⟩:=a
 obtain⟨h1,h2,h3,h4⟩:=ha
 simp only at h1 h2 h3 h4
 obtain⟨f',rfl⟩:∃f',f=f'+1:=⟨f - 1,by omega⟩
 by_cases hk:k=l.length
 ·subst hk
  simp only[plR,Int.lt_irrefl,if_false,List.append_nil]at h4
  subst h4
  simp only[Int.lt_irrefl,List.take_length,qW,Nat.le_refl,Yc,Yb,jg,Yd,go_sem,zd,seval,reduceIte,reduceCtorEq]
 ·have e1:(k:Int)<(l.length:Int):=by omega
  have hlt:k<l.length:=by omega
  obtain⟨n,hn1,hn2,hn3⟩:=kZ hd k hlt
  have hle:=YA l k
  have hsk:zbh (zv l) k:=⟨by omega,by omega,by rw[Int.toNat_natCast];omega⟩
  have hot:out.take out.length=out:=List.take_length
  simp only[plR,e1,if_true,hn1]at h4
  simp only[e1,hsk,hn1,hot,zK,zH,Yc,Yb,jg,Yd,go_sem,zd,seval,reduceIte,reduceCtorEq]
  exact⟨⟨by omega,by omega,by omega⟩,⟨n,f',out++ [(k:Int)],clk+1,clk+2⟩,⟨by dsimp only;omega,by simp;omega,by dsimp only;omega,by rw[←h4];simp⟩,by dsimp only;omega,⟨⟨rfl,by simp⟩,rfl⟩,⟨rfl,by simp⟩,rfl⟩
theorem Xf{l:List Tok}(hd:z3 l=false):∀(f:Nat)(k:Nat),∀x∈plR (zv l) l.length f k,0≤x∧x<l.length
 |0,k,x,hx=>by simp[plR]at hx
 |f+1,k,x,hx=>by
  unfold plR at hx
  by_cases hk:(k:Int)<l.length
  ·rw[if_pos hk]at hx
   obtain⟨n,hn1,hn2,hn3⟩:=kZ hd k (by omega)
   rcases List.mem_cons.1 hx with rfl|hx
   ·omega
   ·rw[hn1]at hx;exact Xf hd f n x hx
  ·rw[if_neg hk]at hx;cases hx
theorem Xe{l:List Tok}(hd:z3 l=false):∀(f:Nat)(k:Nat),k≤l.length→(plR (zv l) l.length f k).length+k≤l.length
 |0,k,h=>by simp[plR];exact h
 |f+1,k,h=>by
  unfold plR
  by_cases hk:(k:Int)<l.length
  ·rw[if_pos hk]
   obtain⟨n,hn1,hn2,hn3⟩:=kZ hd k (by omega)
   rw[hn1]
   have:=Xe hd f n hn3
   simp only[List.length_cons];omega
  ·rw[if_neg hk];simp;exact h
theorem X8(l:List Tok)(hd:z3 l=false)(hl:l.length≤1000000):∃S:Sum Tryz.prog,S.f=84∧S.flat=false∧S.D [.slc 1 ((zv l).map fun n=>[vi n]),.c (.int .i64 0),.c (.int .i64 l.length)]∧S.r [.slc 1 ((zv l).map fun n=>[vi n]),.c (.int .i64 0),.c (.int .i64 l.length)]=zH (plR (zv l) l.length (l.length+1) 0):=
 ⟨⟨84,fun args=>args= [zH (zv l),vi 0,vi l.length],fun _=>zH (plR (zv l) l.length (l.length+1) 0),fun args h=>by rw[h];exact zj6 l hd hl,false⟩,rfl,rfl,rfl,rfl⟩
structure PrS where
 i:Nat
 out:List Part
 ver:Nat
 clk:Nat
theorem Xp(l:List Int)(n:Nat)(h:n<l.length):l.drop n=l.getD n 0::l.drop (n+1):=by
 rw[List.drop_eq_getElem_cons h,List.getD_eq_getElem?_getD,List.getElem?_eq_getElem h];rfl
theorem zj5(l:List Tok)(hl:l.length≤1000000):ze Tryz.prog 48 [zj l] (ptV l):=by
 by_cases hd:z3 l=true
 ·have hO:ptO l=none:=by unfold ptO;rw[if_pos hd]
  rw[ziC hO]
  refine ze.rsub ?_ QS
  refine ze.of (Orc.cons KD (Orc.nil _)) zm0 (by simp[c48]) fun w0 own0=> ?_
  have he:j4 l=3:=by unfold j4;rw[if_pos hd]
  simp only[c48,zj,jU,jV,zf,hl,he,zH,qh,qg,yk,qi,go_sem,zd,seval,reduceIte,reduceCtorEq]
 have hd:z3 l=false:=by simpa using hd
 have he:j4 l=0:=by unfold j4;rw[hd];rfl
 have hlen:(zv l).length=l.length:=by unfold zv;rw[hd];simp[yi]
 obtain⟨S,s1,s2,s3,s4⟩:=X8 l hd hl
 have hmem:=Xf hd (l.length+1) 0
 have hpl:=Xe hd (l.length+1) 0 (Nat.zero_le _)
 generalize hO:ptO l=R
 rw[ziC hO]
 have hO':zY l (plR (zv l) l.length (l.length+1) 0)=R:=by rw[←hO];unfold ptO;rw[hd];rfl
 rw[show((0:Nat):Int)=0 from rfl]at hmem hpl
 generalize plR (zv l) l.length (l.length+1) 0=ps at*
 refine zea R ?_
 refine ze.of (Orc.cons S (Orc.cons KD (Orc.nil _))) zm0 (by simp[c48]) fun w0 own0=> ?_
 simp only[c48,zj,jU,jV,zf,hl,he,zH,s1,s2,s3,s4,qh,qg,yk,qi,go_sem,zd,seval,reduceIte,reduceCtorEq]
 refine zG.lp (α:=PrS) (fun a=>[(0,.slc 3 (l.map Tok.enc)),(4,.slc 1 ((zv l).map fun n=>[vi n])),(6,.ref 0 a.ver 0 a.out.length),(7,.slc 1 (ps.map fun n=>[vi n])),(8,vi a.i)])
  (fun a=>⟨[⟨a.ver,4,a.out.map Part.enc,false,[vi 0,vs ⟨#[]⟩,vi 0,zI]⟩],a.clk⟩) (fun a=>a.i≤ps.length∧a.out.length≤a.i∧(zY l (ps.drop a.i)).map (a.out++ ·)=R) (fun a=>ps.length - a.i) ⟨0,[],0,1⟩
  ⟨Nat.zero_le _,Nat.zero_le _,by dsimp only;rw[List.drop_zero,hO'];simp⟩ (St.nil 6 4 [vi 0,vs ⟨#[]⟩,vi 0,zI] (by simp[zo]) (St.cut ?_ ?_ ?_)) fun a ha=> ?_
 ·simp[zq,zo,zt]
 ·simp[Heap.alloc]
 ·rfl
 obtain⟨i,out,ver,clk⟩:=a
 obtain⟨h1,h2,h4⟩:=ha
 simp only at h1 h2 h4
 by_cases hk:i=ps.length
 ·subst hk
  rw[List.drop_length]at h4
  simp only[zY,Option.map_some,List.append_nil]at h4
  subst h4
  simp only[Int.lt_irrefl,List.take_length,ZZ,qW,Nat.le_refl,zd9,parts,s1,s2,s3,s4,qh,qg,yk,qi,go_sem,zd,seval,reduceIte,reduceCtorEq]
 ·have e1:(i:Int)<(ps.length:Int):=by omega
  have e0:(0:Int)≤(i:Int):=by omega
  have hlt:i<ps.length:=by omega
  rw[Xp ps i hlt]at h4
  have hkm:=hmem (ps.getD i 0) (by rw[List.getD_eq_getElem?_getD,List.getElem?_eq_getElem hlt];exact List.getElem_mem _)
  obtain⟨k,hk⟩:∃k:Nat,ps.getD i 0=k:=⟨(ps.getD i 0).toNat,by omega⟩
  rw[hk]at h4 hkm
  have g1:(k:Int)<(l.length:Int):=by omega
  have g0:(0:Int)≤(k:Int):=by omega
  have hkl:k<l.length:=by omega
  have hle:=YA l k
  have hrg:=Xw l k hkl
  rw[←Zp l hd k hkl]at hrg
  simp only[zY,Int.toNat_natCast]at h4
  have hp:pAt l k=⟨l.getD k .zero,if 0≤(zv l).getD k 0 then some ((l.take ((zv l).getD k 0).toNat).drop (k+1))else none⟩:=rfl
  obtain⟨en,hen⟩:∃en,(zv l).getD k 0=en:=⟨_,rfl⟩
  rw[hen]at hle hrg h4 hp
  obtain⟨x,hx⟩:∃x,l.getD k .zero=x:=⟨_,rfl⟩
  rw[hx]at h4 hp
  have hot:out.take out.length=out:=List.take_length
  by_cases c1:en=l.length
  ·rw[if_pos c1]at h4
   simp only[Option.map_none]at h4
   subst h4
   simp only[e0,e1,g0,g1,hk,hlen,hx,hen,c1,Tok.enc,zH,zd9,s1,s2,s3,s4,qh,qg,yk,qi,go_sem,zd,seval,reduceIte,reduceCtorEq]
   first|done|exact⟨hlt,by omega⟩|exact⟨hlt,hkl⟩|omega
  ·rw[if_neg c1]at h4
   by_cases c2:0≤en
   ·rw[if_pos c2]at hp
    have hek:(k:Int)+1≤en:=by omega
    have hk1:((k:Int)+1).toNat=k+1:=by omega
    have hk0:(0:Int)≤(k:Int)+1:=by omega
    have hcut:List.take (en.toNat - (k+1)) (List.drop (k+1) (List.map Tok.enc l))=((l.take en.toNat).drop (k+1)).map Tok.enc:=by
     rw[←List.map_drop,←List.map_take,List.drop_take]
    by_cases c3:x.kind=1
    ·simp only[c3,if_true]at h4
     have h4:(zY l (ps.drop (i+1))).map (out++ ·)=R:=by rw[←h4];cases zY l (ps.drop (i+1))<;>rfl
     simp only[e0,e1,g0,g1,hk,hlen,hx,hen,c1,c2,c3,hle,hek,hk0,hk1,zK,Tok.enc,zH,s1,s2,s3,s4,qh,qg,yk,qi,go_sem,zd,seval,reduceIte,reduceCtorEq]
     exact⟨by omega,by omega,⟨i+1,out,ver,clk+1⟩,⟨by dsimp only;omega,by dsimp only;omega,h4⟩,by dsimp only;omega,⟨⟨rfl,rfl⟩,by dsimp only;omega⟩,⟨rfl,rfl⟩,rfl⟩
    ·simp only[c3,if_false]at h4
     simp only[e0,e1,g0,g1,hk,hlen,hx,hen,c1,c2,c3,hle,hek,hk0,hk1,hcut,hot,zK,Tok.enc,zH,s1,s2,s3,s4,qh,qg,yk,qi,go_sem,zd,seval,reduceIte,reduceCtorEq]
     refine⟨by omega,⟨by omega,by omega,by omega⟩,by omega,⟨i+1,out++ [pAt l k],clk+2,clk+3⟩,⟨by dsimp only;omega,by simp;omega,?_⟩,by dsimp only;omega,⟨⟨rfl,by simp⟩,by dsimp only;omega⟩,⟨rfl,?_⟩,rfl⟩
     ·rw[←h4];cases zY l (ps.drop (i+1))<;>simp
     ·rw[hp];simp[Part.enc,avO,zj]
   ·rw[if_neg c2]at hp
    by_cases c3:x.kind=1
    ·simp only[c3,if_true]at h4
     have h4:(zY l (ps.drop (i+1))).map (out++ ·)=R:=by rw[←h4];cases zY l (ps.drop (i+1))<;>rfl
     simp only[e0,e1,g0,g1,hk,hlen,hx,hen,c1,c2,c3,zK,Tok.enc,zH,s1,s2,s3,s4,qh,qg,yk,qi,go_sem,zd,seval,reduceIte,reduceCtorEq]
     exact⟨by omega,⟨i+1,out,ver,clk+1⟩,⟨by dsimp only;omega,by dsimp only;omega,h4⟩,by dsimp only;omega,⟨⟨rfl,rfl⟩,by dsimp only;omega⟩,⟨rfl,rfl⟩,rfl⟩
    ·simp only[c3,if_false]at h4
     simp only[e0,e1,g0,g1,hk,hlen,hx,hen,c1,c2,c3,hot,zK,Tok.enc,zH,s1,s2,s3,s4,qh,qg,yk,qi,go_sem,zd,seval,reduceIte,reduceCtorEq]
     refine⟨⟨by omega,by omega,by omega⟩,by omega,⟨i+1,out++ [pAt l k],clk+2,clk+3⟩,⟨by dsimp only;omega,by simp;omega,?_⟩,by dsimp only;omega,⟨⟨rfl,by simp⟩,by dsimp only;omega⟩,⟨rfl,?_⟩,rfl⟩
     ·rw[←h4];cases zY l (ps.drop (i+1))<;>simp
     ·rw[hp];simp[Part.enc,avO]
structure Pa where
 t:Tok
 al:List Tok
instance:Inhabited Pa:=⟨⟨.zero,[]⟩⟩
def Pa.enc(p:Pa):List V:=[vi p.t.kind,vs p.t.text,vi p.t.n,.slc 3 (p.al.map Tok.enc)]
def zBz(e:List V):Pa:=⟨zne e,zi (e.getD 3 .any)⟩
def dPa(v:V):Pa:=zBz v.cs
theorem zT(a n:Int)(s:ByteArray)(l:List Tok):dPa (.agg [.c (.int .i64 a),.c (.string s),.c (.int .i64 n),.slc 3 (l.map Tok.enc)])=⟨⟨a,s,n⟩,l⟩:=by
 show(⟨_,zi (.slc 3 (l.map Tok.enc))⟩:Pa)=_
 rw[zf];rfl
theorem Pa.eta'(p:Pa):(⟨⟨p.t.kind,p.t.text,p.t.n⟩,p.al⟩:Pa)=p:=rfl
theorem Pa.etaT(p:Pa):(⟨p.t.kind,p.t.text,p.t.n⟩:Tok)=p.t:=rfl
theorem y4(l:List Pa)(i:Nat)(d:List V)(h:i<l.length):(l.map Pa.enc).getD i d=(l.getD i default).enc:=by
 simp[List.getD_eq_getElem?_getD,h]
def WZ(p:Part):Pa:=⟨p.t,p.ar.getD []⟩
def pl(l:List Tok):List Pa:=(ptL l).map WZ
def plV(l:List Tok):V:=.tup [.slc 4 ((pl l).map Pa.enc),vb (ptB l)]
theorem zbk:∀ps:List Part,F2 (F2 (Sub 1)) (ps.map Part.enc) ((ps.map WZ).map Pa.enc)
 | []=>trivial
 |p::ps=>by
  refine⟨⟨Sub.rfl 1 _,Sub.rfl 1 _,Sub.rfl 1 _,?_,trivial⟩,zbk ps⟩
  cases h:p.ar with
  |none=>simp[Sub,avO,WZ,h]
  |some l=>simp only[avO,WZ,h,zj];exact Sub.rfl 1 _
theorem ziB(l:List Tok)(F:Nat→Prop)(w:World)(v:Value)(h:PRep F w v (ptV l)):PRep F w v (plV l):=by
 cases h with
 |tup cs _ hl hx=>
  refine .tup cs _ hl fun i hi=> ?_
  have:=hx i hi
  match i,hi with
  |0,_=>exact Sub.prep 2 (parts (ptL l)) (.slc 4 ((pl l).map Pa.enc)) _ (show Sub 2 (.slc 4 ((ptL l).map Part.enc)) (.slc 4 (((ptL l).map WZ).map Pa.enc))from Or.inr ⟨rfl,zbk (ptL l)⟩) this
  |1,_=>exact this
def jf:Sum Tryz.prog:=⟨67,fun args=>args= [zj (zi (args.getD 0 .any))]∧((zi (args.getD 0 .any))).length≤1000000,fun args=>plV (zi (args.getD 0 .any)),fun args h=>by
 have:=ze.rsub (zor (zi (args.getD 0 .any)) h.2) (ziB (zi (args.getD 0 .any)));rwa [←h.1]at this,false⟩
theorem zqt:jf.f=67:=rfl
theorem zqs(args:List V):jf.D args=(args= [zj (zi (args.getD 0 .any))]∧((zi (args.getD 0 .any))).length≤1000000):=rfl
theorem zfd:jf.flat=false:=rfl
theorem zqu(args:List V):jf.r args=plV (zi (args.getD 0 .any)):=rfl
attribute [go_sem] zqt zqs zfd zqu
def kP:Sum Tryz.prog:=⟨48,fun args=>args= [zj (zi (args.getD 0 .any))]∧((zi (args.getD 0 .any))).length≤1000000,fun args=>plV (zi (args.getD 0 .any)),fun args h=>by
 have:=ze.rsub (zj5 (zi (args.getD 0 .any)) h.2) (ziB (zi (args.getD 0 .any)));rwa [←h.1]at this,false⟩
theorem zlx:kP.f=48:=rfl
theorem zlw(args:List V):kP.D args=(args= [zj (zi (args.getD 0 .any))]∧((zi (args.getD 0 .any))).length≤1000000):=rfl
theorem zcy:kP.flat=false:=rfl
theorem zly(args:List V):kP.r args=plV (zi (args.getD 0 .any)):=rfl
attribute [go_sem] zlx zlw zcy zly
def fst(p:Nat→Bool):Nat→Nat→Int
 |0,_=> -1
 |f+1,k=>if p k=true then k else fst p f (k+1)
theorem XF(p:Nat→Bool):∀(f k:Nat),(fst p f k= -1∧∀i,k≤i→i<k+f→p i=false)∨∃m:Nat,fst p f k=m∧k≤m∧m<k+f∧p m=true∧∀i,k≤i→i<m→p i=false
 |0,k=>.inl ⟨rfl,fun i h1 h2=>by omega⟩
 |f+1,k=>by
  simp only[fst]
  by_cases h:p k=true
  ·rw[if_pos h];exact .inr ⟨k,rfl,Nat.le_refl _,by omega,h,fun i h1 h2=>by omega⟩
  ·rw[if_neg h]
   have h':p k=false:=by simpa using h
   rcases XF p f (k+1)with⟨h1,h2⟩|⟨m,h1,h2,h3,h4,h5⟩
   ·refine .inl ⟨h1,fun i hi1 hi2=> ?_⟩
    by_cases e:i=k
    ·subst e;exact h'
    ·exact h2 i (by omega) (by omega)
   ·refine .inr ⟨m,h1,by omega,by omega,h4,fun i hi1 hi2=> ?_⟩
    by_cases e:i=k
    ·subst e;exact h'
    ·exact h5 i (by omega) hi2
theorem zik(p:Nat→Bool)(n:Nat):fst p (n - n) n= -1:=by rw[Nat.sub_self];rfl
theorem Q9(p:Nat→Bool)(n k:Nat)(h:k<n):fst p (n - k) k=if p k=true then(k:Int)else fst p (n - (k+1)) (k+1):=by
 obtain⟨f,hf⟩:∃f,n - k=f+1:=⟨n - k - 1,by omega⟩
 rw[hf,show n - (k+1)=f by omega];rfl
def ixS(l:List ByteArray)(x:ByteArray):Int:=fst (fun i=>decide (x=l.getD i ⟨#[]⟩)) (l.length - 0) 0
theorem ztC(l:List ByteArray)(x:ByteArray):0≤ixS l x↔x∈l:=by
 unfold ixS
 rcases XF (fun i=>decide (x=l.getD i ⟨#[]⟩)) (l.length - 0) 0 with⟨h1,h2⟩|⟨m,h1,h2,h3,h4,h5⟩
 ·rw[h1]
  refine⟨fun h=>by omega,fun h=> ?_⟩
  obtain⟨i,hi,rfl⟩:=List.getElem_of_mem h
  have:=h2 i (by omega) (by omega)
  simp[List.getD_eq_getElem?_getD,hi]at this
 ·rw[h1]
  refine⟨fun _=> ?_,fun _=>by omega⟩
  simp only[decide_eq_true_eq]at h4
  rw[h4,List.getD_eq_getElem?_getD,List.getElem?_eq_getElem (by omega)]
  exact List.getElem_mem _
theorem zxs(l:List ByteArray)(x:ByteArray)(hl:l.length≤1000000):ze Tryz.prog 129 [ZE l,vs x] (vi (ixS l x)):=by
 refine ze.of (Orc.nil _) zsS (by simp[zvX]) fun w0 own0=> ?_
 simp only[zvX,ZE,go_sem,zd,seval,reduceIte,reduceCtorEq]
 refine zG.lp (α:=Nat) (fun k=>[(0,.slc 1 (l.map fun n=>[vs n])),(1,vs x),(7,vi l.length),(8,vi k)]) (fun _=>⟨[],0⟩)
  (fun k=>k≤l.length∧fst (fun i=>decide (x=l.getD i ⟨#[]⟩)) (l.length - k) k=ixS l x) (fun k=>l.length - k) 0 ⟨Nat.zero_le _,rfl⟩ (St.mk (by simp[zq,zo,zt])) fun k hk=> ?_
 obtain⟨h1,h2⟩:=hk
 by_cases hkl:k=l.length
 ·subst hkl
  rw[zik]at h2
  simp only[Int.lt_irrefl,←h2,go_sem,zd,seval,reduceIte,reduceCtorEq]
 ·have e1:(k:Int)<(l.length:Int):=by omega
  rw[Q9 _ _ _ (by omega)]at h2
  simp only[decide_eq_true_eq]at h2
  simp only[e1,zaW,go_sem,zd,seval,reduceIte,reduceCtorEq]
  refine⟨by omega,fun h=>by rw[if_pos h]at h2;exact h2,fun h=>⟨by omega,k+1,⟨by omega,by rw[if_neg h]at h2;exact h2⟩,by omega,by omega⟩⟩
def WE:Sum Tryz.prog:=⟨129,fun args=>args= [ZE (kW (args.getD 0 .any)),vs ((args.getD 1 .any).str)]∧((kW (args.getD 0 .any))).length≤1000000,fun args=>vi (ixS (kW (args.getD 0 .any)) ((args.getD 1 .any).str)),fun args h=>by
 have:=zxs (kW (args.getD 0 .any)) ((args.getD 1 .any).str) h.2;rwa [←h.1]at this,true⟩
theorem zpH:WE.f=129:=rfl
theorem zpG(args:List V):WE.D args=(args= [ZE (kW (args.getD 0 .any)),vs ((args.getD 1 .any).str)]∧((kW (args.getD 0 .any))).length≤1000000):=rfl
theorem zeT:WE.flat=true:=rfl
theorem zpI(args:List V):WE.r args=vi (ixS (kW (args.getD 0 .any)) ((args.getD 1 .any).str)):=rfl
attribute [go_sem] zpH zpG zeT zpI
def Kc(l:List ByteArray)(x:ByteArray):Bool:=decide (0≤ixS l x)
theorem znM(l:List ByteArray)(x:ByteArray):Kc l x=true↔x∈l:=by
 unfold Kc;rw[decide_eq_true_eq];exact ztC l x
theorem zs9(l:List ByteArray)(x:ByteArray)(hl:l.length≤1000000):ze Tryz.prog 108 [ZE l,vs x] (vb (Kc l x)):=by
 refine ze.of (Orc.cons WE (Orc.nil _)) zsJ (by simp[zvM]) fun w0 own0=> ?_
 simp only[zvM,ZE,zaP,Kc,go_sem,zd,seval,reduceIte,reduceCtorEq]
 exact hl
def KA:Sum Tryz.prog:=⟨108,fun args=>args= [ZE (kW (args.getD 0 .any)),vs ((args.getD 1 .any).str)]∧((kW (args.getD 0 .any))).length≤1000000,fun args=>vb (Kc (kW (args.getD 0 .any)) ((args.getD 1 .any).str)),fun args h=>by
 have:=zs9 (kW (args.getD 0 .any)) ((args.getD 1 .any).str) h.2;rwa [←h.1]at this,true⟩
theorem zkU:KA.f=108:=rfl
theorem zkT(args:List V):KA.D args=(args= [ZE (kW (args.getD 0 .any)),vs ((args.getD 1 .any).str)]∧((kW (args.getD 0 .any))).length≤1000000):=rfl
theorem zcl:KA.flat=true:=rfl
theorem zkV(args:List V):KA.r args=vb (Kc (kW (args.getD 0 .any)) ((args.getD 1 .any).str)):=rfl
attribute [go_sem] zkU zkT zcl zkV
theorem zvC(l:List ByteArray)(x:ByteArray)(hl:l.length≤1000000):ze Tryz.prog 69 [ZE l,vs x] (vi (ixS l x)):=by
 refine ze.of (Orc.nil _) zwL (by simp[c69]) fun w0 own0=> ?_
 simp only[c69,ZE,go_sem,zd,seval,reduceIte,reduceCtorEq]
 refine zG.lp (α:=Nat) (fun k=>[(0,.slc 1 (l.map fun n=>[vs n])),(1,vs x),(5,vi k)]) (fun _=>⟨[],0⟩)
  (fun k=>k≤l.length∧fst (fun i=>decide (x=l.getD i ⟨#[]⟩)) (l.length - k) k=ixS l x) (fun k=>l.length - k) 0 ⟨Nat.zero_le _,rfl⟩ (St.mk (by simp[zq,zo,zt])) fun k hk=> ?_
 obtain⟨h1,h2⟩:=hk
 by_cases hkl:k=l.length
 ·subst hkl
  rw[zik]at h2
  simp only[Int.lt_irrefl,←h2,go_sem,zd,seval,reduceIte,reduceCtorEq]
 ·have e1:(k:Int)<(l.length:Int):=by omega
  rw[Q9 _ _ _ (by omega)]at h2
  simp only[decide_eq_true_eq]at h2
  simp only[e1,zaW,go_sem,zd,seval,reduceIte,reduceCtorEq]
  refine⟨by omega,fun h=>by rw[if_pos h.symm]at h2;exact h2,fun h=>⟨by omega,k+1,⟨by omega,by rw[if_neg (fun e=>h e.symm)]at h2;exact h2⟩,by omega,by omega⟩⟩
def Za(p:Pa):ByteArray:=zy p.t.text
def ju(p:Pa):Prop:=p.t.text.size≤1000000
theorem zjO(p:Pa)(h:ju p):ze Tryz.prog 107 [.agg p.enc] (vs (Za p)):=by
 refine ze.of (Orc.cons jI (Orc.nil _)) zsI (by simp[zvL]) fun w0 own0=> ?_
 have h:p.t.text.size≤1000000:=h
 simp only[zvL,Pa.enc,Za,h,go_sem,zd,seval,reduceIte,reduceCtorEq]
theorem ztJ(p:Pa)(h:ju p):ze Tryz.prog 85 [.agg p.enc] (vs (Za p)):=by
 refine ze.of (Orc.cons ku (Orc.nil _)) zwZ (by simp[c85]) fun w0 own0=> ?_
 have h:p.t.text.size≤1000000:=h
 simp only[c85,Pa.enc,Za,h,go_sem,zd,seval,reduceIte,reduceCtorEq]
def Jn:Sum Tryz.prog:=⟨107,fun args=>args= [.agg (Pa.enc (dPa (args.getD 0 .any)))]∧ju (dPa (args.getD 0 .any)),fun args=>vs (Za (dPa (args.getD 0 .any))),fun args h=>by
 have:=zjO (dPa (args.getD 0 .any)) h.2;rwa [←h.1]at this,true⟩
theorem zp2:Jn.f=107:=rfl
theorem zp1(args:List V):Jn.D args=(args= [.agg (Pa.enc (dPa (args.getD 0 .any)))]∧ju (dPa (args.getD 0 .any))):=rfl
theorem ze0:Jn.flat=true:=rfl
theorem zp3(args:List V):Jn.r args=vs (Za (dPa (args.getD 0 .any))):=rfl
attribute [go_sem] zp2 zp1 ze0 zp3
def Jo:Sum Tryz.prog:=⟨85,fun args=>args= [.agg (Pa.enc (dPa (args.getD 0 .any)))]∧ju (dPa (args.getD 0 .any)),fun args=>vs (Za (dPa (args.getD 0 .any))),fun args h=>by
 have:=ztJ (dPa (args.getD 0 .any)) h.2;rwa [←h.1]at this,true⟩
theorem zp5:Jo.f=85:=rfl
theorem zp4(args:List V):Jo.D args=(args= [.agg (Pa.enc (dPa (args.getD 0 .any)))]∧ju (dPa (args.getD 0 .any))):=rfl
theorem ze1:Jo.flat=true:=rfl
theorem zp6(args:List V):Jo.r args=vs (Za (dPa (args.getD 0 .any))):=rfl
attribute [go_sem] zp5 zp4 ze1 zp6
def zab:List ByteArray:=[⟨#[110,111,110,101]⟩,⟨#[97,117,116,111]⟩,⟨#[105,110,105,116,105,97,108]⟩,⟨#[105,110,104,101,114,105,116]⟩]
def yh(p:Pa):Bool:=decide (p.t.kind=2)&& !Kc zab (Za p)
def yT(p:Pa)(s:ByteArray):Bool:=decide (p.t.kind=2)&&decide (Za p=s)
theorem zjl(a b c d:ByteArray):kW (.slc 1 [[.c (.string a)],[.c (.string b)],[.c (.string c)],[.c (.string d)]])= [a,b,c,d]:=zaP [a,b,c,d]
theorem zog(p:Pa)(h:ju p):ze Tryz.prog 78 [.agg p.enc] (vb (yh p)):=by
 refine ze.of (Orc.cons Jn (Orc.cons KA (Orc.nil _))) zwS (by simp[c78]) fun w0 own0=> ?_
 unfold yh zab
 by_cases hk:p.t.kind=2
 ·simp only[c78,Pa.enc,hk,h,ZE,zjl,zT,Pa.eta',go_sem,zd,seval,reduceIte,reduceCtorEq]
  exact⟨h,rfl⟩
 ·simp only[c78,Pa.enc,hk,h,go_sem,zd,seval,reduceIte,reduceCtorEq]
theorem zjV(p:Pa)(h:ju p):ze Tryz.prog 50 [.agg p.enc] (vb (yh p)):=by
 refine ze.of (Orc.cons Jo (Orc.nil _)) zwy (by simp[c50]) fun w0 own0=> ?_
 have hb:Kc zab (Za p)=true↔(Za p=⟨#[110,111,110,101]⟩∨Za p=⟨#[97,117,116,111]⟩∨Za p=⟨#[105,110,105,116,105,97,108]⟩∨Za p=⟨#[105,110,104,101,114,105,116]⟩):=by
  rw[znM];simp[zab]
 unfold yh
 by_cases hk:p.t.kind=2
 ·obtain⟨s,hs⟩:∃s,Za p=s:=⟨_,rfl⟩
  have h':ju ⟨⟨2,p.t.text,p.t.n⟩,p.al⟩:=h
  have hs':Za ⟨⟨2,p.t.text,p.t.n⟩,p.al⟩=s:=hs
  rw[hs]at hb⊢
  by_cases c1:s=⟨#[110,111,110,101]⟩
  ·have e:Kc zab s=true:=hb.2 (.inl c1)
   subst c1
   simp only[c50,Pa.enc,hk,h',hs',zT,e,go_sem,zd,seval,reduceIte,reduceCtorEq]
  ·by_cases c2:s=⟨#[97,117,116,111]⟩
   ·have e:Kc zab s=true:=hb.2 (.inr (.inl c2))
    simp only[c50,Pa.enc,hk,h',hs',c1,zT,e,decide_eq_true c2,go_sem,zd,seval,reduceIte,reduceCtorEq]
    all_goals simp[c2]
   ·by_cases c3:s=⟨#[105,110,105,116,105,97,108]⟩
    ·have e:Kc zab s=true:=hb.2 (.inr (.inr (.inl c3)))
     simp only[c50,Pa.enc,hk,h',hs',c1,c2,zT,e,go_sem,zd,seval,reduceIte,reduceCtorEq]
     all_goals simp[c3]
    ·by_cases c4:s=⟨#[105,110,104,101,114,105,116]⟩
     ·have e:Kc zab s=true:=hb.2 (.inr (.inr (.inr c4)))
      simp only[c50,Pa.enc,hk,h',hs',c1,c2,c3,zT,e,go_sem,zd,seval,reduceIte,reduceCtorEq]
      all_goals simp[c4]
     ·have e:Kc zab s=false:=by
       cases hh:Kc zab s with
       |false=>rfl
       |true=>exact absurd (hb.1 hh) (by simp[c1,c2,c3,c4])
      simp only[c50,Pa.enc,hk,h',hs',c1,c2,c3,c4,zT,e,go_sem,zd,seval,reduceIte,reduceCtorEq]
 ·simp only[c50,Pa.enc,hk,h,go_sem,zd,seval,reduceIte,reduceCtorEq]
def KJ:Sum Tryz.prog:=⟨78,fun args=>args= [.agg (Pa.enc (dPa (args.getD 0 .any)))]∧ju (dPa (args.getD 0 .any)),fun args=>vb (yh (dPa (args.getD 0 .any))),fun args h=>by
 have:=zog (dPa (args.getD 0 .any)) h.2;rwa [←h.1]at this,true⟩
theorem zup:KJ.f=78:=rfl
theorem zuo(args:List V):KJ.D args=(args= [.agg (Pa.enc (dPa (args.getD 0 .any)))]∧ju (dPa (args.getD 0 .any))):=rfl
theorem zhp:KJ.flat=true:=rfl
theorem zuq(args:List V):KJ.r args=vb (yh (dPa (args.getD 0 .any))):=rfl
attribute [go_sem] zup zuo zhp zuq
def Z9:Sum Tryz.prog:=⟨50,fun args=>args= [.agg (Pa.enc (dPa (args.getD 0 .any)))]∧ju (dPa (args.getD 0 .any)),fun args=>vb (yh (dPa (args.getD 0 .any))),fun args h=>by
 have:=zjV (dPa (args.getD 0 .any)) h.2;rwa [←h.1]at this,true⟩
theorem zqe:Z9.f=50:=rfl
theorem zqd(args:List V):Z9.D args=(args= [.agg (Pa.enc (dPa (args.getD 0 .any)))]∧ju (dPa (args.getD 0 .any))):=rfl
theorem ze4:Z9.flat=true:=rfl
theorem zqf(args:List V):Z9.r args=vb (yh (dPa (args.getD 0 .any))):=rfl
attribute [go_sem] zqe zqd ze4 zqf
theorem ztA(p:Pa)(s:ByteArray)(h:ju p):ze Tryz.prog 77 [.agg p.enc,vs s] (vb (yT p s)):=by
 refine ze.of (Orc.cons Jn (Orc.nil _)) zwR (by simp[c77]) fun w0 own0=> ?_
 unfold yT
 by_cases hk:p.t.kind=2
 ·have h':ju ⟨⟨2,p.t.text,p.t.n⟩,p.al⟩:=h
  have hs':Za ⟨⟨2,p.t.text,p.t.n⟩,p.al⟩=Za p:=rfl
  simp only[c77,Pa.enc,hk,h',hs',zT,go_sem,zd,seval,reduceIte,reduceCtorEq]
 ·simp only[c77,Pa.enc,hk,h,go_sem,zd,seval,reduceIte,reduceCtorEq]
theorem znN(p:Pa)(s:ByteArray)(h:ju p):ze Tryz.prog 49 [.agg p.enc,vs s] (vb (yT p s)):=by
 refine ze.of (Orc.cons Jo (Orc.nil _)) zwx (by simp[c49]) fun w0 own0=> ?_
 unfold yT
 by_cases hk:p.t.kind=2
 ·have h':ju ⟨⟨2,p.t.text,p.t.n⟩,p.al⟩:=h
  have hs':Za ⟨⟨2,p.t.text,p.t.n⟩,p.al⟩=Za p:=rfl
  simp only[c49,Pa.enc,hk,h',hs',zT,go_sem,zd,seval,reduceIte,reduceCtorEq]
 ·simp only[c49,Pa.enc,hk,h,go_sem,zd,seval,reduceIte,reduceCtorEq]
def Z6:Sum Tryz.prog:=⟨77,fun args=>args= [.agg (Pa.enc (dPa (args.getD 0 .any))),vs ((args.getD 1 .any).str)]∧ju (dPa (args.getD 0 .any)),fun args=>vb (yT (dPa (args.getD 0 .any)) ((args.getD 1 .any).str)),fun args h=>by
 have:=ztA (dPa (args.getD 0 .any)) ((args.getD 1 .any).str) h.2;rwa [←h.1]at this,true⟩
theorem zpy:Z6.f=77:=rfl
theorem zpx(args:List V):Z6.D args=(args= [.agg (Pa.enc (dPa (args.getD 0 .any))),vs ((args.getD 1 .any).str)]∧ju (dPa (args.getD 0 .any))):=rfl
theorem zeN:Z6.flat=true:=rfl
theorem zpz(args:List V):Z6.r args=vb (yT (dPa (args.getD 0 .any)) ((args.getD 1 .any).str)):=rfl
attribute [go_sem] zpy zpx zeN zpz
def Z5:Sum Tryz.prog:=⟨49,fun args=>args= [.agg (Pa.enc (dPa (args.getD 0 .any))),vs ((args.getD 1 .any).str)]∧ju (dPa (args.getD 0 .any)),fun args=>vb (yT (dPa (args.getD 0 .any)) ((args.getD 1 .any).str)),fun args h=>by
 have:=znN (dPa (args.getD 0 .any)) ((args.getD 1 .any).str) h.2;rwa [←h.1]at this,true⟩
theorem zps:Z5.f=49:=rfl
theorem zpr(args:List V):Z5.D args=(args= [.agg (Pa.enc (dPa (args.getD 0 .any))),vs ((args.getD 1 .any).str)]∧ju (dPa (args.getD 0 .any))):=rfl
theorem zeL:Z5.flat=true:=rfl
theorem zpt(args:List V):Z5.r args=vb (yT (dPa (args.getD 0 .any)) ((args.getD 1 .any).str)):=rfl
attribute [go_sem] zps zpr zeL zpt
def okT(l:List Tok):Prop:=l.length≤1000000∧∀t∈l,t.text.size≤1000000
def ZC(l:List Tok):Option Pa:=match ptB l,pl l with|true,[p]=>some p|_,_=>none
theorem Jb{l:List Tok}{p:Pa}(h:ZC l=some p):ptB l=true∧pl l= [p]:=by
 unfold ZC at h
 split at h
 ·rename_i a b;cases h;exact⟨a,b⟩
 ·cases h
theorem zbb{l:List Tok}(h:ZC l=none):ptB l=false∨¬((pl l).length:Int)=1:=by
 unfold ZC at h
 split at h
 ·cases h
 ·rename_i hne
  cases hb:ptB l with
  |false=>exact .inl rfl
  |true=>
   right
   intro hl
   obtain⟨p,hp⟩:=List.length_eq_one_iff.1 (show(pl l).length=1 by omega)
   exact hne p hb hp
theorem X6{l:List Tok}(h:okT l):∀ {ks:List Int}{ps:List Part},zY l ks=some ps→∀p∈ps,p.t.text.size≤1000000∧∀m,p.ar=some m→okT m
 | [],ps,hp,p,hm=>by simp[zY]at hp;subst hp;cases hm
 |k::ks,ps,hp,p,hm=>by
  simp only[zY]at hp
  split at hp
  ·cases hp
  ·simp only[Option.map_eq_some_iff]at hp
   obtain⟨qs,hq,rfl⟩:=hp
   have ih:=X6 h hq
   have hself:∀i:Nat,(l.getD i .zero).text.size≤1000000:=fun i=>by
    by_cases hi:i<l.length
    ·rw[List.getD_eq_getElem?_getD,List.getElem?_eq_getElem hi];exact h.2 _ (List.getElem_mem hi)
    ·rw[List.getD_eq_getElem?_getD,List.getElem?_eq_none (by omega)];decide
   split at hm
   ·exact ih p hm
   ·rcases List.mem_cons.1 hm with rfl|hm
    ·refine⟨hself _,fun m hmm=> ?_⟩
     unfold pAt at hmm
     simp only at hmm
     split at hmm
     ·cases hmm
      refine⟨by have:=h.1;simp;omega,fun t ht=>h.2 t (List.mem_of_mem_take (List.mem_of_mem_drop ht))⟩
     ·cases hmm
    ·exact ih p hm
theorem Jc{l:List Tok}(h:okT l):∀p∈pl l,ju p∧okT p.al:=by
 intro p hp
 unfold pl at hp
 obtain⟨q,hq,rfl⟩:=List.mem_map.1 hp
 unfold ptL at hq
 cases hO:ptO l with
 |none=>rw[hO]at hq;cases hq
 |some qs=>
  rw[hO]at hq
  unfold ptO at hO
  split at hO
  ·cases hO
  ·obtain⟨h1,h2⟩:=X6 h hO q hq
   refine⟨h1,?_⟩
   show okT (q.ar.getD [])
   cases ha:q.ar with
   |none=>exact⟨by simp,fun t ht=>by cases ht⟩
   |some m=>exact h2 m ha
def Yp(l:List Tok):Option Pa:=match ZC l with|some p=>if p.t.kind=2 then some p else none|none=>none
theorem zfT(F:Nat→Prop)(w:World)(v:Value)(h:PRep F w v (.tup [.agg [vi 0,vs ⟨#[]⟩,vi 0,zI],vb false])):PRep F w v (.tup [.agg [vi 0,vs ⟨#[]⟩,vi 0,.slc 3 (([]:List Tok).map Tok.enc)],vb false]):=by
 cases h with
 |tup cs _ hl hx=>
  refine .tup cs _ hl fun i hi=> ?_
  have:=hx i hi
  match i,hi with
  |0,_=>exact Sub.prep 2 (.agg [vi 0,vs ⟨#[]⟩,vi 0,zI]) _ _ (show Sub 2 _ (.agg [vi 0,vs ⟨#[]⟩,vi 0,.slc 3 (([]:List Tok).map Tok.enc)])from Or.inr ⟨Sub.rfl 1 _,Sub.rfl 1 _,Sub.rfl 1 _,Or.inr rfl,trivial⟩) this
  |1,_=>exact this
def ZL:Option Pa→V
 |some p=>.tup [.agg [vi p.t.kind,vs p.t.text,vi p.t.n,.slc 3 (p.al.map Tok.enc)],vb true]
 |none=>.tup [.agg [vi 0,vs ⟨#[]⟩,vi 0,.slc 3 (([]:List Tok).map Tok.enc)],vb false]
theorem zmH(l:List Tok)(h:okT l):ze Tryz.prog 109 [zj l] (ZL (Yp l)):=by
 have h1:=h.1
 unfold Yp
 cases hO:ZC l with
 |none=>
  refine ze.rsub ?_ zfT
  refine ze.of (Orc.cons jf (Orc.nil _)) zbt (by simp[zbs]) fun w0 own0=> ?_
  rcases zbb hO with hb|hn
  ·simp only[zbs,zj,zf,h1,plV,hb,go_sem,zd,seval,reduceIte,reduceCtorEq]
   rfl
  ·cases hb:ptB l with
   |false=>
    simp only[zbs,zj,zf,h1,plV,hb,go_sem,zd,seval,reduceIte,reduceCtorEq]
    rfl
   |true=>
    simp only[zbs,zj,zf,h1,plV,hb,hn,go_sem,zd,seval,reduceIte,reduceCtorEq]
    rfl
 |some p=>
  obtain⟨hb,hp⟩:=Jb hO
  by_cases hk:p.t.kind=2
  ·simp only[hk,if_true,ZL]
   refine ze.of (Orc.cons jf (Orc.nil _)) zbt (by simp[zbs]) fun w0 own0=> ?_
   simp only[zbs,zj,zf,h1,plV,hb,hp,hk,Pa.enc,go_sem,zd,seval,reduceIte,reduceCtorEq]
   rfl
  ·simp only[hk,if_false,ZL]
   refine ze.rsub ?_ zfT
   refine ze.of (Orc.cons jf (Orc.nil _)) zbt (by simp[zbs]) fun w0 own0=> ?_
   simp only[zbs,zj,zf,h1,plV,hb,hp,hk,Pa.enc,go_sem,zd,seval,reduceIte,reduceCtorEq]
   rfl
def zeC:Sum Tryz.prog:=⟨109,fun args=>args= [zj (zi (args.getD 0 .any))]∧okT (zi (args.getD 0 .any)),fun args=>ZL (Yp (zi (args.getD 0 .any))),fun args h=>by
 have:=zmH (zi (args.getD 0 .any)) h.2;rwa [←h.1]at this,false⟩
theorem zum:zeC.f=109:=rfl
theorem zul(args:List V):zeC.D args=(args= [zj (zi (args.getD 0 .any))]∧okT (zi (args.getD 0 .any))):=rfl
theorem zgZ:zeC.flat=false:=rfl
theorem zun(args:List V):zeC.r args=ZL (Yp (zi (args.getD 0 .any))):=rfl
attribute [go_sem] zum zul zgZ zun
def QK{α:Type}:List (ByteArray×α)→ByteArray→Option α
 | [],_=>none
 |p::r,s=>if s=p.1 then some p.2 else QK r s
theorem za4{α:Type}(f:α→V)(s:ByteArray):∀L:List (ByteArray×α),mget (L.map fun p=>.string p.1) (L.map fun p=>f p.2) (.string s)=(QK L s).map f
 | []=>rfl
 |p::r=>by
  have:(zV (.string p.1) (.string s)).1=true↔s=p.1:=by simp[zV];exact eq_comm
  simp only[List.map_cons,mget,QK,this,za4 f s r]
  split<;>rfl
theorem za1{α:Type}{s:ByteArray}:∀ {L:List (ByteArray×α)},(∀p∈L,s≠p.1)→QK L s=none
 | [],_=>rfl
 |p::r,h=>by rw[QK,if_neg (h p (by simp))];exact za1 fun q hq=>h q (by simp[hq])
theorem ztI{α:Type}[Inhabited α](s:ByteArray)(L:List (ByteArray×α)):(ixS (L.map (·.1)) s= -1∧QK L s=none)∨∃m:Nat,m<L.length∧ixS (L.map (·.1)) s=m∧QK L s=some (L.getD m default).2:=by
 unfold ixS
 have hg:∀i,i<L.length→(L.map (·.1)).getD i ⟨#[]⟩=(L.getD i default).1:=fun i hi=>by simp[List.getD_eq_getElem?_getD,hi]
 rcases XF (fun i=>decide (s=(L.map (·.1)).getD i ⟨#[]⟩)) ((L.map (·.1)).length - 0) 0 with⟨h1,h2⟩|⟨m,h1,h2,h3,h4,h5⟩
 ·refine .inl ⟨h1,za1 fun p hp=> ?_⟩
  obtain⟨i,hi,rfl⟩:=List.mem_iff_getElem.1 hp
  have:=h2 i (by omega) (by simp;omega)
  simp only[decide_eq_false_iff_not]at this
  rw[hg i hi]at this
  simpa[List.getD_eq_getElem?_getD,hi]using this
 ·have hm:m<L.length:=by simpa using h3
  refine .inr ⟨m,hm,h1,?_⟩
  simp only[decide_eq_true_eq]at h4
  rw[hg m hm]at h4
  have h5':∀i,i<m→s≠(L.getD i default).1:=fun i hi=>by
   have:=h5 i (by omega) hi
   simp only[decide_eq_false_iff_not]at this
   rwa [hg i (by omega)]at this
  clear h1 h2 h3 h5 hg
  induction L generalizing m with
  |nil=>simp at hm
  |cons p r ih=>
   cases m with
   |zero=>simp only[List.getD_cons_zero]at h4 ⊢;rw[QK,if_pos h4]
   |succ m=>
    have h0:=h5' 0 (by omega)
    simp only[List.getD_cons_zero]at h0
    rw[QK,if_neg h0]
    simp only[List.getD_cons_succ]at h4⊢
    exact ih m (by simpa using hm) h4 fun i hi=>by have:=h5' (i+1) (by omega);simpa using this
theorem zvD(L:List ByteArray)(u:ByteArray)(h:L.length≤1000000):∃S:Sum Tryz.prog,S.f=69∧S.flat=true∧S.D [.slc 1 (L.map fun s=>[vs s]),.c (.string u)]∧S.r [.slc 1 (L.map fun s=>[vs s]),.c (.string u)]=vi (ixS L u):=
 ⟨⟨69,fun args=>args= [ZE L,vs u],fun _=>vi (ixS L u),fun args h'=>by rw[h'];exact zvC L u h,true⟩,rfl,rfl,rfl,rfl⟩
theorem ztc(a n:Int)(s:ByteArray):dPa (.agg [.c (.int .i64 a),.c (.string s),.c (.int .i64 n),.slc 3 []])=⟨⟨a,s,n⟩,[]⟩:=rfl
theorem zxL(a n:Int)(l:List Tok):ju ⟨⟨a,⟨#[]⟩,n⟩,l⟩:=by show ByteArray.size ⟨#[]⟩≤1000000;decide
theorem ziV{l:List Tok}(h:okT l){p:Pa}(hp:Yp l=some p):ju p∧okT p.al∧ZC l=some p∧p.t.kind=2:=by
 unfold Yp at hp
 cases hO:ZC l with
 |none=>rw[hO]at hp;cases hp
 |some q=>
  rw[hO]at hp
  simp only at hp
  split at hp
  ·rename_i hk
   cases hp
   have:=Jc h p (by rw[(Jb hO).2];simp)
   exact⟨this.1,this.2,rfl,hk⟩
  ·cases hp
def jn:Option ByteArray→V
 |none=>.tup [vs ⟨#[]⟩,vb false]
 |some s=>.tup [vs s,vb true]
def za7(p:Pa):Option ByteArray:=if yT p ⟨#[97,117,116,111]⟩=true then some ⟨#[]⟩else if yh p=true then some p.t.text else none
def yE(l:List Tok):Option ByteArray:=(ZC l).bind za7
theorem zdV{p:Pa}(h:¬p.t.kind=2):za7 p=none:=by
 simp[za7,yT,yh,h]
theorem ztU(l:List Tok)(h:okT l):ze Tryz.prog 80 [zj l] (jn (yE l)):=by
 refine ze.of (Orc.cons zeC (Orc.cons Z6 (Orc.cons KJ (Orc.nil _)))) zwU (by simp[c80]) fun w0 own0=> ?_
 unfold yE
 cases hA:Yp l with
 |none=>
  have hN:(ZC l).bind za7=none:=by
   unfold Yp at hA
   cases hO:ZC l with
   |none=>rfl
   |some p=>
    rw[hO]at hA
    simp only at hA
    split at hA
    ·cases hA
    ·rename_i hk;exact zdV hk
  rw[hN]
  simp only[c80,zj,zf,h,hA,ZL,jn,ztc,zxL,Pa.enc,List.map_nil,go_sem,zd,seval,reduceIte,reduceCtorEq]
 |some p=>
  obtain⟨hp,_,hO,hk⟩:=ziV h hA
  rw[hO,Option.bind_some]
  unfold za7
  cases hi:yT p ⟨#[97,117,116,111]⟩with
  |true=>
   simp only[if_true]
   simp only[c80,zj,zf,h,hA,ZL,jn,zT,Pa.etaT,Pa.eta',hp,hi,Pa.enc,go_sem,zd,seval,reduceIte,reduceCtorEq]
  |false=>
   cases hn:yh p with
   |true=>
    simp only[Bool.false_eq_true,if_false,if_true]
    simp only[c80,zj,zf,h,hA,ZL,jn,zT,Pa.etaT,Pa.eta',hp,hi,hn,Pa.enc,go_sem,zd,seval,reduceIte,reduceCtorEq]
   |false=>
    simp only[Bool.false_eq_true,if_false]
    simp only[c80,zj,zf,h,hA,ZL,jn,zT,Pa.etaT,Pa.eta',hp,hi,hn,Pa.enc,go_sem,zd,seval,reduceIte,reduceCtorEq]
theorem zof(l:List Tok)(h:okT l):ze Tryz.prog 44 [zj l] (jn (yE l)):=by
 have h1:=h.1
 refine ze.of (Orc.cons kP (Orc.cons Z5 (Orc.cons Z9 (Orc.nil _)))) zwt (by simp[c44]) fun w0 own0=> ?_
 unfold yE
 cases hO:ZC l with
 |none=>
  cases hb:ptB l with
  |false=>simp only[c44,zj,zf,h1,plV,hb,jn,Option.bind_none,go_sem,zd,seval,reduceIte,reduceCtorEq]
  |true=>
   have hn:=(zbb hO).resolve_left (by rw[hb];simp)
   simp only[c44,zj,zf,h1,plV,hb,hn,jn,Option.bind_none,go_sem,zd,seval,reduceIte,reduceCtorEq]
 |some p=>
  obtain⟨hb,hp⟩:=Jb hO
  have hok:=(Jc h p (by rw[hp];simp)).1
  rw[Option.bind_some]
  unfold za7
  cases hi:yT p ⟨#[97,117,116,111]⟩with
  |true=>
   simp only[if_true]
   simp only[c44,zj,zf,h1,plV,hb,hp,hok,hi,zT,Pa.etaT,Pa.eta',Pa.enc,jn,go_sem,zd,seval,reduceIte,reduceCtorEq]
  |false=>
   cases hn:yh p with
   |true=>
    simp only[Bool.false_eq_true,if_false,if_true]
    simp only[c44,zj,zf,h1,plV,hb,hp,hok,hi,hn,zT,Pa.etaT,Pa.eta',Pa.enc,jn,go_sem,zd,seval,reduceIte,reduceCtorEq]
   |false=>
    simp only[Bool.false_eq_true,if_false]
    simp only[c44,zj,zf,h1,plV,hb,hp,hok,hi,hn,zT,Pa.etaT,Pa.eta',Pa.enc,jn,go_sem,zd,seval,reduceIte,reduceCtorEq]
def KI:Sum Tryz.prog:=⟨80,fun args=>args= [zj (zi (args.getD 0 .any))]∧okT (zi (args.getD 0 .any)),fun args=>jn (yE (zi (args.getD 0 .any))),fun args h=>by
 have:=ztU (zi (args.getD 0 .any)) h.2;rwa [←h.1]at this,false⟩
theorem zll:KI.f=80:=rfl
theorem zlk(args:List V):KI.D args=(args= [zj (zi (args.getD 0 .any))]∧okT (zi (args.getD 0 .any))):=rfl
theorem zcu:KI.flat=false:=rfl
theorem zlm(args:List V):KI.r args=jn (yE (zi (args.getD 0 .any))):=rfl
attribute [go_sem] zll zlk zcu zlm
def jJ:Sum Tryz.prog:=⟨44,fun args=>args= [zj (zi (args.getD 0 .any))]∧okT (zi (args.getD 0 .any)),fun args=>jn (yE (zi (args.getD 0 .any))),fun args h=>by
 have:=zof (zi (args.getD 0 .any)) h.2;rwa [←h.1]at this,false⟩
theorem zhn:jJ.f=44:=rfl
theorem zhm(args:List V):jJ.D args=(args= [zj (zi (args.getD 0 .any))]∧okT (zi (args.getD 0 .any))):=rfl
theorem zau:jJ.flat=false:=rfl
theorem zho(args:List V):jJ.r args=jn (yE (zi (args.getD 0 .any))):=rfl
attribute [go_sem] zhn zhm zau zho

structure Itm where
 kind:Int
 text:ByteArray
 name:ByteArray
 style:Int
 which:Int
instance:Inhabited Itm:=⟨⟨0,⟨#[]⟩,⟨#[]⟩,0,0⟩⟩
def Itm.zero:Itm:=⟨0,⟨#[]⟩,⟨#[]⟩,0,0⟩
def Itm.enc(x:Itm):List V:=[vi x.kind,vs x.text,vs x.name,vi x.style,vi x.which]
def zdA(l:List Itm):V:=.slc 5 (l.map Itm.enc)
def zyw(e:List V):Itm:=⟨(e.getD 0 .any).int,(e.getD 1 .any).str,(e.getD 2 .any).str,(e.getD 3 .any).int,(e.getD 4 .any).int⟩
def Qp(v:V):List Itm:=v.es.map zyw
theorem zaN(sz:Nat)(l:List Itm):Qp (.slc sz (l.map Itm.enc))=l:=by
 simp only[Qp,V.es,List.map_map]
 conv=>rhs;rw[←List.map_id l]
 apply List.map_congr_left
 intro s _
 rfl
theorem Itm.eta'(x:Itm):(⟨x.kind,x.text,x.name,x.style,x.which⟩:Itm)=x:=rfl
theorem zjw(l:List Itm)(i:Nat):(l.map Itm.enc).getD i [vi 0,vs ⟨#[]⟩,vs ⟨#[]⟩,vi 0,vi 0]=(l.getD i default).enc:=by
 by_cases h:i<l.length
 ·simp[List.getD_eq_getElem?_getD,h]
 ·simp[List.getD_eq_getElem?_getD,h];rfl
def whs:List ByteArray:=[⟨#[102,105,114,115,116]⟩,⟨#[115,116,97,114,116]⟩,⟨#[108,97,115,116]⟩,⟨#[102,105,114,115,116,45,101,120,99,101,112,116]⟩]
def kv(t:Tok):Option Int:=if t.kind=8∧t.n.tmod 1000=0 then some (min (max (t.n.tdiv 1000) (-2147483648)) 2147483647)else none
def yP:Option Int→V
 |none=>.tup [vi 0,vb false]
 |some n=>.tup [vi n,vb true]
theorem zJ(o:Option Int):yP o= .tup [vi (o.getD 0),vb o.isSome]:=by cases o<;>rfl
def okI(n:Int):Prop:= -9223372036854775808≤n∧n≤9223372036854775807
theorem WY{n:Int}(h:okI n): -9223372036854775808≤n.tdiv 1000∧n.tdiv 1000≤9223372036854775807:=by
 unfold okI at h
 rcases Int.lt_or_le n 0 with h0|h0
 ·have:n.tdiv 1000= -((-n).tdiv 1000):=by rw[Int.neg_tdiv];omega
  rw[this,Int.tdiv_eq_ediv_of_nonneg (by omega)];omega
 ·rw[Int.tdiv_eq_ediv_of_nonneg h0];omega
theorem zna(p:Pa)(hn:okI p.t.n):ze Tryz.prog 79 [.agg p.enc] (yP (kv p.t)):=by
 refine ze.of (Orc.nil _) zwT (by simp[c79]) fun w0 own0=> ?_
 unfold kv
 have hr:=WY hn
 by_cases h1:p.t.kind=8
 ·by_cases h2:p.t.n.tmod 1000=0
  ·rw[if_pos ⟨h1,h2⟩]
   simp only[c79,Pa.enc,h1,h2,yP,go_sem,zd,reduceCtorEq,reduceIte,Nat.reduceEqDiff,Nat.reduceAdd,Nat.reduceSub,Nat.reduceMul,Nat.reduceLT,Nat.reduceLeDiff,Nat.reduceBEq,Int.reduceEq,Int.reduceLT,Int.reduceLE,Int.reduceAdd,Int.reduceSub,Int.reduceNeg,Int.reduceToNat]
   exact⟨by omega,hr,by omega⟩
  ·rw[if_neg (fun h=>h2 h.2)]
   simp only[c79,Pa.enc,h1,h2,yP,go_sem,zd,reduceCtorEq,reduceIte,Nat.reduceEqDiff,Nat.reduceAdd,Nat.reduceSub,Nat.reduceMul,Nat.reduceLT,Nat.reduceLeDiff,Nat.reduceBEq,Int.reduceEq,Int.reduceLT,Int.reduceLE,Int.reduceAdd,Int.reduceSub,Int.reduceNeg,Int.reduceToNat]
   omega
 ·rw[if_neg (fun h=>h1 h.1)]
  simp only[c79,Pa.enc,h1,yP,go_sem,zd,reduceCtorEq,reduceIte,Nat.reduceEqDiff,Nat.reduceAdd,Nat.reduceSub,Nat.reduceMul,Nat.reduceLT,Nat.reduceLeDiff,Nat.reduceBEq,Int.reduceEq,Int.reduceLT,Int.reduceLE,Int.reduceAdd,Int.reduceSub,Int.reduceNeg,Int.reduceToNat]
def YQ:Sum Tryz.prog:=⟨79,fun args=>args= [.agg (Pa.enc (dPa (args.getD 0 .any)))]∧okI ((dPa (args.getD 0 .any))).t.n,fun args=>yP (kv ((dPa (args.getD 0 .any))).t),fun args h=>by
 have:=zna (dPa (args.getD 0 .any)) h.2;rwa [←h.1]at this,false⟩
theorem zpj:YQ.f=79:=rfl
theorem zpi(args:List V):YQ.D args=(args= [.agg (Pa.enc (dPa (args.getD 0 .any)))]∧okI ((dPa (args.getD 0 .any))).t.n):=rfl
theorem zeI:YQ.flat=false:=rfl
theorem zpk(args:List V):YQ.r args=yP (kv ((dPa (args.getD 0 .any))).t):=rfl
attribute [go_sem] zpj zpi zeI zpk
theorem YL(l:List Pa)(k:Nat)(h:k<l.length):l.drop k=l.getD k default::l.drop (k+1):=by
 rw[List.getD_eq_getElem?_getD,List.getElem?_eq_getElem h,Option.getD_some,List.drop_eq_getElem_cons h]
theorem zd3(ends:List Int)(to:Int):∀(f:Nat)(k:Int),(plR ends to f k).length≤f
 |0,_=>Nat.le_refl _
 |f+1,k=>by
  simp only[plR]
  split
  ·have:=zd3 ends to f (skip ends k);simp;omega
  ·simp
theorem X5(l:List Tok):∀(ks:List Int)(ps:List Part),zY l ks=some ps→ps.length≤ks.length
 | [],ps,h=>by simp[zY]at h;subst h;simp
 |k::ks,ps,h=>by
  simp only[zY]at h
  split at h
  ·cases h
  ·simp only[Option.map_eq_some_iff]at h
   obtain⟨qs,hq,rfl⟩:=h
   have:=X5 l ks qs hq
   split<;>simp<;>omega
theorem X7(l:List Tok):(pl l).length≤l.length+1:=by
 unfold pl ptL
 cases hO:ptO l with
 |none=>simp
 |some ps=>
  unfold ptO at hO
  split at hO
  ·cases hO
  ·have h1:=X5 l _ _ hO
   have h2:=zd3 (zv l) l.length (l.length+1) 0
   simp;omega
structure ArS where
 k:Nat
 out:List Pa
 ver:Nat
 clk:Nat
def stp(n:Int):Int:=min (max n (-1099511627776)) 1099511627776
theorem zuj(n:Int): -1099511627776≤stp n∧stp n≤1099511627776:=by unfold stp;omega
theorem zui(n:Int):ze Tryz.prog 98 [vi n] (vi (stp n)):=by
 refine ze.of (Orc.nil _) zw5 (by simp[c98]) fun w0 own0=> ?_
 simp only[c98,stp,go_sem,zd,seval,reduceIte,reduceCtorEq]
def KO:Sum Tryz.prog:=⟨98,fun args=>args= [vi ((args.getD 0 .any).int)],fun args=>vi (stp ((args.getD 0 .any).int)),fun args h=>by
 have:=zui ((args.getD 0 .any).int);rwa [←h]at this,true⟩
theorem zlD:KO.f=98:=rfl
theorem zlC(args:List V):KO.D args=(args= [vi ((args.getD 0 .any).int)]):=rfl
theorem zcA:KO.flat=true:=rfl
theorem zlE(args:List V):KO.r args=vi (stp ((args.getD 0 .any).int)):=rfl
attribute [go_sem] zlD zlC zcA zlE
def yJ:List (ByteArray×(Int×Int)):=[(⟨#[112,120]⟩,(1,1)),(⟨#[112,116]⟩,(4,3)),(⟨#[105,110]⟩,(96,1)),(⟨#[99,109]⟩,(9600,254)),(⟨#[109,109]⟩,(960,254)),(⟨#[112,99]⟩,(16,1))]
def qb(t:Tok):Option Int:=if t.kind=8∧t.n=0 then some 0 else if t.kind=10 then(QK yJ (zy t.text)).map fun u=>stp ((stp t.n*u.1).tdiv u.2)else none
def uV(u:Int×Int):V:=.agg [vi u.1,vi u.2]
def okU(u:Int×Int):Prop:=(u.1=1∨u.1=4∨u.1=96∨u.1=9600∨u.1=960∨u.1=16)∧(u.2=1∨u.2=3∨u.2=254)
theorem zdN{α:Type}{s:ByteArray}{u:α}:∀ {L:List (ByteArray×α)},QK L s=some u→∃p∈L,p.2=u
 | [],h=>by cases h
 |p::r,h=>by
  simp only[QK]at h
  split at h
  ·exact⟨p,by simp,by simpa using h⟩
  ·obtain⟨q,hq,e⟩:=zdN h;exact⟨q,by simp[hq],e⟩
theorem ziO{s:ByteArray}{u:Int×Int}(h:QK yJ s=some u):okU u:=by
 obtain⟨p,hp,rfl⟩:=zdN h
 have:∀p∈yJ,okU p.2:=by
  intro p hp
  unfold yJ at hp
  simp only[List.mem_cons,List.not_mem_nil,or_false]at hp
  rcases hp with rfl|rfl|rfl|rfl|rfl|rfl<;>simp[okU]
 exact this p hp
theorem zit{n:Int}{u:Int×Int}(hu:okU u):(-9223372036854775808≤stp n*u.1∧stp n*u.1≤9223372036854775807)∧(-9223372036854775808≤(stp n*u.1).tdiv u.2∧(stp n*u.1).tdiv u.2≤9223372036854775807)∧u.2≠0:=by
 have h:=zuj n
 generalize stp n=m at*
 obtain⟨a,b⟩:=u
 obtain⟨h1,h2⟩:=hu
 simp only at h1 h2⊢
 have hm: -10555311626649600≤m*a∧m*a≤10555311626649600:=by
  rcases h1 with rfl|rfl|rfl|rfl|rfl|rfl<;>omega
 generalize m*a=x at*
 have hd:∀c:Int,0<c→ -10555311626649600≤x.tdiv c∧x.tdiv c≤10555311626649600:=by
  intro c hc
  rcases Int.lt_or_le x 0 with h0|h0
  ·have e:x.tdiv c= -((-x).tdiv c):=by rw[Int.neg_tdiv];omega
   rw[e,Int.tdiv_eq_ediv_of_nonneg (by omega)]
   have a1:=Int.ediv_le_self (a:= -x) c (by omega)
   have a2:=Int.ediv_nonneg (a:= -x) (b:=c) (by omega) (by omega)
   omega
  ·rw[Int.tdiv_eq_ediv_of_nonneg h0]
   have a1:=Int.ediv_le_self (a:=x) c (by omega)
   have a2:=Int.ediv_nonneg (a:=x) (b:=c) (by omega) (by omega)
   omega
 have:=hd b (by rcases h2 with rfl|rfl|rfl<;>omega)
 refine⟨by omega,by omega,by rcases h2 with rfl|rfl|rfl<;>omega⟩
theorem zjK(t:Tok)(h:t.text.size≤1000000):ze Tryz.prog 68 [.agg t.enc] (yP (qb t)):=by
 refine ze.of (Orc.cons jI (Orc.cons KO (Orc.nil _))) zwK (by simp[c68]) fun w0 own0=> ?_
 unfold qb
 have hm:=za4 uV (zy t.text) yJ
 have hu:=@ziO (zy t.text)
 generalize QK yJ (zy t.text)=o at*
 simp only[yJ,uV,List.map_cons,List.map_nil]at hm
 by_cases c8:t.kind=8∧t.n=0
 ·rw[if_pos c8]
  simp only[c68,Tok.enc,c8.1,c8.2,yP,go_sem,zd,seval,reduceIte,reduceCtorEq]
 rw[if_neg c8]
 have c8':t.kind=8→¬t.n=0:=fun a b=>c8 ⟨a,b⟩
 by_cases c10:t.kind=10
 ·rw[if_pos c10]
  have c88:¬((10:Int)=8):=by omega
  cases o with
  |none=>
   simp only[Option.map_none]at hm⊢
   simp only[c68,Tok.enc,c10,c88,h,hm,yP,go_sem,zd,seval,reduceIte,reduceCtorEq]
  |some u=>
   obtain⟨r1,r2,r3⟩:=zit (n:=t.n) (hu rfl)
   obtain⟨a,b⟩:=u
   simp only[Option.map_some,uV]at hm⊢
   simp only[c68,Tok.enc,c10,c88,h,hm,yP,go_sem,zd,seval,reduceIte,reduceCtorEq]
   exact⟨r1,r2,r3⟩
 ·rw[if_neg c10]
  cases o with
  |none=>
   simp only[Option.map_none]at hm
   simp only[c68,Tok.enc,c10,h,hm,yP,go_sem,zd,seval,reduceIte,reduceCtorEq]
   by_cases k8:t.kind=8
   ·simp[k8,c8' k8]
   ·simp[k8]
  |some u=>
   obtain⟨a,b⟩:=u
   simp only[Option.map_some,uV]at hm
   simp only[c68,Tok.enc,c10,h,hm,yP,go_sem,zd,seval,reduceIte,reduceCtorEq]
   by_cases k8:t.kind=8
   ·simp[k8,c8' k8]
   ·simp[k8]
theorem zgm(t:Tok)(h:t.text.size≤1000000):ze Tryz.prog 31 [.agg t.enc] (yP (qb t)):=by
 obtain⟨S,s1,s2,s3,s4⟩:=zvD (yJ.map (·.1)) (zy t.text) (by decide)
 refine ze.of (Orc.cons S (Orc.cons ku (Orc.nil _))) zwh (by simp[c31]) fun w0 own0=> ?_
 unfold qb
 have hx:=ztI (zy t.text) yJ
 have hu:=@ziO (zy t.text)
 have hst:∀n:Int,max (min n 1099511627776) (-1099511627776)=stp n:=fun n=>by unfold stp;omega
 generalize QK yJ (zy t.text)=o at*
 generalize ixS (yJ.map (·.1)) (zy t.text)=r at*
 simp only[yJ,List.map_cons,List.map_nil]at s3 s4
 by_cases c8:t.kind=8∧t.n=0
 ·rw[if_pos c8]
  simp only[c31,Tok.enc,c8.1,c8.2,yP,go_sem,zd,seval,reduceIte,reduceCtorEq]
 rw[if_neg c8]
 have c8':t.kind=8→¬t.n=0:=fun a b=>c8 ⟨a,b⟩
 by_cases c10:t.kind=10
 ·rw[if_pos c10]
  have c88:¬((10:Int)=8):=by omega
  rcases hx with⟨hr,ho⟩|⟨m,hm,hr,ho⟩
  ·subst hr;subst ho
   simp only[Option.map_none]
   simp only[c31,Tok.enc,c10,c88,h,yP,s1,s2,s3,s4,go_sem,zd,seval,reduceIte,reduceCtorEq]
  ·subst hr;subst ho
   obtain⟨r1,r2,r3⟩:=zit (n:=t.n) (hu rfl)
   simp only[Option.map_some]
   have hm6:m<6:=hm
   rcases(show m=0∨m=1∨m=2∨m=3∨m=4∨m=5 by omega)with rfl|rfl|rfl|rfl|rfl|rfl
   all_goals
    simp only[yJ,List.getD_cons_zero,List.getD_cons_succ]at r1 r2 r3
    simp only[c31,Tok.enc,c10,c88,h,yP,s1,s2,s3,s4,hst,yJ,go_sem,zd,seval,reduceIte,reduceCtorEq]
    try simp only[Int.mul_one,Int.tdiv_one]at*
    omega
 ·rw[if_neg c10]
  simp only[c31,Tok.enc,c10,h,yP,s1,s2,s3,s4,go_sem,zd,seval,reduceIte,reduceCtorEq]
  by_cases k8:t.kind=8
  ·simp[k8,c8' k8]
  ·simp[k8]
def Jl:Sum Tryz.prog:=⟨68,fun args=>args= [.agg (Tok.enc (qj (args.getD 0 .any)))]∧((qj (args.getD 0 .any))).text.size≤1000000,fun args=>yP (qb (qj (args.getD 0 .any))),fun args h=>by
 have:=zjK (qj (args.getD 0 .any)) h.2;rwa [←h.1]at this,false⟩
theorem zpN:Jl.f=68:=rfl
theorem zpM(args:List V):Jl.D args=(args= [.agg (Tok.enc (qj (args.getD 0 .any)))]∧((qj (args.getD 0 .any))).text.size≤1000000):=rfl
theorem zeV:Jl.flat=false:=rfl
theorem zpO(args:List V):Jl.r args=yP (qb (qj (args.getD 0 .any))):=rfl
attribute [go_sem] zpN zpM zeV zpO
def Z7:Sum Tryz.prog:=⟨31,fun args=>args= [.agg (Tok.enc (qj (args.getD 0 .any)))]∧((qj (args.getD 0 .any))).text.size≤1000000,fun args=>yP (qb (qj (args.getD 0 .any))),fun args h=>by
 have:=zgm (qj (args.getD 0 .any)) h.2;rwa [←h.1]at this,false⟩
theorem zk3:Z7.f=31:=rfl
theorem zk2(args:List V):Z7.D args=(args= [.agg (Tok.enc (qj (args.getD 0 .any)))]∧((qj (args.getD 0 .any))).text.size≤1000000):=rfl
theorem zco:Z7.flat=false:=rfl
theorem zk4(args:List V):Z7.r args=yP (qb (qj (args.getD 0 .any))):=rfl
attribute [go_sem] zk3 zk2 zco zk4
def j7:List Pa→Option (List Int)
 | []=>some []
 |p::l=>match qb p.t with|none=>none|some n=>(j7 l).map (n:: ·)
def jl:List Int→List Int
 | [a]=>[a,a,a,a]
 | [a,b]=>[a,b,a,b]
 | [a,b,c]=>[a,b,c,b]
 |l=>l
def qy(l:List Tok):Option (List Int):=if ptB l=true∧1≤(pl l).length∧(pl l).length≤4 then(j7 (pl l)).map jl else none
def ZX:Option (List Int)→V
 |none=>.tup [zI,vb false]
 |some l=>.tup [zH l,vb true]
def ZY(o:Option (List Int)):V:=.tup [zH (o.getD []),vb o.isSome]
theorem zdM(o:Option (List Int)){f:FuncId}{args:List V}(h:ze Tryz.prog f args (ZX o)):ze Tryz.prog f args (ZY o):=by
 cases o with
 |some l=>exact h
 |none=>
  refine ze.rsub h fun F w v hp=> ?_
  cases hp with
  |tup cs _ hl hx=>
   refine .tup cs _ hl fun i hi=> ?_
   have:=hx i hi
   match i,hi with
   |0,_=>exact PRep.nilS 1 this
   |1,_=>exact this
theorem zdL:∀(l:List Pa)(n:List Int),j7 l=some n→n.length=l.length
 | [],n,h=>by simp[j7]at h;subst h;rfl
 |p::l,n,h=>by
  simp only[j7]at h
  split at h
  ·cases h
  ·simp only[Option.map_eq_some_iff]at h
   obtain⟨m,hm,rfl⟩:=h
   simp[zdL l m hm]
structure LnS where
 k:Nat
 out:List Int
 ver:Nat
 clk:Nat
theorem za0(L:List Pa)(k:Nat)(h:k<L.length):j7 (L.drop k)=match qb (L.getD k default).t with|none=>none|some n=>(j7 (L.drop (k+1))).map (n:: ·):=by
 rw[YL L k h];rfl
theorem zgn(l:List Tok)(h:okT l):ze Tryz.prog 28 [zj l] (ZX (qy l)):=by
 refine ze.of (Orc.cons jf (Orc.cons Jl (Orc.nil _))) zwe (by simp[c28]) fun w0 own0=> ?_
 have h1:=h.1
 have hm:=Jc h
 unfold qy
 have hlen:=X7 l
 by_cases hc:ptB l=true∧1≤(pl l).length∧(pl l).length≤4
 ·rw[if_pos hc]
  obtain⟨c1,c2,c3⟩:=hc
  generalize hL:pl l=L at*
  generalize hR:(j7 L).map jl=R
  have g1:¬((L.length:Int)<1):=by omega
  have g2:¬((4:Int)<(L.length:Int)):=by omega
  have g3:¬((L.length:Int)=0):=by omega
  simp only[c28,zj,zf,h1,plV,hL,c1,g1,g2,g3,go_sem,zd,seval,reduceIte,reduceCtorEq]
  refine zG.lp (α:=LnS) (fun a=>[(6,.ref 0 a.ver 0 a.out.length),(4,.slc 4 (L.map Pa.enc)),(32,.slc 4 (L.map Pa.enc)),(33,vi L.length),(34,vi a.k)])
   (fun a=>⟨[⟨a.ver,1,a.out.map fun n=>[vi n],false,[vi 0]⟩],a.clk⟩) (fun a=>a.k≤L.length∧a.out.length=a.k∧((j7 (L.drop a.k)).map (a.out++ ·)).map jl=R) (fun a=>L.length - a.k) ⟨0,[],0,1⟩
   ⟨Nat.zero_le _,rfl,by rw[←hR];simp only[List.drop_zero,List.nil_append];cases j7 L<;>rfl⟩ (St.nil 6 1 [vi 0] (by simp[zo]) (St.cut ?_ ?_ ?_)) fun a ha=> ?_
  ·simp[zq,zo,zt]
  ·simp[Heap.alloc]
  ·rfl
  obtain⟨k,out,ver,clk⟩:=a
  obtain⟨h2,h3,h4⟩:=ha
  simp only at h2 h3 h4
  by_cases hk:k=L.length
  ·subst hk
   rw[List.drop_length]at h4
   simp only[j7,Option.map_some,List.append_nil]at h4
   subst h4
   have hcase:(∃a,out= [a])∨(∃a b,out= [a,b])∨(∃a b c,out= [a,b,c])∨∃a b c d,out= [a,b,c,d]:=by
    match out,h3 with
    | [],h3=>simp at h3;omega
    | [a],_=>exact .inl ⟨a,rfl⟩
    | [a,b],_=>exact .inr (.inl ⟨a,b,rfl⟩)
    | [a,b,c],_=>exact .inr (.inr (.inl ⟨a,b,c,rfl⟩))
    | [a,b,c,d],_=>exact .inr (.inr (.inr ⟨a,b,c,d,rfl⟩))
    |_::_::_::_::_::r,h3=>simp at h3;omega
   rcases hcase with⟨a,rfl⟩|⟨a,b,rfl⟩|⟨a,b,c,rfl⟩|⟨a,b,c,d,rfl⟩
   ·have hLn:(L.length:Int)=1:=by rw[←h3];rfl
    simp only[Int.lt_irrefl,jl,ZX,zH,List.map_cons,List.map_nil,go_sem,zd,seval,reduceIte,reduceCtorEq]
    refine zG.lp (α:=LnS) (fun s=>[(6,.ref 0 ver 0 1),(12,.ref 6 s.ver 0 s.k),(61,.ref 1 clk 0 4),(62,vi 4),(63,vi s.k)])
     (fun s=>⟨[⟨ver,1,[[vi a]],false,[vi 0]⟩,⟨clk,1,[[vi 0],[vi 0],[vi 0],[vi 0]],false,[vi 0]⟩,⟨clk+1,1,[[vi 0],[vi 1],[vi 0],[vi 1]],false,[vi 0]⟩,⟨clk+1+1,1,[[vi 0],[vi 1],[vi 2],[vi 1]],false,[vi 0]⟩,⟨clk+1+1+1,1,[[vi 0],[vi 1],[vi 2],[vi 3]],false,[vi 0]⟩,⟨clk+1+1+1+1,1,[[.ref 1 clk 0 4],[.ref 2 (clk+1) 0 4],[.ref 3 (clk+1+1) 0 4],[.ref 4 (clk+1+1+1) 0 4]],false,[zI]⟩,⟨s.ver,1,(([a,a,a,a]:List Int).take s.k).map fun n=>[vi n],false,[vi 0]⟩],s.clk⟩) (fun s=>s.k≤4) (fun s=>4 - s.k) ⟨0,[],clk+1+1+1+1+1,clk+1+1+1+1+1+1⟩
     (by dsimp only;omega) (St.nil 12 1 [vi 0] (by simp[zo]) (St.cut ?_ ?_ ?_)) fun s hs=> ?_
    ·simp[zq,zo,yb]
    ·simp[Heap.alloc]
    ·rfl
    obtain⟨k2,o2,v2,clk2⟩:=s
    simp only at hs
    rcases(show k2=0∨k2=1∨k2=2∨k2=3∨k2=4 by omega)with rfl|rfl|rfl|rfl|rfl
    all_goals simp only[List.take_zero,List.take_succ_cons,List.take_nil,List.map_cons,List.map_nil,go_sem,zd,seval,reduceIte,reduceCtorEq]
    ·exact⟨⟨1,[],clk2+1,clk2+1+1⟩,by dsimp only;omega,by dsimp only;omega,⟨⟨rfl,rfl⟩,rfl⟩,⟨rfl,rfl⟩,rfl⟩
    ·exact⟨⟨2,[],clk2+1,clk2+1+1⟩,by dsimp only;omega,by dsimp only;omega,⟨⟨rfl,rfl⟩,rfl⟩,⟨rfl,rfl⟩,rfl⟩
    ·exact⟨⟨3,[],clk2+1,clk2+1+1⟩,by dsimp only;omega,by dsimp only;omega,⟨⟨rfl,rfl⟩,rfl⟩,⟨rfl,rfl⟩,rfl⟩
    ·exact⟨⟨4,[],clk2+1,clk2+1+1⟩,by dsimp only;omega,by dsimp only;omega,⟨⟨rfl,rfl⟩,rfl⟩,⟨rfl,rfl⟩,rfl⟩
   ·have hLn:(L.length:Int)=2:=by rw[←h3];rfl
    simp only[Int.lt_irrefl,jl,ZX,zH,List.map_cons,List.map_nil,go_sem,zd,seval,reduceIte,reduceCtorEq]
    refine zG.lp (α:=LnS) (fun s=>[(6,.ref 0 ver 0 2),(12,.ref 6 s.ver 0 s.k),(61,.ref 2 (clk+1) 0 4),(62,vi 4),(63,vi s.k)])
     (fun s=>⟨[⟨ver,1,[[vi a],[vi b]],false,[vi 0]⟩,⟨clk,1,[[vi 0],[vi 0],[vi 0],[vi 0]],false,[vi 0]⟩,⟨clk+1,1,[[vi 0],[vi 1],[vi 0],[vi 1]],false,[vi 0]⟩,⟨clk+1+1,1,[[vi 0],[vi 1],[vi 2],[vi 1]],false,[vi 0]⟩,⟨clk+1+1+1,1,[[vi 0],[vi 1],[vi 2],[vi 3]],false,[vi 0]⟩,⟨clk+1+1+1+1,1,[[.ref 1 clk 0 4],[.ref 2 (clk+1) 0 4],[.ref 3 (clk+1+1) 0 4],[.ref 4 (clk+1+1+1) 0 4]],false,[zI]⟩,⟨s.ver,1,(([a,b,a,b]:List Int).take s.k).map fun n=>[vi n],false,[vi 0]⟩],s.clk⟩) (fun s=>s.k≤4) (fun s=>4 - s.k) ⟨0,[],clk+1+1+1+1+1,clk+1+1+1+1+1+1⟩
     (by dsimp only;omega) (St.nil 12 1 [vi 0] (by simp[zo]) (St.cut ?_ ?_ ?_)) fun s hs=> ?_
    ·simp[zq,zo,yb]
    ·simp[Heap.alloc]
    ·rfl
    obtain⟨k2,o2,v2,clk2⟩:=s
    simp only at hs
    rcases(show k2=0∨k2=1∨k2=2∨k2=3∨k2=4 by omega)with rfl|rfl|rfl|rfl|rfl
    all_goals simp only[List.take_zero,List.take_succ_cons,List.take_nil,List.map_cons,List.map_nil,go_sem,zd,seval,reduceIte,reduceCtorEq]
    ·exact⟨⟨1,[],clk2+1,clk2+1+1⟩,by dsimp only;omega,by dsimp only;omega,⟨⟨rfl,rfl⟩,rfl⟩,⟨rfl,rfl⟩,rfl⟩
    ·exact⟨⟨2,[],clk2+1,clk2+1+1⟩,by dsimp only;omega,by dsimp only;omega,⟨⟨rfl,rfl⟩,rfl⟩,⟨rfl,rfl⟩,rfl⟩
    ·exact⟨⟨3,[],clk2+1,clk2+1+1⟩,by dsimp only;omega,by dsimp only;omega,⟨⟨rfl,rfl⟩,rfl⟩,⟨rfl,rfl⟩,rfl⟩
    ·exact⟨⟨4,[],clk2+1,clk2+1+1⟩,by dsimp only;omega,by dsimp only;omega,⟨⟨rfl,rfl⟩,rfl⟩,⟨rfl,rfl⟩,rfl⟩
   ·have hLn:(L.length:Int)=3:=by rw[←h3];rfl
    simp only[Int.lt_irrefl,jl,ZX,zH,List.map_cons,List.map_nil,go_sem,zd,seval,reduceIte,reduceCtorEq]
    refine zG.lp (α:=LnS) (fun s=>[(6,.ref 0 ver 0 3),(12,.ref 6 s.ver 0 s.k),(61,.ref 3 (clk+1+1) 0 4),(62,vi 4),(63,vi s.k)])
     (fun s=>⟨[⟨ver,1,[[vi a],[vi b],[vi c]],false,[vi 0]⟩,⟨clk,1,[[vi 0],[vi 0],[vi 0],[vi 0]],false,[vi 0]⟩,⟨clk+1,1,[[vi 0],[vi 1],[vi 0],[vi 1]],false,[vi 0]⟩,⟨clk+1+1,1,[[vi 0],[vi 1],[vi 2],[vi 1]],false,[vi 0]⟩,⟨clk+1+1+1,1,[[vi 0],[vi 1],[vi 2],[vi 3]],false,[vi 0]⟩,⟨clk+1+1+1+1,1,[[.ref 1 clk 0 4],[.ref 2 (clk+1) 0 4],[.ref 3 (clk+1+1) 0 4],[.ref 4 (clk+1+1+1) 0 4]],false,[zI]⟩,⟨s.ver,1,(([a,b,c,b]:List Int).take s.k).map fun n=>[vi n],false,[vi 0]⟩],s.clk⟩) (fun s=>s.k≤4) (fun s=>4 - s.k) ⟨0,[],clk+1+1+1+1+1,clk+1+1+1+1+1+1⟩
     (by dsimp only;omega) (St.nil 12 1 [vi 0] (by simp[zo]) (St.cut ?_ ?_ ?_)) fun s hs=> ?_
    ·simp[zq,zo,yb]
    ·simp[Heap.alloc]
    ·rfl
    obtain⟨k2,o2,v2,clk2⟩:=s
    simp only at hs
    rcases(show k2=0∨k2=1∨k2=2∨k2=3∨k2=4 by omega)with rfl|rfl|rfl|rfl|rfl
    all_goals simp only[List.take_zero,List.take_succ_cons,List.take_nil,List.map_cons,List.map_nil,go_sem,zd,seval,reduceIte,reduceCtorEq]
    ·exact⟨⟨1,[],clk2+1,clk2+1+1⟩,by dsimp only;omega,by dsimp only;omega,⟨⟨rfl,rfl⟩,rfl⟩,⟨rfl,rfl⟩,rfl⟩
    ·exact⟨⟨2,[],clk2+1,clk2+1+1⟩,by dsimp only;omega,by dsimp only;omega,⟨⟨rfl,rfl⟩,rfl⟩,⟨rfl,rfl⟩,rfl⟩
    ·exact⟨⟨3,[],clk2+1,clk2+1+1⟩,by dsimp only;omega,by dsimp only;omega,⟨⟨rfl,rfl⟩,rfl⟩,⟨rfl,rfl⟩,rfl⟩
    ·exact⟨⟨4,[],clk2+1,clk2+1+1⟩,by dsimp only;omega,by dsimp only;omega,⟨⟨rfl,rfl⟩,rfl⟩,⟨rfl,rfl⟩,rfl⟩
   ·have hLn:(L.length:Int)=4:=by rw[←h3];rfl
    simp only[Int.lt_irrefl,jl,ZX,zH,List.map_cons,List.map_nil,go_sem,zd,seval,reduceIte,reduceCtorEq]
    refine zG.lp (α:=LnS) (fun s=>[(6,.ref 0 ver 0 4),(12,.ref 6 s.ver 0 s.k),(61,.ref 4 (clk+1+1+1) 0 4),(62,vi 4),(63,vi s.k)])
     (fun s=>⟨[⟨ver,1,[[vi a],[vi b],[vi c],[vi d]],false,[vi 0]⟩,⟨clk,1,[[vi 0],[vi 0],[vi 0],[vi 0]],false,[vi 0]⟩,⟨clk+1,1,[[vi 0],[vi 1],[vi 0],[vi 1]],false,[vi 0]⟩,⟨clk+1+1,1,[[vi 0],[vi 1],[vi 2],[vi 1]],false,[vi 0]⟩,⟨clk+1+1+1,1,[[vi 0],[vi 1],[vi 2],[vi 3]],false,[vi 0]⟩,⟨clk+1+1+1+1,1,[[.ref 1 clk 0 4],[.ref 2 (clk+1) 0 4],[.ref 3 (clk+1+1) 0 4],[.ref 4 (clk+1+1+1) 0 4]],false,[zI]⟩,⟨s.ver,1,(([a,b,c,d]:List Int).take s.k).map fun n=>[vi n],false,[vi 0]⟩],s.clk⟩) (fun s=>s.k≤4) (fun s=>4 - s.k) ⟨0,[],clk+1+1+1+1+1,clk+1+1+1+1+1+1⟩
     (by dsimp only;omega) (St.nil 12 1 [vi 0] (by simp[zo]) (St.cut ?_ ?_ ?_)) fun s hs=> ?_
    ·simp[zq,zo,yb]
    ·simp[Heap.alloc]
    ·rfl
    obtain⟨k2,o2,v2,clk2⟩:=s
    simp only at hs
    rcases(show k2=0∨k2=1∨k2=2∨k2=3∨k2=4 by omega)with rfl|rfl|rfl|rfl|rfl
    all_goals simp only[List.take_zero,List.take_succ_cons,List.take_nil,List.map_cons,List.map_nil,go_sem,zd,seval,reduceIte,reduceCtorEq]
    ·exact⟨⟨1,[],clk2+1,clk2+1+1⟩,by dsimp only;omega,by dsimp only;omega,⟨⟨rfl,rfl⟩,rfl⟩,⟨rfl,rfl⟩,rfl⟩
    ·exact⟨⟨2,[],clk2+1,clk2+1+1⟩,by dsimp only;omega,by dsimp only;omega,⟨⟨rfl,rfl⟩,rfl⟩,⟨rfl,rfl⟩,rfl⟩
    ·exact⟨⟨3,[],clk2+1,clk2+1+1⟩,by dsimp only;omega,by dsimp only;omega,⟨⟨rfl,rfl⟩,rfl⟩,⟨rfl,rfl⟩,rfl⟩
    ·exact⟨⟨4,[],clk2+1,clk2+1+1⟩,by dsimp only;omega,by dsimp only;omega,⟨⟨rfl,rfl⟩,rfl⟩,⟨rfl,rfl⟩,rfl⟩
  ·have e1:(k:Int)<(L.length:Int):=by omega
   have e0:(0:Int)≤(k:Int):=by omega
   have hlt:k<L.length:=by omega
   rw[za0 L k hlt]at h4
   have hg:=y4 L k [vi 0,vs ⟨#[]⟩,vi 0,zI] hlt
   have hx:(L.getD k default).t.text.size≤1000000:=by
    have:=(hm (L.getD k default) (by rw[List.getD_eq_getElem?_getD,List.getElem?_eq_getElem hlt];exact List.getElem_mem _)).1
    exact this
   generalize L.getD k default=x at*
   have hot:out.take out.length=out:=List.take_length
   have hot2:out.take k=out:=by rw[←h3];exact hot
   cases ho:qb x.t with
   |none=>
    rw[ho]at h4
    simp only[Option.map_none]at h4
    subst h4
    simp only[e0,e1,hg,hx,ho,yP,ZX,Pa.enc,Tok.enc,yB,Tok.eta,go_sem,zd,seval,reduceIte,reduceCtorEq]
   |some n=>
    rw[ho]at h4
    simp only at h4
    simp only[e0,e1,hg,hx,ho,yP,hot,Pa.enc,Tok.enc,yB,Tok.eta,zH,go_sem,zd,seval,reduceIte,reduceCtorEq]
    refine⟨⟨by omega,by omega,by omega⟩,by omega,⟨k+1,out++ [n],clk+2,clk+3⟩,⟨by dsimp only;omega,by simp;omega,?_⟩,by dsimp only;omega,?_⟩
    ·rw[←h4];cases j7 (L.drop (k+1))<;>simp
    ·simp
 ·rw[if_neg hc]
  cases hb:ptB l with
  |false=>simp only[c28,zj,zf,h1,plV,hb,ZX,go_sem,zd,seval,reduceIte,reduceCtorEq]
  |true=>
   have hn:(pl l).length=0∨4<(pl l).length:=by
    rcases Nat.lt_or_ge 4 (pl l).length with hh|hh
    ·exact .inr hh
    ·exact .inl (Decidable.byContradiction fun hz=>hc ⟨hb,by omega,hh⟩)
   rcases hn with hz|hz
   ·have hz1:((pl l).length:Int)=0:=by omega
    simp only[c28,zj,zf,h1,plV,hb,hz1,ZX,go_sem,zd,seval,reduceIte,reduceCtorEq]
   ·have g1:¬(((pl l).length:Int)<1):=by omega
    have g2:((4:Int)<((pl l).length:Int)):=by omega
    have g3:¬(((pl l).length:Int)=0):=by omega
    simp only[c28,zj,zf,h1,plV,hb,g1,g2,g3,ZX,go_sem,zd,seval,reduceIte,reduceCtorEq]
def QP:Sum Tryz.prog:=⟨28,fun args=>args= [zj (zi (args.getD 0 .any))]∧okT (zi (args.getD 0 .any)),fun args=>ZY (qy (zi (args.getD 0 .any))),fun args h=>by
 have:=zdM _ (zgn (zi (args.getD 0 .any)) h.2);rwa [←h.1]at this,false⟩
theorem zpT:QP.f=28:=rfl
theorem zpS(args:List V):QP.D args=(args= [zj (zi (args.getD 0 .any))]∧okT (zi (args.getD 0 .any))):=rfl
theorem zeX:QP.flat=false:=rfl
theorem zpU(args:List V):QP.r args=ZY (qy (zi (args.getD 0 .any))):=rfl
attribute [go_sem] zpT zpS zeX zpU
end Go.Proofs.YtlaopdfpncckeaaGreatDoor
