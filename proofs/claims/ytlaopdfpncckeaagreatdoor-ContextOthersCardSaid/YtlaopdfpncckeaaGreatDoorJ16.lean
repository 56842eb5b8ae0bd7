/- Part of the proof of ContextOthers. No condition. -/
import Derived.Test.YtlaopdfpncckeaaGreatDoorCd
import Derived.Test.YtlaopdfpncckeaaGreatDoorE4
import Derived.Test.YtlaopdfpncckeaaGreatDoorCe
import Derived.Test.YtlaopdfpncckeaaGreatDoorGc
namespace Go.Proofs.YtlaopdfpncckeaaGreatDoor
open Go.Sx
set_option linter.unusedSimpArgs false
set_option linter.unusedVariables false
set_option maxHeartbeats 8000000
set_option maxRecDepth 100000
def KT(b:UInt8):UInt8:=if 65≤b.toNat∧b.toNat≤90 then UInt8.ofNat (b.toNat+32)else b
def zO(s:ByteArray):ByteArray:=⟨⟨s.data.toList.map KT⟩⟩
def u8c(b:UInt8):List V:=[.c (.int .u8 b.toNat)]
theorem zh3(l:List UInt8):(l.map u8c).map (fun e=>(Go.Sx.byteOf e).getD 0)=l:=by
 rw[List.map_map]
 conv=>rhs;rw[←List.map_id l]
 apply List.map_congr_left
 intro b _
 simp[u8c,Go.Sx.byteOf]
theorem zp5(l:List UInt8):(l.map u8c).all (fun e=>(Go.Sx.byteOf e).isSome)=true:=by
 simp[List.all_eq_true,u8c,Go.Sx.byteOf]
theorem ztJ(l:List UInt8)(k:Nat)(h:k<l.length):(l.map u8c).getD k [.c (.int .u8 0)]=u8c (l.getD k 0):=by
 simp[List.getD_eq_getElem?_getD,h]
def k9(s:ByteArray)(k:Nat):List UInt8:=(s.data.toList.take k).map KT++s.data.toList.drop k
theorem kf(s:ByteArray)(k:Nat):(k9 s k).length=s.size:=by
 simp only[k9,List.length_append,List.length_map,List.length_take,List.length_drop]
 have:s.data.toList.length=s.size:=Jq s
 omega
theorem zaG(s:ByteArray)(k:Nat)(h:k<s.size):(k9 s k).getD k 0=s.data.toList.getD k 0:=by
 have:s.data.toList.length=s.size:=Jq s
 simp only[k9,List.getD_eq_getElem?_getD]
 rw[List.getElem?_append_right (by simp;omega)]
 simp only[List.length_map,List.length_take,List.getElem?_drop]
 congr 2;omega
theorem zfQ(s:ByteArray)(k:Nat)(h:k<s.size):k9 s (k+1)=(k9 s k).set k (KT (s.data.toList.getD k 0)):=by
 have hl:s.data.toList.length=s.size:=Jq s
 apply List.ext_getElem?
 intro i
 by_cases hi:i=k
 ·subst hi
  rw[List.getElem?_set_self (by rw[kf];exact h)]
  simp only[k9]
  rw[List.getElem?_append_left (by simp;omega)]
  have h':i<s.data.size:=h
  simp only[List.getElem?_map,List.getElem?_take,List.getD_eq_getElem?_getD,if_pos (Nat.lt_succ_self i),List.getElem?_eq_getElem (show i<s.data.toList.length by omega),Option.map_some,Option.getD_some]
 ·rw[List.getElem?_set_ne (Ne.symm hi)]
  simp only[k9]
  rcases Nat.lt_or_ge i k with hlt|hge
  ·rw[List.getElem?_append_left (by simp;omega),List.getElem?_append_left (by simp;omega)]
   simp only[List.getElem?_map,List.getElem?_take,if_pos hlt,if_pos (show i<k+1 by omega)]
  ·rw[List.getElem?_append_right (by simp;omega),List.getElem?_append_right (by simp;omega)]
   simp only[List.length_map,List.length_take,List.getElem?_drop]
   congr 1;omega
theorem zfR(s:ByteArray):k9 s 0=s.data.toList:=by simp[k9]
theorem zi2(s:ByteArray):(⟨⟨k9 s s.size⟩⟩:ByteArray)=zO s:=by
 have hl:s.data.toList.length=s.size:=Jq s
 unfold k9 zO
 rw[List.take_of_length_le (by omega),List.drop_eq_nil_of_le (by omega),List.append_nil]
theorem zuG(n:Int)(h0:0≤n)(h1:n<256):IntKind.u8.wrap n=n:=by
 simp[IntKind.wrap,IntKind.bits,IntKind.signed];omega
theorem zw8(l:List UInt8):(l.map fun b=>[V.c (.int .u8 b.toNat)])=l.map u8c:=rfl
theorem zmT(s:ByteArray)(hs:s.size≤1000000):ze Tryz.prog 66 [vs s] (vs (zO s)):=by
 refine ze.of (Orc.nil _) zvM (by simp[c66]) fun w0 own0=> ?_
 have hl:s.data.toList.length=s.size:=Jq s
 simp only[c66,hl,zw8,go_sem,zd,seval,reduceIte,reduceCtorEq]
 refine⟨by omega,?_⟩
 refine zD.lp (α:=Nat) (fun k=>[(3,.ref 0 0 0 s.size),(8,.ref 0 0 0 s.size),(9,vi s.size),(10,vi k)]) (fun k=>⟨[⟨0,1,(k9 s k).map u8c,false,[.c (.int .u8 0)]⟩],1⟩) (fun k=>k≤s.size) (fun k=>s.size - k) 0 (Nat.zero_le _) (St.mk (by simp[zt,zo,zu,zfR])) fun k hk=> ?_
 by_cases he:k=s.size
 ·subst he
  have ht:((k9 s s.size).map u8c).take s.size=(k9 s s.size).map u8c:=List.take_of_length_le (by simp[kf])
  simp only[Int.lt_irrefl,ht,zh3,zp5,zi2,kf,Nat.le_refl,go_sem,zd,seval,reduceIte,reduceCtorEq]
 ·have e1:(k:Int)<(s.size:Int):=by omega
  have e0:(0:Int)≤(k:Int):=by omega
  have hlt:k<s.size:=by omega
  have hg:=ztJ (k9 s k) k (by rw[kf];exact hlt)
  rw[zaG s k hlt]at hg
  have hsu:=zfQ s k hlt
  generalize hb:s.data.toList.getD k 0=b at*
  have hb256:b.toNat<256:=b.toNat_lt
  simp only[e0,e1,hg,u8c,kf,go_sem,zd,seval,reduceIte,reduceCtorEq]
  have hlow:(65≤(b.toNat:Int)∧(b.toNat:Int)≤90)↔(65≤b.toNat∧b.toNat≤90):=by omega
  refine⟨hlt,fun hc=>⟨hlt,by omega,k+1,by omega,by omega,by omega,?_⟩,fun hc=>⟨by omega,k+1,by omega,by omega,by omega,?_⟩⟩
  ·rw[hsu,List.map_set,KT,if_pos (hlow.1 hc)]
   have h1:IntKind.u8.wrap ((b.toNat:Int)+32)=(b.toNat:Int)+32:=zuG _ (by omega) (by omega)
   have h2:(UInt8.ofNat (b.toNat+32)).toNat=b.toNat+32:=by simp;omega
   have h3:u8c (UInt8.ofNat (b.toNat+32))= [V.c (Value.int IntKind.u8 (IntKind.u8.wrap ((b.toNat:Int)+32)))]:=by
    unfold u8c;rw[h1,h2,Int.natCast_add];rfl
   rw[h3]
  ·rw[hsu,KT,if_neg (by omega),←hb,←zaG s k hlt]
   congr 1
   apply List.ext_getElem?
   intro i
   by_cases hi:i=k
   ·subst hi
    rw[List.getElem?_set_self (by rw[kf];exact hlt),List.getD_eq_getElem?_getD,List.getElem?_eq_getElem (by rw[kf];exact hlt)];rfl
   ·rw[List.getElem?_set_ne (Ne.symm hi)]
def kp:Sum Tryz.prog:=⟨66,fun args=>args= [vs ((args.getD 0 .any).str)]∧(((args.getD 0 .any).str)).size≤1000000,fun args=>vs (zO ((args.getD 0 .any).str)),fun args h=>by
 have:=zmT ((args.getD 0 .any).str) h.2;rwa [←h.1]at this,true⟩
theorem zoP:kp.f=66:=rfl
theorem zoO(args:List V):kp.D args=(args= [vs ((args.getD 0 .any).str)]∧(((args.getD 0 .any).str)).size≤1000000):=rfl
theorem zej:kp.flat=true:=rfl
theorem zoQ(args:List V):kp.r args=vs (zO ((args.getD 0 .any).str)):=rfl
attribute [go_sem] zoP zoO zej zoQ
structure LoS where
 k:Nat
 ver:Nat
 clk:Nat
theorem zfS(s:ByteArray)(k:Nat)(h:k<s.size):(s.data.toList.take (k+1)).map KT=(s.data.toList.take k).map KT++ [KT (s.data.toList.getD k 0)]:=by
 have hl:s.data.toList.length=s.size:=Jq s
 rw[List.take_add_one,List.map_append,List.getD_eq_getElem?_getD,List.getElem?_eq_getElem (by omega)];rfl
theorem zi4(s:ByteArray)(hs:s.size≤1000000):ze Tryz.prog 32 [vs s] (vs (zO s)):=by
 refine ze.of (Orc.nil _) zvs (by simp[c32]) fun w0 own0=> ?_
 have hl:s.data.toList.length=s.size:=Jq s
 simp only[c32,go_sem,zd,seval,reduceIte,reduceCtorEq]
 refine zD.lp (α:=LoS) (fun a=>[(0,vs s),(3,.ref 0 a.ver 0 a.k),(4,vi a.k)]) (fun a=>⟨[⟨a.ver,1,((s.data.toList.take a.k).map KT).map u8c,false,[.c (.int .u8 0)]⟩],a.clk⟩) (fun a=>a.k≤s.size) (fun a=>s.size - a.k) ⟨0,0,1⟩ (Nat.zero_le _)
  (St.nil 3 1 [.c (.int .u8 0)] (by simp[zo]) (St.mk (by simp[zt,zo,zu]))) fun a hk=> ?_
 obtain⟨k,ver,clk⟩:=a
 simp only at hk
 have htl:((s.data.toList.take k).map KT).length=k:=by rw[List.length_map,List.length_take];omega
 have htk:∀l:List (List V),l.length=k→l.take k=l:=fun l hh=>List.take_of_length_le (by omega)
 by_cases he:k=s.size
 ·subst he
  have ht:=htk (((s.data.toList.take s.size).map KT).map u8c) (by simp)
  simp only[Int.lt_irrefl,ht,zh3,zp5,htl,Nat.le_refl,go_sem,zd,seval,reduceIte,reduceCtorEq]
  rw[List.take_of_length_le (by omega)];rfl
 ·have e1:(k:Int)<(s.size:Int):=by omega
  have e0:(0:Int)≤(k:Int):=by omega
  have hlt:k<s.size:=by omega
  have hsu:=zfS s k hlt
  simp only[e0,e1,htl,go_sem,zd,seval,reduceIte,reduceCtorEq]
  generalize hb:s.data.toList.getD k 0=b at*
  have hb256:b.toNat<256:=b.toNat_lt
  have hm:(s.data.toList.take k).take k=s.data.toList.take k:=List.take_of_length_le (by rw[List.length_take];omega)
  refine⟨fun hc=>⟨⟨by omega,by omega,by omega⟩,by omega,⟨k+1,clk+1,clk+2⟩,by dsimp only;omega,by dsimp only;omega,⟨⟨rfl,rfl⟩,by dsimp only;omega⟩,⟨rfl,?_⟩,rfl⟩,fun hc=>⟨⟨by omega,by omega,by omega⟩,by omega,⟨k+1,clk+1,clk+2⟩,by dsimp only;omega,by dsimp only;omega,⟨⟨rfl,rfl⟩,by dsimp only;omega⟩,⟨rfl,?_⟩,rfl⟩⟩
  ·dsimp only
   rw[hsu,hm,List.map_append,KT,if_pos (by omega)]
   have h1:IntKind.u8.wrap ((b.toNat:Int)+32)=(b.toNat:Int)+32:=zuG _ (by omega) (by omega)
   have h2:(UInt8.ofNat (b.toNat+32)).toNat=b.toNat+32:=by simp;omega
   simp only[u8c,h1,h2,Int.natCast_add,List.map_cons,List.map_nil]
   rfl
  ·dsimp only
   rw[hsu,hm,List.map_append,KT,if_neg (by omega)]
   rfl
def Kp:Sum Tryz.prog:=⟨32,fun args=>args= [vs ((args.getD 0 .any).str)]∧(((args.getD 0 .any).str)).size≤1000000,fun args=>vs (zO ((args.getD 0 .any).str)),fun args h=>by
 have:=zi4 ((args.getD 0 .any).str) h.2;rwa [←h.1]at this,true⟩
theorem zkk:Kp.f=32:=rfl
theorem zkj(args:List V):Kp.D args=(args= [vs ((args.getD 0 .any).str)]∧(((args.getD 0 .any).str)).size≤1000000):=rfl
theorem zb3:Kp.flat=true:=rfl
theorem zkl(args:List V):Kp.r args=vs (zO ((args.getD 0 .any).str)):=rfl
attribute [go_sem] zkk zkj zb3 zkl
def zC(t:Tok):ByteArray:=
 if t.kind=3∨t.kind=12∧t.text=⟨#[40]⟩then⟨#[41]⟩else if t.kind=12∧t.text=⟨#[91]⟩then⟨#[93]⟩else if t.kind=12∧t.text=⟨#[123]⟩then⟨#[125]⟩else⟨#[]⟩
def skip(ends:List Int)(k:Int):Int:=if k<0∨(ends.length:Int)≤k∨ends.getD k.toNat 0<k then k+1 else min (ends.getD k.toNat 0+1) ends.length
theorem ztk(l:List Int)(k:Int)(hk: -9223372036854775808≤k)(hk':k<9223372036854775807)(hl:l.getD k.toNat 0<9223372036854775807):ze Tryz.prog 97 [zJ l,vi k] (vi (skip l k)):=by
 refine ze.of (Orc.nil _) zv4 (by simp[c97]) fun w0 own0=> ?_
 simp only[c97,zJ,ya,XV,ZB,Option.some.injEq,go_sem,zd,seval,reduceIte,reduceCtorEq]
 unfold skip
 grind
theorem znd(t:Tok):ze Tryz.prog 118 [.agg t.enc] (vs (zC t)):=by
 refine ze.of (Orc.nil _) zrA (by simp[zuY]) fun w0 own0=> ?_
 simp only[zuY,Tok.enc,XV,ZB,Option.some.injEq,go_sem,zd,seval,reduceIte,reduceCtorEq]
 unfold zC
 grind
theorem zlV(t:Tok):ze Tryz.prog 87 [.agg t.enc] (vs (zC t)):=by
 refine ze.of (Orc.nil _) zv0 (by simp[c87]) fun w0 own0=> ?_
 simp only[c87,Tok.enc,XV,ZB,Option.some.injEq,go_sem,zd,seval,reduceIte,reduceCtorEq]
 unfold zC
 grind
theorem zga(l:List Int)(k:Int)(hk: -9223372036854775808≤k)(hk':k<9223372036854775807)(hl:l.getD k.toNat 0<9223372036854775807):ze Tryz.prog 94 [zJ l,vi k] (vi (skip l k)):=by
 refine ze.of (Orc.nil _) zv2 (by simp[c94]) fun w0 own0=> ?_
 simp only[c94,zJ,ya,XV,ZB,Option.some.injEq,go_sem,zd,seval,reduceIte,reduceCtorEq]
 unfold skip
 grind
theorem zkP(n a b:Int):ze Tryz.prog 167 [vi n,vi a,vi b] (vb (decide (0≤a∧a≤b∧b≤n))):=by
 refine ze.of (Orc.nil _) zrY (by simp[zvh]) fun w0 own0=> ?_
 simp only[zvh,zJ,ya,XV,ZB,Option.some.injEq,go_sem,zd,seval,reduceIte,reduceCtorEq]
 grind
theorem ziQ(t:Tok)(k:Int):ze Tryz.prog 168 [.agg t.enc,.pp [vi k]] (vb (decide (t.kind=k))):=by
 refine ze.of (Orc.nil _) zrZ (by simp[zvi]) fun w0 own0=> ?_
 simp only[zvi,Tok.enc,XV,ZB,Option.some.injEq,go_sem,zd,seval,reduceIte,reduceCtorEq]
def few(l:List Tok):Bool:=decide (l.length≤100∧∀i,i<l.length→(l.getD i .zero).text.size≤100)
theorem zwl(l:List Tok):ze Tryz.prog 7 [zk l] (vb (few l)):=by
 refine ze.of (Orc.nil _) zxx (by simp[c7]) fun w0 own0=> ?_
 simp only[c7,zk,go_sem,zd,seval,reduceIte,reduceCtorEq]
 refine zD.lp (α:=Nat) (fun k=>[(0,.slc 3 (l.map Tok.enc)),(3,vi k)]) (fun _=>⟨[],0⟩) (fun k=>k≤l.length∧k≤101∧∀i,i<k→(l.getD i .zero).text.size≤100) (fun k=>l.length - k) 0 (by simp) (St.mk (by simp[zt,zo,zu])) fun k hk=> ?_
 simp only[Tok.enc,go_sem,zd,seval,reduceIte,reduceCtorEq]
 refine⟨fun h=>⟨by grind,fun h2=> ?_,fun h2=>⟨by grind,k+1,by grind⟩⟩,fun h=> ?_⟩
 ·have h5:¬ ∀i,i<l.length→(l.getD i .zero).text.size≤100:=fun hh=>by have:=hh k (by grind);omega
  simp only[few,h5,and_false,decide_false]
 ·unfold few
  grind
def jb(l:List Tok)(st:List Int)(k:Nat):List Int:=
 if ¬zC (l.getD k .zero)=⟨#[]⟩then st++ [(k:Int)]
 else if(l.getD k .zero).kind=13∧0<st.length∧zC (l.getD (st.getD (st.length - 1) 0).toNat .zero)=(l.getD k .zero).text then st.take (st.length - 1)else st
def opn(l:List Tok):Nat→List Int
 |0=>[]
 |k+1=>jb l (opn l k) k
theorem qh(l:List Tok):∀k,∀x∈opn l k,0≤x∧x<k
 |0,x,hx=>by simp[opn]at hx
 |k+1,x,hx=>by
  have ih:=qh l k x
  simp only[opn,jb]at hx
  split at hx
  ·simp only[List.mem_append,List.mem_singleton]at hx;grind
  ·split at hx
   ·have:=ih (List.mem_of_mem_take hx);omega
   ·have:=ih hx;omega
theorem zbB(l:List Tok):∀k,(opn l k).length≤k
 |0=>Nat.le_refl _
 |k+1=>by
  have ih:=zbB l k
  simp only[opn,jb]
  split
  ·simp;omega
  ·split
   ·simp;omega
   ·omega
def jv:Sum Tryz.prog:=⟨87,fun args=>args= [.agg (qP (args.getD 0 .any)).enc],fun args=>vs (zC (qP (args.getD 0 .any))),fun args h=>by
 have:=zlV (qP (args.getD 0 .any));rwa [←h]at this,true⟩
structure OpS where
 k:Nat
 es:List Int
 ver:Nat
 clk:Nat
theorem zsZ(l:List Tok)(n:Nat)(hn:n≤l.length)(hl:l.length≤1000000):ze Tryz.prog 86 [zk l,vi n] (zJ (opn l n)):=by
 refine ze.of (Orc.cons jv (Orc.nil _)) zvZ (by simp[c86]) fun w0 own0=> ?_
 simp only[c86,zJ,zk,go_sem,zd,seval,reduceIte,reduceCtorEq]
 refine zD.lp (α:=OpS) (fun a=>[(0,.slc 3 (l.map Tok.enc)),(1,vi n),(5,.ref 0 a.ver 0 (opn l a.k).length),(6,vi a.k)])
  (fun a=>⟨[⟨a.ver,1,a.es.map fun n=>[vi n],false,[vi 0]⟩],a.clk⟩) (fun a=>a.k≤n∧a.es.take (opn l a.k).length=opn l a.k∧(opn l a.k).length≤a.es.length) (fun a=>n - a.k) ⟨0,[],0,1⟩
  (by simp[opn]) (St.nil 5 1 [vi 0] (by simp[zo]) (St.mk (by simp[zt,zo,zu,opn]))) fun a ha=> ?_
 obtain⟨k,es,ver,clk⟩:=a
 simp only[Tok.enc,jv,go_sem,zd,seval,reduceIte,reduceCtorEq]
 simp only at ha
 obtain⟨h1,h2,h3⟩:=ha
 have hm:=qh l k
 have hlen:=zbB l k
 have hnext:opn l (k+1)=jb l (opn l k) k:=rfl
 have hN:((((opn l k).length:Nat):Int) - 1).toNat=(opn l k).length - 1:=by omega
 rw[hN]
 unfold jb at hnext
 generalize hst:opn l k=st at*
 have hget:0<st.length→es.getD (st.length - 1) 0=st.getD (st.length - 1) 0:=fun h=>by
  have e1:st.getD (st.length - 1) 0=(es.take st.length).getD (st.length - 1) 0:=by rw[h2]
  rw[e1,List.getD_eq_getElem?_getD,List.getD_eq_getElem?_getD,List.getElem?_take,if_pos (by omega)]
 have hlast:0<st.length→0≤es.getD (st.length - 1) 0∧es.getD (st.length - 1) 0<k:=fun h=>by
  rw[hget h,List.getD_eq_getElem?_getD,List.getElem?_eq_getElem (by omega)]
  exact hm _ (List.getElem_mem _)
 refine⟨fun hk=>⟨by omega,fun hc=>⟨by omega,by omega,⟨k+1,es.take st.length++ [(k:Int)],clk+1,clk+1+1⟩,?_⟩,fun hc=>⟨by omega,by omega,by omega,by omega,by grind,by omega,fun hp=>⟨by omega,by omega,by omega,⟨k+1,es,ver,clk⟩,?_⟩,fun hp=>⟨by omega,⟨k+1,es,ver,clk⟩,?_⟩⟩⟩,fun hk=> ?_⟩
 ·have e:opn l (k+1)=st++ [(k:Int)]:=by rw[hnext,if_pos hc]
  have e2:List.take (st.length+1) (st++ [(k:Int)])=st++ [(k:Int)]:=List.take_of_length_le (by simp)
  simp only[e,h2]
  simp[e2]
  omega
 ·have e:opn l (k+1)=st.take (st.length - 1):=by
   rw[hnext,if_neg (by simpa using hc),if_pos]
   have h0:0<st.length:=by have:=hp.1.2;omega
   exact⟨hp.1.1,h0,by rw[←hget h0];exact hp.2⟩
  simp only[e]
  have:List.take (st.length - 1) es=List.take (st.length - 1) st:=by
   have e3:(es.take st.length).take (st.length - 1)=es.take (st.length - 1):=by rw[List.take_take];congr 1;omega
   rw[←e3,h2]
  simp[this]
  omega
 ·have e:opn l (k+1)=st:=by
   rw[hnext,if_neg (by simpa using hc),if_neg]
   rintro⟨q1,q2,q3⟩
   rcases hp with(hp|hp)|hp
   ·exact hp q1
   ·omega
   ·rw[hget q2]at hp;exact hp q3
  simp only[e]
  simp[h2,h3]
  omega
 ·have:n=k:=by omega
  subst this
  rw[if_pos h3,h2,hst]
def jG(l:List Tok)(k j:Nat):Prop:=(opn l (j+1)).length<(opn l (k+1)).length∨¬(opn l (j+1)).getD ((opn l (k+1)).length - 1) 0=k
instance (l:List Tok) (k j:Nat):Decidable (jG l k j):=by unfold jG;infer_instance
def fe(l:List Tok)(k:Nat):Nat→Nat→Int
 |0,_=>l.length
 |f+1,j=>if jG l k j then j else fe l k f (j+1)
def ZZ(l:List Tok)(k:Nat):Int:=if zC (l.getD k .zero)=⟨#[]⟩then -1 else fe l k (l.length - (k+1)) (k+1)
def kR(l:List Tok)(m:Nat):List Int:=(List.range m).map (ZZ l)
theorem Js(l:List Tok)(m:Nat):kR l (m+1)=kR l m++ [ZZ l m]:=by simp[kR,List.range_succ]
theorem yj(l:List Tok)(m:Nat):(kR l m).length=m:=by simp[kR]
def yJ(l:List Tok):Bool:=decide (∃i,i<l.length∧64<(opn l (i+1)).length)
def Xl(l:List Tok):V:=bif yJ l then .tup [zB,vi 3]else .tup [zJ (kR l l.length),vi 0]
def Kr:Sum Tryz.prog:=⟨86,fun args=>args= [zk (zj (args.getD 0 .any)),vi (args.getD 1 .any).int]∧0≤(args.getD 1 .any).int∧(args.getD 1 .any).int≤(zj (args.getD 0 .any)).length∧(zj (args.getD 0 .any)).length≤1000000,
 fun args=>zJ (opn (zj (args.getD 0 .any)) (args.getD 1 .any).int.toNat),fun args ⟨h,h0,h1,h2⟩=>by
  have:=zsZ (zj (args.getD 0 .any)) (args.getD 1 .any).int.toNat (by omega) h2
  rw[Int.toNat_of_nonneg h0,←h]at this;exact this,false⟩
theorem zaY:Kr.f=86:=rfl
theorem zaX(args:List V):Kr.D args=(args= [zk (zj (args.getD 0 .any)),vi (args.getD 1 .any).int]∧0≤(args.getD 1 .any).int∧(args.getD 1 .any).int≤(zj (args.getD 0 .any)).length∧(zj (args.getD 0 .any)).length≤1000000):=rfl
theorem Kt:Kr.flat=false:=rfl
theorem zaZ(args:List V):Kr.r args=zJ (opn (zj (args.getD 0 .any)) (args.getD 1 .any).int.toNat):=rfl
theorem Wg:jv.f=87:=rfl
theorem Wf(args:List V):jv.D args=(args= [.agg (qP (args.getD 0 .any)).enc]):=rfl
theorem Qc:jv.flat=true:=rfl
theorem Wh(args:List V):jv.r args=vs (zC (qP (args.getD 0 .any))):=rfl
theorem JX(l:List Tok)(k j:Nat)(h:j<l.length):fe l k (l.length - j) j=if jG l k j then(j:Int)else fe l k (l.length - (j+1)) (j+1):=by
 have:l.length - j=(l.length - (j+1))+1:=by omega
 rw[this]
 rfl
theorem QA(k:Nat):((k:Int)+1).toNat=k+1:=by omega
structure KVC where
 k:Nat
 ver:Nat
 clk:Nat
theorem zf9(l:List Tok)(hl:l.length≤1000000):ze Tryz.prog 51 [zk l] (Xl l):=by
 refine ze.of (Orc.cons Kr (Orc.cons jv (Orc.nil _))) zvB (by simp[c51]) fun w0 own0=> ?_
 simp only[c51,zJ,zk,go_sem,zd,seval,reduceIte,reduceCtorEq]
 refine zD.lp (α:=KVC) (fun a=>[(0,.slc 3 (l.map Tok.enc)),(4,.ref 0 a.ver 0 a.k),(5,vi a.k)])
  (fun a=>⟨[⟨a.ver,1,(kR l a.k).map fun n=>[vi n],false,[vi 0]⟩],a.clk⟩) (fun a=>a.k≤l.length∧∀i,i<a.k→(opn l (i+1)).length≤64) (fun a=>l.length - a.k) ⟨0,0,1⟩
  (by simp) (St.nil 4 1 [vi 0] (by simp[zo]) (St.mk (by simp[zt,zo,zu]))) fun a ha=> ?_
 obtain⟨k,ver,clk⟩:=a
 simp only[Tok.enc,Wg,Wf,Qc,Wh,zaY,zaX,Kt,zaZ,zk,zJ,QA,go_sem,zd,seval,reduceIte,reduceCtorEq]
 simp only at ha
 refine⟨fun hk=>⟨by omega,by omega,fun h64=> ?_,fun h64=>⟨by omega,fun hc=>⟨by omega,?_⟩,fun hc=> ?_⟩⟩,fun hk=> ?_⟩
 ·have:yJ l=true:=by simp only[yJ,decide_eq_true_eq];exact⟨k,by omega,by omega⟩
  simp only[Xl,this];rfl
 ·refine zD.lp (α:=Nat) (fun j=>[(0,.slc 3 (l.map Tok.enc)),(4,.ref 0 ver 0 k),(5,vi k),(6,.slc 1 ((opn l (k+1)).map fun n=>[vi n])),(7,vi (fe l k (l.length - (j+1)) (j+1))),(8,vi j)])
   (fun _=>⟨[⟨ver,1,(kR l k).map fun n=>[vi n],false,[vi 0]⟩],clk⟩) (fun j=>k≤j∧j<l.length) (fun j=>j) (l.length - 1) (by omega) (St.mk ?_) fun j hj=> ?_
  ·simp only[go_sem,zd,seval,reduceIte,reduceCtorEq]
   have:l.length - (l.length - 1+1)=0:=by omega
   rw[this]
   exact⟨rfl,by omega⟩
  ·simp only[Tok.enc,Wg,Wf,Qc,Wh,zaY,zaX,Kt,zaZ,zk,zJ,QA,go_sem,zd,seval,reduceIte,reduceCtorEq]
   have hpos:0<(opn l (k+1)).length:=by
    have:opn l (k+1)=opn l k++ [(k:Int)]:=by show jb l (opn l k) k=_;unfold jb;rw[if_pos hc]
    rw[this];simp
   have hN:((((opn l (k+1)).length:Nat):Int) - 1).toNat=(opn l (k+1)).length - 1:=by omega
   rw[hN]
   refine⟨fun hkj=>⟨by omega,by omega,by omega,by omega,by omega,fun hC=>⟨by omega,j - 1,by omega,by omega,?_,by omega⟩,fun hC=>⟨by omega,j - 1,by omega,by omega,?_,by omega⟩⟩,fun hkj=>⟨?_,by omega,⟨k+1,clk+1,clk+1+1⟩,⟨by dsimp only;omega,fun i hi=> ?_⟩,by dsimp only;omega,⟨⟨rfl,rfl⟩,by dsimp only;omega⟩,⟨rfl,?_⟩,rfl⟩⟩
   ·have e:j - 1+1=j:=by omega
    rw[e,JX l k j hj.2,if_pos]
    unfold jG
    rcases hC with hC|hC
    ·left;omega
    ·right;exact hC
   ·have e:j - 1+1=j:=by omega
    rw[e,JX l k j hj.2,if_neg]
    unfold jG
    rintro(h|h)
    ·omega
    ·exact h hC.2
   ·have:=yj l k;omega
   ·by_cases h:i<k
    ·exact ha.2 i h
    ·have:i=k:=by have:i<k+1:=hi;omega
     subst this;omega
   ·have e:j=k:=by omega
    subst e
    rw[List.take_of_length_le (by rw[yj];exact Nat.le_refl _)]
    simp only[Js,ZZ,if_neg hc,List.map_append,List.map_cons,List.map_nil]
 ·refine⟨?_,by omega,⟨k+1,clk+1,clk+1+1⟩,⟨by dsimp only;omega,fun i hi=> ?_⟩,by dsimp only;omega,⟨⟨rfl,rfl⟩,by dsimp only;omega⟩,⟨rfl,?_⟩,rfl⟩
  ·have:=yj l k;omega
  ·by_cases h:i<k
   ·exact ha.2 i h
   ·have:i=k:=by have:i<k+1:=hi;omega
    subst this;omega
  ·rw[List.take_of_length_le (by rw[yj];exact Nat.le_refl _)]
   simp only[Js,ZZ,if_pos hc,List.map_append,List.map_cons,List.map_nil]
 ·have e:k=l.length:=by omega
  subst e
  have hd:yJ l=false:=by
   simp only[yJ,decide_eq_false_iff_not]
   rintro⟨i,h1,h2⟩
   have:=ha.2 i h1
   omega
  rw[yj,if_pos (Nat.le_refl _),List.take_of_length_le (by rw[yj];exact Nat.le_refl _)]
  simp only[Xl,hd,Option.map_some]
  rfl
def Q5(l:List Tok)(st:List Int)(k:Nat):Prop:=zC (l.getD k .zero)=⟨#[]⟩∧(l.getD k .zero).kind=13∧0<st.length∧zC (l.getD (st.getD (st.length - 1) 0).toNat .zero)=(l.getD k .zero).text
instance (l:List Tok) (st:List Int) (k:Nat):Decidable (Q5 l st k):=by unfold Q5;infer_instance
def Zg(l:List Tok):Nat→List Int
 |0=>List.replicate l.length 0
 |m+1=>if Q5 l (opn l m) m then((Zg l m).set m (-1)).set ((opn l m).getD ((opn l m).length - 1) 0).toNat m else(Zg l m).set m (-1)
def JO(l:List Tok)(i:Nat):List Int:=((opn l l.length).take i).foldl (fun o x=>o.set x.toNat l.length) (Zg l l.length)
def zdk(l:List Tok):V:=bif yJ l then .tup [zB,vi 3]else .tup [zJ (JO l (opn l l.length).length),vi 0]
def YB:Sum Tryz.prog:=⟨118,fun args=>args= [.agg (qP (args.getD 0 .any)).enc],fun args=>vs (zC (qP (args.getD 0 .any))),fun args h=>by
 have:=znd (qP (args.getD 0 .any));rwa [←h]at this,true⟩
theorem zgO:YB.f=118:=rfl
theorem zgN(args:List V):YB.D args=(args= [.agg (qP (args.getD 0 .any)).enc]):=rfl
theorem zad:YB.flat=true:=rfl
theorem zgP(args:List V):YB.r args=vs (zC (qP (args.getD 0 .any))):=rfl
structure EnS where
 m:Nat
 es:List Int
 vo:Nat
 ve:Nat
 clk:Nat
theorem Ym(l:List Tok):∀m,(Zg l m).length=l.length
 |0=>by simp[Zg]
 |m+1=>by
  have:=Ym l m
  simp only[Zg]
  split<;>simp[this]
theorem zbb{t:Tok}(h:¬zC t=⟨#[]⟩):¬t.kind=13:=by
 intro hk
 apply h
 simp[zC,hk]
theorem Ys(l:List Int)(i:Nat)(v:Int):(l.map fun n=>[vi n]).set i [V.c (Value.int IntKind.i64 v)]=(l.set i v).map fun n=>[vi n]:=by
 rw[List.map_set]
theorem zdn(l:List Tok)(hl:l.length≤1000000):ze Tryz.prog 96 [zk l] (zdk l):=by
 refine ze.of (Orc.cons YB (Orc.nil _)) zv3 (by simp[c96]) fun w0 own0=> ?_
 simp only[c96,zJ,zk,go_sem,zd,seval,reduceIte,reduceCtorEq]
 refine zD.lab (α:=EnS) 0 (fun a=>[(0,.slc 3 (l.map Tok.enc)),(4,.ref 0 a.vo 0 l.length),(5,.ref 1 a.ve 0 (opn l a.m).length),(6,vi a.m)])
  (fun a=>⟨[⟨a.vo,1,(Zg l a.m).map fun n=>[vi n],false,[vi 0]⟩,⟨a.ve,1,a.es.map fun n=>[vi n],false,[vi 0]⟩],a.clk⟩)
  (fun a=>a.m≤l.length∧a.es.take (opn l a.m).length=opn l a.m∧(opn l a.m).length≤a.es.length∧∀i,i<a.m→(opn l (i+1)).length≤64) (fun a=>l.length - a.m) rfl ?_ fun a ha=> ?_
 ·simp only[go_sem,zd,seval,reduceIte,reduceCtorEq]
  refine⟨⟨by omega,by omega,by first|omega|(simp;omega)⟩,⟨0,[],0,1,2⟩,by simp[opn],St.nil 5 1 [vi 0] (by simp[zo]) (St.cut ?_ ?_ ?_)⟩
  ·simp[zt,zo,zu,opn]
  ·simp[Heap.alloc,Zg]
  ·simp[Heap.alloc]
 ·obtain⟨m,es,vo,ve,clk⟩:=a
  simp only[Tok.enc,zgO,zgN,zad,zgP,zk,zJ,QA,go_sem,zd,seval,reduceIte,reduceCtorEq]
  simp only at ha
  obtain⟨h1,h2,h3,h4⟩:=ha
  have hol:=Ym l m
  have hm:=qh l m
  have hlen:=zbB l m
  have hnext:opn l (m+1)=jb l (opn l m) m:=rfl
  have hN:((((opn l m).length:Nat):Int) - 1).toNat=(opn l m).length - 1:=by omega
  unfold jb at hnext
  refine⟨fun h=> ?_,fun h=>⟨by omega,by omega,by omega,fun hc=> ?_,fun hc=> ?_⟩⟩
  ·have e:m=l.length:=by omega
   subst e
   refine zD.lp (α:=Nat) (fun i=>[(0,.slc 3 (l.map Tok.enc)),(4,.ref 0 vo 0 l.length),(18,.ref 1 ve 0 (opn l l.length).length),(19,vi (opn l l.length).length),(20,vi i)])
    (fun i=>⟨[⟨vo,1,(JO l i).map fun n=>[vi n],false,[vi 0]⟩,⟨ve,1,es.map fun n=>[vi n],false,[vi 0]⟩],clk⟩)
    (fun i=>i≤(opn l l.length).length) (fun i=>(opn l l.length).length - i) 0 (by simp) (St.cut ?_ ?_ ?_) fun i hi=> ?_
   ·simp only[go_sem,zd,seval,reduceIte,reduceCtorEq]
   ·simp[JO]
   ·rfl
   ·simp only[go_sem,zd,seval,reduceIte,reduceCtorEq]
    have hfl:∀i,(JO l i).length=l.length:=by
     intro i
     have key:∀(t:List Int)(o:List Int),(t.foldl (fun o x=>o.set x.toNat l.length) o).length=o.length:=by
      intro t
      induction t with
      |nil=>intro o;rfl
      |cons x t ih=>intro o;simp only[List.foldl_cons];rw[ih];simp
     simp only[JO]
     rw[key,hol]
    have hget:∀i,i<(opn l l.length).length→es.getD i 0=(opn l l.length).getD i 0:=fun i h=>by
     generalize opn l l.length=st at*
     have e1:st.getD i 0=(es.take st.length).getD i 0:=by rw[h2]
     rw[e1,List.getD_eq_getElem?_getD,List.getD_eq_getElem?_getD,List.getElem?_take,if_pos (by omega)]
    have hin:∀i,i<(opn l l.length).length→0≤es.getD i 0∧es.getD i 0<l.length:=fun i h=>by
     rw[hget i h,List.getD_eq_getElem?_getD,List.getElem?_eq_getElem h]
     exact hm _ (List.getElem_mem _)
    refine⟨fun hlt=> ?_,fun hge=> ?_⟩
    ·have hi':i<(opn l l.length).length:=by omega
     have:=hin i hi'
     refine⟨by omega,by omega,this,by rw[hfl];omega,by omega,i+1,by omega,by omega,by omega,?_⟩
     rw[Ys]
     congr 1
     simp only[JO]
     rw[List.take_add_one,List.foldl_append,List.getElem?_eq_getElem hi',hget i hi',List.getD_eq_getElem?_getD,List.getElem?_eq_getElem hi']
     rfl
    ·have e:i=(opn l l.length).length:=by omega
     subst e
     have hd:yJ l=false:=by
      simp only[yJ,decide_eq_false_iff_not]
      rintro⟨i,h1,h2⟩
      have:=h4 i h1
      omega
     rw[hfl,if_pos (Nat.le_refl _),List.take_of_length_le (by rw[hfl];exact Nat.le_refl _)]
     simp only[zdk,hd,Option.map_some]
     rfl
  ·have hk:=zbb hc
   simp only[hk,false_and,and_false,false_implies,true_and,not_false_eq_true,or_true,true_or,forall_const]
   rw[if_pos hc]at hnext
   have hnp:¬Q5 l (opn l m) m:=fun hp=>hc hp.1
   have hno:Zg l (m+1)=(Zg l m).set m (-1):=by simp only[Zg,if_neg hnp]
   refine⟨by omega,fun h64=> ?_,fun h64=>⟨by omega,⟨m+1,es.take (opn l m).length++ [(m:Int)],vo,clk+1+1,clk+1+1+1⟩,?_⟩⟩
   ·have:yJ l=true:=by
     simp only[yJ,decide_eq_true_eq]
     exact⟨m,by omega,by rw[hnext];simp;omega⟩
    simp only[zdk,this];rfl
   ·simp only[hnext,hno,Ys,h2,List.map_append,List.map_cons,List.map_nil,List.length_append,List.length_cons,List.length_nil]
    refine⟨⟨by omega,List.take_of_length_le (by simp),by omega,fun i hi=> ?_⟩,by omega,⟨trivial,⟨trivial,by first|trivial|omega⟩,by first|trivial|omega⟩,by simp⟩
    by_cases e:i<m
    ·exact h4 i e
    ·have:i=m:=by omega
     subst this
     rw[hnext];simp;omega
  ·rw[hN]
   rw[if_neg (by simpa using hc)]at hnext
   have h0:(opn l m).length≤64:=by
    by_cases e:m=0
    ·subst e;simp[opn]
    ·have:=h4 (m - 1) (by omega)
     rwa [show m - 1+1=m by omega]at this
   have hget:0<(opn l m).length→es.getD ((opn l m).length - 1) 0=(opn l m).getD ((opn l m).length - 1) 0:=fun h=>by
    generalize opn l m=st at*
    have e1:st.getD (st.length - 1) 0=(es.take st.length).getD (st.length - 1) 0:=by rw[h2]
    rw[e1,List.getD_eq_getElem?_getD,List.getD_eq_getElem?_getD,List.getElem?_take,if_pos (by omega)]
   have hlast:0<(opn l m).length→0≤es.getD ((opn l m).length - 1) 0∧es.getD ((opn l m).length - 1) 0<m:=fun h=>by
    rw[hget h,List.getD_eq_getElem?_getD,List.getElem?_eq_getElem (by omega)]
    exact hm _ (List.getElem_mem _)
   refine⟨by omega,by omega,by omega,by grind,fun hp=> ?_,fun hp=>⟨by omega,⟨m+1,es,vo,ve,clk+1⟩,?_⟩⟩
   ·have hp0:0<(opn l m).length:=by have:=hp.1.2;omega
    have hpp:Q5 l (opn l m) m:=⟨hc,hp.1.1,hp0,by rw[←hget hp0];exact hp.2⟩
    have hno:Zg l (m+1)=((Zg l m).set m (-1)).set (es.getD ((opn l m).length - 1) 0).toNat m:=by simp only[Zg,if_pos hpp,hget hp0]
    rw[if_pos ⟨hpp.2.1,hpp.2.2.1,hpp.2.2.2⟩]at hnext
    refine⟨by omega,by omega,by omega,by have:=hlast hp0;omega,?_,by omega,by omega,by omega,⟨m+1,es,vo,ve,clk+1⟩,?_⟩
    ·simp only[Ys,decide_eq_true_eq,List.length_map,List.length_set,hol];have:=hlast hp0;omega
    ·have e4:List.take ((opn l m).length - 1) es=List.take ((opn l m).length - 1) (opn l m):=by
      generalize opn l m=st at*
      have e3:(es.take st.length).take (st.length - 1)=es.take (st.length - 1):=by rw[List.take_take];congr 1;omega
      rw[←e3,h2]
     have e5:(List.take ((opn l m).length - 1) (opn l m)).length=(opn l m).length - 1:=by simp
     simp only[hnext,hno,Ys,ya,List.drop_succ_cons,List.drop_nil,List.drop_zero,e5,e4]
     refine⟨⟨by omega,trivial,by omega,fun i hi=> ?_⟩,by omega,⟨trivial,⟨trivial,by omega⟩,by omega⟩,by simp⟩
     by_cases e:i<m
     ·exact h4 i e
     ·have:i=m:=by omega
      subst this
      rw[hnext,e5];omega
   ·have hnp:¬Q5 l (opn l m) m:=by
     rintro⟨_,q1,q2,q3⟩
     rcases hp with(hp|hp)|hp
     ·exact hp q1
     ·omega
     ·rw[hget q2]at hp;exact hp q3
    have hno:Zg l (m+1)=(Zg l m).set m (-1):=by simp only[Zg,if_neg hnp]
    rw[if_neg (fun hh=>hnp ⟨hc,hh⟩)]at hnext
    simp only[hnext,hno,Ys]
    refine⟨⟨by omega,h2,h3,fun i hi=> ?_⟩,by omega,⟨trivial,⟨trivial,trivial⟩,by omega⟩,by simp⟩
    by_cases e:i<m
    ·exact h4 i e
    ·have:i=m:=by omega
     subst this
     rw[hnext];omega
theorem Yp(l:List Tok)(m:Nat):opn l (m+1)=jb l (opn l m) m:=rfl
theorem qr{l:List Tok}{m:Nat}(h:¬zC (l.getD m .zero)=⟨#[]⟩):opn l (m+1)=opn l m++ [(m:Int)]:=by rw[Yp,jb,if_pos h]
theorem YM{l:List Tok}{m:Nat}(h:Q5 l (opn l m) m):opn l (m+1)=(opn l m).take ((opn l m).length - 1):=by
 rw[Yp,jb,if_neg (by simpa using h.1),if_pos h.2]
theorem jr{l:List Tok}{m:Nat}(h:zC (l.getD m .zero)=⟨#[]⟩)(hp:¬Q5 l (opn l m) m):opn l (m+1)=opn l m:=by
 rw[Yp,jb,if_neg (by simpa using h),if_neg (fun hh=>hp ⟨h,hh⟩)]
theorem zne{l:List Tok}{k m:Nat}(hk:k<m)(h:¬(k:Int)∈opn l m):¬(k:Int)∈opn l (m+1):=by
 by_cases hc:zC (l.getD m .zero)=⟨#[]⟩
 ·by_cases hp:Q5 l (opn l m) m
  ·rw[YM hp];exact fun hh=>h (List.mem_of_mem_take hh)
  ·rw[jr hc hp];exact h
 ·rw[qr hc];simp only[List.mem_append,List.mem_singleton,not_or];exact⟨h,by omega⟩
theorem zdq{l:List Tok}{k:Nat}:∀(d m:Nat),k<m→(k:Int)∈opn l (m+d)→(k:Int)∈opn l m
 |0,_,_,h=>h
 |d+1,m,hk,h=>zdq d m hk (Decidable.byContradiction fun hn=>zne (by omega) hn h)
theorem Zi{l:List Tok}{k m m':Nat}(hk:k<m)(hm:m≤m')(h:(k:Int)∈opn l m'):(k:Int)∈opn l m:=by
 obtain⟨d,rfl⟩:∃d,m'=m+d:=⟨m' - m,by omega⟩
 exact zdq d m hk h
theorem qJ{l:List Tok}:∀(m:Nat)(k:Nat),(k:Int)∈opn l m→¬zC (l.getD k .zero)=⟨#[]⟩
 |0,k,h=>by simp[opn]at h
 |m+1,k,h=>by
  by_cases hc:zC (l.getD m .zero)=⟨#[]⟩
  ·by_cases hp:Q5 l (opn l m) m
   ·rw[YM hp]at h;exact qJ m k (List.mem_of_mem_take h)
   ·rw[jr hc hp]at h;exact qJ m k h
  ·rw[qr hc]at h
   simp only[List.mem_append,List.mem_singleton]at h
   rcases h with h|h
   ·exact qJ m k h
   ·have:k=m:=by omega
    subst this;exact hc
theorem zaQ(l:List Tok):∀m,(opn l m).Nodup
 |0=>by simp[opn]
 |m+1=>by
  have ih:=zaQ l m
  by_cases hc:zC (l.getD m .zero)=⟨#[]⟩
  ·by_cases hp:Q5 l (opn l m) m
   ·rw[YM hp];exact ih.sublist (List.take_sublist _ _)
   ·rw[jr hc hp];exact ih
  ·rw[qr hc,List.nodup_append]
   refine⟨ih,by simp,fun a ha b hb=> ?_⟩
   have:=qh l m a ha
   simp at hb
   omega
theorem XN{l:List Tok}{k:Nat}(hc:¬zC (l.getD k .zero)=⟨#[]⟩):∀(d:Nat),(k:Int)∈opn l (k+1+d)→∃t,opn l (k+1+d)=opn l k++(k:Int)::t
 |0,_=>⟨[],qr hc⟩
 |d+1,h=>by
  have hin:(k:Int)∈opn l (k+1+d):=Zi (by omega) (by omega) h
  obtain⟨t,ht⟩:=XN hc d hin
  have e:k+1+(d+1)=(k+1+d)+1:=by omega
  rw[e]at h⊢
  generalize k+1+d=m at*
  by_cases hm:zC (l.getD m .zero)=⟨#[]⟩
  ·by_cases hp:Q5 l (opn l m) m
   ·rw[YM hp]at h⊢
    rw[ht]at h⊢
    have e2:(opn l k++(k:Int)::t).length - 1=(opn l k).length+t.length:=by simp
    rw[e2,List.take_append,List.take_of_length_le (by omega)]at h⊢
    cases t with
    |nil=>
     simp at h
     have:=qh l k _ h
     omega
    |cons x t=>exact⟨(x::t).take t.length,by simp⟩
   ·rw[jr hm hp];exact⟨t,ht⟩
  ·rw[qr hm];exact⟨t++ [(m:Int)],by rw[ht];simp⟩
theorem j2{l:List Tok}{k j:Nat}(hc:¬zC (l.getD k .zero)=⟨#[]⟩)(hj:k≤j):jG l k j↔¬(k:Int)∈opn l (j+1):=by
 have hd:(opn l (k+1)).length=(opn l k).length+1:=by rw[qr hc];simp
 constructor
 ·intro h hin
  obtain⟨d,rfl⟩:∃d,j=k+d:=⟨j - k,by omega⟩
  have e:k+d+1=k+1+d:=by omega
  unfold jG at h
  rw[e]at h hin
  obtain⟨t,ht⟩:=XN hc d hin
  rw[ht,hd]at h
  rcases h with h|h
  ·simp at h
  ·apply h;simp[List.getD_eq_getElem?_getD]
 ·intro hn
  unfold jG
  by_cases h1:(opn l (j+1)).length<(opn l (k+1)).length
  ·exact .inl h1
  ·refine .inr fun h2=>hn ?_
   rw[←h2,List.getD_eq_getElem?_getD,List.getElem?_eq_getElem (by omega)]
   exact List.getElem_mem _
theorem zbl{l:List Tok}{k:Nat}:∀(d j:Nat),j+d≤l.length→(∀i,j≤i→i<j+d→¬jG l k i)→fe l k (l.length - j) j=fe l k (l.length - (j+d)) (j+d)
 |0,_,_,_=>rfl
 |d+1,j,h,hn=>by
  rw[JX l k j (by omega),if_neg (hn j (by omega) (by omega)),zbl d (j+1) (by omega) (fun i h1 h2=>hn i (by omega) (by omega))]
  have e:j+1+d=j+(d+1):=by omega
  rw[e]
theorem QU(o:List Int)(i k:Nat)(v:Int)(hk:k<o.length):(o.set i v).getD k 0=if i=k then v else o.getD k 0:=by
 rw[List.getD_eq_getElem?_getD,List.getElem?_set]
 split
 ·rename_i h;subst h;simp[hk]
 ·rw[List.getD_eq_getElem?_getD]
def feE(l:List Tok)(k:Nat):Int:=fe l k (l.length - (k+1)) (k+1)
theorem zdl(l:List Tok):∀(m:Nat),m≤l.length→∀k,k<m→(Zg l m).getD k 0=if zC (l.getD k .zero)=⟨#[]⟩then -1 else if(k:Int)∈opn l m then -1 else feE l k
 |0,_,k,hk=>by omega
 |m+1,hm,k,hk=>by
  have ih:=zdl l m (by omega)
  have hlen:=Ym l m
  by_cases hp:Q5 l (opn l m) m
  ·have hop:=YM hp
   have h0:=hp.2.2.1
   have ho:∃o:Nat,(opn l m).getD ((opn l m).length - 1) 0=(o:Int)∧o<m∧(o:Int)∈opn l m:=by
    have hin:(opn l m).getD ((opn l m).length - 1) 0∈opn l m:=by
     rw[List.getD_eq_getElem?_getD,List.getElem?_eq_getElem (by omega)];exact List.getElem_mem _
    have:=qh l m _ hin
    exact⟨((opn l m).getD ((opn l m).length - 1) 0).toNat,by omega,by omega,by rw[Int.toNat_of_nonneg this.1];exact hin⟩
   obtain⟨o,ho,hom,hoin⟩:=ho
   have hsplit:opn l m=opn l (m+1)++ [(o:Int)]:=by
    rw[hop]
    have e:=List.take_append_drop ((opn l m).length - 1) (opn l m)
    rw[List.drop_eq_getElem_cons (by omega)]at e
    have e2:(opn l m)[(opn l m).length - 1]'(by omega)=(o:Int):=by
     rw[←ho,List.getD_eq_getElem?_getD,List.getElem?_eq_getElem (by omega)];rfl
    rw[e2,show(opn l m).length - 1+1=(opn l m).length by omega,List.drop_length]at e
    exact e.symm
   have hnot:¬(o:Int)∈opn l (m+1):=by
    have:=zaQ l m
    rw[hsplit,List.nodup_append]at this
    exact fun h=>this.2.2 _ h _ (by simp) rfl
   simp only[Zg,if_pos hp,ho,Int.toNat_natCast]
   rw[QU _ _ _ _ (by simp;omega),QU _ _ _ _ (by omega)]
   by_cases h1:o=k
   ·subst h1
    rw[if_pos rfl,if_neg (qJ m o hoin),if_neg hnot]
    unfold feE
    have hc:=qJ m o hoin
    obtain⟨d,hd⟩:∃d,m=o+1+d:=⟨m - (o+1),by omega⟩
    rw[zbl d (o+1) (by omega) (fun i hi1 hi2=>by
     rw[j2 hc (by omega)]
     exact fun hn=>hn (Zi (by omega) (by omega) hoin)),←hd,JX l o m (by omega),if_pos ((j2 hc (by omega)).2 hnot)]
   ·rw[if_neg h1]
    by_cases h2:m=k
    ·subst h2;rw[if_pos rfl,if_pos hp.1]
    ·rw[if_neg h2,ih k (by omega)]
     have:(k:Int)∈opn l m↔(k:Int)∈opn l (m+1):=by
      rw[hsplit];simp only[List.mem_append,List.mem_singleton]
      constructor
      ·rintro(h|h)
       ·exact h
       ·omega
      ·exact fun h=>.inl h
     simp only[this]
  ·simp only[Zg,if_neg hp]
   rw[QU _ _ _ _ (by omega)]
   by_cases h2:m=k
   ·subst h2
    rw[if_pos rfl]
    by_cases hc:zC (l.getD m .zero)=⟨#[]⟩
    ·rw[if_pos hc]
    ·rw[if_neg hc,if_pos (by rw[qr hc];simp)]
   ·rw[if_neg h2,ih k (by omega)]
    have:(k:Int)∈opn l m↔(k:Int)∈opn l (m+1):=by
     by_cases hc:zC (l.getD m .zero)=⟨#[]⟩
     ·rw[jr hc hp]
     ·rw[qr hc];simp only[List.mem_append,List.mem_singleton]
      constructor
      ·exact fun h=>.inl h
      ·rintro(h|h)
       ·exact h
       ·omega
    simp only[this]
theorem j4(v:Int):∀(t:List Int)(o:List Int)(k:Nat),(∀x∈t,0≤x)→k<o.length→(t.foldl (fun o x=>o.set x.toNat v) o).getD k 0=if(k:Int)∈t then v else o.getD k 0
 | [],o,k,_,_=>by simp
 |x::t,o,k,hx,hk=>by
  have h0:=hx x (by simp)
  rw[List.foldl_cons,j4 v t _ k (fun y hy=>hx y (by simp[hy])) (by simpa using hk),QU _ _ _ _ hk]
  by_cases h1:(k:Int)∈t
  ·simp[h1]
  ·have e:x.toNat=k↔(k:Int)=x:=by omega
   simp only[List.mem_cons,h1,or_false,if_false,e]
theorem zsT(l:List Tok):JO l (opn l l.length).length=kR l l.length:=by
 have hlen:∀(t o:List Int),(t.foldl (fun o x=>o.set x.toNat (l.length:Int)) o).length=o.length:=by
  intro t
  induction t with
  |nil=>intro o;rfl
  |cons x t ih=>intro o;rw[List.foldl_cons,ih];simp
 have hl2:(JO l (opn l l.length).length).length=l.length:=by unfold JO;rw[hlen,Ym]
 apply List.ext_getElem (by rw[hl2,yj])
 intro k h1 h2
 have hk:k<l.length:=by omega
 have e1:(JO l (opn l l.length).length)[k]=(JO l (opn l l.length).length).getD k 0:=by rw[List.getD_eq_getElem?_getD,List.getElem?_eq_getElem h1];rfl
 rw[e1]
 unfold JO
 rw[List.take_length,j4 _ _ _ _ (fun x hx=>(qh l _ x hx).1) (by rw[Ym];exact hk),zdl l l.length (Nat.le_refl _) k hk]
 simp only[kR,List.getElem_map,List.getElem_range,ZZ]
 by_cases hin:(k:Int)∈opn l l.length
 ·have hc:=qJ _ k hin
  rw[if_pos hin,if_neg hc]
  obtain⟨d,hd⟩:∃d,l.length=k+1+d:=⟨l.length - (k+1),by omega⟩
  rw[zbl d (k+1) (by omega) (fun i hi1 hi2=>by
   rw[j2 hc (by omega)]
   exact fun hn=>hn (Zi (by omega) (by omega) hin)),←hd]
  simp[fe]
 ·rw[if_neg hin,if_neg hin];rfl
theorem zm0(l:List Tok):zdk l=Xl l:=by
 unfold zdk Xl
 rw[zsT]
theorem PRep.nilS{F:Nat→Prop}{w:World}{v:Value}(sz:Nat)(h:PRep F w v zB):PRep F w v (.slc sz []):=by
 cases h
 exact .slc none 0 0 sz [] 0 0 (fun _ _=>undef) rfl (Nat.le_refl _) (by simp) (by simp) (by simp) (by simp)
def zy(l:List Tok):List Int:=if yJ l then[]else kR l l.length
def Ye(l:List Tok):Int:=if yJ l then 3 else 0
theorem zay(l:List Tok)(F:Nat→Prop)(w:World)(v:Value)(h:PRep F w v (Xl l)):PRep F w v (.tup [zJ (zy l),vi (Ye l)]):=by
 unfold Xl at h
 unfold zy Ye
 cases hd:yJ l with
 |false=>simpa[hd]using h
 |true=>
  simp only[hd,cond_true]at h
  simp only[if_true]
  cases h with
  |tup cs xs hl h=>
   refine .tup cs _ hl fun i hi=> ?_
   have:=h i hi
   match i,hi with
   |0,_=>exact PRep.nilS 1 this
   |1,_=>exact this
   |n+2,hi=>exact absurd hi (by simp)
theorem zbw(l:List Tok)(hl:l.length≤1000000):ze Tryz.prog 96 [zk l] (.tup [zJ (zy l),vi (Ye l)]):=by
 have:=zdn l hl
 rw[zm0]at this
 exact ze.rsub this (zay l)
theorem zdy(l:List Tok)(hl:l.length≤1000000):ze Tryz.prog 51 [zk l] (.tup [zJ (zy l),vi (Ye l)]):=ze.rsub (zf9 l hl) (zay l)
def ZT(args:List V):Prop:=args= [zk (zj (args.getD 0 .any))]∧(zj (args.getD 0 .any)).length≤1000000
def ZU(args:List V):V:=.tup [zJ (zy (zj (args.getD 0 .any))),vi (Ye (zj (args.getD 0 .any)))]
def Kk:Sum Tryz.prog:=⟨96,ZT,ZU,fun args h=>by have:=zbw _ h.2;rwa [←h.1]at this,false⟩
theorem y7:Kk.f=96:=rfl
theorem y6(args:List V):Kk.D args=ZT args:=rfl
theorem z9:Kk.flat=false:=rfl
theorem y8(args:List V):Kk.r args=ZU args:=rfl
def Wi:Sum Tryz.prog:=⟨51,ZT,ZU,fun args h=>by have:=zdy _ h.2;rwa [←h.1]at this,false⟩
theorem YT:Wi.f=51:=rfl
theorem YS(args:List V):Wi.D args=ZT args:=rfl
theorem kk:Wi.flat=false:=rfl
theorem YU(args:List V):Wi.r args=ZU args:=rfl
def zaT(l:List Int)(k:Int):Prop:= -9223372036854775808≤k∧k<9223372036854775807∧l.getD k.toNat 0<9223372036854775807
def ZO:Sum Tryz.prog:=⟨97,fun args=>args= [zJ (zL (args.getD 0 .any)),vi (args.getD 1 .any).int]∧zaT (zL (args.getD 0 .any)) (args.getD 1 .any).int,fun args=>vi (skip (zL (args.getD 0 .any)) (args.getD 1 .any).int),fun args h=>by
 have:=ztk (zL (args.getD 0 .any)) (args.getD 1 .any).int h.2.1 h.2.2.1 h.2.2.2;rwa [←h.1]at this,true⟩
theorem yW:ZO.f=97:=rfl
theorem yV(args:List V):ZO.D args=(args= [zJ (zL (args.getD 0 .any)),vi (args.getD 1 .any).int]∧zaT (zL (args.getD 0 .any)) (args.getD 1 .any).int):=rfl
theorem yh:ZO.flat=true:=rfl
theorem yX(args:List V):ZO.r args=vi (skip (zL (args.getD 0 .any)) (args.getD 1 .any).int):=rfl
theorem zbN(ends:List Int)(k:Int)(hk:k<ends.length):k+1≤skip ends k:=by
 unfold skip
 grind
theorem zh0(ends:List Int)(k:Int)(hk:k<ends.length):skip ends k≤ends.length:=by
 unfold skip
 grind
def jw:Sum Tryz.prog:=⟨94,fun args=>args= [zJ (zL (args.getD 0 .any)),vi (args.getD 1 .any).int]∧zaT (zL (args.getD 0 .any)) (args.getD 1 .any).int,fun args=>vi (skip (zL (args.getD 0 .any)) (args.getD 1 .any).int),fun args h=>by
 have:=zga (zL (args.getD 0 .any)) (args.getD 1 .any).int h.2.1 h.2.2.1 h.2.2.2;rwa [←h.1]at this,true⟩
theorem ZM:jw.f=94:=rfl
theorem ZL(args:List V):jw.D args=(args= [zJ (zL (args.getD 0 .any)),vi (args.getD 1 .any).int]∧zaT (zL (args.getD 0 .any)) (args.getD 1 .any).int):=rfl
theorem kW:jw.flat=true:=rfl
theorem ZN(args:List V):jw.r args=vi (skip (zL (args.getD 0 .any)) (args.getD 1 .any).int):=rfl
theorem zmh(l:List Tok)(k:Nat):∀(f j:Nat),j+f=l.length→(j:Int)≤fe l k f j∧fe l k f j≤l.length
 |0,j,h=>by simp only[fe];omega
 |f+1,j,h=>by
  simp only[fe]
  split
  ·omega
  ·have:=zmh l k f (j+1) (by omega);omega
theorem zcK(l:List Tok)(k:Nat)(hk:k<l.length):ZZ l k= -1∨((k:Int)<ZZ l k∧ZZ l k≤l.length):=by
 unfold ZZ
 split
 ·exact .inl rfl
 ·have:=zmh l k (l.length - (k+1)) (k+1) (by omega);right;omega
theorem KJ(l:List Tok)(hd:yJ l=false)(k:Nat)(hk:k<l.length):(zy l).getD k 0=ZZ l k:=by
 simp only[zy,hd,Bool.false_eq_true,if_false,kR]
 simp[List.getD_eq_getElem?_getD,hk]
theorem QO(l:List Tok)(k:Nat):(zy l).getD k 0≤l.length:=by
 cases hd:yJ l with
 |true=>simp[zy,hd]
 |false=>
  by_cases hk:k<l.length
  ·rw[KJ l hd k hk];have:=zcK l k hk;omega
  ·have:(zy l).length≤k:=by simp[zy,hd,yj];omega
   rw[List.getD_eq_getElem?_getD,List.getElem?_eq_none this];simp
theorem zhD(l:List Tok)(k:Nat):∀(f j:Nat),j+f=l.length→fe l k f j=l.length∨∃m,j≤m∧m<l.length∧fe l k f j=m∧jG l k m∧∀i,j≤i→i<m→¬jG l k i
 |0,j,h=>by simp only[fe];exact .inl trivial
 |f+1,j,h=>by
  simp only[fe]
  split
  ·rename_i hc;exact .inr ⟨j,Nat.le_refl _,by omega,rfl,hc,fun i h1 h2=>by omega⟩
  ·rename_i hc
   rcases zhD l k f (j+1) (by omega)with h1|⟨m,h1,h2,h3,h4,h5⟩
   ·exact .inl h1
   ·refine .inr ⟨m,by omega,h2,h3,h4,fun i hi1 hi2=> ?_⟩
    by_cases e:i=j
    ·subst e;exact hc
    ·exact h5 i (by omega) hi2
structure Part where
 t:Tok
 ar:Option (List Tok)
instance:Inhabited Part:=⟨⟨.zero,none⟩⟩
def avO(o:Option (List Tok)):V:=match o with|none=>zB|some l=>zk l
def Part.enc(p:Part):List V:=[vi p.t.kind,vs p.t.text,vi p.t.n,avO p.ar]
def parts(l:List Part):V:=.slc 4 (l.map Part.enc)
theorem Part.eta'(p:Part):(⟨⟨p.t.kind,p.t.text,p.t.n⟩,p.ar⟩:Part)=p:=rfl
theorem znq(S:Nat→Bool)(h:Heap)(o:Option (List Tok)):res S h 10 (avO o)=some (avO o):=by cases o<;>rfl
theorem Q1(S:Nat→Bool)(h:Heap):∀l:List Part,zz (zz (res S h 10)) (l.map Part.enc)=some (l.map Part.enc)
 | []=>rfl
 |p::l=>by
  have e:zz (res S h 10) p.enc=some p.enc:=by simp only[Part.enc,zz,zhY,znq]
  simp only[List.map_cons,zz,Q1 S h l,e]
def plR(ends:List Int)(to:Int):Nat→Int→List Int
 |0,_=>[]
 |f+1,a=>if a<to then a::plR ends to f (skip ends a)else[]
def pAt(l:List Tok)(k:Nat):Part:=⟨l.getD k .zero,if 0≤(zy l).getD k 0 then some ((l.take ((zy l).getD k 0).toNat).drop (k+1))else none⟩
def yD(l:List Tok):List Int→Option (List Part)
 | []=>some []
 |k::r=>if(zy l).getD k.toNat 0=l.length then none else(yD l r).map fun ps=>if(l.getD k.toNat .zero).kind=1 then ps else pAt l k.toNat::ps
def ptO(l:List Tok):Option (List Part):=if yJ l=true then none else yD l (plR (zy l) l.length (l.length+1) 0)
def ptL(l:List Tok):List Part:=(ptO l).getD []
def ptB(l:List Tok):Bool:=(ptO l).isSome
def ptV(l:List Tok):V:=.tup [parts (ptL l),vb (ptB l)]
theorem WE(F:Nat→Prop)(w:World)(v:Value)(h:PRep F w v (.tup [zB,vb false])):PRep F w v (.tup [parts [],vb false]):=by
 cases h with
 |tup cs _ hl hx=>
  refine .tup cs _ hl fun i hi=> ?_
  have:=hx i hi
  match i,hi with
  |0,_=>exact PRep.nilS 4 this
  |1,_=>exact this
def znk:Option (List Part)→V
 |none=>.tup [zB,vb false]
 |some ps=>.tup [parts ps,vb true]
structure PtS where
 k:Nat
 f:Nat
 out:List Part
 ver:Nat
 clk:Nat
theorem jt{l:List Tok}(hd:yJ l=false)(k:Nat)(hk:k<l.length):∃n:Nat,skip (zy l) k=n∧k<n∧n≤l.length:=by
 have hlen:(zy l).length=l.length:=by unfold zy;rw[hd];simp[yj]
 have h1:=zbN (zy l) k (by rw[hlen];omega)
 have h2:=zh0 (zy l) k (by rw[hlen];omega)
 exact⟨(skip (zy l) k).toNat,by omega,by omega,by omega⟩
theorem zuC{l:List Tok}{x:Option (List Part)}(h:ptO l=x):ptV l= .tup [parts (x.getD []),vb x.isSome]:=by unfold ptV ptL ptB;rw[h]
theorem znl{f:FuncId}{args:List V}(R:Option (List Part))(h:ze Tryz.prog f args (znk R)):ze Tryz.prog f args (.tup [parts (R.getD []),vb R.isSome]):=by
 cases R with
 |none=>exact ze.rsub h WE
 |some ps=>exact h
theorem zng(l:List Tok)(hl:l.length≤1000000):ze Tryz.prog 67 [zk l] (ptV l):=by
 by_cases hd:yJ l=true
 ·have hO:ptO l=none:=by unfold ptO;rw[if_pos hd]
  rw[zuC hO]
  refine ze.rsub ?_ WE
  refine ze.of (Orc.cons Kk (Orc.cons ZO (Orc.nil _))) zlS (by simp[c67]) fun w0 own0=> ?_
  have he:Ye l=3:=by unfold Ye;rw[if_pos hd]
  simp only[c67,zk,ZT,ZU,zh,hl,he,zJ,y7,y6,z9,y8,yW,yV,yh,yX,go_sem,zd,seval,reduceIte,reduceCtorEq]
 have hd:yJ l=false:=by simpa using hd
 have he:Ye l=0:=by unfold Ye;rw[hd];rfl
 have hlen:(zy l).length=l.length:=by unfold zy;rw[hd];simp[yj]
 generalize hO:ptO l=R
 rw[zuC hO]
 have hO':yD l (plR (zy l) l.length (l.length+1) 0)=R:=by rw[←hO];unfold ptO;rw[hd];rfl
 refine znl R ?_
 refine ze.of (Orc.cons Kk (Orc.cons ZO (Orc.nil _))) zlS (by simp[c67]) fun w0 own0=> ?_
 simp only[c67,zk,ZT,ZU,zh,hl,he,zJ,y7,y6,z9,y8,yW,yV,yh,yX,go_sem,zd,seval,reduceIte,reduceCtorEq]
 refine zD.lp (α:=PtS) (fun a=>[(0,.slc 3 (l.map Tok.enc)),(4,.slc 1 ((zy l).map fun n=>[vi n])),(6,.ref 0 a.ver 0 a.out.length),(7,vi a.k)])
  (fun a=>⟨[⟨a.ver,4,a.out.map Part.enc,false,[vi 0,vs ⟨#[]⟩,vi 0,zB]⟩],a.clk⟩) (fun a=>a.k≤l.length∧a.out.length≤a.k∧l.length+1≤a.k+a.f∧(yD l (plR (zy l) l.length a.f a.k)).map (a.out++ ·)=R) (fun a=>l.length - a.k) ⟨0,l.length+1,[],0,1⟩
  ⟨Nat.zero_le _,Nat.zero_le _,by dsimp only;omega,by dsimp only;rw[show((0:Nat):Int)=0 from rfl,hO'];simp⟩ (St.nil 6 4 [vi 0,vs ⟨#[]⟩,vi 0,zB] (by simp[zo]) (St.cut ?_ ?_ ?_)) fun a ha=> ?_
 ·simp[zt,zo,zu]
 ·simp[Heap.alloc]
 ·rfl
 obtain⟨k,f,out,ver,clk⟩:=a
 obtain⟨h1,h2,h3,h4⟩:=ha
 simp only at h1 h2 h3 h4
 obtain⟨f',rfl⟩:∃f',f=f'+1:=⟨f - 1,by omega⟩
 by_cases hk:k=l.length
 ·subst hk
  simp only[plR,Int.lt_irrefl,if_false,yD,Option.map_some,List.append_nil]at h4
  subst h4
  simp only[Int.lt_irrefl,List.take_length,Q1,kA,Nat.le_refl,znk,parts,y7,y6,z9,y8,yW,yV,yh,yX,go_sem,zd,seval,reduceIte,reduceCtorEq]
 ·have e1:(k:Int)<(l.length:Int):=by omega
  have e0:(0:Int)≤(k:Int):=by omega
  have hlt:k<l.length:=by omega
  have hle:=QO l k
  have hrg:=zcK l k hlt
  rw[←KJ l hd k hlt]at hrg
  obtain⟨n,hn1,hn2,hn3⟩:=jt hd k hlt
  have hsk:zaT (zy l) k:=⟨by omega,by omega,by rw[Int.toNat_natCast];omega⟩
  simp only[plR,e1,if_true,yD,Int.toNat_natCast,hn1]at h4
  have hp:pAt l k=⟨l.getD k .zero,if 0≤(zy l).getD k 0 then some ((l.take ((zy l).getD k 0).toNat).drop (k+1))else none⟩:=rfl
  obtain⟨en,hen⟩:∃en,(zy l).getD k 0=en:=⟨_,rfl⟩
  rw[hen]at hle hrg h4 hp
  obtain⟨x,hx⟩:∃x,l.getD k .zero=x:=⟨_,rfl⟩
  rw[hx]at h4 hp
  have hot:out.take out.length=out:=List.take_length
  by_cases c1:en=l.length
  ·rw[if_pos c1]at h4
   simp only[Option.map_none]at h4
   subst h4
   simp only[e0,e1,hlen,hx,hen,c1,Tok.enc,zJ,znk,y7,y6,z9,y8,yW,yV,yh,yX,go_sem,zd,seval,reduceIte,reduceCtorEq]
  ·rw[if_neg c1]at h4
   by_cases c2:0≤en
   ·rw[if_pos c2]at hp
    have hek:(k:Int)+1≤en:=by omega
    have hk1:((k:Int)+1).toNat=k+1:=by omega
    have hk0:(0:Int)≤(k:Int)+1:=by omega
    have hcut:List.take (en.toNat - (k+1)) (List.drop (k+1) (List.map Tok.enc l))=((l.take en.toNat).drop (k+1)).map Tok.enc:=by
     rw[←List.map_drop,←List.map_take,List.drop_take]
    by_cases c3:x.kind=1
    ·simp only[c3,if_true]at h4
     have h4:(yD l (plR (zy l) l.length f' n)).map (out++ ·)=R:=by rw[←h4];cases yD l (plR (zy l) l.length f' n)<;>rfl
     simp only[e0,e1,hlen,hx,hen,c1,c2,c3,hsk,hn1,hle,hek,hk0,hk1,zR,Tok.enc,zJ,y7,y6,z9,y8,yW,yV,yh,yX,go_sem,zd,seval,reduceIte,reduceCtorEq]
     exact⟨by omega,⟨n,f',out,ver,clk+1⟩,⟨by dsimp only;omega,by dsimp only;omega,by dsimp only;omega,h4⟩,by dsimp only;omega,⟨⟨rfl,rfl⟩,rfl⟩,⟨rfl,rfl⟩,rfl⟩
    ·simp only[c3,if_false]at h4
     simp only[e0,e1,hlen,hx,hen,c1,c2,c3,hsk,hn1,hle,hek,hk0,hk1,hcut,hot,zR,Tok.enc,zJ,y7,y6,z9,y8,yW,yV,yh,yX,go_sem,zd,seval,reduceIte,reduceCtorEq]
     refine⟨by omega,⟨by omega,by omega,by omega⟩,⟨n,f',out++ [pAt l k],clk+2,clk+3⟩,⟨by dsimp only;omega,by simp;omega,by dsimp only;omega,?_⟩,by dsimp only;omega,⟨⟨rfl,by simp⟩,rfl⟩,⟨rfl,?_⟩,rfl⟩
     ·rw[←h4];cases yD l (plR (zy l) l.length f' n)<;>simp
     ·rw[hp];simp[Part.enc,avO,zk]
   ·rw[if_neg c2]at hp
    by_cases c3:x.kind=1
    ·simp only[c3,if_true]at h4
     have h4:(yD l (plR (zy l) l.length f' n)).map (out++ ·)=R:=by rw[←h4];cases yD l (plR (zy l) l.length f' n)<;>rfl
     simp only[e0,e1,hlen,hx,hen,c1,c2,c3,hsk,hn1,zR,Tok.enc,zJ,y7,y6,z9,y8,yW,yV,yh,yX,go_sem,zd,seval,reduceIte,reduceCtorEq]
     exact⟨⟨n,f',out,ver,clk+1⟩,⟨by dsimp only;omega,by dsimp only;omega,by dsimp only;omega,h4⟩,by dsimp only;omega,⟨⟨rfl,rfl⟩,rfl⟩,⟨rfl,rfl⟩,rfl⟩
    ·simp only[c3,if_false]at h4
     simp only[e0,e1,hlen,hx,hen,c1,c2,c3,hsk,hn1,hot,zR,Tok.enc,zJ,y7,y6,z9,y8,yW,yV,yh,yX,go_sem,zd,seval,reduceIte,reduceCtorEq]
     refine⟨⟨by omega,by omega,by omega⟩,⟨n,f',out++ [pAt l k],clk+2,clk+3⟩,⟨by dsimp only;omega,by simp;omega,by dsimp only;omega,?_⟩,by dsimp only;omega,⟨⟨rfl,by simp⟩,rfl⟩,⟨rfl,?_⟩,rfl⟩
     ·rw[←h4];cases yD l (plR (zy l) l.length f' n)<;>simp
     ·rw[hp];simp[Part.enc,avO]
structure PlS where
 k:Nat
 f:Nat
 out:List Int
 ver:Nat
 clk:Nat
theorem zjk(l:List Tok)(hd:yJ l=false)(hl:l.length≤1000000):ze Tryz.prog 84 [zJ (zy l),vi 0,vi l.length] (zJ (plR (zy l) l.length (l.length+1) 0)):=by
 refine ze.of (Orc.cons jw (Orc.nil _)) zvY (by simp[c84]) fun w0 own0=> ?_
 have hlen:(zy l).length=l.length:=by unfold zy;rw[hd];simp[yj]
 generalize hR:plR (zy l) l.length (l.length+1) 0=R
 simp only[c84,zJ,ZM,ZL,kW,ZN,go_sem,zd,seval,reduceIte,reduceCtorEq]
 refine zD.lp (α:=PlS) (fun a=>[(0,.slc 1 ((zy l).map fun n=>[vi n])),(2,vi l.length),(7,.ref 0 a.ver 0 a.out.length),(8,vi a.k)])
  (fun a=>⟨[⟨a.ver,1,a.out.map fun n=>[vi n],false,[vi 0]⟩],a.clk⟩) (fun a=>a.k≤l.length∧a.out.length≤a.k∧l.length+1≤a.k+a.f∧a.out++plR (zy l) l.length a.f a.k=R) (fun a=>l.length - a.k) ⟨0,l.length+1,[],0,1⟩
  ⟨Nat.zero_le _,Nat.zero_le _,by dsimp only;omega,by dsimp only;rw[show((0:Nat):Int)=0 from rfl,hR];rfl⟩ (St.nil 7 1 [vi 0] (by simp[zo]) (St.cut ?_ ?_ ?_)) fun a ha=> ?_
 ·simp[zt,zo,zu]
 ·simp[Heap.alloc]
 ·rfl
 obtain⟨k,f,out,ver,clk⟩:=a
 obtain⟨h1,h2,h3,h4⟩:=ha
 simp only at h1 h2 h3 h4
 obtain⟨f',rfl⟩:∃f',f=f'+1:=⟨f - 1,by omega⟩
 by_cases hk:k=l.length
 ·subst hk
  simp only[plR,Int.lt_irrefl,if_false,List.append_nil]at h4
  subst h4
  simp only[Int.lt_irrefl,List.take_length,kA,Nat.le_refl,ZM,ZL,kW,ZN,go_sem,zd,seval,reduceIte,reduceCtorEq]
 ·have e1:(k:Int)<(l.length:Int):=by omega
  have hlt:k<l.length:=by omega
  obtain⟨n,hn1,hn2,hn3⟩:=jt hd k hlt
  have hle:=QO l k
  have hsk:zaT (zy l) k:=⟨by omega,by omega,by rw[Int.toNat_natCast];omega⟩
  have hot:out.take out.length=out:=List.take_length
  simp only[plR,e1,if_true,hn1]at h4
  simp only[e1,hsk,hn1,hot,zR,zJ,ZM,ZL,kW,ZN,go_sem,zd,seval,reduceIte,reduceCtorEq]
  exact⟨⟨by omega,by omega,by omega⟩,⟨n,f',out++ [(k:Int)],clk+1,clk+2⟩,⟨by dsimp only;omega,by simp;omega,by dsimp only;omega,by rw[←h4];simp⟩,by dsimp only;omega,⟨⟨rfl,by simp⟩,rfl⟩,⟨rfl,by simp⟩,rfl⟩
theorem zbD{l:List Tok}(hd:yJ l=false):∀(f:Nat)(k:Nat),∀x∈plR (zy l) l.length f k,0≤x∧x<l.length
 |0,k,x,hx=>by simp[plR]at hx
 |f+1,k,x,hx=>by
  unfold plR at hx
  by_cases hk:(k:Int)<l.length
  ·rw[if_pos hk]at hx
   obtain⟨n,hn1,hn2,hn3⟩:=jt hd k (by omega)
   rcases List.mem_cons.1 hx with rfl|hx
   ·omega
   ·rw[hn1]at hx;exact zbD hd f n x hx
  ·rw[if_neg hk]at hx;cases hx
theorem zbC{l:List Tok}(hd:yJ l=false):∀(f:Nat)(k:Nat),k≤l.length→(plR (zy l) l.length f k).length+k≤l.length
 |0,k,h=>by simp[plR];exact h
 |f+1,k,h=>by
  unfold plR
  by_cases hk:(k:Int)<l.length
  ·rw[if_pos hk]
   obtain⟨n,hn1,hn2,hn3⟩:=jt hd k (by omega)
   rw[hn1]
   have:=zbC hd f n hn3
   simp only[List.length_cons];omega
  ·rw[if_neg hk];simp;exact h
theorem zf6(l:List Tok)(hd:yJ l=false)(hl:l.length≤1000000):∃S:Sum Tryz.prog,S.f=84∧S.flat=false∧S.D [.slc 1 ((zy l).map fun n=>[vi n]),.c (.int .i64 0),.c (.int .i64 l.length)]∧S.r [.slc 1 ((zy l).map fun n=>[vi n]),.c (.int .i64 0),.c (.int .i64 l.length)]=zJ (plR (zy l) l.length (l.length+1) 0):=
 ⟨⟨84,fun args=>args= [zJ (zy l),vi 0,vi l.length],fun _=>zJ (plR (zy l) l.length (l.length+1) 0),fun args h=>by rw[h];exact zjk l hd hl,false⟩,rfl,rfl,rfl,rfl⟩
structure PrS where
 i:Nat
 out:List Part
 ver:Nat
 clk:Nat
theorem zfs(l:List Int)(n:Nat)(h:n<l.length):l.drop n=l.getD n 0::l.drop (n+1):=by
 rw[List.drop_eq_getElem_cons h,List.getD_eq_getElem?_getD,List.getElem?_eq_getElem h];rfl
structure Pa where
 t:Tok
 al:List Tok
instance:Inhabited Pa:=⟨⟨.zero,[]⟩⟩
def Pa.enc(p:Pa):List V:=[vi p.t.kind,vs p.t.text,vi p.t.n,.slc 3 (p.al.map Tok.enc)]
def pas(l:List Pa):V:=.slc 4 (l.map Pa.enc)
def zxz(e:List V):Pa:=⟨zl3 e,zj (e.getD 3 .any)⟩
def dPa(v:V):Pa:=zxz v.cs
def kQ(v:V):List Pa:=v.es.map zxz
theorem zK(a n:Int)(s:ByteArray)(l:List Tok):dPa (.agg [.c (.int .i64 a),.c (.string s),.c (.int .i64 n),.slc 3 (l.map Tok.enc)])=⟨⟨a,s,n⟩,l⟩:=by
 show(⟨_,zj (.slc 3 (l.map Tok.enc))⟩:Pa)=_
 rw[zh];rfl
theorem Pa.eta'(p:Pa):(⟨⟨p.t.kind,p.t.text,p.t.n⟩,p.al⟩:Pa)=p:=rfl
theorem Pa.etaT(p:Pa):(⟨p.t.kind,p.t.text,p.t.n⟩:Tok)=p.t:=rfl
theorem z8(sz:Nat)(l:List Pa):kQ (.slc sz (l.map Pa.enc))=l:=by
 simp only[kQ,V.es,List.map_map]
 conv=>rhs;rw[←List.map_id l]
 apply List.map_congr_left
 intro p _
 exact zK _ _ _ _
theorem kM(l:List Pa)(i:Nat)(d:List V)(h:i<l.length):(l.map Pa.enc).getD i d=(l.getD i default).enc:=by
 simp[List.getD_eq_getElem?_getD,h]
theorem XD(S:Nat→Bool)(h:Heap):∀l:List Pa,zz (zz (res S h 10)) (l.map Pa.enc)=some (l.map Pa.enc)
 | []=>rfl
 |p::l=>by
  have e:zz (res S h 10) p.enc=some p.enc:=rfl
  simp only[List.map_cons,zz,XD S h l,e]
theorem XF(S:Nat→Bool)(h:Heap):∀l:List Pa,zz (zz (res S h 11)) (l.map Pa.enc)=some (l.map Pa.enc)
 | []=>rfl
 |p::l=>by
  have e:zz (res S h 11) p.enc=some p.enc:=rfl
  simp only[List.map_cons,zz,XF S h l,e]
def zpZ(p:Part):Pa:=⟨p.t,p.ar.getD []⟩
def pl(l:List Tok):List Pa:=(ptL l).map zpZ
def plV(l:List Tok):V:=.tup [.slc 4 ((pl l).map Pa.enc),vb (ptB l)]
theorem zaV:∀ps:List Part,F2 (F2 (Sub 1)) (ps.map Part.enc) ((ps.map zpZ).map Pa.enc)
 | []=>trivial
 |p::ps=>by
  refine⟨⟨Sub.rfl 1 _,Sub.rfl 1 _,Sub.rfl 1 _,?_,trivial⟩,zaV ps⟩
  cases h:p.ar with
  |none=>simp[Sub,avO,zpZ,h]
  |some l=>simp only[avO,zpZ,h,zk];exact Sub.rfl 1 _
theorem zs4(l:List Tok)(F:Nat→Prop)(w:World)(v:Value)(h:PRep F w v (ptV l)):PRep F w v (plV l):=by
 cases h with
 |tup cs _ hl hx=>
  refine .tup cs _ hl fun i hi=> ?_
  have:=hx i hi
  match i,hi with
  |0,_=>exact Sub.prep 2 (parts (ptL l)) (.slc 4 ((pl l).map Pa.enc)) _ (show Sub 2 (.slc 4 ((ptL l).map Part.enc)) (.slc 4 (((ptL l).map zpZ).map Pa.enc))from Or.inr ⟨rfl,zaV (ptL l)⟩) this
  |1,_=>exact this
def yr:Sum Tryz.prog:=⟨67,fun args=>args= [zk (zj (args.getD 0 .any))]∧((zj (args.getD 0 .any))).length≤1000000,fun args=>plV (zj (args.getD 0 .any)),fun args h=>by
 have:=ze.rsub (zng (zj (args.getD 0 .any)) h.2) (zs4 (zj (args.getD 0 .any)));rwa [←h.1]at this,false⟩
theorem zpg:yr.f=67:=rfl
theorem zpf(args:List V):yr.D args=(args= [zk (zj (args.getD 0 .any))]∧((zj (args.getD 0 .any))).length≤1000000):=rfl
theorem zev:yr.flat=false:=rfl
theorem zph(args:List V):yr.r args=plV (zj (args.getD 0 .any)):=rfl
attribute [go_sem] zpg zpf zev zph
def fst(p:Nat→Bool):Nat→Nat→Int
 |0,_=> -1
 |f+1,k=>if p k=true then k else fst p f (k+1)
theorem zsq(p:Nat→Bool)(n:Nat):fst p (n - n) n= -1:=by rw[Nat.sub_self];rfl
theorem zcV(p:Nat→Bool)(n k:Nat)(h:k<n):fst p (n - k) k=if p k=true then(k:Int)else fst p (n - (k+1)) (k+1):=by
 obtain⟨f,hf⟩:∃f,n - k=f+1:=⟨n - k - 1,by omega⟩
 rw[hf,show n - (k+1)=f by omega];rfl
def ixS(l:List ByteArray)(x:ByteArray):Int:=fst (fun i=>decide (x=l.getD i ⟨#[]⟩)) (l.length - 0) 0
theorem zmE(l:List ByteArray)(x:ByteArray)(hl:l.length≤1000000):ze Tryz.prog 129 [ju l,vs x] (vi (ixS l x)):=by
 refine ze.of (Orc.nil _) zrK (by simp[zu9]) fun w0 own0=> ?_
 simp only[zu9,ju,go_sem,zd,seval,reduceIte,reduceCtorEq]
 refine zD.lp (α:=Nat) (fun k=>[(0,.slc 1 (l.map fun n=>[vs n])),(1,vs x),(7,vi l.length),(8,vi k)]) (fun _=>⟨[],0⟩)
  (fun k=>k≤l.length∧fst (fun i=>decide (x=l.getD i ⟨#[]⟩)) (l.length - k) k=ixS l x) (fun k=>l.length - k) 0 ⟨Nat.zero_le _,rfl⟩ (St.mk (by simp[zt,zo,zu])) fun k hk=> ?_
 obtain⟨h1,h2⟩:=hk
 by_cases hkl:k=l.length
 ·subst hkl
  rw[zsq]at h2
  simp only[Int.lt_irrefl,←h2,go_sem,zd,seval,reduceIte,reduceCtorEq]
 ·have e1:(k:Int)<(l.length:Int):=by omega
  rw[zcV _ _ _ (by omega)]at h2
  simp only[decide_eq_true_eq]at h2
  simp only[e1,ziM,go_sem,zd,seval,reduceIte,reduceCtorEq]
  refine⟨by omega,fun h=>by rw[if_pos h]at h2;exact h2,fun h=>⟨by omega,k+1,⟨by omega,by rw[if_neg h]at h2;exact h2⟩,by omega,by omega⟩⟩
def Wo:Sum Tryz.prog:=⟨129,fun args=>args= [ju (kL (args.getD 0 .any)),vs ((args.getD 1 .any).str)]∧((kL (args.getD 0 .any))).length≤1000000,fun args=>vi (ixS (kL (args.getD 0 .any)) ((args.getD 1 .any).str)),fun args h=>by
 have:=zmE (kL (args.getD 0 .any)) ((args.getD 1 .any).str) h.2;rwa [←h.1]at this,true⟩
theorem zoA:Wo.f=129:=rfl
theorem zoz(args:List V):Wo.D args=(args= [ju (kL (args.getD 0 .any)),vs ((args.getD 1 .any).str)]∧((kL (args.getD 0 .any))).length≤1000000):=rfl
theorem zee:Wo.flat=true:=rfl
theorem zoB(args:List V):Wo.r args=vi (ixS (kL (args.getD 0 .any)) ((args.getD 1 .any).str)):=rfl
attribute [go_sem] zoA zoz zee zoB
def zmy(l:List ByteArray)(x:ByteArray):Bool:=decide (0≤ixS l x)
theorem zr7(l:List ByteArray)(x:ByteArray)(hl:l.length≤1000000):ze Tryz.prog 108 [ju l,vs x] (vb (zmy l x)):=by
 refine ze.of (Orc.cons Wo (Orc.nil _)) zry (by simp[zuX]) fun w0 own0=> ?_
 simp only[zuX,ju,zax,zmy,go_sem,zd,seval,reduceIte,reduceCtorEq]
 exact hl
def Ki:Sum Tryz.prog:=⟨108,fun args=>args= [ju (kL (args.getD 0 .any)),vs ((args.getD 1 .any).str)]∧((kL (args.getD 0 .any))).length≤1000000,fun args=>vb (zmy (kL (args.getD 0 .any)) ((args.getD 1 .any).str)),fun args h=>by
 have:=zr7 (kL (args.getD 0 .any)) ((args.getD 1 .any).str) h.2;rwa [←h.1]at this,true⟩
theorem zj8:Ki.f=108:=rfl
theorem zj7(args:List V):Ki.D args=(args= [ju (kL (args.getD 0 .any)),vs ((args.getD 1 .any).str)]∧((kL (args.getD 0 .any))).length≤1000000):=rfl
theorem zbZ:Ki.flat=true:=rfl
theorem zj9(args:List V):Ki.r args=vb (zmy (kL (args.getD 0 .any)) ((args.getD 1 .any).str)):=rfl
attribute [go_sem] zj8 zj7 zbZ zj9
def Yl(p:Pa):ByteArray:=zO p.t.text
def Zh(p:Pa):Prop:=p.t.text.size≤1000000
theorem zi3(p:Pa)(h:Zh p):ze Tryz.prog 107 [.agg p.enc] (vs (Yl p)):=by
 refine ze.of (Orc.cons kp (Orc.nil _)) zrx (by simp[zuW]) fun w0 own0=> ?_
 have h:p.t.text.size≤1000000:=h
 simp only[zuW,Pa.enc,Yl,h,go_sem,zd,seval,reduceIte,reduceCtorEq]
def Yz:Sum Tryz.prog:=⟨107,fun args=>args= [.agg (Pa.enc (dPa (args.getD 0 .any)))]∧Zh (dPa (args.getD 0 .any)),fun args=>vs (Yl (dPa (args.getD 0 .any))),fun args h=>by
 have:=zi3 (dPa (args.getD 0 .any)) h.2;rwa [←h.1]at this,true⟩
theorem zoV:Yz.f=107:=rfl
theorem zoU(args:List V):Yz.D args=(args= [.agg (Pa.enc (dPa (args.getD 0 .any)))]∧Zh (dPa (args.getD 0 .any))):=rfl
theorem zel:Yz.flat=true:=rfl
theorem zoW(args:List V):Yz.r args=vs (Yl (dPa (args.getD 0 .any))):=rfl
attribute [go_sem] zoV zoU zel zoW
def zxw:List ByteArray:=[⟨#[110,111,110,101]⟩,⟨#[97,117,116,111]⟩,⟨#[105,110,105,116,105,97,108]⟩,⟨#[105,110,104,101,114,105,116]⟩]
def qk(p:Pa):Bool:=decide (p.t.kind=2)&& !zmy zxw (Yl p)
def qe(p:Pa)(s:ByteArray):Bool:=decide (p.t.kind=2)&&decide (Yl p=s)
theorem ziA(a b c d:ByteArray):kL (.slc 1 [[.c (.string a)],[.c (.string b)],[.c (.string c)],[.c (.string d)]])= [a,b,c,d]:=zax [a,b,c,d]
theorem zm2(p:Pa)(h:Zh p):ze Tryz.prog 78 [.agg p.enc] (vb (qk p)):=by
 refine ze.of (Orc.cons Yz (Orc.cons Ki (Orc.nil _))) zvV (by simp[c78]) fun w0 own0=> ?_
 unfold qk zxw
 by_cases hk:p.t.kind=2
 ·simp only[c78,Pa.enc,hk,h,ju,ziA,zK,Pa.eta',go_sem,zd,seval,reduceIte,reduceCtorEq]
  exact⟨h,rfl⟩
 ·simp only[c78,Pa.enc,hk,h,go_sem,zd,seval,reduceIte,reduceCtorEq]
def Qd:Sum Tryz.prog:=⟨78,fun args=>args= [.agg (Pa.enc (dPa (args.getD 0 .any)))]∧Zh (dPa (args.getD 0 .any)),fun args=>vb (qk (dPa (args.getD 0 .any))),fun args h=>by
 have:=zm2 (dPa (args.getD 0 .any)) h.2;rwa [←h.1]at this,true⟩
theorem ztw:Qd.f=78:=rfl
theorem ztv(args:List V):Qd.D args=(args= [.agg (Pa.enc (dPa (args.getD 0 .any)))]∧Zh (dPa (args.getD 0 .any))):=rfl
theorem zgM:Qd.flat=true:=rfl
theorem ztx(args:List V):Qd.r args=vb (qk (dPa (args.getD 0 .any))):=rfl
attribute [go_sem] ztw ztv zgM ztx
theorem zsA(p:Pa)(s:ByteArray)(h:Zh p):ze Tryz.prog 77 [.agg p.enc,vs s] (vb (qe p s)):=by
 refine ze.of (Orc.cons Yz (Orc.nil _)) zvU (by simp[c77]) fun w0 own0=> ?_
 unfold qe
 by_cases hk:p.t.kind=2
 ·have h':Zh ⟨⟨2,p.t.text,p.t.n⟩,p.al⟩:=h
  have hs':Yl ⟨⟨2,p.t.text,p.t.n⟩,p.al⟩=Yl p:=rfl
  simp only[c77,Pa.enc,hk,h',hs',zK,go_sem,zd,seval,reduceIte,reduceCtorEq]
 ·simp only[c77,Pa.enc,hk,h,go_sem,zd,seval,reduceIte,reduceCtorEq]
def yZ:Sum Tryz.prog:=⟨77,fun args=>args= [.agg (Pa.enc (dPa (args.getD 0 .any))),vs ((args.getD 1 .any).str)]∧Zh (dPa (args.getD 0 .any)),fun args=>vb (qe (dPa (args.getD 0 .any)) ((args.getD 1 .any).str)),fun args h=>by
 have:=zsA (dPa (args.getD 0 .any)) ((args.getD 1 .any).str) h.2;rwa [←h.1]at this,true⟩
theorem zoo:yZ.f=77:=rfl
theorem zon(args:List V):yZ.D args=(args= [.agg (Pa.enc (dPa (args.getD 0 .any))),vs ((args.getD 1 .any).str)]∧Zh (dPa (args.getD 0 .any))):=rfl
theorem zd7:yZ.flat=true:=rfl
theorem zop(args:List V):yZ.r args=vb (qe (dPa (args.getD 0 .any)) ((args.getD 1 .any).str)):=rfl
attribute [go_sem] zoo zon zd7 zop
def okT(l:List Tok):Prop:=l.length≤1000000∧∀t∈l,t.text.size≤1000000
def Yn(l:List Tok):Option Pa:=match ptB l,pl l with|true,[p]=>some p|_,_=>none
theorem zaP{l:List Tok}{p:Pa}(h:Yn l=some p):ptB l=true∧pl l= [p]:=by
 unfold Yn at h
 split at h
 ·rename_i a b;cases h;exact⟨a,b⟩
 ·cases h
theorem zjf{l:List Tok}(h:Yn l=none):ptB l=false∨¬((pl l).length:Int)=1:=by
 unfold Yn at h
 split at h
 ·cases h
 ·rename_i hne
  cases hb:ptB l with
  |false=>exact .inl rfl
  |true=>
   right
   intro hl
   obtain⟨p,hp⟩:=List.length_eq_one_iff.1 (show(pl l).length=1 by omega)
   exact hne p hb hp
theorem XP{l:List Tok}(h:okT l):∀ {ks:List Int}{ps:List Part},yD l ks=some ps→∀p∈ps,p.t.text.size≤1000000∧∀m,p.ar=some m→okT m
 | [],ps,hp,p,hm=>by simp[yD]at hp;subst hp;cases hm
 |k::ks,ps,hp,p,hm=>by
  simp only[yD]at hp
  split at hp
  ·cases hp
  ·simp only[Option.map_eq_some_iff]at hp
   obtain⟨qs,hq,rfl⟩:=hp
   have ih:=XP h hq
   have hself:∀i:Nat,(l.getD i .zero).text.size≤1000000:=fun i=>by
    by_cases hi:i<l.length
    ·rw[List.getD_eq_getElem?_getD,List.getElem?_eq_getElem hi];exact h.2 _ (List.getElem_mem hi)
    ·rw[List.getD_eq_getElem?_getD,List.getElem?_eq_none (by omega)];decide
   split at hm
   ·exact ih p hm
   ·rcases List.mem_cons.1 hm with rfl|hm
    ·refine⟨hself _,fun m hmm=> ?_⟩
     unfold pAt at hmm
     simp only at hmm
     split at hmm
     ·cases hmm
      refine⟨by have:=h.1;simp;omega,fun t ht=>h.2 t (List.mem_of_mem_take (List.mem_of_mem_drop ht))⟩
     ·cases hmm
    ·exact ih p hm
theorem KZ{l:List Tok}(h:okT l):∀p∈pl l,Zh p∧okT p.al:=by
 intro p hp
 unfold pl at hp
 obtain⟨q,hq,rfl⟩:=List.mem_map.1 hp
 unfold ptL at hq
 cases hO:ptO l with
 |none=>rw[hO]at hq;cases hq
 |some qs=>
  rw[hO]at hq
  unfold ptO at hO
  split at hO
  ·cases hO
  ·obtain⟨h1,h2⟩:=XP h hO q hq
   refine⟨h1,?_⟩
   show okT (q.ar.getD [])
   cases ha:q.ar with
   |none=>exact⟨by simp,fun t ht=>by cases ht⟩
   |some m=>exact h2 m ha
def Z3(l:List Tok):Option Pa:=match Yn l with|some p=>if p.t.kind=2 then some p else none|none=>none
theorem zfb(F:Nat→Prop)(w:World)(v:Value)(h:PRep F w v (.tup [.agg [vi 0,vs ⟨#[]⟩,vi 0,zB],vb false])):PRep F w v (.tup [.agg [vi 0,vs ⟨#[]⟩,vi 0,.slc 3 (([]:List Tok).map Tok.enc)],vb false]):=by
 cases h with
 |tup cs _ hl hx=>
  refine .tup cs _ hl fun i hi=> ?_
  have:=hx i hi
  match i,hi with
  |0,_=>exact Sub.prep 2 (.agg [vi 0,vs ⟨#[]⟩,vi 0,zB]) _ _ (show Sub 2 _ (.agg [vi 0,vs ⟨#[]⟩,vi 0,.slc 3 (([]:List Tok).map Tok.enc)])from Or.inr ⟨Sub.rfl 1 _,Sub.rfl 1 _,Sub.rfl 1 _,Or.inr rfl,trivial⟩) this
  |1,_=>exact this
def Zq:Option Pa→V
 |some p=>.tup [.agg [vi p.t.kind,vs p.t.text,vi p.t.n,.slc 3 (p.al.map Tok.enc)],vb true]
 |none=>.tup [.agg [vi 0,vs ⟨#[]⟩,vi 0,.slc 3 (([]:List Tok).map Tok.enc)],vb false]
theorem zlw(l:List Tok)(h:okT l):ze Tryz.prog 109 [zk l] (Zq (Z3 l)):=by
 have h1:=h.1
 unfold Z3
 cases hO:Yn l with
 |none=>
  refine ze.rsub ?_ zfb
  refine ze.of (Orc.cons yr (Orc.nil _)) za7 (by simp[za6]) fun w0 own0=> ?_
  rcases zjf hO with hb|hn
  ·simp only[za6,zk,zh,h1,plV,hb,go_sem,zd,seval,reduceIte,reduceCtorEq]
   rfl
  ·cases hb:ptB l with
   |false=>
    simp only[za6,zk,zh,h1,plV,hb,go_sem,zd,seval,reduceIte,reduceCtorEq]
    rfl
   |true=>
    simp only[za6,zk,zh,h1,plV,hb,hn,go_sem,zd,seval,reduceIte,reduceCtorEq]
    rfl
 |some p=>
  obtain⟨hb,hp⟩:=zaP hO
  by_cases hk:p.t.kind=2
  ·simp only[hk,if_true,Zq]
   refine ze.of (Orc.cons yr (Orc.nil _)) za7 (by simp[za6]) fun w0 own0=> ?_
   simp only[za6,zk,zh,h1,plV,hb,hp,hk,Pa.enc,go_sem,zd,seval,reduceIte,reduceCtorEq]
   rfl
  ·simp only[hk,if_false,Zq]
   refine ze.rsub ?_ zfb
   refine ze.of (Orc.cons yr (Orc.nil _)) za7 (by simp[za6]) fun w0 own0=> ?_
   simp only[za6,zk,zh,h1,plV,hb,hp,hk,Pa.enc,go_sem,zd,seval,reduceIte,reduceCtorEq]
   rfl
def zdU:Sum Tryz.prog:=⟨109,fun args=>args= [zk (zj (args.getD 0 .any))]∧okT (zj (args.getD 0 .any)),fun args=>Zq (Z3 (zj (args.getD 0 .any))),fun args h=>by
 have:=zlw (zj (args.getD 0 .any)) h.2;rwa [←h.1]at this,false⟩
theorem ztq:zdU.f=109:=rfl
theorem ztp(args:List V):zdU.D args=(args= [zk (zj (args.getD 0 .any))]∧okT (zj (args.getD 0 .any))):=rfl
theorem zgr:zdU.flat=false:=rfl
theorem ztr(args:List V):zdU.r args=Zq (Z3 (zj (args.getD 0 .any))):=rfl
attribute [go_sem] ztq ztp zgr ztr
def WZ{α:Type}:List (ByteArray×α)→ByteArray→Option α
 | [],_=>none
 |p::r,s=>if s=p.1 then some p.2 else WZ r s
theorem KV{α:Type}(f:α→V)(s:ByteArray):∀L:List (ByteArray×α),mget (L.map fun p=>.string p.1) (L.map fun p=>f p.2) (.string s)=(WZ L s).map f
 | []=>rfl
 |p::r=>by
  have:(zN (.string p.1) (.string s)).1=true↔s=p.1:=by simp[zN];exact eq_comm
  simp only[List.map_cons,mget,WZ,this,KV f s r]
  split<;>rfl
def J4:List (ByteArray×Int):=[(⟨#[100,101,99,105,109,97,108]⟩,0),(⟨#[100,101,99,105,109,97,108,45,108,101,97,100,105,110,103,45,122,101,114,111]⟩,1),(⟨#[108,111,119,101,114,45,114,111,109,97,110]⟩,2),(⟨#[117,112,112,101,114,45,114,111,109,97,110]⟩,3),(⟨#[108,111,119,101,114,45,97,108,112,104,97]⟩,4),(⟨#[108,111,119,101,114,45,108,97,116,105,110]⟩,4),(⟨#[117,112,112,101,114,45,97,108,112,104,97]⟩,5),(⟨#[117,112,112,101,114,45,108,97,116,105,110]⟩,5),(⟨#[108,111,119,101,114,45,103,114,101,101,107]⟩,6),(⟨#[110,111,110,101]⟩,7)]
def zzr(s:ByteArray):Int:=(WZ J4 s).getD (-1)
def zjC(s:ByteArray):Int:=zzr (zO s)
theorem zw6(s:ByteArray)(h:s.size≤1000000):ze Tryz.prog 155 [vs s] (vi (zjC s)):=by
 refine ze.of (Orc.cons kp (Orc.nil _)) zrW (by simp[zrV]) fun w0 own0=> ?_
 unfold zjC zzr
 generalize hs:zO s=u
 have hm:=KV vi u J4
 generalize WZ J4 u=o at*
 simp only[J4,List.map_cons,List.map_nil]at hm
 cases o with
 |none=>
  simp only[Option.map_none]at hm
  simp only[zrV,h,hs,hm,go_sem,zd,seval,reduceIte,reduceCtorEq]
 |some n=>
  simp only[Option.map_some]at hm
  simp only[zrV,h,hs,hm,go_sem,zd,seval,reduceIte,reduceCtorEq]
def WB:Sum Tryz.prog:=⟨155,fun args=>args= [vs ((args.getD 0 .any).str)]∧(((args.getD 0 .any).str)).size≤1000000,fun args=>vi (zjC ((args.getD 0 .any).str)),fun args h=>by
 have:=zw6 ((args.getD 0 .any).str) h.2;rwa [←h.1]at this,true⟩
theorem zpN:WB.f=155:=rfl
theorem zpM(args:List V):WB.D args=(args= [vs ((args.getD 0 .any).str)]∧(((args.getD 0 .any).str)).size≤1000000):=rfl
theorem zeG:WB.flat=true:=rfl
theorem zpO(args:List V):WB.r args=vi (zjC ((args.getD 0 .any).str)):=rfl
attribute [go_sem] zpN zpM zeG zpO
theorem zsb(a n:Int)(s:ByteArray):dPa (.agg [.c (.int .i64 a),.c (.string s),.c (.int .i64 n),.slc 3 []])=⟨⟨a,s,n⟩,[]⟩:=rfl
theorem zwO(a n:Int)(l:List Tok):Zh ⟨⟨a,⟨#[]⟩,n⟩,l⟩:=by show ByteArray.size ⟨#[]⟩≤1000000;decide
theorem zia{l:List Tok}(h:okT l){p:Pa}(hp:Z3 l=some p):Zh p∧okT p.al∧Yn l=some p∧p.t.kind=2:=by
 unfold Z3 at hp
 cases hO:Yn l with
 |none=>rw[hO]at hp;cases hp
 |some q=>
  rw[hO]at hp
  simp only at hp
  split at hp
  ·rename_i hk
   cases hp
   have:=KZ h p (by rw[(zaP hO).2];simp)
   exact⟨this.1,this.2,rfl,hk⟩
  ·cases hp
def Jz:Option ByteArray→V
 |none=>.tup [vs ⟨#[]⟩,vb false]
 |some s=>.tup [vs s,vb true]
def zdm(p:Pa):Option ByteArray:=if qe p ⟨#[97,117,116,111]⟩=true then some ⟨#[]⟩else if qk p=true then some p.t.text else none
def qp(l:List Tok):Option ByteArray:=(Yn l).bind zdm
theorem zm1{p:Pa}(h:¬p.t.kind=2):zdm p=none:=by
 simp[zdm,qe,qk,h]
theorem zsU(l:List Tok)(h:okT l):ze Tryz.prog 80 [zk l] (Jz (qp l)):=by
 refine ze.of (Orc.cons zdU (Orc.cons yZ (Orc.cons Qd (Orc.nil _)))) zvX (by simp[c80]) fun w0 own0=> ?_
 unfold qp
 cases hA:Z3 l with
 |none=>
  have hN:(Yn l).bind zdm=none:=by
   unfold Z3 at hA
   cases hO:Yn l with
   |none=>rfl
   |some p=>
    rw[hO]at hA
    simp only at hA
    split at hA
    ·cases hA
    ·rename_i hk;exact zm1 hk
  rw[hN]
  simp only[c80,zk,zh,h,hA,Zq,Jz,zsb,zwO,Pa.enc,List.map_nil,go_sem,zd,seval,reduceIte,reduceCtorEq]
 |some p=>
  obtain⟨hp,_,hO,hk⟩:=zia h hA
  rw[hO,Option.bind_some]
  unfold zdm
  cases hi:qe p ⟨#[97,117,116,111]⟩with
  |true=>
   simp only[if_true]
   simp only[c80,zk,zh,h,hA,Zq,Jz,zK,Pa.etaT,Pa.eta',hp,hi,Pa.enc,go_sem,zd,seval,reduceIte,reduceCtorEq]
  |false=>
   cases hn:qk p with
   |true=>
    simp only[Bool.false_eq_true,if_false,if_true]
    simp only[c80,zk,zh,h,hA,Zq,Jz,zK,Pa.etaT,Pa.eta',hp,hi,hn,Pa.enc,go_sem,zd,seval,reduceIte,reduceCtorEq]
   |false=>
    simp only[Bool.false_eq_true,if_false]
    simp only[c80,zk,zh,h,hA,Zq,Jz,zK,Pa.etaT,Pa.eta',hp,hi,hn,Pa.enc,go_sem,zd,seval,reduceIte,reduceCtorEq]
def YW:Sum Tryz.prog:=⟨80,fun args=>args= [zk (zj (args.getD 0 .any))]∧okT (zj (args.getD 0 .any)),fun args=>Jz (qp (zj (args.getD 0 .any))),fun args h=>by
 have:=zsU (zj (args.getD 0 .any)) h.2;rwa [←h.1]at this,false⟩
theorem zkq:YW.f=80:=rfl
theorem zkp(args:List V):YW.D args=(args= [zk (zj (args.getD 0 .any))]∧okT (zj (args.getD 0 .any))):=rfl
theorem zb5:YW.flat=false:=rfl
theorem zkr(args:List V):YW.r args=Jz (qp (zj (args.getD 0 .any))):=rfl
attribute [go_sem] zkq zkp zb5 zkr
theorem Q3(o:Option ByteArray):Jz o= .tup [vs (o.getD ⟨#[]⟩),vb o.isSome]:=by cases o<;>rfl
structure Itm where
 kind:Int
 text:ByteArray
 name:ByteArray
 style:Int
 which:Int
instance:Inhabited Itm:=⟨⟨0,⟨#[]⟩,⟨#[]⟩,0,0⟩⟩
def Itm.zero:Itm:=⟨0,⟨#[]⟩,⟨#[]⟩,0,0⟩
def Itm.enc(x:Itm):List V:=[vi x.kind,vs x.text,vs x.name,vi x.style,vi x.which]
def qn(l:List Itm):V:=.slc 5 (l.map Itm.enc)
def zur(e:List V):Itm:=⟨(e.getD 0 .any).int,(e.getD 1 .any).str,(e.getD 2 .any).str,(e.getD 3 .any).int,(e.getD 4 .any).int⟩
def Xd(v:V):Itm:=zur v.cs
def Y5(v:V):List Itm:=v.es.map zur
theorem jf(a d e:Int)(b c:ByteArray):Xd (.agg [.c (.int .i64 a),.c (.string b),.c (.string c),.c (.int .i64 d),.c (.int .i64 e)])=⟨a,b,c,d,e⟩:=rfl
theorem KH(sz:Nat)(l:List Itm):Y5 (.slc sz (l.map Itm.enc))=l:=by
 simp only[Y5,V.es,List.map_map]
 conv=>rhs;rw[←List.map_id l]
 apply List.map_congr_left
 intro s _
 rfl
theorem Itm.eta'(x:Itm):(⟨x.kind,x.text,x.name,x.style,x.which⟩:Itm)=x:=rfl
theorem ziJ(l:List Itm)(i:Nat):(l.map Itm.enc).getD i [vi 0,vs ⟨#[]⟩,vs ⟨#[]⟩,vi 0,vi 0]=(l.getD i default).enc:=by
 by_cases h:i<l.length
 ·simp[List.getD_eq_getElem?_getD,h]
 ·simp[List.getD_eq_getElem?_getD,h];rfl
theorem zdf(S:Nat→Bool)(h:Heap)(l:List Itm):zz (zz (res S h 11)) (l.map Itm.enc)=some (l.map Itm.enc):=yK S h 10 _ (fun _=>rfl) l
theorem zde(S:Nat→Bool)(h:Heap)(l:List Itm):zz (zz (res S h 10)) (l.map Itm.enc)=some (l.map Itm.enc):=yK S h 9 _ (fun _=>rfl) l
def J6:Nat→List Pa→Bool
 |_,[]=>true
 |i,p::l=>(decide (i % 2=1)==decide (p.t.kind=16))&&J6 (i+1) l
def evn:Nat→List Pa→List Pa
 |_,[]=>[]
 |i,p::l=>if i % 2=0 then p::evn (i+1) l else evn (i+1) l
def ZS(p:Pa):Bool:=ptB p.al&&decide ((pl p.al).length % 2=1)&&J6 0 (pl p.al)
def J8(p:Pa):List Pa:=evn 0 (pl p.al)
theorem zbk:∀(l:List Pa)(i:Nat),∀x∈evn i l,x∈l
 | [],i,x,h=>by simp[evn]at h
 |p::l,i,x,h=>by
  simp only[evn]at h
  split at h
  ·rcases List.mem_cons.1 h with rfl|h
   ·simp
   ·exact List.mem_cons_of_mem _ (zbk l _ x h)
  ·exact List.mem_cons_of_mem _ (zbk l _ x h)
def JF:ByteArray:=⟨#[99,111,117,110,116,101,114]⟩
def KB:ByteArray:=⟨#[99,111,117,110,116,101,114,115]⟩
def WG:ByteArray:=⟨#[115,116,114,105,110,103]⟩
def JG:ByteArray:=⟨#[101,108,101,109,101,110,116]⟩
def zeP:ByteArray:=⟨#[97,116,116,114]⟩
def jL:ByteArray:=⟨#[99,111,110,116,101,110,116]⟩
def whs:List ByteArray:=[⟨#[102,105,114,115,116]⟩,⟨#[115,116,97,114,116]⟩,⟨#[108,97,115,116]⟩,⟨#[102,105,114,115,116,45,101,120,99,101,112,116]⟩]
def whN(s:ByteArray):Int:=ixS (⟨#[]⟩::whs) (zO s)
def stV(x:Itm):List Pa→Itm×Bool
 | []=>(x,true)
 |q::r=>(⟨x.kind,x.text,x.name,zjC q.t.text,x.which⟩,decide (r= [])&&decide (q.t.kind=2)&&decide (0≤zjC q.t.text))
def chV(x:Itm):List Pa→Itm×Bool
 | []=>(⟨x.kind,x.text,x.name,x.style,1⟩,true)
 |q::r=>(⟨x.kind,x.text,x.name,x.style,whN q.t.text⟩,decide (r= [])&&decide (q.t.kind=2)&&decide (0<whN q.t.text))
def zcG(t:Tok):Option Int:=if t.kind=8∧t.n.tmod 1000=0 then some (min (max (t.n.tdiv 1000) (-2147483648)) 2147483647)else none
def kF:Option Int→V
 |none=>.tup [vi 0,vb false]
 |some n=>.tup [vi n,vb true]
theorem Zv(o:Option Int):kF o= .tup [vi (o.getD 0),vb o.isSome]:=by cases o<;>rfl
def okI(n:Int):Prop:= -9223372036854775808≤n∧n≤9223372036854775807
theorem zpY{n:Int}(h:okI n): -9223372036854775808≤n.tdiv 1000∧n.tdiv 1000≤9223372036854775807:=by
 unfold okI at h
 rcases Int.lt_or_le n 0 with h0|h0
 ·have:n.tdiv 1000= -((-n).tdiv 1000):=by rw[Int.neg_tdiv];omega
  rw[this,Int.tdiv_eq_ediv_of_nonneg (by omega)];omega
 ·rw[Int.tdiv_eq_ediv_of_nonneg h0];omega
theorem zlZ(p:Pa)(hn:okI p.t.n):ze Tryz.prog 79 [.agg p.enc] (kF (zcG p.t)):=by
 refine ze.of (Orc.nil _) zvW (by simp[c79]) fun w0 own0=> ?_
 unfold zcG
 have hr:=zpY hn
 by_cases h1:p.t.kind=8
 ·by_cases h2:p.t.n.tmod 1000=0
  ·rw[if_pos ⟨h1,h2⟩]
   simp only[c79,Pa.enc,h1,h2,kF,go_sem,zd,reduceCtorEq,reduceIte,Nat.reduceEqDiff,Nat.reduceAdd,Nat.reduceSub,Nat.reduceMul,Nat.reduceLT,Nat.reduceLeDiff,Nat.reduceBEq,Int.reduceEq,Int.reduceLT,Int.reduceLE,Int.reduceAdd,Int.reduceSub,Int.reduceNeg,Int.reduceToNat]
   exact⟨by omega,hr,by omega⟩
  ·rw[if_neg (fun h=>h2 h.2)]
   simp only[c79,Pa.enc,h1,h2,kF,go_sem,zd,reduceCtorEq,reduceIte,Nat.reduceEqDiff,Nat.reduceAdd,Nat.reduceSub,Nat.reduceMul,Nat.reduceLT,Nat.reduceLeDiff,Nat.reduceBEq,Int.reduceEq,Int.reduceLT,Int.reduceLE,Int.reduceAdd,Int.reduceSub,Int.reduceNeg,Int.reduceToNat]
   omega
 ·rw[if_neg (fun h=>h1 h.1)]
  simp only[c79,Pa.enc,h1,kF,go_sem,zd,reduceCtorEq,reduceIte,Nat.reduceEqDiff,Nat.reduceAdd,Nat.reduceSub,Nat.reduceMul,Nat.reduceLT,Nat.reduceLeDiff,Nat.reduceBEq,Int.reduceEq,Int.reduceLT,Int.reduceLE,Int.reduceAdd,Int.reduceSub,Int.reduceNeg,Int.reduceToNat]
def Yv:Sum Tryz.prog:=⟨79,fun args=>args= [.agg (Pa.enc (dPa (args.getD 0 .any)))]∧okI ((dPa (args.getD 0 .any))).t.n,fun args=>kF (zcG ((dPa (args.getD 0 .any))).t),fun args h=>by
 have:=zlZ (dPa (args.getD 0 .any)) h.2;rwa [←h.1]at this,false⟩
theorem zoc:Yv.f=79:=rfl
theorem zob(args:List V):Yv.D args=(args= [.agg (Pa.enc (dPa (args.getD 0 .any)))]∧okI ((dPa (args.getD 0 .any))).t.n):=rfl
theorem zd3:Yv.flat=false:=rfl
theorem zod(args:List V):Yv.r args=kF (zcG ((dPa (args.getD 0 .any))).t):=rfl
attribute [go_sem] zoc zob zd3 zod
theorem zp6(b:Bool)(F:Nat→Prop)(w:World)(v:Value)(h:PRep F w v (.tup [zB,vb b])):PRep F w v (.tup [pas [],vb b]):=by
 cases h with
 |tup cs _ hl hx=>
  refine .tup cs _ hl fun i hi=> ?_
  have:=hx i hi
  match i,hi with
  |0,_=>exact PRep.nilS 4 this
  |1,_=>exact this
theorem Yq(l:List Pa)(k:Nat)(h:k<l.length):l.drop k=l.getD k default::l.drop (k+1):=by
 rw[List.getD_eq_getElem?_getD,List.getElem?_eq_getElem h,Option.getD_some,List.drop_eq_getElem_cons h]
theorem zds(ends:List Int)(to:Int):∀(f:Nat)(k:Int),(plR ends to f k).length≤f
 |0,_=>Nat.le_refl _
 |f+1,k=>by
  simp only[plR]
  split
  ·have:=zds ends to f (skip ends k);simp;omega
  ·simp
theorem XO(l:List Tok):∀(ks:List Int)(ps:List Part),yD l ks=some ps→ps.length≤ks.length
 | [],ps,h=>by simp[yD]at h;subst h;simp
 |k::ks,ps,h=>by
  simp only[yD]at h
  split at h
  ·cases h
  ·simp only[Option.map_eq_some_iff]at h
   obtain⟨qs,hq,rfl⟩:=h
   have:=XO l ks qs hq
   split<;>simp<;>omega
theorem Qs(l:List Tok):(pl l).length≤l.length+1:=by
 unfold pl ptL
 cases hO:ptO l with
 |none=>simp
 |some ps=>
  unfold ptO at hO
  split at hO
  ·cases hO
  ·have h1:=XO l _ _ hO
   have h2:=zds (zy l) l.length (l.length+1) 0
   simp;omega
theorem zhC:∀(l:List Pa)(i:Nat),(evn i l).length≤l.length
 | [],i=>by simp[evn]
 |p::l,i=>by
  have:=zhC l (i+1)
  simp only[evn]
  split<;>simp<;>omega
def arR(L:List Pa)(b:Bool):V:=bif J6 0 L then .tup [pas (evn 0 L),vb b]else .tup [zB,vb false]
def QC(p:Pa):V:=.tup [pas (if J6 0 (pl p.al)=true then evn 0 (pl p.al)else[]),vb (ZS p)]
structure ArS where
 k:Nat
 out:List Pa
 ver:Nat
 clk:Nat
theorem zuE(k:Nat):(k:Int).tmod 2=((k % 2:Nat):Int):=by
 rw[Int.tmod_eq_emod_of_nonneg (by omega)];omega
theorem zuK(p:Pa)(h:okT p.al):ze Tryz.prog 131 [.agg p.enc] (arR (pl p.al) (ZS p)):=by
 refine ze.of (Orc.cons yr (Orc.nil _)) zrL (by simp[zvb]) fun w0 own0=> ?_
 have h1:=h.1
 have hB:ZS p=(ptB p.al&&decide ((pl p.al).length % 2=1)&&J6 0 (pl p.al)):=rfl
 generalize hb:ZS p=b at*
 simp only[zvb,Pa.enc,zh,zk,h1,plV,go_sem,zd,reduceCtorEq,reduceIte,Nat.reduceEqDiff,Nat.reduceAdd,Nat.reduceSub,Nat.reduceMul,Nat.reduceLT,Nat.reduceLeDiff,Nat.reduceBEq,Int.reduceEq,Int.reduceLT,Int.reduceLE,Int.reduceAdd,Int.reduceSub,Int.reduceNeg,Int.reduceToNat]
 have hLl:=Qs p.al
 generalize hL:pl p.al=L at*
 have hLn:L.length≤1000001:=by omega
 refine zD.lp (α:=ArS) (fun a=>[(4,.slc 4 (L.map Pa.enc)),(5,vb (ptB p.al)),(6,.ref 1 a.ver 0 a.out.length),(15,.slc 4 (L.map Pa.enc)),(16,vi L.length),(17,vi a.k)])
  (fun a=>⟨[⟨0,4,[p.enc],false,[]⟩,⟨a.ver,4,a.out.map Pa.enc,false,[vi 0,vs ⟨#[]⟩,vi 0,zB]⟩],a.clk⟩) (fun a=>a.k≤L.length∧a.out.length≤a.k∧J6 0 L=J6 a.k (L.drop a.k)∧a.out++evn a.k (L.drop a.k)=evn 0 L) (fun a=>L.length - a.k) ⟨0,[],1,2⟩
  ⟨Nat.zero_le _,Nat.zero_le _,rfl,rfl⟩ (St.nil 6 4 [vi 0,vs ⟨#[]⟩,vi 0,zB] (by simp[zo]) (St.cut ?_ ?_ ?_)) fun a ha=> ?_
 ·simp[zt,zo,zu]
 ·simp[Heap.alloc,Pa.enc]
 ·rfl
 obtain⟨k,out,ver,clk⟩:=a
 obtain⟨h1,h2,h3,h4⟩:=ha
 simp only at h1 h2 h3 h4
 by_cases hk:k=L.length
 ·subst hk
  rw[List.drop_length]at h3 h4
  simp only[J6,evn,List.append_nil]at h3 h4
  simp only[arR,h3,Int.lt_irrefl,List.take_length,XF,XD,kA,Nat.le_refl,zuE,h4,pas,hB,go_sem,zd,reduceCtorEq,reduceIte,Nat.reduceEqDiff,Nat.reduceAdd,Nat.reduceSub,Nat.reduceMul,Nat.reduceLT,Nat.reduceLeDiff,Nat.reduceBEq,Int.reduceEq,Int.reduceLT,Int.reduceLE,Int.reduceAdd,Int.reduceSub,Int.reduceNeg,Int.reduceToNat]
  refine⟨fun hh=>⟨hh,by omega⟩,?_⟩
  have:decide (((L.length % 2:Nat):Int)=1)=decide (L.length % 2=1):=decide_eq_decide.2 (by omega)
  rw[this]
 ·have e1:(k:Int)<(L.length:Int):=by omega
  have e0:(0:Int)≤(k:Int):=by omega
  have hlt:k<L.length:=by omega
  rw[Yq L k hlt]at h3 h4
  have hg:=kM L k [vi 0,vs ⟨#[]⟩,vi 0,zB] hlt
  generalize L.getD k default=x at*
  simp only[J6,evn]at h3 h4
  have hot:out.take out.length=out:=List.take_length
  simp only[e0,e1,hg,zuE,hot,Pa.enc,pas,go_sem,zd,reduceCtorEq,reduceIte,Nat.reduceEqDiff,Nat.reduceAdd,Nat.reduceSub,Nat.reduceMul,Nat.reduceLT,Nat.reduceLeDiff,Nat.reduceBEq,Int.reduceEq,Int.reduceLT,Int.reduceLE,Int.reduceAdd,Int.reduceSub,Int.reduceNeg,Int.reduceToNat]
  have hd1:decide (((k % 2:Nat):Int)=1)=decide (k % 2=1):=decide_eq_decide.2 (by omega)
  rw[hd1]
  refine⟨by omega,fun hc=> ?_,fun hc=>⟨by omega,fun hz=>⟨⟨by omega,by omega,by omega⟩,by omega,⟨k+1,out++ [x],clk+2,clk+3⟩,⟨by dsimp only;omega,by simp;omega,?_,?_⟩,by dsimp only;omega,⟨⟨rfl,by simp⟩,by dsimp only;omega⟩,⟨rfl,by simp[Pa.enc]⟩,rfl⟩,fun hz=>⟨by omega,⟨k+1,out,ver,clk+1⟩,⟨by dsimp only;omega,by dsimp only;omega,?_,?_⟩,by dsimp only;omega,⟨⟨rfl,rfl⟩,by dsimp only;omega⟩,⟨rfl,rfl⟩,rfl⟩⟩⟩
  ·rw[hc,Bool.false_and]at h3
   simp only[arR,h3,cond_false]
  ·rw[h3,hc,Bool.true_and]
  ·rw[←h4,if_pos (by omega)];simp
  ·rw[h3,hc,Bool.true_and]
  ·rw[←h4,if_neg (by omega)]
theorem zrk(p:Pa)(h:okT p.al):ze Tryz.prog 131 [.agg p.enc] (QC p):=by
 have:=zuK p h
 unfold arR at this
 unfold QC
 cases hA:J6 0 (pl p.al)with
 |true=>simpa[hA]using this
 |false=>
  have hB:ZS p=false:=by unfold ZS;rw[hA,Bool.and_false]
  rw[hA,cond_false]at this
  rw[hB,if_neg (by simp)]
  exact ze.rsub this (zp6 false)
def Kc:Sum Tryz.prog:=⟨131,fun args=>args= [.agg (Pa.enc (dPa (args.getD 0 .any)))]∧okT ((dPa (args.getD 0 .any))).al,fun args=>QC (dPa (args.getD 0 .any)),fun args h=>by
 have:=zrk (dPa (args.getD 0 .any)) h.2;rwa [←h.1]at this,false⟩
theorem zjJ:Kc.f=131:=rfl
theorem zjI(args:List V):Kc.D args=(args= [.agg (Pa.enc (dPa (args.getD 0 .any)))]∧okT ((dPa (args.getD 0 .any))).al):=rfl
theorem zbS:Kc.flat=false:=rfl
theorem zjK(args:List V):Kc.r args=QC (dPa (args.getD 0 .any)):=rfl
attribute [go_sem] zjJ zjI zbS zjK
def stp(n:Int):Int:=min (max n (-1099511627776)) 1099511627776
theorem ztn(n:Int): -1099511627776≤stp n∧stp n≤1099511627776:=by unfold stp;omega
theorem ztm(n:Int):ze Tryz.prog 98 [vi n] (vi (stp n)):=by
 refine ze.of (Orc.nil _) zv5 (by simp[c98]) fun w0 own0=> ?_
 simp only[c98,stp,go_sem,zd,seval,reduceIte,reduceCtorEq]
def Kv:Sum Tryz.prog:=⟨98,fun args=>args= [vi ((args.getD 0 .any).int)],fun args=>vi (stp ((args.getD 0 .any).int)),fun args h=>by
 have:=ztm ((args.getD 0 .any).int);rwa [←h]at this,true⟩
theorem zkz:Kv.f=98:=rfl
theorem zky(args:List V):Kv.D args=(args= [vi ((args.getD 0 .any).int)]):=rfl
theorem zb8:Kv.flat=true:=rfl
theorem zkA(args:List V):Kv.r args=vi (stp ((args.getD 0 .any).int)):=rfl
attribute [go_sem] zkz zky zb8 zkA
def jy:List (ByteArray×(Int×Int)):=[(⟨#[112,120]⟩,(1,1)),(⟨#[112,116]⟩,(4,3)),(⟨#[105,110]⟩,(96,1)),(⟨#[99,109]⟩,(9600,254)),(⟨#[109,109]⟩,(960,254)),(⟨#[112,99]⟩,(16,1))]
def zc7(t:Tok):Option Int:=if t.kind=8∧t.n=0 then some 0 else if t.kind=10 then(WZ jy (zO t.text)).map fun u=>stp ((stp t.n*u.1).tdiv u.2)else none
def uV(u:Int×Int):V:=.agg [vi u.1,vi u.2]
def okU(u:Int×Int):Prop:=(u.1=1∨u.1=4∨u.1=96∨u.1=9600∨u.1=960∨u.1=16)∧(u.2=1∨u.2=3∨u.2=254)
theorem zdb{α:Type}{s:ByteArray}{u:α}:∀ {L:List (ByteArray×α)},WZ L s=some u→∃p∈L,p.2=u
 | [],h=>by cases h
 |p::r,h=>by
  simp only[WZ]at h
  split at h
  ·exact⟨p,by simp,by simpa using h⟩
  ·obtain⟨q,hq,e⟩:=zdb h;exact⟨q,by simp[hq],e⟩
theorem ztK{s:ByteArray}{u:Int×Int}(h:WZ jy s=some u):okU u:=by
 obtain⟨p,hp,rfl⟩:=zdb h
 have:∀p∈jy,okU p.2:=by
  intro p hp
  unfold jy at hp
  simp only[List.mem_cons,List.not_mem_nil,or_false]at hp
  rcases hp with rfl|rfl|rfl|rfl|rfl|rfl<;>simp[okU]
 exact this p hp
theorem zsS{n:Int}{u:Int×Int}(hu:okU u):(-9223372036854775808≤stp n*u.1∧stp n*u.1≤9223372036854775807)∧(-9223372036854775808≤(stp n*u.1).tdiv u.2∧(stp n*u.1).tdiv u.2≤9223372036854775807)∧u.2≠0:=by
 have h:=ztn n
 generalize stp n=m at*
 obtain⟨a,b⟩:=u
 obtain⟨h1,h2⟩:=hu
 simp only at h1 h2⊢
 have hm: -10555311626649600≤m*a∧m*a≤10555311626649600:=by
  rcases h1 with rfl|rfl|rfl|rfl|rfl|rfl<;>omega
 generalize m*a=x at*
 have hd:∀c:Int,0<c→ -10555311626649600≤x.tdiv c∧x.tdiv c≤10555311626649600:=by
  intro c hc
  rcases Int.lt_or_le x 0 with h0|h0
  ·have e:x.tdiv c= -((-x).tdiv c):=by rw[Int.neg_tdiv];omega
   rw[e,Int.tdiv_eq_ediv_of_nonneg (by omega)]
   have a1:=Int.ediv_le_self (a:= -x) c (by omega)
   have a2:=Int.ediv_nonneg (a:= -x) (b:=c) (by omega) (by omega)
   omega
  ·rw[Int.tdiv_eq_ediv_of_nonneg h0]
   have a1:=Int.ediv_le_self (a:=x) c (by omega)
   have a2:=Int.ediv_nonneg (a:=x) (b:=c) (by omega) (by omega)
   omega
 have:=hd b (by rcases h2 with rfl|rfl|rfl<;>omega)
 refine⟨by omega,by omega,by rcases h2 with rfl|rfl|rfl<;>omega⟩
theorem ziZ(t:Tok)(h:t.text.size≤1000000):ze Tryz.prog 68 [.agg t.enc] (kF (zc7 t)):=by
 refine ze.of (Orc.cons kp (Orc.cons Kv (Orc.nil _))) zvN (by simp[c68]) fun w0 own0=> ?_
 unfold zc7
 have hm:=KV uV (zO t.text) jy
 have hu:=@ztK (zO t.text)
 generalize WZ jy (zO t.text)=o at*
 simp only[jy,uV,List.map_cons,List.map_nil]at hm
 by_cases c8:t.kind=8∧t.n=0
 ·rw[if_pos c8]
  simp only[c68,Tok.enc,c8.1,c8.2,kF,go_sem,zd,seval,reduceIte,reduceCtorEq]
 rw[if_neg c8]
 have c8':t.kind=8→¬t.n=0:=fun a b=>c8 ⟨a,b⟩
 by_cases c10:t.kind=10
 ·rw[if_pos c10]
  have c88:¬((10:Int)=8):=by omega
  cases o with
  |none=>
   simp only[Option.map_none]at hm⊢
   simp only[c68,Tok.enc,c10,c88,h,hm,kF,go_sem,zd,seval,reduceIte,reduceCtorEq]
  |some u=>
   obtain⟨r1,r2,r3⟩:=zsS (n:=t.n) (hu rfl)
   obtain⟨a,b⟩:=u
   simp only[Option.map_some,uV]at hm⊢
   simp only[c68,Tok.enc,c10,c88,h,hm,kF,go_sem,zd,seval,reduceIte,reduceCtorEq]
   exact⟨r1,r2,r3⟩
 ·rw[if_neg c10]
  cases o with
  |none=>
   simp only[Option.map_none]at hm
   simp only[c68,Tok.enc,c10,h,hm,kF,go_sem,zd,seval,reduceIte,reduceCtorEq]
   by_cases k8:t.kind=8
   ·simp[k8,c8' k8]
   ·simp[k8]
  |some u=>
   obtain⟨a,b⟩:=u
   simp only[Option.map_some,uV]at hm
   simp only[c68,Tok.enc,c10,h,hm,kF,go_sem,zd,seval,reduceIte,reduceCtorEq]
   by_cases k8:t.kind=8
   ·simp[k8,c8' k8]
   ·simp[k8]
def K9:Sum Tryz.prog:=⟨68,fun args=>args= [.agg (Tok.enc (qP (args.getD 0 .any)))]∧((qP (args.getD 0 .any))).text.size≤1000000,fun args=>kF (zc7 (qP (args.getD 0 .any))),fun args h=>by
 have:=ziZ (qP (args.getD 0 .any)) h.2;rwa [←h.1]at this,false⟩
theorem zoG:K9.f=68:=rfl
theorem zoF(args:List V):K9.D args=(args= [.agg (Tok.enc (qP (args.getD 0 .any)))]∧((qP (args.getD 0 .any))).text.size≤1000000):=rfl
theorem zeg:K9.flat=false:=rfl
theorem zoH(args:List V):K9.r args=kF (zc7 (qP (args.getD 0 .any))):=rfl
attribute [go_sem] zoG zoF zeg zoH
def JM:List Pa→Option (List Int)
 | []=>some []
 |p::l=>match zc7 p.t with|none=>none|some n=>(JM l).map (n:: ·)
def Ju:List Int→List Int
 | [a]=>[a,a,a,a]
 | [a,b]=>[a,b,a,b]
 | [a,b,c]=>[a,b,c,b]
 |l=>l
def QZ(l:List Tok):Option (List Int):=if ptB l=true∧1≤(pl l).length∧(pl l).length≤4 then(JM (pl l)).map Ju else none
def WY:Option (List Int)→V
 |none=>.tup [zB,vb false]
 |some l=>.tup [zJ l,vb true]
def JN(o:Option (List Int)):V:=.tup [zJ (o.getD []),vb o.isSome]
theorem zmS(o:Option (List Int)){f:FuncId}{args:List V}(h:ze Tryz.prog f args (WY o)):ze Tryz.prog f args (JN o):=by
 cases o with
 |some l=>exact h
 |none=>
  refine ze.rsub h fun F w v hp=> ?_
  cases hp with
  |tup cs _ hl hx=>
   refine .tup cs _ hl fun i hi=> ?_
   have:=hx i hi
   match i,hi with
   |0,_=>exact PRep.nilS 1 this
   |1,_=>exact this
theorem zda:∀(l:List Pa)(n:List Int),JM l=some n→n.length=l.length
 | [],n,h=>by simp[JM]at h;subst h;rfl
 |p::l,n,h=>by
  simp only[JM]at h
  split at h
  ·cases h
  ·simp only[Option.map_eq_some_iff]at h
   obtain⟨m,hm,rfl⟩:=h
   simp[zda l m hm]
structure LnS where
 k:Nat
 out:List Int
 ver:Nat
 clk:Nat
theorem zi0(L:List Pa)(k:Nat)(h:k<L.length):JM (L.drop k)=match zc7 (L.getD k default).t with|none=>none|some n=>(JM (L.drop (k+1))).map (n:: ·):=by
 rw[Yq L k h];rfl
theorem zfO(l:List Tok)(h:okT l):ze Tryz.prog 28 [zk l] (WY (QZ l)):=by
 refine ze.of (Orc.cons yr (Orc.cons K9 (Orc.nil _))) zvq (by simp[c28]) fun w0 own0=> ?_
 have h1:=h.1
 have hm:=KZ h
 unfold QZ
 have hlen:=Qs l
 by_cases hc:ptB l=true∧1≤(pl l).length∧(pl l).length≤4
 ·rw[if_pos hc]
  obtain⟨c1,c2,c3⟩:=hc
  generalize hL:pl l=L at*
  generalize hR:(JM L).map Ju=R
  have g1:¬((L.length:Int)<1):=by omega
  have g2:¬((4:Int)<(L.length:Int)):=by omega
  have g3:¬((L.length:Int)=0):=by omega
  simp only[c28,zk,zh,h1,plV,hL,c1,g1,g2,g3,go_sem,zd,seval,reduceIte,reduceCtorEq]
  refine zD.lp (α:=LnS) (fun a=>[(6,.ref 0 a.ver 0 a.out.length),(4,.slc 4 (L.map Pa.enc)),(32,.slc 4 (L.map Pa.enc)),(33,vi L.length),(34,vi a.k)])
   (fun a=>⟨[⟨a.ver,1,a.out.map fun n=>[vi n],false,[vi 0]⟩],a.clk⟩) (fun a=>a.k≤L.length∧a.out.length=a.k∧((JM (L.drop a.k)).map (a.out++ ·)).map Ju=R) (fun a=>L.length - a.k) ⟨0,[],0,1⟩
   ⟨Nat.zero_le _,rfl,by rw[←hR];simp only[List.drop_zero,List.nil_append];cases JM L<;>rfl⟩ (St.nil 6 1 [vi 0] (by simp[zo]) (St.cut ?_ ?_ ?_)) fun a ha=> ?_
  ·simp[zt,zo,zu]
  ·simp[Heap.alloc]
  ·rfl
  obtain⟨k,out,ver,clk⟩:=a
  obtain⟨h2,h3,h4⟩:=ha
  simp only at h2 h3 h4
  by_cases hk:k=L.length
  ·subst hk
   rw[List.drop_length]at h4
   simp only[JM,Option.map_some,List.append_nil]at h4
   subst h4
   have hcase:(∃a,out= [a])∨(∃a b,out= [a,b])∨(∃a b c,out= [a,b,c])∨∃a b c d,out= [a,b,c,d]:=by
    match out,h3 with
    | [],h3=>simp at h3;omega
    | [a],_=>exact .inl ⟨a,rfl⟩
    | [a,b],_=>exact .inr (.inl ⟨a,b,rfl⟩)
    | [a,b,c],_=>exact .inr (.inr (.inl ⟨a,b,c,rfl⟩))
    | [a,b,c,d],_=>exact .inr (.inr (.inr ⟨a,b,c,d,rfl⟩))
    |_::_::_::_::_::r,h3=>simp at h3;omega
   rcases hcase with⟨a,rfl⟩|⟨a,b,rfl⟩|⟨a,b,c,rfl⟩|⟨a,b,c,d,rfl⟩
   ·have hLn:(L.length:Int)=1:=by rw[←h3];rfl
    simp only[Int.lt_irrefl,Ju,WY,zJ,List.map_cons,List.map_nil,go_sem,zd,seval,reduceIte,reduceCtorEq]
    refine zD.lp (α:=LnS) (fun s=>[(6,.ref 0 ver 0 1),(12,.ref 6 s.ver 0 s.k),(61,.ref 1 clk 0 4),(62,vi 4),(63,vi s.k)])
     (fun s=>⟨[⟨ver,1,[[vi a]],false,[vi 0]⟩,⟨clk,1,[[vi 0],[vi 0],[vi 0],[vi 0]],false,[vi 0]⟩,⟨clk+1,1,[[vi 0],[vi 1],[vi 0],[vi 1]],false,[vi 0]⟩,⟨clk+1+1,1,[[vi 0],[vi 1],[vi 2],[vi 1]],false,[vi 0]⟩,⟨clk+1+1+1,1,[[vi 0],[vi 1],[vi 2],[vi 3]],false,[vi 0]⟩,⟨clk+1+1+1+1,1,[[.ref 1 clk 0 4],[.ref 2 (clk+1) 0 4],[.ref 3 (clk+1+1) 0 4],[.ref 4 (clk+1+1+1) 0 4]],false,[zB]⟩,⟨s.ver,1,(([a,a,a,a]:List Int).take s.k).map fun n=>[vi n],false,[vi 0]⟩],s.clk⟩) (fun s=>s.k≤4) (fun s=>4 - s.k) ⟨0,[],clk+1+1+1+1+1,clk+1+1+1+1+1+1⟩
     (by dsimp only;omega) (St.nil 12 1 [vi 0] (by simp[zo]) (St.cut ?_ ?_ ?_)) fun s hs=> ?_
    ·simp[zt,zo,yl]
    ·simp[Heap.alloc]
    ·rfl
    obtain⟨k2,o2,v2,clk2⟩:=s
    simp only at hs
    rcases(show k2=0∨k2=1∨k2=2∨k2=3∨k2=4 by omega)with rfl|rfl|rfl|rfl|rfl
    all_goals simp only[List.take_zero,List.take_succ_cons,List.take_nil,List.map_cons,List.map_nil,go_sem,zd,seval,reduceIte,reduceCtorEq]
    ·exact⟨⟨1,[],clk2+1,clk2+1+1⟩,by dsimp only;omega,by dsimp only;omega,⟨⟨rfl,rfl⟩,rfl⟩,⟨rfl,rfl⟩,rfl⟩
    ·exact⟨⟨2,[],clk2+1,clk2+1+1⟩,by dsimp only;omega,by dsimp only;omega,⟨⟨rfl,rfl⟩,rfl⟩,⟨rfl,rfl⟩,rfl⟩
    ·exact⟨⟨3,[],clk2+1,clk2+1+1⟩,by dsimp only;omega,by dsimp only;omega,⟨⟨rfl,rfl⟩,rfl⟩,⟨rfl,rfl⟩,rfl⟩
    ·exact⟨⟨4,[],clk2+1,clk2+1+1⟩,by dsimp only;omega,by dsimp only;omega,⟨⟨rfl,rfl⟩,rfl⟩,⟨rfl,rfl⟩,rfl⟩
   ·have hLn:(L.length:Int)=2:=by rw[←h3];rfl
    simp only[Int.lt_irrefl,Ju,WY,zJ,List.map_cons,List.map_nil,go_sem,zd,seval,reduceIte,reduceCtorEq]
    refine zD.lp (α:=LnS) (fun s=>[(6,.ref 0 ver 0 2),(12,.ref 6 s.ver 0 s.k),(61,.ref 2 (clk+1) 0 4),(62,vi 4),(63,vi s.k)])
     (fun s=>⟨[⟨ver,1,[[vi a],[vi b]],false,[vi 0]⟩,⟨clk,1,[[vi 0],[vi 0],[vi 0],[vi 0]],false,[vi 0]⟩,⟨clk+1,1,[[vi 0],[vi 1],[vi 0],[vi 1]],false,[vi 0]⟩,⟨clk+1+1,1,[[vi 0],[vi 1],[vi 2],[vi 1]],false,[vi 0]⟩,⟨clk+1+1+1,1,[[vi 0],[vi 1],[vi 2],[vi 3]],false,[vi 0]⟩,⟨clk+1+1+1+1,1,[[.ref 1 clk 0 4],[.ref 2 (clk+1) 0 4],[.ref 3 (clk+1+1) 0 4],[.ref 4 (clk+1+1+1) 0 4]],false,[zB]⟩,⟨s.ver,1,(([a,b,a,b]:List Int).take s.k).map fun n=>[vi n],false,[vi 0]⟩],s.clk⟩) (fun s=>s.k≤4) (fun s=>4 - s.k) ⟨0,[],clk+1+1+1+1+1,clk+1+1+1+1+1+1⟩
     (by dsimp only;omega) (St.nil 12 1 [vi 0] (by simp[zo]) (St.cut ?_ ?_ ?_)) fun s hs=> ?_
    ·simp[zt,zo,yl]
    ·simp[Heap.alloc]
    ·rfl
    obtain⟨k2,o2,v2,clk2⟩:=s
    simp only at hs
    rcases(show k2=0∨k2=1∨k2=2∨k2=3∨k2=4 by omega)with rfl|rfl|rfl|rfl|rfl
    all_goals simp only[List.take_zero,List.take_succ_cons,List.take_nil,List.map_cons,List.map_nil,go_sem,zd,seval,reduceIte,reduceCtorEq]
    ·exact⟨⟨1,[],clk2+1,clk2+1+1⟩,by dsimp only;omega,by dsimp only;omega,⟨⟨rfl,rfl⟩,rfl⟩,⟨rfl,rfl⟩,rfl⟩
    ·exact⟨⟨2,[],clk2+1,clk2+1+1⟩,by dsimp only;omega,by dsimp only;omega,⟨⟨rfl,rfl⟩,rfl⟩,⟨rfl,rfl⟩,rfl⟩
    ·exact⟨⟨3,[],clk2+1,clk2+1+1⟩,by dsimp only;omega,by dsimp only;omega,⟨⟨rfl,rfl⟩,rfl⟩,⟨rfl,rfl⟩,rfl⟩
    ·exact⟨⟨4,[],clk2+1,clk2+1+1⟩,by dsimp only;omega,by dsimp only;omega,⟨⟨rfl,rfl⟩,rfl⟩,⟨rfl,rfl⟩,rfl⟩
   ·have hLn:(L.length:Int)=3:=by rw[←h3];rfl
    simp only[Int.lt_irrefl,Ju,WY,zJ,List.map_cons,List.map_nil,go_sem,zd,seval,reduceIte,reduceCtorEq]
    refine zD.lp (α:=LnS) (fun s=>[(6,.ref 0 ver 0 3),(12,.ref 6 s.ver 0 s.k),(61,.ref 3 (clk+1+1) 0 4),(62,vi 4),(63,vi s.k)])
     (fun s=>⟨[⟨ver,1,[[vi a],[vi b],[vi c]],false,[vi 0]⟩,⟨clk,1,[[vi 0],[vi 0],[vi 0],[vi 0]],false,[vi 0]⟩,⟨clk+1,1,[[vi 0],[vi 1],[vi 0],[vi 1]],false,[vi 0]⟩,⟨clk+1+1,1,[[vi 0],[vi 1],[vi 2],[vi 1]],false,[vi 0]⟩,⟨clk+1+1+1,1,[[vi 0],[vi 1],[vi 2],[vi 3]],false,[vi 0]⟩,⟨clk+1+1+1+1,1,[[.ref 1 clk 0 4],[.ref 2 (clk+1) 0 4],[.ref 3 (clk+1+1) 0 4],[.ref 4 (clk+1+1+1) 0 4]],false,[zB]⟩,⟨s.ver,1,(([a,b,c,b]:List Int).take s.k).map fun n=>[vi n],false,[vi 0]⟩],s.clk⟩) (fun s=>s.k≤4) (fun s=>4 - s.k) ⟨0,[],clk+1+1+1+1+1,clk+1+1+1+1+1+1⟩
     (by dsimp only;omega) (St.nil 12 1 [vi 0] (by simp[zo]) (St.cut ?_ ?_ ?_)) fun s hs=> ?_
    ·simp[zt,zo,yl]
    ·simp[Heap.alloc]
    ·rfl
    obtain⟨k2,o2,v2,clk2⟩:=s
    simp only at hs
    rcases(show k2=0∨k2=1∨k2=2∨k2=3∨k2=4 by omega)with rfl|rfl|rfl|rfl|rfl
    all_goals simp only[List.take_zero,List.take_succ_cons,List.take_nil,List.map_cons,List.map_nil,go_sem,zd,seval,reduceIte,reduceCtorEq]
    ·exact⟨⟨1,[],clk2+1,clk2+1+1⟩,by dsimp only;omega,by dsimp only;omega,⟨⟨rfl,rfl⟩,rfl⟩,⟨rfl,rfl⟩,rfl⟩
    ·exact⟨⟨2,[],clk2+1,clk2+1+1⟩,by dsimp only;omega,by dsimp only;omega,⟨⟨rfl,rfl⟩,rfl⟩,⟨rfl,rfl⟩,rfl⟩
    ·exact⟨⟨3,[],clk2+1,clk2+1+1⟩,by dsimp only;omega,by dsimp only;omega,⟨⟨rfl,rfl⟩,rfl⟩,⟨rfl,rfl⟩,rfl⟩
    ·exact⟨⟨4,[],clk2+1,clk2+1+1⟩,by dsimp only;omega,by dsimp only;omega,⟨⟨rfl,rfl⟩,rfl⟩,⟨rfl,rfl⟩,rfl⟩
   ·have hLn:(L.length:Int)=4:=by rw[←h3];rfl
    simp only[Int.lt_irrefl,Ju,WY,zJ,List.map_cons,List.map_nil,go_sem,zd,seval,reduceIte,reduceCtorEq]
    refine zD.lp (α:=LnS) (fun s=>[(6,.ref 0 ver 0 4),(12,.ref 6 s.ver 0 s.k),(61,.ref 4 (clk+1+1+1) 0 4),(62,vi 4),(63,vi s.k)])
     (fun s=>⟨[⟨ver,1,[[vi a],[vi b],[vi c],[vi d]],false,[vi 0]⟩,⟨clk,1,[[vi 0],[vi 0],[vi 0],[vi 0]],false,[vi 0]⟩,⟨clk+1,1,[[vi 0],[vi 1],[vi 0],[vi 1]],false,[vi 0]⟩,⟨clk+1+1,1,[[vi 0],[vi 1],[vi 2],[vi 1]],false,[vi 0]⟩,⟨clk+1+1+1,1,[[vi 0],[vi 1],[vi 2],[vi 3]],false,[vi 0]⟩,⟨clk+1+1+1+1,1,[[.ref 1 clk 0 4],[.ref 2 (clk+1) 0 4],[.ref 3 (clk+1+1) 0 4],[.ref 4 (clk+1+1+1) 0 4]],false,[zB]⟩,⟨s.ver,1,(([a,b,c,d]:List Int).take s.k).map fun n=>[vi n],false,[vi 0]⟩],s.clk⟩) (fun s=>s.k≤4) (fun s=>4 - s.k) ⟨0,[],clk+1+1+1+1+1,clk+1+1+1+1+1+1⟩
     (by dsimp only;omega) (St.nil 12 1 [vi 0] (by simp[zo]) (St.cut ?_ ?_ ?_)) fun s hs=> ?_
    ·simp[zt,zo,yl]
    ·simp[Heap.alloc]
    ·rfl
    obtain⟨k2,o2,v2,clk2⟩:=s
    simp only at hs
    rcases(show k2=0∨k2=1∨k2=2∨k2=3∨k2=4 by omega)with rfl|rfl|rfl|rfl|rfl
    all_goals simp only[List.take_zero,List.take_succ_cons,List.take_nil,List.map_cons,List.map_nil,go_sem,zd,seval,reduceIte,reduceCtorEq]
    ·exact⟨⟨1,[],clk2+1,clk2+1+1⟩,by dsimp only;omega,by dsimp only;omega,⟨⟨rfl,rfl⟩,rfl⟩,⟨rfl,rfl⟩,rfl⟩
    ·exact⟨⟨2,[],clk2+1,clk2+1+1⟩,by dsimp only;omega,by dsimp only;omega,⟨⟨rfl,rfl⟩,rfl⟩,⟨rfl,rfl⟩,rfl⟩
    ·exact⟨⟨3,[],clk2+1,clk2+1+1⟩,by dsimp only;omega,by dsimp only;omega,⟨⟨rfl,rfl⟩,rfl⟩,⟨rfl,rfl⟩,rfl⟩
    ·exact⟨⟨4,[],clk2+1,clk2+1+1⟩,by dsimp only;omega,by dsimp only;omega,⟨⟨rfl,rfl⟩,rfl⟩,⟨rfl,rfl⟩,rfl⟩
  ·have e1:(k:Int)<(L.length:Int):=by omega
   have e0:(0:Int)≤(k:Int):=by omega
   have hlt:k<L.length:=by omega
   rw[zi0 L k hlt]at h4
   have hg:=kM L k [vi 0,vs ⟨#[]⟩,vi 0,zB] hlt
   have hx:(L.getD k default).t.text.size≤1000000:=by
    have:=(hm (L.getD k default) (by rw[List.getD_eq_getElem?_getD,List.getElem?_eq_getElem hlt];exact List.getElem_mem _)).1
    exact this
   generalize L.getD k default=x at*
   have hot:out.take out.length=out:=List.take_length
   have hot2:out.take k=out:=by rw[←h3];exact hot
   cases ho:zc7 x.t with
   |none=>
    rw[ho]at h4
    simp only[Option.map_none]at h4
    subst h4
    simp only[e0,e1,hg,hx,ho,kF,WY,Pa.enc,Tok.enc,jH,Tok.eta,go_sem,zd,seval,reduceIte,reduceCtorEq]
   |some n=>
    rw[ho]at h4
    simp only at h4
    simp only[e0,e1,hg,hx,ho,kF,hot,Pa.enc,Tok.enc,jH,Tok.eta,zJ,go_sem,zd,seval,reduceIte,reduceCtorEq]
    refine⟨⟨by omega,by omega,by omega⟩,by omega,⟨k+1,out++ [n],clk+2,clk+3⟩,⟨by dsimp only;omega,by simp;omega,?_⟩,by dsimp only;omega,?_⟩
    ·rw[←h4];cases JM (L.drop (k+1))<;>simp
    ·simp
 ·rw[if_neg hc]
  cases hb:ptB l with
  |false=>simp only[c28,zk,zh,h1,plV,hb,WY,go_sem,zd,seval,reduceIte,reduceCtorEq]
  |true=>
   have hn:(pl l).length=0∨4<(pl l).length:=by
    rcases Nat.lt_or_ge 4 (pl l).length with hh|hh
    ·exact .inr hh
    ·exact .inl (Decidable.byContradiction fun hz=>hc ⟨hb,by omega,hh⟩)
   rcases hn with hz|hz
   ·have hz1:((pl l).length:Int)=0:=by omega
    simp only[c28,zk,zh,h1,plV,hb,hz1,WY,go_sem,zd,seval,reduceIte,reduceCtorEq]
   ·have g1:¬(((pl l).length:Int)<1):=by omega
    have g2:((4:Int)<((pl l).length:Int)):=by omega
    have g3:¬(((pl l).length:Int)=0):=by omega
    simp only[c28,zk,zh,h1,plV,hb,g1,g2,g3,WY,go_sem,zd,seval,reduceIte,reduceCtorEq]
def Qz:Sum Tryz.prog:=⟨28,fun args=>args= [zk (zj (args.getD 0 .any))]∧okT (zj (args.getD 0 .any)),fun args=>JN (QZ (zj (args.getD 0 .any))),fun args h=>by
 have:=zmS _ (zfO (zj (args.getD 0 .any)) h.2);rwa [←h.1]at this,false⟩
theorem zoM:Qz.f=28:=rfl
theorem zoL(args:List V):Qz.D args=(args= [zk (zj (args.getD 0 .any))]∧okT (zj (args.getD 0 .any))):=rfl
theorem zei:Qz.flat=false:=rfl
theorem zoN(args:List V):Qz.r args=JN (QZ (zj (args.getD 0 .any))):=rfl
attribute [go_sem] zoM zoL zei zoN


theorem Xk(l:List Tok)(k:Nat)(hc:¬zC (l.getD k .zero)=⟨#[]⟩)(hk:k<l.length):
  (feE l k=l.length∨∃m:Nat,feE l k=m∧k<m∧m<l.length∧opn l m=opn l k++ [(k:Int)]∧opn l (m+1)=opn l k)
  ∧∀j:Nat,k<j→(j:Int)≤feE l k→(k:Int)∈opn l j:=by
 have key:∀(m:Nat),(∀i,k+1≤i→i<m→¬jG l k i)→∀j,k<j→j≤m→(k:Int)∈opn l j:=by
  intro m h5 j h1 h2
  by_cases e:j=k+1
  ·subst e;rw[qr hc];simp
  ·have:=h5 (j - 1) (by omega) (by omega)
   rw[j2 hc (by omega),show j - 1+1=j by omega]at this
   exact Decidable.byContradiction this
 have none_:∀(f j:Nat),j+f=l.length→fe l k f j=l.length→∀i,j≤i→i<l.length→¬jG l k i:=by
  intro f
  induction f with
  |zero=>intro j h _ i h1 h2;omega
  |succ f ih=>
   intro j h h1 i h2 h3
   simp only[fe]at h1
   split at h1
   ·omega
   ·rename_i hn
    by_cases e:i=j
    ·subst e;exact hn
    ·exact ih (j+1) (by omega) h1 i (by omega) h3
 unfold feE
 rcases zhD l k (l.length - (k+1)) (k+1) (by omega)with h1|⟨m,h1,h2,h3,h4,h5⟩
 ·refine⟨.inl h1,fun j hj1 hj2=>key l.length (fun i hi1 hi2=>none_ _ _ (by omega) h1 i hi1 hi2) j hj1 (by omega)⟩
 ·refine⟨.inr ⟨m,h3,h1,h2,?_⟩,fun j hj1 hj2=>key m h5 j hj1 (by omega)⟩
  have hin:=key m h5 m (by omega) (Nat.le_refl _)
  have hout:=(j2 hc (by omega)).1 h4
  obtain⟨d,rfl⟩:∃d,m=k+1+d:=⟨m - (k+1),by omega⟩
  obtain⟨t,ht⟩:=XN hc d hin
  generalize k+1+d=m at*
  by_cases hm:zC (l.getD m .zero)=⟨#[]⟩
  ·by_cases hp:Q5 l (opn l m) m
   ·rw[YM hp,ht]at hout⊢
    cases t with
    |nil=>simp
    |cons x t=>exact absurd (by rw[show(opn l k++((k:Int)::x::t)).length - 1=(opn l k).length+(t.length+1)by simp,List.take_append,List.take_of_length_le (by omega)];simp) hout
   ·rw[jr hm hp]at hout;exact absurd hin hout
  ·rw[qr hm]at hout;exact absurd (by simp[hin]) hout
theorem zwk(l:List Tok)(k m:Nat)(hc:¬zC (l.getD k .zero)=⟨#[]⟩)(h1:k<m)(h2:m<l.length)(h3:(k:Int)∈opn l m)(h4:¬(k:Int)∈opn l (m+1)):feE l k=m:=by
 obtain⟨ha,hb⟩:=Xk l k hc (by omega)
 rcases ha with ha|⟨m',a1,a2,a3,a4,a5⟩
 ·exact absurd (hb (m+1) (by omega) (by omega)) h4
 ·have hn:¬(k:Int)∈opn l (m'+1):=by
   rw[a5];intro h;have:=qh l k _ h;omega
  rcases Nat.lt_trichotomy m m' with h|h|h
  ·exact absurd (hb (m+1) (by omega) (by omega)) h4
  ·omega
  ·exact absurd (Zi (m':=m) (by omega) (by omega) h3) hn
structure Emb (l w:List Tok) (φ:Nat→Nat) (p:Nat):Prop where
 mono:∀i j,i<j→j<l.length→φ i<φ j
 lt:∀i,i<l.length→φ i<w.length
 ge:∀i,i<l.length→p≤φ i
 get:∀i,i<l.length→w.getD (φ i) .zero=l.getD i .zero
 neu:∀j,p≤j→j<w.length→(∀i,i<l.length→φ i≠j)→zC (w.getD j .zero)=⟨#[]⟩∧(w.getD j .zero).kind≠13
 op:opn w p= []
 le:p≤w.length
def up(φ:Nat→Nat)(x:Int):Int:=(φ x.toNat:Nat)
theorem zaU{l w:List Tok}{φ:Nat→Nat}{p:Nat}(E:Emb l w φ p){st:List Int}{i:Nat}(hi:i<l.length)(hs:∀x∈st,0≤x∧x<i):jb w (st.map (up φ)) (φ i)=(jb l st i).map (up φ):=by
 unfold jb
 rw[E.get i hi]
 have hlast:0<st.length→zC (w.getD ((st.map (up φ)).getD ((st.map (up φ)).length - 1) 0).toNat .zero)=zC (l.getD (st.getD (st.length - 1) 0).toNat .zero):=fun h0=>by
  have hm:st.getD (st.length - 1) 0∈st:=by
   rw[List.getD_eq_getElem?_getD,List.getElem?_eq_getElem (by omega)];exact List.getElem_mem _
  have h1:=hs _ hm
  have e:(st.map (up φ)).getD ((st.map (up φ)).length - 1) 0=up φ (st.getD (st.length - 1) 0):=by
   rw[List.length_map]
   simp only[List.getD_eq_getElem?_getD,List.getElem?_map]
   rw[List.getElem?_eq_getElem (by omega)];rfl
  rw[e,up,Int.toNat_natCast,E.get _ (by omega)]
 by_cases c:zC (l.getD i .zero)=⟨#[]⟩
 ·have c':¬ ¬zC (l.getD i .zero)=⟨#[]⟩:=fun hh=>hh c
  rw[if_neg c',if_neg c']
  by_cases c2:(l.getD i .zero).kind=13∧0<st.length∧zC (l.getD (st.getD (st.length - 1) 0).toNat .zero)=(l.getD i .zero).text
  ·rw[if_pos c2,if_pos ⟨c2.1,by rw[List.length_map];exact c2.2.1,by rw[hlast c2.2.1];exact c2.2.2⟩,List.length_map,List.map_take]
  ·rw[if_neg c2,if_neg]
   rintro⟨h1,h2,h3⟩
   rw[List.length_map]at h2
   rw[hlast h2]at h3
   exact c2 ⟨h1,h2,h3⟩
 ·rw[if_pos c,if_pos c,List.map_append]
  rfl
theorem Emb.inj{l w:List Tok}{φ:Nat→Nat}{p:Nat}(E:Emb l w φ p){i j:Nat}(hi:i<l.length)(hj:j<l.length)(h:φ i=φ j):i=j:=by
 rcases Nat.lt_trichotomy i j with h1|h1|h1
 ·have:=E.mono i j h1 hj;omega
 ·exact h1
 ·have:=E.mono j i h1 hi;omega
theorem Emb.walk{l w:List Tok}{φ:Nat→Nat}{p:Nat}(E:Emb l w φ p):∀d,p+d≤w.length→∃i,i≤l.length∧(∀i',i'<i→φ i'<p+d)∧(∀i',i≤i'→i'<l.length→p+d≤φ i')∧opn w (p+d)=(opn l i).map (up φ)
 |0,_=>⟨0,Nat.zero_le _,fun i' h=>by omega,fun i' _ h=>E.ge i' h,by rw[Nat.add_zero,E.op];rfl⟩
 |d+1,h=>by
  obtain⟨i,h1,h2,h3,h4⟩:=E.walk d (by omega)
  by_cases hc:i<l.length∧φ i=p+d
  ·refine⟨i+1,hc.1,fun i' hi'=> ?_,fun i' hi' hl=> ?_,?_⟩
   ·by_cases e:i'=i
    ·subst e;omega
    ·have:=h2 i' (by omega);omega
   ·have:=E.mono i i' (by omega) hl;omega
   ·rw[show p+(d+1)=(p+d)+1 by omega,Yp,h4,←hc.2,zaU E hc.1 (qh l i)];rfl
  ·have hne:∀i',i'<l.length→φ i'≠p+d:=fun i' hl e=>by
    by_cases e1:i'<i
    ·have:=h2 i' e1;omega
    ·by_cases e2:i'=i
     ·subst e2;exact hc ⟨hl,e⟩
     ·have:=E.mono i i' (by omega) hl
      have:=h3 i (Nat.le_refl _) (by omega)
      omega
   have hn:=E.neu (p+d) (by omega) (by omega) hne
   refine⟨i,h1,fun i' hi'=>by have:=h2 i' hi';omega,fun i' hi' hl=>by have:=h3 i' hi' hl;have:=hne i' hl;omega,?_⟩
   rw[show p+(d+1)=(p+d)+1 by omega,jr hn.1 (fun hp=>hn.2 hp.2.1),h4]
theorem Emb.at_{l w:List Tok}{φ:Nat→Nat}{p:Nat}(E:Emb l w φ p){m:Nat}(hm:m<l.length):opn w (φ m)=(opn l m).map (up φ):=by
 have hg:=E.ge m hm
 have hl:=E.lt m hm
 obtain⟨i,h1,h2,h3,h4⟩:=E.walk (φ m - p) (by omega)
 rw[show p+(φ m - p)=φ m by omega]at h2 h3 h4
 have:i=m:=by
  rcases Nat.lt_trichotomy i m with h|h|h
  ·have:=E.mono i m h hm;have:=h3 i (Nat.le_refl _) (by omega);omega
  ·exact h
  ·have:=h2 m h;omega
 rw[h4,this]
theorem Emb.at1{l w:List Tok}{φ:Nat→Nat}{p:Nat}(E:Emb l w φ p){m:Nat}(hm:m<l.length):opn w (φ m+1)=(opn l (m+1)).map (up φ):=by
 rw[Yp,E.at_ hm,zaU E hm (qh l m)];rfl
theorem Emb.fin{l w:List Tok}{φ:Nat→Nat}{p:Nat}(E:Emb l w φ p):opn w w.length=(opn l l.length).map (up φ):=by
 have hle:=E.le
 obtain⟨i,h1,h2,h3,h4⟩:=E.walk (w.length - p) (by omega)
 rw[show p+(w.length - p)=w.length by omega]at h2 h3 h4
 have:i=l.length:=by
  by_cases h:i<l.length
  ·have:=h3 i (Nat.le_refl _) h;have:=E.lt i h;omega
  ·omega
 rw[h4,this]
theorem Emb.len{l w:List Tok}{φ:Nat→Nat}{p:Nat}(E:Emb l w φ p)(h:yJ l=false){j:Nat}(h1:p≤j)(h2:j≤w.length):(opn w j).length≤64:=by
 obtain⟨i,a1,_,_,a4⟩:=E.walk (j - p) (by omega)
 rw[show p+(j - p)=j by omega]at a4
 rw[a4,List.length_map]
 cases i with
 |zero=>simp[opn]
 |succ i=>
  unfold yJ at h
  rw[decide_eq_false_iff_not]at h
  exact Decidable.byContradiction fun hn=>h ⟨i,by omega,by omega⟩
theorem Emb.mem{l w:List Tok}{φ:Nat→Nat}{p:Nat}(E:Emb l w φ p){m k:Nat}(hk:k<l.length)(hm:m≤l.length):((φ k:Nat):Int)∈(opn l m).map (up φ)↔(k:Int)∈opn l m:=by
 constructor
 ·intro h
  obtain⟨x,hx,he⟩:=List.mem_map.1 h
  have hr:=qh l m x hx
  unfold up at he
  have:=E.inj (i:=x.toNat) (j:=k) (by omega) hk (by omega)
  rwa [show(k:Int)=x by omega]
 ·intro h
  exact List.mem_map.2 ⟨k,h,by simp[up]⟩
theorem Emb.end{l w:List Tok}{φ:Nat→Nat}{p:Nat}(E:Emb l w φ p){k:Nat}(hk:k<l.length):(ZZ l k= -1∧ZZ w (φ k)= -1)∨(ZZ l k=l.length∧ZZ w (φ k)=w.length)∨∃m:Nat,k<m∧m<l.length∧ZZ l k=m∧ZZ w (φ k)=φ m:=by
 have hg:=E.get k hk
 unfold ZZ
 rw[hg]
 by_cases c:zC (l.getD k .zero)=⟨#[]⟩
 ·rw[if_pos c,if_pos c];exact .inl ⟨rfl,rfl⟩
 ·rw[if_neg c,if_neg c]
  have cw:¬zC (w.getD (φ k) .zero)=⟨#[]⟩:=by rw[hg];exact c
  right
  obtain⟨a1,a2⟩:=Xk l k c hk
  rcases a1 with a1|⟨m,b1,b2,b3,b4,b5⟩
  ·left
   refine⟨a1,?_⟩
   show feE w (φ k)=w.length
   have hin:(k:Int)∈opn l l.length:=a2 l.length hk (by omega)
   have hin':((φ k:Nat):Int)∈opn w w.length:=by rw[E.fin];exact(E.mem hk (Nat.le_refl _)).2 hin
   obtain⟨d1,d2⟩:=Xk w (φ k) cw (E.lt k hk)
   rcases d1 with d1|⟨m,e1,e2,e3,e4,e5⟩
   ·exact d1
   ·have:=Zi (k:=φ k) (m:=m+1) (m':=w.length) (by omega) (by omega) hin'
    rw[e5]at this
    have:=qh w _ _ this
    omega
  ·right
   refine⟨m,b2,b3,b1,?_⟩
   show feE w (φ k)=φ m
   have h1:(k:Int)∈opn l m:=by rw[b4];simp
   have h2:¬(k:Int)∈opn l (m+1):=by rw[b5];intro h;have:=qh l k _ h;omega
   refine zwk w (φ k) (φ m) cw (E.mono k m b2 b3) (E.lt m b3) ?_ ?_
   ·rw[E.at_ b3];exact(E.mem hk (by omega)).2 h1
   ·rw[E.at1 b3];exact fun h=>h2 ((E.mem hk (by omega)).1 h)
theorem zdt{l:List Tok}(h:ptB l=false):pl l= []:=by
 unfold pl ptL
 unfold ptB at h
 cases hO:ptO l with
 |none=>rfl
 |some ps=>rw[hO]at h;cases h
def spT:Tok:=⟨1,⟨#[]⟩,0⟩
def zAD(l:List Tok):List Tok:=l.flatMap fun t=>[spT,t]
def zw5(l:List Tok):List Tok:=zAD l++ [spT]
def PaR(p q:Pa):Prop:=q.t=p.t∧(q.al=zw5 p.al∨(p.al= []∧q.al= []))
def zuI:Option (List Pa)→Option (List Pa)→Prop
 |none,none=>True
 |some ps,some qs=>F2 PaR ps qs
 |_,_=>False
theorem zuI.map{x y:Option (List Pa)}(h:zuI x y)(f g:List Pa→List Pa)(hf:∀ps qs,F2 PaR ps qs→F2 PaR (f ps) (g qs)):zuI (x.map f) (y.map g):=by
 cases x<;>cases y<;>first|exact h|exact hf _ _ h
end Go.Proofs.YtlaopdfpncckeaaGreatDoor
