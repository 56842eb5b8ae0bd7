/- Part of the proof of ContextMargins. No condition. -/
import Derived.Test.YtlaopdfpncckeaaGreatDoorCd
import Derived.Test.YtlaopdfpncckeaaGreatDoorE4
import Derived.Test.YtlaopdfpncckeaaGreatDoorCe
import Derived.Test.YtlaopdfpncckeaaGreatDoorGc
section
namespace Go.Proofs.YtlaopdfpncckeaaGreatDoor
open Go.Sx
set_option linter.unusedSimpArgs false
set_option maxHeartbeats 4000000
set_option maxRecDepth 20000
def zi4(b:UInt8):UInt8:=if 65≤b.toNat∧b.toNat≤90 then UInt8.ofNat (b.toNat+32)else b
def z8(s:ByteArray):ByteArray:=⟨⟨s.data.toList.map zi4⟩⟩
def u8c(b:UInt8):List V:=[.c (.int .u8 b.toNat)]
theorem zoK(l:List UInt8):(l.map u8c).map (fun e=>(Go.Sx.byteOf e).getD 0)=l:=by
 rw[List.map_map]
 conv=>rhs;rw[←List.map_id l]
 apply List.map_congr_left
 intro b _
 simp[u8c,Go.Sx.byteOf]
theorem zry(l:List UInt8):(l.map u8c).all (fun e=>(Go.Sx.byteOf e).isSome)=true:=by
 simp[List.all_eq_true,u8c,Go.Sx.byteOf]
theorem zoL(l:List UInt8)(k:Nat)(h:k<l.length):(l.map u8c).getD k [.c (.int .u8 0)]=u8c (l.getD k 0):=by
 simp[List.getD_eq_getElem?_getD,h]
def kz(s:ByteArray)(k:Nat):List UInt8:=(s.data.toList.take k).map zi4++s.data.toList.drop k
theorem qP(s:ByteArray)(k:Nat):(kz s k).length=s.size:=by
 simp only[kz,List.length_append,List.length_map,List.length_take,List.length_drop]
 have:s.data.toList.length=s.size:=Xy s
 omega
theorem XK(s:ByteArray)(k:Nat)(h:k<s.size):(kz s k).getD k 0=s.data.toList.getD k 0:=by
 have:s.data.toList.length=s.size:=Xy s
 simp only[kz,List.getD_eq_getElem?_getD]
 rw[List.getElem?_append_right (by simp;omega)]
 simp only[List.length_map,List.length_take,List.getElem?_drop]
 congr 2;omega
theorem zc6(s:ByteArray)(k:Nat)(h:k<s.size):kz s (k+1)=(kz s k).set k (zi4 (s.data.toList.getD k 0)):=by
 have hl:s.data.toList.length=s.size:=Xy s
 apply List.ext_getElem?
 intro i
 by_cases hi:i=k
 ·subst hi
  rw[List.getElem?_set_self (by rw[qP];exact h)]
  simp only[kz]
  rw[List.getElem?_append_left (by simp;omega)]
  have h':i<s.data.size:=h
  simp only[List.getElem?_map,List.getElem?_take,List.getD_eq_getElem?_getD,if_pos (Nat.lt_succ_self i),List.getElem?_eq_getElem (show i<s.data.toList.length by omega),Option.map_some,Option.getD_some]
 ·rw[List.getElem?_set_ne (Ne.symm hi)]
  simp only[kz]
  rcases Nat.lt_or_ge i k with hlt|hge
  ·rw[List.getElem?_append_left (by simp;omega),List.getElem?_append_left (by simp;omega)]
   simp only[List.getElem?_map,List.getElem?_take,if_pos hlt,if_pos (show i<k+1 by omega)]
  ·rw[List.getElem?_append_right (by simp;omega),List.getElem?_append_right (by simp;omega)]
   simp only[List.length_map,List.length_take,List.getElem?_drop]
   congr 1;omega
theorem zc7(s:ByteArray):kz s 0=s.data.toList:=by simp[kz]
theorem zfT(s:ByteArray):(⟨⟨kz s s.size⟩⟩:ByteArray)=z8 s:=by
 have hl:s.data.toList.length=s.size:=Xy s
 unfold kz z8
 rw[List.take_of_length_le (by omega),List.drop_eq_nil_of_le (by omega),List.append_nil]
theorem zuZ(n:Int)(h0:0≤n)(h1:n<256):IntKind.u8.wrap n=n:=by
 simp[IntKind.wrap,IntKind.bits,IntKind.signed];omega
theorem zrz(l:List UInt8):(l.map fun b=>[V.c (.int .u8 b.toNat)])=l.map u8c:=rfl
theorem zi5(s:ByteArray)(hs:s.size≤1000000):ze Tryz.prog 66 [vs s] (vs (z8 s)):=by
 refine ze.of (Orc.nil _) zqs (by simp[c66]) fun w0 own0=> ?_
 have hl:s.data.toList.length=s.size:=Xy s
 simp only[c66,hl,zrz,go_sem,zg,seval,reduceIte,reduceCtorEq]
 refine⟨by omega,?_⟩
 refine z7.lp (α:=Nat) (fun k=>[(3,.ref 0 0 0 s.size),(8,.ref 0 0 0 s.size),(9,vi s.size),(10,vi k)]) (fun k=>⟨[⟨0,1,(kz s k).map u8c,false,[.c (.int .u8 0)]⟩],1⟩) (fun k=>k≤s.size) (fun k=>s.size - k) 0 (Nat.zero_le _) (St.mk (by simp[zC,zq,zI,zc7])) fun k hk=> ?_
 by_cases he:k=s.size
 ·subst he
  have ht:((kz s s.size).map u8c).take s.size=(kz s s.size).map u8c:=List.take_of_length_le (by simp[qP])
  simp only[Int.lt_irrefl,ht,zoK,zry,zfT,qP,Nat.le_refl,go_sem,zg,seval,reduceIte,reduceCtorEq]
 ·have e1:(k:Int)<(s.size:Int):=by omega
  have e0:(0:Int)≤(k:Int):=by omega
  have hlt:k<s.size:=by omega
  have hg:=zoL (kz s k) k (by rw[qP];exact hlt)
  rw[XK s k hlt]at hg
  have hsu:=zc6 s k hlt
  generalize hb:s.data.toList.getD k 0=b at*
  have hb256:b.toNat<256:=b.toNat_lt
  simp only[e0,e1,hg,u8c,qP,go_sem,zg,seval,reduceIte,reduceCtorEq]
  have hlow:(65≤(b.toNat:Int)∧(b.toNat:Int)≤90)↔(65≤b.toNat∧b.toNat≤90):=by omega
  refine⟨hlt,fun hc=>⟨hlt,by omega,k+1,by omega,by omega,by omega,?_⟩,fun hc=>⟨by omega,k+1,by omega,by omega,by omega,?_⟩⟩
  ·rw[hsu,List.map_set,zi4,if_pos (hlow.1 hc)]
   have h1:IntKind.u8.wrap ((b.toNat:Int)+32)=(b.toNat:Int)+32:=zuZ _ (by omega) (by omega)
   have h2:(UInt8.ofNat (b.toNat+32)).toNat=b.toNat+32:=by simp;omega
   have h3:u8c (UInt8.ofNat (b.toNat+32))= [V.c (Value.int IntKind.u8 (IntKind.u8.wrap ((b.toNat:Int)+32)))]:=by
    unfold u8c;rw[h1,h2,Int.natCast_add];rfl
   rw[h3]
  ·rw[hsu,zi4,if_neg (by omega),←hb,←XK s k hlt]
   congr 1
   apply List.ext_getElem?
   intro i
   by_cases hi:i=k
   ·subst hi
    rw[List.getElem?_set_self (by rw[qP];exact hlt),List.getD_eq_getElem?_getD,List.getElem?_eq_getElem (by rw[qP];exact hlt)];rfl
   ·rw[List.getElem?_set_ne (Ne.symm hi)]
def kV:Sum Tryz.prog:=⟨66,fun args=>args= [vs ((args.getD 0 .any).str)]∧(((args.getD 0 .any).str)).size≤1000000,fun args=>vs (z8 ((args.getD 0 .any).str)),fun args h=>by
 have:=zi5 ((args.getD 0 .any).str) h.2;rwa [←h.1]at this,true⟩
theorem zkO:kV.f=66:=rfl
theorem zkN(args:List V):kV.D args=(args= [vs ((args.getD 0 .any).str)]∧(((args.getD 0 .any).str)).size≤1000000):=rfl
theorem zbU:kV.flat=true:=rfl
theorem zkP(args:List V):kV.r args=vs (z8 ((args.getD 0 .any).str)):=rfl
attribute [go_sem] zkO zkN zbU zkP
structure LoS where
 k:Nat
 ver:Nat
 clk:Nat
end Go.Proofs.YtlaopdfpncckeaaGreatDoor
end
section
namespace Go.Proofs.YtlaopdfpncckeaaGreatDoor
open Go.Sx
set_option linter.unusedSimpArgs false
set_option maxHeartbeats 4000000
def zy(t:Tok):ByteArray:=
 if t.kind=3∨t.kind=12∧t.text=⟨#[40]⟩then⟨#[41]⟩else if t.kind=12∧t.text=⟨#[91]⟩then⟨#[93]⟩else if t.kind=12∧t.text=⟨#[123]⟩then⟨#[125]⟩else⟨#[]⟩
def skip(ends:List Int)(k:Int):Int:=if k<0∨(ends.length:Int)≤k∨ends.getD k.toNat 0<k then k+1 else min (ends.getD k.toNat 0+1) ends.length
theorem zot(l:List Int)(k:Int)(hk: -9223372036854775808≤k)(hk':k<9223372036854775807)(hl:l.getD k.toNat 0<9223372036854775807):ze Tryz.prog 97 [ye l,vi k] (vi (skip l k)):=by
 refine ze.of (Orc.nil _) zqC (by simp[c97]) fun w0 own0=> ?_
 simp only[c97,ye,yt,zbg,YU,Option.some.injEq,go_sem,zg,seval,reduceIte,reduceCtorEq]
 unfold skip
 grind
theorem zjn(t:Tok):ze Tryz.prog 118 [.agg t.enc] (vs (zy t)):=by
 refine ze.of (Orc.nil _) zm3 (by simp[zpX]) fun w0 own0=> ?_
 simp only[zpX,Tok.enc,zbg,YU,Option.some.injEq,go_sem,zg,seval,reduceIte,reduceCtorEq]
 unfold zy
 grind
theorem zhd(n a b:Int):ze Tryz.prog 167 [vi n,vi a,vi b] (vb (decide (0≤a∧a≤b∧b≤n))):=by
 refine ze.of (Orc.nil _) znj (by simp[zqa]) fun w0 own0=> ?_
 simp only[zqa,ye,yt,zbg,YU,Option.some.injEq,go_sem,zg,seval,reduceIte,reduceCtorEq]
 grind
theorem zfH(t:Tok)(k:Int):ze Tryz.prog 168 [.agg t.enc,.pp [vi k]] (vb (decide (t.kind=k))):=by
 refine ze.of (Orc.nil _) znk (by simp[zqb]) fun w0 own0=> ?_
 simp only[zqb,Tok.enc,zbg,YU,Option.some.injEq,go_sem,zg,seval,reduceIte,reduceCtorEq]
end Go.Proofs.YtlaopdfpncckeaaGreatDoor
end
section
namespace Go.Proofs.YtlaopdfpncckeaaGreatDoor
open Go.Sx
set_option linter.unusedSimpArgs false
set_option maxHeartbeats 4000000
def few(l:List Tok):Bool:=decide (l.length≤100∧∀i,i<l.length→(l.getD i .zero).text.size≤100)
def kU(l:List Tok)(st:List Int)(k:Nat):List Int:=
 if ¬zy (l.getD k .zero)=⟨#[]⟩then st++ [(k:Int)]
 else if(l.getD k .zero).kind=13∧0<st.length∧zy (l.getD (st.getD (st.length - 1) 0).toNat .zero)=(l.getD k .zero).text then st.take (st.length - 1)else st
def opn(l:List Tok):Nat→List Int
 |0=>[]
 |k+1=>kU l (opn l k) k
theorem yV(l:List Tok):∀k,∀x∈opn l k,0≤x∧x<k
 |0,x,hx=>by simp[opn]at hx
 |k+1,x,hx=>by
  have ih:=yV l k x
  simp only[opn,kU]at hx
  split at hx
  ·simp only[List.mem_append,List.mem_singleton]at hx;grind
  ·split at hx
   ·have:=ih (List.mem_of_mem_take hx);omega
   ·have:=ih hx;omega
theorem Wr(l:List Tok):∀k,(opn l k).length≤k
 |0=>Nat.le_refl _
 |k+1=>by
  have ih:=Wr l k
  simp only[opn,kU]
  split
  ·simp;omega
  ·split
   ·simp;omega
   ·omega
structure OpS where
 k:Nat
 es:List Int
 ver:Nat
 clk:Nat
end Go.Proofs.YtlaopdfpncckeaaGreatDoor
end
section
namespace Go.Proofs.YtlaopdfpncckeaaGreatDoor
open Go.Sx
set_option linter.unusedSimpArgs false
set_option maxHeartbeats 4000000
def Zj(l:List Tok)(k j:Nat):Prop:=(opn l (j+1)).length<(opn l (k+1)).length∨¬(opn l (j+1)).getD ((opn l (k+1)).length - 1) 0=k
instance (l:List Tok) (k j:Nat):Decidable (Zj l k j):=by unfold Zj;infer_instance
def fe(l:List Tok)(k:Nat):Nat→Nat→Int
 |0,_=>l.length
 |f+1,j=>if Zj l k j then j else fe l k f (j+1)
def y9(l:List Tok)(k:Nat):Int:=if zy (l.getD k .zero)=⟨#[]⟩then -1 else fe l k (l.length - (k+1)) (k+1)
def Yr(l:List Tok)(m:Nat):List Int:=(List.range m).map (y9 l)
theorem qL(l:List Tok)(m:Nat):(Yr l m).length=m:=by simp[Yr]
def yf(l:List Tok):Bool:=decide (∃i,i<l.length∧64<(opn l (i+1)).length)
def zem(l:List Tok):V:=bif yf l then .tup [zL,vi 3]else .tup [ye (Yr l l.length),vi 0]
theorem zeq(l:List Tok)(k j:Nat)(h:j<l.length):fe l k (l.length - j) j=if Zj l k j then(j:Int)else fe l k (l.length - (j+1)) (j+1):=by
 have:l.length - j=(l.length - (j+1))+1:=by omega
 rw[this]
 rfl
theorem zdM(k:Nat):((k:Int)+1).toNat=k+1:=by omega
structure KVC where
 k:Nat
 ver:Nat
 clk:Nat
end Go.Proofs.YtlaopdfpncckeaaGreatDoor
end
section
namespace Go.Proofs.YtlaopdfpncckeaaGreatDoor
open Go.Sx
set_option linter.unusedSimpArgs false
set_option maxHeartbeats 4000000
set_option maxRecDepth 20000
def Y5(l:List Tok)(st:List Int)(k:Nat):Prop:=zy (l.getD k .zero)=⟨#[]⟩∧(l.getD k .zero).kind=13∧0<st.length∧zy (l.getD (st.getD (st.length - 1) 0).toNat .zero)=(l.getD k .zero).text
instance (l:List Tok) (st:List Int) (k:Nat):Decidable (Y5 l st k):=by unfold Y5;infer_instance
def jL(l:List Tok):Nat→List Int
 |0=>List.replicate l.length 0
 |m+1=>if Y5 l (opn l m) m then((jL l m).set m (-1)).set ((opn l m).getD ((opn l m).length - 1) 0).toNat m else(jL l m).set m (-1)
def Kh(l:List Tok)(i:Nat):List Int:=((opn l l.length).take i).foldl (fun o x=>o.set x.toNat l.length) (jL l l.length)
def za1(l:List Tok):V:=bif yf l then .tup [zL,vi 3]else .tup [ye (Kh l (opn l l.length).length),vi 0]
def ZP:Sum Tryz.prog:=⟨118,fun args=>args= [.agg (kE (args.getD 0 .any)).enc],fun args=>vs (zy (kE (args.getD 0 .any))),fun args h=>by
 have:=zjn (kE (args.getD 0 .any));rwa [←h]at this,true⟩
theorem zdI:ZP.f=118:=rfl
theorem zdH(args:List V):ZP.D args=(args= [.agg (kE (args.getD 0 .any)).enc]):=rfl
theorem Xd:ZP.flat=true:=rfl
theorem zdJ(args:List V):ZP.r args=vs (zy (kE (args.getD 0 .any))):=rfl
structure EnS where
 m:Nat
 es:List Int
 vo:Nat
 ve:Nat
 clk:Nat
theorem ZH(l:List Tok):∀m,(jL l m).length=l.length
 |0=>by simp[jL]
 |m+1=>by
  have:=ZH l m
  simp only[jL]
  split<;>simp[this]
theorem X5{t:Tok}(h:¬zy t=⟨#[]⟩):¬t.kind=13:=by
 intro hk
 apply h
 simp[zy,hk]
theorem ZL(l:List Int)(i:Nat)(v:Int):(l.map fun n=>[vi n]).set i [V.c (Value.int IntKind.i64 v)]=(l.set i v).map fun n=>[vi n]:=by
 rw[List.map_set]
theorem za4(l:List Tok)(hl:l.length≤1000000):ze Tryz.prog 96 [zm l] (za1 l):=by
 refine ze.of (Orc.cons ZP (Orc.nil _)) zqB (by simp[c96]) fun w0 own0=> ?_
 simp only[c96,ye,zm,go_sem,zg,seval,reduceIte,reduceCtorEq]
 refine z7.lab (α:=EnS) 0 (fun a=>[(0,.slc 3 (l.map Tok.enc)),(4,.ref 0 a.vo 0 l.length),(5,.ref 1 a.ve 0 (opn l a.m).length),(6,vi a.m)])
  (fun a=>⟨[⟨a.vo,1,(jL l a.m).map fun n=>[vi n],false,[vi 0]⟩,⟨a.ve,1,a.es.map fun n=>[vi n],false,[vi 0]⟩],a.clk⟩)
  (fun a=>a.m≤l.length∧a.es.take (opn l a.m).length=opn l a.m∧(opn l a.m).length≤a.es.length∧∀i,i<a.m→(opn l (i+1)).length≤64) (fun a=>l.length - a.m) rfl ?_ fun a ha=> ?_
 ·simp only[go_sem,zg,seval,reduceIte,reduceCtorEq]
  refine⟨⟨by omega,by omega,by first|omega|(simp;omega)⟩,⟨0,[],0,1,2⟩,by simp[opn],St.nil 5 1 [vi 0] (by simp[zq]) (St.cut ?_ ?_ ?_)⟩
  ·simp[zC,zq,zI,opn]
  ·simp[Heap.alloc,jL]
  ·simp[Heap.alloc]
 ·obtain⟨m,es,vo,ve,clk⟩:=a
  simp only[Tok.enc,zdI,zdH,Xd,zdJ,zm,ye,zdM,go_sem,zg,seval,reduceIte,reduceCtorEq]
  simp only at ha
  obtain⟨h1,h2,h3,h4⟩:=ha
  have hol:=ZH l m
  have hm:=yV l m
  have hlen:=Wr l m
  have hnext:opn l (m+1)=kU l (opn l m) m:=rfl
  have hN:((((opn l m).length:Nat):Int) - 1).toNat=(opn l m).length - 1:=by omega
  unfold kU at hnext
  refine⟨fun h=> ?_,fun h=>⟨by omega,by omega,by omega,fun hc=> ?_,fun hc=> ?_⟩⟩
  ·have e:m=l.length:=by omega
   subst e
   refine z7.lp (α:=Nat) (fun i=>[(0,.slc 3 (l.map Tok.enc)),(4,.ref 0 vo 0 l.length),(18,.ref 1 ve 0 (opn l l.length).length),(19,vi (opn l l.length).length),(20,vi i)])
    (fun i=>⟨[⟨vo,1,(Kh l i).map fun n=>[vi n],false,[vi 0]⟩,⟨ve,1,es.map fun n=>[vi n],false,[vi 0]⟩],clk⟩)
    (fun i=>i≤(opn l l.length).length) (fun i=>(opn l l.length).length - i) 0 (by simp) (St.cut ?_ ?_ ?_) fun i hi=> ?_
   ·simp only[go_sem,zg,seval,reduceIte,reduceCtorEq]
   ·simp[Kh]
   ·rfl
   ·simp only[go_sem,zg,seval,reduceIte,reduceCtorEq]
    have hfl:∀i,(Kh l i).length=l.length:=by
     intro i
     have key:∀(t:List Int)(o:List Int),(t.foldl (fun o x=>o.set x.toNat l.length) o).length=o.length:=by
      intro t
      induction t with
      |nil=>intro o;rfl
      |cons x t ih=>intro o;simp only[List.foldl_cons];rw[ih];simp
     simp only[Kh]
     rw[key,hol]
    have hget:∀i,i<(opn l l.length).length→es.getD i 0=(opn l l.length).getD i 0:=fun i h=>by
     generalize opn l l.length=st at*
     have e1:st.getD i 0=(es.take st.length).getD i 0:=by rw[h2]
     rw[e1,List.getD_eq_getElem?_getD,List.getD_eq_getElem?_getD,List.getElem?_take,if_pos (by omega)]
    have hin:∀i,i<(opn l l.length).length→0≤es.getD i 0∧es.getD i 0<l.length:=fun i h=>by
     rw[hget i h,List.getD_eq_getElem?_getD,List.getElem?_eq_getElem h]
     exact hm _ (List.getElem_mem _)
    refine⟨fun hlt=> ?_,fun hge=> ?_⟩
    ·have hi':i<(opn l l.length).length:=by omega
     have:=hin i hi'
     refine⟨by omega,by omega,this,by rw[hfl];omega,by omega,i+1,by omega,by omega,by omega,?_⟩
     rw[ZL]
     congr 1
     simp only[Kh]
     rw[List.take_add_one,List.foldl_append,List.getElem?_eq_getElem hi',hget i hi',List.getD_eq_getElem?_getD,List.getElem?_eq_getElem hi']
     rfl
    ·have e:i=(opn l l.length).length:=by omega
     subst e
     have hd:yf l=false:=by
      simp only[yf,decide_eq_false_iff_not]
      rintro⟨i,h1,h2⟩
      have:=h4 i h1
      omega
     rw[hfl,if_pos (Nat.le_refl _),List.take_of_length_le (by rw[hfl];exact Nat.le_refl _)]
     simp only[za1,hd,Option.map_some]
     rfl
  ·have hk:=X5 hc
   simp only[hk,false_and,and_false,false_implies,true_and,not_false_eq_true,or_true,true_or,forall_const]
   rw[if_pos hc]at hnext
   have hnp:¬Y5 l (opn l m) m:=fun hp=>hc hp.1
   have hno:jL l (m+1)=(jL l m).set m (-1):=by simp only[jL,if_neg hnp]
   refine⟨by omega,fun h64=> ?_,fun h64=>⟨by omega,⟨m+1,es.take (opn l m).length++ [(m:Int)],vo,clk+1+1,clk+1+1+1⟩,?_⟩⟩
   ·have:yf l=true:=by
     simp only[yf,decide_eq_true_eq]
     exact⟨m,by omega,by rw[hnext];simp;omega⟩
    simp only[za1,this];rfl
   ·simp only[hnext,hno,ZL,h2,List.map_append,List.map_cons,List.map_nil,List.length_append,List.length_cons,List.length_nil]
    refine⟨⟨by omega,List.take_of_length_le (by simp),by omega,fun i hi=> ?_⟩,by omega,⟨trivial,⟨trivial,by first|trivial|omega⟩,by first|trivial|omega⟩,by simp⟩
    by_cases e:i<m
    ·exact h4 i e
    ·have:i=m:=by omega
     subst this
     rw[hnext];simp;omega
  ·rw[hN]
   rw[if_neg (by simpa using hc)]at hnext
   have h0:(opn l m).length≤64:=by
    by_cases e:m=0
    ·subst e;simp[opn]
    ·have:=h4 (m - 1) (by omega)
     rwa [show m - 1+1=m by omega]at this
   have hget:0<(opn l m).length→es.getD ((opn l m).length - 1) 0=(opn l m).getD ((opn l m).length - 1) 0:=fun h=>by
    generalize opn l m=st at*
    have e1:st.getD (st.length - 1) 0=(es.take st.length).getD (st.length - 1) 0:=by rw[h2]
    rw[e1,List.getD_eq_getElem?_getD,List.getD_eq_getElem?_getD,List.getElem?_take,if_pos (by omega)]
   have hlast:0<(opn l m).length→0≤es.getD ((opn l m).length - 1) 0∧es.getD ((opn l m).length - 1) 0<m:=fun h=>by
    rw[hget h,List.getD_eq_getElem?_getD,List.getElem?_eq_getElem (by omega)]
    exact hm _ (List.getElem_mem _)
   refine⟨by omega,by omega,by omega,by grind,fun hp=> ?_,fun hp=>⟨by omega,⟨m+1,es,vo,ve,clk+1⟩,?_⟩⟩
   ·have hp0:0<(opn l m).length:=by have:=hp.1.2;omega
    have hpp:Y5 l (opn l m) m:=⟨hc,hp.1.1,hp0,by rw[←hget hp0];exact hp.2⟩
    have hno:jL l (m+1)=((jL l m).set m (-1)).set (es.getD ((opn l m).length - 1) 0).toNat m:=by simp only[jL,if_pos hpp,hget hp0]
    rw[if_pos ⟨hpp.2.1,hpp.2.2.1,hpp.2.2.2⟩]at hnext
    refine⟨by omega,by omega,by omega,by have:=hlast hp0;omega,?_,by omega,by omega,by omega,⟨m+1,es,vo,ve,clk+1⟩,?_⟩
    ·simp only[ZL,decide_eq_true_eq,List.length_map,List.length_set,hol];have:=hlast hp0;omega
    ·have e4:List.take ((opn l m).length - 1) es=List.take ((opn l m).length - 1) (opn l m):=by
      generalize opn l m=st at*
      have e3:(es.take st.length).take (st.length - 1)=es.take (st.length - 1):=by rw[List.take_take];congr 1;omega
      rw[←e3,h2]
     have e5:(List.take ((opn l m).length - 1) (opn l m)).length=(opn l m).length - 1:=by simp
     simp only[hnext,hno,ZL,yt,List.drop_succ_cons,List.drop_nil,List.drop_zero,e5,e4]
     refine⟨⟨by omega,trivial,by omega,fun i hi=> ?_⟩,by omega,⟨trivial,⟨trivial,by omega⟩,by omega⟩,by simp⟩
     by_cases e:i<m
     ·exact h4 i e
     ·have:i=m:=by omega
      subst this
      rw[hnext,e5];omega
   ·have hnp:¬Y5 l (opn l m) m:=by
     rintro⟨_,q1,q2,q3⟩
     rcases hp with(hp|hp)|hp
     ·exact hp q1
     ·omega
     ·rw[hget q2]at hp;exact hp q3
    have hno:jL l (m+1)=(jL l m).set m (-1):=by simp only[jL,if_neg hnp]
    rw[if_neg (fun hh=>hnp ⟨hc,hh⟩)]at hnext
    simp only[hnext,hno,ZL]
    refine⟨⟨by omega,h2,h3,fun i hi=> ?_⟩,by omega,⟨trivial,⟨trivial,trivial⟩,by omega⟩,by simp⟩
    by_cases e:i<m
    ·exact h4 i e
    ·have:i=m:=by omega
     subst this
     rw[hnext];omega
end Go.Proofs.YtlaopdfpncckeaaGreatDoor
end
section
namespace Go.Proofs.YtlaopdfpncckeaaGreatDoor
open Go.Sx
set_option linter.unusedSimpArgs false
set_option maxHeartbeats 1000000
theorem kS(l:List Tok)(m:Nat):opn l (m+1)=kU l (opn l m) m:=rfl
theorem qf{l:List Tok}{m:Nat}(h:¬zy (l.getD m .zero)=⟨#[]⟩):opn l (m+1)=opn l m++ [(m:Int)]:=by rw[kS,kU,if_pos h]
theorem Z0{l:List Tok}{m:Nat}(h:Y5 l (opn l m) m):opn l (m+1)=(opn l m).take ((opn l m).length - 1):=by
 rw[kS,kU,if_neg (by simpa using h.1),if_pos h.2]
theorem kn{l:List Tok}{m:Nat}(h:zy (l.getD m .zero)=⟨#[]⟩)(hp:¬Y5 l (opn l m) m):opn l (m+1)=opn l m:=by
 rw[kS,kU,if_neg (by simpa using h),if_neg (fun hh=>hp ⟨h,hh⟩)]
theorem zjo{l:List Tok}{k m:Nat}(hk:k<m)(h:¬(k:Int)∈opn l m):¬(k:Int)∈opn l (m+1):=by
 by_cases hc:zy (l.getD m .zero)=⟨#[]⟩
 ·by_cases hp:Y5 l (opn l m) m
  ·rw[Z0 hp];exact fun hh=>h (List.mem_of_mem_take hh)
  ·rw[kn hc hp];exact h
 ·rw[qf hc];simp only[List.mem_append,List.mem_singleton,not_or];exact⟨h,by omega⟩
theorem za7{l:List Tok}{k:Nat}:∀(d m:Nat),k<m→(k:Int)∈opn l (m+d)→(k:Int)∈opn l m
 |0,_,_,h=>h
 |d+1,m,hk,h=>za7 d m hk (Decidable.byContradiction fun hn=>zjo (by omega) hn h)
theorem jN{l:List Tok}{k m m':Nat}(hk:k<m)(hm:m≤m')(h:(k:Int)∈opn l m'):(k:Int)∈opn l m:=by
 obtain⟨d,rfl⟩:∃d,m'=m+d:=⟨m' - m,by omega⟩
 exact za7 d m hk h
theorem qr{l:List Tok}:∀(m:Nat)(k:Nat),(k:Int)∈opn l m→¬zy (l.getD k .zero)=⟨#[]⟩
 |0,k,h=>by simp[opn]at h
 |m+1,k,h=>by
  by_cases hc:zy (l.getD m .zero)=⟨#[]⟩
  ·by_cases hp:Y5 l (opn l m) m
   ·rw[Z0 hp]at h;exact qr m k (List.mem_of_mem_take h)
   ·rw[kn hc hp]at h;exact qr m k h
  ·rw[qf hc]at h
   simp only[List.mem_append,List.mem_singleton]at h
   rcases h with h|h
   ·exact qr m k h
   ·have:k=m:=by omega
    subst this;exact hc
theorem XT(l:List Tok):∀m,(opn l m).Nodup
 |0=>by simp[opn]
 |m+1=>by
  have ih:=XT l m
  by_cases hc:zy (l.getD m .zero)=⟨#[]⟩
  ·by_cases hp:Y5 l (opn l m) m
   ·rw[Z0 hp];exact ih.sublist (List.take_sublist _ _)
   ·rw[kn hc hp];exact ih
  ·rw[qf hc,List.nodup_append]
   refine⟨ih,by simp,fun a ha b hb=> ?_⟩
   have:=yV l m a ha
   simp at hb
   omega
theorem K8{l:List Tok}{k:Nat}(hc:¬zy (l.getD k .zero)=⟨#[]⟩):∀(d:Nat),(k:Int)∈opn l (k+1+d)→∃t,opn l (k+1+d)=opn l k++(k:Int)::t
 |0,_=>⟨[],qf hc⟩
 |d+1,h=>by
  have hin:(k:Int)∈opn l (k+1+d):=jN (by omega) (by omega) h
  obtain⟨t,ht⟩:=K8 hc d hin
  have e:k+1+(d+1)=(k+1+d)+1:=by omega
  rw[e]at h⊢
  generalize k+1+d=m at*
  by_cases hm:zy (l.getD m .zero)=⟨#[]⟩
  ·by_cases hp:Y5 l (opn l m) m
   ·rw[Z0 hp]at h⊢
    rw[ht]at h⊢
    have e2:(opn l k++(k:Int)::t).length - 1=(opn l k).length+t.length:=by simp
    rw[e2,List.take_append,List.take_of_length_le (by omega)]at h⊢
    cases t with
    |nil=>
     simp at h
     have:=yV l k _ h
     omega
    |cons x t=>exact⟨(x::t).take t.length,by simp⟩
   ·rw[kn hm hp];exact⟨t,ht⟩
  ·rw[qf hm];exact⟨t++ [(m:Int)],by rw[ht];simp⟩
theorem jx{l:List Tok}{k j:Nat}(hc:¬zy (l.getD k .zero)=⟨#[]⟩)(hj:k≤j):Zj l k j↔¬(k:Int)∈opn l (j+1):=by
 have hd:(opn l (k+1)).length=(opn l k).length+1:=by rw[qf hc];simp
 constructor
 ·intro h hin
  obtain⟨d,rfl⟩:∃d,j=k+d:=⟨j - k,by omega⟩
  have e:k+d+1=k+1+d:=by omega
  unfold Zj at h
  rw[e]at h hin
  obtain⟨t,ht⟩:=K8 hc d hin
  rw[ht,hd]at h
  rcases h with h|h
  ·simp at h
  ·apply h;simp[List.getD_eq_getElem?_getD]
 ·intro hn
  unfold Zj
  by_cases h1:(opn l (j+1)).length<(opn l (k+1)).length
  ·exact .inl h1
  ·refine .inr fun h2=>hn ?_
   rw[←h2,List.getD_eq_getElem?_getD,List.getElem?_eq_getElem (by omega)]
   exact List.getElem_mem _
theorem Wg{l:List Tok}{k:Nat}:∀(d j:Nat),j+d≤l.length→(∀i,j≤i→i<j+d→¬Zj l k i)→fe l k (l.length - j) j=fe l k (l.length - (j+d)) (j+d)
 |0,_,_,_=>rfl
 |d+1,j,h,hn=>by
  rw[zeq l k j (by omega),if_neg (hn j (by omega) (by omega)),Wg d (j+1) (by omega) (fun i h1 h2=>hn i (by omega) (by omega))]
  have e:j+1+d=j+(d+1):=by omega
  rw[e]
theorem YT(o:List Int)(i k:Nat)(v:Int)(hk:k<o.length):(o.set i v).getD k 0=if i=k then v else o.getD k 0:=by
 rw[List.getD_eq_getElem?_getD,List.getElem?_set]
 split
 ·rename_i h;subst h;simp[hk]
 ·rw[List.getD_eq_getElem?_getD]
def feE(l:List Tok)(k:Nat):Int:=fe l k (l.length - (k+1)) (k+1)
theorem za2(l:List Tok):∀(m:Nat),m≤l.length→∀k,k<m→(jL l m).getD k 0=if zy (l.getD k .zero)=⟨#[]⟩then -1 else if(k:Int)∈opn l m then -1 else feE l k
 |0,_,k,hk=>by omega
 |m+1,hm,k,hk=>by
  have ih:=za2 l m (by omega)
  have hlen:=ZH l m
  by_cases hp:Y5 l (opn l m) m
  ·have hop:=Z0 hp
   have h0:=hp.2.2.1
   have ho:∃o:Nat,(opn l m).getD ((opn l m).length - 1) 0=(o:Int)∧o<m∧(o:Int)∈opn l m:=by
    have hin:(opn l m).getD ((opn l m).length - 1) 0∈opn l m:=by
     rw[List.getD_eq_getElem?_getD,List.getElem?_eq_getElem (by omega)];exact List.getElem_mem _
    have:=yV l m _ hin
    exact⟨((opn l m).getD ((opn l m).length - 1) 0).toNat,by omega,by omega,by rw[Int.toNat_of_nonneg this.1];exact hin⟩
   obtain⟨o,ho,hom,hoin⟩:=ho
   have hsplit:opn l m=opn l (m+1)++ [(o:Int)]:=by
    rw[hop]
    have e:=List.take_append_drop ((opn l m).length - 1) (opn l m)
    rw[List.drop_eq_getElem_cons (by omega)]at e
    have e2:(opn l m)[(opn l m).length - 1]'(by omega)=(o:Int):=by
     rw[←ho,List.getD_eq_getElem?_getD,List.getElem?_eq_getElem (by omega)];rfl
    rw[e2,show(opn l m).length - 1+1=(opn l m).length by omega,List.drop_length]at e
    exact e.symm
   have hnot:¬(o:Int)∈opn l (m+1):=by
    have:=XT l m
    rw[hsplit,List.nodup_append]at this
    exact fun h=>this.2.2 _ h _ (by simp) rfl
   simp only[jL,if_pos hp,ho,Int.toNat_natCast]
   rw[YT _ _ _ _ (by simp;omega),YT _ _ _ _ (by omega)]
   by_cases h1:o=k
   ·subst h1
    rw[if_pos rfl,if_neg (qr m o hoin),if_neg hnot]
    unfold feE
    have hc:=qr m o hoin
    obtain⟨d,hd⟩:∃d,m=o+1+d:=⟨m - (o+1),by omega⟩
    rw[Wg d (o+1) (by omega) (fun i hi1 hi2=>by
     rw[jx hc (by omega)]
     exact fun hn=>hn (jN (by omega) (by omega) hoin)),←hd,zeq l o m (by omega),if_pos ((jx hc (by omega)).2 hnot)]
   ·rw[if_neg h1]
    by_cases h2:m=k
    ·subst h2;rw[if_pos rfl,if_pos hp.1]
    ·rw[if_neg h2,ih k (by omega)]
     have:(k:Int)∈opn l m↔(k:Int)∈opn l (m+1):=by
      rw[hsplit];simp only[List.mem_append,List.mem_singleton]
      constructor
      ·rintro(h|h)
       ·exact h
       ·omega
      ·exact fun h=>.inl h
     simp only[this]
  ·simp only[jL,if_neg hp]
   rw[YT _ _ _ _ (by omega)]
   by_cases h2:m=k
   ·subst h2
    rw[if_pos rfl]
    by_cases hc:zy (l.getD m .zero)=⟨#[]⟩
    ·rw[if_pos hc]
    ·rw[if_neg hc,if_pos (by rw[qf hc];simp)]
   ·rw[if_neg h2,ih k (by omega)]
    have:(k:Int)∈opn l m↔(k:Int)∈opn l (m+1):=by
     by_cases hc:zy (l.getD m .zero)=⟨#[]⟩
     ·rw[kn hc hp]
     ·rw[qf hc];simp only[List.mem_append,List.mem_singleton]
      constructor
      ·exact fun h=>.inl h
      ·rintro(h|h)
       ·exact h
       ·omega
    simp only[this]
theorem jB(v:Int):∀(t:List Int)(o:List Int)(k:Nat),(∀x∈t,0≤x)→k<o.length→(t.foldl (fun o x=>o.set x.toNat v) o).getD k 0=if(k:Int)∈t then v else o.getD k 0
 | [],o,k,_,_=>by simp
 |x::t,o,k,hx,hk=>by
  have h0:=hx x (by simp)
  rw[List.foldl_cons,jB v t _ k (fun y hy=>hx y (by simp[hy])) (by simpa using hk),YT _ _ _ _ hk]
  by_cases h1:(k:Int)∈t
  ·simp[h1]
  ·have e:x.toNat=k↔(k:Int)=x:=by omega
   simp only[List.mem_cons,h1,or_false,if_false,e]
theorem zn4(l:List Tok):Kh l (opn l l.length).length=Yr l l.length:=by
 have hlen:∀(t o:List Int),(t.foldl (fun o x=>o.set x.toNat (l.length:Int)) o).length=o.length:=by
  intro t
  induction t with
  |nil=>intro o;rfl
  |cons x t ih=>intro o;rw[List.foldl_cons,ih];simp
 have hl2:(Kh l (opn l l.length).length).length=l.length:=by unfold Kh;rw[hlen,ZH]
 apply List.ext_getElem (by rw[hl2,qL])
 intro k h1 h2
 have hk:k<l.length:=by omega
 have e1:(Kh l (opn l l.length).length)[k]=(Kh l (opn l l.length).length).getD k 0:=by rw[List.getD_eq_getElem?_getD,List.getElem?_eq_getElem h1];rfl
 rw[e1]
 unfold Kh
 rw[List.take_length,jB _ _ _ _ (fun x hx=>(yV l _ x hx).1) (by rw[ZH];exact hk),za2 l l.length (Nat.le_refl _) k hk]
 simp only[Yr,List.getElem_map,List.getElem_range,y9]
 by_cases hin:(k:Int)∈opn l l.length
 ·have hc:=qr _ k hin
  rw[if_pos hin,if_neg hc]
  obtain⟨d,hd⟩:∃d,l.length=k+1+d:=⟨l.length - (k+1),by omega⟩
  rw[Wg d (k+1) (by omega) (fun i hi1 hi2=>by
   rw[jx hc (by omega)]
   exact fun hn=>hn (jN (by omega) (by omega) hin)),←hd]
  simp[fe]
 ·rw[if_neg hin,if_neg hin];rfl
theorem zjb(l:List Tok):za1 l=zem l:=by
 unfold za1 zem
 rw[zn4]
end Go.Proofs.YtlaopdfpncckeaaGreatDoor
end
section
namespace Go.Proofs.YtlaopdfpncckeaaGreatDoor
open Go.Sx
set_option linter.unusedSimpArgs false
set_option maxHeartbeats 4000000
theorem PRep.nilS{F:Nat→Prop}{w:World}{v:Value}(sz:Nat)(h:PRep F w v zL):PRep F w v (.slc sz []):=by
 cases h
 exact .slc none 0 0 sz [] 0 0 (fun _ _=>undef) rfl (Nat.le_refl _) (by simp) (by simp) (by simp) (by simp)
def zA(l:List Tok):List Int:=if yf l then[]else Yr l l.length
def Kd(l:List Tok):Int:=if yf l then 3 else 0
theorem zfu(l:List Tok)(F:Nat→Prop)(w:World)(v:Value)(h:PRep F w v (zem l)):PRep F w v (.tup [ye (zA l),vi (Kd l)]):=by
 unfold zem at h
 unfold zA Kd
 cases hd:yf l with
 |false=>simpa[hd]using h
 |true=>
  simp only[hd,cond_true]at h
  simp only[if_true]
  cases h with
  |tup cs xs hl h=>
   refine .tup cs _ hl fun i hi=> ?_
   have:=h i hi
   match i,hi with
   |0,_=>exact PRep.nilS 1 this
   |1,_=>exact this
   |n+2,hi=>exact absurd hi (by simp)
theorem Wo(l:List Tok)(hl:l.length≤1000000):ze Tryz.prog 96 [zm l] (.tup [ye (zA l),vi (Kd l)]):=by
 have:=za4 l hl
 rw[zjb]at this
 exact ze.rsub this (zfu l)
def KK(args:List V):Prop:=args= [zm (zi (args.getD 0 .any))]∧(zi (args.getD 0 .any)).length≤1000000
def KL(args:List V):V:=.tup [ye (zA (zi (args.getD 0 .any))),vi (Kd (zi (args.getD 0 .any)))]
def Qh:Sum Tryz.prog:=⟨96,KK,KL,fun args h=>by have:=Wo _ h.2;rwa [←h.1]at this,false⟩
theorem yX:Qh.f=96:=rfl
theorem yW(args:List V):Qh.D args=KK args:=rfl
theorem yg:Qh.flat=false:=rfl
theorem yY(args:List V):Qh.r args=KL args:=rfl
def zjU(l:List Int)(k:Int):Prop:= -9223372036854775808≤k∧k<9223372036854775807∧l.getD k.toNat 0<9223372036854775807
def Zh:Sum Tryz.prog:=⟨97,fun args=>args= [ye (zY (args.getD 0 .any)),vi (args.getD 1 .any).int]∧zjU (zY (args.getD 0 .any)) (args.getD 1 .any).int,fun args=>vi (skip (zY (args.getD 0 .any)) (args.getD 1 .any).int),fun args h=>by
 have:=zot (zY (args.getD 0 .any)) (args.getD 1 .any).int h.2.1 h.2.2.1 h.2.2.2;rwa [←h.1]at this,true⟩
theorem yO:Zh.f=97:=rfl
theorem yN(args:List V):Zh.D args=(args= [ye (zY (args.getD 0 .any)),vi (args.getD 1 .any).int]∧zjU (zY (args.getD 0 .any)) (args.getD 1 .any).int):=rfl
theorem yq:Zh.flat=true:=rfl
theorem yP(args:List V):Zh.r args=vi (skip (zY (args.getD 0 .any)) (args.getD 1 .any).int):=rfl
theorem WC(ends:List Int)(k:Int)(hk:k<ends.length):k+1≤skip ends k:=by
 unfold skip
 grind
theorem zeO(ends:List Int)(k:Int)(hk:k<ends.length):skip ends k≤ends.length:=by
 unfold skip
 grind
theorem ziB(l:List Tok)(k:Nat):∀(f j:Nat),j+f=l.length→(j:Int)≤fe l k f j∧fe l k f j≤l.length
 |0,j,h=>by simp only[fe];omega
 |f+1,j,h=>by
  simp only[fe]
  split
  ·omega
  ·have:=ziB l k f (j+1) (by omega);omega
theorem zaw(l:List Tok)(k:Nat)(hk:k<l.length):y9 l k= -1∨((k:Int)<y9 l k∧y9 l k≤l.length):=by
 unfold y9
 split
 ·exact .inl rfl
 ·have:=ziB l k (l.length - (k+1)) (k+1) (by omega);right;omega
theorem ZW(l:List Tok)(hd:yf l=false)(k:Nat)(hk:k<l.length):(zA l).getD k 0=y9 l k:=by
 simp only[zA,hd,Bool.false_eq_true,if_false,Yr]
 simp[List.getD_eq_getElem?_getD,hk]
theorem zax(l:List Tok)(k:Nat):(zA l).getD k 0≤l.length:=by
 cases hd:yf l with
 |true=>simp[zA,hd]
 |false=>
  by_cases hk:k<l.length
  ·rw[ZW l hd k hk];have:=zaw l k hk;omega
  ·have:(zA l).length≤k:=by simp[zA,hd,qL];omega
   rw[List.getD_eq_getElem?_getD,List.getElem?_eq_none this];simp
theorem zep(l:List Tok)(k:Nat):∀(f j:Nat),j+f=l.length→fe l k f j=l.length∨∃m,j≤m∧m<l.length∧fe l k f j=m∧Zj l k m∧∀i,j≤i→i<m→¬Zj l k i
 |0,j,h=>by simp only[fe];exact .inl trivial
 |f+1,j,h=>by
  simp only[fe]
  split
  ·rename_i hc;exact .inr ⟨j,Nat.le_refl _,by omega,rfl,hc,fun i h1 h2=>by omega⟩
  ·rename_i hc
   rcases zep l k f (j+1) (by omega)with h1|⟨m,h1,h2,h3,h4,h5⟩
   ·exact .inl h1
   ·refine .inr ⟨m,by omega,h2,h3,h4,fun i hi1 hi2=> ?_⟩
    by_cases e:i=j
    ·subst e;exact hc
    ·exact h5 i (by omega) hi2
end Go.Proofs.YtlaopdfpncckeaaGreatDoor
end
section
namespace Go.Proofs.YtlaopdfpncckeaaGreatDoor
open Go.Sx
set_option linter.unusedSimpArgs false
set_option maxHeartbeats 4000000
set_option maxRecDepth 20000
structure Part where
 t:Tok
 ar:Option (List Tok)
instance:Inhabited Part:=⟨⟨.zero,none⟩⟩
def avO(o:Option (List Tok)):V:=match o with|none=>zL|some l=>zm l
def Part.enc(p:Part):List V:=[vi p.t.kind,vs p.t.text,vi p.t.n,avO p.ar]
def parts(l:List Part):V:=.slc 4 (l.map Part.enc)
theorem Part.eta'(p:Part):(⟨⟨p.t.kind,p.t.text,p.t.n⟩,p.ar⟩:Part)=p:=rfl
theorem zjH(S:Nat→Bool)(h:Heap)(o:Option (List Tok)):res S h 10 (avO o)=some (avO o):=by cases o<;>rfl
theorem Y0(S:Nat→Bool)(h:Heap):∀l:List Part,zK (zK (res S h 10)) (l.map Part.enc)=some (l.map Part.enc)
 | []=>rfl
 |p::l=>by
  have e:zK (res S h 10) p.enc=some p.enc:=by simp only[Part.enc,zK,zeM,zjH]
  simp only[List.map_cons,zK,Y0 S h l,e]
def plR(ends:List Int)(to:Int):Nat→Int→List Int
 |0,_=>[]
 |f+1,a=>if a<to then a::plR ends to f (skip ends a)else[]
def pAt(l:List Tok)(k:Nat):Part:=⟨l.getD k .zero,if 0≤(zA l).getD k 0 then some ((l.take ((zA l).getD k 0).toNat).drop (k+1))else none⟩
def yr(l:List Tok):List Int→Option (List Part)
 | []=>some []
 |k::r=>if(zA l).getD k.toNat 0=l.length then none else(yr l r).map fun ps=>if(l.getD k.toNat .zero).kind=1 then ps else pAt l k.toNat::ps
def ptO(l:List Tok):Option (List Part):=if yf l=true then none else yr l (plR (zA l) l.length (l.length+1) 0)
def ptL(l:List Tok):List Part:=(ptO l).getD []
def ptB(l:List Tok):Bool:=(ptO l).isSome
def ptV(l:List Tok):V:=.tup [parts (ptL l),vb (ptB l)]
theorem JO(F:Nat→Prop)(w:World)(v:Value)(h:PRep F w v (.tup [zL,vb false])):PRep F w v (.tup [parts [],vb false]):=by
 cases h with
 |tup cs _ hl hx=>
  refine .tup cs _ hl fun i hi=> ?_
  have:=hx i hi
  match i,hi with
  |0,_=>exact PRep.nilS 4 this
  |1,_=>exact this
def zjy:Option (List Part)→V
 |none=>.tup [zL,vb false]
 |some ps=>.tup [parts ps,vb true]
structure PtS where
 k:Nat
 f:Nat
 out:List Part
 ver:Nat
 clk:Nat
theorem kT{l:List Tok}(hd:yf l=false)(k:Nat)(hk:k<l.length):∃n:Nat,skip (zA l) k=n∧k<n∧n≤l.length:=by
 have hlen:(zA l).length=l.length:=by unfold zA;rw[hd];simp[qL]
 have h1:=WC (zA l) k (by rw[hlen];omega)
 have h2:=zeO (zA l) k (by rw[hlen];omega)
 exact⟨(skip (zA l) k).toNat,by omega,by omega,by omega⟩
theorem zpG{l:List Tok}{x:Option (List Part)}(h:ptO l=x):ptV l= .tup [parts (x.getD []),vb x.isSome]:=by unfold ptV ptL ptB;rw[h]
theorem zjz{f:FuncId}{args:List V}(R:Option (List Part))(h:ze Tryz.prog f args (zjy R)):ze Tryz.prog f args (.tup [parts (R.getD []),vb R.isSome]):=by
 cases R with
 |none=>exact ze.rsub h JO
 |some ps=>exact h
theorem zjq(l:List Tok)(hl:l.length≤1000000):ze Tryz.prog 67 [zm l] (ptV l):=by
 by_cases hd:yf l=true
 ·have hO:ptO l=none:=by unfold ptO;rw[if_pos hd]
  rw[zpG hO]
  refine ze.rsub ?_ JO
  refine ze.of (Orc.cons Qh (Orc.cons Zh (Orc.nil _))) zia (by simp[c67]) fun w0 own0=> ?_
  have he:Kd l=3:=by unfold Kd;rw[if_pos hd]
  simp only[c67,zm,KK,KL,zh,hl,he,ye,yX,yW,yg,yY,yO,yN,yq,yP,go_sem,zg,seval,reduceIte,reduceCtorEq]
 have hd:yf l=false:=by simpa using hd
 have he:Kd l=0:=by unfold Kd;rw[hd];rfl
 have hlen:(zA l).length=l.length:=by unfold zA;rw[hd];simp[qL]
 generalize hO:ptO l=R
 rw[zpG hO]
 have hO':yr l (plR (zA l) l.length (l.length+1) 0)=R:=by rw[←hO];unfold ptO;rw[hd];rfl
 refine zjz R ?_
 refine ze.of (Orc.cons Qh (Orc.cons Zh (Orc.nil _))) zia (by simp[c67]) fun w0 own0=> ?_
 simp only[c67,zm,KK,KL,zh,hl,he,ye,yX,yW,yg,yY,yO,yN,yq,yP,go_sem,zg,seval,reduceIte,reduceCtorEq]
 refine z7.lp (α:=PtS) (fun a=>[(0,.slc 3 (l.map Tok.enc)),(4,.slc 1 ((zA l).map fun n=>[vi n])),(6,.ref 0 a.ver 0 a.out.length),(7,vi a.k)])
  (fun a=>⟨[⟨a.ver,4,a.out.map Part.enc,false,[vi 0,vs ⟨#[]⟩,vi 0,zL]⟩],a.clk⟩) (fun a=>a.k≤l.length∧a.out.length≤a.k∧l.length+1≤a.k+a.f∧(yr l (plR (zA l) l.length a.f a.k)).map (a.out++ ·)=R) (fun a=>l.length - a.k) ⟨0,l.length+1,[],0,1⟩
  ⟨Nat.zero_le _,Nat.zero_le _,by dsimp only;omega,by dsimp only;rw[show((0:Nat):Int)=0 from rfl,hO'];simp⟩ (St.nil 6 4 [vi 0,vs ⟨#[]⟩,vi 0,zL] (by simp[zq]) (St.cut ?_ ?_ ?_)) fun a ha=> ?_
 ·simp[zC,zq,zI]
 ·simp[Heap.alloc]
 ·rfl
 obtain⟨k,f,out,ver,clk⟩:=a
 obtain⟨h1,h2,h3,h4⟩:=ha
 simp only at h1 h2 h3 h4
 obtain⟨f',rfl⟩:∃f',f=f'+1:=⟨f - 1,by omega⟩
 by_cases hk:k=l.length
 ·subst hk
  simp only[plR,Int.lt_irrefl,if_false,yr,Option.map_some,List.append_nil]at h4
  subst h4
  simp only[Int.lt_irrefl,List.take_length,Y0,Z6,Nat.le_refl,zjy,parts,yX,yW,yg,yY,yO,yN,yq,yP,go_sem,zg,seval,reduceIte,reduceCtorEq]
 ·have e1:(k:Int)<(l.length:Int):=by omega
  have e0:(0:Int)≤(k:Int):=by omega
  have hlt:k<l.length:=by omega
  have hle:=zax l k
  have hrg:=zaw l k hlt
  rw[←ZW l hd k hlt]at hrg
  obtain⟨n,hn1,hn2,hn3⟩:=kT hd k hlt
  have hsk:zjU (zA l) k:=⟨by omega,by omega,by rw[Int.toNat_natCast];omega⟩
  simp only[plR,e1,if_true,yr,Int.toNat_natCast,hn1]at h4
  have hp:pAt l k=⟨l.getD k .zero,if 0≤(zA l).getD k 0 then some ((l.take ((zA l).getD k 0).toNat).drop (k+1))else none⟩:=rfl
  obtain⟨en,hen⟩:∃en,(zA l).getD k 0=en:=⟨_,rfl⟩
  rw[hen]at hle hrg h4 hp
  obtain⟨x,hx⟩:∃x,l.getD k .zero=x:=⟨_,rfl⟩
  rw[hx]at h4 hp
  have hot:out.take out.length=out:=List.take_length
  by_cases c1:en=l.length
  ·rw[if_pos c1]at h4
   simp only[Option.map_none]at h4
   subst h4
   simp only[e0,e1,hlen,hx,hen,c1,Tok.enc,ye,zjy,yX,yW,yg,yY,yO,yN,yq,yP,go_sem,zg,seval,reduceIte,reduceCtorEq]
  ·rw[if_neg c1]at h4
   by_cases c2:0≤en
   ·rw[if_pos c2]at hp
    have hek:(k:Int)+1≤en:=by omega
    have hk1:((k:Int)+1).toNat=k+1:=by omega
    have hk0:(0:Int)≤(k:Int)+1:=by omega
    have hcut:List.take (en.toNat - (k+1)) (List.drop (k+1) (List.map Tok.enc l))=((l.take en.toNat).drop (k+1)).map Tok.enc:=by
     rw[←List.map_drop,←List.map_take,List.drop_take]
    by_cases c3:x.kind=1
    ·simp only[c3,if_true]at h4
     have h4:(yr l (plR (zA l) l.length f' n)).map (out++ ·)=R:=by rw[←h4];cases yr l (plR (zA l) l.length f' n)<;>rfl
     simp only[e0,e1,hlen,hx,hen,c1,c2,c3,hsk,hn1,hle,hek,hk0,hk1,yh,Tok.enc,ye,yX,yW,yg,yY,yO,yN,yq,yP,go_sem,zg,seval,reduceIte,reduceCtorEq]
     exact⟨by omega,⟨n,f',out,ver,clk+1⟩,⟨by dsimp only;omega,by dsimp only;omega,by dsimp only;omega,h4⟩,by dsimp only;omega,⟨⟨rfl,rfl⟩,rfl⟩,⟨rfl,rfl⟩,rfl⟩
    ·simp only[c3,if_false]at h4
     simp only[e0,e1,hlen,hx,hen,c1,c2,c3,hsk,hn1,hle,hek,hk0,hk1,hcut,hot,yh,Tok.enc,ye,yX,yW,yg,yY,yO,yN,yq,yP,go_sem,zg,seval,reduceIte,reduceCtorEq]
     refine⟨by omega,⟨by omega,by omega,by omega⟩,⟨n,f',out++ [pAt l k],clk+2,clk+3⟩,⟨by dsimp only;omega,by simp;omega,by dsimp only;omega,?_⟩,by dsimp only;omega,⟨⟨rfl,by simp⟩,rfl⟩,⟨rfl,?_⟩,rfl⟩
     ·rw[←h4];cases yr l (plR (zA l) l.length f' n)<;>simp
     ·rw[hp];simp[Part.enc,avO,zm]
   ·rw[if_neg c2]at hp
    by_cases c3:x.kind=1
    ·simp only[c3,if_true]at h4
     have h4:(yr l (plR (zA l) l.length f' n)).map (out++ ·)=R:=by rw[←h4];cases yr l (plR (zA l) l.length f' n)<;>rfl
     simp only[e0,e1,hlen,hx,hen,c1,c2,c3,hsk,hn1,yh,Tok.enc,ye,yX,yW,yg,yY,yO,yN,yq,yP,go_sem,zg,seval,reduceIte,reduceCtorEq]
     exact⟨⟨n,f',out,ver,clk+1⟩,⟨by dsimp only;omega,by dsimp only;omega,by dsimp only;omega,h4⟩,by dsimp only;omega,⟨⟨rfl,rfl⟩,rfl⟩,⟨rfl,rfl⟩,rfl⟩
    ·simp only[c3,if_false]at h4
     simp only[e0,e1,hlen,hx,hen,c1,c2,c3,hsk,hn1,hot,yh,Tok.enc,ye,yX,yW,yg,yY,yO,yN,yq,yP,go_sem,zg,seval,reduceIte,reduceCtorEq]
     refine⟨⟨by omega,by omega,by omega⟩,⟨n,f',out++ [pAt l k],clk+2,clk+3⟩,⟨by dsimp only;omega,by simp;omega,by dsimp only;omega,?_⟩,by dsimp only;omega,⟨⟨rfl,by simp⟩,rfl⟩,⟨rfl,?_⟩,rfl⟩
     ·rw[←h4];cases yr l (plR (zA l) l.length f' n)<;>simp
     ·rw[hp];simp[Part.enc,avO]
end Go.Proofs.YtlaopdfpncckeaaGreatDoor
end
section
namespace Go.Proofs.YtlaopdfpncckeaaGreatDoor
open Go.Sx
set_option linter.unusedSimpArgs false
set_option maxHeartbeats 4000000
set_option maxRecDepth 20000
structure PlS where
 k:Nat
 f:Nat
 out:List Int
 ver:Nat
 clk:Nat
theorem zeI{l:List Tok}(hd:yf l=false):∀(f:Nat)(k:Nat),∀x∈plR (zA l) l.length f k,0≤x∧x<l.length
 |0,k,x,hx=>by simp[plR]at hx
 |f+1,k,x,hx=>by
  unfold plR at hx
  by_cases hk:(k:Int)<l.length
  ·rw[if_pos hk]at hx
   obtain⟨n,hn1,hn2,hn3⟩:=kT hd k (by omega)
   rcases List.mem_cons.1 hx with rfl|hx
   ·omega
   ·rw[hn1]at hx;exact zeI hd f n x hx
  ·rw[if_neg hk]at hx;cases hx
theorem zeH{l:List Tok}(hd:yf l=false):∀(f:Nat)(k:Nat),k≤l.length→(plR (zA l) l.length f k).length+k≤l.length
 |0,k,h=>by simp[plR];exact h
 |f+1,k,h=>by
  unfold plR
  by_cases hk:(k:Int)<l.length
  ·rw[if_pos hk]
   obtain⟨n,hn1,hn2,hn3⟩:=kT hd k (by omega)
   rw[hn1]
   have:=zeH hd f n hn3
   simp only[List.length_cons];omega
  ·rw[if_neg hk];simp;exact h
structure PrS where
 i:Nat
 out:List Part
 ver:Nat
 clk:Nat
structure Pa where
 t:Tok
 al:List Tok
instance:Inhabited Pa:=⟨⟨.zero,[]⟩⟩
def Pa.enc(p:Pa):List V:=[vi p.t.kind,vs p.t.text,vi p.t.n,.slc 3 (p.al.map Tok.enc)]
def zu3(e:List V):Pa:=⟨zik e,zi (e.getD 3 .any)⟩
def dPa(v:V):Pa:=zu3 v.cs
theorem qb(a n:Int)(s:ByteArray)(l:List Tok):dPa (.agg [.c (.int .i64 a),.c (.string s),.c (.int .i64 n),.slc 3 (l.map Tok.enc)])=⟨⟨a,s,n⟩,l⟩:=by
 show(⟨_,zi (.slc 3 (l.map Tok.enc))⟩:Pa)=_
 rw[zh];rfl
theorem Pa.eta'(p:Pa):(⟨⟨p.t.kind,p.t.text,p.t.n⟩,p.al⟩:Pa)=p:=rfl
theorem Pa.etaT(p:Pa):(⟨p.t.kind,p.t.text,p.t.n⟩:Tok)=p.t:=rfl
theorem jC(l:List Pa)(i:Nat)(d:List V)(h:i<l.length):(l.map Pa.enc).getD i d=(l.getD i default).enc:=by
 simp[List.getD_eq_getElem?_getD,h]
def JN(p:Part):Pa:=⟨p.t,p.ar.getD []⟩
def pl(l:List Tok):List Pa:=(ptL l).map JN
def plV(l:List Tok):V:=.tup [.slc 4 ((pl l).map Pa.enc),vb (ptB l)]
theorem XV:∀ps:List Part,F2 (F2 (Sub 1)) (ps.map Part.enc) ((ps.map JN).map Pa.enc)
 | []=>trivial
 |p::ps=>by
  refine⟨⟨Sub.rfl 1 _,Sub.rfl 1 _,Sub.rfl 1 _,?_,trivial⟩,XV ps⟩
  cases h:p.ar with
  |none=>simp[Sub,avO,JN,h]
  |some l=>simp only[avO,JN,h,zm];exact Sub.rfl 1 _
theorem zoe(l:List Tok)(F:Nat→Prop)(w:World)(v:Value)(h:PRep F w v (ptV l)):PRep F w v (plV l):=by
 cases h with
 |tup cs _ hl hx=>
  refine .tup cs _ hl fun i hi=> ?_
  have:=hx i hi
  match i,hi with
  |0,_=>exact Sub.prep 2 (parts (ptL l)) (.slc 4 ((pl l).map Pa.enc)) _ (show Sub 2 (.slc 4 ((ptL l).map Part.enc)) (.slc 4 (((ptL l).map JN).map Pa.enc))from Or.inr ⟨rfl,XV (ptL l)⟩) this
  |1,_=>exact this
def kv:Sum Tryz.prog:=⟨67,fun args=>args= [zm (zi (args.getD 0 .any))]∧((zi (args.getD 0 .any))).length≤1000000,fun args=>plV (zi (args.getD 0 .any)),fun args h=>by
 have:=ze.rsub (zjq (zi (args.getD 0 .any)) h.2) (zoe (zi (args.getD 0 .any)));rwa [←h.1]at this,false⟩
theorem zlc:kv.f=67:=rfl
theorem zlb(args:List V):kv.D args=(args= [zm (zi (args.getD 0 .any))]∧((zi (args.getD 0 .any))).length≤1000000):=rfl
theorem zb2:kv.flat=false:=rfl
theorem zld(args:List V):kv.r args=plV (zi (args.getD 0 .any)):=rfl
attribute [go_sem] zlc zlb zb2 zld
end Go.Proofs.YtlaopdfpncckeaaGreatDoor
end
section
namespace Go.Proofs.YtlaopdfpncckeaaGreatDoor
open Go.Sx
set_option linter.unusedSimpArgs false
set_option maxHeartbeats 4000000
set_option maxRecDepth 20000
def fst(p:Nat→Bool):Nat→Nat→Int
 |0,_=> -1
 |f+1,k=>if p k=true then k else fst p f (k+1)
theorem znG(p:Nat→Bool)(n:Nat):fst p (n - n) n= -1:=by rw[Nat.sub_self];rfl
theorem zaG(p:Nat→Bool)(n k:Nat)(h:k<n):fst p (n - k) k=if p k=true then(k:Int)else fst p (n - (k+1)) (k+1):=by
 obtain⟨f,hf⟩:∃f,n - k=f+1:=⟨n - k - 1,by omega⟩
 rw[hf,show n - (k+1)=f by omega];rfl
def ixS(l:List ByteArray)(x:ByteArray):Int:=fst (fun i=>decide (x=l.getD i ⟨#[]⟩)) (l.length - 0) 0
theorem zqX(l:List ByteArray)(x:ByteArray)(hl:l.length≤1000000):ze Tryz.prog 129 [ZM l,vs x] (vi (ixS l x)):=by
 refine ze.of (Orc.nil _) znb (by simp[zp5]) fun w0 own0=> ?_
 simp only[zp5,ZM,go_sem,zg,seval,reduceIte,reduceCtorEq]
 refine z7.lp (α:=Nat) (fun k=>[(0,.slc 1 (l.map fun n=>[vs n])),(1,vs x),(7,vi l.length),(8,vi k)]) (fun _=>⟨[],0⟩)
  (fun k=>k≤l.length∧fst (fun i=>decide (x=l.getD i ⟨#[]⟩)) (l.length - k) k=ixS l x) (fun k=>l.length - k) 0 ⟨Nat.zero_le _,rfl⟩ (St.mk (by simp[zC,zq,zI])) fun k hk=> ?_
 obtain⟨h1,h2⟩:=hk
 by_cases hkl:k=l.length
 ·subst hkl
  rw[znG]at h2
  simp only[Int.lt_irrefl,←h2,go_sem,zg,seval,reduceIte,reduceCtorEq]
 ·have e1:(k:Int)<(l.length:Int):=by omega
  rw[zaG _ _ _ (by omega)]at h2
  simp only[decide_eq_true_eq]at h2
  simp only[e1,zfD,go_sem,zg,seval,reduceIte,reduceCtorEq]
  refine⟨by omega,fun h=>by rw[if_pos h]at h2;exact h2,fun h=>⟨by omega,k+1,⟨by omega,by rw[if_neg h]at h2;exact h2⟩,by omega,by omega⟩⟩
def JA:Sum Tryz.prog:=⟨129,fun args=>args= [ZM (kh (args.getD 0 .any)),vs ((args.getD 1 .any).str)]∧((kh (args.getD 0 .any))).length≤1000000,fun args=>vi (ixS (kh (args.getD 0 .any)) ((args.getD 1 .any).str)),fun args h=>by
 have:=zqX (kh (args.getD 0 .any)) ((args.getD 1 .any).str) h.2;rwa [←h.1]at this,true⟩
theorem zkz:JA.f=129:=rfl
theorem zky(args:List V):JA.D args=(args= [ZM (kh (args.getD 0 .any)),vs ((args.getD 1 .any).str)]∧((kh (args.getD 0 .any))).length≤1000000):=rfl
theorem zbP:JA.flat=true:=rfl
theorem zkA(args:List V):JA.r args=vi (ixS (kh (args.getD 0 .any)) ((args.getD 1 .any).str)):=rfl
attribute [go_sem] zkz zky zbP zkA
def ziL(l:List ByteArray)(x:ByteArray):Bool:=decide (0≤ixS l x)
theorem zns(l:List ByteArray)(x:ByteArray)(hl:l.length≤1000000):ze Tryz.prog 108 [ZM l,vs x] (vb (ziL l x)):=by
 refine ze.of (Orc.cons JA (Orc.nil _)) zm2 (by simp[zpW]) fun w0 own0=> ?_
 simp only[zpW,ZM,Xx,ziL,go_sem,zg,seval,reduceIte,reduceCtorEq]
 exact hl
def Qf:Sum Tryz.prog:=⟨108,fun args=>args= [ZM (kh (args.getD 0 .any)),vs ((args.getD 1 .any).str)]∧((kh (args.getD 0 .any))).length≤1000000,fun args=>vb (ziL (kh (args.getD 0 .any)) ((args.getD 1 .any).str)),fun args h=>by
 have:=zns (kh (args.getD 0 .any)) ((args.getD 1 .any).str) h.2;rwa [←h.1]at this,true⟩
theorem zgQ:Qf.f=108:=rfl
theorem zgP(args:List V):Qf.D args=(args= [ZM (kh (args.getD 0 .any)),vs ((args.getD 1 .any).str)]∧((kh (args.getD 0 .any))).length≤1000000):=rfl
theorem WK:Qf.flat=true:=rfl
theorem zgR(args:List V):Qf.r args=vb (ziL (kh (args.getD 0 .any)) ((args.getD 1 .any).str)):=rfl
attribute [go_sem] zgQ zgP WK zgR
def zaV(p:Pa):ByteArray:=z8 p.t.text
def Qz(p:Pa):Prop:=p.t.text.size≤1000000
theorem zfU(p:Pa)(h:Qz p):ze Tryz.prog 107 [.agg p.enc] (vs (zaV p)):=by
 refine ze.of (Orc.cons kV (Orc.nil _)) zm1 (by simp[zpV]) fun w0 own0=> ?_
 have h:p.t.text.size≤1000000:=h
 simp only[zpV,Pa.enc,zaV,h,go_sem,zg,seval,reduceIte,reduceCtorEq]
def QK:Sum Tryz.prog:=⟨107,fun args=>args= [.agg (Pa.enc (dPa (args.getD 0 .any)))]∧Qz (dPa (args.getD 0 .any)),fun args=>vs (zaV (dPa (args.getD 0 .any))),fun args h=>by
 have:=zfU (dPa (args.getD 0 .any)) h.2;rwa [←h.1]at this,true⟩
theorem zkU:QK.f=107:=rfl
theorem zkT(args:List V):QK.D args=(args= [.agg (Pa.enc (dPa (args.getD 0 .any)))]∧Qz (dPa (args.getD 0 .any))):=rfl
theorem zbW:QK.flat=true:=rfl
theorem zkV(args:List V):QK.r args=vs (zaV (dPa (args.getD 0 .any))):=rfl
attribute [go_sem] zkU zkT zbW zkV
def zrY:List ByteArray:=[⟨#[110,111,110,101]⟩,⟨#[97,117,116,111]⟩,⟨#[105,110,105,116,105,97,108]⟩,⟨#[105,110,104,101,114,105,116]⟩]
def qF(p:Pa):Bool:=decide (p.t.kind=2)&& !ziL zrY (zaV p)
def kQ(p:Pa)(s:ByteArray):Bool:=decide (p.t.kind=2)&&decide (zaV p=s)
theorem zfo(a b c d:ByteArray):kh (.slc 1 [[.c (.string a)],[.c (.string b)],[.c (.string c)],[.c (.string d)]])= [a,b,c,d]:=Xx [a,b,c,d]
theorem zje(p:Pa)(h:Qz p):ze Tryz.prog 78 [.agg p.enc] (vb (qF p)):=by
 refine ze.of (Orc.cons QK (Orc.cons Qf (Orc.nil _))) zqy (by simp[c78]) fun w0 own0=> ?_
 unfold qF zrY
 by_cases hk:p.t.kind=2
 ·simp only[c78,Pa.enc,hk,h,ZM,zfo,qb,Pa.eta',go_sem,zg,seval,reduceIte,reduceCtorEq]
  exact⟨h,rfl⟩
 ·simp only[c78,Pa.enc,hk,h,go_sem,zg,seval,reduceIte,reduceCtorEq]
def Qk:Sum Tryz.prog:=⟨78,fun args=>args= [.agg (Pa.enc (dPa (args.getD 0 .any)))]∧Qz (dPa (args.getD 0 .any)),fun args=>vb (qF (dPa (args.getD 0 .any))),fun args h=>by
 have:=zje (dPa (args.getD 0 .any)) h.2;rwa [←h.1]at this,true⟩
theorem zoC:Qk.f=78:=rfl
theorem zoB(args:List V):Qk.D args=(args= [.agg (Pa.enc (dPa (args.getD 0 .any)))]∧Qz (dPa (args.getD 0 .any))):=rfl
theorem zdG:Qk.flat=true:=rfl
theorem zoD(args:List V):Qk.r args=vb (qF (dPa (args.getD 0 .any))):=rfl
attribute [go_sem] zoC zoB zdG zoD
theorem znP(p:Pa)(s:ByteArray)(h:Qz p):ze Tryz.prog 77 [.agg p.enc,vs s] (vb (kQ p s)):=by
 refine ze.of (Orc.cons QK (Orc.nil _)) zqx (by simp[c77]) fun w0 own0=> ?_
 unfold kQ
 by_cases hk:p.t.kind=2
 ·have h':Qz ⟨⟨2,p.t.text,p.t.n⟩,p.al⟩:=h
  have hs':zaV ⟨⟨2,p.t.text,p.t.n⟩,p.al⟩=zaV p:=rfl
  simp only[c77,Pa.enc,hk,h',hs',qb,go_sem,zg,seval,reduceIte,reduceCtorEq]
 ·simp only[c77,Pa.enc,hk,h,go_sem,zg,seval,reduceIte,reduceCtorEq]
def Zf:Sum Tryz.prog:=⟨77,fun args=>args= [.agg (Pa.enc (dPa (args.getD 0 .any))),vs ((args.getD 1 .any).str)]∧Qz (dPa (args.getD 0 .any)),fun args=>vb (kQ (dPa (args.getD 0 .any)) ((args.getD 1 .any).str)),fun args h=>by
 have:=znP (dPa (args.getD 0 .any)) ((args.getD 1 .any).str) h.2;rwa [←h.1]at this,true⟩
theorem zkt:Zf.f=77:=rfl
theorem zks(args:List V):Zf.D args=(args= [.agg (Pa.enc (dPa (args.getD 0 .any))),vs ((args.getD 1 .any).str)]∧Qz (dPa (args.getD 0 .any))):=rfl
theorem zbK:Zf.flat=true:=rfl
theorem zku(args:List V):Zf.r args=vb (kQ (dPa (args.getD 0 .any)) ((args.getD 1 .any).str)):=rfl
attribute [go_sem] zkt zks zbK zku
end Go.Proofs.YtlaopdfpncckeaaGreatDoor
end
section
namespace Go.Proofs.YtlaopdfpncckeaaGreatDoor
open Go.Sx
set_option linter.unusedSimpArgs false
set_option maxHeartbeats 4000000
set_option maxRecDepth 20000
def okT(l:List Tok):Prop:=l.length≤1000000∧∀t∈l,t.text.size≤1000000
def ZI(l:List Tok):Option Pa:=match ptB l,pl l with|true,[p]=>some p|_,_=>none
theorem XS{l:List Tok}{p:Pa}(h:ZI l=some p):ptB l=true∧pl l= [p]:=by
 unfold ZI at h
 split at h
 ·rename_i a b;cases h;exact⟨a,b⟩
 ·cases h
theorem zf6{l:List Tok}(h:ZI l=none):ptB l=false∨¬((pl l).length:Int)=1:=by
 unfold ZI at h
 split at h
 ·cases h
 ·rename_i hne
  cases hb:ptB l with
  |false=>exact .inl rfl
  |true=>
   right
   intro hl
   obtain⟨p,hp⟩:=List.length_eq_one_iff.1 (show(pl l).length=1 by omega)
   exact hne p hb hp
theorem Jb{l:List Tok}(h:okT l):∀ {ks:List Int}{ps:List Part},yr l ks=some ps→∀p∈ps,p.t.text.size≤1000000∧∀m,p.ar=some m→okT m
 | [],ps,hp,p,hm=>by simp[yr]at hp;subst hp;cases hm
 |k::ks,ps,hp,p,hm=>by
  simp only[yr]at hp
  split at hp
  ·cases hp
  ·simp only[Option.map_eq_some_iff]at hp
   obtain⟨qs,hq,rfl⟩:=hp
   have ih:=Jb h hq
   have hself:∀i:Nat,(l.getD i .zero).text.size≤1000000:=fun i=>by
    by_cases hi:i<l.length
    ·rw[List.getD_eq_getElem?_getD,List.getElem?_eq_getElem hi];exact h.2 _ (List.getElem_mem hi)
    ·rw[List.getD_eq_getElem?_getD,List.getElem?_eq_none (by omega)];decide
   split at hm
   ·exact ih p hm
   ·rcases List.mem_cons.1 hm with rfl|hm
    ·refine⟨hself _,fun m hmm=> ?_⟩
     unfold pAt at hmm
     simp only at hmm
     split at hmm
     ·cases hmm
      refine⟨by have:=h.1;simp;omega,fun t ht=>h.2 t (List.mem_of_mem_take (List.mem_of_mem_drop ht))⟩
     ·cases hmm
    ·exact ih p hm
theorem zdk{l:List Tok}(h:okT l):∀p∈pl l,Qz p∧okT p.al:=by
 intro p hp
 unfold pl at hp
 obtain⟨q,hq,rfl⟩:=List.mem_map.1 hp
 unfold ptL at hq
 cases hO:ptO l with
 |none=>rw[hO]at hq;cases hq
 |some qs=>
  rw[hO]at hq
  unfold ptO at hO
  split at hO
  ·cases hO
  ·obtain⟨h1,h2⟩:=Jb h hO q hq
   refine⟨h1,?_⟩
   show okT (q.ar.getD [])
   cases ha:q.ar with
   |none=>exact⟨by simp,fun t ht=>by cases ht⟩
   |some m=>exact h2 m ha
def Zr(l:List Tok):Option Pa:=match ZI l with|some p=>if p.t.kind=2 then some p else none|none=>none
theorem zcC(F:Nat→Prop)(w:World)(v:Value)(h:PRep F w v (.tup [.agg [vi 0,vs ⟨#[]⟩,vi 0,zL],vb false])):PRep F w v (.tup [.agg [vi 0,vs ⟨#[]⟩,vi 0,.slc 3 (([]:List Tok).map Tok.enc)],vb false]):=by
 cases h with
 |tup cs _ hl hx=>
  refine .tup cs _ hl fun i hi=> ?_
  have:=hx i hi
  match i,hi with
  |0,_=>exact Sub.prep 2 (.agg [vi 0,vs ⟨#[]⟩,vi 0,zL]) _ _ (show Sub 2 _ (.agg [vi 0,vs ⟨#[]⟩,vi 0,.slc 3 (([]:List Tok).map Tok.enc)])from Or.inr ⟨Sub.rfl 1 _,Sub.rfl 1 _,Sub.rfl 1 _,Or.inr rfl,trivial⟩) this
  |1,_=>exact this
def jS:Option Pa→V
 |some p=>.tup [.agg [vi p.t.kind,vs p.t.text,vi p.t.n,.slc 3 (p.al.map Tok.enc)],vb true]
 |none=>.tup [.agg [vi 0,vs ⟨#[]⟩,vi 0,.slc 3 (([]:List Tok).map Tok.enc)],vb false]
theorem zhT(l:List Tok)(h:okT l):ze Tryz.prog 109 [zm l] (jS (Zr l)):=by
 have h1:=h.1
 unfold Zr
 cases hO:ZI l with
 |none=>
  refine ze.rsub ?_ zcC
  refine ze.of (Orc.cons kv (Orc.nil _)) X1 (by simp[X0]) fun w0 own0=> ?_
  rcases zf6 hO with hb|hn
  ·simp only[X0,zm,zh,h1,plV,hb,go_sem,zg,seval,reduceIte,reduceCtorEq]
   rfl
  ·cases hb:ptB l with
   |false=>
    simp only[X0,zm,zh,h1,plV,hb,go_sem,zg,seval,reduceIte,reduceCtorEq]
    rfl
   |true=>
    simp only[X0,zm,zh,h1,plV,hb,hn,go_sem,zg,seval,reduceIte,reduceCtorEq]
    rfl
 |some p=>
  obtain⟨hb,hp⟩:=XS hO
  by_cases hk:p.t.kind=2
  ·simp only[hk,if_true,jS]
   refine ze.of (Orc.cons kv (Orc.nil _)) X1 (by simp[X0]) fun w0 own0=> ?_
   simp only[X0,zm,zh,h1,plV,hb,hp,hk,Pa.enc,go_sem,zg,seval,reduceIte,reduceCtorEq]
   rfl
  ·simp only[hk,if_false,jS]
   refine ze.rsub ?_ zcC
   refine ze.of (Orc.cons kv (Orc.nil _)) X1 (by simp[X0]) fun w0 own0=> ?_
   simp only[X0,zm,zh,h1,plV,hb,hp,hk,Pa.enc,go_sem,zg,seval,reduceIte,reduceCtorEq]
   rfl
def zbC:Sum Tryz.prog:=⟨109,fun args=>args= [zm (zi (args.getD 0 .any))]∧okT (zi (args.getD 0 .any)),fun args=>jS (Zr (zi (args.getD 0 .any))),fun args h=>by
 have:=zhT (zi (args.getD 0 .any)) h.2;rwa [←h.1]at this,false⟩
theorem zoz:zbC.f=109:=rfl
theorem zoy(args:List V):zbC.D args=(args= [zm (zi (args.getD 0 .any))]∧okT (zi (args.getD 0 .any))):=rfl
theorem zdB:zbC.flat=false:=rfl
theorem zoA(args:List V):zbC.r args=jS (Zr (zi (args.getD 0 .any))):=rfl
attribute [go_sem] zoz zoy zdB zoA
def J6{α:Type}:List (ByteArray×α)→ByteArray→Option α
 | [],_=>none
 |p::r,s=>if s=p.1 then some p.2 else J6 r s
theorem XN{α:Type}(f:α→V)(s:ByteArray):∀L:List (ByteArray×α),mget (L.map fun p=>.string p.1) (L.map fun p=>f p.2) (.string s)=(J6 L s).map f
 | []=>rfl
 |p::r=>by
  have:(zP (.string p.1) (.string s)).1=true↔s=p.1:=by simp[zP];exact eq_comm
  simp only[List.map_cons,mget,J6,this,XN f s r]
  split<;>rfl
end Go.Proofs.YtlaopdfpncckeaaGreatDoor
end
section
namespace Go.Proofs.YtlaopdfpncckeaaGreatDoor
open Go.Sx
set_option linter.unusedSimpArgs false
set_option maxHeartbeats 4000000
set_option maxRecDepth 20000
theorem znv(a n:Int)(s:ByteArray):dPa (.agg [.c (.int .i64 a),.c (.string s),.c (.int .i64 n),.slc 3 []])=⟨⟨a,s,n⟩,[]⟩:=rfl
theorem zrf(a n:Int)(l:List Tok):Qz ⟨⟨a,⟨#[]⟩,n⟩,l⟩:=by show ByteArray.size ⟨#[]⟩≤1000000;decide
theorem zeX{l:List Tok}(h:okT l){p:Pa}(hp:Zr l=some p):Qz p∧okT p.al∧ZI l=some p∧p.t.kind=2:=by
 unfold Zr at hp
 cases hO:ZI l with
 |none=>rw[hO]at hp;cases hp
 |some q=>
  rw[hO]at hp
  simp only at hp
  split at hp
  ·rename_i hk
   cases hp
   have:=zdk h p (by rw[(XS hO).2];simp)
   exact⟨this.1,this.2,rfl,hk⟩
  ·cases hp
end Go.Proofs.YtlaopdfpncckeaaGreatDoor
end
section
namespace Go.Proofs.YtlaopdfpncckeaaGreatDoor
open Go.Sx
set_option linter.unusedSimpArgs false
set_option maxHeartbeats 4000000
set_option maxRecDepth 20000
def Q5:Option ByteArray→V
 |none=>.tup [vs ⟨#[]⟩,vb false]
 |some s=>.tup [vs s,vb true]
def za3(p:Pa):Option ByteArray:=if kQ p ⟨#[97,117,116,111]⟩=true then some ⟨#[]⟩else if qF p=true then some p.t.text else none
def kk(l:List Tok):Option ByteArray:=(ZI l).bind za3
theorem zjc{p:Pa}(h:¬p.t.kind=2):za3 p=none:=by
 simp[za3,kQ,qF,h]
theorem zn5(l:List Tok)(h:okT l):ze Tryz.prog 80 [zm l] (Q5 (kk l)):=by
 refine ze.of (Orc.cons zbC (Orc.cons Zf (Orc.cons Qk (Orc.nil _)))) zqA (by simp[c80]) fun w0 own0=> ?_
 unfold kk
 cases hA:Zr l with
 |none=>
  have hN:(ZI l).bind za3=none:=by
   unfold Zr at hA
   cases hO:ZI l with
   |none=>rfl
   |some p=>
    rw[hO]at hA
    simp only at hA
    split at hA
    ·cases hA
    ·rename_i hk;exact zjc hk
  rw[hN]
  simp only[c80,zm,zh,h,hA,jS,Q5,znv,zrf,Pa.enc,List.map_nil,go_sem,zg,seval,reduceIte,reduceCtorEq]
 |some p=>
  obtain⟨hp,_,hO,hk⟩:=zeX h hA
  rw[hO,Option.bind_some]
  unfold za3
  cases hi:kQ p ⟨#[97,117,116,111]⟩with
  |true=>
   simp only[if_true]
   simp only[c80,zm,zh,h,hA,jS,Q5,qb,Pa.etaT,Pa.eta',hp,hi,Pa.enc,go_sem,zg,seval,reduceIte,reduceCtorEq]
  |false=>
   cases hn:qF p with
   |true=>
    simp only[Bool.false_eq_true,if_false,if_true]
    simp only[c80,zm,zh,h,hA,jS,Q5,qb,Pa.etaT,Pa.eta',hp,hi,hn,Pa.enc,go_sem,zg,seval,reduceIte,reduceCtorEq]
   |false=>
    simp only[Bool.false_eq_true,if_false]
    simp only[c80,zm,zh,h,hA,jS,Q5,qb,Pa.etaT,Pa.eta',hp,hi,hn,Pa.enc,go_sem,zg,seval,reduceIte,reduceCtorEq]
def Qj:Sum Tryz.prog:=⟨80,fun args=>args= [zm (zi (args.getD 0 .any))]∧okT (zi (args.getD 0 .any)),fun args=>Q5 (kk (zi (args.getD 0 .any))),fun args h=>by
 have:=zn5 (zi (args.getD 0 .any)) h.2;rwa [←h.1]at this,false⟩
theorem zgW:Qj.f=80:=rfl
theorem zgV(args:List V):Qj.D args=(args= [zm (zi (args.getD 0 .any))]∧okT (zi (args.getD 0 .any))):=rfl
theorem WM:Qj.flat=false:=rfl
theorem zgX(args:List V):Qj.r args=Q5 (kk (zi (args.getD 0 .any))):=rfl
attribute [go_sem] zgW zgV WM zgX
end Go.Proofs.YtlaopdfpncckeaaGreatDoor
end
section
namespace Go.Proofs.YtlaopdfpncckeaaGreatDoor
open Go.Sx
set_option linter.unusedSimpArgs false
set_option maxHeartbeats 4000000
set_option maxRecDepth 20000
end Go.Proofs.YtlaopdfpncckeaaGreatDoor
end
section
namespace Go.Proofs.YtlaopdfpncckeaaGreatDoor
open Go.Sx
set_option linter.unusedSimpArgs false
set_option maxHeartbeats 4000000
set_option maxRecDepth 20000
structure Itm where
 kind:Int
 text:ByteArray
 name:ByteArray
 style:Int
 which:Int
instance:Inhabited Itm:=⟨⟨0,⟨#[]⟩,⟨#[]⟩,0,0⟩⟩
def Itm.zero:Itm:=⟨0,⟨#[]⟩,⟨#[]⟩,0,0⟩
def Itm.enc(x:Itm):List V:=[vi x.kind,vs x.text,vs x.name,vi x.style,vi x.which]
def zaK(l:List Itm):V:=.slc 5 (l.map Itm.enc)
def zr2(e:List V):Itm:=⟨(e.getD 0 .any).int,(e.getD 1 .any).str,(e.getD 2 .any).str,(e.getD 3 .any).int,(e.getD 4 .any).int⟩
def Yd(v:V):List Itm:=v.es.map zr2
theorem Xv(sz:Nat)(l:List Itm):Yd (.slc sz (l.map Itm.enc))=l:=by
 simp only[Yd,V.es,List.map_map]
 conv=>rhs;rw[←List.map_id l]
 apply List.map_congr_left
 intro s _
 rfl
theorem Itm.eta'(x:Itm):(⟨x.kind,x.text,x.name,x.style,x.which⟩:Itm)=x:=rfl
theorem zfz(l:List Itm)(i:Nat):(l.map Itm.enc).getD i [vi 0,vs ⟨#[]⟩,vs ⟨#[]⟩,vi 0,vi 0]=(l.getD i default).enc:=by
 by_cases h:i<l.length
 ·simp[List.getD_eq_getElem?_getD,h]
 ·simp[List.getD_eq_getElem?_getD,h];rfl
def whs:List ByteArray:=[⟨#[102,105,114,115,116]⟩,⟨#[115,116,97,114,116]⟩,⟨#[108,97,115,116]⟩,⟨#[102,105,114,115,116,45,101,120,99,101,112,116]⟩]
end Go.Proofs.YtlaopdfpncckeaaGreatDoor
end
section
namespace Go.Proofs.YtlaopdfpncckeaaGreatDoor
open Go.Sx
set_option linter.unusedSimpArgs false
set_option maxHeartbeats 4000000
set_option maxRecDepth 20000
def zap(t:Tok):Option Int:=if t.kind=8∧t.n.tmod 1000=0 then some (min (max (t.n.tdiv 1000) (-2147483648)) 2147483647)else none
def q9:Option Int→V
 |none=>.tup [vi 0,vb false]
 |some n=>.tup [vi n,vb true]
theorem jX(o:Option Int):q9 o= .tup [vi (o.getD 0),vb o.isSome]:=by cases o<;>rfl
def okI(n:Int):Prop:= -9223372036854775808≤n∧n≤9223372036854775807
theorem zlI{n:Int}(h:okI n): -9223372036854775808≤n.tdiv 1000∧n.tdiv 1000≤9223372036854775807:=by
 unfold okI at h
 rcases Int.lt_or_le n 0 with h0|h0
 ·have:n.tdiv 1000= -((-n).tdiv 1000):=by rw[Int.neg_tdiv];omega
  rw[this,Int.tdiv_eq_ediv_of_nonneg (by omega)];omega
 ·rw[Int.tdiv_eq_ediv_of_nonneg h0];omega
theorem zig(p:Pa)(hn:okI p.t.n):ze Tryz.prog 79 [.agg p.enc] (q9 (zap p.t)):=by
 refine ze.of (Orc.nil _) zqz (by simp[c79]) fun w0 own0=> ?_
 unfold zap
 have hr:=zlI hn
 by_cases h1:p.t.kind=8
 ·by_cases h2:p.t.n.tmod 1000=0
  ·rw[if_pos ⟨h1,h2⟩]
   simp only[c79,Pa.enc,h1,h2,q9,go_sem,zg,reduceCtorEq,reduceIte,Nat.reduceEqDiff,Nat.reduceAdd,Nat.reduceSub,Nat.reduceMul,Nat.reduceLT,Nat.reduceLeDiff,Nat.reduceBEq,Int.reduceEq,Int.reduceLT,Int.reduceLE,Int.reduceAdd,Int.reduceSub,Int.reduceNeg,Int.reduceToNat]
   exact⟨by omega,hr,by omega⟩
  ·rw[if_neg (fun h=>h2 h.2)]
   simp only[c79,Pa.enc,h1,h2,q9,go_sem,zg,reduceCtorEq,reduceIte,Nat.reduceEqDiff,Nat.reduceAdd,Nat.reduceSub,Nat.reduceMul,Nat.reduceLT,Nat.reduceLeDiff,Nat.reduceBEq,Int.reduceEq,Int.reduceLT,Int.reduceLE,Int.reduceAdd,Int.reduceSub,Int.reduceNeg,Int.reduceToNat]
   omega
 ·rw[if_neg (fun h=>h1 h.1)]
  simp only[c79,Pa.enc,h1,q9,go_sem,zg,reduceCtorEq,reduceIte,Nat.reduceEqDiff,Nat.reduceAdd,Nat.reduceSub,Nat.reduceMul,Nat.reduceLT,Nat.reduceLeDiff,Nat.reduceBEq,Int.reduceEq,Int.reduceLT,Int.reduceLE,Int.reduceAdd,Int.reduceSub,Int.reduceNeg,Int.reduceToNat]
def ZN:Sum Tryz.prog:=⟨79,fun args=>args= [.agg (Pa.enc (dPa (args.getD 0 .any)))]∧okI ((dPa (args.getD 0 .any))).t.n,fun args=>q9 (zap ((dPa (args.getD 0 .any))).t),fun args h=>by
 have:=zig (dPa (args.getD 0 .any)) h.2;rwa [←h.1]at this,false⟩
theorem zkk:ZN.f=79:=rfl
theorem zkj(args:List V):ZN.D args=(args= [.agg (Pa.enc (dPa (args.getD 0 .any)))]∧okI ((dPa (args.getD 0 .any))).t.n):=rfl
theorem zbH:ZN.flat=false:=rfl
theorem zkl(args:List V):ZN.r args=q9 (zap ((dPa (args.getD 0 .any))).t):=rfl
attribute [go_sem] zkk zkj zbH zkl
theorem K9(l:List Pa)(k:Nat)(h:k<l.length):l.drop k=l.getD k default::l.drop (k+1):=by
 rw[List.getD_eq_getElem?_getD,List.getElem?_eq_getElem h,Option.getD_some,List.drop_eq_getElem_cons h]
theorem za9(ends:List Int)(to:Int):∀(f:Nat)(k:Int),(plR ends to f k).length≤f
 |0,_=>Nat.le_refl _
 |f+1,k=>by
  simp only[plR]
  split
  ·have:=za9 ends to f (skip ends k);simp;omega
  ·simp
theorem Ja(l:List Tok):∀(ks:List Int)(ps:List Part),yr l ks=some ps→ps.length≤ks.length
 | [],ps,h=>by simp[yr]at h;subst h;simp
 |k::ks,ps,h=>by
  simp only[yr]at h
  split at h
  ·cases h
  ·simp only[Option.map_eq_some_iff]at h
   obtain⟨qs,hq,rfl⟩:=h
   have:=Ja l ks qs hq
   split<;>simp<;>omega
theorem zjw(l:List Tok):(pl l).length≤l.length+1:=by
 unfold pl ptL
 cases hO:ptO l with
 |none=>simp
 |some ps=>
  unfold ptO at hO
  split at hO
  ·cases hO
  ·have h1:=Ja l _ _ hO
   have h2:=za9 (zA l) l.length (l.length+1) 0
   simp;omega
structure ArS where
 k:Nat
 out:List Pa
 ver:Nat
 clk:Nat
end Go.Proofs.YtlaopdfpncckeaaGreatDoor
end
section
namespace Go.Proofs.YtlaopdfpncckeaaGreatDoor
open Go.Sx
set_option linter.unusedSimpArgs false
set_option maxHeartbeats 4000000
set_option maxRecDepth 20000
def stp(n:Int):Int:=min (max n (-1099511627776)) 1099511627776
theorem zox(n:Int): -1099511627776≤stp n∧stp n≤1099511627776:=by unfold stp;omega
theorem zow(n:Int):ze Tryz.prog 98 [vi n] (vi (stp n)):=by
 refine ze.of (Orc.nil _) zqD (by simp[c98]) fun w0 own0=> ?_
 simp only[c98,stp,go_sem,zg,seval,reduceIte,reduceCtorEq]
def Ql:Sum Tryz.prog:=⟨98,fun args=>args= [vi ((args.getD 0 .any).int)],fun args=>vi (stp ((args.getD 0 .any).int)),fun args h=>by
 have:=zow ((args.getD 0 .any).int);rwa [←h]at this,true⟩
theorem zg2:Ql.f=98:=rfl
theorem zg1(args:List V):Ql.D args=(args= [vi ((args.getD 0 .any).int)]):=rfl
theorem WO:Ql.flat=true:=rfl
theorem zg3(args:List V):Ql.r args=vi (stp ((args.getD 0 .any).int)):=rfl
attribute [go_sem] zg2 zg1 WO zg3
def qG:List (ByteArray×(Int×Int)):=[(⟨#[112,120]⟩,(1,1)),(⟨#[112,116]⟩,(4,3)),(⟨#[105,110]⟩,(96,1)),(⟨#[99,109]⟩,(9600,254)),(⟨#[109,109]⟩,(960,254)),(⟨#[112,99]⟩,(16,1))]
def J4(t:Tok):Option Int:=if t.kind=8∧t.n=0 then some 0 else if t.kind=10 then(J6 qG (z8 t.text)).map fun u=>stp ((stp t.n*u.1).tdiv u.2)else none
def uV(u:Int×Int):V:=.agg [vi u.1,vi u.2]
def okU(u:Int×Int):Prop:=(u.1=1∨u.1=4∨u.1=96∨u.1=9600∨u.1=960∨u.1=16)∧(u.2=1∨u.2=3∨u.2=254)
theorem zaU{α:Type}{s:ByteArray}{u:α}:∀ {L:List (ByteArray×α)},J6 L s=some u→∃p∈L,p.2=u
 | [],h=>by cases h
 |p::r,h=>by
  simp only[J6]at h
  split at h
  ·exact⟨p,by simp,by simpa using h⟩
  ·obtain⟨q,hq,e⟩:=zaU h;exact⟨q,by simp[hq],e⟩
theorem zoM{s:ByteArray}{u:Int×Int}(h:J6 qG s=some u):okU u:=by
 obtain⟨p,hp,rfl⟩:=zaU h
 have:∀p∈qG,okU p.2:=by
  intro p hp
  unfold qG at hp
  simp only[List.mem_cons,List.not_mem_nil,or_false]at hp
  rcases hp with rfl|rfl|rfl|rfl|rfl|rfl<;>simp[okU]
 exact this p hp
theorem zn3{n:Int}{u:Int×Int}(hu:okU u):(-9223372036854775808≤stp n*u.1∧stp n*u.1≤9223372036854775807)∧(-9223372036854775808≤(stp n*u.1).tdiv u.2∧(stp n*u.1).tdiv u.2≤9223372036854775807)∧u.2≠0:=by
 have h:=zox n
 generalize stp n=m at*
 obtain⟨a,b⟩:=u
 obtain⟨h1,h2⟩:=hu
 simp only at h1 h2⊢
 have hm: -10555311626649600≤m*a∧m*a≤10555311626649600:=by
  rcases h1 with rfl|rfl|rfl|rfl|rfl|rfl<;>omega
 generalize m*a=x at*
 have hd:∀c:Int,0<c→ -10555311626649600≤x.tdiv c∧x.tdiv c≤10555311626649600:=by
  intro c hc
  rcases Int.lt_or_le x 0 with h0|h0
  ·have e:x.tdiv c= -((-x).tdiv c):=by rw[Int.neg_tdiv];omega
   rw[e,Int.tdiv_eq_ediv_of_nonneg (by omega)]
   have a1:=Int.ediv_le_self (a:= -x) c (by omega)
   have a2:=Int.ediv_nonneg (a:= -x) (b:=c) (by omega) (by omega)
   omega
  ·rw[Int.tdiv_eq_ediv_of_nonneg h0]
   have a1:=Int.ediv_le_self (a:=x) c (by omega)
   have a2:=Int.ediv_nonneg (a:=x) (b:=c) (by omega) (by omega)
   omega
 have:=hd b (by rcases h2 with rfl|rfl|rfl<;>omega)
 refine⟨by omega,by omega,by rcases h2 with rfl|rfl|rfl<;>omega⟩
theorem zfP(t:Tok)(h:t.text.size≤1000000):ze Tryz.prog 68 [.agg t.enc] (q9 (J4 t)):=by
 refine ze.of (Orc.cons kV (Orc.cons Ql (Orc.nil _))) zqt (by simp[c68]) fun w0 own0=> ?_
 unfold J4
 have hm:=XN uV (z8 t.text) qG
 have hu:=@zoM (z8 t.text)
 generalize J6 qG (z8 t.text)=o at*
 simp only[qG,uV,List.map_cons,List.map_nil]at hm
 by_cases c8:t.kind=8∧t.n=0
 ·rw[if_pos c8]
  simp only[c68,Tok.enc,c8.1,c8.2,q9,go_sem,zg,seval,reduceIte,reduceCtorEq]
 rw[if_neg c8]
 have c8':t.kind=8→¬t.n=0:=fun a b=>c8 ⟨a,b⟩
 by_cases c10:t.kind=10
 ·rw[if_pos c10]
  have c88:¬((10:Int)=8):=by omega
  cases o with
  |none=>
   simp only[Option.map_none]at hm⊢
   simp only[c68,Tok.enc,c10,c88,h,hm,q9,go_sem,zg,seval,reduceIte,reduceCtorEq]
  |some u=>
   obtain⟨r1,r2,r3⟩:=zn3 (n:=t.n) (hu rfl)
   obtain⟨a,b⟩:=u
   simp only[Option.map_some,uV]at hm⊢
   simp only[c68,Tok.enc,c10,c88,h,hm,q9,go_sem,zg,seval,reduceIte,reduceCtorEq]
   exact⟨r1,r2,r3⟩
 ·rw[if_neg c10]
  cases o with
  |none=>
   simp only[Option.map_none]at hm
   simp only[c68,Tok.enc,c10,h,hm,q9,go_sem,zg,seval,reduceIte,reduceCtorEq]
   by_cases k8:t.kind=8
   ·simp[k8,c8' k8]
   ·simp[k8]
  |some u=>
   obtain⟨a,b⟩:=u
   simp only[Option.map_some,uV]at hm
   simp only[c68,Tok.enc,c10,h,hm,q9,go_sem,zg,seval,reduceIte,reduceCtorEq]
   by_cases k8:t.kind=8
   ·simp[k8,c8' k8]
   ·simp[k8]
def QI:Sum Tryz.prog:=⟨68,fun args=>args= [.agg (Tok.enc (kE (args.getD 0 .any)))]∧((kE (args.getD 0 .any))).text.size≤1000000,fun args=>q9 (J4 (kE (args.getD 0 .any))),fun args h=>by
 have:=zfP (kE (args.getD 0 .any)) h.2;rwa [←h.1]at this,false⟩
theorem zkF:QI.f=68:=rfl
theorem zkE(args:List V):QI.D args=(args= [.agg (Tok.enc (kE (args.getD 0 .any)))]∧((kE (args.getD 0 .any))).text.size≤1000000):=rfl
theorem zbR:QI.flat=false:=rfl
theorem zkG(args:List V):QI.r args=q9 (J4 (kE (args.getD 0 .any))):=rfl
attribute [go_sem] zkF zkE zbR zkG
end Go.Proofs.YtlaopdfpncckeaaGreatDoor
end
section
namespace Go.Proofs.YtlaopdfpncckeaaGreatDoor
open Go.Sx
set_option linter.unusedSimpArgs false
set_option maxHeartbeats 4000000
set_option maxRecDepth 20000
def YY:List Pa→Option (List Int)
 | []=>some []
 |p::l=>match J4 p.t with|none=>none|some n=>(YY l).map (n:: ·)
def Q0:List Int→List Int
 | [a]=>[a,a,a,a]
 | [a,b]=>[a,b,a,b]
 | [a,b,c]=>[a,b,c,b]
 |l=>l
def ZG(l:List Tok):Option (List Int):=if ptB l=true∧1≤(pl l).length∧(pl l).length≤4 then(YY (pl l)).map Q0 else none
def J5:Option (List Int)→V
 |none=>.tup [zL,vb false]
 |some l=>.tup [ye l,vb true]
def Kg(o:Option (List Int)):V:=.tup [ye (o.getD []),vb o.isSome]
theorem zi3(o:Option (List Int)){f:FuncId}{args:List V}(h:ze Tryz.prog f args (J5 o)):ze Tryz.prog f args (Kg o):=by
 cases o with
 |some l=>exact h
 |none=>
  refine ze.rsub h fun F w v hp=> ?_
  cases hp with
  |tup cs _ hl hx=>
   refine .tup cs _ hl fun i hi=> ?_
   have:=hx i hi
   match i,hi with
   |0,_=>exact PRep.nilS 1 this
   |1,_=>exact this
theorem zaT:∀(l:List Pa)(n:List Int),YY l=some n→n.length=l.length
 | [],n,h=>by simp[YY]at h;subst h;rfl
 |p::l,n,h=>by
  simp only[YY]at h
  split at h
  ·cases h
  ·simp only[Option.map_eq_some_iff]at h
   obtain⟨m,hm,rfl⟩:=h
   simp[zaT l m hm]
structure LnS where
 k:Nat
 out:List Int
 ver:Nat
 clk:Nat
theorem zfQ(L:List Pa)(k:Nat)(h:k<L.length):YY (L.drop k)=match J4 (L.getD k default).t with|none=>none|some n=>(YY (L.drop (k+1))).map (n:: ·):=by
 rw[K9 L k h];rfl
theorem zc5(l:List Tok)(h:okT l):ze Tryz.prog 28 [zm l] (J5 (ZG l)):=by
 refine ze.of (Orc.cons kv (Orc.cons QI (Orc.nil _))) zqg (by simp[c28]) fun w0 own0=> ?_
 have h1:=h.1
 have hm:=zdk h
 unfold ZG
 have hlen:=zjw l
 by_cases hc:ptB l=true∧1≤(pl l).length∧(pl l).length≤4
 ·rw[if_pos hc]
  obtain⟨c1,c2,c3⟩:=hc
  generalize hL:pl l=L at*
  generalize hR:(YY L).map Q0=R
  have g1:¬((L.length:Int)<1):=by omega
  have g2:¬((4:Int)<(L.length:Int)):=by omega
  have g3:¬((L.length:Int)=0):=by omega
  simp only[c28,zm,zh,h1,plV,hL,c1,g1,g2,g3,go_sem,zg,seval,reduceIte,reduceCtorEq]
  refine z7.lp (α:=LnS) (fun a=>[(6,.ref 0 a.ver 0 a.out.length),(4,.slc 4 (L.map Pa.enc)),(32,.slc 4 (L.map Pa.enc)),(33,vi L.length),(34,vi a.k)])
   (fun a=>⟨[⟨a.ver,1,a.out.map fun n=>[vi n],false,[vi 0]⟩],a.clk⟩) (fun a=>a.k≤L.length∧a.out.length=a.k∧((YY (L.drop a.k)).map (a.out++ ·)).map Q0=R) (fun a=>L.length - a.k) ⟨0,[],0,1⟩
   ⟨Nat.zero_le _,rfl,by rw[←hR];simp only[List.drop_zero,List.nil_append];cases YY L<;>rfl⟩ (St.nil 6 1 [vi 0] (by simp[zq]) (St.cut ?_ ?_ ?_)) fun a ha=> ?_
  ·simp[zC,zq,zI]
  ·simp[Heap.alloc]
  ·rfl
  obtain⟨k,out,ver,clk⟩:=a
  obtain⟨h2,h3,h4⟩:=ha
  simp only at h2 h3 h4
  by_cases hk:k=L.length
  ·subst hk
   rw[List.drop_length]at h4
   simp only[YY,Option.map_some,List.append_nil]at h4
   subst h4
   have hcase:(∃a,out= [a])∨(∃a b,out= [a,b])∨(∃a b c,out= [a,b,c])∨∃a b c d,out= [a,b,c,d]:=by
    match out,h3 with
    | [],h3=>simp at h3;omega
    | [a],_=>exact .inl ⟨a,rfl⟩
    | [a,b],_=>exact .inr (.inl ⟨a,b,rfl⟩)
    | [a,b,c],_=>exact .inr (.inr (.inl ⟨a,b,c,rfl⟩))
    | [a,b,c,d],_=>exact .inr (.inr (.inr ⟨a,b,c,d,rfl⟩))
    |_::_::_::_::_::r,h3=>simp at h3;omega
   rcases hcase with⟨a,rfl⟩|⟨a,b,rfl⟩|⟨a,b,c,rfl⟩|⟨a,b,c,d,rfl⟩
   ·have hLn:(L.length:Int)=1:=by rw[←h3];rfl
    simp only[Int.lt_irrefl,Q0,J5,ye,List.map_cons,List.map_nil,go_sem,zg,seval,reduceIte,reduceCtorEq]
    refine z7.lp (α:=LnS) (fun s=>[(6,.ref 0 ver 0 1),(12,.ref 6 s.ver 0 s.k),(61,.ref 1 clk 0 4),(62,vi 4),(63,vi s.k)])
     (fun s=>⟨[⟨ver,1,[[vi a]],false,[vi 0]⟩,⟨clk,1,[[vi 0],[vi 0],[vi 0],[vi 0]],false,[vi 0]⟩,⟨clk+1,1,[[vi 0],[vi 1],[vi 0],[vi 1]],false,[vi 0]⟩,⟨clk+1+1,1,[[vi 0],[vi 1],[vi 2],[vi 1]],false,[vi 0]⟩,⟨clk+1+1+1,1,[[vi 0],[vi 1],[vi 2],[vi 3]],false,[vi 0]⟩,⟨clk+1+1+1+1,1,[[.ref 1 clk 0 4],[.ref 2 (clk+1) 0 4],[.ref 3 (clk+1+1) 0 4],[.ref 4 (clk+1+1+1) 0 4]],false,[zL]⟩,⟨s.ver,1,(([a,a,a,a]:List Int).take s.k).map fun n=>[vi n],false,[vi 0]⟩],s.clk⟩) (fun s=>s.k≤4) (fun s=>4 - s.k) ⟨0,[],clk+1+1+1+1+1,clk+1+1+1+1+1+1⟩
     (by dsimp only;omega) (St.nil 12 1 [vi 0] (by simp[zq]) (St.cut ?_ ?_ ?_)) fun s hs=> ?_
    ·simp[zC,zq,qk]
    ·simp[Heap.alloc]
    ·rfl
    obtain⟨k2,o2,v2,clk2⟩:=s
    simp only at hs
    rcases(show k2=0∨k2=1∨k2=2∨k2=3∨k2=4 by omega)with rfl|rfl|rfl|rfl|rfl
    all_goals simp only[List.take_zero,List.take_succ_cons,List.take_nil,List.map_cons,List.map_nil,go_sem,zg,seval,reduceIte,reduceCtorEq]
    ·exact⟨⟨1,[],clk2+1,clk2+1+1⟩,by dsimp only;omega,by dsimp only;omega,⟨⟨rfl,rfl⟩,rfl⟩,⟨rfl,rfl⟩,rfl⟩
    ·exact⟨⟨2,[],clk2+1,clk2+1+1⟩,by dsimp only;omega,by dsimp only;omega,⟨⟨rfl,rfl⟩,rfl⟩,⟨rfl,rfl⟩,rfl⟩
    ·exact⟨⟨3,[],clk2+1,clk2+1+1⟩,by dsimp only;omega,by dsimp only;omega,⟨⟨rfl,rfl⟩,rfl⟩,⟨rfl,rfl⟩,rfl⟩
    ·exact⟨⟨4,[],clk2+1,clk2+1+1⟩,by dsimp only;omega,by dsimp only;omega,⟨⟨rfl,rfl⟩,rfl⟩,⟨rfl,rfl⟩,rfl⟩
   ·have hLn:(L.length:Int)=2:=by rw[←h3];rfl
    simp only[Int.lt_irrefl,Q0,J5,ye,List.map_cons,List.map_nil,go_sem,zg,seval,reduceIte,reduceCtorEq]
    refine z7.lp (α:=LnS) (fun s=>[(6,.ref 0 ver 0 2),(12,.ref 6 s.ver 0 s.k),(61,.ref 2 (clk+1) 0 4),(62,vi 4),(63,vi s.k)])
     (fun s=>⟨[⟨ver,1,[[vi a],[vi b]],false,[vi 0]⟩,⟨clk,1,[[vi 0],[vi 0],[vi 0],[vi 0]],false,[vi 0]⟩,⟨clk+1,1,[[vi 0],[vi 1],[vi 0],[vi 1]],false,[vi 0]⟩,⟨clk+1+1,1,[[vi 0],[vi 1],[vi 2],[vi 1]],false,[vi 0]⟩,⟨clk+1+1+1,1,[[vi 0],[vi 1],[vi 2],[vi 3]],false,[vi 0]⟩,⟨clk+1+1+1+1,1,[[.ref 1 clk 0 4],[.ref 2 (clk+1) 0 4],[.ref 3 (clk+1+1) 0 4],[.ref 4 (clk+1+1+1) 0 4]],false,[zL]⟩,⟨s.ver,1,(([a,b,a,b]:List Int).take s.k).map fun n=>[vi n],false,[vi 0]⟩],s.clk⟩) (fun s=>s.k≤4) (fun s=>4 - s.k) ⟨0,[],clk+1+1+1+1+1,clk+1+1+1+1+1+1⟩
     (by dsimp only;omega) (St.nil 12 1 [vi 0] (by simp[zq]) (St.cut ?_ ?_ ?_)) fun s hs=> ?_
    ·simp[zC,zq,qk]
    ·simp[Heap.alloc]
    ·rfl
    obtain⟨k2,o2,v2,clk2⟩:=s
    simp only at hs
    rcases(show k2=0∨k2=1∨k2=2∨k2=3∨k2=4 by omega)with rfl|rfl|rfl|rfl|rfl
    all_goals simp only[List.take_zero,List.take_succ_cons,List.take_nil,List.map_cons,List.map_nil,go_sem,zg,seval,reduceIte,reduceCtorEq]
    ·exact⟨⟨1,[],clk2+1,clk2+1+1⟩,by dsimp only;omega,by dsimp only;omega,⟨⟨rfl,rfl⟩,rfl⟩,⟨rfl,rfl⟩,rfl⟩
    ·exact⟨⟨2,[],clk2+1,clk2+1+1⟩,by dsimp only;omega,by dsimp only;omega,⟨⟨rfl,rfl⟩,rfl⟩,⟨rfl,rfl⟩,rfl⟩
    ·exact⟨⟨3,[],clk2+1,clk2+1+1⟩,by dsimp only;omega,by dsimp only;omega,⟨⟨rfl,rfl⟩,rfl⟩,⟨rfl,rfl⟩,rfl⟩
    ·exact⟨⟨4,[],clk2+1,clk2+1+1⟩,by dsimp only;omega,by dsimp only;omega,⟨⟨rfl,rfl⟩,rfl⟩,⟨rfl,rfl⟩,rfl⟩
   ·have hLn:(L.length:Int)=3:=by rw[←h3];rfl
    simp only[Int.lt_irrefl,Q0,J5,ye,List.map_cons,List.map_nil,go_sem,zg,seval,reduceIte,reduceCtorEq]
    refine z7.lp (α:=LnS) (fun s=>[(6,.ref 0 ver 0 3),(12,.ref 6 s.ver 0 s.k),(61,.ref 3 (clk+1+1) 0 4),(62,vi 4),(63,vi s.k)])
     (fun s=>⟨[⟨ver,1,[[vi a],[vi b],[vi c]],false,[vi 0]⟩,⟨clk,1,[[vi 0],[vi 0],[vi 0],[vi 0]],false,[vi 0]⟩,⟨clk+1,1,[[vi 0],[vi 1],[vi 0],[vi 1]],false,[vi 0]⟩,⟨clk+1+1,1,[[vi 0],[vi 1],[vi 2],[vi 1]],false,[vi 0]⟩,⟨clk+1+1+1,1,[[vi 0],[vi 1],[vi 2],[vi 3]],false,[vi 0]⟩,⟨clk+1+1+1+1,1,[[.ref 1 clk 0 4],[.ref 2 (clk+1) 0 4],[.ref 3 (clk+1+1) 0 4],[.ref 4 (clk+1+1+1) 0 4]],false,[zL]⟩,⟨s.ver,1,(([a,b,c,b]:List Int).take s.k).map fun n=>[vi n],false,[vi 0]⟩],s.clk⟩) (fun s=>s.k≤4) (fun s=>4 - s.k) ⟨0,[],clk+1+1+1+1+1,clk+1+1+1+1+1+1⟩
     (by dsimp only;omega) (St.nil 12 1 [vi 0] (by simp[zq]) (St.cut ?_ ?_ ?_)) fun s hs=> ?_
    ·simp[zC,zq,qk]
    ·simp[Heap.alloc]
    ·rfl
    obtain⟨k2,o2,v2,clk2⟩:=s
    simp only at hs
    rcases(show k2=0∨k2=1∨k2=2∨k2=3∨k2=4 by omega)with rfl|rfl|rfl|rfl|rfl
    all_goals simp only[List.take_zero,List.take_succ_cons,List.take_nil,List.map_cons,List.map_nil,go_sem,zg,seval,reduceIte,reduceCtorEq]
    ·exact⟨⟨1,[],clk2+1,clk2+1+1⟩,by dsimp only;omega,by dsimp only;omega,⟨⟨rfl,rfl⟩,rfl⟩,⟨rfl,rfl⟩,rfl⟩
    ·exact⟨⟨2,[],clk2+1,clk2+1+1⟩,by dsimp only;omega,by dsimp only;omega,⟨⟨rfl,rfl⟩,rfl⟩,⟨rfl,rfl⟩,rfl⟩
    ·exact⟨⟨3,[],clk2+1,clk2+1+1⟩,by dsimp only;omega,by dsimp only;omega,⟨⟨rfl,rfl⟩,rfl⟩,⟨rfl,rfl⟩,rfl⟩
    ·exact⟨⟨4,[],clk2+1,clk2+1+1⟩,by dsimp only;omega,by dsimp only;omega,⟨⟨rfl,rfl⟩,rfl⟩,⟨rfl,rfl⟩,rfl⟩
   ·have hLn:(L.length:Int)=4:=by rw[←h3];rfl
    simp only[Int.lt_irrefl,Q0,J5,ye,List.map_cons,List.map_nil,go_sem,zg,seval,reduceIte,reduceCtorEq]
    refine z7.lp (α:=LnS) (fun s=>[(6,.ref 0 ver 0 4),(12,.ref 6 s.ver 0 s.k),(61,.ref 4 (clk+1+1+1) 0 4),(62,vi 4),(63,vi s.k)])
     (fun s=>⟨[⟨ver,1,[[vi a],[vi b],[vi c],[vi d]],false,[vi 0]⟩,⟨clk,1,[[vi 0],[vi 0],[vi 0],[vi 0]],false,[vi 0]⟩,⟨clk+1,1,[[vi 0],[vi 1],[vi 0],[vi 1]],false,[vi 0]⟩,⟨clk+1+1,1,[[vi 0],[vi 1],[vi 2],[vi 1]],false,[vi 0]⟩,⟨clk+1+1+1,1,[[vi 0],[vi 1],[vi 2],[vi 3]],false,[vi 0]⟩,⟨clk+1+1+1+1,1,[[.ref 1 clk 0 4],[.ref 2 (clk+1) 0 4],[.ref 3 (clk+1+1) 0 4],[.ref 4 (clk+1+1+1) 0 4]],false,[zL]⟩,⟨s.ver,1,(([a,b,c,d]:List Int).take s.k).map fun n=>[vi n],false,[vi 0]⟩],s.clk⟩) (fun s=>s.k≤4) (fun s=>4 - s.k) ⟨0,[],clk+1+1+1+1+1,clk+1+1+1+1+1+1⟩
     (by dsimp only;omega) (St.nil 12 1 [vi 0] (by simp[zq]) (St.cut ?_ ?_ ?_)) fun s hs=> ?_
    ·simp[zC,zq,qk]
    ·simp[Heap.alloc]
    ·rfl
    obtain⟨k2,o2,v2,clk2⟩:=s
    simp only at hs
    rcases(show k2=0∨k2=1∨k2=2∨k2=3∨k2=4 by omega)with rfl|rfl|rfl|rfl|rfl
    all_goals simp only[List.take_zero,List.take_succ_cons,List.take_nil,List.map_cons,List.map_nil,go_sem,zg,seval,reduceIte,reduceCtorEq]
    ·exact⟨⟨1,[],clk2+1,clk2+1+1⟩,by dsimp only;omega,by dsimp only;omega,⟨⟨rfl,rfl⟩,rfl⟩,⟨rfl,rfl⟩,rfl⟩
    ·exact⟨⟨2,[],clk2+1,clk2+1+1⟩,by dsimp only;omega,by dsimp only;omega,⟨⟨rfl,rfl⟩,rfl⟩,⟨rfl,rfl⟩,rfl⟩
    ·exact⟨⟨3,[],clk2+1,clk2+1+1⟩,by dsimp only;omega,by dsimp only;omega,⟨⟨rfl,rfl⟩,rfl⟩,⟨rfl,rfl⟩,rfl⟩
    ·exact⟨⟨4,[],clk2+1,clk2+1+1⟩,by dsimp only;omega,by dsimp only;omega,⟨⟨rfl,rfl⟩,rfl⟩,⟨rfl,rfl⟩,rfl⟩
  ·have e1:(k:Int)<(L.length:Int):=by omega
   have e0:(0:Int)≤(k:Int):=by omega
   have hlt:k<L.length:=by omega
   rw[zfQ L k hlt]at h4
   have hg:=jC L k [vi 0,vs ⟨#[]⟩,vi 0,zL] hlt
   have hx:(L.getD k default).t.text.size≤1000000:=by
    have:=(hm (L.getD k default) (by rw[List.getD_eq_getElem?_getD,List.getElem?_eq_getElem hlt];exact List.getElem_mem _)).1
    exact this
   generalize L.getD k default=x at*
   have hot:out.take out.length=out:=List.take_length
   have hot2:out.take k=out:=by rw[←h3];exact hot
   cases ho:J4 x.t with
   |none=>
    rw[ho]at h4
    simp only[Option.map_none]at h4
    subst h4
    simp only[e0,e1,hg,hx,ho,q9,J5,Pa.enc,Tok.enc,jf,Tok.eta,go_sem,zg,seval,reduceIte,reduceCtorEq]
   |some n=>
    rw[ho]at h4
    simp only at h4
    simp only[e0,e1,hg,hx,ho,q9,hot,Pa.enc,Tok.enc,jf,Tok.eta,ye,go_sem,zg,seval,reduceIte,reduceCtorEq]
    refine⟨⟨by omega,by omega,by omega⟩,by omega,⟨k+1,out++ [n],clk+2,clk+3⟩,⟨by dsimp only;omega,by simp;omega,?_⟩,by dsimp only;omega,?_⟩
    ·rw[←h4];cases YY (L.drop (k+1))<;>simp
    ·simp
 ·rw[if_neg hc]
  cases hb:ptB l with
  |false=>simp only[c28,zm,zh,h1,plV,hb,J5,go_sem,zg,seval,reduceIte,reduceCtorEq]
  |true=>
   have hn:(pl l).length=0∨4<(pl l).length:=by
    rcases Nat.lt_or_ge 4 (pl l).length with hh|hh
    ·exact .inr hh
    ·exact .inl (Decidable.byContradiction fun hz=>hc ⟨hb,by omega,hh⟩)
   rcases hn with hz|hz
   ·have hz1:((pl l).length:Int)=0:=by omega
    simp only[c28,zm,zh,h1,plV,hb,hz1,J5,go_sem,zg,seval,reduceIte,reduceCtorEq]
   ·have g1:¬(((pl l).length:Int)<1):=by omega
    have g2:((4:Int)<((pl l).length:Int)):=by omega
    have g3:¬(((pl l).length:Int)=0):=by omega
    simp only[c28,zm,zh,h1,plV,hb,g1,g2,g3,J5,go_sem,zg,seval,reduceIte,reduceCtorEq]
def YA:Sum Tryz.prog:=⟨28,fun args=>args= [zm (zi (args.getD 0 .any))]∧okT (zi (args.getD 0 .any)),fun args=>Kg (ZG (zi (args.getD 0 .any))),fun args h=>by
 have:=zi3 _ (zc5 (zi (args.getD 0 .any)) h.2);rwa [←h.1]at this,false⟩
theorem zkL:YA.f=28:=rfl
theorem zkK(args:List V):YA.D args=(args= [zm (zi (args.getD 0 .any))]∧okT (zi (args.getD 0 .any))):=rfl
theorem zbT:YA.flat=false:=rfl
theorem zkM(args:List V):YA.r args=Kg (ZG (zi (args.getD 0 .any))):=rfl
attribute [go_sem] zkL zkK zbT zkM
end Go.Proofs.YtlaopdfpncckeaaGreatDoor
end
section
namespace Go.Proofs.YtlaopdfpncckeaaGreatDoor
open Go.Sx
set_option linter.unusedSimpArgs false
set_option maxHeartbeats 4000000
set_option maxRecDepth 20000
end Go.Proofs.YtlaopdfpncckeaaGreatDoor
end
section
namespace Go.Proofs.YtlaopdfpncckeaaGreatDoor
open Go.Sx
set_option linter.unusedSimpArgs false
set_option maxHeartbeats 4000000
set_option maxRecDepth 20000
end Go.Proofs.YtlaopdfpncckeaaGreatDoor
end
section
namespace Go.Proofs.YtlaopdfpncckeaaGreatDoor
open Go.Sx
set_option linter.unusedSimpArgs false
set_option maxHeartbeats 4000000
set_option maxRecDepth 20000
theorem zp(S:Nat→Bool)(h:Heap)(cs:List V):res S h 11 (.agg cs)=(zK (res S h 10) cs).map .agg:=rfl
end Go.Proofs.YtlaopdfpncckeaaGreatDoor
end
section
namespace Go.Proofs.YtlaopdfpncckeaaGreatDoor
open Go.Sx
set_option linter.unusedSimpArgs false
set_option maxHeartbeats 4000000
set_option maxRecDepth 20000
end Go.Proofs.YtlaopdfpncckeaaGreatDoor
end
section
namespace Go.Proofs.YtlaopdfpncckeaaGreatDoor
open Go.Sx
set_option linter.unusedSimpArgs false
set_option maxHeartbeats 4000000
set_option maxRecDepth 20000
structure AtS where
 S:Sum Tryz.prog
 hf:S.f=69
 hfl:S.flat=true
 hD:∀u,S.D [.slc 1 [[.c (.string ⟨#[102,105,114,115,116]⟩)],[.c (.string ⟨#[115,116,97,114,116]⟩)],[.c (.string ⟨#[108,97,115,116]⟩)],[.c (.string ⟨#[102,105,114,115,116,45,101,120,99,101,112,116]⟩)]],.c (.string u)]
 hr:∀u,S.r [.slc 1 [[.c (.string ⟨#[102,105,114,115,116]⟩)],[.c (.string ⟨#[115,116,97,114,116]⟩)],[.c (.string ⟨#[108,97,115,116]⟩)],[.c (.string ⟨#[102,105,114,115,116,45,101,120,99,101,112,116]⟩)]],.c (.string u)]=vi (ixS whs u)
structure TlE (e:Nat→V) (M:List Pa) (n:Int) (v:Nat):Prop where
 a:e 2= .ptr 1 1 0 0
 b:e 4= .ptr 2 2 0 0
 c:e 5= .slc 4 (M.map Pa.enc)
 d:e 7= .ptr 3 v 0 0
 f:e 9=vi n
end Go.Proofs.YtlaopdfpncckeaaGreatDoor
end
section
namespace Go.Proofs.YtlaopdfpncckeaaGreatDoor
open Go.Sx
set_option linter.unusedSimpArgs false
set_option maxHeartbeats 4000000
set_option maxRecDepth 20000
end Go.Proofs.YtlaopdfpncckeaaGreatDoor
end
section
namespace Go.Proofs.YtlaopdfpncckeaaGreatDoor
open Go.Sx
set_option linter.unusedSimpArgs false
set_option maxHeartbeats 4000000
set_option maxRecDepth 20000
structure ItS where
 k:Nat
 out:List Itm
 ver:Nat
 clk:Nat
end Go.Proofs.YtlaopdfpncckeaaGreatDoor
end
section
namespace Go.Proofs.YtlaopdfpncckeaaGreatDoor
open Go.Sx
set_option linter.unusedSimpArgs false
set_option maxHeartbeats 4000000
set_option maxRecDepth 20000
end Go.Proofs.YtlaopdfpncckeaaGreatDoor
end
section
namespace Go.Proofs.YtlaopdfpncckeaaGreatDoor
open Go.Sx
set_option linter.unusedSimpArgs false
set_option maxHeartbeats 4000000
set_option maxRecDepth 20000
theorem YO(l:List Tok)(k:Nat)(hc:¬zy (l.getD k .zero)=⟨#[]⟩)(hk:k<l.length):
 (feE l k=l.length∨∃m:Nat,feE l k=m∧k<m∧m<l.length∧opn l m=opn l k++ [(k:Int)]∧opn l (m+1)=opn l k)
 ∧∀j:Nat,k<j→(j:Int)≤feE l k→(k:Int)∈opn l j:=by
 have key:∀(m:Nat),(∀i,k+1≤i→i<m→¬Zj l k i)→∀j,k<j→j≤m→(k:Int)∈opn l j:=by
  intro m h5 j h1 h2
  by_cases e:j=k+1
  ·subst e;rw[qf hc];simp
  ·have:=h5 (j - 1) (by omega) (by omega)
   rw[jx hc (by omega),show j - 1+1=j by omega]at this
   exact Decidable.byContradiction this
 have none_:∀(f j:Nat),j+f=l.length→fe l k f j=l.length→∀i,j≤i→i<l.length→¬Zj l k i:=by
  intro f
  induction f with
  |zero=>intro j h _ i h1 h2;omega
  |succ f ih=>
   intro j h h1 i h2 h3
   simp only[fe]at h1
   split at h1
   ·omega
   ·rename_i hn
    by_cases e:i=j
    ·subst e;exact hn
    ·exact ih (j+1) (by omega) h1 i (by omega) h3
 unfold feE
 rcases zep l k (l.length - (k+1)) (k+1) (by omega)with h1|⟨m,h1,h2,h3,h4,h5⟩
 ·refine⟨.inl h1,fun j hj1 hj2=>key l.length (fun i hi1 hi2=>none_ _ _ (by omega) h1 i hi1 hi2) j hj1 (by omega)⟩
 ·refine⟨.inr ⟨m,h3,h1,h2,?_⟩,fun j hj1 hj2=>key m h5 j hj1 (by omega)⟩
  have hin:=key m h5 m (by omega) (Nat.le_refl _)
  have hout:=(jx hc (by omega)).1 h4
  obtain⟨d,rfl⟩:∃d,m=k+1+d:=⟨m - (k+1),by omega⟩
  obtain⟨t,ht⟩:=K8 hc d hin
  generalize k+1+d=m at*
  by_cases hm:zy (l.getD m .zero)=⟨#[]⟩
  ·by_cases hp:Y5 l (opn l m) m
   ·rw[Z0 hp,ht]at hout⊢
    cases t with
    |nil=>simp
    |cons x t=>exact absurd (by rw[show(opn l k++((k:Int)::x::t)).length - 1=(opn l k).length+(t.length+1)by simp,List.take_append,List.take_of_length_le (by omega)];simp) hout
   ·rw[kn hm hp]at hout;exact absurd hin hout
  ·rw[qf hm]at hout;exact absurd (by simp[hin]) hout
theorem zft(l:List Tok)(k:Nat)(h:0≤y9 l k):¬zy (l.getD k .zero)=⟨#[]⟩∧y9 l k=feE l k:=by
 unfold y9 at h⊢
 split at h
 ·omega
 ·rename_i hc;exact⟨hc,by rw[if_neg hc];rfl⟩
theorem ziA(l:List Tok)(k m:Nat)(hc:¬zy (l.getD k .zero)=⟨#[]⟩)(h1:k<m)(h2:m<l.length)(h3:(k:Int)∈opn l m)(h4:¬(k:Int)∈opn l (m+1)):feE l k=m:=by
 obtain⟨ha,hb⟩:=YO l k hc (by omega)
 rcases ha with ha|⟨m',a1,a2,a3,a4,a5⟩
 ·exact absurd (hb (m+1) (by omega) (by omega)) h4
 ·have hn:¬(k:Int)∈opn l (m'+1):=by
   rw[a5];intro h;have:=yV l k _ h;omega
  rcases Nat.lt_trichotomy m m' with h|h|h
  ·exact absurd (hb (m+1) (by omega) (by omega)) h4
  ·omega
  ·exact absurd (jN (m':=m) (by omega) (by omega) h3) hn
theorem KR(l m:List Tok)(i:Nat)(h:i<l.length):(l++m).getD i .zero=l.getD i .zero:=by
 simp[List.getD_eq_getElem?_getD,List.getElem?_append_left h]
theorem zgs(l m:List Tok)(st:List Int)(k:Nat)(hk:k<l.length)(hs:∀x∈st,0≤x∧x<k):kU (l++m) st k=kU l st k:=by
 unfold kU
 rw[KR l m k hk]
 cases st with
 |nil=>simp
 |cons y st=>
  have:((y::st).getD ((y::st).length - 1) 0)∈(y::st):=by
   rw[List.getD_eq_getElem?_getD,List.getElem?_eq_getElem (by simp)];exact List.getElem_mem _
  have:=hs _ this
  rw[KR l m _ (by omega)]
theorem Y4(l m:List Tok):∀k,k≤l.length→opn (l++m) k=opn l k
 |0,_=>rfl
 |k+1,h=>by
  rw[kS,kS,Y4 l m k (by omega)]
  exact zgs l m _ k (by omega) (fun x hx=>yV l k x hx)
structure Emb (l w:List Tok) (φ:Nat→Nat) (p:Nat):Prop where
 mono:∀i j,i<j→j<l.length→φ i<φ j
 lt:∀i,i<l.length→φ i<w.length
 ge:∀i,i<l.length→p≤φ i
 get:∀i,i<l.length→w.getD (φ i) .zero=l.getD i .zero
 neu:∀j,p≤j→j<w.length→(∀i,i<l.length→φ i≠j)→zy (w.getD j .zero)=⟨#[]⟩∧(w.getD j .zero).kind≠13
 op:opn w p= []
 le:p≤w.length
def up(φ:Nat→Nat)(x:Int):Int:=(φ x.toNat:Nat)
theorem XU{l w:List Tok}{φ:Nat→Nat}{p:Nat}(E:Emb l w φ p){st:List Int}{i:Nat}(hi:i<l.length)(hs:∀x∈st,0≤x∧x<i):kU w (st.map (up φ)) (φ i)=(kU l st i).map (up φ):=by
 unfold kU
 rw[E.get i hi]
 have hlast:0<st.length→zy (w.getD ((st.map (up φ)).getD ((st.map (up φ)).length - 1) 0).toNat .zero)=zy (l.getD (st.getD (st.length - 1) 0).toNat .zero):=fun h0=>by
  have hm:st.getD (st.length - 1) 0∈st:=by
   rw[List.getD_eq_getElem?_getD,List.getElem?_eq_getElem (by omega)];exact List.getElem_mem _
  have h1:=hs _ hm
  have e:(st.map (up φ)).getD ((st.map (up φ)).length - 1) 0=up φ (st.getD (st.length - 1) 0):=by
   rw[List.length_map]
   simp only[List.getD_eq_getElem?_getD,List.getElem?_map]
   rw[List.getElem?_eq_getElem (by omega)];rfl
  rw[e,up,Int.toNat_natCast,E.get _ (by omega)]
 by_cases c:zy (l.getD i .zero)=⟨#[]⟩
 ·have c':¬ ¬zy (l.getD i .zero)=⟨#[]⟩:=fun hh=>hh c
  rw[if_neg c',if_neg c']
  by_cases c2:(l.getD i .zero).kind=13∧0<st.length∧zy (l.getD (st.getD (st.length - 1) 0).toNat .zero)=(l.getD i .zero).text
  ·rw[if_pos c2,if_pos ⟨c2.1,by rw[List.length_map];exact c2.2.1,by rw[hlast c2.2.1];exact c2.2.2⟩,List.length_map,List.map_take]
  ·rw[if_neg c2,if_neg]
   rintro⟨h1,h2,h3⟩
   rw[List.length_map]at h2
   rw[hlast h2]at h3
   exact c2 ⟨h1,h2,h3⟩
 ·rw[if_pos c,if_pos c,List.map_append]
  rfl
theorem Emb.inj{l w:List Tok}{φ:Nat→Nat}{p:Nat}(E:Emb l w φ p){i j:Nat}(hi:i<l.length)(hj:j<l.length)(h:φ i=φ j):i=j:=by
 rcases Nat.lt_trichotomy i j with h1|h1|h1
 ·have:=E.mono i j h1 hj;omega
 ·exact h1
 ·have:=E.mono j i h1 hi;omega
theorem Emb.walk{l w:List Tok}{φ:Nat→Nat}{p:Nat}(E:Emb l w φ p):∀d,p+d≤w.length→∃i,i≤l.length∧(∀i',i'<i→φ i'<p+d)∧(∀i',i≤i'→i'<l.length→p+d≤φ i')∧opn w (p+d)=(opn l i).map (up φ)
 |0,_=>⟨0,Nat.zero_le _,fun i' h=>by omega,fun i' _ h=>E.ge i' h,by rw[Nat.add_zero,E.op];rfl⟩
 |d+1,h=>by
  obtain⟨i,h1,h2,h3,h4⟩:=E.walk d (by omega)
  by_cases hc:i<l.length∧φ i=p+d
  ·refine⟨i+1,hc.1,fun i' hi'=> ?_,fun i' hi' hl=> ?_,?_⟩
   ·by_cases e:i'=i
    ·subst e;omega
    ·have:=h2 i' (by omega);omega
   ·have:=E.mono i i' (by omega) hl;omega
   ·rw[show p+(d+1)=(p+d)+1 by omega,kS,h4,←hc.2,XU E hc.1 (yV l i)];rfl
  ·have hne:∀i',i'<l.length→φ i'≠p+d:=fun i' hl e=>by
    by_cases e1:i'<i
    ·have:=h2 i' e1;omega
    ·by_cases e2:i'=i
     ·subst e2;exact hc ⟨hl,e⟩
     ·have:=E.mono i i' (by omega) hl
      have:=h3 i (Nat.le_refl _) (by omega)
      omega
   have hn:=E.neu (p+d) (by omega) (by omega) hne
   refine⟨i,h1,fun i' hi'=>by have:=h2 i' hi';omega,fun i' hi' hl=>by have:=h3 i' hi' hl;have:=hne i' hl;omega,?_⟩
   rw[show p+(d+1)=(p+d)+1 by omega,kn hn.1 (fun hp=>hn.2 hp.2.1),h4]
theorem Emb.at_{l w:List Tok}{φ:Nat→Nat}{p:Nat}(E:Emb l w φ p){m:Nat}(hm:m<l.length):opn w (φ m)=(opn l m).map (up φ):=by
 have hg:=E.ge m hm
 have hl:=E.lt m hm
 obtain⟨i,h1,h2,h3,h4⟩:=E.walk (φ m - p) (by omega)
 rw[show p+(φ m - p)=φ m by omega]at h2 h3 h4
 have:i=m:=by
  rcases Nat.lt_trichotomy i m with h|h|h
  ·have:=E.mono i m h hm;have:=h3 i (Nat.le_refl _) (by omega);omega
  ·exact h
  ·have:=h2 m h;omega
 rw[h4,this]
theorem Emb.at1{l w:List Tok}{φ:Nat→Nat}{p:Nat}(E:Emb l w φ p){m:Nat}(hm:m<l.length):opn w (φ m+1)=(opn l (m+1)).map (up φ):=by
 rw[kS,E.at_ hm,XU E hm (yV l m)];rfl
theorem Emb.fin{l w:List Tok}{φ:Nat→Nat}{p:Nat}(E:Emb l w φ p):opn w w.length=(opn l l.length).map (up φ):=by
 have hle:=E.le
 obtain⟨i,h1,h2,h3,h4⟩:=E.walk (w.length - p) (by omega)
 rw[show p+(w.length - p)=w.length by omega]at h2 h3 h4
 have:i=l.length:=by
  by_cases h:i<l.length
  ·have:=h3 i (Nat.le_refl _) h;have:=E.lt i h;omega
  ·omega
 rw[h4,this]
theorem Emb.len{l w:List Tok}{φ:Nat→Nat}{p:Nat}(E:Emb l w φ p)(h:yf l=false){j:Nat}(h1:p≤j)(h2:j≤w.length):(opn w j).length≤64:=by
 obtain⟨i,a1,_,_,a4⟩:=E.walk (j - p) (by omega)
 rw[show p+(j - p)=j by omega]at a4
 rw[a4,List.length_map]
 cases i with
 |zero=>simp[opn]
 |succ i=>
  unfold yf at h
  rw[decide_eq_false_iff_not]at h
  exact Decidable.byContradiction fun hn=>h ⟨i,by omega,by omega⟩
theorem Emb.mem{l w:List Tok}{φ:Nat→Nat}{p:Nat}(E:Emb l w φ p){m k:Nat}(hk:k<l.length)(hm:m≤l.length):((φ k:Nat):Int)∈(opn l m).map (up φ)↔(k:Int)∈opn l m:=by
 constructor
 ·intro h
  obtain⟨x,hx,he⟩:=List.mem_map.1 h
  have hr:=yV l m x hx
  unfold up at he
  have:=E.inj (i:=x.toNat) (j:=k) (by omega) hk (by omega)
  rwa [show(k:Int)=x by omega]
 ·intro h
  exact List.mem_map.2 ⟨k,h,by simp[up]⟩
theorem Emb.end{l w:List Tok}{φ:Nat→Nat}{p:Nat}(E:Emb l w φ p){k:Nat}(hk:k<l.length):(y9 l k= -1∧y9 w (φ k)= -1)∨(y9 l k=l.length∧y9 w (φ k)=w.length)∨∃m:Nat,k<m∧m<l.length∧y9 l k=m∧y9 w (φ k)=φ m:=by
 have hg:=E.get k hk
 unfold y9
 rw[hg]
 by_cases c:zy (l.getD k .zero)=⟨#[]⟩
 ·rw[if_pos c,if_pos c];exact .inl ⟨rfl,rfl⟩
 ·rw[if_neg c,if_neg c]
  have cw:¬zy (w.getD (φ k) .zero)=⟨#[]⟩:=by rw[hg];exact c
  right
  obtain⟨a1,a2⟩:=YO l k c hk
  rcases a1 with a1|⟨m,b1,b2,b3,b4,b5⟩
  ·left
   refine⟨a1,?_⟩
   show feE w (φ k)=w.length
   have hin:(k:Int)∈opn l l.length:=a2 l.length hk (by omega)
   have hin':((φ k:Nat):Int)∈opn w w.length:=by rw[E.fin];exact(E.mem hk (Nat.le_refl _)).2 hin
   obtain⟨d1,d2⟩:=YO w (φ k) cw (E.lt k hk)
   rcases d1 with d1|⟨m,e1,e2,e3,e4,e5⟩
   ·exact d1
   ·have:=jN (k:=φ k) (m:=m+1) (m':=w.length) (by omega) (by omega) hin'
    rw[e5]at this
    have:=yV w _ _ this
    omega
  ·right
   refine⟨m,b2,b3,b1,?_⟩
   show feE w (φ k)=φ m
   have h1:(k:Int)∈opn l m:=by rw[b4];simp
   have h2:¬(k:Int)∈opn l (m+1):=by rw[b5];intro h;have:=yV l k _ h;omega
   refine ziA w (φ k) (φ m) cw (E.mono k m b2 b3) (E.lt m b3) ?_ ?_
   ·rw[E.at_ b3];exact(E.mem hk (by omega)).2 h1
   ·rw[E.at1 b3];exact fun h=>h2 ((E.mem hk (by omega)).1 h)
end Go.Proofs.YtlaopdfpncckeaaGreatDoor
end
section
namespace Go.Proofs.YtlaopdfpncckeaaGreatDoor
open Go.Sx
set_option linter.unusedSimpArgs false
set_option maxHeartbeats 4000000
set_option maxRecDepth 20000
def wk(l:List Tok):Nat→Nat→Option (List Pa)
 |0,_=>some []
 |f+1,k=>if k<l.length then(if(zA l).getD k 0=l.length then none else(wk l f (skip (zA l) k).toNat).map fun ps=>if(l.getD k .zero).kind=1 then ps else JN (pAt l k)::ps)else some []
theorem zlR{l:List Tok}(hd:yf l=false):∀(f k:Nat),(yr l (plR (zA l) l.length f k)).map (List.map JN)=wk l f k
 |0,_=>rfl
 |f+1,k=>by
  simp only[wk,plR]
  by_cases h:k<l.length
  ·rw[if_pos (by omega),if_pos h]
   simp only[yr,Int.toNat_natCast]
   by_cases c:(zA l).getD k 0=l.length
   ·rw[if_pos c,if_pos c];rfl
   ·rw[if_neg c,if_neg c]
    obtain⟨n,hn,_,_⟩:=kT hd k h
    have ih:=zlR hd f n
    rw[hn,Int.toNat_natCast,←ih]
    cases yr l (plR (zA l) l.length f n)with
    |none=>rfl
    |some ps=>
     simp only[Option.map_some]
     by_cases c1:(l.getD k .zero).kind=1
     ·rw[if_pos c1,if_pos c1]
     ·rw[if_neg c1,if_neg c1];rfl
  ·rw[if_neg (by omega),if_neg h];rfl
theorem Wu{l:List Tok}(hd:yf l=false):ptB l=(wk l (l.length+1) 0).isSome:=by
 unfold ptB ptO
 rw[if_neg (by rw[hd];simp),←zlR hd,show((0:Nat):Int)=0 from rfl]
 cases yr l (plR (zA l) l.length (l.length+1) 0)<;>rfl
theorem zeJ{l:List Tok}(hd:yf l=false):pl l=(wk l (l.length+1) 0).getD []:=by
 unfold pl ptL ptO
 rw[if_neg (by rw[hd];simp),←zlR hd,show((0:Nat):Int)=0 from rfl]
 cases yr l (plR (zA l) l.length (l.length+1) 0)<;>rfl
theorem zbc{l:List Tok}(hd:yf l=true):ptB l=false:=by
 unfold ptB ptO;rw[if_pos hd];rfl
theorem zjv{l:List Tok}(h:ptB l=false):pl l= []:=by
 unfold pl ptL
 unfold ptB at h
 cases hO:ptO l with
 |none=>rfl
 |some ps=>rw[hO]at h;cases h
theorem qK{l:List Tok}(hd:yf l=false){k:Nat}(hk:k<l.length):(zA l).getD k 0=y9 l k:=ZW l hd k hk
theorem zjV{l:List Tok}(hd:yf l=false){k:Nat}(hk:k<l.length)(h:y9 l k= -1):skip (zA l) k=((k+1:Nat):Int):=by
 unfold skip
 rw[Int.toNat_natCast,qK hd hk,h,if_pos (by omega)];omega
theorem zjW{l:List Tok}(hd:yf l=false){k m:Nat}(hk:k<l.length)(h:y9 l k=m)(hm:k<m)(hl:m<l.length):skip (zA l) k=((m+1:Nat):Int):=by
 have hlen:(zA l).length=l.length:=by unfold zA;rw[hd];simp[qL]
 unfold skip
 rw[Int.toNat_natCast,qK hd hk,h,hlen,if_neg (by omega)];omega
theorem Xz{l:List Tok}{k:Nat}(hk:k<l.length):(zy (l.getD k .zero)=⟨#[]⟩∧y9 l k= -1)∨y9 l k=l.length∨∃m:Nat,k<m∧m<l.length∧y9 l k=m∧opn l (m+1)=opn l k∧(k:Int)∈opn l m:=by
 unfold y9
 by_cases c:zy (l.getD k .zero)=⟨#[]⟩
 ·rw[if_pos c];exact .inl ⟨c,rfl⟩
 ·rw[if_neg c]
  right
  obtain⟨a1,a2⟩:=YO l k c hk
  rcases a1 with a1|⟨m,b1,b2,b3,b4,b5⟩
  ·exact .inl a1
  ·exact .inr ⟨m,b2,b3,b1,b5,by rw[b4];simp⟩
theorem Kz{l:List Tok}{f k:Nat}(hk:k<l.length)(hd:yf l=false)(h:y9 l k=l.length):wk l (f+1) k=none:=by
 simp only[wk,hk,if_true,qK hd hk,h]
theorem QR{l:List Tok}{f k:Nat}(hk:k<l.length)(hd:yf l=false)(h:y9 l k= -1):wk l (f+1) k=(wk l f (k+1)).map fun ps=>if(l.getD k .zero).kind=1 then ps else⟨l.getD k .zero,[]⟩::ps:=by
 have h1:¬(-1:Int)=l.length:=by omega
 simp only[wk,hk,if_true,qK hd hk,h,h1,if_false,zjV hd hk h,Int.toNat_natCast]
 have:JN (pAt l k)=⟨l.getD k .zero,[]⟩:=by
  unfold JN pAt
  rw[qK hd hk,h];rfl
 rw[this]
theorem zcg{l:List Tok}{f k m:Nat}(hk:k<l.length)(hd:yf l=false)(h:y9 l k=m)(hm:k<m)(hl:m<l.length):wk l (f+1) k=(wk l f (m+1)).map fun ps=>if(l.getD k .zero).kind=1 then ps else⟨l.getD k .zero,(l.take m).drop (k+1)⟩::ps:=by
 have h1:¬(m:Int)=l.length:=by omega
 simp only[wk,hk,if_true,qK hd hk,h,h1,if_false,zjW hd hk h hm hl,Int.toNat_natCast]
 have:JN (pAt l k)=⟨l.getD k .zero,(l.take m).drop (k+1)⟩:=by
  unfold JN pAt
  rw[qK hd hk,h,if_pos (by omega)];rfl
 rw[this]
theorem WR{l:List Tok}{f k:Nat}(hk:l.length≤k):wk l f k=some []:=by
 cases f with
 |zero=>rfl
 |succ f=>simp only[wk];rw[if_neg (by omega)]
theorem zcJ{t:Tok}(h:t.kind≠3)(h':t.kind≠12):zy t=⟨#[]⟩:=by
 unfold zy;simp[h,h']
def spT:Tok:=⟨1,⟨#[]⟩,0⟩
def zu2(l:List Tok):List Tok:=l.flatMap fun t=>[spT,t]
def zrv(l:List Tok):List Tok:=zu2 l++ [spT]
theorem zau(l:List Tok):yf l=false↔∀j,j≤l.length→(opn l j).length≤64:=by
 unfold yf
 rw[decide_eq_false_iff_not]
 constructor
 ·intro h j hj
  cases j with
  |zero=>simp[opn]
  |succ j=>exact Decidable.byContradiction fun hn=>h ⟨j,by omega,by omega⟩
 ·rintro h ⟨i,h1,h2⟩
  have:=h (i+1) (by omega)
  omega
def PaR(p q:Pa):Prop:=q.t=p.t∧(q.al=zrv p.al∨(p.al= []∧q.al= []))
def zpK:Option (List Pa)→Option (List Pa)→Prop
 |none,none=>True
 |some ps,some qs=>F2 PaR ps qs
 |_,_=>False
theorem zpK.map{x y:Option (List Pa)}(h:zpK x y)(f g:List Pa→List Pa)(hf:∀ps qs,F2 PaR ps qs→F2 PaR (f ps) (g qs)):zpK (x.map f) (y.map g):=by
 cases x<;>cases y<;>first|exact h|exact hf _ _ h
theorem WS{l:List Tok}(hd:yf l=false):∀(f k:Nat)(ps:List Pa),l.length+1≤k+f→k≤l.length→opn l k= []→wk l f k=some ps→opn l l.length= []
 |0,k,ps,h1,h2,_,_=>by omega
 |f+1,k,ps,h1,h2,h0,h=>by
  by_cases hk:k<l.length
  ·rcases Xz hk with⟨c,a⟩|a|⟨m,m1,m2,a,b,b'⟩
   ·rw[QR hk hd a,Option.map_eq_some_iff]at h
    obtain⟨qs,hq,_⟩:=h
    refine WS hd f (k+1) qs (by omega) (by omega) ?_ hq
    rw[kn c (by rintro⟨_,_,hp,_⟩;simp[h0]at hp)];exact h0
   ·rw[Kz hk hd a]at h;cases h
   ·rw[zcg hk hd a m1 m2,Option.map_eq_some_iff]at h
    obtain⟨qs,hq,_⟩:=h
    exact WS hd f (m+1) qs (by omega) (by omega) (b.trans h0) hq
  ·rw[←show k=l.length by omega];exact h0
theorem JP{a r:List Tok}(hd:yf a=false)(hd':yf (a++r)=false):∀(f k f':Nat)(ps:List Pa),a.length+1≤k+f→k≤a.length→(a++r).length+1≤k+f'→wk a f k=some ps→
 ∃f'',(a++r).length+1≤a.length+f''∧wk (a++r) f' k=(wk (a++r) f'' a.length).map (ps++ ·)
 |0,k,f',ps,h1,h2,_,_=>by omega
 |f+1,k,f',ps,h1,h2,h3,h=>by
  by_cases hk:k<a.length
  ·have hla:(a++r).length=a.length+r.length:=List.length_append
   have hk':k<(a++r).length:=by omega
   obtain⟨f',rfl⟩:∃g,f'=g+1:=⟨f' - 1,by omega⟩
   have hg:=KR a r k hk
   have mm:∀(x:Option (List Pa))(g:Pa)(qs:List Pa),(x.map (qs++ ·)).map (fun ps=>if(a.getD k .zero).kind=1 then ps else g::ps)=x.map ((if(a.getD k .zero).kind=1 then qs else g::qs)++ ·):=fun x g qs=>by
    cases x with
    |none=>rfl
    |some y=>simp only[Option.map_some];split<;>rfl
   rcases Xz hk with⟨c,e⟩|e|⟨m,m1,m2,e,b,b'⟩
   ·rw[QR hk hd e,Option.map_eq_some_iff]at h
    obtain⟨qs,hq,rfl⟩:=h
    have e':y9 (a++r) k= -1:=by unfold y9;rw[hg,if_pos c]
    obtain⟨f'',g1,g2⟩:=JP hd hd' f (k+1) f' qs (by omega) (by omega) (by omega) hq
    exact⟨f'',g1,by rw[QR hk' hd' e',g2,hg,mm]⟩
   ·rw[Kz hk hd e]at h;cases h
   ·rw[zcg hk hd e m1 m2,Option.map_eq_some_iff]at h
    obtain⟨qs,hq,rfl⟩:=h
    have hc:¬zy (a.getD k .zero)=⟨#[]⟩:=(zft a k (by omega)).1
    have e':y9 (a++r) k=m:=by
     have hc':¬zy ((a++r).getD k .zero)=⟨#[]⟩:=by rw[hg];exact hc
     unfold y9
     rw[if_neg hc']
     refine ziA (a++r) k m hc' m1 (by omega) ?_ ?_
     ·rw[Y4 a r m (by omega)];exact b'
     ·rw[Y4 a r (m+1) (by omega),b];intro hh;have:=yV a k _ hh;omega
    obtain⟨f'',g1,g2⟩:=JP hd hd' f (m+1) f' qs (by omega) (by omega) (by omega) hq
    refine⟨f'',g1,?_⟩
    rw[zcg hk' hd' e' m1 (by omega),g2,hg,mm,List.take_append_of_le_length (by omega)]
  ·have e:k=a.length:=by omega
   subst e
   rw[WR (Nat.le_refl _)]at h
   cases h
   exact⟨f',h3,by cases wk (a++r) f' a.length<;>rfl⟩
theorem zav(a b:List Tok)(h:opn a a.length= []):Emb b (a++b) (fun i=>a.length+i) a.length where
 mono i j h _:=by omega
 lt i h:=by rw[List.length_append];omega
 ge i _:=by omega
 get i h:=by
  rw[List.getD_eq_getElem?_getD,List.getElem?_append_right (by omega),Nat.add_sub_cancel_left,←List.getD_eq_getElem?_getD]
 neu j h1 h2 hn:=absurd (show a.length+(j - a.length)=j by omega) (hn (j - a.length) (by rw[List.length_append]at h2;omega))
 op:=by rw[Y4 a b _ (Nat.le_refl _)];exact h
 le:=by rw[List.length_append];omega
theorem zoQ{a b:List Tok}(hd:yf b=false)(hd':yf (a++b)=false)(h0:opn a a.length= []):∀(f i f':Nat),i≤b.length→b.length+1≤i+f→(a++b).length+1≤a.length+i+f'→wk (a++b) f' (a.length+i)=wk b f i:=by
 have E:=zav a b h0
 have hlen:(a++b).length=a.length+b.length:=List.length_append
 intro f
 induction f with
 |zero=>intro i f' h1 h2 h3;omega
 |succ f ih=>
  intro i f' h1 h2 h3
  obtain⟨f',rfl⟩:∃g,f'=g+1:=⟨f' - 1,by omega⟩
  by_cases hi:i<b.length
  ·have hk':a.length+i<(a++b).length:=by omega
   have hg:=E.get i hi
   rcases E.end hi with⟨x,y⟩|⟨x,y⟩|⟨m,m1,m2,x,y⟩
   ·rw[QR hi hd x,QR hk' hd' y,hg,Nat.add_assoc,ih (i+1) f' (by omega) (by omega) (by omega)]
   ·rw[Kz hi hd x,Kz hk' hd' y]
   ·have hcut:((a++b).take (a.length+m)).drop (a.length+i+1)=(b.take m).drop (i+1):=by
     rw[List.take_append,List.take_of_length_le (by omega),Nat.add_sub_cancel_left,List.drop_append,List.drop_eq_nil_of_le (by omega),List.nil_append]
     congr 1;omega
    rw[zcg hi hd x m1 m2,zcg hk' hd' y (by omega) (by omega),hg,hcut,Nat.add_assoc,ih (m+1) f' (by omega) (by omega) (by omega)]
  ·rw[WR (by omega),WR (by omega)]
theorem zat{a b:List Tok}(ha:yf a=false)(hb:yf b=false)(h0:opn a a.length= []):yf (a++b)=false:=by
 rw[zau]at ha⊢
 intro j hj
 by_cases h:j≤a.length
 ·rw[Y4 a b j h];exact ha j h
 ·exact(zav a b h0).len hb (by omega) hj
theorem zga{a b:List Tok}(ha:ptB a=true)(hb:yf b=false):ptB (a++b)=ptB b∧(ptB b=true→pl (a++b)=pl a++pl b)∧yf (a++b)=false:=by
 have hda:yf a=false:=by
  cases h:yf a with
  |false=>rfl
  |true=>rw[zbc h]at ha;cases ha
 rw[Wu hda,Option.isSome_iff_exists]at ha
 obtain⟨ps,hps⟩:=ha
 have h0:=WS hda (a.length+1) 0 ps (by omega) (Nat.zero_le _) rfl hps
 have hd:=zat hda hb h0
 obtain⟨f'',g1,g2⟩:=JP hda hd (a.length+1) 0 ((a++b).length+1) ps (by omega) (Nat.zero_le _) (by omega) hps
 have g3:=zoQ hb hd h0 (b.length+1) 0 f'' (Nat.zero_le _) (by omega) (by omega)
 rw[Nat.add_zero]at g3
 rw[Wu hd,Wu hb,zeJ hd,zeJ hb,zeJ hda,hps,g2,g3]
 cases wk b (b.length+1) 0 with
 |none=>exact⟨rfl,fun h=>(by cases h),hd⟩
 |some qs=>exact⟨rfl,fun _=>rfl,hd⟩
theorem zim{t:Tok}(h:t.kind≠3)(h':t.kind≠12):yf [t]=false:=by
 rw[zau]
 intro j hj
 have:=Wr [t] j
 simp at hj
 omega
theorem zoa{t:Tok}{b:List Tok}(h:t.kind≠3)(h':t.kind≠12)(hb:ptB b=true):ptB (t::b)=true∧pl (t::b)=(if t.kind=1 then[]else[⟨t,[]⟩])++pl b∧yf (t::b)=false:=by
 have hdb:yf b=false:=by
  cases h:yf b with
  |false=>rfl
  |true=>rw[zbc h]at hb;cases hb
 have hd:=zim h h'
 have he:y9 [t] 0= -1:=by
  unfold y9
  rw[if_pos]
  exact zcJ (t:=t) h h'
 have hw:wk [t] ([t].length+1) 0=some (if t.kind=1 then[]else[⟨t,[]⟩]):=by
  rw[QR (by simp) hd he,WR (by simp)];rfl
 have h1:ptB [t]=true:=by rw[Wu hd,hw];rfl
 have h2:pl [t]=if t.kind=1 then[]else[⟨t,[]⟩]:=by rw[zeJ hd,hw];rfl
 obtain⟨a1,a2,a3⟩:=zga (a:=[t]) (b:=b) h1 hdb
 exact⟨a1.trans hb,by rw[←h2];exact a2 hb,a3⟩
end Go.Proofs.YtlaopdfpncckeaaGreatDoor
end
