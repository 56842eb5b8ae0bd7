/- Part of the proof of layer-11. No condition. -/
import Derived.Test.YtjcmoedalneldaaGreatJ9
import Derived.Test.YtjcmoedalneldaaGreatCe
import Derived.Test.YtjcmoedalneldaaGreatCd
import Derived.Test.YtjcmoedalneldaaGreatE4
namespace Go.Proofs.YtjcmoedalneldaaGreat
open Go.Sx
set_option linter.unusedSimpArgs false
set_option linter.unusedVariables false
set_option maxHeartbeats 8000000
set_option maxRecDepth 100000
def okK(n:Node)(l:List Smp)(k:Nat):Bool:= !decide (n.type=⟨#[]⟩)&&(l.take k).all (YD n)
theorem zxx(n:Node)(l:List Smp):decide (0≤ixC n l)= !(l.all (YD n)):=by
 unfold ixC
 rcases kU (fun i=> !YD n (l.getD i default)) (l.length - 0) 0 with⟨h1,h2⟩|⟨m,h1,h2,h3,h4,h5⟩
 ·rw[h1]
  have:l.all (YD n)=true:=by
   rw[List.all_eq_true]
   intro x hx
   obtain⟨i,hi,rfl⟩:=List.mem_iff_getElem.1 hx
   have:=h2 i (by omega) (by omega)
   simpa[List.getD_eq_getElem?_getD,hi]using this
  rw[this];rfl
 ·rw[h1]
  have:l.all (YD n)=false:=by
   rw[List.all_eq_false]
   have hm:m<l.length:=by omega
   refine⟨l[m],List.getElem_mem _,?_⟩
   simpa[List.getD_eq_getElem?_getD,hm]using h4
  rw[this];simp
theorem zxK(n:Node)(c:Cmp):okK n c.l c.l.length=QN n c:=by
 unfold okK QN
 rw[List.take_length,zxx,Bool.not_not]
theorem zr2(n:Node)(l:List Smp)(k:Nat)(h:k<l.length):okK n l (k+1)=(okK n l k&&YD n (l.getD k default)):=by
 unfold okK
 rw[zsA l k h,List.all_append,Bool.and_assoc]
 simp
theorem zxP(n:Node)(c:Cmp)(hn:okN n)(hl:c.l.length≤1000000):zg Tryz.prog 112 [.agg n.enc,.agg c.enc] (vb (QN n c)):=by
 refine zg.of (Orc.cons XS (Orc.nil _)) zv9 (by simp[zzz]) fun w0 o0=> ?_
 simp only[zzz,Node.enc,Cmp.enc,go_sem,zc,seval,reduceIte,reduceCtorEq]
 refine zD.lp (α:=Nat) (fun k=>[(2,.ptr 0 0 0 0),(3,.ptr 1 1 0 0),(5,vb (okK n c.l k)),(6,vi k)]) (fun _=>⟨[⟨0,6,[n.enc],false,[]⟩,⟨1,2,[c.enc],false,[]⟩],2⟩)
  (fun k=>k≤c.l.length) (fun k=>c.l.length - k) 0 (Nat.zero_le _) (St.mk (by simp[zu,zk,zt,okK])) fun k hk=> ?_
 by_cases he:k=c.l.length
 ·subst he
  simp only[Node.enc,Cmp.enc,Int.lt_irrefl,zxK,go_sem,zc,seval,reduceIte,reduceCtorEq]
 ·have e1:(k:Int)<(c.l.length:Int):=by omega
  have e0:(0:Int)≤(k:Int):=by omega
  have hlt:k<c.l.length:=by omega
  have hg:=jj c.l k
  have hs:=zr2 n c.l k hlt
  generalize hx:c.l.getD k default=x at*
  cases hok:okK n c.l k with
  |true=>
   rw[hok]at hs
   simp only[Node.enc,Cmp.enc,Smp.enc,e0,e1,hg,hn,yr,Node.eta,JR,Smp.eta,V.boo_c,go_sem,zc,seval,reduceIte,reduceCtorEq]
   exact⟨by omega,k+1,by omega,by omega,by rw[hs];simp,by omega⟩
  |false=>
   rw[hok]at hs
   simp only[Node.enc,Cmp.enc,Smp.enc,e0,e1,hg,hn,yr,Node.eta,JR,Smp.eta,V.boo_c,go_sem,zc,seval,reduceIte,reduceCtorEq]
   exact⟨by omega,k+1,by omega,by omega,by rw[hs];simp,by omega⟩
def KJ:Sum Tryz.prog:=⟨112,fun args=>args= [.agg (Node.enc (zF (args.getD 0 .any))),.agg (Cmp.enc (ZP (args.getD 1 .any)))]∧okN (zF (args.getD 0 .any))∧((ZP (args.getD 1 .any))).l.length≤1000000,fun args=>vb (QN (zF (args.getD 0 .any)) (ZP (args.getD 1 .any))),fun args h=>by
 have:=zxP (zF (args.getD 0 .any)) (ZP (args.getD 1 .any)) h.2.1 h.2.2;rwa [←h.1]at this,true⟩
theorem zoZ:KJ.f=112:=rfl
theorem zoY(args:List V):KJ.D args=(args= [.agg (Node.enc (zF (args.getD 0 .any))),.agg (Cmp.enc (ZP (args.getD 1 .any)))]∧okN (zF (args.getD 0 .any))∧((ZP (args.getD 1 .any))).l.length≤1000000):=rfl
theorem zeQ:KJ.flat=true:=rfl
theorem zo0(args:List V):KJ.r args=vb (QN (zF (args.getD 0 .any)) (ZP (args.getD 1 .any))):=rfl
attribute [go_sem] zoZ zoY zeQ zo0
theorem zdg{l:List Node}(hd:zaT l){p q:Nat→Bool}(h:∀j,j<l.length→p j=q j)(c:Bool):∀(f:Nat)(a:Int),a<l.length→goU l p c f a=goU l q c f a
 |0,_,_=>rfl
 |f+1,a,ha=>by
  unfold goU
  by_cases h0:a<0
  ·rw[if_pos h0,if_pos h0]
  ·have hj:a.toNat<l.length:=by omega
   obtain⟨_,b1,b2⟩:=hd.2 a.toNat hj
   rw[if_neg h0,if_neg h0,h _ hj,zdg hd h c f (par l a.toNat) (by omega)]
def jH(l:List Node)(s:Sel)(i:Nat):List Bool:=(List.range l.length).map (upN l s i)
theorem ZF(l:List Node)(s:Sel)(i:Nat):(jH l s i).length=l.length:=by simp[jH]
theorem zbK(l:List Node)(s:Sel)(i k:Nat)(h:k<l.length):(jH l s i).getD k false=upN l s i k:=by
 simp[jH,List.getD_eq_getElem?_getD,h]
theorem zm4(l:List Node)(s:Sel)(i k:Nat)(h:k<l.length):(jH l s i).take (k+1)=(jH l s i).take k++ [upN l s i k]:=by
 rw[List.take_add_one,←zbK l s i k h,List.getD_eq_getElem?_getD,List.getElem?_eq_getElem (by rw[ZF];exact h)];rfl
theorem zyE{l:List Node}(hd:zaT l)(s:Sel)(i k:Nat)(hk:k<l.length):upN l s (i+1) k=(goU l (fun j=>(jH l s i).getD j false) (decide ((s.getD (i+1) default).link=2)) (k+1) (par l k)&&QN (l.getD k .zero) (s.getD (i+1) default)):=by
 obtain⟨_,b1,b2⟩:=hd.2 k hk
 rw[zdg hd (q:=upN l s i) (fun j hj=>zbK l s i j hj) _ (k+1) (par l k) (by omega),Bool.and_comm]
 rfl
theorem zxS(x c y:Bool):(if x=true then true else if c=true then false else y)=(x||(bif c then false else y)):=by cases x<;>cases c<;>rfl
def zlW:C:=c87.body.tl.tl.hd.tl.inn.inn
def zlU:C:=(zlW).tl.hd.inn.tl.hd.tl.inn.inn
def zlV:C:=(zlU).tl.hd.inn.tl.tl.hd.inn.inn
structure UpS where
 b:Bool
 a:Int
theorem zzk(l:List Node)(hd:zaT l)(s:Sel)(hs:okC s)(i k:Nat)(hi:i<s.length)(hi0:0<i)(hk:k<l.length)(row:List Bool)(hr:row.length=l.length)(w0:World)(o0:Sx.Own)(Q:yy)(e:Nat→V)
  (v7 ver clk:Nat) (es:List (List V))
  (t0:e 0=zo l) (t3:e 3= .ptr 0 0 0 0) (t5:e 5=kv row) (t6:e 6=vi i) (t7:e 7= .ref 1 v7 0 k) (t8:e 8=vi k) (t9:e 9=vb false) (t10:e 10=vi (par l k))
  (hq:∀e':Nat→V,e' 0=zo l→e' 3= .ptr 0 0 0 0→e' 5=kv row→e' 6=vi i→e' 7= .ref 1 v7 0 k→e' 8=vi k→e' 9=vb (goU l (fun j=>row.getD j false) (decide ((s.getD i default).link=2)) (k+1) (par l k))→
    Q (.exit 4) e' ⟨[⟨0,1,[[.slc 2 (s.map Cmp.enc)]],true,[]⟩,⟨ver,1,es,false,[vb false]⟩],clk⟩):
  zD ⟨Tryz.prog,(Orc.cons KJ (Orc.nil _)),74,w0,o0⟩ (.loop zlV) Q e ⟨[⟨0,1,[[.slc 2 (s.map Cmp.enc)]],true,[]⟩,⟨ver,1,es,false,[vb false]⟩],clk⟩:=by
 obtain⟨hn,hp1,hp2⟩:=hd.2 k hk
 have hl:=hd.1
 obtain⟨gg,hgg⟩:∃gg:Nat→Int→Bool,∀f a,goU l (fun j=>row.getD j false) (decide ((s.getD i default).link=2)) f a=gg f a:=⟨_,fun _ _=>rfl⟩
 have hg0:∀f a,a<0→gg f a=false:=fun f a h=>by
  rw[←hgg];cases f with
  |zero=>rfl
  |succ f=>unfold goU;rw[if_pos h]
 have hg1:∀(f j:Nat),gg (f+1) j=(row.getD j false||(if(s.getD i default).link=2 then false else gg f (par l j))):=fun f j=>by
  rw[←hgg,←hgg];conv=>lhs;unfold goU
  rw[if_neg (by omega),Int.toNat_natCast]
  rw[zxS]
  by_cases h2:(s.getD i default).link=2
  ·rw[if_pos h2,decide_eq_true h2];rfl
  ·rw[if_neg h2,decide_eq_false h2];rfl
 simp only[hgg]at hq
 clear hgg
 refine zD.lp (α:=UpS) (fun a=>[(0,zo l),(3,.ptr 0 0 0 0),(5,kv row),(6,vi i),(7,.ref 1 v7 0 k),(8,vi k),(9,vb a.b),(10,vi a.a)])
  (fun _=>⟨[⟨0,1,[[.slc 2 (s.map Cmp.enc)]],true,[]⟩,⟨ver,1,es,false,[vb false]⟩],clk⟩)
  (fun a=> -1≤a.a∧a.a<l.length∧∃f:Nat,a.a<f∧gg (k+1) (par l k)=(a.b||gg f a.a)) (fun a=>(a.a+1).toNat) ⟨false,par l k⟩
  ⟨hp1,by dsimp only;omega,k+1,by dsimp only;omega,by simp⟩ (St.mk ⟨t0,t3,t5,t6,t7,t8,t9,t10,trivial⟩) fun a ha=> ?_
 obtain⟨b,a⟩:=a
 simp only at ha
 obtain⟨a1,a2,f,a3,a4⟩:=ha
 by_cases h0:a<0
 ·have e1:¬(0:Int)≤a:=by omega
  rw[hg0 f a h0,Bool.or_false]at a4
  simp only[zlV,zlU,zlW,c87,C.tl,C.hd,C.inn,zo,kv,e1,go_sem,zc,reduceCtorEq,reduceIte,Nat.reduceEqDiff,Nat.reduceAdd,Nat.reduceSub,Nat.reduceMul,Nat.reduceLT,Nat.reduceLeDiff,Nat.reduceBEq,Int.reduceEq,Int.reduceLT,Int.reduceLE,Int.reduceAdd,Int.reduceSub,Int.reduceNeg,Int.reduceToNat]
  exact hq _ (by simp[zk,zp,zo]) (by simp[zk,zp]) (by simp[zk,zp,kv]) (by simp[zk,zp]) (by simp[zk,zp]) (by simp[zk,zp]) (by simp[zk,zp,a4])
 ·obtain⟨j,rfl⟩:∃j:Nat,a=j:=⟨a.toNat,by omega⟩
  have hj:j<l.length:=by omega
  obtain⟨f,rfl⟩:∃g,f=g+1:=⟨f - 1,by omega⟩
  rw[hg1 f j]at a4
  obtain⟨_,b1,b2⟩:=hd.2 j hj
  have e0:(0:Int)≤(j:Int):=by omega
  have e1:(j:Int)<(l.length:Int):=by omega
  have e2:(j:Int)<(row.length:Int):=by omega
  have e3:(0:Int)<(i:Int):=by omega
  have e4:(i:Int)<(s.length:Int):=by omega
  have e5:(0:Int)≤(i:Int):=by omega
  have hgj:=yv l j [.c (.int .i64 0),.c (.string ⟨#[]⟩),.c (.string ⟨#[]⟩),.c (.slice none 0 0),.c (.slice none 0 0),.c (.string ⟨#[]⟩)] hj
  have hgc:=kJ s i [.c (.int .i64 0),.c (.slice none 0 0)] hi
  have hgr:=za8 row j
  generalize row.getD j false=x at*
  by_cases hc:(s.getD i default).link=2
  ·rw[if_pos hc,Bool.or_false]at a4
   cases b with
   |true=>
    simp only[zlV,zlU,zlW,c87,C.tl,C.hd,C.inn,zo,kv,e0,e1,e2,e3,e4,e5,hgc,hc,Cmp.enc,hgr,go_sem,zc,reduceCtorEq,reduceIte,Nat.reduceEqDiff,Nat.reduceAdd,Nat.reduceSub,Nat.reduceMul,Nat.reduceLT,Nat.reduceLeDiff,Nat.reduceBEq,Int.reduceEq,Int.reduceLT,Int.reduceLE,Int.reduceAdd,Int.reduceSub,Int.reduceNeg,Int.reduceToNat]
    exact hq _ (by simp[zk,zp,zo]) (by simp[zk,zp]) (by simp[zk,zp,kv]) (by simp[zk,zp]) (by simp[zk,zp]) (by simp[zk,zp]) (by rw[a4];simp[zk,zp])
   |false=>
    simp only[zlV,zlU,zlW,c87,C.tl,C.hd,C.inn,zo,kv,e0,e1,e2,e3,e4,e5,hgc,hc,Cmp.enc,hgr,go_sem,zc,reduceCtorEq,reduceIte,Nat.reduceEqDiff,Nat.reduceAdd,Nat.reduceSub,Nat.reduceMul,Nat.reduceLT,Nat.reduceLeDiff,Nat.reduceBEq,Int.reduceEq,Int.reduceLT,Int.reduceLE,Int.reduceAdd,Int.reduceSub,Int.reduceNeg,Int.reduceToNat]
    exact hq _ (by simp[zk,zp,zo]) (by simp[zk,zp]) (by simp[zk,zp,kv]) (by simp[zk,zp]) (by simp[zk,zp]) (by simp[zk,zp]) (by rw[a4];simp[zk,zp])
  ·rw[if_neg hc]at a4
   cases b with
   |true=>
    simp only[zlV,zlU,zlW,c87,C.tl,C.hd,C.inn,zo,kv,e0,e1,e2,e3,e4,e5,hgc,hgj,hc,Cmp.enc,Node.enc,hgr,go_sem,zc,reduceCtorEq,reduceIte,Nat.reduceEqDiff,Nat.reduceAdd,Nat.reduceSub,Nat.reduceMul,Nat.reduceLT,Nat.reduceLeDiff,Nat.reduceBEq,Int.reduceEq,Int.reduceLT,Int.reduceLE,Int.reduceAdd,Int.reduceSub,Int.reduceNeg,Int.reduceToNat]
    exact⟨⟨true,par l j⟩,⟨b1,by dsimp only;omega,f,by dsimp only;omega,by rw[a4];simp⟩,by dsimp only;omega,rfl,rfl⟩
   |false=>
    simp only[zlV,zlU,zlW,c87,C.tl,C.hd,C.inn,zo,kv,e0,e1,e2,e3,e4,e5,hgc,hgj,hc,Cmp.enc,Node.enc,hgr,go_sem,zc,reduceCtorEq,reduceIte,Nat.reduceEqDiff,Nat.reduceAdd,Nat.reduceSub,Nat.reduceMul,Nat.reduceLT,Nat.reduceLeDiff,Nat.reduceBEq,Int.reduceEq,Int.reduceLT,Int.reduceLE,Int.reduceAdd,Int.reduceSub,Int.reduceNeg,Int.reduceToNat]
    exact⟨⟨x,par l j⟩,⟨b1,by dsimp only;omega,f,by dsimp only;omega,by rw[a4];simp⟩,by dsimp only;omega,rfl,rfl⟩
theorem J8(S:Nat→Bool)(h:Heap):∀l:List Bool,zB (zB (res S h 11)) (l.map fun b=>[vb b])=some (l.map fun b=>[vb b])
 | []=>rfl
 |s::l=>by simp only[List.map_cons,zB,J8 S h l];rfl
theorem zzl(l:List Node)(hd:zaT l)(s:Sel)(hs:okC s)(h0:0<s.length):zg Tryz.prog 87 [zo l,.agg (zX s)] (kv (jH l s (s.length - 1))):=by
 refine zg.of (Orc.cons KJ (Orc.nil _)) zAW (by simp[c87]) fun w0 o0=> ?_
 have hl:=hd.1
 have hs1:=hs.1
 simp only[c87,zo,zX,go_sem,zc,reduceCtorEq,reduceIte,Nat.reduceEqDiff,Nat.reduceAdd,Nat.reduceSub,Nat.reduceMul,Nat.reduceLT,Nat.reduceLeDiff,Nat.reduceBEq,Int.reduceEq,Int.reduceLT,Int.reduceLE,Int.reduceAdd,Int.reduceSub,Int.reduceNeg,Int.reduceToNat]
 refine zD.lq (α:=GvS) (fun a=>[(0,.slc 6 (l.map Node.enc)),(3,.ptr 0 0 0 0),(5,if a.n=0 then zA else kv (jH l s (a.n - 1))),(6,vi a.n)])
  (fun a=>⟨[⟨0,1,[[.slc 2 (s.map Cmp.enc)]],true,[]⟩],a.clk⟩) (fun a=>a.n≤s.length) (fun a=>s.length - a.n) ⟨0,0,1⟩ (Nat.zero_le _) (St.freeze (St.cut ?_ ?_ ?_)) fun a ha=> ?_
 ·simp[zu,zk,zt]
 ·simp[Heap.freeze]
 ·rfl
 obtain⟨i,v0,clk⟩:=a
 simp only at ha
 by_cases he:i=s.length
 ·subst he
  have hne:¬List.length s=0:=by omega
  simp only[Int.lt_irrefl,hne,kv,go_sem,zc,reduceCtorEq,reduceIte,Nat.reduceEqDiff,Nat.reduceAdd,Nat.reduceSub,Nat.reduceMul,Nat.reduceLT,Nat.reduceLeDiff,Nat.reduceBEq,Int.reduceEq,Int.reduceLT,Int.reduceLE,Int.reduceAdd,Int.reduceSub,Int.reduceNeg,Int.reduceToNat]
 ·have e1:(i:Int)<(s.length:Int):=by omega
  have e0:(0:Int)≤(i:Int):=by omega
  have hi:i<s.length:=by omega
  have hgc:=kJ s i [.c (.int .i64 0),.c (.slice none 0 0)] hi
  have hcl:=hs.2 i hi
  simp only[e0,e1,go_sem,zc,reduceCtorEq,reduceIte,Nat.reduceEqDiff,Nat.reduceAdd,Nat.reduceSub,Nat.reduceMul,Nat.reduceLT,Nat.reduceLeDiff,Nat.reduceBEq,Int.reduceEq,Int.reduceLT,Int.reduceLE,Int.reduceAdd,Int.reduceSub,Int.reduceNeg,Int.reduceToNat]
  refine zD.lp (α:=GvS) (fun a=>[(0,.slc 6 (l.map Node.enc)),(3,.ptr 0 0 0 0),(5,if i=0 then zA else kv (jH l s (i - 1))),(6,vi i),(7,.ref 1 a.ver 0 a.n),(8,vi a.n)])
   (fun a=>⟨[⟨0,1,[[.slc 2 (s.map Cmp.enc)]],true,[]⟩,⟨a.ver,1,((jH l s i).take a.n).map fun b=>[vb b],false,[vb false]⟩],a.clk⟩) (fun a=>a.n≤l.length) (fun a=>l.length - a.n) ⟨0,clk,clk+1⟩ (Nat.zero_le _)
   (St.nil 7 1 [vb false] (by simp[zk]) (St.cut ?_ ?_ ?_)) fun a ha=> ?_
  ·simp[zu,zk,ev]
  ·simp[Heap.alloc]
  ·rfl
  obtain⟨k,ver,clk2⟩:=a
  simp only at ha
  by_cases hk:k=l.length
  ·subst hk
   have ht:(jH l s i).take l.length=jH l s i:=List.take_of_length_le (by rw[ZF];omega)
   simp only[Int.lt_irrefl,ht,go_sem,zc,reduceCtorEq,reduceIte,Nat.reduceEqDiff,Nat.reduceAdd,Nat.reduceSub,Nat.reduceMul,Nat.reduceLT,Nat.reduceLeDiff,Nat.reduceBEq,Int.reduceEq,Int.reduceLT,Int.reduceLE,Int.reduceAdd,Int.reduceSub,Int.reduceNeg,Int.reduceToNat]
   refine⟨by omega,⟨i+1,v0,clk2⟩,by dsimp only;omega,by dsimp only;omega,St.seal1 5 (x:=kv (jH l s i)) ?_ (St.cut (by simp[zu,zk,zp]) (by simp[Heap.freeze]) rfl)⟩
   have ht2:((jH l s i).map fun b=>[vb b]).take l.length=(jH l s i).map fun b=>[vb b]:=List.take_of_length_le (by simp[ZF])
   simp only[zk,zp,kv]
   simp[zlk,Heap.cur,Heap.blk,ZF,ht2,J8]
  ·have f1:(k:Int)<(l.length:Int):=by omega
   have f0:(0:Int)≤(k:Int):=by omega
   have hkl:k<l.length:=by omega
   have hgn:=yv l k [.c (.int .i64 0),.c (.string ⟨#[]⟩),.c (.string ⟨#[]⟩),.c (.slice none 0 0),.c (.slice none 0 0),.c (.string ⟨#[]⟩)] hkl
   obtain⟨hn,hp1,hp2⟩:=hd.2 k hkl
   have hts0:=hgn
   simp only[f0,f1,hgn,Node.enc,go_sem,zc,reduceCtorEq,reduceIte,Nat.reduceEqDiff,Nat.reduceAdd,Nat.reduceSub,Nat.reduceMul,Nat.reduceLT,Nat.reduceLeDiff,Nat.reduceBEq,Int.reduceEq,Int.reduceLT,Int.reduceLE,Int.reduceAdd,Int.reduceSub,Int.reduceNeg,Int.reduceToNat]
   have hts:=zm4 l s i k hkl
   have htl:((jH l s i).take k).length=k:=by rw[List.length_take,ZF];omega
   have htt:((jH l s i).take k).take k=(jH l s i).take k:=List.take_of_length_le (by omega)
   generalize hx:s.getD i default=c at*
   by_cases hi0:i=0
   ·subst hi0
    have hu:upN l s 0 k=QN (l.getD k .zero) c:=by rw[←hx];rfl
    refine zD.lp (α:=Unit) (fun _=>[(0,.slc 6 (l.map Node.enc)),(3,.ptr 0 0 0 0),(5,zA),(6,vi (0:Nat)),(7,.ref 1 ver 0 k),(8,vi k),(9,vb true),(10,vi (l.getD k .zero).parent)])
     (fun _=>⟨[⟨0,1,[[.slc 2 (s.map Cmp.enc)]],true,[]⟩,⟨ver,1,((jH l s 0).take k).map fun b=>[vb b],false,[vb false]⟩],clk2⟩) (fun _=>True) (fun _=>0) () trivial (St.mk (by simp[zu,zk,zp])) fun _ _=> ?_
    have g0:¬(0:Int)<((0:Nat):Int):=by omega
    have g1:(0:Int)≤((0:Nat):Int):=by omega
    by_cases hp:0≤(l.getD k .zero).parent
    ·simp only[g0,g1,hp,f0,f1,e1,hgn,hgc,hn,hcl,Node.enc,Cmp.enc,yr,Node.eta,ju,Cmp.eta,V.boo_c,htl,htt,jc,Kb,Kc,YM,yU,zZ,evF,V.allK,V.isK,O.still,ZC,Qi,go_sem,zc,reduceCtorEq,reduceIte,Nat.reduceEqDiff,Nat.reduceAdd,Nat.reduceSub,Nat.reduceMul,Nat.reduceLT,Nat.reduceLeDiff,Nat.reduceBEq,Int.reduceEq,Int.reduceLT,Int.reduceLE,Int.reduceAdd,Int.reduceSub,Int.reduceNeg,Int.reduceToNat]
     exact⟨by omega,⟨by omega,by omega,by omega⟩,by omega,⟨k+1,clk2,clk2+1⟩,by dsimp only;omega,by dsimp only;omega,⟨⟨rfl,rfl⟩,by dsimp only;omega⟩,⟨rfl,by dsimp only;rw[hts,hu,List.map_append];rfl⟩,rfl⟩
    ·simp only[g0,g1,hp,f0,f1,e1,hgn,hgc,hn,hcl,Node.enc,Cmp.enc,yr,Node.eta,ju,Cmp.eta,V.boo_c,htl,htt,jc,Kb,Kc,YM,yU,zZ,evF,V.allK,V.isK,O.still,ZC,Qi,go_sem,zc,reduceCtorEq,reduceIte,Nat.reduceEqDiff,Nat.reduceAdd,Nat.reduceSub,Nat.reduceMul,Nat.reduceLT,Nat.reduceLeDiff,Nat.reduceBEq,Int.reduceEq,Int.reduceLT,Int.reduceLE,Int.reduceAdd,Int.reduceSub,Int.reduceNeg,Int.reduceToNat]
     exact⟨by omega,⟨by omega,by omega,by omega⟩,by omega,⟨k+1,clk2,clk2+1⟩,by dsimp only;omega,by dsimp only;omega,⟨⟨rfl,rfl⟩,by dsimp only;omega⟩,⟨rfl,by dsimp only;rw[hts,hu,List.map_append];rfl⟩,rfl⟩
   ·obtain⟨i',rfl⟩:∃m,i=m+1:=⟨i - 1,by omega⟩
    have hu:=zyE hd s i' k hkl
    rw[hx]at hu
    refine zzk l hd s hs (i'+1) k hi (by omega) hkl (jH l s i') (ZF l s i') w0 o0 _ _ ver ver clk2 _ (by simp[zk,zp,zo]) (by simp[zk,zp]) (by simp[zk,zp]) (by simp[zk,zp]) (by simp[zk,zp]) (by simp[zk,zp])
     (by simp[zk,zp];omega) (by simp[zk,zp,par]) fun e' t0 t3 t5 t6 t7 t8 t9=> ?_
    rw[hx]at t9
    generalize goU l (fun j=>(jH l s i').getD j false) (decide (c.link=2)) (k+1) (par l k)=G at*
    cases G with
    |true=>
     simp only[t0,t3,t5,t6,t7,t8,t9,e0,e1,f0,f1,hgn,hgc,hn,hcl,zo,Node.enc,Cmp.enc,yr,Node.eta,ju,Cmp.eta,V.boo_c,htl,htt,jc,Kb,Kc,YM,yU,zZ,evF,V.allK,V.isK,O.still,ZC,Qi,go_sem,zc,reduceCtorEq,reduceIte,Nat.reduceEqDiff,Nat.reduceAdd,Nat.reduceSub,Nat.reduceMul,Nat.reduceLT,Nat.reduceLeDiff,Nat.reduceBEq,Int.reduceEq,Int.reduceLT,Int.reduceLE,Int.reduceAdd,Int.reduceSub,Int.reduceNeg,Int.reduceToNat]
     exact⟨⟨by omega,by omega,by omega⟩,by omega,⟨k+1,clk2,clk2+1⟩,by dsimp only;omega,by dsimp only;omega,⟨rfl,⟨rfl,rfl⟩,by dsimp only;omega⟩,⟨rfl,by dsimp only;rw[hts,hu,List.map_append];rfl⟩,rfl⟩
    |false=>
     simp only[t0,t3,t5,t6,t7,t8,t9,e0,e1,f0,f1,hgn,hgc,hn,hcl,zo,Node.enc,Cmp.enc,yr,Node.eta,ju,Cmp.eta,V.boo_c,htl,htt,jc,Kb,Kc,YM,yU,zZ,evF,V.allK,V.isK,O.still,ZC,Qi,go_sem,zc,reduceCtorEq,reduceIte,Nat.reduceEqDiff,Nat.reduceAdd,Nat.reduceSub,Nat.reduceMul,Nat.reduceLT,Nat.reduceLeDiff,Nat.reduceBEq,Int.reduceEq,Int.reduceLT,Int.reduceLE,Int.reduceAdd,Int.reduceSub,Int.reduceNeg,Int.reduceToNat]
     exact⟨⟨by omega,by omega,by omega⟩,by omega,⟨k+1,clk2,clk2+1⟩,by dsimp only;omega,by dsimp only;omega,⟨rfl,⟨rfl,rfl⟩,by dsimp only;omega⟩,⟨rfl,by dsimp only;rw[hts,hu,List.map_append];rfl⟩,rfl⟩
def QT:Sum Tryz.prog:=⟨87,fun args=>args= [zo (zl (args.getD 0 .any)),.agg (zX (ki (args.getD 1 .any)))]∧zaT (zl (args.getD 0 .any))∧okC (ki (args.getD 1 .any))∧0<((ki (args.getD 1 .any))).length,fun args=>kv (jH (zl (args.getD 0 .any)) (ki (args.getD 1 .any)) (((ki (args.getD 1 .any))).length - 1)),fun args h=>by
 have:=zzl (zl (args.getD 0 .any)) h.2.1 (ki (args.getD 1 .any)) h.2.2.1 h.2.2.2;rwa [←h.1]at this,false⟩
theorem zjz:QT.f=87:=rfl
theorem zjy(args:List V):QT.D args=(args= [zo (zl (args.getD 0 .any)),.agg (zX (ki (args.getD 1 .any)))]∧zaT (zl (args.getD 0 .any))∧okC (ki (args.getD 1 .any))∧0<((ki (args.getD 1 .any))).length):=rfl
theorem zcD:QT.flat=false:=rfl
theorem zjA(args:List V):QT.r args=kv (jH (zl (args.getD 0 .any)) (ki (args.getD 1 .any)) (((ki (args.getD 1 .any))).length - 1)):=rfl
attribute [go_sem] zjz zjy zcD zjA
def zah(l:List Node)(k:Int)(p:W3×Bool)(x:Sel):W3×Bool:=if isM l k x=true then(if p.2=false∨abv (wtS x) p.1=true then(wtS x,true)else p)else p
def Ja(l:List Node)(k:Int)(p:W3×Bool)(s:List Sel):W3×Bool:=s.foldl (zah l k) p
theorem zc2(l:List Node)(k:Int)(p:W3×Bool)(s:List Sel)(n:Nat)(h:n<s.length):Ja l k p (s.drop n)=Ja l k (zah l k p (s.getD n [])) (s.drop (n+1)):=by
 rw[List.drop_eq_getElem_cons h,List.getD_eq_getElem?_getD,List.getElem?_eq_getElem h];rfl
theorem zfK(s:Sel):ki (.agg [.slc 2 (s.map Cmp.enc)])=s:=Wa s
structure BsS where
 n:Nat
 w:W3
 b:Bool
 clk:Nat
theorem zvS(l:List Node)(k:Int)(s:List Sel)(hl:l.length≤1000)(hn:jS l)(hs:okM s):zg Tryz.prog 64 [zo l,vi k,k9 s] (.tup [.agg (Ja l k (⟨0,0,0⟩,false) s).1.enc,vb (Ja l k (⟨0,0,0⟩,false) s).2]):=by
 refine zg.of (Orc.cons zb3 (Orc.cons XW (Orc.cons Ww (Orc.nil _)))) zAC (by simp[c64]) fun w0 o0=> ?_
 obtain⟨hs1,hs2⟩:=hs
 simp only[c64,zo,k9,go_sem,zc,seval,reduceIte,reduceCtorEq]
 refine zD.lp (α:=BsS) (fun a=>[(0,.slc 6 (l.map Node.enc)),(1,vi k),(6,.ptr 0 0 0 0),(8,.ptr 1 1 0 0),(9,vb a.b),(13,.slc 1 (s.map zX)),(14,vi s.length),(15,vi a.n)])
  (fun a=>⟨[⟨0,3,[[vi 0,vi 0,vi 0]],false,[]⟩,⟨1,3,[a.w.enc],false,[]⟩],a.clk⟩)
  (fun a=>a.n≤s.length∧Ja l k (⟨0,0,0⟩,false) s=Ja l k (a.w,a.b) (s.drop a.n)) (fun a=>s.length - a.n) ⟨0,⟨0,0,0⟩,false,2⟩ ⟨Nat.zero_le _,rfl⟩ (St.cut (by simp[zu,zk,zt]) rfl rfl) fun a ha=> ?_
 obtain⟨n,w,b,clk⟩:=a
 simp only at ha
 obtain⟨k1,k2⟩:=ha
 by_cases he:n=s.length
 ·subst he
  rw[List.drop_length]at k2
  have e:Ja l k (⟨0,0,0⟩,false) s=(w,b):=k2
  simp only[W3.enc,Int.lt_irrefl,e,go_sem,zc,seval,reduceIte,reduceCtorEq]
  rfl
 ·have e1:(n:Int)<(s.length:Int):=by omega
  have e0:(0:Int)≤(n:Int):=by omega
  have hlt:n<s.length:=by omega
  have hg:=Kl s n [.c (.slice none 0 0)] hlt
  have ho:=hs2 n hlt
  rw[zc2 l k _ s n hlt]at k2
  generalize hx:s.getD n []=x at*
  cases hi:isM l k x with
  |false=>
   have hp:zah l k (w,b) x=(w,b):=by unfold zah;rw[hi,if_neg (by simp)]
   rw[hp]at k2
   simp only[W3.enc,e0,e1,hg,zX,zo,zr,zaz,hl,hn,ho,hi,go_sem,zc,seval,reduceIte,reduceCtorEq]
   exact⟨by omega,⟨n+1,w,b,clk+1⟩,⟨by dsimp only;omega,k2⟩,by dsimp only;omega,⟨rfl,by dsimp only;omega⟩,⟨rfl,rfl,rfl⟩,rfl⟩
  |true=>
   have hp:zah l k (w,b) x=if b=false∨abv (wtS x) w=true then(wtS x,true)else(w,b):=by unfold zah;rw[hi,if_pos rfl]
   rw[hp]at k2
   generalize hu:wtS x=u at*
   cases b with
   |false=>
    rw[if_pos (.inl rfl)]at k2
    simp only[W3.enc,e0,e1,hg,zX,zo,zr,zaz,hl,hn,ho,hi,hu,Ya,W3.eta,zd,zb,za,go_sem,seval,reduceIte,reduceCtorEq]
    exact⟨by omega,⟨n+1,u,true,clk+2⟩,⟨by dsimp only;omega,k2⟩,by dsimp only;omega,⟨rfl,by dsimp only;omega⟩,⟨rfl,rfl,rfl⟩,rfl⟩
   |true=>
    cases hab:abv u w with
    |true=>
     rw[if_pos (.inr hab)]at k2
     simp only[W3.enc,e0,e1,hg,zX,zo,zr,zaz,hl,hn,ho,hi,hu,hab,Ya,W3.eta,zd,zb,za,go_sem,seval,reduceIte,reduceCtorEq]
     exact⟨by omega,⟨n+1,u,true,clk+2⟩,⟨by dsimp only;omega,k2⟩,by dsimp only;omega,⟨rfl,by dsimp only;omega⟩,⟨rfl,rfl,rfl⟩,rfl⟩
    |false=>
     rw[if_neg (by rw[hab];simp)]at k2
     simp only[W3.enc,e0,e1,hg,zX,zo,zr,zaz,hl,hn,ho,hi,hu,hab,Ya,W3.eta,zd,zb,za,go_sem,seval,reduceIte,reduceCtorEq]
     exact⟨by omega,⟨n+1,w,true,clk+2⟩,⟨by dsimp only;omega,k2⟩,by dsimp only;omega,⟨rfl,by dsimp only;omega⟩,⟨rfl,rfl,rfl⟩,rfl⟩
def Xu:Sum Tryz.prog:=⟨64,fun args=>args= [zo (zl (args.getD 0 .any)),vi ((args.getD 1 .any).int),k9 (ql (args.getD 2 .any))]∧((zl (args.getD 0 .any))).length≤1000∧jS (zl (args.getD 0 .any))∧okM (ql (args.getD 2 .any)),fun args=>.tup [.agg (Ja (zl (args.getD 0 .any)) ((args.getD 1 .any).int) (⟨0,0,0⟩,false) (ql (args.getD 2 .any))).1.enc,vb (Ja (zl (args.getD 0 .any)) ((args.getD 1 .any).int) (⟨0,0,0⟩,false) (ql (args.getD 2 .any))).2],fun args h=>by
 have:=zvS (zl (args.getD 0 .any)) ((args.getD 1 .any).int) (ql (args.getD 2 .any)) h.2.1 h.2.2.1 h.2.2.2;rwa [←h.1]at this,false⟩
theorem znC:Xu.f=64:=rfl
theorem znB(args:List V):Xu.D args=(args= [zo (zl (args.getD 0 .any)),vi ((args.getD 1 .any).int),k9 (ql (args.getD 2 .any))]∧((zl (args.getD 0 .any))).length≤1000∧jS (zl (args.getD 0 .any))∧okM (ql (args.getD 2 .any))):=rfl
theorem zeo:Xu.flat=false:=rfl
theorem znD(args:List V):Xu.r args= .tup [.agg (Ja (zl (args.getD 0 .any)) ((args.getD 1 .any).int) (⟨0,0,0⟩,false) (ql (args.getD 2 .any))).1.enc,vb (Ja (zl (args.getD 0 .any)) ((args.getD 1 .any).int) (⟨0,0,0⟩,false) (ql (args.getD 2 .any))).2]:=rfl
attribute [go_sem] znC znB zeo znD
def zBl(x:Smp):Prop:=x.text.size≤100∧x.val.size≤100
def zBj(c:Cmp):Prop:=c.l.length≤20∧∀i,i<c.l.length→zBl (c.l.getD i default)
def zBk(s:Sel):Prop:=s.length≤70∧∀i,i<s.length→zBj (s.getD i default)
def zzd(l:List Sel):Prop:=l.length≤10∧∀i,i<l.length→zBk (l.getD i [])
instance (x:Smp):Decidable (zBl x):=by unfold zBl;infer_instance
instance (x:Cmp):Decidable (zBj x):=by unfold zBj;infer_instance
instance (x:Sel):Decidable (zBk x):=by unfold zBk;infer_instance
instance (x:List Sel):Decidable (zzd x):=by unfold zzd;infer_instance
def W3.v(w:W3):Value:=.agg #[.int .i64 w.a,.int .i64 w.b,.int .i64 w.c]
deriving instance DecidableEq for Smp
deriving instance DecidableEq for Cmp
structure EqS where
 n:Nat
 clk:Nat
def zG(t:Tok):ByteArray:=
 if t.kind=3∨t.kind=12∧t.text=⟨#[40]⟩then⟨#[41]⟩else if t.kind=12∧t.text=⟨#[91]⟩then⟨#[93]⟩else if t.kind=12∧t.text=⟨#[123]⟩then⟨#[125]⟩else⟨#[]⟩
def skip(ends:List Int)(k:Int):Int:=if k<0∨(ends.length:Int)≤k∨ends.getD k.toNat 0<k then k+1 else min (ends.getD k.toNat 0+1) ends.length
theorem zyb(l:List Int)(k:Int)(hk: -9223372036854775808≤k)(hk':k<9223372036854775807)(hl:l.getD k.toNat 0<9223372036854775807):zg Tryz.prog 104 [zE l,vi k] (vi (skip l k)):=by
 refine zg.of (Orc.nil _) zv1 (by simp[zzu]) fun w0 o0=> ?_
 simp only[zzu,zE,qm,zbH,YW,Option.some.injEq,go_sem,zc,seval,reduceIte,reduceCtorEq]
 unfold skip
 grind
theorem zr9(t:Tok):zg Tryz.prog 123 [.agg t.enc] (vs (zG t)):=by
 refine zg.of (Orc.nil _) zwd (by simp[zzE]) fun w0 o0=> ?_
 simp only[zzE,Tok.enc,zbH,YW,Option.some.injEq,go_sem,zc,seval,reduceIte,reduceCtorEq]
 unfold zG
 grind
theorem zqR(t:Tok):zg Tryz.prog 107 [.agg t.enc] (vs (zG t)):=by
 refine zg.of (Orc.nil _) zv4 (by simp[zzw]) fun w0 o0=> ?_
 simp only[zzw,Tok.enc,zbH,YW,Option.some.injEq,go_sem,zc,seval,reduceIte,reduceCtorEq]
 unfold zG
 grind
theorem zjd(l:List Int)(k:Int)(hk: -9223372036854775808≤k)(hk':k<9223372036854775807)(hl:l.getD k.toNat 0<9223372036854775807):zg Tryz.prog 95 [zE l,vi k] (vi (skip l k)):=by
 refine zg.of (Orc.nil _) zAZ (by simp[c95]) fun w0 o0=> ?_
 simp only[c95,zE,qm,zbH,YW,Option.some.injEq,go_sem,zc,seval,reduceIte,reduceCtorEq]
 unfold skip
 grind
theorem zpS(n a b:Int):zg Tryz.prog 124 [vi n,vi a,vi b] (vb (decide (0≤a∧a≤b∧b≤n))):=by
 refine zg.of (Orc.nil _) zwe (by simp[zzF]) fun w0 o0=> ?_
 simp only[zzF,zE,qm,zbH,YW,Option.some.injEq,go_sem,zc,seval,reduceIte,reduceCtorEq]
 grind
theorem zmv(t:Tok)(k:Int):zg Tryz.prog 125 [.agg t.enc,.pp [vi k]] (vb (decide (t.kind=k))):=by
 refine zg.of (Orc.nil _) zwf (by simp[zzG]) fun w0 o0=> ?_
 simp only[zzG,Tok.enc,zbH,YW,Option.some.injEq,go_sem,zc,seval,reduceIte,reduceCtorEq]
def few(l:List Tok):Bool:=decide (l.length≤100∧∀i,i<l.length→(l.getD i .zero).text.size≤100)
theorem zBm(l:List Tok):zg Tryz.prog 61 [zj l] (vb (few l)):=by
 refine zg.of (Orc.nil _) zAA (by simp[c61]) fun w0 o0=> ?_
 simp only[c61,zj,go_sem,zc,seval,reduceIte,reduceCtorEq]
 refine zD.lp (α:=Nat) (fun k=>[(0,.slc 3 (l.map Tok.enc)),(3,vi k)]) (fun _=>⟨[],0⟩) (fun k=>k≤l.length∧k≤101∧∀i,i<k→(l.getD i .zero).text.size≤100) (fun k=>l.length - k) 0 (by simp) (St.mk (by simp[zu,zk,zt])) fun k hk=> ?_
 simp only[Tok.enc,go_sem,zc,seval,reduceIte,reduceCtorEq]
 refine⟨fun h=>⟨by grind,fun h2=> ?_,fun h2=>⟨by grind,k+1,by grind⟩⟩,fun h=> ?_⟩
 ·have h5:¬ ∀i,i<l.length→(l.getD i .zero).text.size≤100:=fun hh=>by have:=hh k (by grind);omega
  simp only[few,h5,and_false,decide_false]
 ·unfold few
  grind
def YE(l:List Tok)(st:List Int)(k:Nat):List Int:=
 if ¬zG (l.getD k .zero)=⟨#[]⟩then st++ [(k:Int)]
 else if(l.getD k .zero).kind=13∧0<st.length∧zG (l.getD (st.getD (st.length - 1) 0).toNat .zero)=(l.getD k .zero).text then st.take (st.length - 1)else st
def opn(l:List Tok):Nat→List Int
 |0=>[]
 |k+1=>YE l (opn l k) k
theorem Y3(l:List Tok):∀k,∀x∈opn l k,0≤x∧x<k
 |0,x,hx=>by simp[opn]at hx
 |k+1,x,hx=>by
  have ih:=Y3 l k x
  simp only[opn,YE]at hx
  split at hx
  ·simp only[List.mem_append,List.mem_singleton]at hx;grind
  ·split at hx
   ·have:=ih (List.mem_of_mem_take hx);omega
   ·have:=ih hx;omega
theorem zaE(l:List Tok):∀k,(opn l k).length≤k
 |0=>Nat.le_refl _
 |k+1=>by
  have ih:=zaE l k
  simp only[opn,YE]
  split
  ·simp;omega
  ·split
   ·simp;omega
   ·omega
def ZH:Sum Tryz.prog:=⟨107,fun args=>args= [.agg (ZQ (args.getD 0 .any)).enc],fun args=>vs (zG (ZQ (args.getD 0 .any))),fun args h=>by
 have:=zqR (ZQ (args.getD 0 .any));rwa [←h]at this,true⟩
structure OpS where
 k:Nat
 es:List Int
 ver:Nat
 clk:Nat
theorem zxR(l:List Tok)(n:Nat)(hn:n≤l.length)(hl:l.length≤1000000):zg Tryz.prog 106 [zj l,vi n] (zE (opn l n)):=by
 refine zg.of (Orc.cons ZH (Orc.nil _)) zv3 (by simp[zzv]) fun w0 o0=> ?_
 simp only[zzv,zE,zj,go_sem,zc,seval,reduceIte,reduceCtorEq]
 refine zD.lp (α:=OpS) (fun a=>[(0,.slc 3 (l.map Tok.enc)),(1,vi n),(5,.ref 0 a.ver 0 (opn l a.k).length),(6,vi a.k)])
  (fun a=>⟨[⟨a.ver,1,a.es.map fun n=>[vi n],false,[vi 0]⟩],a.clk⟩) (fun a=>a.k≤n∧a.es.take (opn l a.k).length=opn l a.k∧(opn l a.k).length≤a.es.length) (fun a=>n - a.k) ⟨0,[],0,1⟩
  (by simp[opn]) (St.nil 5 1 [vi 0] (by simp[zk]) (St.mk (by simp[zu,zk,zt,opn]))) fun a ha=> ?_
 obtain⟨k,es,ver,clk⟩:=a
 simp only[Tok.enc,ZH,go_sem,zc,seval,reduceIte,reduceCtorEq]
 simp only at ha
 obtain⟨h1,h2,h3⟩:=ha
 have hm:=Y3 l k
 have hlen:=zaE l k
 have hnext:opn l (k+1)=YE l (opn l k) k:=rfl
 have hN:((((opn l k).length:Nat):Int) - 1).toNat=(opn l k).length - 1:=by omega
 rw[hN]
 unfold YE at hnext
 generalize hst:opn l k=st at*
 have hget:0<st.length→es.getD (st.length - 1) 0=st.getD (st.length - 1) 0:=fun h=>by
  have e1:st.getD (st.length - 1) 0=(es.take st.length).getD (st.length - 1) 0:=by rw[h2]
  rw[e1,List.getD_eq_getElem?_getD,List.getD_eq_getElem?_getD,List.getElem?_take,if_pos (by omega)]
 have hlast:0<st.length→0≤es.getD (st.length - 1) 0∧es.getD (st.length - 1) 0<k:=fun h=>by
  rw[hget h,List.getD_eq_getElem?_getD,List.getElem?_eq_getElem (by omega)]
  exact hm _ (List.getElem_mem _)
 refine⟨fun hk=>⟨by omega,fun hc=>⟨by omega,by omega,⟨k+1,es.take st.length++ [(k:Int)],clk+1,clk+1+1⟩,?_⟩,fun hc=>⟨by omega,by omega,by omega,by omega,by grind,by omega,fun hp=>⟨by omega,by omega,by omega,⟨k+1,es,ver,clk⟩,?_⟩,fun hp=>⟨by omega,⟨k+1,es,ver,clk⟩,?_⟩⟩⟩,fun hk=> ?_⟩
 ·have e:opn l (k+1)=st++ [(k:Int)]:=by rw[hnext,if_pos hc]
  have e2:List.take (st.length+1) (st++ [(k:Int)])=st++ [(k:Int)]:=List.take_of_length_le (by simp)
  simp only[e,h2]
  simp[e2]
  omega
 ·have e:opn l (k+1)=st.take (st.length - 1):=by
   rw[hnext,if_neg (by simpa using hc),if_pos]
   have h0:0<st.length:=by have:=hp.1.2;omega
   exact⟨hp.1.1,h0,by rw[←hget h0];exact hp.2⟩
  simp only[e]
  have:List.take (st.length - 1) es=List.take (st.length - 1) st:=by
   have e3:(es.take st.length).take (st.length - 1)=es.take (st.length - 1):=by rw[List.take_take];congr 1;omega
   rw[←e3,h2]
  simp[this]
  omega
 ·have e:opn l (k+1)=st:=by
   rw[hnext,if_neg (by simpa using hc),if_neg]
   rintro⟨q1,q2,q3⟩
   rcases hp with(hp|hp)|hp
   ·exact hp q1
   ·omega
   ·rw[hget q2]at hp;exact hp q3
  simp only[e]
  simp[h2,h3]
  omega
 ·have:n=k:=by omega
  subst this
  rw[if_pos h3,h2,hst]
def jA(l:List Tok)(k j:Nat):Prop:=(opn l (j+1)).length<(opn l (k+1)).length∨¬(opn l (j+1)).getD ((opn l (k+1)).length - 1) 0=k
instance (l:List Tok) (k j:Nat):Decidable (jA l k j):=by unfold jA;infer_instance
def fe(l:List Tok)(k:Nat):Nat→Nat→Int
 |0,_=>l.length
 |f+1,j=>if jA l k j then j else fe l k f (j+1)
def Qq(l:List Tok)(k:Nat):Int:=if zG (l.getD k .zero)=⟨#[]⟩then -1 else fe l k (l.length - (k+1)) (k+1)
def jO(l:List Tok)(m:Nat):List Int:=(List.range m).map (Qq l)
theorem WX(l:List Tok)(m:Nat):jO l (m+1)=jO l m++ [Qq l m]:=by simp[jO,List.range_succ]
theorem yu(l:List Tok)(m:Nat):(jO l m).length=m:=by simp[jO]
def yq(l:List Tok):Bool:=decide (∃i,i<l.length∧64<(opn l (i+1)).length)
def za1(l:List Tok):V:=bif yq l then .tup [zA,vi 3]else .tup [zE (jO l l.length),vi 0]
def XM:Sum Tryz.prog:=⟨106,fun args=>args= [zj (zh (args.getD 0 .any)),vi (args.getD 1 .any).int]∧0≤(args.getD 1 .any).int∧(args.getD 1 .any).int≤(zh (args.getD 0 .any)).length∧(zh (args.getD 0 .any)).length≤1000000,
 fun args=>zE (opn (zh (args.getD 0 .any)) (args.getD 1 .any).int.toNat),fun args ⟨h,h0,h1,h2⟩=>by
  have:=zxR (zh (args.getD 0 .any)) (args.getD 1 .any).int.toNat (by omega) h2
  rw[Int.toNat_of_nonneg h0,←h]at this;exact this,false⟩
theorem zdz:XM.f=106:=rfl
theorem zdy(args:List V):XM.D args=(args= [zj (zh (args.getD 0 .any)),vi (args.getD 1 .any).int]∧0≤(args.getD 1 .any).int∧(args.getD 1 .any).int≤(zh (args.getD 0 .any)).length∧(zh (args.getD 0 .any)).length≤1000000):=rfl
theorem XN:XM.flat=false:=rfl
theorem zdA(args:List V):XM.r args=zE (opn (zh (args.getD 0 .any)) (args.getD 1 .any).int.toNat):=rfl
theorem zbY:ZH.f=107:=rfl
theorem zbX(args:List V):ZH.D args=(args= [.agg (ZQ (args.getD 0 .any)).enc]):=rfl
theorem K1:ZH.flat=true:=rfl
theorem zbZ(args:List V):ZH.r args=vs (zG (ZQ (args.getD 0 .any))):=rfl
theorem J0(l:List Tok)(k j:Nat)(h:j<l.length):fe l k (l.length - j) j=if jA l k j then(j:Int)else fe l k (l.length - (j+1)) (j+1):=by
 have:l.length - j=(l.length - (j+1))+1:=by omega
 rw[this]
 rfl
theorem Jz(k:Nat):((k:Int)+1).toNat=k+1:=by omega
structure KVC where
 k:Nat
 ver:Nat
 clk:Nat
theorem zjc(l:List Tok)(hl:l.length≤1000000):zg Tryz.prog 81 [zj l] (za1 l):=by
 refine zg.of (Orc.cons XM (Orc.cons ZH (Orc.nil _))) zAR (by simp[c81]) fun w0 o0=> ?_
 simp only[c81,zE,zj,go_sem,zc,seval,reduceIte,reduceCtorEq]
 refine zD.lp (α:=KVC) (fun a=>[(0,.slc 3 (l.map Tok.enc)),(4,.ref 0 a.ver 0 a.k),(5,vi a.k)])
  (fun a=>⟨[⟨a.ver,1,(jO l a.k).map fun n=>[vi n],false,[vi 0]⟩],a.clk⟩) (fun a=>a.k≤l.length∧∀i,i<a.k→(opn l (i+1)).length≤64) (fun a=>l.length - a.k) ⟨0,0,1⟩
  (by simp) (St.nil 4 1 [vi 0] (by simp[zk]) (St.mk (by simp[zu,zk,zt]))) fun a ha=> ?_
 obtain⟨k,ver,clk⟩:=a
 simp only[Tok.enc,zbY,zbX,K1,zbZ,zdz,zdy,XN,zdA,zj,zE,Jz,go_sem,zc,seval,reduceIte,reduceCtorEq]
 simp only at ha
 refine⟨fun hk=>⟨by omega,by omega,fun h64=> ?_,fun h64=>⟨by omega,fun hc=>⟨by omega,?_⟩,fun hc=> ?_⟩⟩,fun hk=> ?_⟩
 ·have:yq l=true:=by simp only[yq,decide_eq_true_eq];exact⟨k,by omega,by omega⟩
  simp only[za1,this];rfl
 ·refine zD.lp (α:=Nat) (fun j=>[(0,.slc 3 (l.map Tok.enc)),(4,.ref 0 ver 0 k),(5,vi k),(6,.slc 1 ((opn l (k+1)).map fun n=>[vi n])),(7,vi (fe l k (l.length - (j+1)) (j+1))),(8,vi j)])
   (fun _=>⟨[⟨ver,1,(jO l k).map fun n=>[vi n],false,[vi 0]⟩],clk⟩) (fun j=>k≤j∧j<l.length) (fun j=>j) (l.length - 1) (by omega) (St.mk ?_) fun j hj=> ?_
  ·simp only[go_sem,zc,seval,reduceIte,reduceCtorEq]
   have:l.length - (l.length - 1+1)=0:=by omega
   rw[this]
   exact⟨rfl,by omega⟩
  ·simp only[Tok.enc,zbY,zbX,K1,zbZ,zdz,zdy,XN,zdA,zj,zE,Jz,go_sem,zc,seval,reduceIte,reduceCtorEq]
   have hpos:0<(opn l (k+1)).length:=by
    have:opn l (k+1)=opn l k++ [(k:Int)]:=by show YE l (opn l k) k=_;unfold YE;rw[if_pos hc]
    rw[this];simp
   have hN:((((opn l (k+1)).length:Nat):Int) - 1).toNat=(opn l (k+1)).length - 1:=by omega
   rw[hN]
   refine⟨fun hkj=>⟨by omega,by omega,by omega,by omega,by omega,fun hC=>⟨by omega,j - 1,by omega,by omega,?_,by omega⟩,fun hC=>⟨by omega,j - 1,by omega,by omega,?_,by omega⟩⟩,fun hkj=>⟨?_,by omega,⟨k+1,clk+1,clk+1+1⟩,⟨by dsimp only;omega,fun i hi=> ?_⟩,by dsimp only;omega,⟨⟨rfl,rfl⟩,by dsimp only;omega⟩,⟨rfl,?_⟩,rfl⟩⟩
   ·have e:j - 1+1=j:=by omega
    rw[e,J0 l k j hj.2,if_pos]
    unfold jA
    rcases hC with hC|hC
    ·left;omega
    ·right;exact hC
   ·have e:j - 1+1=j:=by omega
    rw[e,J0 l k j hj.2,if_neg]
    unfold jA
    rintro(h|h)
    ·omega
    ·exact h hC.2
   ·have:=yu l k;omega
   ·by_cases h:i<k
    ·exact ha.2 i h
    ·have:i=k:=by have:i<k+1:=hi;omega
     subst this;omega
   ·have e:j=k:=by omega
    subst e
    rw[List.take_of_length_le (by rw[yu];exact Nat.le_refl _)]
    simp only[WX,Qq,if_neg hc,List.map_append,List.map_cons,List.map_nil]
 ·refine⟨?_,by omega,⟨k+1,clk+1,clk+1+1⟩,⟨by dsimp only;omega,fun i hi=> ?_⟩,by dsimp only;omega,⟨⟨rfl,rfl⟩,by dsimp only;omega⟩,⟨rfl,?_⟩,rfl⟩
  ·have:=yu l k;omega
  ·by_cases h:i<k
   ·exact ha.2 i h
   ·have:i=k:=by have:i<k+1:=hi;omega
    subst this;omega
  ·rw[List.take_of_length_le (by rw[yu];exact Nat.le_refl _)]
   simp only[WX,Qq,if_pos hc,List.map_append,List.map_cons,List.map_nil]
 ·have e:k=l.length:=by omega
  subst e
  have hd:yq l=false:=by
   simp only[yq,decide_eq_false_iff_not]
   rintro⟨i,h1,h2⟩
   have:=ha.2 i h1
   omega
  rw[yu,if_pos (Nat.le_refl _),List.take_of_length_le (by rw[yu];exact Nat.le_refl _)]
  simp only[za1,hd,Option.map_some]
  rfl
def Xf(l:List Tok)(st:List Int)(k:Nat):Prop:=zG (l.getD k .zero)=⟨#[]⟩∧(l.getD k .zero).kind=13∧0<st.length∧zG (l.getD (st.getD (st.length - 1) 0).toNat .zero)=(l.getD k .zero).text
instance (l:List Tok) (st:List Int) (k:Nat):Decidable (Xf l st k):=by unfold Xf;infer_instance
def YB(l:List Tok):Nat→List Int
 |0=>List.replicate l.length 0
 |m+1=>if Xf l (opn l m) m then((YB l m).set m (-1)).set ((opn l m).getD ((opn l m).length - 1) 0).toNat m else(YB l m).set m (-1)
def zal(l:List Tok)(i:Nat):List Int:=((opn l l.length).take i).foldl (fun o x=>o.set x.toNat l.length) (YB l l.length)
def zgi(l:List Tok):V:=bif yq l then .tup [zA,vi 3]else .tup [zE (zal l (opn l l.length).length),vi 0]
def Q1:Sum Tryz.prog:=⟨123,fun args=>args= [.agg (ZQ (args.getD 0 .any)).enc],fun args=>vs (zG (ZQ (args.getD 0 .any))),fun args h=>by
 have:=zr9 (ZQ (args.getD 0 .any));rwa [←h]at this,true⟩
theorem zj1:Q1.f=123:=rfl
theorem zj0(args:List V):Q1.D args=(args= [.agg (ZQ (args.getD 0 .any)).enc]):=rfl
theorem zcL:Q1.flat=true:=rfl
theorem zj2(args:List V):Q1.r args=vs (zG (ZQ (args.getD 0 .any))):=rfl
structure EnS where
 m:Nat
 es:List Int
 vo:Nat
 ve:Nat
 clk:Nat
theorem QM(l:List Tok):∀m,(YB l m).length=l.length
 |0=>by simp[YB]
 |m+1=>by
  have:=QM l m
  simp only[YB]
  split<;>simp[this]
theorem zdK{t:Tok}(h:¬zG t=⟨#[]⟩):¬t.kind=13:=by
 intro hk
 apply h
 simp[zG,hk]
theorem QR(l:List Int)(i:Nat)(v:Int):(l.map fun n=>[vi n]).set i [V.c (Value.int IntKind.i64 v)]=(l.set i v).map fun n=>[vi n]:=by
 rw[List.map_set]
theorem zgk(l:List Tok)(hl:l.length≤1000000):zg Tryz.prog 97 [zj l] (zgi l):=by
 refine zg.of (Orc.cons Q1 (Orc.nil _)) zA1 (by simp[c97]) fun w0 o0=> ?_
 simp only[c97,zE,zj,go_sem,zc,seval,reduceIte,reduceCtorEq]
 refine zD.lab (α:=EnS) 0 (fun a=>[(0,.slc 3 (l.map Tok.enc)),(4,.ref 0 a.vo 0 l.length),(5,.ref 1 a.ve 0 (opn l a.m).length),(6,vi a.m)])
  (fun a=>⟨[⟨a.vo,1,(YB l a.m).map fun n=>[vi n],false,[vi 0]⟩,⟨a.ve,1,a.es.map fun n=>[vi n],false,[vi 0]⟩],a.clk⟩)
  (fun a=>a.m≤l.length∧a.es.take (opn l a.m).length=opn l a.m∧(opn l a.m).length≤a.es.length∧∀i,i<a.m→(opn l (i+1)).length≤64) (fun a=>l.length - a.m) rfl ?_ fun a ha=> ?_
 ·simp only[go_sem,zc,seval,reduceIte,reduceCtorEq]
  refine⟨⟨by omega,by omega,by first|omega|(simp;omega)⟩,⟨0,[],0,1,2⟩,by simp[opn],St.nil 5 1 [vi 0] (by simp[zk]) (St.cut ?_ ?_ ?_)⟩
  ·simp[zu,zk,zt,opn]
  ·simp[Heap.alloc,YB]
  ·simp[Heap.alloc]
 ·obtain⟨m,es,vo,ve,clk⟩:=a
  simp only[Tok.enc,zj1,zj0,zcL,zj2,zj,zE,Jz,go_sem,zc,seval,reduceIte,reduceCtorEq]
  simp only at ha
  obtain⟨h1,h2,h3,h4⟩:=ha
  have hol:=QM l m
  have hm:=Y3 l m
  have hlen:=zaE l m
  have hnext:opn l (m+1)=YE l (opn l m) m:=rfl
  have hN:((((opn l m).length:Nat):Int) - 1).toNat=(opn l m).length - 1:=by omega
  unfold YE at hnext
  refine⟨fun h=> ?_,fun h=>⟨by omega,by omega,by omega,fun hc=> ?_,fun hc=> ?_⟩⟩
  ·have e:m=l.length:=by omega
   subst e
   refine zD.lp (α:=Nat) (fun i=>[(0,.slc 3 (l.map Tok.enc)),(4,.ref 0 vo 0 l.length),(18,.ref 1 ve 0 (opn l l.length).length),(19,vi (opn l l.length).length),(20,vi i)])
    (fun i=>⟨[⟨vo,1,(zal l i).map fun n=>[vi n],false,[vi 0]⟩,⟨ve,1,es.map fun n=>[vi n],false,[vi 0]⟩],clk⟩)
    (fun i=>i≤(opn l l.length).length) (fun i=>(opn l l.length).length - i) 0 (by simp) (St.cut ?_ ?_ ?_) fun i hi=> ?_
   ·simp only[go_sem,zc,seval,reduceIte,reduceCtorEq]
   ·simp[zal]
   ·rfl
   ·simp only[go_sem,zc,seval,reduceIte,reduceCtorEq]
    have hfl:∀i,(zal l i).length=l.length:=by
     intro i
     have key:∀(t:List Int)(o:List Int),(t.foldl (fun o x=>o.set x.toNat l.length) o).length=o.length:=by
      intro t
      induction t with
      |nil=>intro o;rfl
      |cons x t ih=>intro o;simp only[List.foldl_cons];rw[ih];simp
     simp only[zal]
     rw[key,hol]
    have hget:∀i,i<(opn l l.length).length→es.getD i 0=(opn l l.length).getD i 0:=fun i h=>by
     generalize opn l l.length=st at*
     have e1:st.getD i 0=(es.take st.length).getD i 0:=by rw[h2]
     rw[e1,List.getD_eq_getElem?_getD,List.getD_eq_getElem?_getD,List.getElem?_take,if_pos (by omega)]
    have hin:∀i,i<(opn l l.length).length→0≤es.getD i 0∧es.getD i 0<l.length:=fun i h=>by
     rw[hget i h,List.getD_eq_getElem?_getD,List.getElem?_eq_getElem h]
     exact hm _ (List.getElem_mem _)
    refine⟨fun hlt=> ?_,fun hge=> ?_⟩
    ·have hi':i<(opn l l.length).length:=by omega
     have:=hin i hi'
     refine⟨by omega,by omega,this,by rw[hfl];omega,by omega,i+1,by omega,by omega,by omega,?_⟩
     rw[QR]
     congr 1
     simp only[zal]
     rw[List.take_add_one,List.foldl_append,List.getElem?_eq_getElem hi',hget i hi',List.getD_eq_getElem?_getD,List.getElem?_eq_getElem hi']
     rfl
    ·have e:i=(opn l l.length).length:=by omega
     subst e
     have hd:yq l=false:=by
      simp only[yq,decide_eq_false_iff_not]
      rintro⟨i,h1,h2⟩
      have:=h4 i h1
      omega
     rw[hfl,if_pos (Nat.le_refl _),List.take_of_length_le (by rw[hfl];exact Nat.le_refl _)]
     simp only[zgi,hd,Option.map_some]
     rfl
  ·have hk:=zdK hc
   simp only[hk,false_and,and_false,false_implies,true_and,not_false_eq_true,or_true,true_or,forall_const]
   rw[if_pos hc]at hnext
   have hnp:¬Xf l (opn l m) m:=fun hp=>hc hp.1
   have hno:YB l (m+1)=(YB l m).set m (-1):=by simp only[YB,if_neg hnp]
   refine⟨by omega,fun h64=> ?_,fun h64=>⟨by omega,⟨m+1,es.take (opn l m).length++ [(m:Int)],vo,clk+1+1,clk+1+1+1⟩,?_⟩⟩
   ·have:yq l=true:=by
     simp only[yq,decide_eq_true_eq]
     exact⟨m,by omega,by rw[hnext];simp;omega⟩
    simp only[zgi,this];rfl
   ·simp only[hnext,hno,QR,h2,List.map_append,List.map_cons,List.map_nil,List.length_append,List.length_cons,List.length_nil]
    refine⟨⟨by omega,List.take_of_length_le (by simp),by omega,fun i hi=> ?_⟩,by omega,⟨trivial,⟨trivial,by first|trivial|omega⟩,by first|trivial|omega⟩,by simp⟩
    by_cases e:i<m
    ·exact h4 i e
    ·have:i=m:=by omega
     subst this
     rw[hnext];simp;omega
  ·rw[hN]
   rw[if_neg (by simpa using hc)]at hnext
   have h0:(opn l m).length≤64:=by
    by_cases e:m=0
    ·subst e;simp[opn]
    ·have:=h4 (m - 1) (by omega)
     rwa [show m - 1+1=m by omega]at this
   have hget:0<(opn l m).length→es.getD ((opn l m).length - 1) 0=(opn l m).getD ((opn l m).length - 1) 0:=fun h=>by
    generalize opn l m=st at*
    have e1:st.getD (st.length - 1) 0=(es.take st.length).getD (st.length - 1) 0:=by rw[h2]
    rw[e1,List.getD_eq_getElem?_getD,List.getD_eq_getElem?_getD,List.getElem?_take,if_pos (by omega)]
   have hlast:0<(opn l m).length→0≤es.getD ((opn l m).length - 1) 0∧es.getD ((opn l m).length - 1) 0<m:=fun h=>by
    rw[hget h,List.getD_eq_getElem?_getD,List.getElem?_eq_getElem (by omega)]
    exact hm _ (List.getElem_mem _)
   refine⟨by omega,by omega,by omega,by grind,fun hp=> ?_,fun hp=>⟨by omega,⟨m+1,es,vo,ve,clk+1⟩,?_⟩⟩
   ·have hp0:0<(opn l m).length:=by have:=hp.1.2;omega
    have hpp:Xf l (opn l m) m:=⟨hc,hp.1.1,hp0,by rw[←hget hp0];exact hp.2⟩
    have hno:YB l (m+1)=((YB l m).set m (-1)).set (es.getD ((opn l m).length - 1) 0).toNat m:=by simp only[YB,if_pos hpp,hget hp0]
    rw[if_pos ⟨hpp.2.1,hpp.2.2.1,hpp.2.2.2⟩]at hnext
    refine⟨by omega,by omega,by omega,by have:=hlast hp0;omega,?_,by omega,by omega,by omega,⟨m+1,es,vo,ve,clk+1⟩,?_⟩
    ·simp only[QR,decide_eq_true_eq,List.length_map,List.length_set,hol];have:=hlast hp0;omega
    ·have e4:List.take ((opn l m).length - 1) es=List.take ((opn l m).length - 1) (opn l m):=by
      generalize opn l m=st at*
      have e3:(es.take st.length).take (st.length - 1)=es.take (st.length - 1):=by rw[List.take_take];congr 1;omega
      rw[←e3,h2]
     have e5:(List.take ((opn l m).length - 1) (opn l m)).length=(opn l m).length - 1:=by simp
     simp only[hnext,hno,QR,qm,List.drop_succ_cons,List.drop_nil,List.drop_zero,e5,e4]
     refine⟨⟨by omega,trivial,by omega,fun i hi=> ?_⟩,by omega,⟨trivial,⟨trivial,by omega⟩,by omega⟩,by simp⟩
     by_cases e:i<m
     ·exact h4 i e
     ·have:i=m:=by omega
      subst this
      rw[hnext,e5];omega
   ·have hnp:¬Xf l (opn l m) m:=by
     rintro⟨_,q1,q2,q3⟩
     rcases hp with(hp|hp)|hp
     ·exact hp q1
     ·omega
     ·rw[hget q2]at hp;exact hp q3
    have hno:YB l (m+1)=(YB l m).set m (-1):=by simp only[YB,if_neg hnp]
    rw[if_neg (fun hh=>hnp ⟨hc,hh⟩)]at hnext
    simp only[hnext,hno,QR]
    refine⟨⟨by omega,h2,h3,fun i hi=> ?_⟩,by omega,⟨trivial,⟨trivial,trivial⟩,by omega⟩,by simp⟩
    by_cases e:i<m
    ·exact h4 i e
    ·have:i=m:=by omega
     subst this
     rw[hnext];omega
theorem zby(l:List Tok)(m:Nat):opn l (m+1)=YE l (opn l m) m:=rfl
theorem ke{l:List Tok}{m:Nat}(h:¬zG (l.getD m .zero)=⟨#[]⟩):opn l (m+1)=opn l m++ [(m:Int)]:=by rw[zby,YE,if_pos h]
theorem Ku{l:List Tok}{m:Nat}(h:Xf l (opn l m) m):opn l (m+1)=(opn l m).take ((opn l m).length - 1):=by
 rw[zby,YE,if_neg (by simpa using h.1),if_pos h.2]
theorem ZE{l:List Tok}{m:Nat}(h:zG (l.getD m .zero)=⟨#[]⟩)(hp:¬Xf l (opn l m) m):opn l (m+1)=opn l m:=by
 rw[zby,YE,if_neg (by simpa using h),if_neg (fun hh=>hp ⟨h,hh⟩)]
theorem zsa{l:List Tok}{k m:Nat}(hk:k<m)(h:¬(k:Int)∈opn l m):¬(k:Int)∈opn l (m+1):=by
 by_cases hc:zG (l.getD m .zero)=⟨#[]⟩
 ·by_cases hp:Xf l (opn l m) m
  ·rw[Ku hp];exact fun hh=>h (List.mem_of_mem_take hh)
  ·rw[ZE hc hp];exact h
 ·rw[ke hc];simp only[List.mem_append,List.mem_singleton,not_or];exact⟨h,by omega⟩
theorem zgo{l:List Tok}{k:Nat}:∀(d m:Nat),k<m→(k:Int)∈opn l (m+d)→(k:Int)∈opn l m
 |0,_,_,h=>h
 |d+1,m,hk,h=>zgo d m hk (Decidable.byContradiction fun hn=>zsa (by omega) hn h)
theorem Wn{l:List Tok}{k m m':Nat}(hk:k<m)(hm:m≤m')(h:(k:Int)∈opn l m'):(k:Int)∈opn l m:=by
 obtain⟨d,rfl⟩:∃d,m'=m+d:=⟨m' - m,by omega⟩
 exact zgo d m hk h
theorem kM{l:List Tok}:∀(m:Nat)(k:Nat),(k:Int)∈opn l m→¬zG (l.getD k .zero)=⟨#[]⟩
 |0,k,h=>by simp[opn]at h
 |m+1,k,h=>by
  by_cases hc:zG (l.getD m .zero)=⟨#[]⟩
  ·by_cases hp:Xf l (opn l m) m
   ·rw[Ku hp]at h;exact kM m k (List.mem_of_mem_take h)
   ·rw[ZE hc hp]at h;exact kM m k h
  ·rw[ke hc]at h
   simp only[List.mem_append,List.mem_singleton]at h
   rcases h with h|h
   ·exact kM m k h
   ·have:k=m:=by omega
    subst this;exact hc
theorem zdq(l:List Tok):∀m,(opn l m).Nodup
 |0=>by simp[opn]
 |m+1=>by
  have ih:=zdq l m
  by_cases hc:zG (l.getD m .zero)=⟨#[]⟩
  ·by_cases hp:Xf l (opn l m) m
   ·rw[Ku hp];exact ih.sublist (List.take_sublist _ _)
   ·rw[ZE hc hp];exact ih
  ·rw[ke hc,List.nodup_append]
   refine⟨ih,by simp,fun a ha b hb=> ?_⟩
   have:=Y3 l m a ha
   simp at hb
   omega
theorem zgn{l:List Tok}{k:Nat}(hc:¬zG (l.getD k .zero)=⟨#[]⟩):∀(d:Nat),(k:Int)∈opn l (k+1+d)→∃t,opn l (k+1+d)=opn l k++(k:Int)::t
 |0,_=>⟨[],ke hc⟩
 |d+1,h=>by
  have hin:(k:Int)∈opn l (k+1+d):=Wn (by omega) (by omega) h
  obtain⟨t,ht⟩:=zgn hc d hin
  have e:k+1+(d+1)=(k+1+d)+1:=by omega
  rw[e]at h⊢
  generalize k+1+d=m at*
  by_cases hm:zG (l.getD m .zero)=⟨#[]⟩
  ·by_cases hp:Xf l (opn l m) m
   ·rw[Ku hp]at h⊢
    rw[ht]at h⊢
    have e2:(opn l k++(k:Int)::t).length - 1=(opn l k).length+t.length:=by simp
    rw[e2,List.take_append,List.take_of_length_le (by omega)]at h⊢
    cases t with
    |nil=>
     simp at h
     have:=Y3 l k _ h
     omega
    |cons x t=>exact⟨(x::t).take t.length,by simp⟩
   ·rw[ZE hm hp];exact⟨t,ht⟩
  ·rw[ke hm];exact⟨t++ [(m:Int)],by rw[ht];simp⟩
theorem X7{l:List Tok}{k j:Nat}(hc:¬zG (l.getD k .zero)=⟨#[]⟩)(hj:k≤j):jA l k j↔¬(k:Int)∈opn l (j+1):=by
 have hd:(opn l (k+1)).length=(opn l k).length+1:=by rw[ke hc];simp
 constructor
 ·intro h hin
  obtain⟨d,rfl⟩:∃d,j=k+d:=⟨j - k,by omega⟩
  have e:k+d+1=k+1+d:=by omega
  unfold jA at h
  rw[e]at h hin
  obtain⟨t,ht⟩:=zgn hc d hin
  rw[ht,hd]at h
  rcases h with h|h
  ·simp at h
  ·apply h;simp[List.getD_eq_getElem?_getD]
 ·intro hn
  unfold jA
  by_cases h1:(opn l (j+1)).length<(opn l (k+1)).length
  ·exact .inl h1
  ·refine .inr fun h2=>hn ?_
   rw[←h2,List.getD_eq_getElem?_getD,List.getElem?_eq_getElem (by omega)]
   exact List.getElem_mem _
theorem zaA{l:List Tok}{k:Nat}:∀(d j:Nat),j+d≤l.length→(∀i,j≤i→i<j+d→¬jA l k i)→fe l k (l.length - j) j=fe l k (l.length - (j+d)) (j+d)
 |0,_,_,_=>rfl
 |d+1,j,h,hn=>by
  rw[J0 l k j (by omega),if_neg (hn j (by omega) (by omega)),zaA d (j+1) (by omega) (fun i h1 h2=>hn i (by omega) (by omega))]
  have e:j+1+d=j+(d+1):=by omega
  rw[e]
theorem J3(o:List Int)(i k:Nat)(v:Int)(hk:k<o.length):(o.set i v).getD k 0=if i=k then v else o.getD k 0:=by
 rw[List.getD_eq_getElem?_getD,List.getElem?_set]
 split
 ·rename_i h;subst h;simp[hk]
 ·rw[List.getD_eq_getElem?_getD]
def feE(l:List Tok)(k:Nat):Int:=fe l k (l.length - (k+1)) (k+1)
theorem zgj(l:List Tok):∀(m:Nat),m≤l.length→∀k,k<m→(YB l m).getD k 0=if zG (l.getD k .zero)=⟨#[]⟩then -1 else if(k:Int)∈opn l m then -1 else feE l k
 |0,_,k,hk=>by omega
 |m+1,hm,k,hk=>by
  have ih:=zgj l m (by omega)
  have hlen:=QM l m
  by_cases hp:Xf l (opn l m) m
  ·have hop:=Ku hp
   have h0:=hp.2.2.1
   have ho:∃o:Nat,(opn l m).getD ((opn l m).length - 1) 0=(o:Int)∧o<m∧(o:Int)∈opn l m:=by
    have hin:(opn l m).getD ((opn l m).length - 1) 0∈opn l m:=by
     rw[List.getD_eq_getElem?_getD,List.getElem?_eq_getElem (by omega)];exact List.getElem_mem _
    have:=Y3 l m _ hin
    exact⟨((opn l m).getD ((opn l m).length - 1) 0).toNat,by omega,by omega,by rw[Int.toNat_of_nonneg this.1];exact hin⟩
   obtain⟨o,ho,hom,hoin⟩:=ho
   have hsplit:opn l m=opn l (m+1)++ [(o:Int)]:=by
    rw[hop]
    have e:=List.take_append_drop ((opn l m).length - 1) (opn l m)
    rw[List.drop_eq_getElem_cons (by omega)]at e
    have e2:(opn l m)[(opn l m).length - 1]'(by omega)=(o:Int):=by
     rw[←ho,List.getD_eq_getElem?_getD,List.getElem?_eq_getElem (by omega)];rfl
    rw[e2,show(opn l m).length - 1+1=(opn l m).length by omega,List.drop_length]at e
    exact e.symm
   have hnot:¬(o:Int)∈opn l (m+1):=by
    have:=zdq l m
    rw[hsplit,List.nodup_append]at this
    exact fun h=>this.2.2 _ h _ (by simp) rfl
   simp only[YB,if_pos hp,ho,Int.toNat_natCast]
   rw[J3 _ _ _ _ (by simp;omega),J3 _ _ _ _ (by omega)]
   by_cases h1:o=k
   ·subst h1
    rw[if_pos rfl,if_neg (kM m o hoin),if_neg hnot]
    unfold feE
    have hc:=kM m o hoin
    obtain⟨d,hd⟩:∃d,m=o+1+d:=⟨m - (o+1),by omega⟩
    rw[zaA d (o+1) (by omega) (fun i hi1 hi2=>by
     rw[X7 hc (by omega)]
     exact fun hn=>hn (Wn (by omega) (by omega) hoin)),←hd,J0 l o m (by omega),if_pos ((X7 hc (by omega)).2 hnot)]
   ·rw[if_neg h1]
    by_cases h2:m=k
    ·subst h2;rw[if_pos rfl,if_pos hp.1]
    ·rw[if_neg h2,ih k (by omega)]
     have:(k:Int)∈opn l m↔(k:Int)∈opn l (m+1):=by
      rw[hsplit];simp only[List.mem_append,List.mem_singleton]
      constructor
      ·rintro(h|h)
       ·exact h
       ·omega
      ·exact fun h=>.inl h
     simp only[this]
  ·simp only[YB,if_neg hp]
   rw[J3 _ _ _ _ (by omega)]
   by_cases h2:m=k
   ·subst h2
    rw[if_pos rfl]
    by_cases hc:zG (l.getD m .zero)=⟨#[]⟩
    ·rw[if_pos hc]
    ·rw[if_neg hc,if_pos (by rw[ke hc];simp)]
   ·rw[if_neg h2,ih k (by omega)]
    have:(k:Int)∈opn l m↔(k:Int)∈opn l (m+1):=by
     by_cases hc:zG (l.getD m .zero)=⟨#[]⟩
     ·rw[ZE hc hp]
     ·rw[ke hc];simp only[List.mem_append,List.mem_singleton]
      constructor
      ·exact fun h=>.inl h
      ·rintro(h|h)
       ·exact h
       ·omega
    simp only[this]
theorem Yw(v:Int):∀(t:List Int)(o:List Int)(k:Nat),(∀x∈t,0≤x)→k<o.length→(t.foldl (fun o x=>o.set x.toNat v) o).getD k 0=if(k:Int)∈t then v else o.getD k 0
 | [],o,k,_,_=>by simp
 |x::t,o,k,hx,hk=>by
  have h0:=hx x (by simp)
  rw[List.foldl_cons,Yw v t _ k (fun y hy=>hx y (by simp[hy])) (by simpa using hk),J3 _ _ _ _ hk]
  by_cases h1:(k:Int)∈t
  ·simp[h1]
  ·have e:x.toNat=k↔(k:Int)=x:=by omega
   simp only[List.mem_cons,h1,or_false,if_false,e]
theorem zxI(l:List Tok):zal l (opn l l.length).length=jO l l.length:=by
 have hlen:∀(t o:List Int),(t.foldl (fun o x=>o.set x.toNat (l.length:Int)) o).length=o.length:=by
  intro t
  induction t with
  |nil=>intro o;rfl
  |cons x t ih=>intro o;rw[List.foldl_cons,ih];simp
 have hl2:(zal l (opn l l.length).length).length=l.length:=by unfold zal;rw[hlen,QM]
 apply List.ext_getElem (by rw[hl2,yu])
 intro k h1 h2
 have hk:k<l.length:=by omega
 have e1:(zal l (opn l l.length).length)[k]=(zal l (opn l l.length).length).getD k 0:=by rw[List.getD_eq_getElem?_getD,List.getElem?_eq_getElem h1];rfl
 rw[e1]
 unfold zal
 rw[List.take_length,Yw _ _ _ _ (fun x hx=>(Y3 l _ x hx).1) (by rw[QM];exact hk),zgj l l.length (Nat.le_refl _) k hk]
 simp only[jO,List.getElem_map,List.getElem_range,Qq]
 by_cases hin:(k:Int)∈opn l l.length
 ·have hc:=kM _ k hin
  rw[if_pos hin,if_neg hc]
  obtain⟨d,hd⟩:∃d,l.length=k+1+d:=⟨l.length - (k+1),by omega⟩
  rw[zaA d (k+1) (by omega) (fun i hi1 hi2=>by
   rw[X7 hc (by omega)]
   exact fun hn=>hn (Wn (by omega) (by omega) hin)),←hd]
  simp[fe]
 ·rw[if_neg hin,if_neg hin];rfl
theorem zrS(l:List Tok):zgi l=za1 l:=by
 unfold zgi za1
 rw[zxI]
theorem PRep.nilS{F:Nat→Prop}{w:World}{v:Value}(sz:Nat)(h:PRep F w v zA):PRep F w v (.slc sz []):=by
 cases h
 exact .slc none 0 0 sz [] 0 0 (fun _ _=>undef) rfl (Nat.le_refl _) (by simp) (by simp) (by simp) (by simp)
def zz(l:List Tok):List Int:=if yq l then[]else jO l l.length
def jP(l:List Tok):Int:=if yq l then 3 else 0
theorem zdb(l:List Tok)(F:Nat→Prop)(w:World)(v:Value)(h:PRep F w v (za1 l)):PRep F w v (.tup [zE (zz l),vi (jP l)]):=by
 unfold za1 at h
 unfold zz jP
 cases hd:yq l with
 |false=>simpa[hd]using h
 |true=>
  simp only[hd,cond_true]at h
  simp only[if_true]
  cases h with
  |tup cs xs hl h=>
   refine .tup cs _ hl fun i hi=> ?_
   have:=h i hi
   match i,hi with
   |0,_=>exact PRep.nilS 1 this
   |1,_=>exact this
   |n+2,hi=>exact absurd hi (by simp)
theorem zd4(l:List Tok)(hl:l.length≤1000000):zg Tryz.prog 97 [zj l] (.tup [zE (zz l),vi (jP l)]):=by
 have:=zgk l hl
 rw[zrS]at this
 exact zg.rsub this (zdb l)
theorem zgz(l:List Tok)(hl:l.length≤1000000):zg Tryz.prog 81 [zj l] (.tup [zE (zz l),vi (jP l)]):=zg.rsub (zjc l hl) (zdb l)
def ZW(args:List V):Prop:=args= [zj (zh (args.getD 0 .any))]∧(zh (args.getD 0 .any)).length≤1000000
def ZX(args:List V):V:=.tup [zE (zz (zh (args.getD 0 .any))),vi (jP (zh (args.getD 0 .any)))]
def K2:Sum Tryz.prog:=⟨97,ZW,ZX,fun args h=>by have:=zd4 _ h.2;rwa [←h.1]at this,false⟩
theorem yB:K2.f=97:=rfl
theorem yA(args:List V):K2.D args=ZW args:=rfl
theorem zR:K2.flat=false:=rfl
theorem yC(args:List V):K2.r args=ZX args:=rfl
def zaf:Sum Tryz.prog:=⟨81,ZW,ZX,fun args h=>by have:=zgz _ h.2;rwa [←h.1]at this,false⟩
theorem qR:zaf.f=81:=rfl
theorem qQ(args:List V):zaf.D args=ZW args:=rfl
theorem yo:zaf.flat=false:=rfl
theorem qS(args:List V):zaf.r args=ZX args:=rfl
def zdv(l:List Int)(k:Int):Prop:= -9223372036854775808≤k∧k<9223372036854775807∧l.getD k.toNat 0<9223372036854775807
def Qg:Sum Tryz.prog:=⟨104,fun args=>args= [zE (zK (args.getD 0 .any)),vi (args.getD 1 .any).int]∧zdv (zK (args.getD 0 .any)) (args.getD 1 .any).int,fun args=>vi (skip (zK (args.getD 0 .any)) (args.getD 1 .any).int),fun args h=>by
 have:=zyb (zK (args.getD 0 .any)) (args.getD 1 .any).int h.2.1 h.2.2.1 h.2.2.2;rwa [←h.1]at this,true⟩
theorem qK:Qg.f=104:=rfl
theorem qJ(args:List V):Qg.D args=(args= [zE (zK (args.getD 0 .any)),vi (args.getD 1 .any).int]∧zdv (zK (args.getD 0 .any)) (args.getD 1 .any).int):=rfl
theorem yD:Qg.flat=true:=rfl
theorem qL(args:List V):Qg.r args=vi (skip (zK (args.getD 0 .any)) (args.getD 1 .any).int):=rfl
theorem zee(ends:List Int)(k:Int)(hk:k<ends.length):k+1≤skip ends k:=by
 unfold skip
 grind
theorem zln(ends:List Int)(k:Int)(hk:k<ends.length):skip ends k≤ends.length:=by
 unfold skip
 grind
def ZJ:Sum Tryz.prog:=⟨95,fun args=>args= [zE (zK (args.getD 0 .any)),vi (args.getD 1 .any).int]∧zdv (zK (args.getD 0 .any)) (args.getD 1 .any).int,fun args=>vi (skip (zK (args.getD 0 .any)) (args.getD 1 .any).int),fun args h=>by
 have:=zjd (zK (args.getD 0 .any)) (args.getD 1 .any).int h.2.1 h.2.2.1 h.2.2.2;rwa [←h.1]at this,true⟩
theorem Qe:ZJ.f=95:=rfl
theorem Qd(args:List V):ZJ.D args=(args= [zE (zK (args.getD 0 .any)),vi (args.getD 1 .any).int]∧zdv (zK (args.getD 0 .any)) (args.getD 1 .any).int):=rfl
theorem jX:ZJ.flat=true:=rfl
theorem Qf(args:List V):ZJ.r args=vi (skip (zK (args.getD 0 .any)) (args.getD 1 .any).int):=rfl
theorem ziN(l:List Tok)(k:Nat):∀(f j:Nat),j+f=l.length→(j:Int)≤fe l k f j∧fe l k f j≤l.length
 |0,j,h=>by simp only[fe];omega
 |f+1,j,h=>by
  simp only[fe]
  split
  ·omega
  ·have:=ziN l k f (j+1) (by omega);omega
theorem JW(l:List Tok)(k:Nat)(hk:k<l.length):Qq l k= -1∨((k:Int)<Qq l k∧Qq l k≤l.length):=by
 unfold Qq
 split
 ·exact .inl rfl
 ·have:=ziN l k (l.length - (k+1)) (k+1) (by omega);right;omega
theorem Zl(l:List Tok)(hd:yq l=false)(k:Nat)(hk:k<l.length):(zz l).getD k 0=Qq l k:=by
 simp only[zz,hd,Bool.false_eq_true,if_false,jO]
 simp[List.getD_eq_getElem?_getD,hk]
theorem JX(l:List Tok)(k:Nat):(zz l).getD k 0≤l.length:=by
 cases hd:yq l with
 |true=>simp[zz,hd]
 |false=>
  by_cases hk:k<l.length
  ·rw[Zl l hd k hk];have:=JW l k hk;omega
  ·have:(zz l).length≤k:=by simp[zz,hd,yu];omega
   rw[List.getD_eq_getElem?_getD,List.getElem?_eq_none this];simp
theorem zkX(l:List Tok)(k:Nat):∀(f j:Nat),j+f=l.length→fe l k f j=l.length∨∃m,j≤m∧m<l.length∧fe l k f j=m∧jA l k m∧∀i,j≤i→i<m→¬jA l k i
 |0,j,h=>by simp only[fe];exact .inl trivial
 |f+1,j,h=>by
  simp only[fe]
  split
  ·rename_i hc;exact .inr ⟨j,Nat.le_refl _,by omega,rfl,hc,fun i h1 h2=>by omega⟩
  ·rename_i hc
   rcases zkX l k f (j+1) (by omega)with h1|⟨m,h1,h2,h3,h4,h5⟩
   ·exact .inl h1
   ·refine .inr ⟨m,by omega,h2,h3,h4,fun i hi1 hi2=> ?_⟩
    by_cases e:i=j
    ·subst e;exact hc
    ·exact h5 i (by omega) hi2
def js:Sum Tryz.prog:=⟨124,fun args=>args= [vi (args.getD 0 .any).int,vi (args.getD 1 .any).int,vi (args.getD 2 .any).int],fun args=>vb (decide (0≤(args.getD 1 .any).int∧(args.getD 1 .any).int≤(args.getD 2 .any).int∧(args.getD 2 .any).int≤(args.getD 0 .any).int)),fun args h=>by
 have:=zpS (args.getD 0 .any).int (args.getD 1 .any).int (args.getD 2 .any).int;rwa [←h]at this,true⟩
theorem z4:js.f=124:=rfl
theorem z3(args:List V):js.D args=(args= [vi (args.getD 0 .any).int,vi (args.getD 1 .any).int,vi (args.getD 2 .any).int]):=rfl
theorem zN:js.flat=true:=rfl
theorem z5(args:List V):js.r args=vb (decide (0≤(args.getD 1 .any).int∧(args.getD 1 .any).int≤(args.getD 2 .any).int∧(args.getD 2 .any).int≤(args.getD 0 .any).int)):=rfl
def YH:Sum Tryz.prog:=⟨125,fun args=>args= [.agg (ZQ (args.getD 0 .any)).enc,.pp [vi ((args.getD 1 .any).cs.getD 0 .any).int]],fun args=>vb (decide ((ZQ (args.getD 0 .any)).kind=((args.getD 1 .any).cs.getD 0 .any).int)),fun args h=>by
 have:=zmv (ZQ (args.getD 0 .any)) ((args.getD 1 .any).cs.getD 0 .any).int;rwa [←h]at this,true⟩
theorem zhg:YH.f=125:=rfl
theorem zhf(args:List V):YH.D args=(args= [.agg (ZQ (args.getD 0 .any)).enc,.pp [vi ((args.getD 1 .any).cs.getD 0 .any).int]]):=rfl
theorem zb2:YH.flat=true:=rfl
theorem zhh(args:List V):YH.r args=vb (decide ((ZQ (args.getD 0 .any)).kind=((args.getD 1 .any).cs.getD 0 .any).int)):=rfl
def y0(l:List Tok)(ends:List Int)(to kind:Int):Nat→Int→Int
 |0,_=> -1
 |f+1,k=>if k<to then(if(l.getD k.toNat .zero).kind=kind then k else y0 l ends to kind f (skip ends k))else -1
def bad(l:List Tok)(ends:List Int)(a b:Int):Prop:=¬ends.length=l.length∨¬(0≤a∧a≤b∧b≤l.length)
instance (l:List Tok) (ends:List Int) (a b:Int):Decidable (bad l ends a b):=by unfold bad;infer_instance
def j4(l:List Tok)(ends:List Int)(a b kind:Int):Int:=if bad l ends a b then -1 else y0 l ends b kind (b - a).toNat a
structure FiS where
 k:Int
 f:Nat
theorem zxj(l:List Tok)(ends:List Int)(a b kind:Int)(hl:l.length≤1000000)(hE:∀i,ends.getD i 0≤1000000):zg Tryz.prog 126 [zj l,zE ends,vi a,vi b,.fn 125 [.pp [vi kind]]] (vi (j4 l ends a b kind)):=by
 refine zg.of (Orc.cons Qg (Orc.cons js (Orc.cons YH (Orc.nil _)))) zwg (by simp[zzH]) fun w0 o0=> ?_
 simp only[zzH,zE,zj,Tok.enc,qK,qJ,yD,qL,z4,z3,zN,z5,go_sem,zc,seval,reduceIte,reduceCtorEq]
 refine⟨by omega,by omega,fun h=> ?_,fun h=> ?_⟩
 ·have:bad l ends a b:=by unfold bad;omega
  simp only[j4,if_pos this]
 ·have hb:¬bad l ends a b:=by unfold bad;omega
  simp only[j4,if_neg hb]
  generalize hR:y0 l ends b kind (b - a).toNat a=R
  refine zD.lp (α:=FiS) (fun x=>[(0,.slc 3 (l.map Tok.enc)),(1,.slc 1 (ends.map fun n=>[vi n])),(3,vi b),(4,.fn 125 [.pp [vi kind]]),(11,vi x.k)]) (fun _=>⟨[],0⟩)
   (fun x=>0≤x.k∧x.k≤1000001∧(b - x.k).toNat≤x.f∧y0 l ends b kind x.f x.k=R) (fun x=>(b - x.k).toNat) ⟨a,(b - a).toNat⟩ ⟨by dsimp only;omega,by dsimp only;omega,Nat.le_refl _,hR⟩ (St.mk ?_) fun x hx=> ?_
  ·simp only[go_sem,zc,seval,reduceIte,reduceCtorEq]
  ·obtain⟨k,f⟩:=x
   simp only at hx
   obtain⟨h1,h2,h3,h4⟩:=hx
   simp only[Tok.enc,zj,zE,qK,qJ,yD,qL,z4,z3,zN,z5,zhg,zhf,zb2,zhh,go_sem,zc,seval,reduceIte,reduceCtorEq]
   refine⟨fun hk=> ?_,fun hk=> ?_⟩
   ·obtain⟨f',rfl⟩:∃f',f=f'+1:=⟨f - 1,by omega⟩
    simp only[y0,if_pos hk]at h4
    have hg:=zee ends k (by omega)
    have hle:=zln ends k (by omega)
    have:=hE k.toNat
    refine⟨by omega,fun hq=> ?_,fun hq=>⟨⟨by omega,by omega,by omega⟩,⟨skip ends k,f'⟩,⟨by dsimp only;omega,by dsimp only;omega,by dsimp only;omega,?_⟩,by dsimp only;omega,rfl⟩⟩
    ·rw[if_pos hq]at h4;exact h4
    ·rw[if_neg hq]at h4;exact h4
   ·cases f with
    |zero=>simpa[y0]using h4
    |succ f=>simpa only[y0,if_neg hk]using h4
def zfX(l:List Tok)(ends:List Int):Prop:=l.length≤1000000∧∀i,ends.getD i 0≤1000000
def XG:Sum Tryz.prog:=⟨126,fun args=>args= [zj (zh (args.getD 0 .any)),zE (zK (args.getD 1 .any)),vi (args.getD 2 .any).int,vi (args.getD 3 .any).int,.fn 125 [.pp [vi ((((args.getD 4 .any).caps).getD 0 .any).cs.getD 0 .any).int]]]∧zfX (zh (args.getD 0 .any)) (zK (args.getD 1 .any)),
 fun args=>vi (j4 (zh (args.getD 0 .any)) (zK (args.getD 1 .any)) (args.getD 2 .any).int (args.getD 3 .any).int ((((args.getD 4 .any).caps).getD 0 .any).cs.getD 0 .any).int),fun args h=>by
 have:=zxj (zh (args.getD 0 .any)) (zK (args.getD 1 .any)) (args.getD 2 .any).int (args.getD 3 .any).int ((((args.getD 4 .any).caps).getD 0 .any).cs.getD 0 .any).int h.2.1 h.2.2;rwa [←h.1]at this,true⟩
theorem zom:XG.f=126:=rfl
theorem zol(args:List V):XG.D args=(args= [zj (zh (args.getD 0 .any)),zE (zK (args.getD 1 .any)),vi (args.getD 2 .any).int,vi (args.getD 3 .any).int,.fn 125 [.pp [vi ((((args.getD 4 .any).caps).getD 0 .any).cs.getD 0 .any).int]]]∧zfX (zh (args.getD 0 .any)) (zK (args.getD 1 .any))):=rfl
theorem zeD:XG.flat=true:=rfl
theorem zon(args:List V):XG.r args=vi (j4 (zh (args.getD 0 .any)) (zK (args.getD 1 .any)) (args.getD 2 .any).int (args.getD 3 .any).int ((((args.getD 4 .any).caps).getD 0 .any).cs.getD 0 .any).int):=rfl
def prs(l:List (Int×Int)):V:=.slc 2 (l.map fun p=>[vi p.1,vi p.2])
theorem Y0(S:Nat→Bool)(h:Heap)(l:List (Int×Int)):zB (zB (res S h 11)) (l.map fun p=>[vi p.1,vi p.2])=some (l.map fun p=>[vi p.1,vi p.2]):=qH S h 10 _ (fun _=>rfl) l
theorem zmL(l:List Tok)(ends:List Int)(a b kind:Int):j4 l ends a b kind= -1∨(a≤j4 l ends a b kind∧j4 l ends a b kind<b∧b≤l.length):=by
 unfold j4
 split
 ·exact .inl rfl
 ·rename_i hb
  have hb':ends.length=l.length∧0≤a∧a≤b∧b≤l.length:=by unfold bad at hb;omega
  have key:∀(f:Nat)(k:Int),a≤k→y0 l ends b kind f k= -1∨(a≤y0 l ends b kind f k∧y0 l ends b kind f k<b):=by
   intro f
   induction f with
   |zero=>intro k _;exact .inl rfl
   |succ f ih=>
    intro k hk
    simp only[y0]
    split
    ·rename_i hkb
     split
     ·exact .inr ⟨hk,hkb⟩
     ·exact ih _ (by have:=zee ends k (by omega);omega)
    ·exact .inl rfl
  rcases key (b - a).toNat a (Int.le_refl _)with h|h
  ·exact .inl h
  ·exact .inr ⟨h.1,h.2,hb'.2.2.2⟩
def Yg(l:List Tok)(ends:List Int)(b kind:Int):Nat→Int→List (Int×Int)
 |0,a=>[(a,b)]
 |f+1,a=>if 0≤j4 l ends a b kind then(a,j4 l ends a b kind)::Yg l ends b kind f (j4 l ends a b kind+1)else[(a,b)]
def Y1(l:List Tok)(ends:List Int)(a b kind:Int):V:=bif decide (bad l ends a b)then zA else prs (Yg l ends b kind ((b - a).toNat+1) a)
structure SlS where
 a:Int
 f:Nat
 out:List (Int×Int)
 ver:Nat
 clk:Nat
theorem zsB(l:List Tok)(ends:List Int)(a b kind:Int)(hl:l.length≤1000000)(hE:∀i,ends.getD i 0≤1000000):zg Tryz.prog 98 [zj l,zE ends,vi a,vi b,vi kind] (Y1 l ends a b kind):=by
 refine zg.of (Orc.cons js (Orc.cons XG (Orc.nil _))) zA2 (by simp[c98]) fun w0 o0=> ?_
 simp only[c98,zE,zj,Tok.enc,go_sem,zc,seval,reduceIte,reduceCtorEq]
 by_cases hb:bad l ends a b
 ·have hR:Y1 l ends a b kind=zA:=by simp only[Y1,hb,decide_true,cond_true]
  rw[hR]
  refine zD.lab (α:=Unit) 0 (fun _=>[]) (fun _=>⟨[],0⟩) (fun _=>False) (fun _=>0) rfl ?_ fun x hx=>hx.elim
  simp only[z4,z3,zN,z5,go_sem,zc,seval,reduceIte,reduceCtorEq]
  unfold bad at hb
  refine⟨by omega,fun h=> ?_⟩
  exfalso;omega
 have hb':ends.length=l.length∧0≤a∧a≤b∧b≤l.length:=by unfold bad at hb;omega
 have hR:Y1 l ends a b kind=prs (Yg l ends b kind ((b - a).toNat+1) a):=by simp only[Y1,hb,decide_false,cond_false]
 rw[hR]
 generalize hR:Yg l ends b kind ((b - a).toNat+1) a=R
 refine zD.lab (α:=SlS) 0 (fun x=>[(0,.slc 3 (l.map Tok.enc)),(1,.slc 1 (ends.map fun n=>[vi n])),(2,vi x.a),(3,vi b),(11,.ref 1 x.ver 0 x.out.length),(12,.fn 125 [.ptr 0 0 0 0])])
  (fun x=>⟨[⟨0,1,[[vi kind]],false,[]⟩,⟨x.ver,2,x.out.map fun p=>[vi p.1,vi p.2],false,[vi 0,vi 0]⟩],x.clk⟩)
  (fun x=>0≤x.a∧x.a≤b∧(b - x.a).toNat+1≤x.f∧x.out++Yg l ends b kind x.f x.a=R∧(x.out.length:Int)≤x.a) (fun x=>(b - x.a).toNat) rfl ?_ fun x hx=> ?_
 ·simp only[z4,z3,zN,z5,go_sem,zc,seval,reduceIte,reduceCtorEq]
  refine⟨by omega,fun h=> ?_,fun h=>⟨⟨a,(b - a).toNat+1,[],1,2⟩,⟨hb'.2.1,hb'.2.2.1,Nat.le_refl _,hR,hb'.2.1⟩,St.nil 11 2 [vi 0,vi 0] (by simp[zk]) (St.cut ?_ ?_ ?_)⟩⟩
  ·exfalso;omega
  ·simp[zu,zk,zt]
  ·simp[Heap.alloc]
  ·rfl
 ·obtain⟨a',f,out,ver,clk⟩:=x
  simp only at hx
  obtain⟨h1,h2,h3,h4,h5⟩:=hx
  simp only[Tok.enc,zj,zE,prs,Y0,zom,zol,zeD,zon,z4,z3,zN,z5,go_sem,zc,seval,reduceIte,reduceCtorEq]
  have hf:=zmL l ends a' b kind
  obtain⟨f',rfl⟩:∃f',f=f'+1:=⟨f - 1,by omega⟩
  simp only[Yg]at h4
  refine⟨⟨hl,hE⟩,fun hn=> ?_,fun hn=> ?_⟩
  ·rw[if_pos hn]at h4
   refine⟨by omega,by omega,⟨j4 l ends a' b kind+1,f',out++ [(a',j4 l ends a' b kind)],clk+1,clk+1+1⟩,⟨by dsimp only;omega,by dsimp only;omega,by dsimp only;omega,?_,by simp;omega⟩,by dsimp only;omega,⟨rfl,rfl,by simp⟩,⟨rfl,?_⟩,rfl⟩
   ·simpa using h4
   ·simp
  ·rw[if_neg hn]at h4
   refine⟨by omega,?_⟩
   have e:List.map (fun p:Int×Int=>[vi p.1,vi p.2]) (List.take out.length out)++ [[V.c (Value.int IntKind.i64 a'),V.c (Value.int IntKind.i64 b)]]=R.map fun p=>[vi p.1,vi p.2]:=by
    rw[←h4];simp
   have e2:R.length=out.length+1:=by rw[←h4];simp
   rw[e,if_pos (by simp[e2]),List.take_of_length_le (by simp[e2]),Y0]
   rfl
def YJ:Sum Tryz.prog:=⟨98,fun args=>args= [zj (zh (args.getD 0 .any)),zE (zK (args.getD 1 .any)),vi (args.getD 2 .any).int,vi (args.getD 3 .any).int,vi (args.getD 4 .any).int]∧zfX (zh (args.getD 0 .any)) (zK (args.getD 1 .any)),
 fun args=>Y1 (zh (args.getD 0 .any)) (zK (args.getD 1 .any)) (args.getD 2 .any).int (args.getD 3 .any).int (args.getD 4 .any).int,fun args h=>by
 have:=zsB (zh (args.getD 0 .any)) (zK (args.getD 1 .any)) (args.getD 2 .any).int (args.getD 3 .any).int (args.getD 4 .any).int h.2.1 h.2.2;rwa [←h.1]at this,false⟩
theorem ZL:YJ.f=98:=rfl
theorem ZK(args:List V):YJ.D args=(args= [zj (zh (args.getD 0 .any)),zE (zK (args.getD 1 .any)),vi (args.getD 2 .any).int,vi (args.getD 3 .any).int,vi (args.getD 4 .any).int]∧zfX (zh (args.getD 0 .any)) (zK (args.getD 1 .any))):=rfl
theorem kA:YJ.flat=false:=rfl
theorem ZM(args:List V):YJ.r args=Y1 (zh (args.getD 0 .any)) (zK (args.getD 1 .any)) (args.getD 2 .any).int (args.getD 3 .any).int (args.getD 4 .any).int:=rfl
def Wl(b:UInt8):UInt8:=if 65≤b.toNat∧b.toNat≤90 then UInt8.ofNat (b.toNat+32)else b
def jG(s:ByteArray):ByteArray:=⟨⟨s.data.toList.map Wl⟩⟩
def u8c(b:UInt8):List V:=[.c (.int .u8 b.toNat)]
theorem zlu(l:List UInt8):(l.map u8c).map (fun e=>(Go.Sx.byteOf e).getD 0)=l:=by
 rw[List.map_map]
 conv=>rhs;rw[←List.map_id l]
 apply List.map_congr_left
 intro b _
 simp[u8c,Go.Sx.byteOf]
theorem zu5(l:List UInt8):(l.map u8c).all (fun e=>(Go.Sx.byteOf e).isSome)=true:=by
 simp[List.all_eq_true,u8c,Go.Sx.byteOf]
theorem zyD(l:List UInt8)(k:Nat)(h:k<l.length):(l.map u8c).getD k [.c (.int .u8 0)]=u8c (l.getD k 0):=by
 simp[List.getD_eq_getElem?_getD,h]
def jZ(s:ByteArray)(k:Nat):List UInt8:=(s.data.toList.take k).map Wl++s.data.toList.drop k
theorem jn(s:ByteArray)(k:Nat):(jZ s k).length=s.size:=by
 simp only[jZ,List.length_append,List.length_map,List.length_take,List.length_drop]
 have:s.data.toList.length=s.size:=WV s
 omega
theorem zdj(s:ByteArray)(k:Nat)(h:k<s.size):(jZ s k).getD k 0=s.data.toList.getD k 0:=by
 have:s.data.toList.length=s.size:=WV s
 simp only[jZ,List.getD_eq_getElem?_getD]
 rw[List.getElem?_append_right (by simp;omega)]
 simp only[List.length_map,List.length_take,List.getElem?_drop]
 congr 2;omega
theorem ziZ(s:ByteArray)(k:Nat)(h:k<s.size):jZ s (k+1)=(jZ s k).set k (Wl (s.data.toList.getD k 0)):=by
 have hl:s.data.toList.length=s.size:=WV s
 apply List.ext_getElem?
 intro i
 by_cases hi:i=k
 ·subst hi
  rw[List.getElem?_set_self (by rw[jn];exact h)]
  simp only[jZ]
  rw[List.getElem?_append_left (by simp;omega)]
  have h':i<s.data.size:=h
  simp only[List.getElem?_map,List.getElem?_take,List.getD_eq_getElem?_getD,if_pos (Nat.lt_succ_self i),List.getElem?_eq_getElem (show i<s.data.toList.length by omega),Option.map_some,Option.getD_some]
 ·rw[List.getElem?_set_ne (Ne.symm hi)]
  simp only[jZ]
  rcases Nat.lt_or_ge i k with hlt|hge
  ·rw[List.getElem?_append_left (by simp;omega),List.getElem?_append_left (by simp;omega)]
   simp only[List.getElem?_map,List.getElem?_take,if_pos hlt,if_pos (show i<k+1 by omega)]
  ·rw[List.getElem?_append_right (by simp;omega),List.getElem?_append_right (by simp;omega)]
   simp only[List.length_map,List.length_take,List.getElem?_drop]
   congr 1;omega
theorem zi0(s:ByteArray):jZ s 0=s.data.toList:=by simp[jZ]
theorem zmF(s:ByteArray):(⟨⟨jZ s s.size⟩⟩:ByteArray)=jG s:=by
 have hl:s.data.toList.length=s.size:=WV s
 unfold jZ jG
 rw[List.take_of_length_le (by omega),List.drop_eq_nil_of_le (by omega),List.append_nil]
theorem zzj(n:Int)(h0:0≤n)(h1:n<256):IntKind.u8.wrap n=n:=by
 simp[IntKind.wrap,IntKind.bits,IntKind.signed];omega
theorem zB4(l:List UInt8):(l.map fun b=>[V.c (.int .u8 b.toNat)])=l.map u8c:=rfl
theorem zrL(s:ByteArray)(hs:s.size≤1000000):zg Tryz.prog 59 [vs s] (vs (jG s)):=by
 refine zg.of (Orc.nil _) zAy (by simp[c59]) fun w0 o0=> ?_
 have hl:s.data.toList.length=s.size:=WV s
 simp only[c59,hl,zB4,go_sem,zc,seval,reduceIte,reduceCtorEq]
 refine⟨by omega,?_⟩
 refine zD.lp (α:=Nat) (fun k=>[(3,.ref 0 0 0 s.size),(8,.ref 0 0 0 s.size),(9,vi s.size),(10,vi k)]) (fun k=>⟨[⟨0,1,(jZ s k).map u8c,false,[.c (.int .u8 0)]⟩],1⟩) (fun k=>k≤s.size) (fun k=>s.size - k) 0 (Nat.zero_le _) (St.mk (by simp[zu,zk,zt,zi0])) fun k hk=> ?_
 by_cases he:k=s.size
 ·subst he
  have ht:((jZ s s.size).map u8c).take s.size=(jZ s s.size).map u8c:=List.take_of_length_le (by simp[jn])
  simp only[Int.lt_irrefl,ht,zlu,zu5,zmF,jn,Nat.le_refl,go_sem,zc,seval,reduceIte,reduceCtorEq]
 ·have e1:(k:Int)<(s.size:Int):=by omega
  have e0:(0:Int)≤(k:Int):=by omega
  have hlt:k<s.size:=by omega
  have hg:=zyD (jZ s k) k (by rw[jn];exact hlt)
  rw[zdj s k hlt]at hg
  have hsu:=ziZ s k hlt
  generalize hb:s.data.toList.getD k 0=b at*
  have hb256:b.toNat<256:=b.toNat_lt
  simp only[e0,e1,hg,u8c,jn,go_sem,zc,seval,reduceIte,reduceCtorEq]
  have hlow:(65≤(b.toNat:Int)∧(b.toNat:Int)≤90)↔(65≤b.toNat∧b.toNat≤90):=by omega
  refine⟨hlt,fun hc=>⟨hlt,by omega,k+1,by omega,by omega,by omega,?_⟩,fun hc=>⟨by omega,k+1,by omega,by omega,by omega,?_⟩⟩
  ·rw[hsu,List.map_set,Wl,if_pos (hlow.1 hc)]
   have h1:IntKind.u8.wrap ((b.toNat:Int)+32)=(b.toNat:Int)+32:=zzj _ (by omega) (by omega)
   have h2:(UInt8.ofNat (b.toNat+32)).toNat=b.toNat+32:=by simp;omega
   have h3:u8c (UInt8.ofNat (b.toNat+32))= [V.c (Value.int IntKind.u8 (IntKind.u8.wrap ((b.toNat:Int)+32)))]:=by
    unfold u8c;rw[h1,h2,Int.natCast_add];rfl
   rw[h3]
  ·rw[hsu,Wl,if_neg (by omega),←hb,←zdj s k hlt]
   congr 1
   apply List.ext_getElem?
   intro i
   by_cases hi:i=k
   ·subst hi
    rw[List.getElem?_set_self (by rw[jn];exact hlt),List.getD_eq_getElem?_getD,List.getElem?_eq_getElem (by rw[jn];exact hlt)];rfl
   ·rw[List.getElem?_set_ne (Ne.symm hi)]
def QZ:Sum Tryz.prog:=⟨59,fun args=>args= [vs ((args.getD 0 .any).str)]∧(((args.getD 0 .any).str)).size≤1000000,fun args=>vs (jG ((args.getD 0 .any).str)),fun args h=>by
 have:=zrL ((args.getD 0 .any).str) h.2;rwa [←h.1]at this,true⟩
theorem ztI:QZ.f=59:=rfl
theorem ztH(args:List V):QZ.D args=(args= [vs ((args.getD 0 .any).str)]∧(((args.getD 0 .any).str)).size≤1000000):=rfl
theorem zhq:QZ.flat=true:=rfl
theorem ztJ(args:List V):QZ.r args=vs (jG ((args.getD 0 .any).str)):=rfl
attribute [go_sem] ztI ztH zhq ztJ
structure LoS where
 k:Nat
 ver:Nat
 clk:Nat
theorem zi1(s:ByteArray)(k:Nat)(h:k<s.size):(s.data.toList.take (k+1)).map Wl=(s.data.toList.take k).map Wl++ [Wl (s.data.toList.getD k 0)]:=by
 have hl:s.data.toList.length=s.size:=WV s
 rw[List.take_add_one,List.map_append,List.getD_eq_getElem?_getD,List.getElem?_eq_getElem (by omega)];rfl
theorem zmH(s:ByteArray)(hs:s.size≤1000000):zg Tryz.prog 83 [vs s] (vs (jG s)):=by
 refine zg.of (Orc.nil _) zAT (by simp[c83]) fun w0 o0=> ?_
 have hl:s.data.toList.length=s.size:=WV s
 simp only[c83,go_sem,zc,seval,reduceIte,reduceCtorEq]
 refine zD.lp (α:=LoS) (fun a=>[(0,vs s),(3,.ref 0 a.ver 0 a.k),(4,vi a.k)]) (fun a=>⟨[⟨a.ver,1,((s.data.toList.take a.k).map Wl).map u8c,false,[.c (.int .u8 0)]⟩],a.clk⟩) (fun a=>a.k≤s.size) (fun a=>s.size - a.k) ⟨0,0,1⟩ (Nat.zero_le _)
  (St.nil 3 1 [.c (.int .u8 0)] (by simp[zk]) (St.mk (by simp[zu,zk,zt]))) fun a hk=> ?_
 obtain⟨k,ver,clk⟩:=a
 simp only at hk
 have htl:((s.data.toList.take k).map Wl).length=k:=by rw[List.length_map,List.length_take];omega
 have htk:∀l:List (List V),l.length=k→l.take k=l:=fun l hh=>List.take_of_length_le (by omega)
 by_cases he:k=s.size
 ·subst he
  have ht:=htk (((s.data.toList.take s.size).map Wl).map u8c) (by simp)
  simp only[Int.lt_irrefl,ht,zlu,zu5,htl,Nat.le_refl,go_sem,zc,seval,reduceIte,reduceCtorEq]
  rw[List.take_of_length_le (by omega)];rfl
 ·have e1:(k:Int)<(s.size:Int):=by omega
  have e0:(0:Int)≤(k:Int):=by omega
  have hlt:k<s.size:=by omega
  have hsu:=zi1 s k hlt
  simp only[e0,e1,htl,go_sem,zc,seval,reduceIte,reduceCtorEq]
  generalize hb:s.data.toList.getD k 0=b at*
  have hb256:b.toNat<256:=b.toNat_lt
  have hm:(s.data.toList.take k).take k=s.data.toList.take k:=List.take_of_length_le (by rw[List.length_take];omega)
  refine⟨fun hc=>⟨⟨by omega,by omega,by omega⟩,by omega,⟨k+1,clk+1,clk+2⟩,by dsimp only;omega,by dsimp only;omega,⟨⟨rfl,rfl⟩,by dsimp only;omega⟩,⟨rfl,?_⟩,rfl⟩,fun hc=>⟨⟨by omega,by omega,by omega⟩,by omega,⟨k+1,clk+1,clk+2⟩,by dsimp only;omega,by dsimp only;omega,⟨⟨rfl,rfl⟩,by dsimp only;omega⟩,⟨rfl,?_⟩,rfl⟩⟩
  ·dsimp only
   rw[hsu,hm,List.map_append,Wl,if_pos (by omega)]
   have h1:IntKind.u8.wrap ((b.toNat:Int)+32)=(b.toNat:Int)+32:=zzj _ (by omega) (by omega)
   have h2:(UInt8.ofNat (b.toNat+32)).toNat=b.toNat+32:=by simp;omega
   simp only[u8c,h1,h2,Int.natCast_add,List.map_cons,List.map_nil]
   rfl
  ·dsimp only
   rw[hsu,hm,List.map_append,Wl,if_neg (by omega)]
   rfl
def Qc:Sum Tryz.prog:=⟨83,fun args=>args= [vs ((args.getD 0 .any).str)]∧(((args.getD 0 .any).str)).size≤1000000,fun args=>vs (jG ((args.getD 0 .any).str)),fun args h=>by
 have:=zmH ((args.getD 0 .any).str) h.2;rwa [←h.1]at this,true⟩
theorem zoK:Qc.f=83:=rfl
theorem zoJ(args:List V):Qc.D args=(args= [vs ((args.getD 0 .any).str)]∧(((args.getD 0 .any).str)).size≤1000000):=rfl
theorem zeL:Qc.flat=true:=rfl
theorem zoL(args:List V):Qc.r args=vs (jG ((args.getD 0 .any).str)):=rfl
attribute [go_sem] zoK zoJ zeL zoL
structure Part where
 t:Tok
 ar:Option (List Tok)
instance:Inhabited Part:=⟨⟨.zero,none⟩⟩
def avO(o:Option (List Tok)):V:=match o with|none=>zA|some l=>zj l
def Part.enc(p:Part):List V:=[vi p.t.kind,vs p.t.text,vi p.t.n,avO p.ar]
def parts(l:List Part):V:=.slc 4 (l.map Part.enc)
theorem Part.eta'(p:Part):(⟨⟨p.t.kind,p.t.text,p.t.n⟩,p.ar⟩:Part)=p:=rfl
theorem zsj(S:Nat→Bool)(h:Heap)(o:Option (List Tok)):res S h 10 (avO o)=some (avO o):=by cases o<;>rfl
theorem YZ(S:Nat→Bool)(h:Heap):∀l:List Part,zB (zB (res S h 10)) (l.map Part.enc)=some (l.map Part.enc)
 | []=>rfl
 |p::l=>by
  have e:zB (res S h 10) p.enc=some p.enc:=by simp only[Part.enc,zB,zlj,zsj]
  simp only[List.map_cons,zB,YZ S h l,e]
def plR(ends:List Int)(to:Int):Nat→Int→List Int
 |0,_=>[]
 |f+1,a=>if a<to then a::plR ends to f (skip ends a)else[]
def pAt(l:List Tok)(k:Nat):Part:=⟨l.getD k .zero,if 0≤(zz l).getD k 0 then some ((l.take ((zz l).getD k 0).toNat).drop (k+1))else none⟩
def yg(l:List Tok):List Int→Option (List Part)
 | []=>some []
 |k::r=>if(zz l).getD k.toNat 0=l.length then none else(yg l r).map fun ps=>if(l.getD k.toNat .zero).kind=1 then ps else pAt l k.toNat::ps
def ptO(l:List Tok):Option (List Part):=if yq l=true then none else yg l (plR (zz l) l.length (l.length+1) 0)
def ptL(l:List Tok):List Part:=(ptO l).getD []
def ptB(l:List Tok):Bool:=(ptO l).isSome
def ptV(l:List Tok):V:=.tup [parts (ptL l),vb (ptB l)]
theorem JC(F:Nat→Prop)(w:World)(v:Value)(h:PRep F w v (.tup [zA,vb false])):PRep F w v (.tup [parts [],vb false]):=by
 cases h with
 |tup cs _ hl hx=>
  refine .tup cs _ hl fun i hi=> ?_
  have:=hx i hi
  match i,hi with
  |0,_=>exact PRep.nilS 4 this
  |1,_=>exact this
def zgv:Option (List Part)→V
 |none=>.tup [zA,vb false]
 |some ps=>.tup [parts ps,vb true]
structure PtS where
 k:Nat
 f:Nat
 out:List Part
 ver:Nat
 clk:Nat
theorem ZG{l:List Tok}(hd:yq l=false)(k:Nat)(hk:k<l.length):∃n:Nat,skip (zz l) k=n∧k<n∧n≤l.length:=by
 have hlen:(zz l).length=l.length:=by unfold zz;rw[hd];simp[yu]
 have h1:=zee (zz l) k (by rw[hlen];omega)
 have h2:=zln (zz l) k (by rw[hlen];omega)
 exact⟨(skip (zz l) k).toNat,by omega,by omega,by omega⟩
theorem zlg{l:List Tok}{x:Option (List Part)}(h:ptO l=x):ptV l= .tup [parts (x.getD []),vb x.isSome]:=by unfold ptV ptL ptB;rw[h]
theorem zgw{f:FuncId}{args:List V}(R:Option (List Part))(h:zg Tryz.prog f args (zgv R)):zg Tryz.prog f args (.tup [parts (R.getD []),vb R.isSome]):=by
 cases R with
 |none=>exact zg.rsub h JC
 |some ps=>exact h
theorem zsb(l:List Tok)(hl:l.length≤1000000):zg Tryz.prog 75 [zj l] (ptV l):=by
 by_cases hd:yq l=true
 ·have hO:ptO l=none:=by unfold ptO;rw[if_pos hd]
  rw[zlg hO]
  refine zg.rsub ?_ JC
  refine zg.of (Orc.cons K2 (Orc.cons Qg (Orc.nil _))) zqK (by simp[c75]) fun w0 o0=> ?_
  have he:jP l=3:=by unfold jP;rw[if_pos hd]
  simp only[c75,zj,ZW,ZX,zf,hl,he,zE,yB,yA,zR,yC,qK,qJ,yD,qL,go_sem,zc,seval,reduceIte,reduceCtorEq]
 have hd:yq l=false:=by simpa using hd
 have he:jP l=0:=by unfold jP;rw[hd];rfl
 have hlen:(zz l).length=l.length:=by unfold zz;rw[hd];simp[yu]
 generalize hO:ptO l=R
 rw[zlg hO]
 have hO':yg l (plR (zz l) l.length (l.length+1) 0)=R:=by rw[←hO];unfold ptO;rw[hd];rfl
 refine zgw R ?_
 refine zg.of (Orc.cons K2 (Orc.cons Qg (Orc.nil _))) zqK (by simp[c75]) fun w0 o0=> ?_
 simp only[c75,zj,ZW,ZX,zf,hl,he,zE,yB,yA,zR,yC,qK,qJ,yD,qL,go_sem,zc,seval,reduceIte,reduceCtorEq]
 refine zD.lp (α:=PtS) (fun a=>[(0,.slc 3 (l.map Tok.enc)),(4,.slc 1 ((zz l).map fun n=>[vi n])),(6,.ref 0 a.ver 0 a.out.length),(7,vi a.k)])
  (fun a=>⟨[⟨a.ver,4,a.out.map Part.enc,false,[vi 0,vs ⟨#[]⟩,vi 0,zA]⟩],a.clk⟩) (fun a=>a.k≤l.length∧a.out.length≤a.k∧l.length+1≤a.k+a.f∧(yg l (plR (zz l) l.length a.f a.k)).map (a.out++ ·)=R) (fun a=>l.length - a.k) ⟨0,l.length+1,[],0,1⟩
  ⟨Nat.zero_le _,Nat.zero_le _,by dsimp only;omega,by dsimp only;rw[show((0:Nat):Int)=0 from rfl,hO'];simp⟩ (St.nil 6 4 [vi 0,vs ⟨#[]⟩,vi 0,zA] (by simp[zk]) (St.cut ?_ ?_ ?_)) fun a ha=> ?_
 ·simp[zu,zk,zt]
 ·simp[Heap.alloc]
 ·rfl
 obtain⟨k,f,out,ver,clk⟩:=a
 obtain⟨h1,h2,h3,h4⟩:=ha
 simp only at h1 h2 h3 h4
 obtain⟨f',rfl⟩:∃f',f=f'+1:=⟨f - 1,by omega⟩
 by_cases hk:k=l.length
 ·subst hk
  simp only[plR,Int.lt_irrefl,if_false,yg,Option.map_some,List.append_nil]at h4
  subst h4
  simp only[Int.lt_irrefl,List.take_length,YZ,yZ,Nat.le_refl,zgv,parts,yB,yA,zR,yC,qK,qJ,yD,qL,go_sem,zc,seval,reduceIte,reduceCtorEq]
 ·have e1:(k:Int)<(l.length:Int):=by omega
  have e0:(0:Int)≤(k:Int):=by omega
  have hlt:k<l.length:=by omega
  have hle:=JX l k
  have hrg:=JW l k hlt
  rw[←Zl l hd k hlt]at hrg
  obtain⟨n,hn1,hn2,hn3⟩:=ZG hd k hlt
  have hsk:zdv (zz l) k:=⟨by omega,by omega,by rw[Int.toNat_natCast];omega⟩
  simp only[plR,e1,if_true,yg,Int.toNat_natCast,hn1]at h4
  have hp:pAt l k=⟨l.getD k .zero,if 0≤(zz l).getD k 0 then some ((l.take ((zz l).getD k 0).toNat).drop (k+1))else none⟩:=rfl
  obtain⟨en,hen⟩:∃en,(zz l).getD k 0=en:=⟨_,rfl⟩
  rw[hen]at hle hrg h4 hp
  obtain⟨x,hx⟩:∃x,l.getD k .zero=x:=⟨_,rfl⟩
  rw[hx]at h4 hp
  have hot:out.take out.length=out:=List.take_length
  by_cases c1:en=l.length
  ·rw[if_pos c1]at h4
   simp only[Option.map_none]at h4
   subst h4
   simp only[e0,e1,hlen,hx,hen,c1,Tok.enc,zE,zgv,yB,yA,zR,yC,qK,qJ,yD,qL,go_sem,zc,seval,reduceIte,reduceCtorEq]
  ·rw[if_neg c1]at h4
   by_cases c2:0≤en
   ·rw[if_pos c2]at hp
    have hek:(k:Int)+1≤en:=by omega
    have hk1:((k:Int)+1).toNat=k+1:=by omega
    have hk0:(0:Int)≤(k:Int)+1:=by omega
    have hcut:List.take (en.toNat - (k+1)) (List.drop (k+1) (List.map Tok.enc l))=((l.take en.toNat).drop (k+1)).map Tok.enc:=by
     rw[←List.map_drop,←List.map_take,List.drop_take]
    by_cases c3:x.kind=1
    ·simp only[c3,if_true]at h4
     have h4:(yg l (plR (zz l) l.length f' n)).map (out++ ·)=R:=by rw[←h4];cases yg l (plR (zz l) l.length f' n)<;>rfl
     simp only[e0,e1,hlen,hx,hen,c1,c2,c3,hsk,hn1,hle,hek,hk0,hk1,zW,Tok.enc,zE,yB,yA,zR,yC,qK,qJ,yD,qL,go_sem,zc,seval,reduceIte,reduceCtorEq]
     exact⟨by omega,⟨n,f',out,ver,clk+1⟩,⟨by dsimp only;omega,by dsimp only;omega,by dsimp only;omega,h4⟩,by dsimp only;omega,⟨⟨rfl,rfl⟩,rfl⟩,⟨rfl,rfl⟩,rfl⟩
    ·simp only[c3,if_false]at h4
     simp only[e0,e1,hlen,hx,hen,c1,c2,c3,hsk,hn1,hle,hek,hk0,hk1,hcut,hot,zW,Tok.enc,zE,yB,yA,zR,yC,qK,qJ,yD,qL,go_sem,zc,seval,reduceIte,reduceCtorEq]
     refine⟨by omega,⟨by omega,by omega,by omega⟩,⟨n,f',out++ [pAt l k],clk+2,clk+3⟩,⟨by dsimp only;omega,by simp;omega,by dsimp only;omega,?_⟩,by dsimp only;omega,⟨⟨rfl,by simp⟩,rfl⟩,⟨rfl,?_⟩,rfl⟩
     ·rw[←h4];cases yg l (plR (zz l) l.length f' n)<;>simp
     ·rw[hp];simp[Part.enc,avO,zj]
   ·rw[if_neg c2]at hp
    by_cases c3:x.kind=1
    ·simp only[c3,if_true]at h4
     have h4:(yg l (plR (zz l) l.length f' n)).map (out++ ·)=R:=by rw[←h4];cases yg l (plR (zz l) l.length f' n)<;>rfl
     simp only[e0,e1,hlen,hx,hen,c1,c2,c3,hsk,hn1,zW,Tok.enc,zE,yB,yA,zR,yC,qK,qJ,yD,qL,go_sem,zc,seval,reduceIte,reduceCtorEq]
     exact⟨⟨n,f',out,ver,clk+1⟩,⟨by dsimp only;omega,by dsimp only;omega,by dsimp only;omega,h4⟩,by dsimp only;omega,⟨⟨rfl,rfl⟩,rfl⟩,⟨rfl,rfl⟩,rfl⟩
    ·simp only[c3,if_false]at h4
     simp only[e0,e1,hlen,hx,hen,c1,c2,c3,hsk,hn1,hot,zW,Tok.enc,zE,yB,yA,zR,yC,qK,qJ,yD,qL,go_sem,zc,seval,reduceIte,reduceCtorEq]
     refine⟨⟨by omega,by omega,by omega⟩,⟨n,f',out++ [pAt l k],clk+2,clk+3⟩,⟨by dsimp only;omega,by simp;omega,by dsimp only;omega,?_⟩,by dsimp only;omega,⟨⟨rfl,by simp⟩,rfl⟩,⟨rfl,?_⟩,rfl⟩
     ·rw[←h4];cases yg l (plR (zz l) l.length f' n)<;>simp
     ·rw[hp];simp[Part.enc,avO]
structure PlS where
 k:Nat
 f:Nat
 out:List Int
 ver:Nat
 clk:Nat
theorem zmR(l:List Tok)(hd:yq l=false)(hl:l.length≤1000000):zg Tryz.prog 82 [zE (zz l),vi 0,vi l.length] (zE (plR (zz l) l.length (l.length+1) 0)):=by
 refine zg.of (Orc.cons ZJ (Orc.nil _)) zAS (by simp[c82]) fun w0 o0=> ?_
 have hlen:(zz l).length=l.length:=by unfold zz;rw[hd];simp[yu]
 generalize hR:plR (zz l) l.length (l.length+1) 0=R
 simp only[c82,zE,Qe,Qd,jX,Qf,go_sem,zc,seval,reduceIte,reduceCtorEq]
 refine zD.lp (α:=PlS) (fun a=>[(0,.slc 1 ((zz l).map fun n=>[vi n])),(2,vi l.length),(7,.ref 0 a.ver 0 a.out.length),(8,vi a.k)])
  (fun a=>⟨[⟨a.ver,1,a.out.map fun n=>[vi n],false,[vi 0]⟩],a.clk⟩) (fun a=>a.k≤l.length∧a.out.length≤a.k∧l.length+1≤a.k+a.f∧a.out++plR (zz l) l.length a.f a.k=R) (fun a=>l.length - a.k) ⟨0,l.length+1,[],0,1⟩
  ⟨Nat.zero_le _,Nat.zero_le _,by dsimp only;omega,by dsimp only;rw[show((0:Nat):Int)=0 from rfl,hR];rfl⟩ (St.nil 7 1 [vi 0] (by simp[zk]) (St.cut ?_ ?_ ?_)) fun a ha=> ?_
 ·simp[zu,zk,zt]
 ·simp[Heap.alloc]
 ·rfl
 obtain⟨k,f,out,ver,clk⟩:=a
 obtain⟨h1,h2,h3,h4⟩:=ha
 simp only at h1 h2 h3 h4
 obtain⟨f',rfl⟩:∃f',f=f'+1:=⟨f - 1,by omega⟩
 by_cases hk:k=l.length
 ·subst hk
  simp only[plR,Int.lt_irrefl,if_false,List.append_nil]at h4
  subst h4
  simp only[Int.lt_irrefl,List.take_length,yZ,Nat.le_refl,Qe,Qd,jX,Qf,go_sem,zc,seval,reduceIte,reduceCtorEq]
 ·have e1:(k:Int)<(l.length:Int):=by omega
  have hlt:k<l.length:=by omega
  obtain⟨n,hn1,hn2,hn3⟩:=ZG hd k hlt
  have hle:=JX l k
  have hsk:zdv (zz l) k:=⟨by omega,by omega,by rw[Int.toNat_natCast];omega⟩
  have hot:out.take out.length=out:=List.take_length
  simp only[plR,e1,if_true,hn1]at h4
  simp only[e1,hsk,hn1,hot,zW,zE,Qe,Qd,jX,Qf,go_sem,zc,seval,reduceIte,reduceCtorEq]
  exact⟨⟨by omega,by omega,by omega⟩,⟨n,f',out++ [(k:Int)],clk+1,clk+2⟩,⟨by dsimp only;omega,by simp;omega,by dsimp only;omega,by rw[←h4];simp⟩,by dsimp only;omega,⟨⟨rfl,by simp⟩,rfl⟩,⟨rfl,by simp⟩,rfl⟩
theorem zaI{l:List Tok}(hd:yq l=false):∀(f:Nat)(k:Nat),∀x∈plR (zz l) l.length f k,0≤x∧x<l.length
 |0,k,x,hx=>by simp[plR]at hx
 |f+1,k,x,hx=>by
  unfold plR at hx
  by_cases hk:(k:Int)<l.length
  ·rw[if_pos hk]at hx
   obtain⟨n,hn1,hn2,hn3⟩:=ZG hd k (by omega)
   rcases List.mem_cons.1 hx with rfl|hx
   ·omega
   ·rw[hn1]at hx;exact zaI hd f n x hx
  ·rw[if_neg hk]at hx;cases hx
theorem zaH{l:List Tok}(hd:yq l=false):∀(f:Nat)(k:Nat),k≤l.length→(plR (zz l) l.length f k).length+k≤l.length
 |0,k,h=>by simp[plR];exact h
 |f+1,k,h=>by
  unfold plR
  by_cases hk:(k:Int)<l.length
  ·rw[if_pos hk]
   obtain⟨n,hn1,hn2,hn3⟩:=ZG hd k (by omega)
   rw[hn1]
   have:=zaH hd f n hn3
   simp only[List.length_cons];omega
  ·rw[if_neg hk];simp;exact h
theorem zbB(l:List Tok)(hd:yq l=false)(hl:l.length≤1000000):∃S:Sum Tryz.prog,S.f=82∧S.flat=false∧S.D [.slc 1 ((zz l).map fun n=>[vi n]),.c (.int .i64 0),.c (.int .i64 l.length)]∧S.r [.slc 1 ((zz l).map fun n=>[vi n]),.c (.int .i64 0),.c (.int .i64 l.length)]=zE (plR (zz l) l.length (l.length+1) 0):=
 ⟨⟨82,fun args=>args= [zE (zz l),vi 0,vi l.length],fun _=>zE (plR (zz l) l.length (l.length+1) 0),fun args h=>by rw[h];exact zmR l hd hl,false⟩,rfl,rfl,rfl,rfl⟩
structure PrS where
 i:Nat
 out:List Part
 ver:Nat
 clk:Nat
theorem zaU(l:List Int)(n:Nat)(h:n<l.length):l.drop n=l.getD n 0::l.drop (n+1):=by
 rw[List.drop_eq_getElem_cons h,List.getD_eq_getElem?_getD,List.getElem?_eq_getElem h];rfl
theorem zmQ(l:List Tok)(hl:l.length≤1000000):zg Tryz.prog 45 [zj l] (ptV l):=by
 by_cases hd:yq l=true
 ·have hO:ptO l=none:=by unfold ptO;rw[if_pos hd]
  rw[zlg hO]
  refine zg.rsub ?_ JC
  refine zg.of (Orc.cons zaf (Orc.nil _)) zqH (by simp[c45]) fun w0 o0=> ?_
  have he:jP l=3:=by unfold jP;rw[if_pos hd]
  simp only[c45,zj,ZW,ZX,zf,hl,he,zE,qR,qQ,yo,qS,go_sem,zc,seval,reduceIte,reduceCtorEq]
 have hd:yq l=false:=by simpa using hd
 have he:jP l=0:=by unfold jP;rw[hd];rfl
 have hlen:(zz l).length=l.length:=by unfold zz;rw[hd];simp[yu]
 obtain⟨S,s1,s2,s3,s4⟩:=zbB l hd hl
 have hmem:=zaI hd (l.length+1) 0
 have hpl:=zaH hd (l.length+1) 0 (Nat.zero_le _)
 generalize hO:ptO l=R
 rw[zlg hO]
 have hO':yg l (plR (zz l) l.length (l.length+1) 0)=R:=by rw[←hO];unfold ptO;rw[hd];rfl
 rw[show((0:Nat):Int)=0 from rfl]at hmem hpl
 generalize plR (zz l) l.length (l.length+1) 0=ps at*
 refine zgw R ?_
 refine zg.of (Orc.cons S (Orc.cons zaf (Orc.nil _))) zqH (by simp[c45]) fun w0 o0=> ?_
 simp only[c45,zj,ZW,ZX,zf,hl,he,zE,s1,s2,s3,s4,qR,qQ,yo,qS,go_sem,zc,seval,reduceIte,reduceCtorEq]
 refine zD.lp (α:=PrS) (fun a=>[(0,.slc 3 (l.map Tok.enc)),(4,.slc 1 ((zz l).map fun n=>[vi n])),(6,.ref 0 a.ver 0 a.out.length),(7,.slc 1 (ps.map fun n=>[vi n])),(8,vi a.i)])
  (fun a=>⟨[⟨a.ver,4,a.out.map Part.enc,false,[vi 0,vs ⟨#[]⟩,vi 0,zA]⟩],a.clk⟩) (fun a=>a.i≤ps.length∧a.out.length≤a.i∧(yg l (ps.drop a.i)).map (a.out++ ·)=R) (fun a=>ps.length - a.i) ⟨0,[],0,1⟩
  ⟨Nat.zero_le _,Nat.zero_le _,by dsimp only;rw[List.drop_zero,hO'];simp⟩ (St.nil 6 4 [vi 0,vs ⟨#[]⟩,vi 0,zA] (by simp[zk]) (St.cut ?_ ?_ ?_)) fun a ha=> ?_
 ·simp[zu,zk,zt]
 ·simp[Heap.alloc]
 ·rfl
 obtain⟨i,out,ver,clk⟩:=a
 obtain⟨h1,h2,h4⟩:=ha
 simp only at h1 h2 h4
 by_cases hk:i=ps.length
 ·subst hk
  rw[List.drop_length]at h4
  simp only[yg,Option.map_some,List.append_nil]at h4
  subst h4
  simp only[Int.lt_irrefl,List.take_length,YZ,yZ,Nat.le_refl,zgv,parts,s1,s2,s3,s4,qR,qQ,yo,qS,go_sem,zc,seval,reduceIte,reduceCtorEq]
 ·have e1:(i:Int)<(ps.length:Int):=by omega
  have e0:(0:Int)≤(i:Int):=by omega
  have hlt:i<ps.length:=by omega
  rw[zaU ps i hlt]at h4
  have hkm:=hmem (ps.getD i 0) (by rw[List.getD_eq_getElem?_getD,List.getElem?_eq_getElem hlt];exact List.getElem_mem _)
  obtain⟨k,hk⟩:∃k:Nat,ps.getD i 0=k:=⟨(ps.getD i 0).toNat,by omega⟩
  rw[hk]at h4 hkm
  have g1:(k:Int)<(l.length:Int):=by omega
  have g0:(0:Int)≤(k:Int):=by omega
  have hkl:k<l.length:=by omega
  have hle:=JX l k
  have hrg:=JW l k hkl
  rw[←Zl l hd k hkl]at hrg
  simp only[yg,Int.toNat_natCast]at h4
  have hp:pAt l k=⟨l.getD k .zero,if 0≤(zz l).getD k 0 then some ((l.take ((zz l).getD k 0).toNat).drop (k+1))else none⟩:=rfl
  obtain⟨en,hen⟩:∃en,(zz l).getD k 0=en:=⟨_,rfl⟩
  rw[hen]at hle hrg h4 hp
  obtain⟨x,hx⟩:∃x,l.getD k .zero=x:=⟨_,rfl⟩
  rw[hx]at h4 hp
  have hot:out.take out.length=out:=List.take_length
  by_cases c1:en=l.length
  ·rw[if_pos c1]at h4
   simp only[Option.map_none]at h4
   subst h4
   simp only[e0,e1,g0,g1,hk,hlen,hx,hen,c1,Tok.enc,zE,zgv,s1,s2,s3,s4,qR,qQ,yo,qS,go_sem,zc,seval,reduceIte,reduceCtorEq]
   first|done|exact⟨hlt,by omega⟩|exact⟨hlt,hkl⟩|omega
  ·rw[if_neg c1]at h4
   by_cases c2:0≤en
   ·rw[if_pos c2]at hp
    have hek:(k:Int)+1≤en:=by omega
    have hk1:((k:Int)+1).toNat=k+1:=by omega
    have hk0:(0:Int)≤(k:Int)+1:=by omega
    have hcut:List.take (en.toNat - (k+1)) (List.drop (k+1) (List.map Tok.enc l))=((l.take en.toNat).drop (k+1)).map Tok.enc:=by
     rw[←List.map_drop,←List.map_take,List.drop_take]
    by_cases c3:x.kind=1
    ·simp only[c3,if_true]at h4
     have h4:(yg l (ps.drop (i+1))).map (out++ ·)=R:=by rw[←h4];cases yg l (ps.drop (i+1))<;>rfl
     simp only[e0,e1,g0,g1,hk,hlen,hx,hen,c1,c2,c3,hle,hek,hk0,hk1,zW,Tok.enc,zE,s1,s2,s3,s4,qR,qQ,yo,qS,go_sem,zc,seval,reduceIte,reduceCtorEq]
     exact⟨by omega,by omega,⟨i+1,out,ver,clk+1⟩,⟨by dsimp only;omega,by dsimp only;omega,h4⟩,by dsimp only;omega,⟨⟨rfl,rfl⟩,by dsimp only;omega⟩,⟨rfl,rfl⟩,rfl⟩
    ·simp only[c3,if_false]at h4
     simp only[e0,e1,g0,g1,hk,hlen,hx,hen,c1,c2,c3,hle,hek,hk0,hk1,hcut,hot,zW,Tok.enc,zE,s1,s2,s3,s4,qR,qQ,yo,qS,go_sem,zc,seval,reduceIte,reduceCtorEq]
     refine⟨by omega,⟨by omega,by omega,by omega⟩,by omega,⟨i+1,out++ [pAt l k],clk+2,clk+3⟩,⟨by dsimp only;omega,by simp;omega,?_⟩,by dsimp only;omega,⟨⟨rfl,by simp⟩,by dsimp only;omega⟩,⟨rfl,?_⟩,rfl⟩
     ·rw[←h4];cases yg l (ps.drop (i+1))<;>simp
     ·rw[hp];simp[Part.enc,avO,zj]
   ·rw[if_neg c2]at hp
    by_cases c3:x.kind=1
    ·simp only[c3,if_true]at h4
     have h4:(yg l (ps.drop (i+1))).map (out++ ·)=R:=by rw[←h4];cases yg l (ps.drop (i+1))<;>rfl
     simp only[e0,e1,g0,g1,hk,hlen,hx,hen,c1,c2,c3,zW,Tok.enc,zE,s1,s2,s3,s4,qR,qQ,yo,qS,go_sem,zc,seval,reduceIte,reduceCtorEq]
     exact⟨by omega,⟨i+1,out,ver,clk+1⟩,⟨by dsimp only;omega,by dsimp only;omega,h4⟩,by dsimp only;omega,⟨⟨rfl,rfl⟩,by dsimp only;omega⟩,⟨rfl,rfl⟩,rfl⟩
    ·simp only[c3,if_false]at h4
     simp only[e0,e1,g0,g1,hk,hlen,hx,hen,c1,c2,c3,hot,zW,Tok.enc,zE,s1,s2,s3,s4,qR,qQ,yo,qS,go_sem,zc,seval,reduceIte,reduceCtorEq]
     refine⟨⟨by omega,by omega,by omega⟩,by omega,⟨i+1,out++ [pAt l k],clk+2,clk+3⟩,⟨by dsimp only;omega,by simp;omega,?_⟩,by dsimp only;omega,⟨⟨rfl,by simp⟩,by dsimp only;omega⟩,⟨rfl,?_⟩,rfl⟩
     ·rw[←h4];cases yg l (ps.drop (i+1))<;>simp
     ·rw[hp];simp[Part.enc,avO]
structure Pa where
 t:Tok
 al:List Tok
instance:Inhabited Pa:=⟨⟨.zero,[]⟩⟩
def Pa.enc(p:Pa):List V:=[vi p.t.kind,vs p.t.text,vi p.t.n,.slc 3 (p.al.map Tok.enc)]
def pas(l:List Pa):V:=.slc 4 (l.map Pa.enc)
def zCC(e:List V):Pa:=⟨zq4 e,zh (e.getD 3 .any)⟩
def dPa(v:V):Pa:=zCC v.cs
def yX(v:V):List Pa:=v.es.map zCC
theorem zm(a n:Int)(s:ByteArray)(l:List Tok):dPa (.agg [.c (.int .i64 a),.c (.string s),.c (.int .i64 n),.slc 3 (l.map Tok.enc)])=⟨⟨a,s,n⟩,l⟩:=by
 show(⟨_,zh (.slc 3 (l.map Tok.enc))⟩:Pa)=_
 rw[zf];rfl
theorem Pa.eta'(p:Pa):(⟨⟨p.t.kind,p.t.text,p.t.n⟩,p.al⟩:Pa)=p:=rfl
theorem Pa.etaT(p:Pa):(⟨p.t.kind,p.t.text,p.t.n⟩:Tok)=p.t:=rfl
theorem zC(sz:Nat)(l:List Pa):yX (.slc sz (l.map Pa.enc))=l:=by
 simp only[yX,V.es,List.map_map]
 conv=>rhs;rw[←List.map_id l]
 apply List.map_congr_left
 intro p _
 exact zm _ _ _ _
theorem z2(l:List Pa)(i:Nat)(d:List V)(h:i<l.length):(l.map Pa.enc).getD i d=(l.getD i default).enc:=by
 simp[List.getD_eq_getElem?_getD,h]
theorem Jo(S:Nat→Bool)(h:Heap):∀l:List Pa,zB (zB (res S h 10)) (l.map Pa.enc)=some (l.map Pa.enc)
 | []=>rfl
 |p::l=>by
  have e:zB (res S h 10) p.enc=some p.enc:=rfl
  simp only[List.map_cons,zB,Jo S h l,e]
theorem Jp(S:Nat→Bool)(h:Heap):∀l:List Pa,zB (zB (res S h 11)) (l.map Pa.enc)=some (l.map Pa.enc)
 | []=>rfl
 |p::l=>by
  have e:zB (res S h 11) p.enc=some p.enc:=rfl
  simp only[List.map_cons,zB,Jp S h l,e]
def zu2(p:Part):Pa:=⟨p.t,p.ar.getD []⟩
def pl(l:List Tok):List Pa:=(ptL l).map zu2
def plV(l:List Tok):V:=.tup [.slc 4 ((pl l).map Pa.enc),vb (ptB l)]
theorem zdx:∀ps:List Part,F2 (F2 (Sub 1)) (ps.map Part.enc) ((ps.map zu2).map Pa.enc)
 | []=>trivial
 |p::ps=>by
  refine⟨⟨Sub.rfl 1 _,Sub.rfl 1 _,Sub.rfl 1 _,?_,trivial⟩,zdx ps⟩
  cases h:p.ar with
  |none=>simp[Sub,avO,zu2,h]
  |some l=>simp only[avO,zu2,h,zj];exact Sub.rfl 1 _
theorem zlf(l:List Tok)(F:Nat→Prop)(w:World)(v:Value)(h:PRep F w v (ptV l)):PRep F w v (plV l):=by
 cases h with
 |tup cs _ hl hx=>
  refine .tup cs _ hl fun i hi=> ?_
  have:=hx i hi
  match i,hi with
  |0,_=>exact Sub.prep 2 (parts (ptL l)) (.slc 4 ((pl l).map Pa.enc)) _ (show Sub 2 (.slc 4 ((ptL l).map Part.enc)) (.slc 4 (((ptL l).map zu2).map Pa.enc))from Or.inr ⟨rfl,zdx (ptL l)⟩) this
  |1,_=>exact this
def kg:Sum Tryz.prog:=⟨75,fun args=>args= [zj (zh (args.getD 0 .any))]∧((zh (args.getD 0 .any))).length≤1000000,fun args=>plV (zh (args.getD 0 .any)),fun args h=>by
 have:=zg.rsub (zsb (zh (args.getD 0 .any)) h.2) (zlf (zh (args.getD 0 .any)));rwa [←h.1]at this,false⟩
theorem zuc:kg.f=75:=rfl
theorem zub(args:List V):kg.D args=(args= [zj (zh (args.getD 0 .any))]∧((zh (args.getD 0 .any))).length≤1000000):=rfl
theorem zhA:kg.flat=false:=rfl
theorem zud(args:List V):kg.r args=plV (zh (args.getD 0 .any)):=rfl
attribute [go_sem] zuc zub zhA zud
def yT:Sum Tryz.prog:=⟨45,fun args=>args= [zj (zh (args.getD 0 .any))]∧((zh (args.getD 0 .any))).length≤1000000,fun args=>plV (zh (args.getD 0 .any)),fun args h=>by
 have:=zg.rsub (zmQ (zh (args.getD 0 .any)) h.2) (zlf (zh (args.getD 0 .any)));rwa [←h.1]at this,false⟩
theorem zo8:yT.f=45:=rfl
theorem zo7(args:List V):yT.D args=(args= [zj (zh (args.getD 0 .any))]∧((zh (args.getD 0 .any))).length≤1000000):=rfl
theorem zeT:yT.flat=false:=rfl
theorem zo9(args:List V):yT.r args=plV (zh (args.getD 0 .any)):=rfl
attribute [go_sem] zo8 zo7 zeT zo9
def rsK(l:List Tok)(kind to:Int):Int→List Int→List (Int×Int)
 |b,[]=>[(b,to)]
 |b,p::ps=>if(l.getD p.toNat .zero).kind=kind then(b,p)::rsK l kind to (p+1) ps else rsK l kind to b ps
def Wu(l:List Tok):List (Int×Int):=Yg l (zz l) l.length 16 (l.length+1) 0
def gS(l:List Tok)(f sf:Nat)(b:Int)(k:Nat):List (Int×Int):=if 0≤y0 l (zz l) l.length 16 f k then(b,y0 l (zz l) l.length 16 f k)::Yg l (zz l) l.length 16 sf (y0 l (zz l) l.length 16 f k+1)else[(b,(l.length:Int))]
theorem ziC{t:Tok}(h:t.kind=16):zG t=⟨#[]⟩:=by unfold zG;simp[h]
theorem zjo{l:List Tok}(hd:yq l=false){k:Nat}(hk:k<l.length)(h:(l.getD k .zero).kind=16):skip (zz l) k=((k+1:Nat):Int):=by
 have hc:zG (l.getD k .zero)=⟨#[]⟩:=ziC h
 unfold skip
 rw[Int.toNat_natCast,Zl l hd k hk]
 unfold Qq
 rw[if_pos hc,if_pos (by omega)];omega
theorem za2{l:List Tok}(hd:yq l=false):(zz l).length=l.length:=by unfold zz;rw[hd];simp[yu]
theorem zgO{l:List Tok}(hd:yq l=false)(sf a:Nat)(ha:a≤l.length):Yg l (zz l) l.length 16 (sf+1) a=gS l (l.length - a) sf a a:=by
 have e:j4 l (zz l) a l.length 16=y0 l (zz l) l.length 16 (l.length - a) a:=by
  unfold j4
  rw[if_neg (by have:=za2 hd;unfold bad;omega),show((l.length:Int) - a).toNat=l.length - a by omega]
 simp only[Yg,gS,e]
theorem zro{l:List Tok}(hd:yq l=false):∀(f' f sf:Nat)(b:Int)(k:Nat),l.length+1≤k+f'→l.length≤k+f→l.length≤sf+k→k≤l.length→gS l f sf b k=rsK l 16 l.length b (plR (zz l) l.length f' k)
 |0,f,sf,b,k,h1,_,_,h4=>by omega
 |f'+1,f,sf,b,k,h1,h2,h3,h4=>by
  by_cases hk:k<l.length
  ·obtain⟨f,rfl⟩:∃g,f=g+1:=⟨f - 1,by omega⟩
   simp only[plR]
   rw[if_pos (by omega)]
   simp only[rsK,Int.toNat_natCast]
   by_cases hc:(l.getD k .zero).kind=16
   ·rw[if_pos hc,zjo hd hk hc]
    have hf:y0 l (zz l) l.length 16 (f+1) k=k:=by simp only[y0,Int.toNat_natCast];rw[if_pos (by omega),if_pos hc]
    unfold gS
    rw[hf,if_pos (by omega)]
    obtain⟨s,rfl⟩:∃s,sf=s+1:=⟨sf - 1,by omega⟩
    have e1:((k:Int)+1)=((k+1:Nat):Int):=by omega
    rw[e1,zgO hd s (k+1) (by omega),zro hd f' (l.length - (k+1)) s ((k+1:Nat):Int) (k+1) (by omega) (by omega) (by omega) (by omega)]
   ·rw[if_neg hc]
    obtain⟨n,hn1,hn2,hn3⟩:=ZG hd k hk
    have hf:y0 l (zz l) l.length 16 (f+1) k=y0 l (zz l) l.length 16 f n:=by
     simp only[y0,Int.toNat_natCast];rw[if_pos (by omega),if_neg hc,hn1]
    have hg:gS l (f+1) sf b k=gS l f sf b n:=by unfold gS;rw[hf]
    rw[hg,hn1]
    exact zro hd f' f sf b n (by omega) (by omega) (by omega) hn3
  ·have hf:y0 l (zz l) l.length 16 f k= -1:=by
    cases f with
    |zero=>rfl
    |succ f=>simp only[y0];rw[if_neg (by omega)]
   unfold gS
   rw[hf,if_neg (by omega)]
   simp only[plR]
   rw[if_neg (by omega)];rfl
theorem zlp{l:List Tok}(hd:yq l=false):Wu l=rsK l 16 l.length 0 (plR (zz l) l.length (l.length+1) 0):=by
 have h:=zgO hd l.length 0 (Nat.zero_le _)
 have h2:=zro hd (l.length+1) (l.length - 0) l.length 0 0 (by omega) (by omega) (by omega) (Nat.zero_le _)
 exact h.trans h2
theorem zmM{l:List Tok}(hd:yq l=false):Y1 l (zz l) 0 l.length 16=prs (Wu l):=by
 have:=za2 hd
 unfold Y1
 rw[decide_eq_false (by unfold bad;omega),cond_false]
 unfold Wu
 rw[show(((l.length:Int) - 0).toNat+1)=l.length+1 by omega]
def upA(l:List Tok)(b:Nat):Nat→Nat→Nat
 |0,k=>k
 |f+1,k=>if k<b∧(l.getD k .zero).kind=1 then upA l b f (k+1)else k
def dnB(l:List Tok)(a:Nat):Nat→Nat
 |0=>0
 |k+1=>if a<k+1∧(l.getD k .zero).kind=1 then dnB l a k else k+1
theorem zlv(l:List Tok)(b:Nat):∀(f k:Nat),k≤b→k≤upA l b f k∧upA l b f k≤b
 |0,k,h=>by simp only[upA];omega
 |f+1,k,h=>by
  simp only[upA]
  split
  ·have:=zlv l b f (k+1) (by omega);omega
  ·omega
theorem zkR(l:List Tok)(a:Nat):∀(k:Nat),a≤k→a≤dnB l a k∧dnB l a k≤k
 |0,h=>by simp only[dnB];omega
 |k+1,h=>by
  simp only[dnB]
  split
  ·have:=zkR l a k (by omega);omega
  ·omega
def trA(l:List Tok):Nat:=upA l l.length l.length 0
def trB(l:List Tok):Nat:=dnB l (trA l) l.length
def Q8(l:List Tok):List Tok:=(l.take (trB l)).drop (trA l)
theorem ze8(l:List Tok):trA l≤trB l∧trB l≤l.length:=by
 have h1:=zlv l l.length l.length 0 (Nat.zero_le _)
 exact zkR l (trA l) l.length h1.2
structure TmS where
 k:Nat
 f:Nat
def trV(l:List Tok):V:=.tup [vi (trA l),vi (trB l)]
theorem zyC(l:List Tok)(hl:l.length≤1000000):zg Tryz.prog 127 [zj l,vi 0,vi l.length] (trV l):=by
 refine zg.of (Orc.cons js (Orc.nil _)) zwh (by simp[zzI]) fun w0 o0=> ?_
 have hl0:(0:Int)≤(l.length:Int):=by omega
 simp only[zzI,zj,hl0,Int.le_refl,z4,z3,zN,z5,go_sem,zc,seval,reduceIte,reduceCtorEq]
 refine zD.lp (α:=TmS) (fun a=>[(0,.slc 3 (l.map Tok.enc)),(1,vi a.k),(2,vi l.length)]) (fun _=>⟨[],0⟩)
  (fun a=>a.k≤l.length∧l.length≤a.k+a.f∧upA l l.length a.f a.k=trA l) (fun a=>l.length - a.k) ⟨0,l.length⟩ ⟨Nat.zero_le _,by dsimp only;omega,rfl⟩ (St.cut ?_ ?_ ?_) fun a ha=> ?_
 ·simp[zu,zk,zt]
 ·simp
 ·rfl
 obtain⟨k,f⟩:=a
 obtain⟨h1,h2,h3⟩:=ha
 simp only at h1 h2 h3
 have e0:(0:Int)≤(k:Int):=by omega
 by_cases hc:k<l.length∧(l.getD k .zero).kind=1
 ·obtain⟨f,rfl⟩:∃g,f=g+1:=⟨f - 1,by omega⟩
  have e1:(k:Int)<(l.length:Int):=by omega
  have hk:=eq_true hc.2
  simp only[upA]at h3
  rw[if_pos hc]at h3
  simp only[e0,e1,hk,Tok.enc,z4,z3,zN,z5,go_sem,zc,seval,reduceIte,reduceCtorEq]
  exact⟨by omega,⟨k+1,f⟩,⟨by dsimp only;omega,by dsimp only;omega,h3⟩,by dsimp only;omega,by dsimp only;omega⟩
 ·have h4:k=trA l:=by
   rw[←h3]
   cases f with
   |zero=>rfl
   |succ f=>simp only[upA];rw[if_neg hc]
  have hbr:=ze8 l
  subst h4
  by_cases e1:((trA l:Nat):Int)<(l.length:Int)
  ·have hk:((l.getD (trA l) .zero).kind=1)=False:=eq_false (fun hh=>hc ⟨by omega,hh⟩)
   simp only[e0,e1,hk,Tok.enc,z4,z3,zN,z5,go_sem,zc,seval,reduceIte,reduceCtorEq]
   refine zD.lp (α:=Nat) (fun k=>[(0,.slc 3 (l.map Tok.enc)),(1,vi (trA l)),(2,vi k)]) (fun _=>⟨[],0⟩)
    (fun k=>trA l≤k∧k≤l.length∧dnB l (trA l) k=trB l) (fun k=>k) l.length ⟨by omega,Nat.le_refl _,rfl⟩ (St.cut ?_ ?_ ?_) fun k hk2=> ?_
   ·simp[zu,zk,zp]
   ·simp
   ·rfl
   obtain⟨g1,g2,g3⟩:=hk2
   by_cases hgt:trA l<k
   ·obtain⟨j,rfl⟩:∃j,k=j+1:=⟨k - 1,by omega⟩
    have d1:((trA l:Nat):Int)<((j+1:Nat):Int):=by omega
    have d2:(((j+1:Nat):Int) - 1).toNat=j:=by omega
    have d3:(0:Int)≤((j+1:Nat):Int) - 1:=by omega
    have d4:((j+1:Nat):Int) - 1<(l.length:Int):=by omega
    simp only[dnB]at g3
    by_cases hs:(l.getD j .zero).kind=1
    ·have hst:=eq_true hs
     rw[if_pos ⟨hgt,hs⟩]at g3
     simp only[d1,d2,d3,d4,hst,Tok.enc,z4,z3,zN,z5,go_sem,zc,seval,reduceIte,reduceCtorEq]
     exact⟨by omega,by omega,j,⟨by omega,by omega,g3⟩,by omega,by omega⟩
    ·have hst:=eq_false hs
     rw[if_neg (fun hh=>hs hh.2)]at g3
     simp only[d1,d2,d3,d4,hst,trV,←g3,Tok.enc,z4,z3,zN,z5,go_sem,zc,seval,reduceIte,reduceCtorEq]
     omega
   ·have d1:¬((trA l:Nat):Int)<(k:Int):=by omega
    have g4:k=trB l:=by
     rw[←g3]
     cases k with
     |zero=>rfl
     |succ j=>simp only[dnB];rw[if_neg (fun hh=>hgt hh.1)]
    simp only[d1,trV,←g4,Tok.enc,z4,z3,zN,z5,go_sem,zc,seval,reduceIte,reduceCtorEq]
  ·simp only[e0,e1,Tok.enc,z4,z3,zN,z5,go_sem,zc,seval,reduceIte,reduceCtorEq]
   refine zD.lp (α:=Nat) (fun k=>[(0,.slc 3 (l.map Tok.enc)),(1,vi (trA l)),(2,vi k)]) (fun _=>⟨[],0⟩)
    (fun k=>trA l≤k∧k≤l.length∧dnB l (trA l) k=trB l) (fun k=>k) l.length ⟨by omega,Nat.le_refl _,rfl⟩ (St.cut ?_ ?_ ?_) fun k hk2=> ?_
   ·simp[zu,zk,zp]
   ·simp
   ·rfl
   obtain⟨g1,g2,g3⟩:=hk2
   by_cases hgt:trA l<k
   ·obtain⟨j,rfl⟩:∃j,k=j+1:=⟨k - 1,by omega⟩
    have d1:((trA l:Nat):Int)<((j+1:Nat):Int):=by omega
    have d2:(((j+1:Nat):Int) - 1).toNat=j:=by omega
    have d3:(0:Int)≤((j+1:Nat):Int) - 1:=by omega
    have d4:((j+1:Nat):Int) - 1<(l.length:Int):=by omega
    simp only[dnB]at g3
    by_cases hs:(l.getD j .zero).kind=1
    ·have hst:=eq_true hs
     rw[if_pos ⟨hgt,hs⟩]at g3
     simp only[d1,d2,d3,d4,hst,Tok.enc,z4,z3,zN,z5,go_sem,zc,seval,reduceIte,reduceCtorEq]
     exact⟨by omega,by omega,j,⟨by omega,by omega,g3⟩,by omega,by omega⟩
    ·have hst:=eq_false hs
     rw[if_neg (fun hh=>hs hh.2)]at g3
     simp only[d1,d2,d3,d4,hst,trV,←g3,Tok.enc,z4,z3,zN,z5,go_sem,zc,seval,reduceIte,reduceCtorEq]
     omega
   ·have d1:¬((trA l:Nat):Int)<(k:Int):=by omega
    have g4:k=trB l:=by
     rw[←g3]
     cases k with
     |zero=>rfl
     |succ j=>simp only[dnB];rw[if_neg (fun hh=>hgt hh.1)]
    simp only[d1,trV,←g4,Tok.enc,z4,z3,zN,z5,go_sem,zc,seval,reduceIte,reduceCtorEq]
theorem zu4(l:List Tok)(hl:l.length≤1000000):zg Tryz.prog 118 [zj l,vi 0,vi l.length] (trV l):=by
 refine zg.of (Orc.nil _) zwb (by simp[zzB]) fun w0 o0=> ?_
 simp only[zzB,zj,go_sem,zc,seval,reduceIte,reduceCtorEq]
 refine zD.lp (α:=TmS) (fun a=>[(0,.slc 3 (l.map Tok.enc)),(1,vi a.k),(2,vi l.length)]) (fun _=>⟨[],0⟩)
  (fun a=>a.k≤l.length∧l.length≤a.k+a.f∧upA l l.length a.f a.k=trA l) (fun a=>l.length - a.k) ⟨0,l.length⟩ ⟨Nat.zero_le _,by dsimp only;omega,rfl⟩ (St.cut ?_ ?_ ?_) fun a ha=> ?_
 ·simp[zu,zk,zt]
 ·simp
 ·rfl
 obtain⟨k,f⟩:=a
 obtain⟨h1,h2,h3⟩:=ha
 simp only at h1 h2 h3
 have e0:(0:Int)≤(k:Int):=by omega
 by_cases hc:k<l.length∧(l.getD k .zero).kind=1
 ·obtain⟨f,rfl⟩:∃g,f=g+1:=⟨f - 1,by omega⟩
  have e1:(k:Int)<(l.length:Int):=by omega
  have hk:=eq_true hc.2
  simp only[upA]at h3
  rw[if_pos hc]at h3
  simp only[e0,e1,hk,Tok.enc,go_sem,zc,seval,reduceIte,reduceCtorEq]
  exact⟨by omega,⟨k+1,f⟩,⟨by dsimp only;omega,by dsimp only;omega,h3⟩,by dsimp only;omega,by dsimp only;omega⟩
 ·have h4:k=trA l:=by
   rw[←h3]
   cases f with
   |zero=>rfl
   |succ f=>simp only[upA];rw[if_neg hc]
  have hbr:=ze8 l
  subst h4
  by_cases e1:((trA l:Nat):Int)<(l.length:Int)
  ·have hk:((l.getD (trA l) .zero).kind=1)=False:=eq_false (fun hh=>hc ⟨by omega,hh⟩)
   simp only[e0,e1,hk,Tok.enc,go_sem,zc,seval,reduceIte,reduceCtorEq]
   refine zD.lp (α:=Nat) (fun k=>[(0,.slc 3 (l.map Tok.enc)),(1,vi (trA l)),(2,vi k)]) (fun _=>⟨[],0⟩)
    (fun k=>trA l≤k∧k≤l.length∧dnB l (trA l) k=trB l) (fun k=>k) l.length ⟨by omega,Nat.le_refl _,rfl⟩ (St.cut ?_ ?_ ?_) fun k hk2=> ?_
   ·simp[zu,zk,zp]
   ·simp
   ·rfl
   obtain⟨g1,g2,g3⟩:=hk2
   by_cases hgt:trA l<k
   ·obtain⟨j,rfl⟩:∃j,k=j+1:=⟨k - 1,by omega⟩
    have d1:((trA l:Nat):Int)<((j+1:Nat):Int):=by omega
    have d2:(((j+1:Nat):Int) - 1).toNat=j:=by omega
    have d3:(0:Int)≤((j+1:Nat):Int) - 1:=by omega
    have d4:((j+1:Nat):Int) - 1<(l.length:Int):=by omega
    simp only[dnB]at g3
    by_cases hs:(l.getD j .zero).kind=1
    ·have hst:=eq_true hs
     rw[if_pos ⟨hgt,hs⟩]at g3
     simp only[d1,d2,d3,d4,hst,Tok.enc,go_sem,zc,seval,reduceIte,reduceCtorEq]
     exact⟨by omega,by omega,j,⟨by omega,by omega,g3⟩,by omega,by omega⟩
    ·have hst:=eq_false hs
     rw[if_neg (fun hh=>hs hh.2)]at g3
     simp only[d1,d2,d3,d4,hst,trV,←g3,Tok.enc,go_sem,zc,seval,reduceIte,reduceCtorEq]
     omega
   ·have d1:¬((trA l:Nat):Int)<(k:Int):=by omega
    have g4:k=trB l:=by
     rw[←g3]
     cases k with
     |zero=>rfl
     |succ j=>simp only[dnB];rw[if_neg (fun hh=>hgt hh.1)]
    simp only[d1,trV,←g4,Tok.enc,go_sem,zc,seval,reduceIte,reduceCtorEq]
  ·simp only[e0,e1,Tok.enc,go_sem,zc,seval,reduceIte,reduceCtorEq]
   refine zD.lp (α:=Nat) (fun k=>[(0,.slc 3 (l.map Tok.enc)),(1,vi (trA l)),(2,vi k)]) (fun _=>⟨[],0⟩)
    (fun k=>trA l≤k∧k≤l.length∧dnB l (trA l) k=trB l) (fun k=>k) l.length ⟨by omega,Nat.le_refl _,rfl⟩ (St.cut ?_ ?_ ?_) fun k hk2=> ?_
   ·simp[zu,zk,zp]
   ·simp
   ·rfl
   obtain⟨g1,g2,g3⟩:=hk2
   by_cases hgt:trA l<k
   ·obtain⟨j,rfl⟩:∃j,k=j+1:=⟨k - 1,by omega⟩
    have d1:((trA l:Nat):Int)<((j+1:Nat):Int):=by omega
    have d2:(((j+1:Nat):Int) - 1).toNat=j:=by omega
    have d3:(0:Int)≤((j+1:Nat):Int) - 1:=by omega
    have d4:((j+1:Nat):Int) - 1<(l.length:Int):=by omega
    simp only[dnB]at g3
    by_cases hs:(l.getD j .zero).kind=1
    ·have hst:=eq_true hs
     rw[if_pos ⟨hgt,hs⟩]at g3
     simp only[d1,d2,d3,d4,hst,Tok.enc,go_sem,zc,seval,reduceIte,reduceCtorEq]
     exact⟨by omega,by omega,j,⟨by omega,by omega,g3⟩,by omega,by omega⟩
    ·have hst:=eq_false hs
     rw[if_neg (fun hh=>hs hh.2)]at g3
     simp only[d1,d2,d3,d4,hst,trV,←g3,Tok.enc,go_sem,zc,seval,reduceIte,reduceCtorEq]
     omega
   ·have d1:¬((trA l:Nat):Int)<(k:Int):=by omega
    have g4:k=trB l:=by
     rw[←g3]
     cases k with
     |zero=>rfl
     |succ j=>simp only[dnB];rw[if_neg (fun hh=>hgt hh.1)]
    simp only[d1,trV,←g4,Tok.enc,go_sem,zc,seval,reduceIte,reduceCtorEq]
def KO:Sum Tryz.prog:=⟨127,fun args=>args= [zj (zh (args.getD 0 .any)),vi 0,vi (zh (args.getD 0 .any)).length]∧((zh (args.getD 0 .any))).length≤1000000,fun args=>trV (zh (args.getD 0 .any)),fun args h=>by
 have:=zyC (zh (args.getD 0 .any)) h.2;rwa [←h.1]at this,false⟩
theorem zpF:KO.f=127:=rfl
theorem zpE(args:List V):KO.D args=(args= [zj (zh (args.getD 0 .any)),vi 0,vi (zh (args.getD 0 .any)).length]∧((zh (args.getD 0 .any))).length≤1000000):=rfl
theorem ze4:KO.flat=false:=rfl
theorem zpG(args:List V):KO.r args=trV (zh (args.getD 0 .any)):=rfl
attribute [go_sem] zpF zpE ze4 zpG
def ZN:Sum Tryz.prog:=⟨118,fun args=>args= [zj (zh (args.getD 0 .any)),vi 0,vi (zh (args.getD 0 .any)).length]∧((zh (args.getD 0 .any))).length≤1000000,fun args=>trV (zh (args.getD 0 .any)),fun args h=>by
 have:=zu4 (zh (args.getD 0 .any)) h.2;rwa [←h.1]at this,false⟩
theorem zkb:ZN.f=118:=rfl
theorem zka(args:List V):ZN.D args=(args= [zj (zh (args.getD 0 .any)),vi 0,vi (zh (args.getD 0 .any)).length]∧((zh (args.getD 0 .any))).length≤1000000):=rfl
theorem zcO:ZN.flat=false:=rfl
theorem zkc(args:List V):ZN.r args=trV (zh (args.getD 0 .any)):=rfl
attribute [go_sem] zkb zka zcO zkc
end Go.Proofs.YtjcmoedalneldaaGreat
