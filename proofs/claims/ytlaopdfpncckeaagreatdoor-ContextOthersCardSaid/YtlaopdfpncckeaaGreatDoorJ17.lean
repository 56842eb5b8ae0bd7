/- Part of the proof of ContextOthers. No condition. -/
import Derived.Test.YtlaopdfpncckeaaGreatDoorJ16
import Derived.Test.YtlaopdfpncckeaaGreatDoorGc
import Derived.Test.YtlaopdfpncckeaaGreatDoorCd
import Derived.Test.YtlaopdfpncckeaaGreatDoorE4
import Derived.Test.YtlaopdfpncckeaaGreatDoorCe
namespace Go.Proofs.YtlaopdfpncckeaaGreatDoor
open Go.Sx
set_option linter.unusedSimpArgs false
set_option linter.unusedVariables false
set_option maxHeartbeats 8000000
set_option maxRecDepth 100000
abbrev NS:=ByteArray×Int
structure Stp where
 name:ByteArray
 n:Int
 items:List Itm
instance:Inhabited Stp:=⟨⟨⟨#[]⟩,0,[]⟩⟩
def Stp.enc(s:Stp):List V:=[vs s.name,vi s.n,.slc 5 (s.items.map Itm.enc)]
def Yt(l:List Stp):V:=.slc 3 (l.map Stp.enc)
def zl2(e:List V):Stp:=⟨(e.getD 0 .any).str,(e.getD 1 .any).int,Y5 (e.getD 2 .any)⟩
def QM(v:V):List Stp:=v.es.map zl2
theorem ziy(s:Stp):zl2 s.enc=s:=by
 simp[zl2,Stp.enc,V.str,V.int,KH]
theorem ziz(sz:Nat)(l:List Stp):QM (.slc sz (l.map Stp.enc))=l:=by
 simp[QM,V.es,Function.comp_def,ziy]
def xE(s:NS):List V:=[vs s.1,vi s.2,zB]
def toS(s:NS):Stp:=⟨s.1,s.2,[]⟩
theorem zaI(S:Nat→Bool)(h:Heap)(l:List NS):zz (zz (res S h 11)) (l.map xE)=some (l.map xE):=yK S h 10 _ (fun _=>rfl) l
theorem zaH(S:Nat→Bool)(h:Heap)(l:List NS):zz (zz (res S h 10)) (l.map xE)=some (l.map xE):=yK S h 9 _ (fun _=>rfl) l
def spR:Option (List NS)→V
 |none=>.tup [zB,vb false]
 |some l=>.tup [.slc 3 (l.map xE),vb true]
def spV(o:Option (List NS)):V:=.tup [Yt ((o.getD []).map toS),vb o.isSome]
theorem znG:∀l:List NS,F2 (F2 (Sub 1)) (l.map xE) ((l.map toS).map Stp.enc)
 | []=>trivial
 |p::l=>⟨⟨Sub.rfl 1 _,Sub.rfl 1 _,by simp[Sub,toS],trivial⟩,znG l⟩
theorem za1(b:Bool)(F:Nat→Prop)(w:World)(v:Value)(h:PRep F w v (.tup [zB,vb b])):PRep F w v (.tup [Yt [],vb b]):=by
 cases h with
 |tup cs _ hl hx=>
  refine .tup cs _ hl fun i hi=> ?_
  have:=hx i hi
  match i,hi with
  |0,_=>exact PRep.nilS 3 this
  |1,_=>exact this
theorem ztl(o:Option (List NS)){f:FuncId}{args:List V}(h:ze Tryz.prog f args (spR o)):ze Tryz.prog f args (spV o):=by
 cases o with
 |none=>exact ze.rsub h (za1 false)
 |some l=>
  refine ze.rsub h fun F w v hp=> ?_
  cases hp with
  |tup cs _ hl hx=>
   refine .tup cs _ hl fun i hi=> ?_
   have:=hx i hi
   match i,hi with
   |0,_=>exact Sub.prep 2 (.slc 3 (l.map xE)) (Yt (l.map toS)) _ (show Sub 2 (.slc 3 (l.map xE)) (.slc 3 ((l.map toS).map Stp.enc))from Or.inr ⟨rfl,znG l⟩) this
   |1,_=>exact this
def yo(u:Int):List Pa→Option (List NS)
 | []=>some []
 | [p]=>if qk p=true then some [(p.t.text,u)]else none
 |p::q::l=>if qk p=true then(match zcG q.t with|some n=>(yo u l).map ((p.t.text,n):: ·)|none=>(yo u (q::l)).map ((p.t.text,u):: ·))else none
def zm4:ByteArray:=⟨#[110,111,110,101]⟩
def isNone(L:List Pa):Bool:=match L with| [p]=>qe p zm4|_=>false
def spO(u:Int)(l:List Tok):Option (List NS):=if ptB l=true then(if pl l= []then none else if isNone (pl l)=true then some []else yo u (pl l))else none
theorem JD(u:Int)(L:List Pa)(k:Nat)(h:k<L.length):yo u (L.drop k)=if qk (L.getD k default)=true then(if k+1<L.length then(match zcG (L.getD (k+1) default).t with|some n=>(yo u (L.drop (k+2))).map (((L.getD k default).t.text,n):: ·)|none=>(yo u (L.drop (k+1))).map (((L.getD k default).t.text,u):: ·))else some [((L.getD k default).t.text,u)])else none:=by
 rw[Yq L k h]
 by_cases h1:k+1<L.length
 ·rw[Yq L (k+1) h1,if_pos h1];rfl
 ·rw[List.drop_eq_nil_of_le (by omega),if_neg h1];rfl
structure SpS where
 k:Nat
 out:List NS
 ver:Nat
 clk:Nat
def okQ(l:List Tok):Prop:=okT l∧∀t∈l,okI t.n
theorem zdr{l:List Tok}(h:∀t∈l,okI t.n):∀ {ks:List Int}{ps:List Part},yD l ks=some ps→∀p∈ps,okI p.t.n
 | [],ps,hp,p,hm=>by simp[yD]at hp;subst hp;cases hm
 |k::ks,ps,hp,p,hm=>by
  simp only[yD]at hp
  split at hp
  ·cases hp
  ·simp only[Option.map_eq_some_iff]at hp
   obtain⟨qs,hq,rfl⟩:=hp
   have ih:=zdr h hq
   have hself:∀i:Nat,okI (l.getD i .zero).n:=fun i=>by
    by_cases hi:i<l.length
    ·rw[List.getD_eq_getElem?_getD,List.getElem?_eq_getElem hi];exact h _ (List.getElem_mem hi)
    ·rw[List.getD_eq_getElem?_getD,List.getElem?_eq_none (by omega)];show okI 0;unfold okI;omega
   split at hm
   ·exact ih p hm
   ·rcases List.mem_cons.1 hm with rfl|hm
    ·exact hself _
    ·exact ih p hm
theorem zAN{l:List Tok}(h:∀t∈l,okI t.n):∀p∈pl l,okI p.t.n:=by
 intro p hp
 unfold pl at hp
 obtain⟨q,hq,rfl⟩:=List.mem_map.1 hp
 unfold ptL at hq
 cases hO:ptO l with
 |none=>rw[hO]at hq;cases hq
 |some qs=>
  rw[hO]at hq
  unfold ptO at hO
  split at hO
  ·cases hO
  ·exact zdr h hO q hq
theorem znE(l:List Tok)(u:Int)(h:okQ l):ze Tryz.prog 38 [zk l,vi u] (spV (spO u l)):=by
 have h1:=h.1.1
 have hm:=KZ h.1
 have hN:=zAN h.2
 have hlen:=Qs l
 unfold spO
 have hfb:=@zdt l
 generalize hL:pl l=L at*
 cases hb:ptB l with
 |false=>
  have hz:=hfb hb
  subst hz
  rw[if_neg (by simp)]
  show ze Tryz.prog 38 [zk l,vi u] (.tup [.slc 3 [],vb false])
  refine ze.of (Orc.cons yr (Orc.cons yZ (Orc.cons Qd (Orc.cons Yv (Orc.nil _))))) zba (by simp[c38]) fun w0 own0=> ?_
  simp only[c38,zk,zh,h1,plV,hL,hb,spR,Bool.false_eq_true,if_false,zc,zb,za,go_sem,seval,reduceIte,reduceCtorEq]
  refine zD.lp (α:=Nat) (fun k=>[(6,.slc 4 []),(7,vb false),(8,.ref 0 0 0 0),(9,vi 0)]) (fun _=>⟨[⟨0,3,[],false,[vs ⟨#[]⟩,vi 0,zB]⟩],1⟩) (fun k=>k=0) (fun k=>0) 0 rfl (St.nil 8 3 [vs ⟨#[]⟩,vi 0,zB] (by simp[zo]) (St.cut ?_ ?_ ?_)) fun k hk=> ?_
  ·simp[zt,zo,zu]
  ·simp[Heap.alloc]
  ·rfl
  simp only[Int.lt_irrefl,List.take_nil,zz,zc,zb,za,go_sem,seval,reduceIte,reduceCtorEq]
 |true=>
 rw[if_pos rfl]
 by_cases hz:L= []
 ·rw[if_pos hz]
  subst hz
  show ze Tryz.prog 38 [zk l,vi u] (.tup [.slc 3 [],vb false])
  refine ze.of (Orc.cons yr (Orc.cons yZ (Orc.cons Qd (Orc.cons Yv (Orc.nil _))))) zba (by simp[c38]) fun w0 own0=> ?_
  simp only[c38,zk,zh,h1,plV,hL,hb,spR,zc,zb,za,go_sem,seval,reduceIte,reduceCtorEq]
  refine zD.lp (α:=Nat) (fun k=>[(6,.slc 4 []),(7,vb true),(8,.ref 0 0 0 0),(9,vi 0)]) (fun _=>⟨[⟨0,3,[],false,[vs ⟨#[]⟩,vi 0,zB]⟩],1⟩) (fun k=>k=0) (fun k=>0) 0 rfl (St.nil 8 3 [vs ⟨#[]⟩,vi 0,zB] (by simp[zo]) (St.cut ?_ ?_ ?_)) fun k hk=> ?_
  ·simp[zt,zo,zu]
  ·simp[Heap.alloc]
  ·rfl
  simp only[Int.lt_irrefl,List.take_nil,zz,zc,zb,za,go_sem,seval,reduceIte,reduceCtorEq]
 rw[if_neg hz]
 have hz0:L.length≠0:=fun hh=>hz (List.length_eq_zero_iff.1 hh)
 have hz1:((L.length:Int)=0)=False:=eq_false (by omega)
 by_cases hn:isNone L=true
 ·rw[if_pos hn]
  obtain⟨p,rfl⟩:∃p,L= [p]:=by
   unfold isNone at hn
   split at hn
   ·exact⟨_,rfl⟩
   ·cases hn
  have hi:qe p ⟨#[110,111,110,101]⟩=true:=hn
  have hp:=(hm p (by simp)).1
  refine ze.rsub ?_ (za1 true)
  refine ze.of (Orc.cons yr (Orc.cons yZ (Orc.cons Qd (Orc.cons Yv (Orc.nil _))))) zba (by simp[c38]) fun w0 own0=> ?_
  simp only[c38,zk,zh,h1,plV,hL,hb,hi,hp,spR,Pa.enc,zK,Pa.eta',zc,zb,za,go_sem,seval,reduceIte,reduceCtorEq]
 rw[if_neg hn]
 have hg0:0<L.length:=by omega
 have hx0:=kM L 0 [vi 0,vs ⟨#[]⟩,vi 0,zB] hg0
 have hp0:=(hm (L.getD 0 default) (by rw[List.getD_eq_getElem?_getD,List.getElem?_eq_getElem hg0];exact List.getElem_mem _)).1
 have hi0:(L.length:Int)=1→qe (L.getD 0 default) ⟨#[110,111,110,101]⟩=false:=fun h1=>by
  obtain⟨p,rfl⟩:=List.length_eq_one_iff.1 (show L.length=1 by omega)
  cases hh:qe p ⟨#[110,111,110,101]⟩with
  |false=>exact hh
  |true=>exact absurd hh (by simpa[isNone,zm4]using hn)
 generalize hR:yo u L=R
 have hLn:L.length≤1000001:=by have:=h.1.1;omega
 generalize L.getD 0 default=p0 at*
 have start:∀Q:Prop,(∀hlt:(L.length:Int)=1∨¬(L.length:Int)=1,Q)→Q:=fun Q f=>f (Decidable.em _)
 refine start _ fun hl1=> ?_
 refine ztl R ?_
 refine ze.of (Orc.cons yr (Orc.cons yZ (Orc.cons Qd (Orc.cons Yv (Orc.nil _))))) zba (by simp[c38]) fun w0 own0=> ?_
 clear start
 rcases hl1 with hl1|hl1
 ·simp only[c38,zk,zh,h1,plV,hL,hb,hz1,hl1,hi0 hl1,hx0,hp0,Pa.enc,zK,Pa.eta',zc,zb,za,go_sem,seval,reduceIte,reduceCtorEq]
  try (refine⟨by omega,?_⟩)
  refine zD.lp (α:=SpS) (fun a=>[(1,vi u),(6,.slc 4 (L.map Pa.enc)),(7,vb true),(8,.ref 0 a.ver 0 a.out.length),(9,vi a.k)])
   (fun a=>⟨[⟨a.ver,3,a.out.map xE,false,[vs ⟨#[]⟩,vi 0,zB]⟩],a.clk⟩) (fun a=>a.k≤L.length∧a.out.length≤a.k∧(yo u (L.drop a.k)).map (a.out++ ·)=R∧(0<a.k→0<a.out.length)) (fun a=>L.length - a.k) ⟨0,[],0,1⟩
   ⟨Nat.zero_le _,Nat.zero_le _,by rw[←hR];simp only[List.drop_zero,List.nil_append];cases yo u L<;>rfl,fun hh=>absurd hh (Nat.lt_irrefl 0)⟩ (St.nil 8 3 [vs ⟨#[]⟩,vi 0,zB] (by simp[zo]) (St.cut ?_ ?_ ?_)) fun a ha=> ?_
  ·simp[zt,zo,zu]
  ·simp[Heap.alloc]
  ·rfl
  obtain⟨k,out,ver,clk⟩:=a
  obtain⟨h2,h3,h4,h5⟩:=ha
  simp only at h2 h3 h4 h5
  by_cases hk:k=L.length
  ·subst hk
   have hop:((0:Int)<(out.length:Int))=True:=eq_true (by have:=h5 (by omega);omega)
   rw[List.drop_length]at h4
   simp only[yo,Option.map_some,List.append_nil]at h4
   subst h4
   simp only[Int.lt_irrefl,hop,spR,List.take_length,kA,zaI,zaH,Nat.le_refl,zc,zb,za,go_sem,seval,reduceIte,reduceCtorEq]
  ·have e1:(k:Int)<(L.length:Int):=by omega
   have e0:(0:Int)≤(k:Int):=by omega
   have hlt:k<L.length:=by omega
   have hg:=kM L k [vi 0,vs ⟨#[]⟩,vi 0,zB] hlt
   have hx:=(hm (L.getD k default) (by rw[List.getD_eq_getElem?_getD,List.getElem?_eq_getElem hlt];exact List.getElem_mem _)).1
   have hxn:=hN (L.getD k default) (by rw[List.getD_eq_getElem?_getD,List.getElem?_eq_getElem hlt];exact List.getElem_mem _)
   have hot:out.take out.length=out:=List.take_length
   rw[JD u L k hlt]at h4
   by_cases hn2:qk (L.getD k default)=true
   ·rw[if_pos hn2]at h4
    by_cases hk1:k+1<L.length
    ·have hg1:=kM L (k+1) [vi 0,vs ⟨#[]⟩,vi 0,zB] hk1
     have hyn:=hN (L.getD (k+1) default) (by rw[List.getD_eq_getElem?_getD,List.getElem?_eq_getElem hk1];exact List.getElem_mem _)
     have e2:((k:Int)+1<(L.length:Int))=True:=eq_true (by omega)
     have e3:((k:Int)+1).toNat=k+1:=by omega
     have e4:(0:Int)≤(k:Int)+1:=by omega
     rw[if_pos hk1]at h4
     generalize L.getD (k+1) default=y at*
     generalize L.getD k default=x at*
     cases hc:zcG y.t with
     |none=>
      rw[hc]at h4
      simp only at h4
      simp only[e0,e1,e2,e3,e4,hg,hg1,hx,hn2,hyn,hc,kF,hot,xE,Pa.enc,zK,Pa.eta',zc,zb,za,go_sem,seval,reduceIte,reduceCtorEq]
      refine⟨by omega,by omega,⟨by omega,by omega,by omega⟩,by omega,⟨k+1,out++ [(x.t.text,u)],_,_⟩,⟨by dsimp only;omega,by simp;omega,?_,by simp⟩,by dsimp only;omega,⟨⟨rfl,by simp⟩,by dsimp only;omega⟩,⟨rfl,by simp[xE]⟩,rfl⟩
      rw[←h4];cases yo u (L.drop (k+1))<;>simp
     |some n=>
      rw[hc]at h4
      simp only at h4
      simp only[e0,e1,e2,e3,e4,hg,hg1,hx,hn2,hyn,hc,kF,hot,xE,Pa.enc,zK,Pa.eta',zc,zb,za,go_sem,seval,reduceIte,reduceCtorEq]
      refine⟨by omega,by omega,by omega,⟨by omega,by omega,by omega⟩,by omega,⟨k+2,out++ [(x.t.text,n)],_,_⟩,⟨by dsimp only;omega,by simp;omega,?_,by simp⟩,by dsimp only;omega,⟨⟨rfl,by simp⟩,by dsimp only;omega⟩,⟨rfl,by simp[xE]⟩,rfl⟩
      rw[←h4];cases yo u (L.drop (k+2))<;>simp
    ·have e2:((k:Int)+1<(L.length:Int))=False:=eq_false (by omega)
     rw[if_neg hk1]at h4
     generalize L.getD k default=x at*
     simp only[e0,e1,e2,hg,hx,hn2,hot,xE,Pa.enc,zK,Pa.eta',zc,zb,za,go_sem,seval,reduceIte,reduceCtorEq]
     refine⟨by omega,⟨by omega,by omega,by omega⟩,by omega,⟨k+1,out++ [(x.t.text,u)],_,_⟩,⟨by dsimp only;omega,by simp;omega,?_,by simp⟩,by dsimp only;omega,⟨⟨rfl,by simp⟩,by dsimp only;omega⟩,⟨rfl,by simp[xE]⟩,rfl⟩
     rw[←h4,List.drop_eq_nil_of_le (by dsimp only;omega)];simp[yo]
   ·rw[if_neg hn2]at h4
    have hn3:qk (L.getD k default)=false:=by simpa using hn2
    generalize L.getD k default=x at*
    simp only[Option.map_none]at h4
    subst h4
    simp only[e0,e1,hg,hx,hn3,spR,Pa.enc,zK,Pa.eta',zc,zb,za,go_sem,seval,reduceIte,reduceCtorEq]
 ·simp only[c38,zk,zh,h1,plV,hL,hb,hz1,hl1,Pa.enc,zK,Pa.eta',zc,zb,za,go_sem,seval,reduceIte,reduceCtorEq]
  refine zD.lp (α:=SpS) (fun a=>[(1,vi u),(6,.slc 4 (L.map Pa.enc)),(7,vb true),(8,.ref 0 a.ver 0 a.out.length),(9,vi a.k)])
   (fun a=>⟨[⟨a.ver,3,a.out.map xE,false,[vs ⟨#[]⟩,vi 0,zB]⟩],a.clk⟩) (fun a=>a.k≤L.length∧a.out.length≤a.k∧(yo u (L.drop a.k)).map (a.out++ ·)=R∧(0<a.k→0<a.out.length)) (fun a=>L.length - a.k) ⟨0,[],0,1⟩
   ⟨Nat.zero_le _,Nat.zero_le _,by rw[←hR];simp only[List.drop_zero,List.nil_append];cases yo u L<;>rfl,fun hh=>absurd hh (Nat.lt_irrefl 0)⟩ (St.nil 8 3 [vs ⟨#[]⟩,vi 0,zB] (by simp[zo]) (St.cut ?_ ?_ ?_)) fun a ha=> ?_
  ·simp[zt,zo,zu]
  ·simp[Heap.alloc]
  ·rfl
  obtain⟨k,out,ver,clk⟩:=a
  obtain⟨h2,h3,h4,h5⟩:=ha
  simp only at h2 h3 h4 h5
  by_cases hk:k=L.length
  ·subst hk
   have hop:((0:Int)<(out.length:Int))=True:=eq_true (by have:=h5 (by omega);omega)
   rw[List.drop_length]at h4
   simp only[yo,Option.map_some,List.append_nil]at h4
   subst h4
   simp only[Int.lt_irrefl,hop,spR,List.take_length,kA,zaI,zaH,Nat.le_refl,zc,zb,za,go_sem,seval,reduceIte,reduceCtorEq]
  ·have e1:(k:Int)<(L.length:Int):=by omega
   have e0:(0:Int)≤(k:Int):=by omega
   have hlt:k<L.length:=by omega
   have hg:=kM L k [vi 0,vs ⟨#[]⟩,vi 0,zB] hlt
   have hx:=(hm (L.getD k default) (by rw[List.getD_eq_getElem?_getD,List.getElem?_eq_getElem hlt];exact List.getElem_mem _)).1
   have hxn:=hN (L.getD k default) (by rw[List.getD_eq_getElem?_getD,List.getElem?_eq_getElem hlt];exact List.getElem_mem _)
   have hot:out.take out.length=out:=List.take_length
   rw[JD u L k hlt]at h4
   by_cases hn2:qk (L.getD k default)=true
   ·rw[if_pos hn2]at h4
    by_cases hk1:k+1<L.length
    ·have hg1:=kM L (k+1) [vi 0,vs ⟨#[]⟩,vi 0,zB] hk1
     have hyn:=hN (L.getD (k+1) default) (by rw[List.getD_eq_getElem?_getD,List.getElem?_eq_getElem hk1];exact List.getElem_mem _)
     have e2:((k:Int)+1<(L.length:Int))=True:=eq_true (by omega)
     have e3:((k:Int)+1).toNat=k+1:=by omega
     have e4:(0:Int)≤(k:Int)+1:=by omega
     rw[if_pos hk1]at h4
     generalize L.getD (k+1) default=y at*
     generalize L.getD k default=x at*
     cases hc:zcG y.t with
     |none=>
      rw[hc]at h4
      simp only at h4
      simp only[e0,e1,e2,e3,e4,hg,hg1,hx,hn2,hyn,hc,kF,hot,xE,Pa.enc,zK,Pa.eta',zc,zb,za,go_sem,seval,reduceIte,reduceCtorEq]
      refine⟨by omega,by omega,⟨by omega,by omega,by omega⟩,by omega,⟨k+1,out++ [(x.t.text,u)],_,_⟩,⟨by dsimp only;omega,by simp;omega,?_,by simp⟩,by dsimp only;omega,⟨⟨rfl,by simp⟩,by dsimp only;omega⟩,⟨rfl,by simp[xE]⟩,rfl⟩
      rw[←h4];cases yo u (L.drop (k+1))<;>simp
     |some n=>
      rw[hc]at h4
      simp only at h4
      simp only[e0,e1,e2,e3,e4,hg,hg1,hx,hn2,hyn,hc,kF,hot,xE,Pa.enc,zK,Pa.eta',zc,zb,za,go_sem,seval,reduceIte,reduceCtorEq]
      refine⟨by omega,by omega,by omega,⟨by omega,by omega,by omega⟩,by omega,⟨k+2,out++ [(x.t.text,n)],_,_⟩,⟨by dsimp only;omega,by simp;omega,?_,by simp⟩,by dsimp only;omega,⟨⟨rfl,by simp⟩,by dsimp only;omega⟩,⟨rfl,by simp[xE]⟩,rfl⟩
      rw[←h4];cases yo u (L.drop (k+2))<;>simp
    ·have e2:((k:Int)+1<(L.length:Int))=False:=eq_false (by omega)
     rw[if_neg hk1]at h4
     generalize L.getD k default=x at*
     simp only[e0,e1,e2,hg,hx,hn2,hot,xE,Pa.enc,zK,Pa.eta',zc,zb,za,go_sem,seval,reduceIte,reduceCtorEq]
     refine⟨by omega,⟨by omega,by omega,by omega⟩,by omega,⟨k+1,out++ [(x.t.text,u)],_,_⟩,⟨by dsimp only;omega,by simp;omega,?_,by simp⟩,by dsimp only;omega,⟨⟨rfl,by simp⟩,by dsimp only;omega⟩,⟨rfl,by simp[xE]⟩,rfl⟩
     rw[←h4,List.drop_eq_nil_of_le (by dsimp only;omega)];simp[yo]
   ·rw[if_neg hn2]at h4
    have hn3:qk (L.getD k default)=false:=by simpa using hn2
    generalize L.getD k default=x at*
    simp only[Option.map_none]at h4
    subst h4
    simp only[e0,e1,hg,hx,hn3,spR,Pa.enc,zK,Pa.eta',zc,zb,za,go_sem,seval,reduceIte,reduceCtorEq]
def Jf:Sum Tryz.prog:=⟨38,fun args=>args= [zk (zj (args.getD 0 .any)),vi ((args.getD 1 .any).int)]∧okQ (zj (args.getD 0 .any)),fun args=>spV (spO ((args.getD 1 .any).int) (zj (args.getD 0 .any))),fun args h=>by
 have:=znE (zj (args.getD 0 .any)) ((args.getD 1 .any).int) h.2;rwa [←h.1]at this,false⟩
theorem zpK:Jf.f=38:=rfl
theorem zpJ(args:List V):Jf.D args=(args= [zk (zj (args.getD 0 .any)),vi ((args.getD 1 .any).int)]∧okQ (zj (args.getD 0 .any))):=rfl
theorem zeF:Jf.flat=false:=rfl
theorem zpL(args:List V):Jf.r args=spV (spO ((args.getD 1 .any).int) (zj (args.getD 0 .any))):=rfl
attribute [go_sem] zpK zpJ zeF zpL

theorem zwL(a:Int):ze Tryz.prog 172 [vi a] (vb false):=by
 refine ze.of (Orc.nil _) zr4 (by simp[zvl]) fun w0 own0=> ?_
 simp only[zvl,go_sem,zd,seval,reduceIte,reduceCtorEq]
def Wr:Sum Tryz.prog:=⟨172,fun args=>args= [vi ((args.getD 0 .any).int)],fun args=>vb false,fun args h=>by
 have:=zwL ((args.getD 0 .any).int);rwa [←h]at this,true⟩
theorem zo1:Wr.f=172:=rfl
theorem zo0(args:List V):Wr.D args=(args= [vi ((args.getD 0 .any).int)]):=rfl
theorem zen:Wr.flat=true:=rfl
theorem zo2(args:List V):Wr.r args=vb false:=rfl
attribute [go_sem] zo1 zo0 zen zo2
def YZ(a b:Int):Int:=if a<b then -1 else if b<a then 1 else 0
theorem zr5(a b:Int):ze Tryz.prog 153 [vi a,vi b] (vi (YZ a b)):=by
 refine ze.of (Orc.cons Wr (Orc.nil _)) zrU (by simp[zlQ]) fun w0 own0=> ?_
 unfold YZ
 by_cases h1:a<b
 ·simp only[zlQ,h1,go_sem,zd,seval,reduceIte,reduceCtorEq]
 ·by_cases h2:b<a
  ·simp only[zlQ,h1,h2,go_sem,zd,seval,reduceIte,reduceCtorEq]
  ·simp only[zlQ,h1,h2,go_sem,zd,seval,reduceIte,reduceCtorEq]
def Kg:Sum Tryz.prog:=⟨153,fun args=>args= [vi ((args.getD 0 .any).int),vi ((args.getD 1 .any).int)],fun args=>vi (YZ ((args.getD 0 .any).int) ((args.getD 1 .any).int)),fun args h=>by
 have:=zr5 ((args.getD 0 .any).int) ((args.getD 1 .any).int);rwa [←h]at this,true⟩
theorem zj2:Kg.f=153:=rfl
theorem zj1(args:List V):Kg.D args=(args= [vi ((args.getD 0 .any).int),vi ((args.getD 1 .any).int)]):=rfl
theorem zbX:Kg.flat=true:=rfl
theorem zj3(args:List V):Kg.r args=vi (YZ ((args.getD 0 .any).int) ((args.getD 1 .any).int)):=rfl
attribute [go_sem] zj2 zj1 zbX zj3
def JI:List Int→List Int→Int
 | [],[]=>0
 | [],_::_=> -1
 |_::_,[]=>1
 |x::a,y::b=>if YZ x y=0 then JI a b else YZ x y
theorem YE(x y:Int)(a b:List Int):JI (x::a) (y::b)=if YZ x y=0 then JI a b else YZ x y:=rfl
theorem Yd(l:List Int)(n:Nat)(h:n<l.length):l.drop n=l.getD n 0::l.drop (n+1):=by
 rw[List.drop_eq_getElem_cons h,List.getD_eq_getElem?_getD,List.getElem?_eq_getElem h];rfl
theorem zr6(a b:List Int)(ha:a.length≤1000000)(hb:b.length≤1000000):ze Tryz.prog 128 [zJ a,zJ b] (vi (JI a b)):=by
 refine ze.of (Orc.cons Kg (Orc.nil _)) zrJ (by simp[zu8]) fun w0 own0=> ?_
 simp only[zu8,zJ,go_sem,zd,seval,reduceIte,reduceCtorEq]
 refine zD.lp (α:=Nat) (fun k=>[(0,.slc 1 (a.map fun n=>[vi n])),(1,.slc 1 (b.map fun n=>[vi n])),(9,.slc 1 (a.map fun n=>[vi n])),(10,vi a.length),(11,vi k)]) (fun _=>⟨[],0⟩)
  (fun k=>k≤a.length∧k≤b.length∧JI a b=JI (a.drop k) (b.drop k)) (fun k=>a.length - k) 0 ⟨Nat.zero_le _,Nat.zero_le _,rfl⟩ (St.mk (by simp[zt,zo,zu])) fun k hk=> ?_
 obtain⟨h1,h2,h3⟩:=hk
 by_cases hkl:k=a.length
 ·subst hkl
  rw[List.drop_length]at h3
  by_cases hb2:a.length<b.length
  ·rw[Yd b _ hb2]at h3
   have e1:(a.length:Int)<(b.length:Int):=by omega
   simp only[Int.lt_irrefl,e1,h3,JI,go_sem,zd,seval,reduceIte,reduceCtorEq]
  ·have e0:a.length=b.length:=by omega
   rw[List.drop_eq_nil_of_le (by omega)]at h3
   have e1:¬(a.length:Int)<(b.length:Int):=by omega
   simp only[Int.lt_irrefl,e1,h3,JI,go_sem,zd,seval,reduceIte,reduceCtorEq]
 ·have e1:(k:Int)<(a.length:Int):=by omega
  have e0:(0:Int)≤(k:Int):=by omega
  rw[Yd a k (by omega)]at h3
  by_cases hb2:k<b.length
  ·rw[Yd b k hb2]at h3
   have e2:¬(b.length:Int)≤(k:Int):=by omega
   have e3:(k:Int)<(b.length:Int):=by omega
   rw[YE]at h3
   by_cases hc:YZ (a.getD k 0) (b.getD k 0)=0
   ·rw[if_pos hc]at h3
    simp only[e0,e1,e2,e3,hc,ya,go_sem,zd,seval,reduceIte,reduceCtorEq]
    exact⟨by omega,k+1,⟨by omega,by omega,h3⟩,by omega,by omega⟩
   ·rw[if_neg hc]at h3
    simp only[e0,e1,e2,e3,hc,h3,ya,go_sem,zd,seval,reduceIte,reduceCtorEq]
  ·rw[List.drop_eq_nil_of_le (show b.length≤k by omega)]at h3
   have e2:(b.length:Int)≤(k:Int):=by omega
   simp only[e0,e1,e2,h3,JI,ya,go_sem,zd,seval,reduceIte,reduceCtorEq]
def Kh:Sum Tryz.prog:=⟨128,fun args=>args= [zJ (zL (args.getD 0 .any)),zJ (zL (args.getD 1 .any))]∧((zL (args.getD 0 .any))).length≤1000000∧((zL (args.getD 1 .any))).length≤1000000,fun args=>vi (JI (zL (args.getD 0 .any)) (zL (args.getD 1 .any))),fun args h=>by
 have:=zr6 (zL (args.getD 0 .any)) (zL (args.getD 1 .any)) h.2.1 h.2.2;rwa [←h.1]at this,true⟩
theorem zj5:Kh.f=128:=rfl
theorem zj4(args:List V):Kh.D args=(args= [zJ (zL (args.getD 0 .any)),zJ (zL (args.getD 1 .any))]∧((zL (args.getD 0 .any))).length≤1000000∧((zL (args.getD 1 .any))).length≤1000000):=rfl
theorem zbY:Kh.flat=true:=rfl
theorem zj6(args:List V):Kh.r args=vi (JI (zL (args.getD 0 .any)) (zL (args.getD 1 .any))):=rfl
attribute [go_sem] zj5 zj4 zbY zj6
structure W3 where
 a:Int
 b:Int
 c:Int
def W3.enc(w:W3):List V:=[vi w.a,vi w.b,vi w.c]
def abv(x y:W3):Bool:=decide (0<JI [x.a,x.b,x.c] [y.a,y.b,y.c])
theorem zv8(a b c:Int):zL (.slc 1 [[.c (.int .i64 a)],[.c (.int .i64 b)],[.c (.int .i64 c)]])= [a,b,c]:=zR 1 [a,b,c]
theorem zlv(x y:W3):ze Tryz.prog 106 [.agg x.enc,.agg y.enc] (vb (abv x y)):=by
 refine ze.of (Orc.cons Kh (Orc.nil _)) zrw (by simp[zuV]) fun w0 own0=> ?_
 simp only[zuV,W3.enc,abv,zJ,zv8,go_sem,zd,seval,reduceIte,reduceCtorEq]
def dW3(v:V):W3:=⟨(v.cs.getD 0 .any).int,(v.cs.getD 1 .any).int,(v.cs.getD 2 .any).int⟩
theorem jn(a b c:Int):dW3 (.agg [.c (.int .i64 a),.c (.int .i64 b),.c (.int .i64 c)])=⟨a,b,c⟩:=rfl
def K4:Sum Tryz.prog:=⟨106,fun args=>args= [.agg (W3.enc (dW3 (args.getD 0 .any))),.agg (W3.enc (dW3 (args.getD 1 .any)))],fun args=>vb (abv (dW3 (args.getD 0 .any)) (dW3 (args.getD 1 .any))),fun args h=>by
 have:=zlv (dW3 (args.getD 0 .any)) (dW3 (args.getD 1 .any));rwa [←h]at this,true⟩
theorem znL:K4.f=106:=rfl
theorem znK(args:List V):K4.D args=(args= [.agg (W3.enc (dW3 (args.getD 0 .any))),.agg (W3.enc (dW3 (args.getD 1 .any)))]):=rfl
theorem zdT:K4.flat=true:=rfl
theorem znM(args:List V):K4.r args=vb (abv (dW3 (args.getD 0 .any)) (dW3 (args.getD 1 .any))):=rfl
attribute [go_sem] znL znK zdT znM
theorem zri(x y:W3):abv x y=true↔(y.a<x.a∨(x.a=y.a∧(y.b<x.b∨(x.b=y.b∧y.c<x.c)))):=by
 unfold abv
 rw[decide_eq_true_eq,YE,YE,YE]
 show 0<(if YZ x.a y.a=0 then if YZ x.b y.b=0 then if YZ x.c y.c=0 then 0 else YZ x.c y.c else YZ x.b y.b else YZ x.a y.a)↔_
 unfold YZ
 split<;>split<;>(try split)<;>(try split)<;>(try split)<;>(try split)<;>(try split)<;>(try split)<;>(try split)<;>omega
theorem zh7(x y:W3):ze Tryz.prog 57 [.agg x.enc,.agg y.enc] (vb (abv x y)):=by
 refine ze.of (Orc.nil _) zvH (by simp[c57]) fun w0 own0=> ?_
 simp only[c57,W3.enc,go_sem,zd,seval,reduceIte,reduceCtorEq]
 refine zD.lp (α:=Nat) (fun k=>[(2,.ptr 0 0 0 0),(3,.ptr 1 1 0 0),(5,vi k)]) (fun _=>⟨[⟨0,3,[x.enc],false,[]⟩,⟨1,3,[y.enc],false,[]⟩],2⟩)
  (fun k=>k≤3∧(0<k→x.a=y.a)∧(1<k→x.b=y.b)∧(2<k→x.c=y.c)) (fun k=>3 - k) 0 ⟨by omega,by omega,by omega,by omega⟩ (St.mk (by simp[zt,zo,zu])) fun k hk=> ?_
 obtain⟨h1,h2,h3,h4⟩:=hk
 have ha:=zri x y
 rcases(show k=0∨k=1∨k=2∨k=3 by omega)with rfl|rfl|rfl|rfl
 ·by_cases h:x.a=y.a
  ·simp only[W3.enc,h,go_sem,zd,seval,reduceIte,reduceCtorEq]
   first|exact⟨1,⟨by omega,by omega,by omega⟩,by omega,by omega⟩|exact⟨by omega,1,⟨by omega,by omega,by omega⟩,by omega,by omega⟩
  ·have e:abv x y=decide (y.a<x.a):=by rw[Bool.eq_iff_iff,ha,decide_eq_true_eq];omega
   simp only[W3.enc,h,e,go_sem,zd,seval,reduceIte,reduceCtorEq]
 ·have g:=h2 (by omega)
  by_cases h:x.b=y.b
  ·simp only[W3.enc,g,h,go_sem,zd,seval,reduceIte,reduceCtorEq]
   exact⟨2,⟨by omega,by omega⟩,by omega,by omega⟩
  ·have e:abv x y=decide (y.b<x.b):=by rw[Bool.eq_iff_iff,ha,decide_eq_true_eq];omega
   simp only[W3.enc,h,e,go_sem,zd,seval,reduceIte,reduceCtorEq]
 ·have g:=h2 (by omega)
  have g2:=h3 (by omega)
  by_cases h:x.c=y.c
  ·simp only[W3.enc,g,g2,h,go_sem,zd,seval,reduceIte,reduceCtorEq]
   exact⟨3,by omega,by omega,by omega⟩
  ·have e:abv x y=decide (y.c<x.c):=by rw[Bool.eq_iff_iff,ha,decide_eq_true_eq];omega
   simp only[W3.enc,h,e,go_sem,zd,seval,reduceIte,reduceCtorEq]
 ·have e:abv x y=false:=by
   cases hb:abv x y with
   |false=>rfl
   |true=>rw[ha]at hb;omega
  simp only[W3.enc,e,go_sem,zd,seval,reduceIte,reduceCtorEq]
def Kb:Sum Tryz.prog:=⟨57,fun args=>args= [.agg (W3.enc (dW3 (args.getD 0 .any))),.agg (W3.enc (dW3 (args.getD 1 .any)))],fun args=>vb (abv (dW3 (args.getD 0 .any)) (dW3 (args.getD 1 .any))),fun args h=>by
 have:=zh7 (dW3 (args.getD 0 .any)) (dW3 (args.getD 1 .any));rwa [←h]at this,true⟩
theorem zjG:Kb.f=57:=rfl
theorem zjF(args:List V):Kb.D args=(args= [.agg (W3.enc (dW3 (args.getD 0 .any))),.agg (W3.enc (dW3 (args.getD 1 .any)))]):=rfl
theorem zbR:Kb.flat=true:=rfl
theorem zjH(args:List V):Kb.r args=vb (abv (dW3 (args.getD 0 .any)) (dW3 (args.getD 1 .any))):=rfl
attribute [go_sem] zjG zjF zbR zjH
structure Ky where
 lv:Int
 w:W3
 od:Int
def Ky.enc(k:Ky):List V:=[vi k.lv,vi k.w.a,vi k.w.b,vi k.w.c,vi k.od]
def dKy(v:V):Ky:=⟨(v.cs.getD 0 .any).int,⟨(v.cs.getD 1 .any).int,(v.cs.getD 2 .any).int,(v.cs.getD 3 .any).int⟩,(v.cs.getD 4 .any).int⟩
theorem kP(l a b c o:Int):dKy (.agg [.c (.int .i64 l),.c (.int .i64 a),.c (.int .i64 b),.c (.int .i64 c),.c (.int .i64 o)])=⟨l,⟨a,b,c⟩,o⟩:=rfl
def bts(x y:Ky):Bool:=if x.lv=y.lv then(if x.w.a=y.w.a∧x.w.b=y.w.b∧x.w.c=y.w.c then decide (y.od<x.od)else abv x.w y.w)else decide (y.lv<x.lv)
theorem zlC(x y:Ky):ze Tryz.prog 76 [.agg x.enc,.agg y.enc] (vb (bts x y)):=by
 refine ze.of (Orc.cons K4 (Orc.nil _)) zvT (by simp[c76]) fun w0 own0=> ?_
 obtain⟨l,⟨a,b,c⟩,o⟩:=x
 obtain⟨l',⟨a',b',c'⟩,o'⟩:=y
 unfold bts
 simp only
 by_cases h1:l=l'
 ·rw[if_pos h1]
  by_cases h2:a=a'∧b=b'∧c=c'
  ·rw[if_pos h2]
   obtain⟨e1,e2,e3⟩:=h2
   subst h1;subst e1;subst e2;subst e3
   simp -implicitDefEqProofs only[c76,Ky.enc,List.isEmpty_cons,zc,zb,za,go_sem,seval,reduceIte,reduceCtorEq]
  ·rw[if_neg h2]
   subst h1
   have hd:dW3 (.agg [.c (.int .i64 a),.c (.int .i64 b),.c (.int .i64 c)])=⟨a,b,c⟩:=rfl
   by_cases e1:a=a'
   ·by_cases e2:b=b'
    ·have e3:¬c=c':=fun h=>h2 ⟨e1,e2,h⟩
     have e1:=eq_true e1;have e2:=eq_true e2;have e3:=eq_false e3
     simp -implicitDefEqProofs only[c76,Ky.enc,List.isEmpty_cons,W3.enc,jn,e1,e2,e3,zc,zb,za,go_sem,seval,reduceIte,reduceCtorEq]
    ·have e1:=eq_true e1;have e2:=eq_false e2
     simp -implicitDefEqProofs only[c76,Ky.enc,List.isEmpty_cons,W3.enc,jn,e1,e2,zc,zb,za,go_sem,seval,reduceIte,reduceCtorEq]
   ·have e1:=eq_false e1
    simp -implicitDefEqProofs only[c76,Ky.enc,List.isEmpty_cons,W3.enc,jn,e1,zc,zb,za,go_sem,seval,reduceIte,reduceCtorEq]
 ·rw[if_neg h1]
  have h1:=eq_false h1
  simp -implicitDefEqProofs only[c76,Ky.enc,List.isEmpty_cons,h1,zc,zb,za,go_sem,seval,reduceIte,reduceCtorEq]
def K6:Sum Tryz.prog:=⟨76,fun args=>args= [.agg (Ky.enc (dKy (args.getD 0 .any))),.agg (Ky.enc (dKy (args.getD 1 .any)))],fun args=>vb (bts (dKy (args.getD 0 .any)) (dKy (args.getD 1 .any))),fun args h=>by
 have:=zlC (dKy (args.getD 0 .any)) (dKy (args.getD 1 .any));rwa [←h]at this,true⟩
theorem znR:K6.f=76:=rfl
theorem znQ(args:List V):K6.D args=(args= [.agg (Ky.enc (dKy (args.getD 0 .any))),.agg (Ky.enc (dKy (args.getD 1 .any)))]):=rfl
theorem zdW:K6.flat=true:=rfl
theorem znS(args:List V):K6.r args=vb (bts (dKy (args.getD 0 .any)) (dKy (args.getD 1 .any))):=rfl
attribute [go_sem] znR znQ zdW znS
def lvl(s:Int)(i:Bool):Int:=if s<0∨2<s then -1 else if i=true then 5 - s else s
theorem zmR(s:Int)(i:Bool):ze Tryz.prog 104 [vi s,vb i] (vi (lvl s i)):=by
 refine ze.of (Orc.nil _) zru (by simp[zlM]) fun w0 own0=> ?_
 unfold lvl
 by_cases h1:s<0
 ·rw[if_pos (.inl h1)]
  have h1:=eq_true h1
  simp -implicitDefEqProofs only[zlM,h1,zc,zb,za,go_sem,seval,reduceIte,reduceCtorEq]
 ·by_cases h2:2<s
  ·rw[if_pos (.inr h2)]
   have h1:=eq_false h1;have h3:=eq_true (show(3:Int)≤s by omega)
   simp -implicitDefEqProofs only[zlM,h1,h3,zc,zb,za,go_sem,seval,reduceIte,reduceCtorEq]
  ·rw[if_neg (by omega)]
   have h3:=eq_false (show ¬(3:Int)≤s by omega)
   have o1:=eq_true (show -9223372036854775808≤5 - s by omega)
   have o2:=eq_true (show 5 - s≤9223372036854775807 by omega)
   have h1:=eq_false h1
   cases i<;>simp -implicitDefEqProofs only[zlM,h1,h3,o1,o2,if_true,Bool.false_eq_true,if_false,zc,zb,za,go_sem,seval,reduceIte,reduceCtorEq]
def Ja:Sum Tryz.prog:=⟨104,fun args=>args= [vi ((args.getD 0 .any).int),vb (V.boo (args.getD 1 .any))],fun args=>vi (lvl ((args.getD 0 .any).int) (V.boo (args.getD 1 .any))),fun args h=>by
 have:=zmR ((args.getD 0 .any).int) (V.boo (args.getD 1 .any));rwa [←h]at this,true⟩
theorem zoS:Ja.f=104:=rfl
theorem zoR(args:List V):Ja.D args=(args= [vi ((args.getD 0 .any).int),vb (V.boo (args.getD 1 .any))]):=rfl
theorem zek:Ja.flat=true:=rfl
theorem zoT(args:List V):Ja.r args=vi (lvl ((args.getD 0 .any).int) (V.boo (args.getD 1 .any))):=rfl
attribute [go_sem] zoS zoR zek zoT
structure Sh where
 num:Int
 right:Bool
 first:Bool
 blank:Bool
 name:ByteArray
 seg:Int
def Sh.enc(s:Sh):List V:=[vi s.num,vb s.right,vb s.first,vb s.blank,vs s.name,vi s.seg]
def yd(v:V):Sh:=⟨(v.cs.getD 0 .any).int,V.boo (v.cs.getD 1 .any),V.boo (v.cs.getD 2 .any),V.boo (v.cs.getD 3 .any),(v.cs.getD 4 .any).str,(v.cs.getD 5 .any).int⟩
theorem zH(a f:Int)(b c d:Bool)(e:ByteArray):yd (.agg [.c (.int .i64 a),.c (.bool b),.c (.bool c),.c (.bool d),.c (.string e),.c (.int .i64 f)])=⟨a,b,c,d,e,f⟩:=rfl
structure PSel where
 name:ByteArray
 first:Int
 blank:Int
 left:Int
 right:Int
instance:Inhabited PSel:=⟨⟨⟨#[]⟩,0,0,0,0⟩⟩
def PSel.enc(s:PSel):List V:=[vs s.name,vi s.first,vi s.blank,vi s.left,vi s.right]
def qZ(l:List PSel):V:=.slc 5 (l.map PSel.enc)
def Xe(e:List V):PSel:=⟨(e.getD 0 .any).str,(e.getD 1 .any).int,(e.getD 2 .any).int,(e.getD 3 .any).int,(e.getD 4 .any).int⟩
def yT(v:V):PSel:=Xe v.cs
def qj(v:V):List PSel:=v.es.map Xe
theorem kK(a:ByteArray)(b c d e:Int):yT (.agg [.c (.string a),.c (.int .i64 b),.c (.int .i64 c),.c (.int .i64 d),.c (.int .i64 e)])=⟨a,b,c,d,e⟩:=rfl
theorem Xf(sz:Nat)(l:List PSel):qj (.slc sz (l.map PSel.enc))=l:=by
 simp only[qj,V.es,List.map_map]
 conv=>rhs;rw[←List.map_id l]
 apply List.map_congr_left
 intro s _
 rfl
theorem PSel.eta'(s:PSel):(⟨s.name,s.first,s.blank,s.left,s.right⟩:PSel)=s:=rfl
theorem Sh.eta'(s:Sh):(⟨s.num,s.right,s.first,s.blank,s.name,s.seg⟩:Sh)=s:=rfl
theorem Xu(l:List PSel)(i:Nat):(l.map PSel.enc).getD i [vs ⟨#[]⟩,vi 0,vi 0,vi 0,vi 0]=(l.getD i default).enc:=by
 by_cases h:i<l.length
 ·simp[List.getD_eq_getElem?_getD,h]
 ·simp[List.getD_eq_getElem?_getD,h];rfl
def stB(ok:Bool)(n:Int)(b:Bool):Bool:=ok&&(decide (n≤0)||b)
def isP(s:PSel)(p:Sh):Bool:=stB (stB (stB (stB (decide (s.name=⟨#[]⟩)||decide (s.name=p.name)) s.first p.first) s.blank p.blank) s.left (!p.right)) s.right p.right
theorem zsB(s:PSel)(p:Sh):isP s p=true↔(s.name=⟨#[]⟩∨s.name=p.name)∧(s.first≤0∨p.first=true)∧(s.blank≤0∨p.blank=true)∧(s.left≤0∨p.right=false)∧(s.right≤0∨p.right=true):=by
 simp[isP,stB,and_assoc]
theorem zlz(B0 B1:Blk)(n:Int)(b ok:Bool):zx Tryz.prog 171 [vi n,vb b,.ptr 2 2 0 0] ⟨[B0,B1,⟨2,1,[[vb ok]],false,[]⟩],3⟩ (.tup []) ⟨[B0,B1,⟨2,1,[[vb (ok&&(decide (n≤0)||b))]],false,[]⟩],3⟩:=by
 refine zx.walk (Orc.nil _) zr3 (by simp[zvk]) fun w0 own0=> ?_
 simp only[zvk,go_sem,zd,seval,reduceIte,reduceCtorEq]
 intro h
 refine⟨h,?_⟩
 by_cases hn:n≤0
 ·exact .inl hn
 ·exact .inr ⟨h,hn⟩
def zhq(B0 B1:Blk)(ok:Bool):Heap:=⟨[B0,B1,⟨2,1,[[vb ok]],false,[]⟩],3⟩
def zAC(args:List V)(h:Heap):Prop:=∃(B0 B1:Blk)(n:Int)(b ok:Bool),args= [vi n,vb b,.ptr 2 2 0 0]∧h=zhq B0 B1 ok
def zxv(args:List V)(h:Heap):Heap:=zhq (h.blk 0) (h.blk 1) (stB (V.boo (((h.blk 2).es.getD 0 []).getD 0 .any)) (args.getD 0 .any).int (V.boo (args.getD 1 .any)))
theorem zhp(B0 B1:Blk)(n:Int)(b ok:Bool)(p:V):zxv [vi n,vb b,p] (zhq B0 B1 ok)=zhq B0 B1 (stB ok n b):=rfl
def zw7:ESum Tryz.prog:=⟨171,zAC,fun _ _=>.tup [],zxv,fun args h hp=>by
 obtain⟨B0,B1,n,b,ok,rfl,rfl⟩:=hp
 rw[zhp];exact zlz B0 B1 n b ok⟩
theorem zrl:∃A:ESum Tryz.prog,A.f=171∧(∀B0 B1 n b ok,A.pre [.c (.int .i64 n),.c (.bool b),.ptr 2 2 0 0] ⟨[B0,B1,⟨2,1,[[.c (.bool ok)]],false,[]⟩],3⟩)∧(∀args h,A.v args h= .tup [])∧
  ∀B0 B1 n b ok,A.hp [.c (.int .i64 n),.c (.bool b),.ptr 2 2 0 0] ⟨[B0,B1,⟨2,1,[[.c (.bool ok)]],false,[]⟩],3⟩=⟨[B0,B1,⟨2,1,[[.c (.bool (stB ok n b))]],false,[]⟩],3⟩:=
 ⟨zw7,rfl,fun B0 B1 n b ok=>⟨B0,B1,n,b,ok,rfl,rfl⟩,fun _ _=>rfl,fun B0 B1 n b ok=>zhp B0 B1 n b ok _⟩
structure AskE (e:Nat→V):Prop where
 a:e 2= .ptr 0 0 0 0
 b:e 3= .ptr 1 1 0 0
 c:e 5= .ptr 2 2 0 0
 d:e 6= .fn 171 [.ptr 2 2 0 0]
def zcA(A:ESum Tryz.prog):Prop:=A.f=171∧(∀B0 B1 n b ok,A.pre [.c (.int .i64 n),.c (.bool b),.ptr 2 2 0 0] ⟨[B0,B1,⟨2,1,[[.c (.bool ok)]],false,[]⟩],3⟩)∧(∀args h,A.v args h= .tup [])∧
    ∀B0 B1 n b ok,A.hp [.c (.int .i64 n),.c (.bool b),.ptr 2 2 0 0] ⟨[B0,B1,⟨2,1,[[.c (.bool ok)]],false,[]⟩],3⟩=⟨[B0,B1,⟨2,1,[[.c (.bool (stB ok n b))]],false,[]⟩],3⟩
def hpA(s:PSel)(p:Sh)(ok:Bool):Heap:=⟨[⟨0,5,[s.enc],false,[]⟩,⟨1,6,[p.enc],false,[]⟩,⟨2,1,[[vb ok]],false,[]⟩],3⟩
theorem zuL{A:ESum Tryz.prog}(hA:zcA A)(s:PSel)(p:Sh)(ok:Bool)(w0:World)(own0:Sx.Own)(rest:C)(Q:z4)(e:Nat→V)(he:AskE e)
  (hK:∀e',AskE e'→wpC ⟨Tryz.prog,Orc.econs A (Orc.nil _),44,w0,own0⟩ rest Q e' (hpA s p (stB ok (s.first) (p.first)))):wpC ⟨Tryz.prog,Orc.econs A (Orc.nil _),44,w0,own0⟩ (.seq jW.body.tl.tl.tl.hd rest) Q e (hpA s p ok):=by
 obtain⟨e1,hp,e3,hh⟩:=hA
 obtain⟨a,b,c,d⟩:=he
 unfold hpA at hK⊢
 simp only[jW,C.hd,C.tl,PSel.enc,Sh.enc,a,b,c,d,Orc.flat_econs,Orc.pre_econs,Orc.v_econs,Orc.hp_econs,Orc.qpre_econs,Orc.qv_econs,e1,e3,hp,hh,go_sem,zd,seval,reduceIte,reduceCtorEq]
 exact hK _ ⟨by simp[zo,a],by simp[zo,b],by simp[zo,c],by simp[zo,d]⟩
theorem zuM{A:ESum Tryz.prog}(hA:zcA A)(s:PSel)(p:Sh)(ok:Bool)(w0:World)(own0:Sx.Own)(rest:C)(Q:z4)(e:Nat→V)(he:AskE e)
  (hK:∀e',AskE e'→wpC ⟨Tryz.prog,Orc.econs A (Orc.nil _),44,w0,own0⟩ rest Q e' (hpA s p (stB ok (s.blank) (p.blank)))):wpC ⟨Tryz.prog,Orc.econs A (Orc.nil _),44,w0,own0⟩ (.seq jW.body.tl.tl.tl.tl.hd rest) Q e (hpA s p ok):=by
 obtain⟨e1,hp,e3,hh⟩:=hA
 obtain⟨a,b,c,d⟩:=he
 unfold hpA at hK⊢
 simp only[jW,C.hd,C.tl,PSel.enc,Sh.enc,a,b,c,d,Orc.flat_econs,Orc.pre_econs,Orc.v_econs,Orc.hp_econs,Orc.qpre_econs,Orc.qv_econs,e1,e3,hp,hh,go_sem,zd,seval,reduceIte,reduceCtorEq]
 exact hK _ ⟨by simp[zo,a],by simp[zo,b],by simp[zo,c],by simp[zo,d]⟩
theorem zuN{A:ESum Tryz.prog}(hA:zcA A)(s:PSel)(p:Sh)(ok:Bool)(w0:World)(own0:Sx.Own)(rest:C)(Q:z4)(e:Nat→V)(he:AskE e)
  (hK:∀e',AskE e'→wpC ⟨Tryz.prog,Orc.econs A (Orc.nil _),44,w0,own0⟩ rest Q e' (hpA s p (stB ok (s.left) (!p.right)))):wpC ⟨Tryz.prog,Orc.econs A (Orc.nil _),44,w0,own0⟩ (.seq jW.body.tl.tl.tl.tl.tl.hd rest) Q e (hpA s p ok):=by
 obtain⟨e1,hp,e3,hh⟩:=hA
 obtain⟨a,b,c,d⟩:=he
 unfold hpA at hK⊢
 simp only[jW,C.hd,C.tl,PSel.enc,Sh.enc,a,b,c,d,Orc.flat_econs,Orc.pre_econs,Orc.v_econs,Orc.hp_econs,Orc.qpre_econs,Orc.qv_econs,e1,e3,hp,hh,go_sem,zd,seval,reduceIte,reduceCtorEq]
 exact hK _ ⟨by simp[zo,a],by simp[zo,b],by simp[zo,c],by simp[zo,d]⟩
theorem zuO{A:ESum Tryz.prog}(hA:zcA A)(s:PSel)(p:Sh)(ok:Bool)(w0:World)(own0:Sx.Own)(rest:C)(Q:z4)(e:Nat→V)(he:AskE e)
  (hK:∀e',AskE e'→wpC ⟨Tryz.prog,Orc.econs A (Orc.nil _),44,w0,own0⟩ rest Q e' (hpA s p (stB ok (s.right) (p.right)))):wpC ⟨Tryz.prog,Orc.econs A (Orc.nil _),44,w0,own0⟩ (.seq jW.body.tl.tl.tl.tl.tl.tl.hd rest) Q e (hpA s p ok):=by
 obtain⟨e1,hp,e3,hh⟩:=hA
 obtain⟨a,b,c,d⟩:=he
 unfold hpA at hK⊢
 simp only[jW,C.hd,C.tl,PSel.enc,Sh.enc,a,b,c,d,Orc.flat_econs,Orc.pre_econs,Orc.v_econs,Orc.hp_econs,Orc.qpre_econs,Orc.qv_econs,e1,e3,hp,hh,go_sem,zd,seval,reduceIte,reduceCtorEq]
 exact hK _ ⟨by simp[zo,a],by simp[zo,b],by simp[zo,c],by simp[zo,d]⟩
theorem zAF(A:ESum Tryz.prog)(s:PSel)(p:Sh)(w0:World)(own0:Sx.Own)(rest:C)(Q:z4)(hK:∀e,AskE e→wpC ⟨Tryz.prog,Orc.econs A (Orc.nil _),44,w0,own0⟩ rest Q e (hpA s p (decide (s.name=⟨#[]⟩)||decide (s.name=p.name)))):
  wpC ⟨Tryz.prog,Orc.econs A (Orc.nil _),44,w0,own0⟩ (.seq jW.body.hd (.seq jW.body.tl.hd (.seq jW.body.tl.tl.hd rest))) Q (ZW [.agg s.enc,.agg p.enc]) ⟨[],0⟩:=by
 unfold hpA at hK
 simp only[jW,C.hd,C.tl,PSel.enc,Sh.enc,go_sem,zd,seval,reduceIte,reduceCtorEq]at hK⊢
 refine⟨Decidable.em _,?_⟩
 refine hK _ ⟨?_,?_,?_,?_⟩
 all_goals simp[zo]
theorem zxG(s:PSel)(p:Sh):ze Tryz.prog 152 [.agg s.enc,.agg p.enc] (vb (isP s p)):=by
 obtain⟨A,hA⟩:∃A,zcA A:=zrl
 refine ze.of (Orc.econs A (Orc.nil _)) zrT (by simp[jW]) fun w0 own0=> ?_
 refine zAF A s p w0 own0 (.seq jW.body.tl.tl.tl.hd (.seq jW.body.tl.tl.tl.tl.hd (.seq jW.body.tl.tl.tl.tl.tl.hd (.seq jW.body.tl.tl.tl.tl.tl.tl.hd jW.body.tl.tl.tl.tl.tl.tl.tl)))) _ fun e he=> ?_
 refine zuL hA s p _ w0 own0 _ _ e he fun e he=>zuM hA s p _ w0 own0 _ _ e he fun e he=>zuN hA s p _ w0 own0 _ _ e he fun e he=>zuO hA s p _ w0 own0 _ _ e he fun e he=> ?_
 obtain⟨a,b,c,d⟩:=he
 unfold hpA isP
 simp only[jW,C.hd,C.tl,PSel.enc,Sh.enc,a,b,c,d,go_sem,zd,seval,reduceIte,reduceCtorEq]
theorem zwt(s:PSel)(p:Sh):ze Tryz.prog 55 [.agg s.enc,.agg p.enc] (vb (isP s p)):=by
 refine ze.of (Orc.nil _) zvF (by simp[c55]) fun w0 own0=> ?_
 have hI:=zsB s p
 have hf:¬((s.name=⟨#[]⟩∨s.name=p.name)∧(s.first≤0∨p.first=true)∧(s.blank≤0∨p.blank=true)∧(s.left≤0∨p.right=false)∧(s.right≤0∨p.right=true))→false=isP s p:=fun hn=>by
  cases hb:isP s p with
  |false=>rfl
  |true=>exact absurd (hI.1 hb) hn
 generalize isP s p=R at*
 simp only[c55,PSel.enc,Sh.enc,go_sem,zd,seval,reduceIte,reduceCtorEq]
 refine⟨fun h=> ?_,fun h=> ?_⟩
 ·exact hf fun hh=>by rcases hh.1 with e|e;exact h.1 e;exact h.2 e
 refine zD.lp (α:=Nat) (fun k=>[(2,.ptr 0 0 0 0),(5,.ref 2 2 0 4),(6,vi k)]) (fun _=>⟨[⟨0,5,[s.enc],false,[]⟩,⟨1,6,[p.enc],false,[]⟩,⟨2,1,[[vb p.first],[vb p.blank],[vb (!p.right)],[vb p.right]],false,[vb false]⟩],3⟩)
  (fun k=>k≤4∧(0<k→s.first≤0∨p.first=true)∧(1<k→s.blank≤0∨p.blank=true)∧(2<k→s.left≤0∨p.right=false)∧(3<k→s.right≤0∨p.right=true)) (fun k=>4 - k) 0 ⟨by omega,by omega,by omega,by omega,by omega⟩ (St.cut ?_ ?_ ?_) fun k hk=> ?_
 ·simp[zt,zo,zu]
 ·simp[Heap.alloc,PSel.enc,Sh.enc]
 ·rfl
 obtain⟨h1,h2,h3,h4,h5⟩:=hk
 rcases(show k=0∨k=1∨k=2∨k=3∨k=4 by omega)with rfl|rfl|rfl|rfl|rfl
 all_goals simp only[PSel.enc,go_sem,zd,seval,reduceIte,reduceCtorEq]
 ·refine⟨fun hc=>hf fun hh=> ?_,fun hc=>⟨1,⟨by omega,fun _=> ?_,by omega,by omega,by omega⟩,by omega,by omega⟩⟩
  ·rcases hh.2.1 with e|e
   ·omega
   ·rw[e]at hc;cases hc.2
  ·rcases hc with e|e
   ·exact .inl (by omega)
   ·exact .inr e
 ·refine⟨fun hc=>hf fun hh=> ?_,fun hc=>⟨2,⟨by omega,fun _=>h2 (by omega),fun _=> ?_,by omega,by omega⟩,by omega,by omega⟩⟩
  ·rcases hh.2.2.1 with e|e
   ·omega
   ·rw[e]at hc;cases hc.2
  ·rcases hc with e|e
   ·exact .inl (by omega)
   ·exact .inr e
 ·refine⟨fun hc=>hf fun hh=> ?_,fun hc=>⟨3,⟨by omega,fun _=>h2 (by omega),fun _=>h3 (by omega),fun _=> ?_,by omega⟩,by omega,by omega⟩⟩
  ·rcases hh.2.2.2.1 with e|e
   ·omega
   ·rw[e]at hc;cases hc.2
  ·rcases hc with e|e
   ·exact .inl (by omega)
   ·exact .inr e
 ·refine⟨fun hc=>hf fun hh=> ?_,fun hc=>⟨4,⟨by omega,fun _=>h2 (by omega),fun _=>h3 (by omega),fun _=>h4 (by omega),fun _=> ?_⟩,by omega,by omega⟩⟩
  ·rcases hh.2.2.2.2 with e|e
   ·omega
   ·rw[e]at hc;cases hc.2
  ·rcases hc with e|e
   ·exact .inl (by omega)
   ·exact .inr e
 ·exact(hI.2 ⟨by rcases h with e|e;exact .inl e;exact .inr e,h2 (by omega),h3 (by omega),h4 (by omega),h5 (by omega)⟩).symm
def Wl:Sum Tryz.prog:=⟨152,fun args=>args= [.agg (PSel.enc (yT (args.getD 0 .any))),.agg (Sh.enc (yd (args.getD 1 .any)))],fun args=>vb (isP (yT (args.getD 0 .any)) (yd (args.getD 1 .any))),fun args h=>by
 have:=zxG (yT (args.getD 0 .any)) (yd (args.getD 1 .any));rwa [←h]at this,true⟩
theorem zor:Wl.f=152:=rfl
theorem zoq(args:List V):Wl.D args=(args= [.agg (PSel.enc (yT (args.getD 0 .any))),.agg (Sh.enc (yd (args.getD 1 .any)))]):=rfl
theorem zeb:Wl.flat=true:=rfl
theorem zos(args:List V):Wl.r args=vb (isP (yT (args.getD 0 .any)) (yd (args.getD 1 .any))):=rfl
attribute [go_sem] zor zoq zeb zos
def Wm:Sum Tryz.prog:=⟨55,fun args=>args= [.agg (PSel.enc (yT (args.getD 0 .any))),.agg (Sh.enc (yd (args.getD 1 .any)))],fun args=>vb (isP (yT (args.getD 0 .any)) (yd (args.getD 1 .any))),fun args h=>by
 have:=zwt (yT (args.getD 0 .any)) (yd (args.getD 1 .any));rwa [←h]at this,true⟩
theorem zou:Wm.f=55:=rfl
theorem zot(args:List V):Wm.D args=(args= [.agg (PSel.enc (yT (args.getD 0 .any))),.agg (Sh.enc (yd (args.getD 1 .any)))]):=rfl
theorem zec:Wm.flat=true:=rfl
theorem zov(args:List V):Wm.r args=vb (isP (yT (args.getD 0 .any)) (yd (args.getD 1 .any))):=rfl
attribute [go_sem] zou zot zec zov
theorem zkN(s:PSel)(h: -9223372036854775808≤s.first+s.blank∧s.first+s.blank≤9223372036854775807∧ -9223372036854775808≤s.left+s.right∧s.left+s.right≤9223372036854775807):
  ze Tryz.prog 151 [.agg s.enc] (.agg (W3.enc ⟨if s.name=⟨#[]⟩then 0 else 1,s.first+s.blank,s.left+s.right⟩)):=by
 refine ze.of (Orc.nil _) zrS (by simp[zrR]) fun w0 own0=> ?_
 by_cases hn:s.name=⟨#[]⟩
 ·simp only[zrR,PSel.enc,W3.enc,hn,h.1,h.2,go_sem,zd,seval,reduceIte,reduceCtorEq]
 ·simp only[zrR,PSel.enc,W3.enc,hn,h.1,h.2,go_sem,zd,seval,reduceIte,reduceCtorEq]
def wtP(s:PSel):W3:=⟨if s.name=⟨#[]⟩then 0 else 1,s.first+s.blank,s.left+s.right⟩
def kV(s:PSel):Prop:= -2000≤s.first∧s.first≤2000∧ -2000≤s.blank∧s.blank≤2000∧ -2000≤s.left∧s.left≤2000∧ -2000≤s.right∧s.right≤2000
def zeK:Sum Tryz.prog:=⟨151,fun args=>args= [.agg (PSel.enc (yT (args.getD 0 .any)))]∧kV (yT (args.getD 0 .any)),fun args=>.agg (W3.enc (wtP (yT (args.getD 0 .any)))),fun args h=>by
 have:=zkN (yT (args.getD 0 .any)) (by have:=h.2;unfold kV at this;omega);rwa [←h.1]at this,false⟩
theorem ztF:zeK.f=151:=rfl
theorem ztE(args:List V):zeK.D args=(args= [.agg (PSel.enc (yT (args.getD 0 .any)))]∧kV (yT (args.getD 0 .any))):=rfl
theorem zgY:zeK.flat=false:=rfl
theorem ztG(args:List V):zeK.r args= .agg (W3.enc (wtP (yT (args.getD 0 .any)))):=rfl
attribute [go_sem] ztF ztE zgY ztG
def shC:List Cell:=[.int .i64,.bool,.bool,.bool,.str,.int .i64]
theorem zw3{xs:List V}(hl:xs.length=6)(h:∀i c,shC[i]? =some c→CellOK c (xs.getD i .any)):∃s:Sh,xs=s.enc:=by
 have a0:=h 0 _ rfl
 have a1:=h 1 _ rfl
 have a2:=h 2 _ rfl
 have a3:=h 3 _ rfl
 have a4:=h 4 _ rfl
 have a5:=h 5 _ rfl
 match xs,hl with
 | [a,b,c,d,e,f],_=>
   simp only[List.getD_cons_zero,List.getD_cons_succ]at a0 a1 a2 a3 a4 a5
   cases a0;cases a1;cases a2;cases a3;cases a4;cases a5
   exact⟨⟨_,_,_,_,_,_⟩,rfl⟩
def zhr(p:Sh)(a:W3×Bool)(s:PSel):W3×Bool:=if isP s p=true then(if a.2=false∨abv (wtP s) a.1=true then(wtP s,true)else a)else a
def yI(l:List PSel)(p:Sh)(n:Nat):W3×Bool:=(l.take n).foldl (zhr p) (⟨0,0,0⟩,false)
theorem Jn(l:List PSel)(p:Sh)(n:Nat)(h:n<l.length):yI l p (n+1)=zhr p (yI l p n) (l.getD n default):=by
 unfold yI
 rw[List.take_add_one,List.getElem?_eq_getElem h,List.foldl_append,List.getD_eq_getElem?_getD,List.getElem?_eq_getElem h];rfl
def jS(l:List PSel):Prop:=l.length≤1000000∧∀i,i<l.length→kV (l.getD i default)
def Y4(l:List PSel)(p:Sh):V:=.tup [.agg (W3.enc (yI l p l.length).1),vb (yI l p l.length).2]
structure BsS where
 n:Nat
 clk:Nat
theorem zro(l:List PSel)(p:Sh)(hl:jS l):ze Tryz.prog 127 [qZ l,.agg p.enc] (Y4 l p):=by
 refine ze.of (Orc.cons Wl (Orc.cons zeK (Orc.cons K4 (Orc.nil _)))) zrI (by simp[zu7]) fun w0 own0=> ?_
 simp only[zu7,qZ,Sh.enc,go_sem,zd,seval,reduceIte,reduceCtorEq]
 refine zD.lp (α:=BsS) (fun a=>[(3,.ptr 0 0 0 0),(4,.ptr 1 1 0 0),(6,.ptr 2 2 0 0),(7,vb (yI l p a.n).2),(11,.slc 5 (l.map PSel.enc)),(12,vi l.length),(13,vi a.n)])
  (fun a=>⟨[⟨0,6,[p.enc],false,[]⟩,⟨1,3,[[vi 0,vi 0,vi 0]],false,[]⟩,⟨2,3,[W3.enc (yI l p a.n).1],false,[]⟩],a.clk⟩) (fun a=>a.n≤l.length) (fun a=>l.length - a.n) ⟨0,3⟩ (Nat.zero_le _) (St.cut ?_ ?_ ?_) fun a ha=> ?_
 ·simp[zt,zo,zu,yI]
 ·simp[Heap.alloc,Sh.enc,W3.enc,yI]
 ·rfl
 obtain⟨n,clk⟩:=a
 simp only at ha
 by_cases he:n=l.length
 ·subst he
  unfold Y4
  generalize yI l p l.length=R
  obtain⟨⟨x,y,z⟩,b⟩:=R
  simp only[Int.lt_irrefl,W3.enc,Sh.enc,go_sem,zd,seval,reduceIte,reduceCtorEq]
  rfl
 ·have e1:(n:Int)<(l.length:Int):=by omega
  have e0:(0:Int)≤(n:Int):=by omega
  have hlt:n<l.length:=by omega
  have hg:=Xu l n
  have hsm:=hl.2 n hlt
  have hsu:=Jn l p n hlt
  have hl0:=hl.1
  generalize l.getD n default=s at*
  generalize yI l p n=R at*
  obtain⟨⟨x,y,z⟩,b⟩:=R
  simp only[zhr]at hsu
  generalize hwt:wtP s=wt at*
  obtain⟨u,v,w⟩:=wt
  cases hI:isP s p with
  |false=>
   simp only[hI,Bool.false_eq_true,if_false]at hsu
   simp only[e0,e1,hg,PSel.enc,Sh.enc,W3.enc,PSel.eta',Sh.eta',kK,zH,jn,hsm,hwt,hI,go_sem,zd,seval,reduceIte,reduceCtorEq]
   exact⟨by omega,⟨n+1,clk+2⟩,by dsimp only;omega,by dsimp only;omega,⟨by rw[hsu],by dsimp only;omega⟩,by rw[hsu];exact⟨rfl,rfl,rfl⟩,rfl⟩
  |true=>
   simp only[hI,if_true]at hsu
   cases b with
   |false=>
    simp only[true_or,if_true]at hsu
    simp only[e0,e1,hg,PSel.enc,Sh.enc,W3.enc,PSel.eta',Sh.eta',kK,zH,jn,hsm,hwt,hI,go_sem,zd,seval,reduceIte,reduceCtorEq]
    exact⟨by omega,⟨n+1,clk+2⟩,by dsimp only;omega,by dsimp only;omega,⟨by rw[hsu],by dsimp only;omega⟩,by rw[hsu];exact⟨rfl,rfl,rfl⟩,rfl⟩
   |true=>
    cases hA:abv ⟨u,v,w⟩ ⟨x,y,z⟩with
    |false=>
     simp only[hA,Bool.true_eq_false,Bool.false_eq_true,or_self,if_false]at hsu
     simp only[e0,e1,hg,PSel.enc,Sh.enc,W3.enc,PSel.eta',Sh.eta',kK,zH,jn,hsm,hwt,hI,hA,go_sem,zd,seval,reduceIte,reduceCtorEq]
     exact⟨by omega,⟨n+1,clk+2⟩,by dsimp only;omega,by dsimp only;omega,⟨by rw[hsu],by dsimp only;omega⟩,by rw[hsu];exact⟨rfl,rfl,rfl⟩,rfl⟩
    |true=>
     simp only[hA,or_true,if_true]at hsu
     simp only[e0,e1,hg,PSel.enc,Sh.enc,W3.enc,PSel.eta',Sh.eta',kK,zH,jn,hsm,hwt,hI,hA,go_sem,zd,seval,reduceIte,reduceCtorEq]
     exact⟨by omega,⟨n+1,clk+2⟩,by dsimp only;omega,by dsimp only;omega,⟨by rw[hsu],by dsimp only;omega⟩,by rw[hsu];exact⟨rfl,rfl,rfl⟩,rfl⟩
def Kd:Sum Tryz.prog:=⟨127,fun args=>args= [qZ (qj (args.getD 0 .any)),.agg (Sh.enc (yd (args.getD 1 .any)))]∧jS (qj (args.getD 0 .any)),fun args=>Y4 (qj (args.getD 0 .any)) (yd (args.getD 1 .any)),fun args h=>by
 have:=zro (qj (args.getD 0 .any)) (yd (args.getD 1 .any)) h.2;rwa [←h.1]at this,false⟩
theorem zjS:Kd.f=127:=rfl
theorem zjR(args:List V):Kd.D args=(args= [qZ (qj (args.getD 0 .any)),.agg (Sh.enc (yd (args.getD 1 .any)))]∧jS (qj (args.getD 0 .any))):=rfl
theorem zbV:Kd.flat=false:=rfl
theorem zjT(args:List V):Kd.r args=Y4 (qj (args.getD 0 .any)) (yd (args.getD 1 .any)):=rfl
attribute [go_sem] zjS zjR zbV zjT
theorem zfC(s:Sh):ze Tryz.prog 14 [.agg s.enc] (.agg s.enc):=by
 refine ze.of (Orc.nil _) zvf (by simp[c14]) fun w0 own0=> ?_
 simp only[c14,Sh.enc,go_sem,zd,seval,reduceIte,reduceCtorEq]
def Wj:Sum Tryz.prog:=⟨14,fun args=>args= [.agg (Sh.enc (yd (args.getD 0 .any)))],fun args=>.agg (Sh.enc (yd (args.getD 0 .any))),fun args h=>by
 have:=zfC (yd (args.getD 0 .any));rwa [←h]at this,false⟩
theorem zoi:Wj.f=14:=rfl
theorem zoh(args:List V):Wj.D args=(args= [.agg (Sh.enc (yd (args.getD 0 .any)))]):=rfl
theorem zd5:Wj.flat=false:=rfl
theorem zoj(args:List V):Wj.r args= .agg (Sh.enc (yd (args.getD 0 .any))):=rfl
attribute [go_sem] zoi zoh zd5 zoj
theorem zg0(s:PSel)(h:kV s):ze Tryz.prog 56 [.agg s.enc] (.agg (W3.enc (wtP s))):=by
 refine ze.of (Orc.nil _) zvG (by simp[c56]) fun w0 own0=> ?_
 obtain⟨a1,a2,a3,a4,a5,a6,a7,a8⟩:=h
 unfold wtP
 by_cases hn:s.name=⟨#[]⟩
 ·simp only[c56,PSel.enc,W3.enc,hn,go_sem,zd,seval,reduceIte,reduceCtorEq]
  omega
 ·simp only[c56,PSel.enc,W3.enc,hn,go_sem,zd,seval,reduceIte,reduceCtorEq]
  omega
def WD:Sum Tryz.prog:=⟨56,fun args=>args= [.agg (PSel.enc (yT (args.getD 0 .any)))]∧kV (yT (args.getD 0 .any)),fun args=>.agg (W3.enc (wtP (yT (args.getD 0 .any)))),fun args h=>by
 have:=zg0 (yT (args.getD 0 .any)) h.2;rwa [←h.1]at this,false⟩
theorem zpW:WD.f=56:=rfl
theorem zpV(args:List V):WD.D args=(args= [.agg (PSel.enc (yT (args.getD 0 .any)))]∧kV (yT (args.getD 0 .any))):=rfl
theorem zeL:WD.flat=false:=rfl
theorem zpX(args:List V):WD.r args= .agg (W3.enc (wtP (yT (args.getD 0 .any)))):=rfl
attribute [go_sem] zpW zpV zeL zpX
theorem zlD(l:List PSel)(p:Sh)(hl:jS l):ze Tryz.prog 22 [qZ l,.agg p.enc] (Y4 l p):=by
 refine ze.of (Orc.cons Wm (Orc.cons WD (Orc.cons Kb (Orc.nil _)))) zvm (by simp[c22]) fun w0 own0=> ?_
 simp only[c22,qZ,Sh.enc,go_sem,zd,seval,reduceIte,reduceCtorEq]
 refine zD.lp (α:=BsS) (fun a=>[(0,.slc 5 (l.map PSel.enc)),(3,.ptr 0 0 0 0),(4,.ptr 1 1 0 0),(6,.ptr 2 2 0 0),(7,vb (yI l p a.n).2),(8,vi a.n)])
  (fun a=>⟨[⟨0,6,[p.enc],false,[]⟩,⟨1,3,[[vi 0,vi 0,vi 0]],false,[]⟩,⟨2,3,[W3.enc (yI l p a.n).1],false,[]⟩],a.clk⟩) (fun a=>a.n≤l.length) (fun a=>l.length - a.n) ⟨0,3⟩ (Nat.zero_le _) (St.cut ?_ ?_ ?_) fun a ha=> ?_
 ·simp[zt,zo,zu,yI]
 ·simp[Heap.alloc,Sh.enc,W3.enc,yI]
 ·rfl
 obtain⟨n,clk⟩:=a
 simp only at ha
 by_cases he:n=l.length
 ·subst he
  unfold Y4
  generalize yI l p l.length=R
  obtain⟨⟨x,y,z⟩,b⟩:=R
  simp only[Int.lt_irrefl,W3.enc,Sh.enc,go_sem,zd,seval,reduceIte,reduceCtorEq]
  rfl
 ·have e1:(n:Int)<(l.length:Int):=by omega
  have e0:(0:Int)≤(n:Int):=by omega
  have hlt:n<l.length:=by omega
  have hg:=Xu l n
  have hsm:=hl.2 n hlt
  have hsu:=Jn l p n hlt
  have hl0:=hl.1
  generalize l.getD n default=s at*
  generalize yI l p n=R at*
  obtain⟨⟨x,y,z⟩,b⟩:=R
  simp only[zhr]at hsu
  generalize hwt:wtP s=wt at*
  obtain⟨u,v,w⟩:=wt
  cases hI:isP s p with
  |false=>
   simp only[hI,Bool.false_eq_true,if_false]at hsu
   simp only[e0,e1,hg,PSel.enc,Sh.enc,W3.enc,PSel.eta',Sh.eta',kK,zH,jn,hsm,hwt,hI,go_sem,zd,seval,reduceIte,reduceCtorEq]
   exact⟨by omega,⟨n+1,clk⟩,by dsimp only;omega,by dsimp only;omega,⟨by rw[hsu],by dsimp only;omega⟩,by rw[hsu];exact⟨rfl,rfl,rfl⟩,rfl⟩
  |true=>
   simp only[hI,if_true]at hsu
   cases b with
   |false=>
    simp only[true_or,if_true]at hsu
    simp only[e0,e1,hg,PSel.enc,Sh.enc,W3.enc,PSel.eta',Sh.eta',kK,zH,jn,hsm,hwt,hI,go_sem,zd,seval,reduceIte,reduceCtorEq]
    exact⟨by omega,⟨n+1,clk+1⟩,by dsimp only;omega,by dsimp only;omega,⟨by rw[hsu],by dsimp only;omega⟩,by rw[hsu];exact⟨rfl,rfl,rfl⟩,rfl⟩
   |true=>
    cases hA:abv ⟨u,v,w⟩ ⟨x,y,z⟩with
    |false=>
     simp only[hA,Bool.true_eq_false,Bool.false_eq_true,or_self,if_false]at hsu
     simp only[e0,e1,hg,PSel.enc,Sh.enc,W3.enc,PSel.eta',Sh.eta',kK,zH,jn,hsm,hwt,hI,hA,go_sem,zd,seval,reduceIte,reduceCtorEq]
     exact⟨by omega,⟨n+1,clk+1⟩,by dsimp only;omega,by dsimp only;omega,⟨by rw[hsu],by dsimp only;omega⟩,by rw[hsu];exact⟨rfl,rfl,rfl⟩,rfl⟩
    |true=>
     simp only[hA,or_true,if_true]at hsu
     simp only[e0,e1,hg,PSel.enc,Sh.enc,W3.enc,PSel.eta',Sh.eta',kK,zH,jn,hsm,hwt,hI,hA,go_sem,zd,seval,reduceIte,reduceCtorEq]
     exact⟨by omega,⟨n+1,clk+1⟩,by dsimp only;omega,by dsimp only;omega,⟨by rw[hsu],by dsimp only;omega⟩,by rw[hsu];exact⟨rfl,rfl,rfl⟩,rfl⟩
def Yu:Sum Tryz.prog:=⟨22,fun args=>args= [qZ (qj (args.getD 0 .any)),.agg (Sh.enc (yd (args.getD 1 .any)))]∧jS (qj (args.getD 0 .any)),fun args=>Y4 (qj (args.getD 0 .any)) (yd (args.getD 1 .any)),fun args h=>by
 have:=zlD (qj (args.getD 0 .any)) (yd (args.getD 1 .any)) h.2;rwa [←h.1]at this,false⟩
theorem zgt:Yu.f=22:=rfl
theorem zgs(args:List V):Yu.D args=(args= [qZ (qj (args.getD 0 .any)),.agg (Sh.enc (yd (args.getD 1 .any)))]∧jS (qj (args.getD 0 .any))):=rfl
theorem W7:Yu.flat=false:=rfl
theorem zgu(args:List V):Yu.r args=Y4 (qj (args.getD 0 .any)) (yd (args.getD 1 .any)):=rfl
attribute [go_sem] zgt zgs W7 zgu
structure BpS where
 n:Nat
 ver:Nat
 clk:Nat
def zp9:ByteArray:=⟨#[102,105,114,115,116]⟩
def zp8:ByteArray:=⟨#[98,108,97,110,107]⟩
def zuF:ByteArray:=⟨#[108,101,102,116]⟩
def zqa:ByteArray:=⟨#[114,105,103,104,116]⟩
def jD(s:PSel)(w:ByteArray):Option PSel:=
 if w=zp9 then some ⟨s.name,s.first+1,s.blank,s.left,s.right⟩
 else if w=zp8 then some ⟨s.name,s.first,s.blank+1,s.left,s.right⟩
 else if w=zuF then some ⟨s.name,s.first,s.blank,s.left+1,s.right⟩
 else if w=zqa then some ⟨s.name,s.first,s.blank,s.left,s.right+1⟩
 else none
def okB(s:PSel):Prop:=(0≤s.first∧s.first≤1000000)∧(0≤s.blank∧s.blank≤1000000)∧(0≤s.left∧s.left≤1000000)∧(0≤s.right∧s.right≤1000000)
def ZX:List (ByteArray×Nat)→ByteArray→Option Nat
 | [],_=>none
 |p::r,s=>if s=p.1 then some p.2 else ZX r s
theorem XH(f:Nat→V)(s:ByteArray):∀L:List (ByteArray×Nat),mget (L.map fun p=>.string p.1) (L.map fun p=>f p.2) (.string s)=(ZX L s).map f
 | []=>rfl
 |p::r=>by
  have:(zN (.string p.1) (.string s)).1=true↔s=p.1:=by simp[zN];exact eq_comm
  simp only[List.map_cons,mget,ZX,this,XH f s r]
  split<;>rfl
def psK:List (ByteArray×Nat):=[(⟨#[102,105,114,115,116]⟩,1),(⟨#[98,108,97,110,107]⟩,2),(⟨#[108,101,102,116]⟩,3),(⟨#[114,105,103,104,116]⟩,4)]
theorem KG(s:PSel)(u:ByteArray):jD s u=(ZX psK u).map fun n=>if n=1 then⟨s.name,s.first+1,s.blank,s.left,s.right⟩else if n=2 then⟨s.name,s.first,s.blank+1,s.left,s.right⟩else if n=3 then⟨s.name,s.first,s.blank,s.left+1,s.right⟩else⟨s.name,s.first,s.blank,s.left,s.right+1⟩:=by
 unfold jD psK zp9 zp8 zuF zqa
 simp only[ZX]
 split
 ·rfl
 split
 ·rfl
 split
 ·rfl
 split
 ·rfl
 rfl
theorem KS(u:ByteArray)(n:Nat)(h:ZX psK u=some n):n=1∨n=2∨n=3∨n=4:=by
 unfold psK at h
 simp only[ZX]at h
 split at h
 ·simp at h;omega
 split at h
 ·simp at h;omega
 split at h
 ·simp at h;omega
 split at h
 ·simp at h;omega
 cases h
theorem zdv(B0:Blk)(s:PSel)(w:ByteArray)(clk:Nat)(hs:okB s)(hw:w.size≤1000000):zx Tryz.prog 170 [.ptr 1 1 0 0,vs w] ⟨[B0,⟨1,5,[s.enc],false,[]⟩],clk⟩ (vb (jD s (zO w)).isSome) ⟨[B0,⟨1,5,[((jD s (zO w)).getD s).enc],false,[]⟩],clk⟩:=by
 refine zx.walk (Orc.cons kp (Orc.nil _)) zr2 (by simp[zr1]) fun w0 own0=> ?_
 obtain⟨⟨a1,a2⟩,⟨b1,b2⟩,⟨c1,c2⟩,d1,d2⟩:=hs
 generalize hu:zO w=u
 rw[KG]
 have hm:=XH (fun n=>V.ptr 1 1 0 n) u psK
 have hr:=KS u
 generalize ZX psK u=o at*
 simp only[psK,List.map_cons,List.map_nil]at hm
 cases o with
 |none=>
  simp only[Option.map_none]at hm⊢
  simp only[zr1,PSel.enc,hw,hu,hm,Option.isSome_none,Option.getD_none,go_sem,zd,seval,reduceIte,reduceCtorEq]
 |some n=>
  simp only[Option.map_some]at hm⊢
  rcases hr n rfl with rfl|rfl|rfl|rfl
  all_goals simp only[zr1,PSel.enc,hw,hu,hm,Option.isSome_some,Option.getD_some,go_sem,zd,seval,reduceIte,reduceCtorEq]
  all_goals omega
structure PsA (A:ESum Tryz.prog):Prop where
 f:A.f=170
 pre:∀(B0:Blk)(s:PSel)(w:ByteArray)(clk:Nat),okB s→w.size≤1000000→A.pre [.ptr 1 1 0 0,.c (.string w)] ⟨[B0,⟨1,5,[s.enc],false,[]⟩],clk⟩
 v:∀(B0:Blk)(s:PSel)(w:ByteArray)(clk:Nat),A.v [.ptr 1 1 0 0,.c (.string w)] ⟨[B0,⟨1,5,[s.enc],false,[]⟩],clk⟩=vb (jD s (zO w)).isSome
 hp:∀(B0:Blk)(s:PSel)(w:ByteArray)(clk:Nat),A.hp [.ptr 1 1 0 0,.c (.string w)] ⟨[B0,⟨1,5,[s.enc],false,[]⟩],clk⟩=⟨[B0,⟨1,5,[((jD s (zO w)).getD s).enc],false,[]⟩],clk⟩
theorem zwQ:∃A:ESum Tryz.prog,PsA A:=
 ⟨⟨170,fun args h=>∃(B0:Blk)(s:PSel)(w:ByteArray)(clk:Nat),okB s∧w.size≤1000000∧args= [.ptr 1 1 0 0,vs w]∧h=⟨[B0,⟨1,5,[s.enc],false,[]⟩],clk⟩,
   fun args h=>vb (jD (Xe ((h.blk 1).es.getD 0 [])) (zO (args.getD 1 .any).str)).isSome,
   fun args h=>⟨[h.blk 0,⟨1,5,[((jD (Xe ((h.blk 1).es.getD 0 [])) (zO (args.getD 1 .any).str)).getD (Xe ((h.blk 1).es.getD 0 []))).enc],false,[]⟩],h.clk⟩,
   fun args h hp=>by
    obtain⟨B0,s,w,clk,h1,h2,rfl,rfl⟩:=hp
    exact zdv B0 s w clk h1 h2⟩,⟨rfl,fun B0 s w clk h1 h2=>⟨B0,s,w,clk,h1,h2,rfl,rfl⟩,fun B0 s w clk=>rfl,fun B0 s w clk=>rfl⟩⟩
def ky:Sum Tryz.prog:=⟨167,fun args=>args= [vi (args.getD 0 .any).int,vi (args.getD 1 .any).int,vi (args.getD 2 .any).int],fun args=>vb (decide (0≤(args.getD 1 .any).int∧(args.getD 1 .any).int≤(args.getD 2 .any).int∧(args.getD 2 .any).int≤(args.getD 0 .any).int)),fun args h=>by
 have:=zkP (args.getD 0 .any).int (args.getD 1 .any).int (args.getD 2 .any).int;rwa [←h]at this,true⟩
theorem zU:ky.f=167:=rfl
theorem zT(args:List V):ky.D args=(args= [vi (args.getD 0 .any).int,vi (args.getD 1 .any).int,vi (args.getD 2 .any).int]):=rfl
theorem zF:ky.flat=true:=rfl
theorem zV(args:List V):ky.r args=vb (decide (0≤(args.getD 1 .any).int∧(args.getD 1 .any).int≤(args.getD 2 .any).int∧(args.getD 2 .any).int≤(args.getD 0 .any).int)):=rfl
def Zk:Sum Tryz.prog:=⟨168,fun args=>args= [.agg (qP (args.getD 0 .any)).enc,.pp [vi ((args.getD 1 .any).cs.getD 0 .any).int]],fun args=>vb (decide ((qP (args.getD 0 .any)).kind=((args.getD 1 .any).cs.getD 0 .any).int)),fun args h=>by
 have:=ziQ (qP (args.getD 0 .any)) ((args.getD 1 .any).cs.getD 0 .any).int;rwa [←h]at this,true⟩
theorem zd9:Zk.f=168:=rfl
theorem zd8(args:List V):Zk.D args=(args= [.agg (qP (args.getD 0 .any)).enc,.pp [vi ((args.getD 1 .any).cs.getD 0 .any).int]]):=rfl
theorem Wk:Zk.flat=true:=rfl
theorem zea(args:List V):Zk.r args=vb (decide ((qP (args.getD 0 .any)).kind=((args.getD 1 .any).cs.getD 0 .any).int)):=rfl
def yy(l:List Tok)(ends:List Int)(to kind:Int):Nat→Int→Int
 |0,_=> -1
 |f+1,k=>if k<to then(if(l.getD k.toNat .zero).kind=kind then k else yy l ends to kind f (skip ends k))else -1
def bad(l:List Tok)(ends:List Int)(a b:Int):Prop:=¬ends.length=l.length∨¬(0≤a∧a≤b∧b≤l.length)
instance (l:List Tok) (ends:List Int) (a b:Int):Decidable (bad l ends a b):=by unfold bad;infer_instance
def ja(l:List Tok)(ends:List Int)(a b kind:Int):Int:=if bad l ends a b then -1 else yy l ends b kind (b - a).toNat a
structure FiS where
 k:Int
 f:Nat
theorem zsp(l:List Tok)(ends:List Int)(a b kind:Int)(hl:l.length≤1000000)(hE:∀i,ends.getD i 0≤1000000):ze Tryz.prog 169 [zk l,zJ ends,vi a,vi b,.fn 168 [.pp [vi kind]]] (vi (ja l ends a b kind)):=by
 refine ze.of (Orc.cons ZO (Orc.cons ky (Orc.cons Zk (Orc.nil _)))) zr0 (by simp[zvj]) fun w0 own0=> ?_
 simp only[zvj,zJ,zk,Tok.enc,yW,yV,yh,yX,zU,zT,zF,zV,go_sem,zd,seval,reduceIte,reduceCtorEq]
 refine⟨by omega,by omega,fun h=> ?_,fun h=> ?_⟩
 ·have:bad l ends a b:=by unfold bad;omega
  simp only[ja,if_pos this]
 ·have hb:¬bad l ends a b:=by unfold bad;omega
  simp only[ja,if_neg hb]
  generalize hR:yy l ends b kind (b - a).toNat a=R
  refine zD.lp (α:=FiS) (fun x=>[(0,.slc 3 (l.map Tok.enc)),(1,.slc 1 (ends.map fun n=>[vi n])),(3,vi b),(4,.fn 168 [.pp [vi kind]]),(11,vi x.k)]) (fun _=>⟨[],0⟩)
   (fun x=>0≤x.k∧x.k≤1000001∧(b - x.k).toNat≤x.f∧yy l ends b kind x.f x.k=R) (fun x=>(b - x.k).toNat) ⟨a,(b - a).toNat⟩ ⟨by dsimp only;omega,by dsimp only;omega,Nat.le_refl _,hR⟩ (St.mk ?_) fun x hx=> ?_
  ·simp only[go_sem,zd,seval,reduceIte,reduceCtorEq]
  ·obtain⟨k,f⟩:=x
   simp only at hx
   obtain⟨h1,h2,h3,h4⟩:=hx
   simp only[Tok.enc,zk,zJ,yW,yV,yh,yX,zU,zT,zF,zV,zd9,zd8,Wk,zea,go_sem,zd,seval,reduceIte,reduceCtorEq]
   refine⟨fun hk=> ?_,fun hk=> ?_⟩
   ·obtain⟨f',rfl⟩:∃f',f=f'+1:=⟨f - 1,by omega⟩
    simp only[yy,if_pos hk]at h4
    have hg:=zbN ends k (by omega)
    have hle:=zh0 ends k (by omega)
    have:=hE k.toNat
    refine⟨by omega,fun hq=> ?_,fun hq=>⟨⟨by omega,by omega,by omega⟩,⟨skip ends k,f'⟩,⟨by dsimp only;omega,by dsimp only;omega,by dsimp only;omega,?_⟩,by dsimp only;omega,rfl⟩⟩
    ·rw[if_pos hq]at h4;exact h4
    ·rw[if_neg hq]at h4;exact h4
   ·cases f with
    |zero=>simpa[yy]using h4
    |succ f=>simpa only[yy,if_neg hk]using h4
def zaC(l:List Tok)(ends:List Int):Prop:=l.length≤1000000∧∀i,ends.getD i 0≤1000000
def Km:Sum Tryz.prog:=⟨169,fun args=>args= [zk (zj (args.getD 0 .any)),zJ (zL (args.getD 1 .any)),vi (args.getD 2 .any).int,vi (args.getD 3 .any).int,.fn 168 [.pp [vi ((((args.getD 4 .any).caps).getD 0 .any).cs.getD 0 .any).int]]]∧zaC (zj (args.getD 0 .any)) (zL (args.getD 1 .any)),
 fun args=>vi (ja (zj (args.getD 0 .any)) (zL (args.getD 1 .any)) (args.getD 2 .any).int (args.getD 3 .any).int ((((args.getD 4 .any).caps).getD 0 .any).cs.getD 0 .any).int),fun args h=>by
 have:=zsp (zj (args.getD 0 .any)) (zL (args.getD 1 .any)) (args.getD 2 .any).int (args.getD 3 .any).int ((((args.getD 4 .any).caps).getD 0 .any).cs.getD 0 .any).int h.2.1 h.2.2;rwa [←h.1]at this,true⟩
theorem zke:Km.f=169:=rfl
theorem zkd(args:List V):Km.D args=(args= [zk (zj (args.getD 0 .any)),zJ (zL (args.getD 1 .any)),vi (args.getD 2 .any).int,vi (args.getD 3 .any).int,.fn 168 [.pp [vi ((((args.getD 4 .any).caps).getD 0 .any).cs.getD 0 .any).int]]]∧zaC (zj (args.getD 0 .any)) (zL (args.getD 1 .any))):=rfl
theorem zb1:Km.flat=true:=rfl
theorem zkf(args:List V):Km.r args=vi (ja (zj (args.getD 0 .any)) (zL (args.getD 1 .any)) (args.getD 2 .any).int (args.getD 3 .any).int ((((args.getD 4 .any).caps).getD 0 .any).cs.getD 0 .any).int):=rfl
def prs(l:List (Int×Int)):V:=.slc 2 (l.map fun p=>[vi p.1,vi p.2])
theorem ZF(S:Nat→Bool)(h:Heap)(l:List (Int×Int)):zz (zz (res S h 11)) (l.map fun p=>[vi p.1,vi p.2])=some (l.map fun p=>[vi p.1,vi p.2]):=yK S h 10 _ (fun _=>rfl) l
theorem zja(l:List Tok)(ends:List Int)(a b kind:Int):ja l ends a b kind= -1∨(a≤ja l ends a b kind∧ja l ends a b kind<b∧b≤l.length):=by
 unfold ja
 split
 ·exact .inl rfl
 ·rename_i hb
  have hb':ends.length=l.length∧0≤a∧a≤b∧b≤l.length:=by unfold bad at hb;omega
  have key:∀(f:Nat)(k:Int),a≤k→yy l ends b kind f k= -1∨(a≤yy l ends b kind f k∧yy l ends b kind f k<b):=by
   intro f
   induction f with
   |zero=>intro k _;exact .inl rfl
   |succ f ih=>
    intro k hk
    simp only[yy]
    split
    ·rename_i hkb
     split
     ·exact .inr ⟨hk,hkb⟩
     ·exact ih _ (by have:=zbN ends k (by omega);omega)
    ·exact .inl rfl
  rcases key (b - a).toNat a (Int.le_refl _)with h|h
  ·exact .inl h
  ·exact .inr ⟨h.1,h.2,hb'.2.2.2⟩
def jT(l:List Tok)(ends:List Int)(b kind:Int):Nat→Int→List (Int×Int)
 |0,a=>[(a,b)]
 |f+1,a=>if 0≤ja l ends a b kind then(a,ja l ends a b kind)::jT l ends b kind f (ja l ends a b kind+1)else[(a,b)]
def ZH(l:List Tok)(ends:List Int)(a b kind:Int):V:=bif decide (bad l ends a b)then zB else prs (jT l ends b kind ((b - a).toNat+1) a)
structure SlS where
 a:Int
 f:Nat
 out:List (Int×Int)
 ver:Nat
 clk:Nat
theorem znD(l:List Tok)(ends:List Int)(a b kind:Int)(hl:l.length≤1000000)(hE:∀i,ends.getD i 0≤1000000):ze Tryz.prog 149 [zk l,zJ ends,vi a,vi b,vi kind] (ZH l ends a b kind):=by
 refine ze.of (Orc.cons ky (Orc.cons Km (Orc.nil _))) zrP (by simp[zve]) fun w0 own0=> ?_
 simp only[zve,zJ,zk,Tok.enc,go_sem,zd,seval,reduceIte,reduceCtorEq]
 by_cases hb:bad l ends a b
 ·have hR:ZH l ends a b kind=zB:=by simp only[ZH,hb,decide_true,cond_true]
  rw[hR]
  refine zD.lab (α:=Unit) 0 (fun _=>[]) (fun _=>⟨[],0⟩) (fun _=>False) (fun _=>0) rfl ?_ fun x hx=>hx.elim
  simp only[zU,zT,zF,zV,go_sem,zd,seval,reduceIte,reduceCtorEq]
  unfold bad at hb
  refine⟨by omega,fun h=> ?_⟩
  exfalso;omega
 have hb':ends.length=l.length∧0≤a∧a≤b∧b≤l.length:=by unfold bad at hb;omega
 have hR:ZH l ends a b kind=prs (jT l ends b kind ((b - a).toNat+1) a):=by simp only[ZH,hb,decide_false,cond_false]
 rw[hR]
 generalize hR:jT l ends b kind ((b - a).toNat+1) a=R
 refine zD.lab (α:=SlS) 0 (fun x=>[(0,.slc 3 (l.map Tok.enc)),(1,.slc 1 (ends.map fun n=>[vi n])),(2,vi x.a),(3,vi b),(11,.ref 1 x.ver 0 x.out.length),(12,.fn 168 [.ptr 0 0 0 0])])
  (fun x=>⟨[⟨0,1,[[vi kind]],false,[]⟩,⟨x.ver,2,x.out.map fun p=>[vi p.1,vi p.2],false,[vi 0,vi 0]⟩],x.clk⟩)
  (fun x=>0≤x.a∧x.a≤b∧(b - x.a).toNat+1≤x.f∧x.out++jT l ends b kind x.f x.a=R∧(x.out.length:Int)≤x.a) (fun x=>(b - x.a).toNat) rfl ?_ fun x hx=> ?_
 ·simp only[zU,zT,zF,zV,go_sem,zd,seval,reduceIte,reduceCtorEq]
  refine⟨by omega,fun h=> ?_,fun h=>⟨⟨a,(b - a).toNat+1,[],1,2⟩,⟨hb'.2.1,hb'.2.2.1,Nat.le_refl _,hR,hb'.2.1⟩,St.nil 11 2 [vi 0,vi 0] (by simp[zo]) (St.cut ?_ ?_ ?_)⟩⟩
  ·exfalso;omega
  ·simp[zt,zo,zu]
  ·simp[Heap.alloc]
  ·rfl
 ·obtain⟨a',f,out,ver,clk⟩:=x
  simp only at hx
  obtain⟨h1,h2,h3,h4,h5⟩:=hx
  simp only[Tok.enc,zk,zJ,prs,ZF,zke,zkd,zb1,zkf,zU,zT,zF,zV,go_sem,zd,seval,reduceIte,reduceCtorEq]
  have hf:=zja l ends a' b kind
  obtain⟨f',rfl⟩:∃f',f=f'+1:=⟨f - 1,by omega⟩
  simp only[jT]at h4
  refine⟨⟨hl,hE⟩,fun hn=> ?_,fun hn=> ?_⟩
  ·rw[if_pos hn]at h4
   refine⟨by omega,by omega,⟨ja l ends a' b kind+1,f',out++ [(a',ja l ends a' b kind)],clk+1,clk+1+1⟩,⟨by dsimp only;omega,by dsimp only;omega,by dsimp only;omega,?_,by simp;omega⟩,by dsimp only;omega,⟨rfl,rfl,by simp⟩,⟨rfl,?_⟩,rfl⟩
   ·simpa using h4
   ·simp
  ·rw[if_neg hn]at h4
   refine⟨by omega,?_⟩
   have e:List.map (fun p:Int×Int=>[vi p.1,vi p.2]) (List.take out.length out)++ [[V.c (Value.int IntKind.i64 a'),V.c (Value.int IntKind.i64 b)]]=R.map fun p=>[vi p.1,vi p.2]:=by
    rw[←h4];simp
   have e2:R.length=out.length+1:=by rw[←h4];simp
   rw[e,if_pos (by simp[e2]),List.take_of_length_le (by simp[e2]),ZF]
   rfl
def jx:Sum Tryz.prog:=⟨149,fun args=>args= [zk (zj (args.getD 0 .any)),zJ (zL (args.getD 1 .any)),vi (args.getD 2 .any).int,vi (args.getD 3 .any).int,vi (args.getD 4 .any).int]∧zaC (zj (args.getD 0 .any)) (zL (args.getD 1 .any)),
 fun args=>ZH (zj (args.getD 0 .any)) (zL (args.getD 1 .any)) (args.getD 2 .any).int (args.getD 3 .any).int (args.getD 4 .any).int,fun args h=>by
 have:=znD (zj (args.getD 0 .any)) (zL (args.getD 1 .any)) (args.getD 2 .any).int (args.getD 3 .any).int (args.getD 4 .any).int h.2.1 h.2.2;rwa [←h.1]at this,false⟩
theorem kw:jx.f=149:=rfl
theorem kv(args:List V):jx.D args=(args= [zk (zj (args.getD 0 .any)),zJ (zL (args.getD 1 .any)),vi (args.getD 2 .any).int,vi (args.getD 3 .any).int,vi (args.getD 4 .any).int]∧zaC (zj (args.getD 0 .any)) (zL (args.getD 1 .any))):=rfl
theorem yY:jx.flat=false:=rfl
theorem kx(args:List V):jx.r args=ZH (zj (args.getD 0 .any)) (zL (args.getD 1 .any)) (args.getD 2 .any).int (args.getD 3 .any).int (args.getD 4 .any).int:=rfl
def rsK(l:List Tok)(kind to:Int):Int→List Int→List (Int×Int)
 |b,[]=>[(b,to)]
 |b,p::ps=>if(l.getD p.toNat .zero).kind=kind then(b,p)::rsK l kind to (p+1) ps else rsK l kind to b ps
def JR(l:List Tok):List (Int×Int):=jT l (zy l) l.length 16 (l.length+1) 0
def gS(l:List Tok)(f sf:Nat)(b:Int)(k:Nat):List (Int×Int):=if 0≤yy l (zy l) l.length 16 f k then(b,yy l (zy l) l.length 16 f k)::jT l (zy l) l.length 16 sf (yy l (zy l) l.length 16 f k+1)else[(b,(l.length:Int))]
theorem zfk{t:Tok}(h:t.kind=16):zC t=⟨#[]⟩:=by unfold zC;simp[h]
theorem zgi{l:List Tok}(hd:yJ l=false){k:Nat}(hk:k<l.length)(h:(l.getD k .zero).kind=16):skip (zy l) k=((k+1:Nat):Int):=by
 have hc:zC (l.getD k .zero)=⟨#[]⟩:=zfk h
 unfold skip
 rw[Int.toNat_natCast,KJ l hd k hk]
 unfold ZZ
 rw[if_pos hc,if_pos (by omega)];omega
theorem zcL{l:List Tok}(hd:yJ l=false):(zy l).length=l.length:=by unfold zy;rw[hd];simp[yj]
theorem zdL{l:List Tok}(hd:yJ l=false)(sf a:Nat)(ha:a≤l.length):jT l (zy l) l.length 16 (sf+1) a=gS l (l.length - a) sf a a:=by
 have e:ja l (zy l) a l.length 16=yy l (zy l) l.length 16 (l.length - a) a:=by
  unfold ja
  rw[if_neg (by have:=zcL hd;unfold bad;omega),show((l.length:Int) - a).toNat=l.length - a by omega]
 simp only[jT,gS,e]
theorem zmw{l:List Tok}(hd:yJ l=false):∀(f' f sf:Nat)(b:Int)(k:Nat),l.length+1≤k+f'→l.length≤k+f→l.length≤sf+k→k≤l.length→gS l f sf b k=rsK l 16 l.length b (plR (zy l) l.length f' k)
 |0,f,sf,b,k,h1,_,_,h4=>by omega
 |f'+1,f,sf,b,k,h1,h2,h3,h4=>by
  by_cases hk:k<l.length
  ·obtain⟨f,rfl⟩:∃g,f=g+1:=⟨f - 1,by omega⟩
   simp only[plR]
   rw[if_pos (by omega)]
   simp only[rsK,Int.toNat_natCast]
   by_cases hc:(l.getD k .zero).kind=16
   ·rw[if_pos hc,zgi hd hk hc]
    have hf:yy l (zy l) l.length 16 (f+1) k=k:=by simp only[yy,Int.toNat_natCast];rw[if_pos (by omega),if_pos hc]
    unfold gS
    rw[hf,if_pos (by omega)]
    obtain⟨s,rfl⟩:∃s,sf=s+1:=⟨sf - 1,by omega⟩
    have e1:((k:Int)+1)=((k+1:Nat):Int):=by omega
    rw[e1,zdL hd s (k+1) (by omega),zmw hd f' (l.length - (k+1)) s ((k+1:Nat):Int) (k+1) (by omega) (by omega) (by omega) (by omega)]
   ·rw[if_neg hc]
    obtain⟨n,hn1,hn2,hn3⟩:=jt hd k hk
    have hf:yy l (zy l) l.length 16 (f+1) k=yy l (zy l) l.length 16 f n:=by
     simp only[yy,Int.toNat_natCast];rw[if_pos (by omega),if_neg hc,hn1]
    have hg:gS l (f+1) sf b k=gS l f sf b n:=by unfold gS;rw[hf]
    rw[hg,hn1]
    exact zmw hd f' f sf b n (by omega) (by omega) (by omega) hn3
  ·have hf:yy l (zy l) l.length 16 f k= -1:=by
    cases f with
    |zero=>rfl
    |succ f=>simp only[yy];rw[if_neg (by omega)]
   unfold gS
   rw[hf,if_neg (by omega)]
   simp only[plR]
   rw[if_neg (by omega)];rfl
theorem zh1{l:List Tok}(hd:yJ l=false):JR l=rsK l 16 l.length 0 (plR (zy l) l.length (l.length+1) 0):=by
 have h:=zdL hd l.length 0 (Nat.zero_le _)
 have h2:=zmw hd (l.length+1) (l.length - 0) l.length 0 0 (by omega) (by omega) (by omega) (Nat.zero_le _)
 exact h.trans h2
theorem zaN{l:List Tok}(hd:yJ l=false):ZH l (zy l) 0 l.length 16=prs (JR l):=by
 have:=zcL hd
 unfold ZH
 rw[decide_eq_false (by unfold bad;omega),cond_false]
 unfold JR
 rw[show(((l.length:Int) - 0).toNat+1)=l.length+1 by omega]
def upA(l:List Tok)(b:Nat):Nat→Nat→Nat
 |0,k=>k
 |f+1,k=>if k<b∧(l.getD k .zero).kind=1 then upA l b f (k+1)else k
def dnB(l:List Tok)(a:Nat):Nat→Nat
 |0=>0
 |k+1=>if a<k+1∧(l.getD k .zero).kind=1 then dnB l a k else k+1
theorem zh4(l:List Tok)(b:Nat):∀(f k:Nat),k≤b→k≤upA l b f k∧upA l b f k≤b
 |0,k,h=>by simp only[upA];omega
 |f+1,k,h=>by
  simp only[upA]
  split
  ·have:=zh4 l b f (k+1) (by omega);omega
  ·omega
theorem zhx(l:List Tok)(a:Nat):∀(k:Nat),a≤k→a≤dnB l a k∧dnB l a k≤k
 |0,h=>by simp only[dnB];omega
 |k+1,h=>by
  simp only[dnB]
  split
  ·have:=zhx l a k (by omega);omega
  ·omega
def trA(l:List Tok):Nat:=upA l l.length l.length 0
def trB(l:List Tok):Nat:=dnB l (trA l) l.length
def zcd(l:List Tok):List Tok:=(l.take (trB l)).drop (trA l)
theorem zcc(l:List Tok):trA l≤trB l∧trB l≤l.length:=by
 have h1:=zh4 l l.length l.length 0 (Nat.zero_le _)
 exact zhx l (trA l) l.length h1.2
structure TmS where
 k:Nat
 f:Nat
def trV(l:List Tok):V:=.tup [vi (trA l),vi (trB l)]
theorem ztI(l:List Tok)(hl:l.length≤1000000):ze Tryz.prog 148 [zk l,vi 0,vi l.length] (trV l):=by
 refine ze.of (Orc.cons ky (Orc.nil _)) zrO (by simp[zvd]) fun w0 own0=> ?_
 have hl0:(0:Int)≤(l.length:Int):=by omega
 simp only[zvd,zk,hl0,Int.le_refl,zU,zT,zF,zV,go_sem,zd,seval,reduceIte,reduceCtorEq]
 refine zD.lp (α:=TmS) (fun a=>[(0,.slc 3 (l.map Tok.enc)),(1,vi a.k),(2,vi l.length)]) (fun _=>⟨[],0⟩)
  (fun a=>a.k≤l.length∧l.length≤a.k+a.f∧upA l l.length a.f a.k=trA l) (fun a=>l.length - a.k) ⟨0,l.length⟩ ⟨Nat.zero_le _,by dsimp only;omega,rfl⟩ (St.cut ?_ ?_ ?_) fun a ha=> ?_
 ·simp[zt,zo,zu]
 ·simp
 ·rfl
 obtain⟨k,f⟩:=a
 obtain⟨h1,h2,h3⟩:=ha
 simp only at h1 h2 h3
 have e0:(0:Int)≤(k:Int):=by omega
 by_cases hc:k<l.length∧(l.getD k .zero).kind=1
 ·obtain⟨f,rfl⟩:∃g,f=g+1:=⟨f - 1,by omega⟩
  have e1:(k:Int)<(l.length:Int):=by omega
  have hk:=eq_true hc.2
  simp only[upA]at h3
  rw[if_pos hc]at h3
  simp only[e0,e1,hk,Tok.enc,zU,zT,zF,zV,go_sem,zd,seval,reduceIte,reduceCtorEq]
  exact⟨by omega,⟨k+1,f⟩,⟨by dsimp only;omega,by dsimp only;omega,h3⟩,by dsimp only;omega,by dsimp only;omega⟩
 ·have h4:k=trA l:=by
   rw[←h3]
   cases f with
   |zero=>rfl
   |succ f=>simp only[upA];rw[if_neg hc]
  have hbr:=zcc l
  subst h4
  by_cases e1:((trA l:Nat):Int)<(l.length:Int)
  ·have hk:((l.getD (trA l) .zero).kind=1)=False:=eq_false (fun hh=>hc ⟨by omega,hh⟩)
   simp only[e0,e1,hk,Tok.enc,zU,zT,zF,zV,go_sem,zd,seval,reduceIte,reduceCtorEq]
   refine zD.lp (α:=Nat) (fun k=>[(0,.slc 3 (l.map Tok.enc)),(1,vi (trA l)),(2,vi k)]) (fun _=>⟨[],0⟩)
    (fun k=>trA l≤k∧k≤l.length∧dnB l (trA l) k=trB l) (fun k=>k) l.length ⟨by omega,Nat.le_refl _,rfl⟩ (St.cut ?_ ?_ ?_) fun k hk2=> ?_
   ·simp[zt,zo,yl]
   ·simp
   ·rfl
   obtain⟨g1,g2,g3⟩:=hk2
   by_cases hgt:trA l<k
   ·obtain⟨j,rfl⟩:∃j,k=j+1:=⟨k - 1,by omega⟩
    have d1:((trA l:Nat):Int)<((j+1:Nat):Int):=by omega
    have d2:(((j+1:Nat):Int) - 1).toNat=j:=by omega
    have d3:(0:Int)≤((j+1:Nat):Int) - 1:=by omega
    have d4:((j+1:Nat):Int) - 1<(l.length:Int):=by omega
    simp only[dnB]at g3
    by_cases hs:(l.getD j .zero).kind=1
    ·have hst:=eq_true hs
     rw[if_pos ⟨hgt,hs⟩]at g3
     simp only[d1,d2,d3,d4,hst,Tok.enc,zU,zT,zF,zV,go_sem,zd,seval,reduceIte,reduceCtorEq]
     exact⟨by omega,by omega,j,⟨by omega,by omega,g3⟩,by omega,by omega⟩
    ·have hst:=eq_false hs
     rw[if_neg (fun hh=>hs hh.2)]at g3
     simp only[d1,d2,d3,d4,hst,trV,←g3,Tok.enc,zU,zT,zF,zV,go_sem,zd,seval,reduceIte,reduceCtorEq]
     omega
   ·have d1:¬((trA l:Nat):Int)<(k:Int):=by omega
    have g4:k=trB l:=by
     rw[←g3]
     cases k with
     |zero=>rfl
     |succ j=>simp only[dnB];rw[if_neg (fun hh=>hgt hh.1)]
    simp only[d1,trV,←g4,Tok.enc,zU,zT,zF,zV,go_sem,zd,seval,reduceIte,reduceCtorEq]
  ·simp only[e0,e1,Tok.enc,zU,zT,zF,zV,go_sem,zd,seval,reduceIte,reduceCtorEq]
   refine zD.lp (α:=Nat) (fun k=>[(0,.slc 3 (l.map Tok.enc)),(1,vi (trA l)),(2,vi k)]) (fun _=>⟨[],0⟩)
    (fun k=>trA l≤k∧k≤l.length∧dnB l (trA l) k=trB l) (fun k=>k) l.length ⟨by omega,Nat.le_refl _,rfl⟩ (St.cut ?_ ?_ ?_) fun k hk2=> ?_
   ·simp[zt,zo,yl]
   ·simp
   ·rfl
   obtain⟨g1,g2,g3⟩:=hk2
   by_cases hgt:trA l<k
   ·obtain⟨j,rfl⟩:∃j,k=j+1:=⟨k - 1,by omega⟩
    have d1:((trA l:Nat):Int)<((j+1:Nat):Int):=by omega
    have d2:(((j+1:Nat):Int) - 1).toNat=j:=by omega
    have d3:(0:Int)≤((j+1:Nat):Int) - 1:=by omega
    have d4:((j+1:Nat):Int) - 1<(l.length:Int):=by omega
    simp only[dnB]at g3
    by_cases hs:(l.getD j .zero).kind=1
    ·have hst:=eq_true hs
     rw[if_pos ⟨hgt,hs⟩]at g3
     simp only[d1,d2,d3,d4,hst,Tok.enc,zU,zT,zF,zV,go_sem,zd,seval,reduceIte,reduceCtorEq]
     exact⟨by omega,by omega,j,⟨by omega,by omega,g3⟩,by omega,by omega⟩
    ·have hst:=eq_false hs
     rw[if_neg (fun hh=>hs hh.2)]at g3
     simp only[d1,d2,d3,d4,hst,trV,←g3,Tok.enc,zU,zT,zF,zV,go_sem,zd,seval,reduceIte,reduceCtorEq]
     omega
   ·have d1:¬((trA l:Nat):Int)<(k:Int):=by omega
    have g4:k=trB l:=by
     rw[←g3]
     cases k with
     |zero=>rfl
     |succ j=>simp only[dnB];rw[if_neg (fun hh=>hgt hh.1)]
    simp only[d1,trV,←g4,Tok.enc,zU,zT,zF,zV,go_sem,zd,seval,reduceIte,reduceCtorEq]
theorem zp2(l:List Tok)(hl:l.length≤1000000):ze Tryz.prog 52 [zk l,vi 0,vi l.length] (trV l):=by
 refine ze.of (Orc.nil _) zvC (by simp[c52]) fun w0 own0=> ?_
 simp only[c52,zk,go_sem,zd,seval,reduceIte,reduceCtorEq]
 refine zD.lp (α:=TmS) (fun a=>[(0,.slc 3 (l.map Tok.enc)),(1,vi a.k),(2,vi l.length)]) (fun _=>⟨[],0⟩)
  (fun a=>a.k≤l.length∧l.length≤a.k+a.f∧upA l l.length a.f a.k=trA l) (fun a=>l.length - a.k) ⟨0,l.length⟩ ⟨Nat.zero_le _,by dsimp only;omega,rfl⟩ (St.cut ?_ ?_ ?_) fun a ha=> ?_
 ·simp[zt,zo,zu]
 ·simp
 ·rfl
 obtain⟨k,f⟩:=a
 obtain⟨h1,h2,h3⟩:=ha
 simp only at h1 h2 h3
 have e0:(0:Int)≤(k:Int):=by omega
 by_cases hc:k<l.length∧(l.getD k .zero).kind=1
 ·obtain⟨f,rfl⟩:∃g,f=g+1:=⟨f - 1,by omega⟩
  have e1:(k:Int)<(l.length:Int):=by omega
  have hk:=eq_true hc.2
  simp only[upA]at h3
  rw[if_pos hc]at h3
  simp only[e0,e1,hk,Tok.enc,go_sem,zd,seval,reduceIte,reduceCtorEq]
  exact⟨by omega,⟨k+1,f⟩,⟨by dsimp only;omega,by dsimp only;omega,h3⟩,by dsimp only;omega,by dsimp only;omega⟩
 ·have h4:k=trA l:=by
   rw[←h3]
   cases f with
   |zero=>rfl
   |succ f=>simp only[upA];rw[if_neg hc]
  have hbr:=zcc l
  subst h4
  by_cases e1:((trA l:Nat):Int)<(l.length:Int)
  ·have hk:((l.getD (trA l) .zero).kind=1)=False:=eq_false (fun hh=>hc ⟨by omega,hh⟩)
   simp only[e0,e1,hk,Tok.enc,go_sem,zd,seval,reduceIte,reduceCtorEq]
   refine zD.lp (α:=Nat) (fun k=>[(0,.slc 3 (l.map Tok.enc)),(1,vi (trA l)),(2,vi k)]) (fun _=>⟨[],0⟩)
    (fun k=>trA l≤k∧k≤l.length∧dnB l (trA l) k=trB l) (fun k=>k) l.length ⟨by omega,Nat.le_refl _,rfl⟩ (St.cut ?_ ?_ ?_) fun k hk2=> ?_
   ·simp[zt,zo,yl]
   ·simp
   ·rfl
   obtain⟨g1,g2,g3⟩:=hk2
   by_cases hgt:trA l<k
   ·obtain⟨j,rfl⟩:∃j,k=j+1:=⟨k - 1,by omega⟩
    have d1:((trA l:Nat):Int)<((j+1:Nat):Int):=by omega
    have d2:(((j+1:Nat):Int) - 1).toNat=j:=by omega
    have d3:(0:Int)≤((j+1:Nat):Int) - 1:=by omega
    have d4:((j+1:Nat):Int) - 1<(l.length:Int):=by omega
    simp only[dnB]at g3
    by_cases hs:(l.getD j .zero).kind=1
    ·have hst:=eq_true hs
     rw[if_pos ⟨hgt,hs⟩]at g3
     simp only[d1,d2,d3,d4,hst,Tok.enc,go_sem,zd,seval,reduceIte,reduceCtorEq]
     exact⟨by omega,by omega,j,⟨by omega,by omega,g3⟩,by omega,by omega⟩
    ·have hst:=eq_false hs
     rw[if_neg (fun hh=>hs hh.2)]at g3
     simp only[d1,d2,d3,d4,hst,trV,←g3,Tok.enc,go_sem,zd,seval,reduceIte,reduceCtorEq]
     omega
   ·have d1:¬((trA l:Nat):Int)<(k:Int):=by omega
    have g4:k=trB l:=by
     rw[←g3]
     cases k with
     |zero=>rfl
     |succ j=>simp only[dnB];rw[if_neg (fun hh=>hgt hh.1)]
    simp only[d1,trV,←g4,Tok.enc,go_sem,zd,seval,reduceIte,reduceCtorEq]
  ·simp only[e0,e1,Tok.enc,go_sem,zd,seval,reduceIte,reduceCtorEq]
   refine zD.lp (α:=Nat) (fun k=>[(0,.slc 3 (l.map Tok.enc)),(1,vi (trA l)),(2,vi k)]) (fun _=>⟨[],0⟩)
    (fun k=>trA l≤k∧k≤l.length∧dnB l (trA l) k=trB l) (fun k=>k) l.length ⟨by omega,Nat.le_refl _,rfl⟩ (St.cut ?_ ?_ ?_) fun k hk2=> ?_
   ·simp[zt,zo,yl]
   ·simp
   ·rfl
   obtain⟨g1,g2,g3⟩:=hk2
   by_cases hgt:trA l<k
   ·obtain⟨j,rfl⟩:∃j,k=j+1:=⟨k - 1,by omega⟩
    have d1:((trA l:Nat):Int)<((j+1:Nat):Int):=by omega
    have d2:(((j+1:Nat):Int) - 1).toNat=j:=by omega
    have d3:(0:Int)≤((j+1:Nat):Int) - 1:=by omega
    have d4:((j+1:Nat):Int) - 1<(l.length:Int):=by omega
    simp only[dnB]at g3
    by_cases hs:(l.getD j .zero).kind=1
    ·have hst:=eq_true hs
     rw[if_pos ⟨hgt,hs⟩]at g3
     simp only[d1,d2,d3,d4,hst,Tok.enc,go_sem,zd,seval,reduceIte,reduceCtorEq]
     exact⟨by omega,by omega,j,⟨by omega,by omega,g3⟩,by omega,by omega⟩
    ·have hst:=eq_false hs
     rw[if_neg (fun hh=>hs hh.2)]at g3
     simp only[d1,d2,d3,d4,hst,trV,←g3,Tok.enc,go_sem,zd,seval,reduceIte,reduceCtorEq]
     omega
   ·have d1:¬((trA l:Nat):Int)<(k:Int):=by omega
    have g4:k=trB l:=by
     rw[←g3]
     cases k with
     |zero=>rfl
     |succ j=>simp only[dnB];rw[if_neg (fun hh=>hgt hh.1)]
    simp only[d1,trV,←g4,Tok.enc,go_sem,zd,seval,reduceIte,reduceCtorEq]
def jK:Sum Tryz.prog:=⟨148,fun args=>args= [zk (zj (args.getD 0 .any)),vi 0,vi (zj (args.getD 0 .any)).length]∧((zj (args.getD 0 .any))).length≤1000000,fun args=>trV (zj (args.getD 0 .any)),fun args h=>by
 have:=ztI (zj (args.getD 0 .any)) h.2;rwa [←h.1]at this,false⟩
theorem zkC:jK.f=148:=rfl
theorem zkB(args:List V):jK.D args=(args= [zk (zj (args.getD 0 .any)),vi 0,vi (zj (args.getD 0 .any)).length]∧((zj (args.getD 0 .any))).length≤1000000):=rfl
theorem zb9:jK.flat=false:=rfl
theorem zkD(args:List V):jK.r args=trV (zj (args.getD 0 .any)):=rfl
attribute [go_sem] zkC zkB zb9 zkD
def kO:Sum Tryz.prog:=⟨52,fun args=>args= [zk (zj (args.getD 0 .any)),vi 0,vi (zj (args.getD 0 .any)).length]∧((zj (args.getD 0 .any))).length≤1000000,fun args=>trV (zj (args.getD 0 .any)),fun args h=>by
 have:=zp2 (zj (args.getD 0 .any)) h.2;rwa [←h.1]at this,false⟩
theorem zgV:kO.f=52:=rfl
theorem zgU(args:List V):kO.D args=(args= [zk (zj (args.getD 0 .any)),vi 0,vi (zj (args.getD 0 .any)).length]∧((zj (args.getD 0 .any))).length≤1000000):=rfl
theorem zaf:kO.flat=false:=rfl
theorem zgW(args:List V):kO.r args=trV (zj (args.getD 0 .any)):=rfl
attribute [go_sem] zgV zgU zaf zgW
theorem zni{l:List Tok}(hd:yJ l=false):∀(f:Nat)(k:Nat),∀x∈plR (zy l) l.length f k,(k:Int)≤x
 |0,k,x,hx=>by simp[plR]at hx
 |f+1,k,x,hx=>by
  simp only[plR]at hx
  split at hx
  ·rename_i h
   rcases List.mem_cons.1 hx with rfl|hx
   ·exact Int.le_refl _
   ·obtain⟨n,hn1,hn2,_⟩:=jt hd k (by omega)
    rw[hn1]at hx
    have:=zni hd f n x hx
    omega
  ·cases hx
theorem zf5{l:List Tok}(hd:yJ l=false):∀(f:Nat)(k:Nat),(plR (zy l) l.length f k).Pairwise (· < ·)
 |0,k=>by simp[plR]
 |f+1,k=>by
  simp only[plR]
  split
  ·rename_i h
   obtain⟨n,hn1,hn2,_⟩:=jt hd k (by omega)
   rw[hn1]
   refine List.pairwise_cons.2 ⟨fun x hx=> ?_,zf5 hd f n⟩
   have:=zni hd f n x hx
   omega
  ·exact List.Pairwise.nil
structure SnS where
 k:Nat
 b:Int
 out:List (Int×Int)
 ver:Nat
 clk:Nat
theorem zcX(l:List Int)(k:Nat)(h:k<l.length):l.drop k=l.getD k 0::l.drop (k+1):=zfs l k h
theorem zjz(l:List Tok)(hd:yJ l=false)(hl:l.length≤1000000):ze Tryz.prog 53 [zk l,zJ (zy l),vi 0,vi l.length,vi 16] (prs (JR l)):=by
 obtain⟨S,s1,s2,s3,s4⟩:=zf6 l hd hl
 refine ze.of (Orc.cons S (Orc.nil _)) zvD (by simp[c53]) fun w0 own0=> ?_
 have hmem:=zbD hd (l.length+1) 0
 have hpw:=zf5 hd (l.length+1) 0
 have hln:=zbC hd (l.length+1) 0 (Nat.zero_le _)
 rw[zh1 hd]
 rw[show((0:Nat):Int)=0 from rfl]at hmem hpw hln
 generalize plR (zy l) l.length (l.length+1) 0=ps at*
 generalize hR:rsK l 16 l.length 0 ps=R
 simp only[c53,zk,zJ,s1,s2,s3,s4,go_sem,zd,seval,reduceIte,reduceCtorEq]
 refine zD.lp (α:=SnS) (fun a=>[(0,.slc 3 (l.map Tok.enc)),(3,vi l.length),(4,vi 16),(11,.ref 0 a.ver 0 a.out.length),(12,vi a.b),(13,.slc 1 (ps.map fun n=>[vi n])),(14,vi a.k)])
  (fun a=>⟨[⟨a.ver,2,a.out.map fun p=>[vi p.1,vi p.2],false,[vi 0,vi 0]⟩],a.clk⟩) (fun a=>a.k≤ps.length∧a.out.length≤a.k∧a.out++rsK l 16 l.length a.b (ps.drop a.k)=R∧∀p∈ps.drop a.k,a.b≤p) (fun a=>ps.length - a.k) ⟨0,0,[],0,1⟩
  ⟨Nat.zero_le _,Nat.zero_le _,hR,fun p hp=>(hmem p hp).1⟩ (St.nil 11 2 [vi 0,vi 0] (by simp[zo]) (St.cut ?_ ?_ ?_)) fun a ha=> ?_
 ·simp[zt,zo,zu]
 ·simp[Heap.alloc]
 ·rfl
 obtain⟨k,b,out,ver,clk⟩:=a
 obtain⟨h1,h2,h3,h4⟩:=ha
 simp only at h1 h2 h3 h4
 have hot:out.take out.length=out:=List.take_length
 by_cases hk:k=ps.length
 ·subst hk
  rw[List.drop_length]at h3
  simp only[rsK]at h3
  have hap:(out.map fun p=>[vi p.1,vi p.2])++ [[vi b,vi l.length]]=R.map fun p=>[vi p.1,vi p.2]:=by rw[←h3];simp
  have hlr:R.length=out.length+1:=by rw[←h3];simp
  have hmr:zz (zz (res (fun _=>true) ⟨[],0⟩ 11)) (R.map fun p=>[vi p.1,vi p.2])=some (R.map fun p=>[vi p.1,vi p.2]):=ZF _ _ R
  have htk:List.take (out.length+1) R=R:=List.take_of_length_le (by omega)
  simp only[Int.lt_irrefl,hot,hap,hlr,htk,ZF,Nat.le_refl,prs,go_sem,zd,seval,reduceIte,reduceCtorEq]
  omega
 ·have e1:(k:Int)<(ps.length:Int):=by omega
  have e0:(0:Int)≤(k:Int):=by omega
  have hlt:k<ps.length:=by omega
  rw[zcX ps k hlt]at h3 h4
  have hpm:ps.getD k 0∈ps:=by rw[List.getD_eq_getElem?_getD,List.getElem?_eq_getElem hlt];exact List.getElem_mem _
  have hpr:=hmem _ hpm
  have hpd:∀q∈ps.drop (k+1),ps.getD k 0<q:=by
   have h5:(ps.drop k).Pairwise (· < ·):=hpw.drop
   rw[zcX ps k hlt]at h5
   exact(List.pairwise_cons.1 h5).1
  have hg:=ya ps k
  generalize ps.getD k 0=p at*
  obtain⟨m,rfl⟩:∃m:Nat,p=m:=⟨p.toNat,by omega⟩
  have hbm:=h4 (m:Int) (by simp)
  simp only[rsK,Int.toNat_natCast]at h3
  by_cases hc:(l.getD m .zero).kind=16
  ·have hct:=eq_true hc
   rw[if_pos hc]at h3
   simp only[e0,e1,hg,hpr.1,hpr.2,hct,hbm,hot,Tok.enc,zJ,go_sem,zd,seval,reduceIte,reduceCtorEq]
   refine⟨⟨by omega,by omega,by omega⟩,by omega,by omega,⟨k+1,m+1,out++ [(b,(m:Int))],_,_⟩,⟨by dsimp only;omega,by simp;omega,by rw[←h3];simp,fun q hq=>by have:=hpd q hq;dsimp only;omega⟩,by dsimp only;omega,⟨⟨rfl,by simp⟩,rfl,by dsimp only;omega⟩,⟨rfl,by simp⟩,rfl⟩
  ·have hct:=eq_false hc
   rw[if_neg hc]at h3
   simp only[e0,e1,hg,hpr.1,hpr.2,hct,hot,Tok.enc,zJ,go_sem,zd,seval,reduceIte,reduceCtorEq]
   exact⟨by omega,⟨k+1,b,out,ver,clk⟩,⟨by dsimp only;omega,by dsimp only;omega,h3,fun q hq=>h4 q (by simp[hq])⟩,by dsimp only;omega,⟨⟨rfl,rfl⟩,rfl,by dsimp only;omega⟩,⟨rfl,rfl⟩,rfl⟩
structure Dcl where
 nm:ByteArray
 v:List Tok
 imp:Bool
instance:Inhabited Dcl:=⟨⟨⟨#[]⟩,[],false⟩⟩
def Dcl.enc(d:Dcl):List V:=[vs d.nm,.slc 3 (d.v.map Tok.enc),vb d.imp]
def zhv(e:List V):Dcl:=⟨(e.getD 0 .any).str,zj (e.getD 1 .any),V.boo (e.getD 2 .any)⟩
def qi(v:V):Dcl:=zhv v.cs
def WS(l:List Dcl):V:=.slc 3 (l.map Dcl.enc)
def qD(v:V):List Dcl:=v.es.map zhv
theorem qC(d:Dcl):zhv d.enc=d:=by
 show(⟨_,zj (.slc 3 (d.v.map Tok.enc)),_⟩:Dcl)=d
 rw[zh];rfl
theorem qE(sz:Nat)(l:List Dcl):qD (.slc sz (l.map Dcl.enc))=l:=by
 simp[qD,V.es,Function.comp_def,qC]
theorem Dcl.eta'(d:Dcl):(⟨d.nm,d.v,d.imp⟩:Dcl)=d:=rfl
structure Mg where
 nm:ByteArray
 ds:List Dcl
instance:Inhabited Mg:=⟨⟨⟨#[]⟩,[]⟩⟩
def Mg.enc(m:Mg):List V:=[vs m.nm,.slc 3 (m.ds.map Dcl.enc)]
def zsa(e:List V):Mg:=⟨(e.getD 0 .any).str,qD (e.getD 1 .any)⟩
theorem zl0(m:Mg):zsa m.enc=m:=by
 show(⟨_,qD (.slc 3 (m.ds.map Dcl.enc))⟩:Mg)=m
 rw[qE];rfl
structure Rul where
 kind:Int
 pre:List Tok
 ds:List Dcl
 ms:List Mg
instance:Inhabited Rul:=⟨⟨0,[],[],[]⟩⟩
def Rul.enc(r:Rul):List V:=[vi r.kind,.slc 3 (r.pre.map Tok.enc),.slc 3 (r.ds.map Dcl.enc),.slc 2 (r.ms.map Mg.enc)]
def zl1(e:List V):Rul:=⟨(e.getD 0 .any).int,zj (e.getD 1 .any),qD (e.getD 2 .any),(e.getD 3 .any).es.map zsa⟩
def WQ(v:V):Rul:=zl1 v.cs
theorem zaw(r:Rul):zl1 r.enc=r:=by
 show(⟨_,zj (.slc 3 (r.pre.map Tok.enc)),qD (.slc 3 (r.ds.map Dcl.enc)),(V.es (.slc 2 (r.ms.map Mg.enc))).map zsa⟩:Rul)=r
 rw[zh,qE]
 have:(V.es (.slc 2 (r.ms.map Mg.enc))).map zsa=r.ms:=by simp[V.es,Function.comp_def,zl0]
 rw[this];rfl
theorem zsc(k:Int)(p:List Tok)(d:List Dcl)(m:List Mg):WQ (.agg [.c (.int .i64 k),.slc 3 (p.map Tok.enc),.slc 3 (d.map Dcl.enc),.slc 2 (m.map Mg.enc)])=⟨k,p,d,m⟩:=zaw ⟨k,p,d,m⟩
def zgc(l:List Rul):V:=.slc 4 (l.map Rul.enc)
def Yc(v:V):List Rul:=v.es.map zl1
theorem KI(sz:Nat)(l:List Rul):Yc (.slc sz (l.map Rul.enc))=l:=by
 simp[Yc,V.es,Function.comp_def,zaw]
theorem Rul.eta'(r:Rul):(⟨r.kind,r.pre,r.ds,r.ms⟩:Rul)=r:=rfl
def shE(l:List Rul):List V:=[.slc 4 (l.map Rul.enc)]
def z6(s:List (List Rul)):V:=.slc 1 (s.map shE)
def zY(v:V):List (List Rul):=v.es.map fun e=>Yc (e.getD 0 .any)
theorem zE(sz:Nat)(s:List (List Rul)):zY (.slc sz (s.map shE))=s:=by
 have:∀l:List Rul,Yc (.slc 4 (l.map Rul.enc))=l:=KI 4
 simp[zY,V.es,Function.comp_def,shE,this]
theorem KL(l:List Dcl)(i:Nat)(z:List V)(h:i<l.length):(l.map Dcl.enc).getD i z=(l.getD i default).enc:=by
 simp[List.getD_eq_getElem?_getD,h]
theorem zcW(l:List Mg)(i:Nat)(z:List V)(h:i<l.length):(l.map Mg.enc).getD i z=(l.getD i default).enc:=by
 simp[List.getD_eq_getElem?_getD,h]
theorem KM(l:List Rul)(i:Nat)(z:List V)(h:i<l.length):(l.map Rul.enc).getD i z=(l.getD i default).enc:=by
 simp[List.getD_eq_getElem?_getD,h]
theorem KN(s:List (List Rul))(i:Nat)(z:List V)(h:i<s.length):(s.map shE).getD i z=shE (s.getD i []):=by
 simp[List.getD_eq_getElem?_getD,h]
abbrev zp0:List Cell:=[.int .i64,.str,.int .i64]
abbrev zv9:List Cell:=[.str,.slc zp0,.bool]
abbrev mgC:List Cell:=[.str,.slc zv9]
abbrev zzq:List Cell:=[.int .i64,.slc zp0,.slc zv9,.slc mgC]
abbrev zw4:List Cell:=[.slc zzq]
theorem K0{α:Type}(enc:α→List V)(ok:α→Prop):∀(es:List (List V)),(∀e∈es,∃n:α,e=enc n∧ok n)→∃l:List α,es=l.map enc∧∀x∈l,ok x
 | [],_=>⟨[],rfl,by simp⟩
 |e::es,h=>by
  obtain⟨l,hl,ho⟩:=K0 enc ok es fun e' he=>h e' (by simp[he])
  obtain⟨n,hn,hok⟩:=h e (by simp)
  exact⟨n::l,by rw[hl,hn];rfl,fun x hx=>by rcases List.mem_cons.1 hx with rfl|hx;exact hok;exact ho x hx⟩
def zzn(n:Int):Prop:= -9223372036854775808≤n∧n≤9223372036854775807
def zwN(l:List Tok):Prop:=∀t∈l,zzn t.n
theorem zeM{x:V}(h:CellOK (.slc zp0) x):∃l:List Tok,x=zk l∧zwN l:=by
 cases h with
 |slc cs ess hl h h2=>
  obtain⟨l,rfl,ho⟩:=K0 Tok.enc (fun t=>zzn t.n) ess fun e he=>by
   have hlen:=h e he
   have a0:=h2 e he 0 _ rfl
   have a1:=h2 e he 1 _ rfl
   have a2:=h2 e he 2 _ rfl
   match e,hlen with
   | [a,b,c],_=>
     simp only[List.getD_cons_zero,List.getD_cons_succ]at a0 a1 a2
     cases a0;cases a1
     cases a2 with
     |int k n hw=>
      refine⟨⟨_,_,n⟩,rfl,?_⟩
      simp[Lit.wf,IntKind.min,IntKind.max,IntKind.signed,IntKind.bits]at hw
      show -9223372036854775808≤n∧n≤9223372036854775807
      omega
  exact⟨l,rfl,ho⟩
def zzm(d:Dcl):Prop:=zwN d.v
def zii:Nat:=maxLen
theorem zrp:zii=9223372036854775807:=by decide
def zhS(l:List Dcl):Prop:=l.length≤zii∧∀d∈l,zzm d
theorem zhw{x:V}(h:CellOK (.slc zv9) x):∃l:List Dcl,x=WS l∧zhS l:=by
 cases h with
 |slc cs ess hl h h2=>
  obtain⟨l,rfl,ho⟩:=K0 Dcl.enc zzm ess fun e he=>by
   have hlen:=h e he
   have a0:=h2 e he 0 _ rfl
   have a1:=h2 e he 1 _ rfl
   have a2:=h2 e he 2 _ rfl
   match e,hlen with
   | [a,b,c],_=>
     simp only[List.getD_cons_zero,List.getD_cons_succ]at a0 a1 a2
     obtain⟨l,rfl,hb⟩:=zeM a1
     cases a0;cases a2
     exact⟨⟨_,l,_⟩,rfl,hb⟩
  exact⟨l,rfl,by simpa using(show _≤zii from hl),ho⟩
def zwM(m:Mg):Prop:=zhS m.ds
def zbz(r:Rul):Prop:=zwN r.pre∧zhS r.ds∧∀m∈r.ms,zwM m
theorem zwK{x:V}(h:CellOK (.slc mgC) x):∃l:List Mg,x= .slc 2 (l.map Mg.enc)∧∀m∈l,zwM m:=by
 cases h with
 |slc cs ess hl h h2=>
  obtain⟨l,rfl,ho⟩:=K0 Mg.enc zwM ess fun e he=>by
   have hlen:=h e he
   have a0:=h2 e he 0 _ rfl
   have a1:=h2 e he 1 _ rfl
   match e,hlen with
   | [a,b],_=>
     simp only[List.getD_cons_zero,List.getD_cons_succ]at a0 a1
     obtain⟨l,rfl,hb⟩:=zhw a1
     cases a0
     exact⟨⟨_,l⟩,rfl,hb⟩
  exact⟨l,rfl,ho⟩
theorem ztd{x:V}(h:CellOK (.slc zzq) x):∃l:List Rul,x=zgc l∧∀r∈l,zbz r:=by
 cases h with
 |slc cs ess hl h h2=>
  obtain⟨l,rfl,ho⟩:=K0 Rul.enc zbz ess fun e he=>by
   have hlen:=h e he
   have a0:=h2 e he 0 _ rfl
   have a1:=h2 e he 1 _ rfl
   have a2:=h2 e he 2 _ rfl
   have a3:=h2 e he 3 _ rfl
   match e,hlen with
   | [a,b,c,d],_=>
     simp only[List.getD_cons_zero,List.getD_cons_succ]at a0 a1 a2 a3
     obtain⟨l1,rfl,h1⟩:=zeM a1
     obtain⟨l2,rfl,h2⟩:=zhw a2
     obtain⟨l3,rfl,h3⟩:=zwK a3
     cases a0
     exact⟨⟨_,l1,l2,l3⟩,rfl,h1,h2,h3⟩
  exact⟨l,rfl,ho⟩
theorem zti{x:V}(h:CellOK (.slc zw4) x):∃s:List (List Rul),x=z6 s∧∀l∈s,∀r∈l,zbz r:=by
 cases h with
 |slc cs ess hl h h2=>
  obtain⟨l,rfl,ho⟩:=K0 shE (fun l=>∀r∈l,zbz r) ess fun e he=>by
   have hlen:=h e he
   have a0:=h2 e he 0 _ rfl
   match e,hlen with
   | [a],_=>
     simp only[List.getD_cons_zero]at a0
     obtain⟨l,rfl,h1⟩:=ztd a0
     exact⟨l,rfl,h1⟩
  exact⟨l,rfl,ho⟩
def WT(d:Dcl):Bool:=decide (d.nm.size≤100)&&decide (d.v.length≤20)&&few d.v
def jI(l:List Dcl):Bool:=decide ((∀d∈l,WT d=true)∧l.length≤8)
def zcP(m:Mg):Bool:=decide (m.nm.size≤100)&&jI m.ds
def zcQ(r:Rul):Bool:=decide (r.pre.length≤20)&&few r.pre&&decide (r.ms.length≤8)&&jI r.ds&&decide (∀m∈r.ms,zcP m=true)
def Qn(l:List Rul):Bool:=decide ((∀i,i<l.length→i≤8→zcQ (l.getD i default)=true)∧l.length≤8)
def QR(s:List (List Rul)):Bool:=decide ((∀i,i<s.length→i≤4→Qn (s.getD i [])=true)∧s.length≤4)
theorem yv{α:Type}{l:List α}{i:Nat}{d:α}(h:i<l.length):l.getD i d∈l:=by
 rw[List.getD_eq_getElem?_getD,List.getElem?_eq_getElem h];exact List.getElem_mem _
theorem Ze{α:Type}{l:List α}{x d:α}(h:x∈l):∃i,i<l.length∧l.getD i d=x:=by
 obtain⟨i,hi,e⟩:=List.mem_iff_getElem.1 h
 exact⟨i,hi,by rw[List.getD_eq_getElem?_getD,List.getElem?_eq_getElem hi];exact e⟩
def YV:Sum Tryz.prog:=⟨7,fun args=>args= [zk (zj (args.getD 0 .any))],fun args=>vb (few (zj (args.getD 0 .any))),fun args h=>by have:=zwl (zj (args.getD 0 .any));rwa [←h]at this,true⟩
theorem z0:YV.f=7:=rfl
theorem zZ(args:List V):YV.D args=(args= [zk (zj (args.getD 0 .any))]):=rfl
theorem zG:YV.flat=true:=rfl
theorem z3(args:List V):YV.r args=vb (few (zj (args.getD 0 .any))):=rfl
theorem zmm{l:List Dcl}{k:Nat}(h:k<l.length)(hn:WT (l.getD k default)=false):jI l=false:=
 decide_eq_false fun hh=>by have:=hh.1 _ (yv (d:=default) h);rw[hn]at this;cases this
structure FdS where
 k:Nat
 clk:Nat
theorem zmn(l:List Dcl)(hl:l.length≤zii):ze Tryz.prog 99 [WS l] (vb (jI l)):=by
 rw[zrp]at hl
 refine ze.of (Orc.cons YV (Orc.nil _)) zv6 (by simp[c99]) fun w0 own0=> ?_
 simp -implicitDefEqProofs only[c99,WS,zc,zb,za,z0,zZ,zG,z3,go_sem,seval,reduceIte,reduceCtorEq]
 refine zD.lp (α:=FdS) (fun a=>[(0,.slc 3 (l.map Dcl.enc)),(5,.slc 3 (l.map Dcl.enc)),(6,vi l.length),(7,vi a.k)]) (fun a=>⟨[],a.clk⟩)
  (fun a=>a.k≤l.length∧∀i,i<a.k→WT (l.getD i default)=true) (fun a=>l.length - a.k) ⟨0,0⟩ ⟨Nat.zero_le _,fun i hi=>by simp at hi⟩ (St.cut ?_ ?_ ?_) fun a ha=> ?_
 ·simp[zt,zo,zu]
 ·rfl
 ·rfl
 obtain⟨k,clk⟩:=a
 obtain⟨g1,g2⟩:=ha
 simp only at g1 g2
 by_cases he:k=l.length
 ·have hR:jI l=decide ((l.length:Int)≤8):=by
   unfold jI
   rw[Bool.eq_iff_iff,decide_eq_true_eq,decide_eq_true_eq]
   constructor
   ·rintro⟨_,h⟩;omega
   ·refine fun h=>⟨fun d hd=> ?_,by omega⟩
    obtain⟨i,hi,rfl⟩:=Ze (d:=default) hd
    exact g2 i (by omega)
  have e9:=eq_false (show ¬(k:Int)<(l.length:Int)by omega)
  rw[hR]
  simp -implicitDefEqProofs only[e9,zc,zb,za,z0,zZ,zG,z3,go_sem,seval,reduceIte,reduceCtorEq]
 have f1:=eq_true (show(k:Int)<(l.length:Int)by omega)
 have f0:=eq_true (show(0:Int)≤(k:Int)by omega)
 have hg:=fun z=>KL l k z (by omega)
 have hno:=zmm (l:=l) (k:=k) (by omega)
 have hnx:WT (l.getD k default)=true→∀i,i<k+1→WT (l.getD i default)=true:=fun h i hi=>by
  by_cases e:i=k
  ·rw[e];exact h
  ·exact g2 i (by omega)
 generalize l.getD k default=d at*
 obtain⟨nm,v,imp⟩:=d
 by_cases c1:nm.size≤100
 ·have n1:=eq_false (show ¬(100:Int)<(nm.size:Int)by omega)
  by_cases c2:v.length≤20
  ·have n2:=eq_false (show ¬(20:Int)<(v.length:Int)by omega)
   cases hf:few v with
   |true=>
    simp -implicitDefEqProofs only[f0,f1,hg,n1,n2,hf,Dcl.enc,zk,zh,zc,zb,za,z0,zZ,zG,z3,go_sem,seval,reduceIte,reduceCtorEq]
    exact⟨by omega,⟨k+1,clk+1⟩,⟨by dsimp only;omega,hnx (by unfold WT;rw[decide_eq_true c1,decide_eq_true c2,hf];rfl)⟩,by dsimp only;omega,by dsimp only;omega,rfl⟩
   |false=>
    have h0:=hno (by unfold WT;rw[hf,Bool.and_false])
    simp -implicitDefEqProofs only[f0,f1,hg,n1,n2,hf,h0,Dcl.enc,zk,zh,zc,zb,za,z0,zZ,zG,z3,go_sem,seval,reduceIte,reduceCtorEq]
  ·have n2:=eq_true (show(20:Int)<(v.length:Int)by omega)
   have h0:=hno (by unfold WT;rw[decide_eq_false c2,Bool.and_false];rfl)
   simp -implicitDefEqProofs only[f0,f1,hg,n1,n2,h0,Dcl.enc,zk,zh,zc,zb,za,z0,zZ,zG,z3,go_sem,seval,reduceIte,reduceCtorEq]
 ·have n1:=eq_true (show(100:Int)<(nm.size:Int)by omega)
  have h0:=hno (by unfold WT;rw[decide_eq_false c1];rfl)
  simp -implicitDefEqProofs only[f0,f1,hg,n1,h0,Dcl.enc,zk,zh,zc,zb,za,z0,zZ,zG,z3,go_sem,seval,reduceIte,reduceCtorEq]
def Yy:Sum Tryz.prog:=⟨99,fun args=>args= [WS (qD (args.getD 0 .any))]∧((qD (args.getD 0 .any))).length≤zii,fun args=>vb (jI (qD (args.getD 0 .any))),fun args h=>by
 have:=zmn (qD (args.getD 0 .any)) h.2;rwa [←h.1]at this,true⟩
theorem zgH:Yy.f=99:=rfl
theorem zgG(args:List V):Yy.D args=(args= [WS (qD (args.getD 0 .any))]∧((qD (args.getD 0 .any))).length≤zii):=rfl
theorem zab:Yy.flat=true:=rfl
theorem zgI(args:List V):Yy.r args=vb (jI (qD (args.getD 0 .any))):=rfl
attribute [go_sem] zgH zgG zab zgI
theorem zsl{l:List Rul}{k:Nat}(h:k<l.length)(h8:k≤8)(hn:zcQ (l.getD k default)=false):Qn l=false:=
 decide_eq_false fun hh=>by have:=hh.1 k h h8;rw[hn]at this;cases this
theorem zsm(l:List Rul)(hl:∀r∈l,zbz r):ze Tryz.prog 70 [zgc l] (vb (Qn l)):=by
 refine ze.of (Orc.cons YV (Orc.cons Yy (Orc.nil _))) zvO (by simp[c70]) fun w0 own0=> ?_
 simp -implicitDefEqProofs only[c70,zgc,zc,zb,za,z0,zZ,zG,z3,go_sem,seval,reduceIte,reduceCtorEq]
 refine zD.lp (α:=FdS) (fun a=>[(0,.slc 4 (l.map Rul.enc)),(3,.fn 99 []),(4,vi a.k)]) (fun a=>⟨[],a.clk⟩)
  (fun a=>a.k≤l.length∧a.k≤9∧∀i,i<a.k→zcQ (l.getD i default)=true) (fun a=>l.length - a.k) ⟨0,0⟩ ⟨Nat.zero_le _,by dsimp only;omega,fun i hi=>by simp at hi⟩ (St.cut ?_ ?_ ?_) fun a ha=> ?_
 ·simp[zt,zo,zu]
 ·rfl
 ·rfl
 obtain⟨k,clk⟩:=a
 obtain⟨g1,g9,g2⟩:=ha
 simp only at g1 g9 g2
 by_cases he:k<l.length∧k≤8
 case neg=>
  have hR:Qn l=decide ((l.length:Int)≤8):=by
   unfold Qn
   rw[Bool.eq_iff_iff,decide_eq_true_eq,decide_eq_true_eq]
   constructor
   ·rintro⟨_,h⟩;omega
   ·exact fun h=>⟨fun i hi h8=>g2 i (by omega),by omega⟩
  rw[hR]
  by_cases hk:k<l.length
  ·have f1:=eq_true (show(k:Int)<(l.length:Int)by omega)
   have f8:=eq_false (show ¬(k:Int)≤8 by omega)
   simp -implicitDefEqProofs only[f1,f8,zc,zb,za,z0,zZ,zG,z3,go_sem,seval,reduceIte,reduceCtorEq]
  ·have f1:=eq_false (show ¬(k:Int)<(l.length:Int)by omega)
   simp -implicitDefEqProofs only[f1,zc,zb,za,z0,zZ,zG,z3,go_sem,seval,reduceIte,reduceCtorEq]
 obtain⟨k1,k2⟩:=he
 have f1:=eq_true (show(k:Int)<(l.length:Int)by omega)
 have f8:=eq_true (show(k:Int)≤8 by omega)
 have f0:=eq_true (show(0:Int)≤(k:Int)by omega)
 have hg:=fun z=>KM l k z (by omega)
 have hno:=zsl (l:=l) k1 k2
 have hnx:zcQ (l.getD k default)=true→∀i,i<k+1→zcQ (l.getD i default)=true:=fun h i hi=>by
  by_cases e:i=k
  ·rw[e];exact h
  ·exact g2 i (by omega)
 have hrk:=hl _ (yv (d:=default) k1)
 generalize l.getD k default=r at*
 obtain⟨kd,pre,ds,ms⟩:=r
 have hd6:=hrk.2.1.1
 have hm6:=hrk.2.2
 simp only at hd6 hm6
 clear hrk
 have eR:zcQ ⟨kd,pre,ds,ms⟩=(decide (pre.length≤20)&&few pre&&decide (ms.length≤8)&&jI ds&&decide (∀m∈ms,zcP m=true)):=rfl
 rw[eR]at hno hnx
 clear eR
 by_cases c1:pre.length≤20
 case neg=>
  have n1:=eq_true (show(20:Int)<(pre.length:Int)by omega)
  have h0:=hno (by rw[decide_eq_false c1];rfl)
  simp -implicitDefEqProofs only[f0,f1,f8,hg,n1,h0,Rul.enc,zk,zh,zc,zb,za,z0,zZ,zG,z3,go_sem,seval,reduceIte,reduceCtorEq]
 have n1:=eq_false (show ¬(20:Int)<(pre.length:Int)by omega)
 rw[decide_eq_true c1,Bool.true_and]at hno hnx
 cases hf:few pre with
 |false=>
  have h0:=hno (by rw[hf];rfl)
  simp -implicitDefEqProofs only[f0,f1,f8,hg,n1,hf,h0,Rul.enc,zk,zh,zc,zb,za,z0,zZ,zG,z3,go_sem,seval,reduceIte,reduceCtorEq]
 |true=>
 rw[hf,Bool.true_and]at hno hnx
 by_cases c3:ms.length≤8
 case neg=>
  have n3:=eq_true (show(8:Int)<(ms.length:Int)by omega)
  have h0:=hno (by rw[decide_eq_false c3];rfl)
  simp -implicitDefEqProofs only[f0,f1,f8,hg,n1,hf,n3,h0,Rul.enc,zk,zh,zc,zb,za,z0,zZ,zG,z3,go_sem,seval,reduceIte,reduceCtorEq]
 have n3:=eq_false (show ¬(8:Int)<(ms.length:Int)by omega)
 rw[decide_eq_true c3,Bool.true_and]at hno hnx
 cases hd:jI ds with
 |false=>
  have h0:=hno (by rw[hd];rfl)
  simp -implicitDefEqProofs only[f0,f1,f8,hg,n1,hf,n3,hd,hd6,h0,Rul.enc,zk,WS,zh,qE,zc,zb,za,z0,zZ,zG,z3,go_sem,seval,reduceIte,reduceCtorEq]
 |true=>
 rw[hd,Bool.true_and]at hno hnx
 simp -implicitDefEqProofs only[f0,f1,f8,hg,n1,hf,n3,hd,hd6,Rul.enc,zk,WS,zh,qE,zc,zb,za,z0,zZ,zG,z3,go_sem,seval,reduceIte,reduceCtorEq]
 refine zD.lp (α:=FdS) (fun a=>[(0,.slc 4 (l.map Rul.enc)),(3,.fn 99 []),(4,vi k),(56,.slc 2 (ms.map Mg.enc)),(57,vi ms.length),(58,vi a.k)]) (fun a=>⟨[],a.clk⟩)
  (fun a=>a.k≤ms.length∧∀i,i<a.k→zcP (ms.getD i default)=true) (fun a=>ms.length - a.k) ⟨0,clk⟩ ⟨Nat.zero_le _,fun i hi=>by simp at hi⟩ (St.cut ?_ ?_ ?_) fun a ha=> ?_
 ·simp[zt,zo,yl]
 ·rfl
 ·rfl
 obtain⟨j,clk2⟩:=a
 obtain⟨b1,b2⟩:=ha
 simp only at b1 b2
 by_cases hj:j=ms.length
 ·have e9:=eq_false (show ¬(j:Int)<(ms.length:Int)by omega)
  have hall:=hnx (decide_eq_true fun m hm=>by
   obtain⟨i,hi,rfl⟩:=Ze (d:=default) hm
   exact b2 i (by omega))
  simp -implicitDefEqProofs only[e9,zc,zb,za,z0,zZ,zG,z3,go_sem,seval,reduceIte,reduceCtorEq]
  exact⟨by omega,⟨k+1,clk2⟩,⟨by dsimp only;omega,by dsimp only;omega,hall⟩,by dsimp only;omega,by dsimp only;omega,rfl⟩
 have j1:=eq_true (show(j:Int)<(ms.length:Int)by omega)
 have j0:=eq_true (show(0:Int)≤(j:Int)by omega)
 have hgm:=fun z=>zcW ms j z (by omega)
 have hmem:=yv (d:=(default:Mg)) (show j<ms.length by omega)
 have hnoM:zcP (ms.getD j default)=false→Qn l=false:=fun h=>hno (decide_eq_false fun hh=>by have:=hh _ hmem;rw[h]at this;cases this)
 have hmb:=(hm6 _ hmem).1
 have hnm:zcP (ms.getD j default)=true→∀i,i<j+1→zcP (ms.getD i default)=true:=fun h i hi=>by
  by_cases e:i=j
  ·rw[e];exact h
  ·exact b2 i (by omega)
 clear hm6 hmem
 generalize ms.getD j default=m at*
 obtain⟨nm,md⟩:=m
 simp only at hmb
 have eM:zcP ⟨nm,md⟩=(decide (nm.size≤100)&&jI md):=rfl
 rw[eM]at hnoM hnm
 by_cases c4:nm.size≤100
 ·have n4:=eq_false (show ¬(100:Int)<(nm.size:Int)by omega)
  cases hfm:jI md with
  |true=>
   simp -implicitDefEqProofs only[j0,j1,hgm,hmb,n4,hfm,Mg.enc,WS,qE,zc,zb,za,z0,zZ,zG,z3,go_sem,seval,reduceIte,reduceCtorEq]
   exact⟨by omega,⟨j+1,clk2+1⟩,⟨by dsimp only;omega,hnm (by rw[decide_eq_true c4,hfm];rfl)⟩,by dsimp only;omega,by dsimp only;omega,rfl⟩
  |false=>
   have h0:=hnoM (by rw[hfm,Bool.and_false])
   simp -implicitDefEqProofs only[j0,j1,hgm,hmb,n4,hfm,h0,Mg.enc,WS,qE,zc,zb,za,z0,zZ,zG,z3,go_sem,seval,reduceIte,reduceCtorEq]
 ·have n4:=eq_true (show(100:Int)<(nm.size:Int)by omega)
  have h0:=hnoM (by rw[decide_eq_false c4];rfl)
  simp -implicitDefEqProofs only[j0,j1,hgm,n4,h0,Mg.enc,WS,qE,zc,zb,za,z0,zZ,zG,z3,go_sem,seval,reduceIte,reduceCtorEq]
def Kl:Sum Tryz.prog:=⟨70,fun args=>args= [zgc (Yc (args.getD 0 .any))]∧∀r∈(Yc (args.getD 0 .any)),zbz r,fun args=>vb (Qn (Yc (args.getD 0 .any))),fun args h=>by
 have:=zsm (Yc (args.getD 0 .any)) h.2;rwa [←h.1]at this,true⟩
theorem zkb:Kl.f=70:=rfl
theorem zka(args:List V):Kl.D args=(args= [zgc (Yc (args.getD 0 .any))]∧∀r∈(Yc (args.getD 0 .any)),zbz r):=rfl
theorem zb0:Kl.flat=true:=rfl
theorem zkc(args:List V):Kl.r args=vb (Qn (Yc (args.getD 0 .any))):=rfl
attribute [go_sem] zkb zka zb0 zkc
def shD(l:List Dcl):Prop:=l.length≤8∧∀d∈l,d.nm.size≤100∧d.v.length≤20∧∀t∈d.v,t.text.size≤100
def shR(r:Rul):Prop:=(r.pre.length≤20∧∀t∈r.pre,t.text.size≤100)∧shD r.ds∧r.ms.length≤8∧∀m∈r.ms,m.nm.size≤100∧shD m.ds
theorem zmo{v:List Tok}(h:few v=true):∀t∈v,t.text.size≤100:=fun t ht=>by
 unfold few at h;rw[decide_eq_true_eq]at h
 obtain⟨i,hi,rfl⟩:=Ze (d:=Tok.zero) ht
 exact h.2 i hi
theorem zcO{l:List Dcl}(h:jI l=true):shD l:=by
 unfold jI at h;rw[decide_eq_true_eq]at h
 refine⟨h.2,fun d hd=> ?_⟩
 have:=h.1 d hd
 unfold WT at this
 simp only[Bool.and_eq_true,decide_eq_true_eq]at this
 exact⟨this.1.1,this.1.2,zmo this.2⟩
theorem zso{r:Rul}(h:zcQ r=true):shR r:=by
 unfold zcQ at h
 simp only[Bool.and_eq_true,decide_eq_true_eq]at h
 obtain⟨⟨⟨⟨h1,h2⟩,h3⟩,h4⟩,h5⟩:=h
 refine⟨⟨h1,zmo h2⟩,zcO h4,h3,fun m hm=> ?_⟩
 have:=h5 m hm
 unfold zcP at this
 simp only[Bool.and_eq_true,decide_eq_true_eq]at this
 exact⟨this.1,zcO this.2⟩
theorem zsn{l:List Rul}(h:Qn l=true):l.length≤8∧∀r∈l,shR r:=by
 unfold Qn at h;rw[decide_eq_true_eq]at h
 refine⟨h.2,fun r hr=> ?_⟩
 obtain⟨i,hi,rfl⟩:=Ze (d:=default) hr
 exact zso (h.1 i hi (by omega))
end Go.Proofs.YtlaopdfpncckeaaGreatDoor
