/- Part of the proof of ContextMargins. No condition. -/
import Derived.Test.YtlaopdfpncckeaaGreatDoorJ16
import Derived.Test.YtlaopdfpncckeaaGreatDoorGc
import Derived.Test.YtlaopdfpncckeaaGreatDoorCd
import Derived.Test.YtlaopdfpncckeaaGreatDoorE4
import Derived.Test.YtlaopdfpncckeaaGreatDoorCe
section
namespace Go.Proofs.YtlaopdfpncckeaaGreatDoor
open Go.Sx
set_option linter.unusedSimpArgs false
set_option maxHeartbeats 8000000
set_option maxRecDepth 20000
abbrev NS:=ByteArray×Int
structure Stp where
 name:ByteArray
 n:Int
 items:List Itm
instance:Inhabited Stp:=⟨⟨⟨#[]⟩,0,[]⟩⟩
def Stp.enc(s:Stp):List V:=[vs s.name,vi s.n,.slc 5 (s.items.map Itm.enc)]
def kG(l:List Stp):V:=.slc 3 (l.map Stp.enc)
def zij(e:List V):Stp:=⟨(e.getD 0 .any).str,(e.getD 1 .any).int,Yd (e.getD 2 .any)⟩
def YM(v:V):List Stp:=v.es.map zij
theorem zfm(s:Stp):zij s.enc=s:=by
 simp[zij,Stp.enc,V.str,V.int,Xv]
theorem zfn(sz:Nat)(l:List Stp):YM (.slc sz (l.map Stp.enc))=l:=by
 simp[YM,V.es,Function.comp_def,zfm]
def xE(s:NS):List V:=[vs s.1,vi s.2,zL]
def toS(s:NS):Stp:=⟨s.1,s.2,[]⟩
theorem XM(S:Nat→Bool)(h:Heap)(l:List NS):zK (zK (res S h 11)) (l.map xE)=some (l.map xE):=qa S h 10 _ (fun _=>rfl) l
theorem XL(S:Nat→Bool)(h:Heap)(l:List NS):zK (zK (res S h 10)) (l.map xE)=some (l.map xE):=qa S h 9 _ (fun _=>rfl) l
def spR:Option (List NS)→V
 |none=>.tup [zL,vb false]
 |some l=>.tup [.slc 3 (l.map xE),vb true]
def spV(o:Option (List NS)):V:=.tup [kG ((o.getD []).map toS),vb o.isSome]
theorem zj0:∀l:List NS,F2 (F2 (Sub 1)) (l.map xE) ((l.map toS).map Stp.enc)
 | []=>trivial
 |p::l=>⟨⟨Sub.rfl 1 _,Sub.rfl 1 _,by simp[Sub,toS],trivial⟩,zj0 l⟩
theorem XW(b:Bool)(F:Nat→Prop)(w:World)(v:Value)(h:PRep F w v (.tup [zL,vb b])):PRep F w v (.tup [kG [],vb b]):=by
 cases h with
 |tup cs _ hl hx=>
  refine .tup cs _ hl fun i hi=> ?_
  have:=hx i hi
  match i,hi with
  |0,_=>exact PRep.nilS 3 this
  |1,_=>exact this
theorem zou(o:Option (List NS)){f:FuncId}{args:List V}(h:ze Tryz.prog f args (spR o)):ze Tryz.prog f args (spV o):=by
 cases o with
 |none=>exact ze.rsub h (XW false)
 |some l=>
  refine ze.rsub h fun F w v hp=> ?_
  cases hp with
  |tup cs _ hl hx=>
   refine .tup cs _ hl fun i hi=> ?_
   have:=hx i hi
   match i,hi with
   |0,_=>exact Sub.prep 2 (.slc 3 (l.map xE)) (kG (l.map toS)) _ (show Sub 2 (.slc 3 (l.map xE)) (.slc 3 ((l.map toS).map Stp.enc))from Or.inr ⟨rfl,zj0 l⟩) this
   |1,_=>exact this
def yH(u:Int):List Pa→Option (List NS)
 | []=>some []
 | [p]=>if qF p=true then some [(p.t.text,u)]else none
 |p::q::l=>if qF p=true then(match zap q.t with|some n=>(yH u l).map ((p.t.text,n):: ·)|none=>(yH u (q::l)).map ((p.t.text,u):: ·))else none
def zpF:ByteArray:=⟨#[110,111,110,101]⟩
def isNone(L:List Pa):Bool:=match L with| [p]=>kQ p zpF|_=>false
def spO(u:Int)(l:List Tok):Option (List NS):=if ptB l=true then(if pl l= []then none else if isNone (pl l)=true then some []else yH u (pl l))else none
theorem Q9(u:Int)(L:List Pa)(k:Nat)(h:k<L.length):yH u (L.drop k)=if qF (L.getD k default)=true then(if k+1<L.length then(match zap (L.getD (k+1) default).t with|some n=>(yH u (L.drop (k+2))).map (((L.getD k default).t.text,n):: ·)|none=>(yH u (L.drop (k+1))).map (((L.getD k default).t.text,u):: ·))else some [((L.getD k default).t.text,u)])else none:=by
 rw[K9 L k h]
 by_cases h1:k+1<L.length
 ·rw[K9 L (k+1) h1,if_pos h1];rfl
 ·rw[List.drop_eq_nil_of_le (by omega),if_neg h1];rfl
structure SpS where
 k:Nat
 out:List NS
 ver:Nat
 clk:Nat
def okQ(l:List Tok):Prop:=okT l∧∀t∈l,okI t.n
theorem za8{l:List Tok}(h:∀t∈l,okI t.n):∀ {ks:List Int}{ps:List Part},yr l ks=some ps→∀p∈ps,okI p.t.n
 | [],ps,hp,p,hm=>by simp[yr]at hp;subst hp;cases hm
 |k::ks,ps,hp,p,hm=>by
  simp only[yr]at hp
  split at hp
  ·cases hp
  ·simp only[Option.map_eq_some_iff]at hp
   obtain⟨qs,hq,rfl⟩:=hp
   have ih:=za8 h hq
   have hself:∀i:Nat,okI (l.getD i .zero).n:=fun i=>by
    by_cases hi:i<l.length
    ·rw[List.getD_eq_getElem?_getD,List.getElem?_eq_getElem hi];exact h _ (List.getElem_mem hi)
    ·rw[List.getD_eq_getElem?_getD,List.getElem?_eq_none (by omega)];show okI 0;unfold okI;omega
   split at hm
   ·exact ih p hm
   ·rcases List.mem_cons.1 hm with rfl|hm
    ·exact hself _
    ·exact ih p hm
theorem zvf{l:List Tok}(h:∀t∈l,okI t.n):∀p∈pl l,okI p.t.n:=by
 intro p hp
 unfold pl at hp
 obtain⟨q,hq,rfl⟩:=List.mem_map.1 hp
 unfold ptL at hq
 cases hO:ptO l with
 |none=>rw[hO]at hq;cases hq
 |some qs=>
  rw[hO]at hq
  unfold ptO at hO
  split at hO
  ·cases hO
  ·exact za8 h hO q hq
theorem zjY(l:List Tok)(u:Int)(h:okQ l):ze Tryz.prog 38 [zm l,vi u] (spV (spO u l)):=by
 have h1:=h.1.1
 have hm:=zdk h.1
 have hN:=zvf h.2
 have hlen:=zjw l
 unfold spO
 have hfb:=@zjv l
 generalize hL:pl l=L at*
 cases hb:ptB l with
 |false=>
  have hz:=hfb hb
  subst hz
  rw[if_neg (by simp)]
  show ze Tryz.prog 38 [zm l,vi u] (.tup [.slc 3 [],vb false])
  refine ze.of (Orc.cons kv (Orc.cons Zf (Orc.cons Qk (Orc.cons ZN (Orc.nil _))))) X4 (by simp[c38]) fun w0 own0=> ?_
  simp only[c38,zm,zh,h1,plV,hL,hb,spR,Bool.false_eq_true,if_false,zd,zb,za,go_sem,seval,reduceIte,reduceCtorEq]
  refine z7.lp (α:=Nat) (fun k=>[(6,.slc 4 []),(7,vb false),(8,.ref 0 0 0 0),(9,vi 0)]) (fun _=>⟨[⟨0,3,[],false,[vs ⟨#[]⟩,vi 0,zL]⟩],1⟩) (fun k=>k=0) (fun k=>0) 0 rfl (St.nil 8 3 [vs ⟨#[]⟩,vi 0,zL] (by simp[zq]) (St.cut ?_ ?_ ?_)) fun k hk=> ?_
  ·simp[zC,zq,zI]
  ·simp[Heap.alloc]
  ·rfl
  simp only[Int.lt_irrefl,List.take_nil,zK,zd,zb,za,go_sem,seval,reduceIte,reduceCtorEq]
 |true=>
 rw[if_pos rfl]
 by_cases hz:L= []
 ·rw[if_pos hz]
  subst hz
  show ze Tryz.prog 38 [zm l,vi u] (.tup [.slc 3 [],vb false])
  refine ze.of (Orc.cons kv (Orc.cons Zf (Orc.cons Qk (Orc.cons ZN (Orc.nil _))))) X4 (by simp[c38]) fun w0 own0=> ?_
  simp only[c38,zm,zh,h1,plV,hL,hb,spR,zd,zb,za,go_sem,seval,reduceIte,reduceCtorEq]
  refine z7.lp (α:=Nat) (fun k=>[(6,.slc 4 []),(7,vb true),(8,.ref 0 0 0 0),(9,vi 0)]) (fun _=>⟨[⟨0,3,[],false,[vs ⟨#[]⟩,vi 0,zL]⟩],1⟩) (fun k=>k=0) (fun k=>0) 0 rfl (St.nil 8 3 [vs ⟨#[]⟩,vi 0,zL] (by simp[zq]) (St.cut ?_ ?_ ?_)) fun k hk=> ?_
  ·simp[zC,zq,zI]
  ·simp[Heap.alloc]
  ·rfl
  simp only[Int.lt_irrefl,List.take_nil,zK,zd,zb,za,go_sem,seval,reduceIte,reduceCtorEq]
 rw[if_neg hz]
 have hz0:L.length≠0:=fun hh=>hz (List.length_eq_zero_iff.1 hh)
 have hz1:((L.length:Int)=0)=False:=eq_false (by omega)
 by_cases hn:isNone L=true
 ·rw[if_pos hn]
  obtain⟨p,rfl⟩:∃p,L= [p]:=by
   unfold isNone at hn
   split at hn
   ·exact⟨_,rfl⟩
   ·cases hn
  have hi:kQ p ⟨#[110,111,110,101]⟩=true:=hn
  have hp:=(hm p (by simp)).1
  refine ze.rsub ?_ (XW true)
  refine ze.of (Orc.cons kv (Orc.cons Zf (Orc.cons Qk (Orc.cons ZN (Orc.nil _))))) X4 (by simp[c38]) fun w0 own0=> ?_
  simp only[c38,zm,zh,h1,plV,hL,hb,hi,hp,spR,Pa.enc,qb,Pa.eta',zd,zb,za,go_sem,seval,reduceIte,reduceCtorEq]
 rw[if_neg hn]
 have hg0:0<L.length:=by omega
 have hx0:=jC L 0 [vi 0,vs ⟨#[]⟩,vi 0,zL] hg0
 have hp0:=(hm (L.getD 0 default) (by rw[List.getD_eq_getElem?_getD,List.getElem?_eq_getElem hg0];exact List.getElem_mem _)).1
 have hi0:(L.length:Int)=1→kQ (L.getD 0 default) ⟨#[110,111,110,101]⟩=false:=fun h1=>by
  obtain⟨p,rfl⟩:=List.length_eq_one_iff.1 (show L.length=1 by omega)
  cases hh:kQ p ⟨#[110,111,110,101]⟩with
  |false=>exact hh
  |true=>exact absurd hh (by simpa[isNone,zpF]using hn)
 generalize hR:yH u L=R
 have hLn:L.length≤1000001:=by have:=h.1.1;omega
 generalize L.getD 0 default=p0 at*
 have start:∀Q:Prop,(∀hlt:(L.length:Int)=1∨¬(L.length:Int)=1,Q)→Q:=fun Q f=>f (Decidable.em _)
 refine start _ fun hl1=> ?_
 refine zou R ?_
 refine ze.of (Orc.cons kv (Orc.cons Zf (Orc.cons Qk (Orc.cons ZN (Orc.nil _))))) X4 (by simp[c38]) fun w0 own0=> ?_
 clear start
 rcases hl1 with hl1|hl1
 ·simp only[c38,zm,zh,h1,plV,hL,hb,hz1,hl1,hi0 hl1,hx0,hp0,Pa.enc,qb,Pa.eta',zd,zb,za,go_sem,seval,reduceIte,reduceCtorEq]
  try (refine⟨by omega,?_⟩)
  refine z7.lp (α:=SpS) (fun a=>[(1,vi u),(6,.slc 4 (L.map Pa.enc)),(7,vb true),(8,.ref 0 a.ver 0 a.out.length),(9,vi a.k)])
   (fun a=>⟨[⟨a.ver,3,a.out.map xE,false,[vs ⟨#[]⟩,vi 0,zL]⟩],a.clk⟩) (fun a=>a.k≤L.length∧a.out.length≤a.k∧(yH u (L.drop a.k)).map (a.out++ ·)=R∧(0<a.k→0<a.out.length)) (fun a=>L.length - a.k) ⟨0,[],0,1⟩
   ⟨Nat.zero_le _,Nat.zero_le _,by rw[←hR];simp only[List.drop_zero,List.nil_append];cases yH u L<;>rfl,fun hh=>absurd hh (Nat.lt_irrefl 0)⟩ (St.nil 8 3 [vs ⟨#[]⟩,vi 0,zL] (by simp[zq]) (St.cut ?_ ?_ ?_)) fun a ha=> ?_
  ·simp[zC,zq,zI]
  ·simp[Heap.alloc]
  ·rfl
  obtain⟨k,out,ver,clk⟩:=a
  obtain⟨h2,h3,h4,h5⟩:=ha
  simp only at h2 h3 h4 h5
  by_cases hk:k=L.length
  ·subst hk
   have hop:((0:Int)<(out.length:Int))=True:=eq_true (by have:=h5 (by omega);omega)
   rw[List.drop_length]at h4
   simp only[yH,Option.map_some,List.append_nil]at h4
   subst h4
   simp only[Int.lt_irrefl,hop,spR,List.take_length,Z6,XM,XL,Nat.le_refl,zd,zb,za,go_sem,seval,reduceIte,reduceCtorEq]
  ·have e1:(k:Int)<(L.length:Int):=by omega
   have e0:(0:Int)≤(k:Int):=by omega
   have hlt:k<L.length:=by omega
   have hg:=jC L k [vi 0,vs ⟨#[]⟩,vi 0,zL] hlt
   have hx:=(hm (L.getD k default) (by rw[List.getD_eq_getElem?_getD,List.getElem?_eq_getElem hlt];exact List.getElem_mem _)).1
   have hxn:=hN (L.getD k default) (by rw[List.getD_eq_getElem?_getD,List.getElem?_eq_getElem hlt];exact List.getElem_mem _)
   have hot:out.take out.length=out:=List.take_length
   rw[Q9 u L k hlt]at h4
   by_cases hn2:qF (L.getD k default)=true
   ·rw[if_pos hn2]at h4
    by_cases hk1:k+1<L.length
    ·have hg1:=jC L (k+1) [vi 0,vs ⟨#[]⟩,vi 0,zL] hk1
     have hyn:=hN (L.getD (k+1) default) (by rw[List.getD_eq_getElem?_getD,List.getElem?_eq_getElem hk1];exact List.getElem_mem _)
     have e2:((k:Int)+1<(L.length:Int))=True:=eq_true (by omega)
     have e3:((k:Int)+1).toNat=k+1:=by omega
     have e4:(0:Int)≤(k:Int)+1:=by omega
     rw[if_pos hk1]at h4
     generalize L.getD (k+1) default=y at*
     generalize L.getD k default=x at*
     cases hc:zap y.t with
     |none=>
      rw[hc]at h4
      simp only at h4
      simp only[e0,e1,e2,e3,e4,hg,hg1,hx,hn2,hyn,hc,q9,hot,xE,Pa.enc,qb,Pa.eta',zd,zb,za,go_sem,seval,reduceIte,reduceCtorEq]
      refine⟨by omega,by omega,⟨by omega,by omega,by omega⟩,by omega,⟨k+1,out++ [(x.t.text,u)],_,_⟩,⟨by dsimp only;omega,by simp;omega,?_,by simp⟩,by dsimp only;omega,⟨⟨rfl,by simp⟩,by dsimp only;omega⟩,⟨rfl,by simp[xE]⟩,rfl⟩
      rw[←h4];cases yH u (L.drop (k+1))<;>simp
     |some n=>
      rw[hc]at h4
      simp only at h4
      simp only[e0,e1,e2,e3,e4,hg,hg1,hx,hn2,hyn,hc,q9,hot,xE,Pa.enc,qb,Pa.eta',zd,zb,za,go_sem,seval,reduceIte,reduceCtorEq]
      refine⟨by omega,by omega,by omega,⟨by omega,by omega,by omega⟩,by omega,⟨k+2,out++ [(x.t.text,n)],_,_⟩,⟨by dsimp only;omega,by simp;omega,?_,by simp⟩,by dsimp only;omega,⟨⟨rfl,by simp⟩,by dsimp only;omega⟩,⟨rfl,by simp[xE]⟩,rfl⟩
      rw[←h4];cases yH u (L.drop (k+2))<;>simp
    ·have e2:((k:Int)+1<(L.length:Int))=False:=eq_false (by omega)
     rw[if_neg hk1]at h4
     generalize L.getD k default=x at*
     simp only[e0,e1,e2,hg,hx,hn2,hot,xE,Pa.enc,qb,Pa.eta',zd,zb,za,go_sem,seval,reduceIte,reduceCtorEq]
     refine⟨by omega,⟨by omega,by omega,by omega⟩,by omega,⟨k+1,out++ [(x.t.text,u)],_,_⟩,⟨by dsimp only;omega,by simp;omega,?_,by simp⟩,by dsimp only;omega,⟨⟨rfl,by simp⟩,by dsimp only;omega⟩,⟨rfl,by simp[xE]⟩,rfl⟩
     rw[←h4,List.drop_eq_nil_of_le (by dsimp only;omega)];simp[yH]
   ·rw[if_neg hn2]at h4
    have hn3:qF (L.getD k default)=false:=by simpa using hn2
    generalize L.getD k default=x at*
    simp only[Option.map_none]at h4
    subst h4
    simp only[e0,e1,hg,hx,hn3,spR,Pa.enc,qb,Pa.eta',zd,zb,za,go_sem,seval,reduceIte,reduceCtorEq]
 ·simp only[c38,zm,zh,h1,plV,hL,hb,hz1,hl1,Pa.enc,qb,Pa.eta',zd,zb,za,go_sem,seval,reduceIte,reduceCtorEq]
  refine z7.lp (α:=SpS) (fun a=>[(1,vi u),(6,.slc 4 (L.map Pa.enc)),(7,vb true),(8,.ref 0 a.ver 0 a.out.length),(9,vi a.k)])
   (fun a=>⟨[⟨a.ver,3,a.out.map xE,false,[vs ⟨#[]⟩,vi 0,zL]⟩],a.clk⟩) (fun a=>a.k≤L.length∧a.out.length≤a.k∧(yH u (L.drop a.k)).map (a.out++ ·)=R∧(0<a.k→0<a.out.length)) (fun a=>L.length - a.k) ⟨0,[],0,1⟩
   ⟨Nat.zero_le _,Nat.zero_le _,by rw[←hR];simp only[List.drop_zero,List.nil_append];cases yH u L<;>rfl,fun hh=>absurd hh (Nat.lt_irrefl 0)⟩ (St.nil 8 3 [vs ⟨#[]⟩,vi 0,zL] (by simp[zq]) (St.cut ?_ ?_ ?_)) fun a ha=> ?_
  ·simp[zC,zq,zI]
  ·simp[Heap.alloc]
  ·rfl
  obtain⟨k,out,ver,clk⟩:=a
  obtain⟨h2,h3,h4,h5⟩:=ha
  simp only at h2 h3 h4 h5
  by_cases hk:k=L.length
  ·subst hk
   have hop:((0:Int)<(out.length:Int))=True:=eq_true (by have:=h5 (by omega);omega)
   rw[List.drop_length]at h4
   simp only[yH,Option.map_some,List.append_nil]at h4
   subst h4
   simp only[Int.lt_irrefl,hop,spR,List.take_length,Z6,XM,XL,Nat.le_refl,zd,zb,za,go_sem,seval,reduceIte,reduceCtorEq]
  ·have e1:(k:Int)<(L.length:Int):=by omega
   have e0:(0:Int)≤(k:Int):=by omega
   have hlt:k<L.length:=by omega
   have hg:=jC L k [vi 0,vs ⟨#[]⟩,vi 0,zL] hlt
   have hx:=(hm (L.getD k default) (by rw[List.getD_eq_getElem?_getD,List.getElem?_eq_getElem hlt];exact List.getElem_mem _)).1
   have hxn:=hN (L.getD k default) (by rw[List.getD_eq_getElem?_getD,List.getElem?_eq_getElem hlt];exact List.getElem_mem _)
   have hot:out.take out.length=out:=List.take_length
   rw[Q9 u L k hlt]at h4
   by_cases hn2:qF (L.getD k default)=true
   ·rw[if_pos hn2]at h4
    by_cases hk1:k+1<L.length
    ·have hg1:=jC L (k+1) [vi 0,vs ⟨#[]⟩,vi 0,zL] hk1
     have hyn:=hN (L.getD (k+1) default) (by rw[List.getD_eq_getElem?_getD,List.getElem?_eq_getElem hk1];exact List.getElem_mem _)
     have e2:((k:Int)+1<(L.length:Int))=True:=eq_true (by omega)
     have e3:((k:Int)+1).toNat=k+1:=by omega
     have e4:(0:Int)≤(k:Int)+1:=by omega
     rw[if_pos hk1]at h4
     generalize L.getD (k+1) default=y at*
     generalize L.getD k default=x at*
     cases hc:zap y.t with
     |none=>
      rw[hc]at h4
      simp only at h4
      simp only[e0,e1,e2,e3,e4,hg,hg1,hx,hn2,hyn,hc,q9,hot,xE,Pa.enc,qb,Pa.eta',zd,zb,za,go_sem,seval,reduceIte,reduceCtorEq]
      refine⟨by omega,by omega,⟨by omega,by omega,by omega⟩,by omega,⟨k+1,out++ [(x.t.text,u)],_,_⟩,⟨by dsimp only;omega,by simp;omega,?_,by simp⟩,by dsimp only;omega,⟨⟨rfl,by simp⟩,by dsimp only;omega⟩,⟨rfl,by simp[xE]⟩,rfl⟩
      rw[←h4];cases yH u (L.drop (k+1))<;>simp
     |some n=>
      rw[hc]at h4
      simp only at h4
      simp only[e0,e1,e2,e3,e4,hg,hg1,hx,hn2,hyn,hc,q9,hot,xE,Pa.enc,qb,Pa.eta',zd,zb,za,go_sem,seval,reduceIte,reduceCtorEq]
      refine⟨by omega,by omega,by omega,⟨by omega,by omega,by omega⟩,by omega,⟨k+2,out++ [(x.t.text,n)],_,_⟩,⟨by dsimp only;omega,by simp;omega,?_,by simp⟩,by dsimp only;omega,⟨⟨rfl,by simp⟩,by dsimp only;omega⟩,⟨rfl,by simp[xE]⟩,rfl⟩
      rw[←h4];cases yH u (L.drop (k+2))<;>simp
    ·have e2:((k:Int)+1<(L.length:Int))=False:=eq_false (by omega)
     rw[if_neg hk1]at h4
     generalize L.getD k default=x at*
     simp only[e0,e1,e2,hg,hx,hn2,hot,xE,Pa.enc,qb,Pa.eta',zd,zb,za,go_sem,seval,reduceIte,reduceCtorEq]
     refine⟨by omega,⟨by omega,by omega,by omega⟩,by omega,⟨k+1,out++ [(x.t.text,u)],_,_⟩,⟨by dsimp only;omega,by simp;omega,?_,by simp⟩,by dsimp only;omega,⟨⟨rfl,by simp⟩,by dsimp only;omega⟩,⟨rfl,by simp[xE]⟩,rfl⟩
     rw[←h4,List.drop_eq_nil_of_le (by dsimp only;omega)];simp[yH]
   ·rw[if_neg hn2]at h4
    have hn3:qF (L.getD k default)=false:=by simpa using hn2
    generalize L.getD k default=x at*
    simp only[Option.map_none]at h4
    subst h4
    simp only[e0,e1,hg,hx,hn3,spR,Pa.enc,qb,Pa.eta',zd,zb,za,go_sem,seval,reduceIte,reduceCtorEq]
def QP:Sum Tryz.prog:=⟨38,fun args=>args= [zm (zi (args.getD 0 .any)),vi ((args.getD 1 .any).int)]∧okQ (zi (args.getD 0 .any)),fun args=>spV (spO ((args.getD 1 .any).int) (zi (args.getD 0 .any))),fun args h=>by
 have:=zjY (zi (args.getD 0 .any)) ((args.getD 1 .any).int) h.2;rwa [←h.1]at this,false⟩
theorem zlD:QP.f=38:=rfl
theorem zlC(args:List V):QP.D args=(args= [zm (zi (args.getD 0 .any)),vi ((args.getD 1 .any).int)]∧okQ (zi (args.getD 0 .any))):=rfl
theorem zcb:QP.flat=false:=rfl
theorem zlE(args:List V):QP.r args=spV (spO ((args.getD 1 .any).int) (zi (args.getD 0 .any))):=rfl
attribute [go_sem] zlD zlC zcb zlE
end Go.Proofs.YtlaopdfpncckeaaGreatDoor
end
section
namespace Go.Proofs.YtlaopdfpncckeaaGreatDoor
open Go.Sx
set_option linter.unusedSimpArgs false
set_option maxHeartbeats 8000000
set_option maxRecDepth 20000
end Go.Proofs.YtlaopdfpncckeaaGreatDoor
end
section
namespace Go.Proofs.YtlaopdfpncckeaaGreatDoor
open Go.Sx
set_option linter.unusedSimpArgs false
set_option maxHeartbeats 8000000
set_option maxRecDepth 20000
structure Ct where
 l:List Itm
 none:Bool
 is:Bool
theorem zfK(a:List Itm)(h:a.length≤2000000):ze Tryz.prog 61 [zaK a,zaK a] (vb true):=by
 refine ze.of (Orc.nil _) zqq (by simp[c61]) fun w0 own0=> ?_
 simp only[c61,zaK,go_sem,zg,seval,reduceIte,reduceCtorEq]
 refine z7.lp (α:=Nat) (fun k=>[(0,.slc 5 (a.map Itm.enc)),(1,.slc 5 (a.map Itm.enc)),(12,vi a.length),(13,vi k)]) (fun _=>⟨[],0⟩) (fun k=>k≤a.length) (fun k=>a.length - k) 0 (Nat.zero_le _) (St.mk (by simp[zC,zq,zI])) fun k hk=> ?_
 by_cases hkl:k=a.length
 ·subst hkl
  simp only[Int.lt_irrefl,go_sem,zg,seval,reduceIte,reduceCtorEq]
 ·have e1:(k:Int)<(a.length:Int):=by omega
  have e0:(0:Int)≤(k:Int):=by omega
  have hg:=zfz a k
  generalize a.getD k default=x at*
  simp only[e0,e1,hg,Itm.enc,go_sem,zg,seval,reduceIte,reduceCtorEq]
  exact⟨rfl,by omega,k+1,by omega,by omega,by omega⟩
def Jv:Sum Tryz.prog:=⟨61,fun args=>args= [zaK (Yd (args.getD 0 .any)),zaK (Yd (args.getD 0 .any))]∧((Yd (args.getD 0 .any))).length≤2000000,fun args=>vb true,fun args h=>by
 have:=zfK (Yd (args.getD 0 .any)) h.2;rwa [←h.1]at this,true⟩
theorem zkq:Jv.f=61:=rfl
theorem zkp(args:List V):Jv.D args=(args= [zaK (Yd (args.getD 0 .any)),zaK (Yd (args.getD 0 .any))]∧((Yd (args.getD 0 .any))).length≤2000000):=rfl
theorem zbJ:Jv.flat=true:=rfl
theorem zkr(args:List V):Jv.r args=vb true:=rfl
attribute [go_sem] zkq zkp zbJ zkr
end Go.Proofs.YtlaopdfpncckeaaGreatDoor
end
section
namespace Go.Proofs.YtlaopdfpncckeaaGreatDoor
open Go.Sx
set_option linter.unusedSimpArgs false
set_option maxHeartbeats 8000000
set_option maxRecDepth 20000
structure SrS where
 L:List Pa
 out:List Stp
 ver:Nat
 clk:Nat
end Go.Proofs.YtlaopdfpncckeaaGreatDoor
end
section
namespace Go.Proofs.YtlaopdfpncckeaaGreatDoor
open Go.Sx
set_option linter.unusedSimpArgs false
set_option maxHeartbeats 8000000
set_option maxRecDepth 20000
end Go.Proofs.YtlaopdfpncckeaaGreatDoor
end
section
namespace Go.Proofs.YtlaopdfpncckeaaGreatDoor
open Go.Sx
set_option linter.unusedSimpArgs false
set_option maxHeartbeats 8000000
set_option maxRecDepth 20000
theorem zfC(l:List Stp)(i:Nat)(d:List V)(h:i<l.length):(l.map Stp.enc).getD i d=(l.getD i default).enc:=by
 simp[List.getD_eq_getElem?_getD,h]
def zdh(l:List Stp):Prop:=l.length≤2000000∧∀s∈l,s.items.length≤2000000
theorem zdv(a:List Stp)(h:zdh a):ze Tryz.prog 41 [kG a,kG a] (vb true):=by
 refine ze.of (Orc.cons Jv (Orc.nil _)) zqo (by simp[c41]) fun w0 own0=> ?_
 obtain⟨hl,hi⟩:=h
 simp only[c41,kG,zd,zb,za,go_sem,seval,reduceIte,reduceCtorEq]
 refine z7.lp (α:=Nat) (fun k=>[(0,.slc 3 (a.map Stp.enc)),(1,.slc 3 (a.map Stp.enc)),(12,vi a.length),(13,vi k)]) (fun _=>⟨[],0⟩) (fun k=>k≤a.length) (fun k=>a.length - k) 0 (Nat.zero_le _) (St.mk (by simp[zC,zq,zI])) fun k hk=> ?_
 by_cases hkl:k=a.length
 ·subst hkl
  simp only[Int.lt_irrefl,zd,zb,za,go_sem,seval,reduceIte,reduceCtorEq]
 ·have e1:(k:Int)<(a.length:Int):=by omega
  have e0:(0:Int)≤(k:Int):=by omega
  have hlt:k<a.length:=by omega
  have hg:=zfC a k [vs ⟨#[]⟩,vi 0,zL] hlt
  have hx:=hi (a.getD k default) (by rw[List.getD_eq_getElem?_getD,List.getElem?_eq_getElem hlt];exact List.getElem_mem _)
  generalize a.getD k default=x at*
  simp only[e0,e1,hg,hx,Stp.enc,zaK,Xv,zd,zb,za,go_sem,seval,reduceIte,reduceCtorEq]
  exact⟨by omega,k+1,by omega,by omega,by omega⟩
def JL:Sum Tryz.prog:=⟨41,fun args=>args= [kG (YM (args.getD 0 .any)),kG (YM (args.getD 0 .any))]∧zdh (YM (args.getD 0 .any)),fun args=>vb true,fun args h=>by
 have:=zdv (YM (args.getD 0 .any)) h.2;rwa [←h.1]at this,true⟩
theorem zlu:JL.f=41:=rfl
theorem zlt(args:List V):JL.D args=(args= [kG (YM (args.getD 0 .any)),kG (YM (args.getD 0 .any))]∧zdh (YM (args.getD 0 .any))):=rfl
theorem zb8:JL.flat=true:=rfl
theorem zlv(args:List V):JL.r args=vb true:=rfl
attribute [go_sem] zlu zlt zb8 zlv
end Go.Proofs.YtlaopdfpncckeaaGreatDoor
end
section
namespace Go.Proofs.YtlaopdfpncckeaaGreatDoor
open Go.Sx
set_option linter.unusedSimpArgs false
set_option maxHeartbeats 4000000
set_option maxRecDepth 20000
theorem zrd(a:Int):ze Tryz.prog 172 [vi a] (vb false):=by
 refine ze.of (Orc.nil _) znp (by simp[zqe]) fun w0 own0=> ?_
 simp only[zqe,go_sem,zg,seval,reduceIte,reduceCtorEq]
def JD:Sum Tryz.prog:=⟨172,fun args=>args= [vi ((args.getD 0 .any).int)],fun args=>vb false,fun args h=>by
 have:=zrd ((args.getD 0 .any).int);rwa [←h]at this,true⟩
theorem zk0:JD.f=172:=rfl
theorem zkZ(args:List V):JD.D args=(args= [vi ((args.getD 0 .any).int)]):=rfl
theorem zbY:JD.flat=true:=rfl
theorem zk1(args:List V):JD.r args=vb false:=rfl
attribute [go_sem] zk0 zkZ zbY zk1
def X7(a b:Int):Int:=if a<b then -1 else if b<a then 1 else 0
theorem znq(a b:Int):ze Tryz.prog 153 [vi a,vi b] (vi (X7 a b)):=by
 refine ze.of (Orc.cons JD (Orc.nil _)) zni (by simp[zh8]) fun w0 own0=> ?_
 unfold X7
 by_cases h1:a<b
 ·simp only[zh8,h1,go_sem,zg,seval,reduceIte,reduceCtorEq]
 ·by_cases h2:b<a
  ·simp only[zh8,h1,h2,go_sem,zg,seval,reduceIte,reduceCtorEq]
  ·simp only[zh8,h1,h2,go_sem,zg,seval,reduceIte,reduceCtorEq]
def Qd:Sum Tryz.prog:=⟨153,fun args=>args= [vi ((args.getD 0 .any).int),vi ((args.getD 1 .any).int)],fun args=>vi (X7 ((args.getD 0 .any).int) ((args.getD 1 .any).int)),fun args h=>by
 have:=znq ((args.getD 0 .any).int) ((args.getD 1 .any).int);rwa [←h]at this,true⟩
theorem zgK:Qd.f=153:=rfl
theorem zgJ(args:List V):Qd.D args=(args= [vi ((args.getD 0 .any).int),vi ((args.getD 1 .any).int)]):=rfl
theorem WI:Qd.flat=true:=rfl
theorem zgL(args:List V):Qd.r args=vi (X7 ((args.getD 0 .any).int) ((args.getD 1 .any).int)):=rfl
attribute [go_sem] zgK zgJ WI zgL
def Kc:List Int→List Int→Int
 | [],[]=>0
 | [],_::_=> -1
 |_::_,[]=>1
 |x::a,y::b=>if X7 x y=0 then Kc a b else X7 x y
theorem zfd(x y:Int)(a b:List Int):Kc (x::a) (y::b)=if X7 x y=0 then Kc a b else X7 x y:=rfl
theorem Zz(l:List Int)(n:Nat)(h:n<l.length):l.drop n=l.getD n 0::l.drop (n+1):=by
 rw[List.drop_eq_getElem_cons h,List.getD_eq_getElem?_getD,List.getElem?_eq_getElem h];rfl
theorem znr(a b:List Int)(ha:a.length≤1000000)(hb:b.length≤1000000):ze Tryz.prog 128 [ye a,ye b] (vi (Kc a b)):=by
 refine ze.of (Orc.cons Qd (Orc.nil _)) zna (by simp[zp4]) fun w0 own0=> ?_
 simp only[zp4,ye,go_sem,zg,seval,reduceIte,reduceCtorEq]
 refine z7.lp (α:=Nat) (fun k=>[(0,.slc 1 (a.map fun n=>[vi n])),(1,.slc 1 (b.map fun n=>[vi n])),(9,.slc 1 (a.map fun n=>[vi n])),(10,vi a.length),(11,vi k)]) (fun _=>⟨[],0⟩)
  (fun k=>k≤a.length∧k≤b.length∧Kc a b=Kc (a.drop k) (b.drop k)) (fun k=>a.length - k) 0 ⟨Nat.zero_le _,Nat.zero_le _,rfl⟩ (St.mk (by simp[zC,zq,zI])) fun k hk=> ?_
 obtain⟨h1,h2,h3⟩:=hk
 by_cases hkl:k=a.length
 ·subst hkl
  rw[List.drop_length]at h3
  by_cases hb2:a.length<b.length
  ·rw[Zz b _ hb2]at h3
   have e1:(a.length:Int)<(b.length:Int):=by omega
   simp only[Int.lt_irrefl,e1,h3,Kc,go_sem,zg,seval,reduceIte,reduceCtorEq]
  ·have e0:a.length=b.length:=by omega
   rw[List.drop_eq_nil_of_le (by omega)]at h3
   have e1:¬(a.length:Int)<(b.length:Int):=by omega
   simp only[Int.lt_irrefl,e1,h3,Kc,go_sem,zg,seval,reduceIte,reduceCtorEq]
 ·have e1:(k:Int)<(a.length:Int):=by omega
  have e0:(0:Int)≤(k:Int):=by omega
  rw[Zz a k (by omega)]at h3
  by_cases hb2:k<b.length
  ·rw[Zz b k hb2]at h3
   have e2:¬(b.length:Int)≤(k:Int):=by omega
   have e3:(k:Int)<(b.length:Int):=by omega
   rw[zfd]at h3
   by_cases hc:X7 (a.getD k 0) (b.getD k 0)=0
   ·rw[if_pos hc]at h3
    simp only[e0,e1,e2,e3,hc,yt,go_sem,zg,seval,reduceIte,reduceCtorEq]
    exact⟨by omega,k+1,⟨by omega,by omega,h3⟩,by omega,by omega⟩
   ·rw[if_neg hc]at h3
    simp only[e0,e1,e2,e3,hc,h3,yt,go_sem,zg,seval,reduceIte,reduceCtorEq]
  ·rw[List.drop_eq_nil_of_le (show b.length≤k by omega)]at h3
   have e2:(b.length:Int)≤(k:Int):=by omega
   simp only[e0,e1,e2,h3,Kc,yt,go_sem,zg,seval,reduceIte,reduceCtorEq]
def Qe:Sum Tryz.prog:=⟨128,fun args=>args= [ye (zY (args.getD 0 .any)),ye (zY (args.getD 1 .any))]∧((zY (args.getD 0 .any))).length≤1000000∧((zY (args.getD 1 .any))).length≤1000000,fun args=>vi (Kc (zY (args.getD 0 .any)) (zY (args.getD 1 .any))),fun args h=>by
 have:=znr (zY (args.getD 0 .any)) (zY (args.getD 1 .any)) h.2.1 h.2.2;rwa [←h.1]at this,true⟩
theorem zgN:Qe.f=128:=rfl
theorem zgM(args:List V):Qe.D args=(args= [ye (zY (args.getD 0 .any)),ye (zY (args.getD 1 .any))]∧((zY (args.getD 0 .any))).length≤1000000∧((zY (args.getD 1 .any))).length≤1000000):=rfl
theorem WJ:Qe.flat=true:=rfl
theorem zgO(args:List V):Qe.r args=vi (Kc (zY (args.getD 0 .any)) (zY (args.getD 1 .any))):=rfl
attribute [go_sem] zgN zgM WJ zgO
structure W3 where
 a:Int
 b:Int
 c:Int
def W3.enc(w:W3):List V:=[vi w.a,vi w.b,vi w.c]
def abv(x y:W3):Bool:=decide (0<Kc [x.a,x.b,x.c] [y.a,y.b,y.c])
theorem zqF(a b c:Int):zY (.slc 1 [[.c (.int .i64 a)],[.c (.int .i64 b)],[.c (.int .i64 c)]])= [a,b,c]:=yh 1 [a,b,c]
theorem zhS(x y:W3):ze Tryz.prog 106 [.agg x.enc,.agg y.enc] (vb (abv x y)):=by
 refine ze.of (Orc.cons Qe (Orc.nil _)) zm0 (by simp[zpU]) fun w0 own0=> ?_
 simp only[zpU,W3.enc,abv,ye,zqF,go_sem,zg,seval,reduceIte,reduceCtorEq]
def dW3(v:V):W3:=⟨(v.cs.getD 0 .any).int,(v.cs.getD 1 .any).int,(v.cs.getD 2 .any).int⟩
theorem Yp(a b c:Int):dW3 (.agg [.c (.int .i64 a),.c (.int .i64 b),.c (.int .i64 c)])=⟨a,b,c⟩:=rfl
def QE:Sum Tryz.prog:=⟨106,fun args=>args= [.agg (W3.enc (dW3 (args.getD 0 .any))),.agg (W3.enc (dW3 (args.getD 1 .any)))],fun args=>vb (abv (dW3 (args.getD 0 .any)) (dW3 (args.getD 1 .any))),fun args h=>by
 have:=zhS (dW3 (args.getD 0 .any)) (dW3 (args.getD 1 .any));rwa [←h]at this,true⟩
theorem zj5:QE.f=106:=rfl
theorem zj4(args:List V):QE.D args=(args= [.agg (W3.enc (dW3 (args.getD 0 .any))),.agg (W3.enc (dW3 (args.getD 1 .any)))]):=rfl
theorem zbB:QE.flat=true:=rfl
theorem zj6(args:List V):QE.r args=vb (abv (dW3 (args.getD 0 .any)) (dW3 (args.getD 1 .any))):=rfl
attribute [go_sem] zj5 zj4 zbB zj6
end Go.Proofs.YtlaopdfpncckeaaGreatDoor
end
section
namespace Go.Proofs.YtlaopdfpncckeaaGreatDoor
open Go.Sx
set_option linter.unusedSimpArgs false
set_option linter.unusedVariables false
set_option maxHeartbeats 4000000
set_option maxRecDepth 20000
structure Ky where
 lv:Int
 w:W3
 od:Int
def Ky.enc(k:Ky):List V:=[vi k.lv,vi k.w.a,vi k.w.b,vi k.w.c,vi k.od]
def dKy(v:V):Ky:=⟨(v.cs.getD 0 .any).int,⟨(v.cs.getD 1 .any).int,(v.cs.getD 2 .any).int,(v.cs.getD 3 .any).int⟩,(v.cs.getD 4 .any).int⟩
theorem kq(l a b c o:Int):dKy (.agg [.c (.int .i64 l),.c (.int .i64 a),.c (.int .i64 b),.c (.int .i64 c),.c (.int .i64 o)])=⟨l,⟨a,b,c⟩,o⟩:=rfl
def bts(x y:Ky):Bool:=if x.lv=y.lv then(if x.w.a=y.w.a∧x.w.b=y.w.b∧x.w.c=y.w.c then decide (y.od<x.od)else abv x.w y.w)else decide (y.lv<x.lv)
theorem zhZ(x y:Ky):ze Tryz.prog 76 [.agg x.enc,.agg y.enc] (vb (bts x y)):=by
 refine ze.of (Orc.cons QE (Orc.nil _)) zqw (by simp[c76]) fun w0 own0=> ?_
 obtain⟨l,⟨a,b,c⟩,o⟩:=x
 obtain⟨l',⟨a',b',c'⟩,o'⟩:=y
 unfold bts
 simp only
 by_cases h1:l=l'
 ·rw[if_pos h1]
  by_cases h2:a=a'∧b=b'∧c=c'
  ·rw[if_pos h2]
   obtain⟨e1,e2,e3⟩:=h2
   subst h1;subst e1;subst e2;subst e3
   simp -implicitDefEqProofs only[c76,Ky.enc,List.isEmpty_cons,zd,zb,za,go_sem,seval,reduceIte,reduceCtorEq]
  ·rw[if_neg h2]
   subst h1
   have hd:dW3 (.agg [.c (.int .i64 a),.c (.int .i64 b),.c (.int .i64 c)])=⟨a,b,c⟩:=rfl
   by_cases e1:a=a'
   ·by_cases e2:b=b'
    ·have e3:¬c=c':=fun h=>h2 ⟨e1,e2,h⟩
     have e1:=eq_true e1;have e2:=eq_true e2;have e3:=eq_false e3
     simp -implicitDefEqProofs only[c76,Ky.enc,List.isEmpty_cons,W3.enc,Yp,e1,e2,e3,zd,zb,za,go_sem,seval,reduceIte,reduceCtorEq]
    ·have e1:=eq_true e1;have e2:=eq_false e2
     simp -implicitDefEqProofs only[c76,Ky.enc,List.isEmpty_cons,W3.enc,Yp,e1,e2,zd,zb,za,go_sem,seval,reduceIte,reduceCtorEq]
   ·have e1:=eq_false e1
    simp -implicitDefEqProofs only[c76,Ky.enc,List.isEmpty_cons,W3.enc,Yp,e1,zd,zb,za,go_sem,seval,reduceIte,reduceCtorEq]
 ·rw[if_neg h1]
  have h1:=eq_false h1
  simp -implicitDefEqProofs only[c76,Ky.enc,List.isEmpty_cons,h1,zd,zb,za,go_sem,seval,reduceIte,reduceCtorEq]
def QG:Sum Tryz.prog:=⟨76,fun args=>args= [.agg (Ky.enc (dKy (args.getD 0 .any))),.agg (Ky.enc (dKy (args.getD 1 .any)))],fun args=>vb (bts (dKy (args.getD 0 .any)) (dKy (args.getD 1 .any))),fun args h=>by
 have:=zhZ (dKy (args.getD 0 .any)) (dKy (args.getD 1 .any));rwa [←h]at this,true⟩
theorem zkb:QG.f=76:=rfl
theorem zka(args:List V):QG.D args=(args= [.agg (Ky.enc (dKy (args.getD 0 .any))),.agg (Ky.enc (dKy (args.getD 1 .any)))]):=rfl
theorem zbE:QG.flat=true:=rfl
theorem zkc(args:List V):QG.r args=vb (bts (dKy (args.getD 0 .any)) (dKy (args.getD 1 .any))):=rfl
attribute [go_sem] zkb zka zbE zkc
def lvl(s:Int)(i:Bool):Int:=if s<0∨2<s then -1 else if i=true then 5 - s else s
theorem zi1(s:Int)(i:Bool):ze Tryz.prog 104 [vi s,vb i] (vi (lvl s i)):=by
 refine ze.of (Orc.nil _) zmY (by simp[zh6]) fun w0 own0=> ?_
 unfold lvl
 by_cases h1:s<0
 ·rw[if_pos (.inl h1)]
  have h1:=eq_true h1
  simp -implicitDefEqProofs only[zh6,h1,zd,zb,za,go_sem,seval,reduceIte,reduceCtorEq]
 ·by_cases h2:2<s
  ·rw[if_pos (.inr h2)]
   have h1:=eq_false h1;have h3:=eq_true (show(3:Int)≤s by omega)
   simp -implicitDefEqProofs only[zh6,h1,h3,zd,zb,za,go_sem,seval,reduceIte,reduceCtorEq]
  ·rw[if_neg (by omega)]
   have h3:=eq_false (show ¬(3:Int)≤s by omega)
   have o1:=eq_true (show -9223372036854775808≤5 - s by omega)
   have o2:=eq_true (show 5 - s≤9223372036854775807 by omega)
   have h1:=eq_false h1
   cases i<;>simp -implicitDefEqProofs only[zh6,h1,h3,o1,o2,if_true,Bool.false_eq_true,if_false,zd,zb,za,go_sem,seval,reduceIte,reduceCtorEq]
def QJ:Sum Tryz.prog:=⟨104,fun args=>args= [vi ((args.getD 0 .any).int),vb (V.boo (args.getD 1 .any))],fun args=>vi (lvl ((args.getD 0 .any).int) (V.boo (args.getD 1 .any))),fun args h=>by
 have:=zi1 ((args.getD 0 .any).int) (V.boo (args.getD 1 .any));rwa [←h]at this,true⟩
theorem zkR:QJ.f=104:=rfl
theorem zkQ(args:List V):QJ.D args=(args= [vi ((args.getD 0 .any).int),vb (V.boo (args.getD 1 .any))]):=rfl
theorem zbV:QJ.flat=true:=rfl
theorem zkS(args:List V):QJ.r args=vi (lvl ((args.getD 0 .any).int) (V.boo (args.getD 1 .any))):=rfl
attribute [go_sem] zkR zkQ zbV zkS
end Go.Proofs.YtlaopdfpncckeaaGreatDoor
end
section
namespace Go.Proofs.YtlaopdfpncckeaaGreatDoor
open Go.Sx
set_option linter.unusedSimpArgs false
set_option maxHeartbeats 4000000
set_option maxRecDepth 20000
structure Sh where
 num:Int
 right:Bool
 first:Bool
 blank:Bool
 name:ByteArray
 seg:Int
def Sh.enc(s:Sh):List V:=[vi s.num,vb s.right,vb s.first,vb s.blank,vs s.name,vi s.seg]
def kO(v:V):Sh:=⟨(v.cs.getD 0 .any).int,V.boo (v.cs.getD 1 .any),V.boo (v.cs.getD 2 .any),V.boo (v.cs.getD 3 .any),(v.cs.getD 4 .any).str,(v.cs.getD 5 .any).int⟩
theorem yl(a f:Int)(b c d:Bool)(e:ByteArray):kO (.agg [.c (.int .i64 a),.c (.bool b),.c (.bool c),.c (.bool d),.c (.string e),.c (.int .i64 f)])=⟨a,b,c,d,e,f⟩:=rfl
structure PSel where
 name:ByteArray
 first:Int
 blank:Int
 left:Int
 right:Int
instance:Inhabited PSel:=⟨⟨⟨#[]⟩,0,0,0,0⟩⟩
def PSel.enc(s:PSel):List V:=[vs s.name,vi s.first,vi s.blank,vi s.left,vi s.right]
def ZJ(l:List PSel):V:=.slc 5 (l.map PSel.enc)
def KF(e:List V):PSel:=⟨(e.getD 0 .any).str,(e.getD 1 .any).int,(e.getD 2 .any).int,(e.getD 3 .any).int,(e.getD 4 .any).int⟩
def jz(v:V):PSel:=KF v.cs
def jZ(v:V):List PSel:=v.es.map KF
theorem YK(a:ByteArray)(b c d e:Int):jz (.agg [.c (.string a),.c (.int .i64 b),.c (.int .i64 c),.c (.int .i64 d),.c (.int .i64 e)])=⟨a,b,c,d,e⟩:=rfl
theorem zcN(sz:Nat)(l:List PSel):jZ (.slc sz (l.map PSel.enc))=l:=by
 simp only[jZ,V.es,List.map_map]
 conv=>rhs;rw[←List.map_id l]
 apply List.map_congr_left
 intro s _
 rfl
theorem PSel.eta'(s:PSel):(⟨s.name,s.first,s.blank,s.left,s.right⟩:PSel)=s:=rfl
theorem Sh.eta'(s:Sh):(⟨s.num,s.right,s.first,s.blank,s.name,s.seg⟩:Sh)=s:=rfl
theorem zcU(l:List PSel)(i:Nat):(l.map PSel.enc).getD i [vs ⟨#[]⟩,vi 0,vi 0,vi 0,vi 0]=(l.getD i default).enc:=by
 by_cases h:i<l.length
 ·simp[List.getD_eq_getElem?_getD,h]
 ·simp[List.getD_eq_getElem?_getD,h];rfl
def stB(ok:Bool)(n:Int)(b:Bool):Bool:=ok&&(decide (n≤0)||b)
def isP(s:PSel)(p:Sh):Bool:=stB (stB (stB (stB (decide (s.name=⟨#[]⟩)||decide (s.name=p.name)) s.first p.first) s.blank p.blank) s.left (!p.right)) s.right p.right
theorem znQ(s:PSel)(p:Sh):isP s p=true↔(s.name=⟨#[]⟩∨s.name=p.name)∧(s.first≤0∨p.first=true)∧(s.blank≤0∨p.blank=true)∧(s.left≤0∨p.right=false)∧(s.right≤0∨p.right=true):=by
 simp[isP,stB,and_assoc]
theorem zhW(B0 B1:Blk)(n:Int)(b ok:Bool):zv Tryz.prog 171 [vi n,vb b,.ptr 2 2 0 0] ⟨[B0,B1,⟨2,1,[[vb ok]],false,[]⟩],3⟩ (.tup []) ⟨[B0,B1,⟨2,1,[[vb (ok&&(decide (n≤0)||b))]],false,[]⟩],3⟩:=by
 refine zv.walk (Orc.nil _) zno (by simp[zqd]) fun w0 own0=> ?_
 simp only[zqd,go_sem,zg,seval,reduceIte,reduceCtorEq]
 intro h
 refine⟨h,?_⟩
 by_cases hn:n≤0
 ·exact .inl hn
 ·exact .inr ⟨h,hn⟩
def zed(B0 B1:Blk)(ok:Bool):Heap:=⟨[B0,B1,⟨2,1,[[vb ok]],false,[]⟩],3⟩
def zu1(args:List V)(h:Heap):Prop:=∃(B0 B1:Blk)(n:Int)(b ok:Bool),args= [vi n,vb b,.ptr 2 2 0 0]∧h=zed B0 B1 ok
def zrX(args:List V)(h:Heap):Heap:=zed (h.blk 0) (h.blk 1) (stB (V.boo (((h.blk 2).es.getD 0 []).getD 0 .any)) (args.getD 0 .any).int (V.boo (args.getD 1 .any)))
theorem zec(B0 B1:Blk)(n:Int)(b ok:Bool)(p:V):zrX [vi n,vb b,p] (zed B0 B1 ok)=zed B0 B1 (stB ok n b):=rfl
def zrx:ESum Tryz.prog:=⟨171,zu1,fun _ _=>.tup [],zrX,fun args h hp=>by
 obtain⟨B0,B1,n,b,ok,rfl,rfl⟩:=hp
 rw[zec];exact zhW B0 B1 n b ok⟩
theorem zmQ:∃A:ESum Tryz.prog,A.f=171∧(∀B0 B1 n b ok,A.pre [.c (.int .i64 n),.c (.bool b),.ptr 2 2 0 0] ⟨[B0,B1,⟨2,1,[[.c (.bool ok)]],false,[]⟩],3⟩)∧(∀args h,A.v args h= .tup [])∧
 ∀B0 B1 n b ok,A.hp [.c (.int .i64 n),.c (.bool b),.ptr 2 2 0 0] ⟨[B0,B1,⟨2,1,[[.c (.bool ok)]],false,[]⟩],3⟩=⟨[B0,B1,⟨2,1,[[.c (.bool (stB ok n b))]],false,[]⟩],3⟩:=
 ⟨zrx,rfl,fun B0 B1 n b ok=>⟨B0,B1,n,b,ok,rfl,rfl⟩,fun _ _=>rfl,fun B0 B1 n b ok=>zec B0 B1 n b ok _⟩
structure AskE (e:Nat→V):Prop where
 a:e 2= .ptr 0 0 0 0
 b:e 3= .ptr 1 1 0 0
 c:e 5= .ptr 2 2 0 0
 d:e 6= .fn 171 [.ptr 2 2 0 0]
def zah(A:ESum Tryz.prog):Prop:=A.f=171∧(∀B0 B1 n b ok,A.pre [.c (.int .i64 n),.c (.bool b),.ptr 2 2 0 0] ⟨[B0,B1,⟨2,1,[[.c (.bool ok)]],false,[]⟩],3⟩)∧(∀args h,A.v args h= .tup [])∧
    ∀B0 B1 n b ok,A.hp [.c (.int .i64 n),.c (.bool b),.ptr 2 2 0 0] ⟨[B0,B1,⟨2,1,[[.c (.bool ok)]],false,[]⟩],3⟩=⟨[B0,B1,⟨2,1,[[.c (.bool (stB ok n b))]],false,[]⟩],3⟩
def hpA(s:PSel)(p:Sh)(ok:Bool):Heap:=⟨[⟨0,5,[s.enc],false,[]⟩,⟨1,6,[p.enc],false,[]⟩,⟨2,1,[[vb ok]],false,[]⟩],3⟩
theorem zpM{A:ESum Tryz.prog}(hA:zah A)(s:PSel)(p:Sh)(ok:Bool)(w0:World)(own0:Sx.Own)(rest:C)(Q:yb)(e:Nat→V)(he:AskE e)
 (hK:∀e',AskE e'→wpC ⟨Tryz.prog,Orc.econs A (Orc.nil _),44,w0,own0⟩ rest Q e' (hpA s p (stB ok (s.first) (p.first)))):wpC ⟨Tryz.prog,Orc.econs A (Orc.nil _),44,w0,own0⟩ (.seq jt.body.tl.tl.tl.hd rest) Q e (hpA s p ok):=by
 obtain⟨e1,hp,e3,hh⟩:=hA
 obtain⟨a,b,c,d⟩:=he
 unfold hpA at hK⊢
 simp only[jt,C.hd,C.tl,PSel.enc,Sh.enc,a,b,c,d,Orc.flat_econs,Orc.pre_econs,Orc.v_econs,Orc.hp_econs,Orc.qpre_econs,Orc.qv_econs,e1,e3,hp,hh,go_sem,zg,seval,reduceIte,reduceCtorEq]
 exact hK _ ⟨by simp[zq,a],by simp[zq,b],by simp[zq,c],by simp[zq,d]⟩
theorem zpN{A:ESum Tryz.prog}(hA:zah A)(s:PSel)(p:Sh)(ok:Bool)(w0:World)(own0:Sx.Own)(rest:C)(Q:yb)(e:Nat→V)(he:AskE e)
 (hK:∀e',AskE e'→wpC ⟨Tryz.prog,Orc.econs A (Orc.nil _),44,w0,own0⟩ rest Q e' (hpA s p (stB ok (s.blank) (p.blank)))):wpC ⟨Tryz.prog,Orc.econs A (Orc.nil _),44,w0,own0⟩ (.seq jt.body.tl.tl.tl.tl.hd rest) Q e (hpA s p ok):=by
 obtain⟨e1,hp,e3,hh⟩:=hA
 obtain⟨a,b,c,d⟩:=he
 unfold hpA at hK⊢
 simp only[jt,C.hd,C.tl,PSel.enc,Sh.enc,a,b,c,d,Orc.flat_econs,Orc.pre_econs,Orc.v_econs,Orc.hp_econs,Orc.qpre_econs,Orc.qv_econs,e1,e3,hp,hh,go_sem,zg,seval,reduceIte,reduceCtorEq]
 exact hK _ ⟨by simp[zq,a],by simp[zq,b],by simp[zq,c],by simp[zq,d]⟩
theorem zpO{A:ESum Tryz.prog}(hA:zah A)(s:PSel)(p:Sh)(ok:Bool)(w0:World)(own0:Sx.Own)(rest:C)(Q:yb)(e:Nat→V)(he:AskE e)
 (hK:∀e',AskE e'→wpC ⟨Tryz.prog,Orc.econs A (Orc.nil _),44,w0,own0⟩ rest Q e' (hpA s p (stB ok (s.left) (!p.right)))):wpC ⟨Tryz.prog,Orc.econs A (Orc.nil _),44,w0,own0⟩ (.seq jt.body.tl.tl.tl.tl.tl.hd rest) Q e (hpA s p ok):=by
 obtain⟨e1,hp,e3,hh⟩:=hA
 obtain⟨a,b,c,d⟩:=he
 unfold hpA at hK⊢
 simp only[jt,C.hd,C.tl,PSel.enc,Sh.enc,a,b,c,d,Orc.flat_econs,Orc.pre_econs,Orc.v_econs,Orc.hp_econs,Orc.qpre_econs,Orc.qv_econs,e1,e3,hp,hh,go_sem,zg,seval,reduceIte,reduceCtorEq]
 exact hK _ ⟨by simp[zq,a],by simp[zq,b],by simp[zq,c],by simp[zq,d]⟩
theorem zpP{A:ESum Tryz.prog}(hA:zah A)(s:PSel)(p:Sh)(ok:Bool)(w0:World)(own0:Sx.Own)(rest:C)(Q:yb)(e:Nat→V)(he:AskE e)
 (hK:∀e',AskE e'→wpC ⟨Tryz.prog,Orc.econs A (Orc.nil _),44,w0,own0⟩ rest Q e' (hpA s p (stB ok (s.right) (p.right)))):wpC ⟨Tryz.prog,Orc.econs A (Orc.nil _),44,w0,own0⟩ (.seq jt.body.tl.tl.tl.tl.tl.tl.hd rest) Q e (hpA s p ok):=by
 obtain⟨e1,hp,e3,hh⟩:=hA
 obtain⟨a,b,c,d⟩:=he
 unfold hpA at hK⊢
 simp only[jt,C.hd,C.tl,PSel.enc,Sh.enc,a,b,c,d,Orc.flat_econs,Orc.pre_econs,Orc.v_econs,Orc.hp_econs,Orc.qpre_econs,Orc.qv_econs,e1,e3,hp,hh,go_sem,zg,seval,reduceIte,reduceCtorEq]
 exact hK _ ⟨by simp[zq,a],by simp[zq,b],by simp[zq,c],by simp[zq,d]⟩
theorem zu5(A:ESum Tryz.prog)(s:PSel)(p:Sh)(w0:World)(own0:Sx.Own)(rest:C)(Q:yb)(hK:∀e,AskE e→wpC ⟨Tryz.prog,Orc.econs A (Orc.nil _),44,w0,own0⟩ rest Q e (hpA s p (decide (s.name=⟨#[]⟩)||decide (s.name=p.name)))):
 wpC ⟨Tryz.prog,Orc.econs A (Orc.nil _),44,w0,own0⟩ (.seq jt.body.hd (.seq jt.body.tl.hd (.seq jt.body.tl.tl.hd rest))) Q (Zl [.agg s.enc,.agg p.enc]) ⟨[],0⟩:=by
 unfold hpA at hK
 simp only[jt,C.hd,C.tl,PSel.enc,Sh.enc,go_sem,zg,seval,reduceIte,reduceCtorEq]at hK⊢
 refine⟨Decidable.em _,?_⟩
 refine hK _ ⟨?_,?_,?_,?_⟩
 all_goals simp[zq]
theorem zr9(s:PSel)(p:Sh):ze Tryz.prog 152 [.agg s.enc,.agg p.enc] (vb (isP s p)):=by
 obtain⟨A,hA⟩:∃A,zah A:=zmQ
 refine ze.of (Orc.econs A (Orc.nil _)) znh (by simp[jt]) fun w0 own0=> ?_
 refine zu5 A s p w0 own0 (.seq jt.body.tl.tl.tl.hd (.seq jt.body.tl.tl.tl.tl.hd (.seq jt.body.tl.tl.tl.tl.tl.hd (.seq jt.body.tl.tl.tl.tl.tl.tl.hd jt.body.tl.tl.tl.tl.tl.tl.tl)))) _ fun e he=> ?_
 refine zpM hA s p _ w0 own0 _ _ e he fun e he=>zpN hA s p _ w0 own0 _ _ e he fun e he=>zpO hA s p _ w0 own0 _ _ e he fun e he=>zpP hA s p _ w0 own0 _ _ e he fun e he=> ?_
 obtain⟨a,b,c,d⟩:=he
 unfold hpA isP
 simp only[jt,C.hd,C.tl,PSel.enc,Sh.enc,a,b,c,d,go_sem,zg,seval,reduceIte,reduceCtorEq]
def Jy:Sum Tryz.prog:=⟨152,fun args=>args= [.agg (PSel.enc (jz (args.getD 0 .any))),.agg (Sh.enc (kO (args.getD 1 .any)))],fun args=>vb (isP (jz (args.getD 0 .any)) (kO (args.getD 1 .any))),fun args h=>by
 have:=zr9 (jz (args.getD 0 .any)) (kO (args.getD 1 .any));rwa [←h]at this,true⟩
theorem zkw:Jy.f=152:=rfl
theorem zkv(args:List V):Jy.D args=(args= [.agg (PSel.enc (jz (args.getD 0 .any))),.agg (Sh.enc (kO (args.getD 1 .any)))]):=rfl
theorem zbO:Jy.flat=true:=rfl
theorem zkx(args:List V):Jy.r args=vb (isP (jz (args.getD 0 .any)) (kO (args.getD 1 .any))):=rfl
attribute [go_sem] zkw zkv zbO zkx
theorem zhc(s:PSel)(h: -9223372036854775808≤s.first+s.blank∧s.first+s.blank≤9223372036854775807∧ -9223372036854775808≤s.left+s.right∧s.left+s.right≤9223372036854775807):
 ze Tryz.prog 151 [.agg s.enc] (.agg (W3.enc ⟨if s.name=⟨#[]⟩then 0 else 1,s.first+s.blank,s.left+s.right⟩)):=by
 refine ze.of (Orc.nil _) zng (by simp[znf]) fun w0 own0=> ?_
 by_cases hn:s.name=⟨#[]⟩
 ·simp only[znf,PSel.enc,W3.enc,hn,h.1,h.2,go_sem,zg,seval,reduceIte,reduceCtorEq]
 ·simp only[znf,PSel.enc,W3.enc,hn,h.1,h.2,go_sem,zg,seval,reduceIte,reduceCtorEq]
end Go.Proofs.YtlaopdfpncckeaaGreatDoor
end
section
namespace Go.Proofs.YtlaopdfpncckeaaGreatDoor
open Go.Sx
set_option linter.unusedSimpArgs false
set_option maxHeartbeats 4000000
set_option maxRecDepth 20000
def wtP(s:PSel):W3:=⟨if s.name=⟨#[]⟩then 0 else 1,s.first+s.blank,s.left+s.right⟩
def Zd(s:PSel):Prop:= -2000≤s.first∧s.first≤2000∧ -2000≤s.blank∧s.blank≤2000∧ -2000≤s.left∧s.left≤2000∧ -2000≤s.right∧s.right≤2000
def zcd:Sum Tryz.prog:=⟨151,fun args=>args= [.agg (PSel.enc (jz (args.getD 0 .any)))]∧Zd (jz (args.getD 0 .any)),fun args=>.agg (W3.enc (wtP (jz (args.getD 0 .any)))),fun args h=>by
 have:=zhc (jz (args.getD 0 .any)) (by have:=h.2;unfold Zd at this;omega);rwa [←h.1]at this,false⟩
theorem zoF:zcd.f=151:=rfl
theorem zoE(args:List V):zcd.D args=(args= [.agg (PSel.enc (jz (args.getD 0 .any)))]∧Zd (jz (args.getD 0 .any))):=rfl
theorem zdL:zcd.flat=false:=rfl
theorem zoG(args:List V):zcd.r args= .agg (W3.enc (wtP (jz (args.getD 0 .any)))):=rfl
attribute [go_sem] zoF zoE zdL zoG
def shC:List Cell:=[.int .i64,.bool,.bool,.bool,.str,.int .i64]
theorem zru{xs:List V}(hl:xs.length=6)(h:∀i c,shC[i]? =some c→CellOK c (xs.getD i .any)):∃s:Sh,xs=s.enc:=by
 have a0:=h 0 _ rfl
 have a1:=h 1 _ rfl
 have a2:=h 2 _ rfl
 have a3:=h 3 _ rfl
 have a4:=h 4 _ rfl
 have a5:=h 5 _ rfl
 match xs,hl with
 | [a,b,c,d,e,f],_=>
   simp only[List.getD_cons_zero,List.getD_cons_succ]at a0 a1 a2 a3 a4 a5
   cases a0;cases a1;cases a2;cases a3;cases a4;cases a5
   exact⟨⟨_,_,_,_,_,_⟩,rfl⟩
end Go.Proofs.YtlaopdfpncckeaaGreatDoor
end
section
namespace Go.Proofs.YtlaopdfpncckeaaGreatDoor
open Go.Sx
set_option linter.unusedSimpArgs false
set_option maxHeartbeats 4000000
set_option maxRecDepth 20000
def zak(p:Sh)(a:W3×Bool)(s:PSel):W3×Bool:=if isP s p=true then(if a.2=false∨abv (wtP s) a.1=true then(wtP s,true)else a)else a
def kp(l:List PSel)(p:Sh)(n:Nat):W3×Bool:=(l.take n).foldl (zak p) (⟨0,0,0⟩,false)
theorem zal(l:List PSel)(p:Sh)(n:Nat)(h:n<l.length):kp l p (n+1)=zak p (kp l p n) (l.getD n default):=by
 unfold kp
 rw[List.take_add_one,List.getElem?_eq_getElem h,List.foldl_append,List.getD_eq_getElem?_getD,List.getElem?_eq_getElem h];rfl
def QD(l:List PSel):Prop:=l.length≤1000000∧∀i,i<l.length→Zd (l.getD i default)
def zam(l:List PSel)(p:Sh):V:=.tup [.agg (W3.enc (kp l p l.length).1),vb (kp l p l.length).2]
structure BsS where
 n:Nat
 clk:Nat
theorem zmT(l:List PSel)(p:Sh)(hl:QD l):ze Tryz.prog 127 [ZJ l,.agg p.enc] (zam l p):=by
 refine ze.of (Orc.cons Jy (Orc.cons zcd (Orc.cons QE (Orc.nil _)))) zm9 (by simp[zp3]) fun w0 own0=> ?_
 simp only[zp3,ZJ,Sh.enc,go_sem,zg,seval,reduceIte,reduceCtorEq]
 refine z7.lp (α:=BsS) (fun a=>[(3,.ptr 0 0 0 0),(4,.ptr 1 1 0 0),(6,.ptr 2 2 0 0),(7,vb (kp l p a.n).2),(11,.slc 5 (l.map PSel.enc)),(12,vi l.length),(13,vi a.n)])
  (fun a=>⟨[⟨0,6,[p.enc],false,[]⟩,⟨1,3,[[vi 0,vi 0,vi 0]],false,[]⟩,⟨2,3,[W3.enc (kp l p a.n).1],false,[]⟩],a.clk⟩) (fun a=>a.n≤l.length) (fun a=>l.length - a.n) ⟨0,3⟩ (Nat.zero_le _) (St.cut ?_ ?_ ?_) fun a ha=> ?_
 ·simp[zC,zq,zI,kp]
 ·simp[Heap.alloc,Sh.enc,W3.enc,kp]
 ·rfl
 obtain⟨n,clk⟩:=a
 simp only at ha
 by_cases he:n=l.length
 ·subst he
  unfold zam
  generalize kp l p l.length=R
  obtain⟨⟨x,y,z⟩,b⟩:=R
  simp only[Int.lt_irrefl,W3.enc,Sh.enc,go_sem,zg,seval,reduceIte,reduceCtorEq]
  rfl
 ·have e1:(n:Int)<(l.length:Int):=by omega
  have e0:(0:Int)≤(n:Int):=by omega
  have hlt:n<l.length:=by omega
  have hg:=zcU l n
  have hsm:=hl.2 n hlt
  have hsu:=zal l p n hlt
  have hl0:=hl.1
  generalize l.getD n default=s at*
  generalize kp l p n=R at*
  obtain⟨⟨x,y,z⟩,b⟩:=R
  simp only[zak]at hsu
  generalize hwt:wtP s=wt at*
  obtain⟨u,v,w⟩:=wt
  cases hI:isP s p with
  |false=>
   simp only[hI,Bool.false_eq_true,if_false]at hsu
   simp only[e0,e1,hg,PSel.enc,Sh.enc,W3.enc,PSel.eta',Sh.eta',YK,yl,Yp,hsm,hwt,hI,go_sem,zg,seval,reduceIte,reduceCtorEq]
   exact⟨by omega,⟨n+1,clk+2⟩,by dsimp only;omega,by dsimp only;omega,⟨by rw[hsu],by dsimp only;omega⟩,by rw[hsu];exact⟨rfl,rfl,rfl⟩,rfl⟩
  |true=>
   simp only[hI,if_true]at hsu
   cases b with
   |false=>
    simp only[true_or,if_true]at hsu
    simp only[e0,e1,hg,PSel.enc,Sh.enc,W3.enc,PSel.eta',Sh.eta',YK,yl,Yp,hsm,hwt,hI,go_sem,zg,seval,reduceIte,reduceCtorEq]
    exact⟨by omega,⟨n+1,clk+2⟩,by dsimp only;omega,by dsimp only;omega,⟨by rw[hsu],by dsimp only;omega⟩,by rw[hsu];exact⟨rfl,rfl,rfl⟩,rfl⟩
   |true=>
    cases hA:abv ⟨u,v,w⟩ ⟨x,y,z⟩with
    |false=>
     simp only[hA,Bool.true_eq_false,Bool.false_eq_true,or_self,if_false]at hsu
     simp only[e0,e1,hg,PSel.enc,Sh.enc,W3.enc,PSel.eta',Sh.eta',YK,yl,Yp,hsm,hwt,hI,hA,go_sem,zg,seval,reduceIte,reduceCtorEq]
     exact⟨by omega,⟨n+1,clk+2⟩,by dsimp only;omega,by dsimp only;omega,⟨by rw[hsu],by dsimp only;omega⟩,by rw[hsu];exact⟨rfl,rfl,rfl⟩,rfl⟩
    |true=>
     simp only[hA,or_true,if_true]at hsu
     simp only[e0,e1,hg,PSel.enc,Sh.enc,W3.enc,PSel.eta',Sh.eta',YK,yl,Yp,hsm,hwt,hI,hA,go_sem,zg,seval,reduceIte,reduceCtorEq]
     exact⟨by omega,⟨n+1,clk+2⟩,by dsimp only;omega,by dsimp only;omega,⟨by rw[hsu],by dsimp only;omega⟩,by rw[hsu];exact⟨rfl,rfl,rfl⟩,rfl⟩
def Qb:Sum Tryz.prog:=⟨127,fun args=>args= [ZJ (jZ (args.getD 0 .any)),.agg (Sh.enc (kO (args.getD 1 .any)))]∧QD (jZ (args.getD 0 .any)),fun args=>zam (jZ (args.getD 0 .any)) (kO (args.getD 1 .any)),fun args h=>by
 have:=zmT (jZ (args.getD 0 .any)) (kO (args.getD 1 .any)) h.2;rwa [←h.1]at this,false⟩
theorem zgD:Qb.f=127:=rfl
theorem zgC(args:List V):Qb.D args=(args= [ZJ (jZ (args.getD 0 .any)),.agg (Sh.enc (kO (args.getD 1 .any)))]∧QD (jZ (args.getD 0 .any))):=rfl
theorem WH:Qb.flat=false:=rfl
theorem zgE(args:List V):Qb.r args=zam (jZ (args.getD 0 .any)) (kO (args.getD 1 .any)):=rfl
attribute [go_sem] zgD zgC WH zgE
structure BpS where
 n:Nat
 ver:Nat
 clk:Nat
end Go.Proofs.YtlaopdfpncckeaaGreatDoor
end
section
namespace Go.Proofs.YtlaopdfpncckeaaGreatDoor
open Go.Sx
set_option linter.unusedSimpArgs false
set_option maxHeartbeats 4000000
set_option maxRecDepth 20000
def zlP:ByteArray:=⟨#[102,105,114,115,116]⟩
def zlO:ByteArray:=⟨#[98,108,97,110,107]⟩
def zpI:ByteArray:=⟨#[108,101,102,116]⟩
def zlQ:ByteArray:=⟨#[114,105,103,104,116]⟩
def jc(s:PSel)(w:ByteArray):Option PSel:=
 if w=zlP then some ⟨s.name,s.first+1,s.blank,s.left,s.right⟩
 else if w=zlO then some ⟨s.name,s.first,s.blank+1,s.left,s.right⟩
 else if w=zpI then some ⟨s.name,s.first,s.blank,s.left+1,s.right⟩
 else if w=zlQ then some ⟨s.name,s.first,s.blank,s.left,s.right+1⟩
 else none
def okB(s:PSel):Prop:=(0≤s.first∧s.first≤1000000)∧(0≤s.blank∧s.blank≤1000000)∧(0≤s.left∧s.left≤1000000)∧(0≤s.right∧s.right≤1000000)
def Q4:List (ByteArray×Nat)→ByteArray→Option Nat
 | [],_=>none
 |p::r,s=>if s=p.1 then some p.2 else Q4 r s
theorem K1(f:Nat→V)(s:ByteArray):∀L:List (ByteArray×Nat),mget (L.map fun p=>.string p.1) (L.map fun p=>f p.2) (.string s)=(Q4 L s).map f
 | []=>rfl
 |p::r=>by
  have:(zP (.string p.1) (.string s)).1=true↔s=p.1:=by simp[zP];exact eq_comm
  simp only[List.map_cons,mget,Q4,this,K1 f s r]
  split<;>rfl
def psK:List (ByteArray×Nat):=[(⟨#[102,105,114,115,116]⟩,1),(⟨#[98,108,97,110,107]⟩,2),(⟨#[108,101,102,116]⟩,3),(⟨#[114,105,103,104,116]⟩,4)]
theorem ze9(s:PSel)(u:ByteArray):jc s u=(Q4 psK u).map fun n=>if n=1 then⟨s.name,s.first+1,s.blank,s.left,s.right⟩else if n=2 then⟨s.name,s.first,s.blank+1,s.left,s.right⟩else if n=3 then⟨s.name,s.first,s.blank,s.left+1,s.right⟩else⟨s.name,s.first,s.blank,s.left,s.right+1⟩:=by
 unfold jc psK zlP zlO zpI zlQ
 simp only[Q4]
 split
 ·rfl
 split
 ·rfl
 split
 ·rfl
 split
 ·rfl
 rfl
theorem zfS(u:ByteArray)(n:Nat)(h:Q4 psK u=some n):n=1∨n=2∨n=3∨n=4:=by
 unfold psK at h
 simp only[Q4]at h
 split at h
 ·simp at h;omega
 split at h
 ·simp at h;omega
 split at h
 ·simp at h;omega
 split at h
 ·simp at h;omega
 cases h
theorem zbb(B0:Blk)(s:PSel)(w:ByteArray)(clk:Nat)(hs:okB s)(hw:w.size≤1000000):zv Tryz.prog 170 [.ptr 1 1 0 0,vs w] ⟨[B0,⟨1,5,[s.enc],false,[]⟩],clk⟩ (vb (jc s (z8 w)).isSome) ⟨[B0,⟨1,5,[((jc s (z8 w)).getD s).enc],false,[]⟩],clk⟩:=by
 refine zv.walk (Orc.cons kV (Orc.nil _)) znn (by simp[znm]) fun w0 own0=> ?_
 obtain⟨⟨a1,a2⟩,⟨b1,b2⟩,⟨c1,c2⟩,d1,d2⟩:=hs
 generalize hu:z8 w=u
 rw[ze9]
 have hm:=K1 (fun n=>V.ptr 1 1 0 n) u psK
 have hr:=zfS u
 generalize Q4 psK u=o at*
 simp only[psK,List.map_cons,List.map_nil]at hm
 cases o with
 |none=>
  simp only[Option.map_none]at hm⊢
  simp only[znm,PSel.enc,hw,hu,hm,Option.isSome_none,Option.getD_none,go_sem,zg,seval,reduceIte,reduceCtorEq]
 |some n=>
  simp only[Option.map_some]at hm⊢
  rcases hr n rfl with rfl|rfl|rfl|rfl
  all_goals simp only[znm,PSel.enc,hw,hu,hm,Option.isSome_some,Option.getD_some,go_sem,zg,seval,reduceIte,reduceCtorEq]
  all_goals omega
structure PsA (A:ESum Tryz.prog):Prop where
 f:A.f=170
 pre:∀(B0:Blk)(s:PSel)(w:ByteArray)(clk:Nat),okB s→w.size≤1000000→A.pre [.ptr 1 1 0 0,.c (.string w)] ⟨[B0,⟨1,5,[s.enc],false,[]⟩],clk⟩
 v:∀(B0:Blk)(s:PSel)(w:ByteArray)(clk:Nat),A.v [.ptr 1 1 0 0,.c (.string w)] ⟨[B0,⟨1,5,[s.enc],false,[]⟩],clk⟩=vb (jc s (z8 w)).isSome
 hp:∀(B0:Blk)(s:PSel)(w:ByteArray)(clk:Nat),A.hp [.ptr 1 1 0 0,.c (.string w)] ⟨[B0,⟨1,5,[s.enc],false,[]⟩],clk⟩=⟨[B0,⟨1,5,[((jc s (z8 w)).getD s).enc],false,[]⟩],clk⟩
theorem zrh:∃A:ESum Tryz.prog,PsA A:=
 ⟨⟨170,fun args h=>∃(B0:Blk)(s:PSel)(w:ByteArray)(clk:Nat),okB s∧w.size≤1000000∧args= [.ptr 1 1 0 0,vs w]∧h=⟨[B0,⟨1,5,[s.enc],false,[]⟩],clk⟩,
   fun args h=>vb (jc (KF ((h.blk 1).es.getD 0 [])) (z8 (args.getD 1 .any).str)).isSome,
   fun args h=>⟨[h.blk 0,⟨1,5,[((jc (KF ((h.blk 1).es.getD 0 [])) (z8 (args.getD 1 .any).str)).getD (KF ((h.blk 1).es.getD 0 []))).enc],false,[]⟩],h.clk⟩,
   fun args h hp=>by
    obtain⟨B0,s,w,clk,h1,h2,rfl,rfl⟩:=hp
    exact zbb B0 s w clk h1 h2⟩,⟨rfl,fun B0 s w clk h1 h2=>⟨B0,s,w,clk,h1,h2,rfl,rfl⟩,fun B0 s w clk=>rfl,fun B0 s w clk=>rfl⟩⟩
end Go.Proofs.YtlaopdfpncckeaaGreatDoor
end
section
namespace Go.Proofs.YtlaopdfpncckeaaGreatDoor
open Go.Sx
set_option linter.unusedSimpArgs false
set_option maxHeartbeats 4000000
set_option maxRecDepth 20000
def qX:Sum Tryz.prog:=⟨167,fun args=>args= [vi (args.getD 0 .any).int,vi (args.getD 1 .any).int,vi (args.getD 2 .any).int],fun args=>vb (decide (0≤(args.getD 1 .any).int∧(args.getD 1 .any).int≤(args.getD 2 .any).int∧(args.getD 2 .any).int≤(args.getD 0 .any).int)),fun args h=>by
 have:=zhd (args.getD 0 .any).int (args.getD 1 .any).int (args.getD 2 .any).int;rwa [←h]at this,true⟩
theorem z5:qX.f=167:=rfl
theorem z4(args:List V):qX.D args=(args= [vi (args.getD 0 .any).int,vi (args.getD 1 .any).int,vi (args.getD 2 .any).int]):=rfl
theorem zE:qX.flat=true:=rfl
theorem z6(args:List V):qX.r args=vb (decide (0≤(args.getD 1 .any).int∧(args.getD 1 .any).int≤(args.getD 2 .any).int∧(args.getD 2 .any).int≤(args.getD 0 .any).int)):=rfl
def jO:Sum Tryz.prog:=⟨168,fun args=>args= [.agg (kE (args.getD 0 .any)).enc,.pp [vi ((args.getD 1 .any).cs.getD 0 .any).int]],fun args=>vb (decide ((kE (args.getD 0 .any)).kind=((args.getD 1 .any).cs.getD 0 .any).int)),fun args h=>by
 have:=zfH (kE (args.getD 0 .any)) ((args.getD 1 .any).cs.getD 0 .any).int;rwa [←h]at this,true⟩
theorem zbM:jO.f=168:=rfl
theorem zbL(args:List V):jO.D args=(args= [.agg (kE (args.getD 0 .any)).enc,.pp [vi ((args.getD 1 .any).cs.getD 0 .any).int]]):=rfl
theorem Jw:jO.flat=true:=rfl
theorem zbN(args:List V):jO.r args=vb (decide ((kE (args.getD 0 .any)).kind=((args.getD 1 .any).cs.getD 0 .any).int)):=rfl
def yx(l:List Tok)(ends:List Int)(to kind:Int):Nat→Int→Int
 |0,_=> -1
 |f+1,k=>if k<to then(if(l.getD k.toNat .zero).kind=kind then k else yx l ends to kind f (skip ends k))else -1
def bad(l:List Tok)(ends:List Int)(a b:Int):Prop:=¬ends.length=l.length∨¬(0≤a∧a≤b∧b≤l.length)
instance (l:List Tok) (ends:List Int) (a b:Int):Decidable (bad l ends a b):=by unfold bad;infer_instance
def kA(l:List Tok)(ends:List Int)(a b kind:Int):Int:=if bad l ends a b then -1 else yx l ends b kind (b - a).toNat a
structure FiS where
 k:Int
 f:Nat
theorem znF(l:List Tok)(ends:List Int)(a b kind:Int)(hl:l.length≤1000000)(hE:∀i,ends.getD i 0≤1000000):ze Tryz.prog 169 [zm l,ye ends,vi a,vi b,.fn 168 [.pp [vi kind]]] (vi (kA l ends a b kind)):=by
 refine ze.of (Orc.cons Zh (Orc.cons qX (Orc.cons jO (Orc.nil _)))) znl (by simp[zqc]) fun w0 own0=> ?_
 simp only[zqc,ye,zm,Tok.enc,yO,yN,yq,yP,z5,z4,zE,z6,go_sem,zg,seval,reduceIte,reduceCtorEq]
 refine⟨by omega,by omega,fun h=> ?_,fun h=> ?_⟩
 ·have:bad l ends a b:=by unfold bad;omega
  simp only[kA,if_pos this]
 ·have hb:¬bad l ends a b:=by unfold bad;omega
  simp only[kA,if_neg hb]
  generalize hR:yx l ends b kind (b - a).toNat a=R
  refine z7.lp (α:=FiS) (fun x=>[(0,.slc 3 (l.map Tok.enc)),(1,.slc 1 (ends.map fun n=>[vi n])),(3,vi b),(4,.fn 168 [.pp [vi kind]]),(11,vi x.k)]) (fun _=>⟨[],0⟩)
   (fun x=>0≤x.k∧x.k≤1000001∧(b - x.k).toNat≤x.f∧yx l ends b kind x.f x.k=R) (fun x=>(b - x.k).toNat) ⟨a,(b - a).toNat⟩ ⟨by dsimp only;omega,by dsimp only;omega,Nat.le_refl _,hR⟩ (St.mk ?_) fun x hx=> ?_
  ·simp only[go_sem,zg,seval,reduceIte,reduceCtorEq]
  ·obtain⟨k,f⟩:=x
   simp only at hx
   obtain⟨h1,h2,h3,h4⟩:=hx
   simp only[Tok.enc,zm,ye,yO,yN,yq,yP,z5,z4,zE,z6,zbM,zbL,Jw,zbN,go_sem,zg,seval,reduceIte,reduceCtorEq]
   refine⟨fun hk=> ?_,fun hk=> ?_⟩
   ·obtain⟨f',rfl⟩:∃f',f=f'+1:=⟨f - 1,by omega⟩
    simp only[yx,if_pos hk]at h4
    have hg:=WC ends k (by omega)
    have hle:=zeO ends k (by omega)
    have:=hE k.toNat
    refine⟨by omega,fun hq=> ?_,fun hq=>⟨⟨by omega,by omega,by omega⟩,⟨skip ends k,f'⟩,⟨by dsimp only;omega,by dsimp only;omega,by dsimp only;omega,?_⟩,by dsimp only;omega,rfl⟩⟩
    ·rw[if_pos hq]at h4;exact h4
    ·rw[if_neg hq]at h4;exact h4
   ·cases f with
    |zero=>simpa[yx]using h4
    |succ f=>simpa only[yx,if_neg hk]using h4
def zaC(l:List Tok)(ends:List Int):Prop:=l.length≤1000000∧∀i,ends.getD i 0≤1000000
def Qi:Sum Tryz.prog:=⟨169,fun args=>args= [zm (zi (args.getD 0 .any)),ye (zY (args.getD 1 .any)),vi (args.getD 2 .any).int,vi (args.getD 3 .any).int,.fn 168 [.pp [vi ((((args.getD 4 .any).caps).getD 0 .any).cs.getD 0 .any).int]]]∧zaC (zi (args.getD 0 .any)) (zY (args.getD 1 .any)),
 fun args=>vi (kA (zi (args.getD 0 .any)) (zY (args.getD 1 .any)) (args.getD 2 .any).int (args.getD 3 .any).int ((((args.getD 4 .any).caps).getD 0 .any).cs.getD 0 .any).int),fun args h=>by
 have:=znF (zi (args.getD 0 .any)) (zY (args.getD 1 .any)) (args.getD 2 .any).int (args.getD 3 .any).int ((((args.getD 4 .any).caps).getD 0 .any).cs.getD 0 .any).int h.2.1 h.2.2;rwa [←h.1]at this,true⟩
theorem zgT:Qi.f=169:=rfl
theorem zgS(args:List V):Qi.D args=(args= [zm (zi (args.getD 0 .any)),ye (zY (args.getD 1 .any)),vi (args.getD 2 .any).int,vi (args.getD 3 .any).int,.fn 168 [.pp [vi ((((args.getD 4 .any).caps).getD 0 .any).cs.getD 0 .any).int]]]∧zaC (zi (args.getD 0 .any)) (zY (args.getD 1 .any))):=rfl
theorem WL:Qi.flat=true:=rfl
theorem zgU(args:List V):Qi.r args=vi (kA (zi (args.getD 0 .any)) (zY (args.getD 1 .any)) (args.getD 2 .any).int (args.getD 3 .any).int ((((args.getD 4 .any).caps).getD 0 .any).cs.getD 0 .any).int):=rfl
def prs(l:List (Int×Int)):V:=.slc 2 (l.map fun p=>[vi p.1,vi p.2])
theorem KZ(S:Nat→Bool)(h:Heap)(l:List (Int×Int)):zK (zK (res S h 11)) (l.map fun p=>[vi p.1,vi p.2])=some (l.map fun p=>[vi p.1,vi p.2]):=qa S h 10 _ (fun _=>rfl) l
theorem zfY(l:List Tok)(ends:List Int)(a b kind:Int):kA l ends a b kind= -1∨(a≤kA l ends a b kind∧kA l ends a b kind<b∧b≤l.length):=by
 unfold kA
 split
 ·exact .inl rfl
 ·rename_i hb
  have hb':ends.length=l.length∧0≤a∧a≤b∧b≤l.length:=by unfold bad at hb;omega
  have key:∀(f:Nat)(k:Int),a≤k→yx l ends b kind f k= -1∨(a≤yx l ends b kind f k∧yx l ends b kind f k<b):=by
   intro f
   induction f with
   |zero=>intro k _;exact .inl rfl
   |succ f ih=>
    intro k hk
    simp only[yx]
    split
    ·rename_i hkb
     split
     ·exact .inr ⟨hk,hkb⟩
     ·exact ih _ (by have:=WC ends k (by omega);omega)
    ·exact .inl rfl
  rcases key (b - a).toNat a (Int.le_refl _)with h|h
  ·exact .inl h
  ·exact .inr ⟨h.1,h.2,hb'.2.2.2⟩
def jq(l:List Tok)(ends:List Int)(b kind:Int):Nat→Int→List (Int×Int)
 |0,a=>[(a,b)]
 |f+1,a=>if 0≤kA l ends a b kind then(a,kA l ends a b kind)::jq l ends b kind f (kA l ends a b kind+1)else[(a,b)]
def Zb(l:List Tok)(ends:List Int)(a b kind:Int):V:=bif decide (bad l ends a b)then zL else prs (jq l ends b kind ((b - a).toNat+1) a)
structure SlS where
 a:Int
 f:Nat
 out:List (Int×Int)
 ver:Nat
 clk:Nat
theorem zjX(l:List Tok)(ends:List Int)(a b kind:Int)(hl:l.length≤1000000)(hE:∀i,ends.getD i 0≤1000000):ze Tryz.prog 149 [zm l,ye ends,vi a,vi b,vi kind] (Zb l ends a b kind):=by
 refine ze.of (Orc.cons qX (Orc.cons Qi (Orc.nil _))) znd (by simp[zp9]) fun w0 own0=> ?_
 simp only[zp9,ye,zm,Tok.enc,go_sem,zg,seval,reduceIte,reduceCtorEq]
 by_cases hb:bad l ends a b
 ·have hR:Zb l ends a b kind=zL:=by simp only[Zb,hb,decide_true,cond_true]
  rw[hR]
  refine z7.lab (α:=Unit) 0 (fun _=>[]) (fun _=>⟨[],0⟩) (fun _=>False) (fun _=>0) rfl ?_ fun x hx=>hx.elim
  simp only[z5,z4,zE,z6,go_sem,zg,seval,reduceIte,reduceCtorEq]
  unfold bad at hb
  refine⟨by omega,fun h=> ?_⟩
  exfalso;omega
 have hb':ends.length=l.length∧0≤a∧a≤b∧b≤l.length:=by unfold bad at hb;omega
 have hR:Zb l ends a b kind=prs (jq l ends b kind ((b - a).toNat+1) a):=by simp only[Zb,hb,decide_false,cond_false]
 rw[hR]
 generalize hR:jq l ends b kind ((b - a).toNat+1) a=R
 refine z7.lab (α:=SlS) 0 (fun x=>[(0,.slc 3 (l.map Tok.enc)),(1,.slc 1 (ends.map fun n=>[vi n])),(2,vi x.a),(3,vi b),(11,.ref 1 x.ver 0 x.out.length),(12,.fn 168 [.ptr 0 0 0 0])])
  (fun x=>⟨[⟨0,1,[[vi kind]],false,[]⟩,⟨x.ver,2,x.out.map fun p=>[vi p.1,vi p.2],false,[vi 0,vi 0]⟩],x.clk⟩)
  (fun x=>0≤x.a∧x.a≤b∧(b - x.a).toNat+1≤x.f∧x.out++jq l ends b kind x.f x.a=R∧(x.out.length:Int)≤x.a) (fun x=>(b - x.a).toNat) rfl ?_ fun x hx=> ?_
 ·simp only[z5,z4,zE,z6,go_sem,zg,seval,reduceIte,reduceCtorEq]
  refine⟨by omega,fun h=> ?_,fun h=>⟨⟨a,(b - a).toNat+1,[],1,2⟩,⟨hb'.2.1,hb'.2.2.1,Nat.le_refl _,hR,hb'.2.1⟩,St.nil 11 2 [vi 0,vi 0] (by simp[zq]) (St.cut ?_ ?_ ?_)⟩⟩
  ·exfalso;omega
  ·simp[zC,zq,zI]
  ·simp[Heap.alloc]
  ·rfl
 ·obtain⟨a',f,out,ver,clk⟩:=x
  simp only at hx
  obtain⟨h1,h2,h3,h4,h5⟩:=hx
  simp only[Tok.enc,zm,ye,prs,KZ,zgT,zgS,WL,zgU,z5,z4,zE,z6,go_sem,zg,seval,reduceIte,reduceCtorEq]
  have hf:=zfY l ends a' b kind
  obtain⟨f',rfl⟩:∃f',f=f'+1:=⟨f - 1,by omega⟩
  simp only[jq]at h4
  refine⟨⟨hl,hE⟩,fun hn=> ?_,fun hn=> ?_⟩
  ·rw[if_pos hn]at h4
   refine⟨by omega,by omega,⟨kA l ends a' b kind+1,f',out++ [(a',kA l ends a' b kind)],clk+1,clk+1+1⟩,⟨by dsimp only;omega,by dsimp only;omega,by dsimp only;omega,?_,by simp;omega⟩,by dsimp only;omega,⟨rfl,rfl,by simp⟩,⟨rfl,?_⟩,rfl⟩
   ·simpa using h4
   ·simp
  ·rw[if_neg hn]at h4
   refine⟨by omega,?_⟩
   have e:List.map (fun p:Int×Int=>[vi p.1,vi p.2]) (List.take out.length out)++ [[V.c (Value.int IntKind.i64 a'),V.c (Value.int IntKind.i64 b)]]=R.map fun p=>[vi p.1,vi p.2]:=by
    rw[←h4];simp
   have e2:R.length=out.length+1:=by rw[←h4];simp
   rw[e,if_pos (by simp[e2]),List.take_of_length_le (by simp[e2]),KZ]
   rfl
def kW:Sum Tryz.prog:=⟨149,fun args=>args= [zm (zi (args.getD 0 .any)),ye (zY (args.getD 1 .any)),vi (args.getD 2 .any).int,vi (args.getD 3 .any).int,vi (args.getD 4 .any).int]∧zaC (zi (args.getD 0 .any)) (zY (args.getD 1 .any)),
 fun args=>Zb (zi (args.getD 0 .any)) (zY (args.getD 1 .any)) (args.getD 2 .any).int (args.getD 3 .any).int (args.getD 4 .any).int,fun args h=>by
 have:=zjX (zi (args.getD 0 .any)) (zY (args.getD 1 .any)) (args.getD 2 .any).int (args.getD 3 .any).int (args.getD 4 .any).int h.2.1 h.2.2;rwa [←h.1]at this,false⟩
theorem qU:kW.f=149:=rfl
theorem qT(args:List V):kW.D args=(args= [zm (zi (args.getD 0 .any)),ye (zY (args.getD 1 .any)),vi (args.getD 2 .any).int,vi (args.getD 3 .any).int,vi (args.getD 4 .any).int]∧zaC (zi (args.getD 0 .any)) (zY (args.getD 1 .any))):=rfl
theorem yQ:kW.flat=false:=rfl
theorem qW(args:List V):kW.r args=Zb (zi (args.getD 0 .any)) (zY (args.getD 1 .any)) (args.getD 2 .any).int (args.getD 3 .any).int (args.getD 4 .any).int:=rfl
end Go.Proofs.YtlaopdfpncckeaaGreatDoor
end
section
namespace Go.Proofs.YtlaopdfpncckeaaGreatDoor
open Go.Sx
set_option linter.unusedSimpArgs false
set_option maxHeartbeats 4000000
set_option maxRecDepth 20000
def rsK(l:List Tok)(kind to:Int):Int→List Int→List (Int×Int)
 |b,[]=>[(b,to)]
 |b,p::ps=>if(l.getD p.toNat .zero).kind=kind then(b,p)::rsK l kind to (p+1) ps else rsK l kind to b ps
def zbt(l:List Tok):List (Int×Int):=jq l (zA l) l.length 16 (l.length+1) 0
def gS(l:List Tok)(f sf:Nat)(b:Int)(k:Nat):List (Int×Int):=if 0≤yx l (zA l) l.length 16 f k then(b,yx l (zA l) l.length 16 f k)::jq l (zA l) l.length 16 sf (yx l (zA l) l.length 16 f k+1)else[(b,(l.length:Int))]
theorem zcI{t:Tok}(h:t.kind=16):zy t=⟨#[]⟩:=by unfold zy;simp[h]
theorem zdu{l:List Tok}(hd:yf l=false){k:Nat}(hk:k<l.length)(h:(l.getD k .zero).kind=16):skip (zA l) k=((k+1:Nat):Int):=by
 have hc:zy (l.getD k .zero)=⟨#[]⟩:=zcI h
 unfold skip
 rw[Int.toNat_natCast,ZW l hd k hk]
 unfold y9
 rw[if_pos hc,if_pos (by omega)];omega
theorem zay{l:List Tok}(hd:yf l=false):(zA l).length=l.length:=by unfold zA;rw[hd];simp[qL]
theorem zbu{l:List Tok}(hd:yf l=false)(sf a:Nat)(ha:a≤l.length):jq l (zA l) l.length 16 (sf+1) a=gS l (l.length - a) sf a a:=by
 have e:kA l (zA l) a l.length 16=yx l (zA l) l.length 16 (l.length - a) a:=by
  unfold kA
  rw[if_neg (by have:=zay hd;unfold bad;omega),show((l.length:Int) - a).toNat=l.length - a by omega]
 simp only[jq,gS,e]
theorem ziI{l:List Tok}(hd:yf l=false):∀(f' f sf:Nat)(b:Int)(k:Nat),l.length+1≤k+f'→l.length≤k+f→l.length≤sf+k→k≤l.length→gS l f sf b k=rsK l 16 l.length b (plR (zA l) l.length f' k)
 |0,f,sf,b,k,h1,_,_,h4=>by omega
 |f'+1,f,sf,b,k,h1,h2,h3,h4=>by
  by_cases hk:k<l.length
  ·obtain⟨f,rfl⟩:∃g,f=g+1:=⟨f - 1,by omega⟩
   simp only[plR]
   rw[if_pos (by omega)]
   simp only[rsK,Int.toNat_natCast]
   by_cases hc:(l.getD k .zero).kind=16
   ·rw[if_pos hc,zdu hd hk hc]
    have hf:yx l (zA l) l.length 16 (f+1) k=k:=by simp only[yx,Int.toNat_natCast];rw[if_pos (by omega),if_pos hc]
    unfold gS
    rw[hf,if_pos (by omega)]
    obtain⟨s,rfl⟩:∃s,sf=s+1:=⟨sf - 1,by omega⟩
    have e1:((k:Int)+1)=((k+1:Nat):Int):=by omega
    rw[e1,zbu hd s (k+1) (by omega),ziI hd f' (l.length - (k+1)) s ((k+1:Nat):Int) (k+1) (by omega) (by omega) (by omega) (by omega)]
   ·rw[if_neg hc]
    obtain⟨n,hn1,hn2,hn3⟩:=kT hd k hk
    have hf:yx l (zA l) l.length 16 (f+1) k=yx l (zA l) l.length 16 f n:=by
     simp only[yx,Int.toNat_natCast];rw[if_pos (by omega),if_neg hc,hn1]
    have hg:gS l (f+1) sf b k=gS l f sf b n:=by unfold gS;rw[hf]
    rw[hg,hn1]
    exact ziI hd f' f sf b n (by omega) (by omega) (by omega) hn3
  ·have hf:yx l (zA l) l.length 16 f k= -1:=by
    cases f with
    |zero=>rfl
    |succ f=>simp only[yx];rw[if_neg (by omega)]
   unfold gS
   rw[hf,if_neg (by omega)]
   simp only[plR]
   rw[if_neg (by omega)];rfl
theorem zov{l:List Tok}(hd:yf l=false):zbt l=rsK l 16 l.length 0 (plR (zA l) l.length (l.length+1) 0):=by
 have h:=zbu hd l.length 0 (Nat.zero_le _)
 have h2:=ziI hd (l.length+1) (l.length - 0) l.length 0 0 (by omega) (by omega) (by omega) (Nat.zero_le _)
 exact h.trans h2
theorem zfZ{l:List Tok}(hd:yf l=false):Zb l (zA l) 0 l.length 16=prs (zbt l):=by
 have:=zay hd
 unfold Zb
 rw[decide_eq_false (by unfold bad;omega),cond_false]
 unfold zbt
 rw[show(((l.length:Int) - 0).toNat+1)=l.length+1 by omega]
end Go.Proofs.YtlaopdfpncckeaaGreatDoor
end
section
namespace Go.Proofs.YtlaopdfpncckeaaGreatDoor
open Go.Sx
set_option linter.unusedSimpArgs false
set_option maxHeartbeats 4000000
set_option maxRecDepth 20000
def upA(l:List Tok)(b:Nat):Nat→Nat→Nat
 |0,k=>k
 |f+1,k=>if k<b∧(l.getD k .zero).kind=1 then upA l b f (k+1)else k
def dnB(l:List Tok)(a:Nat):Nat→Nat
 |0=>0
 |k+1=>if a<k+1∧(l.getD k .zero).kind=1 then dnB l a k else k+1
theorem zeR(l:List Tok)(b:Nat):∀(f k:Nat),k≤b→k≤upA l b f k∧upA l b f k≤b
 |0,k,h=>by simp only[upA];omega
 |f+1,k,h=>by
  simp only[upA]
  split
  ·have:=zeR l b f (k+1) (by omega);omega
  ·omega
theorem zej(l:List Tok)(a:Nat):∀(k:Nat),a≤k→a≤dnB l a k∧dnB l a k≤k
 |0,h=>by simp only[dnB];omega
 |k+1,h=>by
  simp only[dnB]
  split
  ·have:=zej l a k (by omega);omega
  ·omega
def trA(l:List Tok):Nat:=upA l l.length l.length 0
def trB(l:List Tok):Nat:=dnB l (trA l) l.length
def zce(l:List Tok):List Tok:=(l.take (trB l)).drop (trA l)
theorem zlK(l:List Tok):trA l≤trB l∧trB l≤l.length:=by
 have h1:=zeR l l.length l.length 0 (Nat.zero_le _)
 exact zej l (trA l) l.length h1.2
structure TmS where
 k:Nat
 f:Nat
def trV(l:List Tok):V:=.tup [vi (trA l),vi (trB l)]
theorem zoJ(l:List Tok)(hl:l.length≤1000000):ze Tryz.prog 148 [zm l,vi 0,vi l.length] (trV l):=by
 refine ze.of (Orc.cons qX (Orc.nil _)) znc (by simp[zp8]) fun w0 own0=> ?_
 have hl0:(0:Int)≤(l.length:Int):=by omega
 simp only[zp8,zm,hl0,Int.le_refl,z5,z4,zE,z6,go_sem,zg,seval,reduceIte,reduceCtorEq]
 refine z7.lp (α:=TmS) (fun a=>[(0,.slc 3 (l.map Tok.enc)),(1,vi a.k),(2,vi l.length)]) (fun _=>⟨[],0⟩)
  (fun a=>a.k≤l.length∧l.length≤a.k+a.f∧upA l l.length a.f a.k=trA l) (fun a=>l.length - a.k) ⟨0,l.length⟩ ⟨Nat.zero_le _,by dsimp only;omega,rfl⟩ (St.cut ?_ ?_ ?_) fun a ha=> ?_
 ·simp[zC,zq,zI]
 ·simp
 ·rfl
 obtain⟨k,f⟩:=a
 obtain⟨h1,h2,h3⟩:=ha
 simp only at h1 h2 h3
 have e0:(0:Int)≤(k:Int):=by omega
 by_cases hc:k<l.length∧(l.getD k .zero).kind=1
 ·obtain⟨f,rfl⟩:∃g,f=g+1:=⟨f - 1,by omega⟩
  have e1:(k:Int)<(l.length:Int):=by omega
  have hk:=eq_true hc.2
  simp only[upA]at h3
  rw[if_pos hc]at h3
  simp only[e0,e1,hk,Tok.enc,z5,z4,zE,z6,go_sem,zg,seval,reduceIte,reduceCtorEq]
  exact⟨by omega,⟨k+1,f⟩,⟨by dsimp only;omega,by dsimp only;omega,h3⟩,by dsimp only;omega,by dsimp only;omega⟩
 ·have h4:k=trA l:=by
   rw[←h3]
   cases f with
   |zero=>rfl
   |succ f=>simp only[upA];rw[if_neg hc]
  have hbr:=zlK l
  subst h4
  by_cases e1:((trA l:Nat):Int)<(l.length:Int)
  ·have hk:((l.getD (trA l) .zero).kind=1)=False:=eq_false (fun hh=>hc ⟨by omega,hh⟩)
   simp only[e0,e1,hk,Tok.enc,z5,z4,zE,z6,go_sem,zg,seval,reduceIte,reduceCtorEq]
   refine z7.lp (α:=Nat) (fun k=>[(0,.slc 3 (l.map Tok.enc)),(1,vi (trA l)),(2,vi k)]) (fun _=>⟨[],0⟩)
    (fun k=>trA l≤k∧k≤l.length∧dnB l (trA l) k=trB l) (fun k=>k) l.length ⟨by omega,Nat.le_refl _,rfl⟩ (St.cut ?_ ?_ ?_) fun k hk2=> ?_
   ·simp[zC,zq,qk]
   ·simp
   ·rfl
   obtain⟨g1,g2,g3⟩:=hk2
   by_cases hgt:trA l<k
   ·obtain⟨j,rfl⟩:∃j,k=j+1:=⟨k - 1,by omega⟩
    have d1:((trA l:Nat):Int)<((j+1:Nat):Int):=by omega
    have d2:(((j+1:Nat):Int) - 1).toNat=j:=by omega
    have d3:(0:Int)≤((j+1:Nat):Int) - 1:=by omega
    have d4:((j+1:Nat):Int) - 1<(l.length:Int):=by omega
    simp only[dnB]at g3
    by_cases hs:(l.getD j .zero).kind=1
    ·have hst:=eq_true hs
     rw[if_pos ⟨hgt,hs⟩]at g3
     simp only[d1,d2,d3,d4,hst,Tok.enc,z5,z4,zE,z6,go_sem,zg,seval,reduceIte,reduceCtorEq]
     exact⟨by omega,by omega,j,⟨by omega,by omega,g3⟩,by omega,by omega⟩
    ·have hst:=eq_false hs
     rw[if_neg (fun hh=>hs hh.2)]at g3
     simp only[d1,d2,d3,d4,hst,trV,←g3,Tok.enc,z5,z4,zE,z6,go_sem,zg,seval,reduceIte,reduceCtorEq]
     omega
   ·have d1:¬((trA l:Nat):Int)<(k:Int):=by omega
    have g4:k=trB l:=by
     rw[←g3]
     cases k with
     |zero=>rfl
     |succ j=>simp only[dnB];rw[if_neg (fun hh=>hgt hh.1)]
    simp only[d1,trV,←g4,Tok.enc,z5,z4,zE,z6,go_sem,zg,seval,reduceIte,reduceCtorEq]
  ·simp only[e0,e1,Tok.enc,z5,z4,zE,z6,go_sem,zg,seval,reduceIte,reduceCtorEq]
   refine z7.lp (α:=Nat) (fun k=>[(0,.slc 3 (l.map Tok.enc)),(1,vi (trA l)),(2,vi k)]) (fun _=>⟨[],0⟩)
    (fun k=>trA l≤k∧k≤l.length∧dnB l (trA l) k=trB l) (fun k=>k) l.length ⟨by omega,Nat.le_refl _,rfl⟩ (St.cut ?_ ?_ ?_) fun k hk2=> ?_
   ·simp[zC,zq,qk]
   ·simp
   ·rfl
   obtain⟨g1,g2,g3⟩:=hk2
   by_cases hgt:trA l<k
   ·obtain⟨j,rfl⟩:∃j,k=j+1:=⟨k - 1,by omega⟩
    have d1:((trA l:Nat):Int)<((j+1:Nat):Int):=by omega
    have d2:(((j+1:Nat):Int) - 1).toNat=j:=by omega
    have d3:(0:Int)≤((j+1:Nat):Int) - 1:=by omega
    have d4:((j+1:Nat):Int) - 1<(l.length:Int):=by omega
    simp only[dnB]at g3
    by_cases hs:(l.getD j .zero).kind=1
    ·have hst:=eq_true hs
     rw[if_pos ⟨hgt,hs⟩]at g3
     simp only[d1,d2,d3,d4,hst,Tok.enc,z5,z4,zE,z6,go_sem,zg,seval,reduceIte,reduceCtorEq]
     exact⟨by omega,by omega,j,⟨by omega,by omega,g3⟩,by omega,by omega⟩
    ·have hst:=eq_false hs
     rw[if_neg (fun hh=>hs hh.2)]at g3
     simp only[d1,d2,d3,d4,hst,trV,←g3,Tok.enc,z5,z4,zE,z6,go_sem,zg,seval,reduceIte,reduceCtorEq]
     omega
   ·have d1:¬((trA l:Nat):Int)<(k:Int):=by omega
    have g4:k=trB l:=by
     rw[←g3]
     cases k with
     |zero=>rfl
     |succ j=>simp only[dnB];rw[if_neg (fun hh=>hgt hh.1)]
    simp only[d1,trV,←g4,Tok.enc,z5,z4,zE,z6,go_sem,zg,seval,reduceIte,reduceCtorEq]
def jh:Sum Tryz.prog:=⟨148,fun args=>args= [zm (zi (args.getD 0 .any)),vi 0,vi (zi (args.getD 0 .any)).length]∧((zi (args.getD 0 .any))).length≤1000000,fun args=>trV (zi (args.getD 0 .any)),fun args h=>by
 have:=zoJ (zi (args.getD 0 .any)) h.2;rwa [←h.1]at this,false⟩
theorem zg5:jh.f=148:=rfl
theorem zg4(args:List V):jh.D args=(args= [zm (zi (args.getD 0 .any)),vi 0,vi (zi (args.getD 0 .any)).length]∧((zi (args.getD 0 .any))).length≤1000000):=rfl
theorem WP:jh.flat=false:=rfl
theorem zg6(args:List V):jh.r args=trV (zi (args.getD 0 .any)):=rfl
attribute [go_sem] zg5 zg4 WP zg6
end Go.Proofs.YtlaopdfpncckeaaGreatDoor
end
section
namespace Go.Proofs.YtlaopdfpncckeaaGreatDoor
open Go.Sx
set_option linter.unusedSimpArgs false
set_option maxHeartbeats 4000000
set_option maxRecDepth 100000
def jM(l:List Tok):Prop:=l.length≤1000000∧∀t∈l,t.text.size≤1000000
def psL:List Tok→PSel→Option PSel
 | [],s=>some s
 | [_],_=>none
 |c::i::r,s=>if c.kind=14∧i.kind=2 then(match jc s (z8 i.text)with|some s'=>psL r s'|none=>none)else none
def PSel.zero:PSel:=⟨⟨#[]⟩,0,0,0,0⟩
def zf5:List Tok→Option PSel
 | []=>none
 |t::r=>if t.kind=2 then psL r ⟨t.text,0,0,0,0⟩else psL (t::r) .zero
def za6(l:List Tok):Option PSel:=zf5 (zce l)
def Yb(o:Option PSel):V:=.tup [.agg ((o.getD .zero).enc),vb o.isSome]
theorem zlL(l:List Tok):List.take (trB l - trA l) (List.drop (trA l) (l.map Tok.enc))=(zce l).map Tok.enc:=by
 unfold zce
 rw[List.map_drop,List.map_take,List.drop_take]
theorem zlM{l:List Tok}(h:jM l):jM (zce l):=by
 refine⟨by have:=h.1;unfold zce;simp;omega,fun t ht=>h.2 t (List.mem_of_mem_take (List.mem_of_mem_drop ht))⟩
structure OpS16 where
 cur:List Tok
 s:PSel
 clk:Nat
theorem XZ{s s':PSel}{w:ByteArray}{n:Int}(h:jc s w=some s')(h1:0≤s.first∧s.first≤n)(h2:0≤s.blank∧s.blank≤n)(h3:0≤s.left∧s.left≤n)(h4:0≤s.right∧s.right≤n):
 (0≤s'.first∧s'.first≤n+1)∧(0≤s'.blank∧s'.blank≤n+1)∧(0≤s'.left∧s'.left≤n+1)∧(0≤s'.right∧s'.right≤n+1):=by
 unfold jc at h
 repeat' split at h
 all_goals (first|(cases h;dsimp only;omega)|cases h)
def jW(s:PSel)(n:Int):Prop:=(0≤s.first∧s.first≤n)∧(0≤s.blank∧s.blank≤n)∧(0≤s.left∧s.left≤n)∧(0≤s.right∧s.right≤n)
theorem zjl(l:List Tok)(h:jM l):ze Tryz.prog 150 [zm l] (Yb (za6 l)):=by
 obtain⟨A,⟨a1,a2,a3,a4⟩⟩:=zrh
 refine ze.of (Orc.econs A (Orc.cons jh (Orc.nil _))) zne (by simp[zh7]) fun w0 own0=> ?_
 obtain⟨hA,hB⟩:=zlK l
 have ha0:(0:Int)≤((trA l:Nat):Int):=by omega
 have hab:((trA l:Nat):Int)≤((trB l:Nat):Int):=by omega
 have hbl:((trB l:Nat):Int)≤(l.length:Int):=by omega
 have hcut:=zlL l
 have h1:=h.1
 have hT:=zlM h
 unfold za6
 generalize hv:zce l=v at*
 match v,hT,hcut with
 | [],hT,hcut=>
   simp only[zh7,zm,zh,h1,trV,ha0,hab,hbl,hcut,PSel.enc,PSel.zero,zf5,Yb,Option.getD_none,Option.isSome_none,List.map_nil,List.length_nil,zp,zt,zQ,zS,zT,zR,qm,xe,zF,zJ,Orc.ppre_cons,Orc.pr_cons,Orc.ppre_econs,Orc.pr_econs,Orc.ppre_fcons,Orc.pr_fcons,Orc.ppre_gcons,Orc.pr_gcons,List.head?_cons,List.headD_cons,XE.val,XE.heap,efO,zw,zN,yd,V.tops,V.top1,zD,zU,Orc.flat_fcons,Orc.pre_fcons,Orc.v_fcons,Orc.hp_fcons,Orc.qpre_fcons,Orc.qv_fcons,Orc.fpre_fcons,Orc.fes_fcons,Orc.flat_gcons,Orc.pre_gcons,Orc.v_gcons,Orc.hp_gcons,Orc.qpre_gcons,Orc.qv_gcons,Orc.fpre_gcons,Orc.fes_gcons,GSum.pre,GSum.v,GSum.hp,Orc.fpre_cons,Orc.fes_cons,Orc.fpre_econs,Orc.fes_econs,FSum.pre,FSum.v,FSum.hp,qw,O.calls,List.flatMap_cons,List.flatMap_nil,List.contains_cons,List.contains_nil,Bool.not_true,Bool.not_false,Heap.freeze,List.mapIdx_cons,List.mapIdx_nil,List.elem_cons,List.elem_nil,ya,zG,evF,bne_iff_ne,ne_eq,Option.some.injEq,Orc.flat_econs,Orc.pre_econs,Orc.v_econs,Orc.hp_econs,Orc.qpre_econs,Orc.qv_econs,a1,zd,zb,za,go_sem,reduceCtorEq,reduceIte,Nat.reduceEqDiff,Nat.reduceAdd,Nat.reduceSub,Nat.reduceMul,Nat.reduceLT,Nat.reduceLeDiff,Nat.reduceBEq,Int.reduceEq,Int.reduceLT,Int.reduceLE,Int.reduceAdd,Int.reduceSub,Int.reduceNeg,Int.reduceToNat]
 |t::r,hT,hcut=>
  have q0:(((r.length+1:Nat):Int)=0)=False:=eq_false (by omega)
  have q1:(0:Int)<((r.length+1:Nat):Int):=by omega
  have q2:(1:Int)≤((r.length+1:Nat):Int):=by omega
  have q3:r.take (r.length+1 - 1)=r:=List.take_of_length_le (by omega)
  have hrl:r.length+1≤1000000:=hT.1
  generalize hR:zf5 (t::r)=R
  simp only[zf5]at hR
  by_cases k2:t.kind=2
  ·rw[if_pos k2]at hR
   have k2t:=eq_true k2
   simp only[zh7,zm,zh,h1,trV,ha0,hab,hbl,hcut,PSel.enc,PSel.zero,q0,q1,q2,q3,k2t,Int.le_refl,Tok.enc,List.map_cons,zp,zt,zQ,zS,zT,zR,qm,xe,zF,zJ,Orc.ppre_cons,Orc.pr_cons,Orc.ppre_econs,Orc.pr_econs,Orc.ppre_fcons,Orc.pr_fcons,Orc.ppre_gcons,Orc.pr_gcons,List.head?_cons,List.headD_cons,XE.val,XE.heap,efO,zw,zN,yd,V.tops,V.top1,zD,zU,Orc.flat_fcons,Orc.pre_fcons,Orc.v_fcons,Orc.hp_fcons,Orc.qpre_fcons,Orc.qv_fcons,Orc.fpre_fcons,Orc.fes_fcons,Orc.flat_gcons,Orc.pre_gcons,Orc.v_gcons,Orc.hp_gcons,Orc.qpre_gcons,Orc.qv_gcons,Orc.fpre_gcons,Orc.fes_gcons,GSum.pre,GSum.v,GSum.hp,Orc.fpre_cons,Orc.fes_cons,Orc.fpre_econs,Orc.fes_econs,FSum.pre,FSum.v,FSum.hp,qw,O.calls,List.flatMap_cons,List.flatMap_nil,List.contains_cons,List.contains_nil,Bool.not_true,Bool.not_false,Heap.freeze,List.mapIdx_cons,List.mapIdx_nil,List.elem_cons,List.elem_nil,ya,zG,evF,bne_iff_ne,ne_eq,Option.some.injEq,Orc.flat_econs,Orc.pre_econs,Orc.v_econs,Orc.hp_econs,Orc.qpre_econs,Orc.qv_econs,a1,zd,zb,za,go_sem,reduceCtorEq,reduceIte,Nat.reduceEqDiff,Nat.reduceAdd,Nat.reduceSub,Nat.reduceMul,Nat.reduceLT,Nat.reduceLeDiff,Nat.reduceBEq,Int.reduceEq,Int.reduceLT,Int.reduceLE,Int.reduceAdd,Int.reduceSub,Int.reduceNeg,Int.reduceToNat]
   refine z7.lp (α:=OpS16) (fun a=>[(0,.slc 3 (a.cur.map Tok.enc)),(2,.ptr 0 0 0 0),(6,.ptr 1 1 0 0)])
    (fun a=>⟨[⟨0,5,[PSel.zero.enc],false,[]⟩,⟨1,5,[a.s.enc],false,[]⟩],a.clk⟩) (fun a=>psL a.cur a.s=R∧jW a.s (1000000 - a.cur.length)∧a.cur.length≤1000000∧∀t∈a.cur,t.text.size≤1000000) (fun a=>a.cur.length) ⟨r,⟨t.text,0,0,0,0⟩,12⟩
    ⟨hR,by unfold jW;simp[PSel.zero];omega,by simp;omega,fun z hz=>hT.2 z (by simp[hz])⟩ (St.cut ?_ ?_ ?_) fun a ha=> ?_
   ·simp[zC,zq,zI,Tok.enc]
   ·simp[PSel.enc,PSel.zero]
   ·rfl
   obtain⟨cur,s,clk⟩:=a
   obtain⟨g1,g2,g3,g4⟩:=ha
   simp only at g1 g2 g3 g4
   cases cur with
   |nil=>
    simp only[psL]at g1
    subst g1
    simp only[PSel.enc,PSel.zero,Yb,Option.getD_some,Option.isSome_some,List.map_nil,List.length_nil,Int.lt_irrefl,zp,zt,zQ,zS,zT,zR,qm,xe,zF,zJ,Orc.ppre_cons,Orc.pr_cons,Orc.ppre_econs,Orc.pr_econs,Orc.ppre_fcons,Orc.pr_fcons,Orc.ppre_gcons,Orc.pr_gcons,List.head?_cons,List.headD_cons,XE.val,XE.heap,efO,zw,zN,yd,V.tops,V.top1,zD,zU,Orc.flat_fcons,Orc.pre_fcons,Orc.v_fcons,Orc.hp_fcons,Orc.qpre_fcons,Orc.qv_fcons,Orc.fpre_fcons,Orc.fes_fcons,Orc.flat_gcons,Orc.pre_gcons,Orc.v_gcons,Orc.hp_gcons,Orc.qpre_gcons,Orc.qv_gcons,Orc.fpre_gcons,Orc.fes_gcons,GSum.pre,GSum.v,GSum.hp,Orc.fpre_cons,Orc.fes_cons,Orc.fpre_econs,Orc.fes_econs,FSum.pre,FSum.v,FSum.hp,qw,O.calls,List.flatMap_cons,List.flatMap_nil,List.contains_cons,List.contains_nil,Bool.not_true,Bool.not_false,Heap.freeze,List.mapIdx_cons,List.mapIdx_nil,List.elem_cons,List.elem_nil,ya,zG,evF,bne_iff_ne,ne_eq,Option.some.injEq,Orc.flat_econs,Orc.pre_econs,Orc.v_econs,Orc.hp_econs,Orc.qpre_econs,Orc.qv_econs,a1,zd,zb,za,go_sem,reduceCtorEq,reduceIte,Nat.reduceEqDiff,Nat.reduceAdd,Nat.reduceSub,Nat.reduceMul,Nat.reduceLT,Nat.reduceLeDiff,Nat.reduceBEq,Int.reduceEq,Int.reduceLT,Int.reduceLE,Int.reduceAdd,Int.reduceSub,Int.reduceNeg,Int.reduceToNat]
   |cons c cur=>
    cases cur with
    |nil=>
     simp only[psL]at g1
     subst g1
     simp only[PSel.enc,PSel.zero,Tok.enc,Yb,Option.getD_none,Option.isSome_none,List.map_cons,List.map_nil,List.length_cons,List.length_nil,zp,zt,zQ,zS,zT,zR,qm,xe,zF,zJ,Orc.ppre_cons,Orc.pr_cons,Orc.ppre_econs,Orc.pr_econs,Orc.ppre_fcons,Orc.pr_fcons,Orc.ppre_gcons,Orc.pr_gcons,List.head?_cons,List.headD_cons,XE.val,XE.heap,efO,zw,zN,yd,V.tops,V.top1,zD,zU,Orc.flat_fcons,Orc.pre_fcons,Orc.v_fcons,Orc.hp_fcons,Orc.qpre_fcons,Orc.qv_fcons,Orc.fpre_fcons,Orc.fes_fcons,Orc.flat_gcons,Orc.pre_gcons,Orc.v_gcons,Orc.hp_gcons,Orc.qpre_gcons,Orc.qv_gcons,Orc.fpre_gcons,Orc.fes_gcons,GSum.pre,GSum.v,GSum.hp,Orc.fpre_cons,Orc.fes_cons,Orc.fpre_econs,Orc.fes_econs,FSum.pre,FSum.v,FSum.hp,qw,O.calls,List.flatMap_cons,List.flatMap_nil,List.contains_cons,List.contains_nil,Bool.not_true,Bool.not_false,Heap.freeze,List.mapIdx_cons,List.mapIdx_nil,List.elem_cons,List.elem_nil,ya,zG,evF,bne_iff_ne,ne_eq,Option.some.injEq,Orc.flat_econs,Orc.pre_econs,Orc.v_econs,Orc.hp_econs,Orc.qpre_econs,Orc.qv_econs,a1,zd,zb,za,go_sem,reduceCtorEq,reduceIte,Nat.reduceEqDiff,Nat.reduceAdd,Nat.reduceSub,Nat.reduceMul,Nat.reduceLT,Nat.reduceLeDiff,Nat.reduceBEq,Int.reduceEq,Int.reduceLT,Int.reduceLE,Int.reduceAdd,Int.reduceSub,Int.reduceNeg,Int.reduceToNat]
    |cons i u=>
     have p0:(0:Int)<((u.length+1+1:Nat):Int):=by omega
     have p1:(1:Int)<((u.length+1+1:Nat):Int):=by omega
     have p2:¬((u.length+1+1:Nat):Int)<2:=by omega
     have p3:(2:Int)≤((u.length+1+1:Nat):Int):=by omega
     have p4:u.take (u.length+1+1 - 2)=u:=List.take_of_length_le (by omega)
     have hiw:=g4 i (by simp)
     have hok:okB s:=by unfold jW at g2;unfold okB;simp at g2;omega
     have b2:=a2 ⟨0,5,[PSel.zero.enc],false,[]⟩ s i.text clk hok hiw
     have b3:=a3 ⟨0,5,[PSel.zero.enc],false,[]⟩ s i.text clk
     have b4:=a4 ⟨0,5,[PSel.zero.enc],false,[]⟩ s i.text clk
     simp only[PSel.enc,PSel.zero]at b2 b3 b4
     simp only[psL]at g1
     by_cases k14:c.kind=14
     ·have k14t:=eq_true k14
      by_cases ki:i.kind=2
      ·have kit:=eq_true ki
       rw[if_pos ⟨k14,ki⟩]at g1
       cases hb:jc s (z8 i.text)with
       |none=>
        rw[hb]at g1 b3 b4
        simp only at g1
        subst g1
        simp only[Option.getD_none,Option.isSome_none]at b3 b4
        simp only[p0,p1,p2,p3,p4,k14t,kit,b2,b3,b4,PSel.enc,PSel.zero,Tok.enc,Yb,Option.getD_none,Option.isSome_none,List.map_cons,zp,zt,zQ,zS,zT,zR,qm,xe,zF,zJ,Orc.ppre_cons,Orc.pr_cons,Orc.ppre_econs,Orc.pr_econs,Orc.ppre_fcons,Orc.pr_fcons,Orc.ppre_gcons,Orc.pr_gcons,List.head?_cons,List.headD_cons,XE.val,XE.heap,efO,zw,zN,yd,V.tops,V.top1,zD,zU,Orc.flat_fcons,Orc.pre_fcons,Orc.v_fcons,Orc.hp_fcons,Orc.qpre_fcons,Orc.qv_fcons,Orc.fpre_fcons,Orc.fes_fcons,Orc.flat_gcons,Orc.pre_gcons,Orc.v_gcons,Orc.hp_gcons,Orc.qpre_gcons,Orc.qv_gcons,Orc.fpre_gcons,Orc.fes_gcons,GSum.pre,GSum.v,GSum.hp,Orc.fpre_cons,Orc.fes_cons,Orc.fpre_econs,Orc.fes_econs,FSum.pre,FSum.v,FSum.hp,qw,O.calls,List.flatMap_cons,List.flatMap_nil,List.contains_cons,List.contains_nil,Bool.not_true,Bool.not_false,Heap.freeze,List.mapIdx_cons,List.mapIdx_nil,List.elem_cons,List.elem_nil,ya,zG,evF,bne_iff_ne,ne_eq,Option.some.injEq,Orc.flat_econs,Orc.pre_econs,Orc.v_econs,Orc.hp_econs,Orc.qpre_econs,Orc.qv_econs,a1,zd,zb,za,go_sem,reduceCtorEq,reduceIte,Nat.reduceEqDiff,Nat.reduceAdd,Nat.reduceSub,Nat.reduceMul,Nat.reduceLT,Nat.reduceLeDiff,Nat.reduceBEq,Int.reduceEq,Int.reduceLT,Int.reduceLE,Int.reduceAdd,Int.reduceSub,Int.reduceNeg,Int.reduceToNat]
       |some s'=>
        rw[hb]at g1 b3 b4
        simp only at g1
        simp only[Option.getD_some,Option.isSome_some]at b3 b4
        simp only[p0,p1,p2,p3,p4,k14t,kit,b2,b3,b4,PSel.enc,PSel.zero,Tok.enc,List.map_cons,zp,zt,zQ,zS,zT,zR,qm,xe,zF,zJ,Orc.ppre_cons,Orc.pr_cons,Orc.ppre_econs,Orc.pr_econs,Orc.ppre_fcons,Orc.pr_fcons,Orc.ppre_gcons,Orc.pr_gcons,List.head?_cons,List.headD_cons,XE.val,XE.heap,efO,zw,zN,yd,V.tops,V.top1,zD,zU,Orc.flat_fcons,Orc.pre_fcons,Orc.v_fcons,Orc.hp_fcons,Orc.qpre_fcons,Orc.qv_fcons,Orc.fpre_fcons,Orc.fes_fcons,Orc.flat_gcons,Orc.pre_gcons,Orc.v_gcons,Orc.hp_gcons,Orc.qpre_gcons,Orc.qv_gcons,Orc.fpre_gcons,Orc.fes_gcons,GSum.pre,GSum.v,GSum.hp,Orc.fpre_cons,Orc.fes_cons,Orc.fpre_econs,Orc.fes_econs,FSum.pre,FSum.v,FSum.hp,qw,O.calls,List.flatMap_cons,List.flatMap_nil,List.contains_cons,List.contains_nil,Bool.not_true,Bool.not_false,Heap.freeze,List.mapIdx_cons,List.mapIdx_nil,List.elem_cons,List.elem_nil,ya,zG,evF,bne_iff_ne,ne_eq,Option.some.injEq,Orc.flat_econs,Orc.pre_econs,Orc.v_econs,Orc.hp_econs,Orc.qpre_econs,Orc.qv_econs,a1,zd,zb,za,go_sem,reduceCtorEq,reduceIte,Nat.reduceEqDiff,Nat.reduceAdd,Nat.reduceSub,Nat.reduceMul,Nat.reduceLT,Nat.reduceLeDiff,Nat.reduceBEq,Int.reduceEq,Int.reduceLT,Int.reduceLE,Int.reduceAdd,Int.reduceSub,Int.reduceNeg,Int.reduceToNat]
        have hbk:=XZ hb g2.1 g2.2.1 g2.2.2.1 g2.2.2.2
        exact⟨Int.le_refl _,⟨u,s',clk⟩,⟨g1,by unfold jW;simp at hbk ⊢;omega,by simp at g3;dsimp only;omega,fun t ht=>g4 t (by simp[ht])⟩,by dsimp only;omega,rfl,⟨rfl,rfl,rfl,rfl,rfl⟩,rfl⟩
      ·have kit:=eq_false ki
       rw[if_neg (fun hh=>ki hh.2)]at g1
       subst g1
       simp only[p0,p1,p2,k14t,kit,PSel.enc,PSel.zero,Tok.enc,Yb,Option.getD_none,Option.isSome_none,List.map_cons,zp,zt,zQ,zS,zT,zR,qm,xe,zF,zJ,Orc.ppre_cons,Orc.pr_cons,Orc.ppre_econs,Orc.pr_econs,Orc.ppre_fcons,Orc.pr_fcons,Orc.ppre_gcons,Orc.pr_gcons,List.head?_cons,List.headD_cons,XE.val,XE.heap,efO,zw,zN,yd,V.tops,V.top1,zD,zU,Orc.flat_fcons,Orc.pre_fcons,Orc.v_fcons,Orc.hp_fcons,Orc.qpre_fcons,Orc.qv_fcons,Orc.fpre_fcons,Orc.fes_fcons,Orc.flat_gcons,Orc.pre_gcons,Orc.v_gcons,Orc.hp_gcons,Orc.qpre_gcons,Orc.qv_gcons,Orc.fpre_gcons,Orc.fes_gcons,GSum.pre,GSum.v,GSum.hp,Orc.fpre_cons,Orc.fes_cons,Orc.fpre_econs,Orc.fes_econs,FSum.pre,FSum.v,FSum.hp,qw,O.calls,List.flatMap_cons,List.flatMap_nil,List.contains_cons,List.contains_nil,Bool.not_true,Bool.not_false,Heap.freeze,List.mapIdx_cons,List.mapIdx_nil,List.elem_cons,List.elem_nil,ya,zG,evF,bne_iff_ne,ne_eq,Option.some.injEq,Orc.flat_econs,Orc.pre_econs,Orc.v_econs,Orc.hp_econs,Orc.qpre_econs,Orc.qv_econs,a1,zd,zb,za,go_sem,reduceCtorEq,reduceIte,Nat.reduceEqDiff,Nat.reduceAdd,Nat.reduceSub,Nat.reduceMul,Nat.reduceLT,Nat.reduceLeDiff,Nat.reduceBEq,Int.reduceEq,Int.reduceLT,Int.reduceLE,Int.reduceAdd,Int.reduceSub,Int.reduceNeg,Int.reduceToNat]
     ·have k14t:=eq_false k14
      rw[if_neg (fun hh=>k14 hh.1)]at g1
      subst g1
      simp only[p0,p1,p2,k14t,PSel.enc,PSel.zero,Tok.enc,Yb,Option.getD_none,Option.isSome_none,List.map_cons,zp,zt,zQ,zS,zT,zR,qm,xe,zF,zJ,Orc.ppre_cons,Orc.pr_cons,Orc.ppre_econs,Orc.pr_econs,Orc.ppre_fcons,Orc.pr_fcons,Orc.ppre_gcons,Orc.pr_gcons,List.head?_cons,List.headD_cons,XE.val,XE.heap,efO,zw,zN,yd,V.tops,V.top1,zD,zU,Orc.flat_fcons,Orc.pre_fcons,Orc.v_fcons,Orc.hp_fcons,Orc.qpre_fcons,Orc.qv_fcons,Orc.fpre_fcons,Orc.fes_fcons,Orc.flat_gcons,Orc.pre_gcons,Orc.v_gcons,Orc.hp_gcons,Orc.qpre_gcons,Orc.qv_gcons,Orc.fpre_gcons,Orc.fes_gcons,GSum.pre,GSum.v,GSum.hp,Orc.fpre_cons,Orc.fes_cons,Orc.fpre_econs,Orc.fes_econs,FSum.pre,FSum.v,FSum.hp,qw,O.calls,List.flatMap_cons,List.flatMap_nil,List.contains_cons,List.contains_nil,Bool.not_true,Bool.not_false,Heap.freeze,List.mapIdx_cons,List.mapIdx_nil,List.elem_cons,List.elem_nil,ya,zG,evF,bne_iff_ne,ne_eq,Option.some.injEq,Orc.flat_econs,Orc.pre_econs,Orc.v_econs,Orc.hp_econs,Orc.qpre_econs,Orc.qv_econs,a1,zd,zb,za,go_sem,reduceCtorEq,reduceIte,Nat.reduceEqDiff,Nat.reduceAdd,Nat.reduceSub,Nat.reduceMul,Nat.reduceLT,Nat.reduceLeDiff,Nat.reduceBEq,Int.reduceEq,Int.reduceLT,Int.reduceLE,Int.reduceAdd,Int.reduceSub,Int.reduceNeg,Int.reduceToNat]
  ·rw[if_neg k2]at hR
   have k2t:=eq_false k2
   simp only[zh7,zm,zh,h1,trV,ha0,hab,hbl,hcut,PSel.enc,PSel.zero,q0,q1,q2,q3,k2t,Int.le_refl,Tok.enc,List.map_cons,zp,zt,zQ,zS,zT,zR,qm,xe,zF,zJ,Orc.ppre_cons,Orc.pr_cons,Orc.ppre_econs,Orc.pr_econs,Orc.ppre_fcons,Orc.pr_fcons,Orc.ppre_gcons,Orc.pr_gcons,List.head?_cons,List.headD_cons,XE.val,XE.heap,efO,zw,zN,yd,V.tops,V.top1,zD,zU,Orc.flat_fcons,Orc.pre_fcons,Orc.v_fcons,Orc.hp_fcons,Orc.qpre_fcons,Orc.qv_fcons,Orc.fpre_fcons,Orc.fes_fcons,Orc.flat_gcons,Orc.pre_gcons,Orc.v_gcons,Orc.hp_gcons,Orc.qpre_gcons,Orc.qv_gcons,Orc.fpre_gcons,Orc.fes_gcons,GSum.pre,GSum.v,GSum.hp,Orc.fpre_cons,Orc.fes_cons,Orc.fpre_econs,Orc.fes_econs,FSum.pre,FSum.v,FSum.hp,qw,O.calls,List.flatMap_cons,List.flatMap_nil,List.contains_cons,List.contains_nil,Bool.not_true,Bool.not_false,Heap.freeze,List.mapIdx_cons,List.mapIdx_nil,List.elem_cons,List.elem_nil,ya,zG,evF,bne_iff_ne,ne_eq,Option.some.injEq,Orc.flat_econs,Orc.pre_econs,Orc.v_econs,Orc.hp_econs,Orc.qpre_econs,Orc.qv_econs,a1,zd,zb,za,go_sem,reduceCtorEq,reduceIte,Nat.reduceEqDiff,Nat.reduceAdd,Nat.reduceSub,Nat.reduceMul,Nat.reduceLT,Nat.reduceLeDiff,Nat.reduceBEq,Int.reduceEq,Int.reduceLT,Int.reduceLE,Int.reduceAdd,Int.reduceSub,Int.reduceNeg,Int.reduceToNat]
   refine z7.lp (α:=OpS16) (fun a=>[(0,.slc 3 (a.cur.map Tok.enc)),(2,.ptr 0 0 0 0),(6,.ptr 1 1 0 0)])
    (fun a=>⟨[⟨0,5,[PSel.zero.enc],false,[]⟩,⟨1,5,[a.s.enc],false,[]⟩],a.clk⟩) (fun a=>psL a.cur a.s=R∧jW a.s (1000000 - a.cur.length)∧a.cur.length≤1000000∧∀t∈a.cur,t.text.size≤1000000) (fun a=>a.cur.length) ⟨t::r,.zero,2⟩
    ⟨hR,by unfold jW;simp[PSel.zero];omega,by simp;omega,hT.2⟩ (St.cut ?_ ?_ ?_) fun a ha=> ?_
   ·simp[zC,zq,zI,Tok.enc]
   ·simp[PSel.enc,PSel.zero]
   ·rfl
   obtain⟨cur,s,clk⟩:=a
   obtain⟨g1,g2,g3,g4⟩:=ha
   simp only at g1 g2 g3 g4
   cases cur with
   |nil=>
    simp only[psL]at g1
    subst g1
    simp only[PSel.enc,PSel.zero,Yb,Option.getD_some,Option.isSome_some,List.map_nil,List.length_nil,Int.lt_irrefl,zp,zt,zQ,zS,zT,zR,qm,xe,zF,zJ,Orc.ppre_cons,Orc.pr_cons,Orc.ppre_econs,Orc.pr_econs,Orc.ppre_fcons,Orc.pr_fcons,Orc.ppre_gcons,Orc.pr_gcons,List.head?_cons,List.headD_cons,XE.val,XE.heap,efO,zw,zN,yd,V.tops,V.top1,zD,zU,Orc.flat_fcons,Orc.pre_fcons,Orc.v_fcons,Orc.hp_fcons,Orc.qpre_fcons,Orc.qv_fcons,Orc.fpre_fcons,Orc.fes_fcons,Orc.flat_gcons,Orc.pre_gcons,Orc.v_gcons,Orc.hp_gcons,Orc.qpre_gcons,Orc.qv_gcons,Orc.fpre_gcons,Orc.fes_gcons,GSum.pre,GSum.v,GSum.hp,Orc.fpre_cons,Orc.fes_cons,Orc.fpre_econs,Orc.fes_econs,FSum.pre,FSum.v,FSum.hp,qw,O.calls,List.flatMap_cons,List.flatMap_nil,List.contains_cons,List.contains_nil,Bool.not_true,Bool.not_false,Heap.freeze,List.mapIdx_cons,List.mapIdx_nil,List.elem_cons,List.elem_nil,ya,zG,evF,bne_iff_ne,ne_eq,Option.some.injEq,Orc.flat_econs,Orc.pre_econs,Orc.v_econs,Orc.hp_econs,Orc.qpre_econs,Orc.qv_econs,a1,zd,zb,za,go_sem,reduceCtorEq,reduceIte,Nat.reduceEqDiff,Nat.reduceAdd,Nat.reduceSub,Nat.reduceMul,Nat.reduceLT,Nat.reduceLeDiff,Nat.reduceBEq,Int.reduceEq,Int.reduceLT,Int.reduceLE,Int.reduceAdd,Int.reduceSub,Int.reduceNeg,Int.reduceToNat]
   |cons c cur=>
    cases cur with
    |nil=>
     simp only[psL]at g1
     subst g1
     simp only[PSel.enc,PSel.zero,Tok.enc,Yb,Option.getD_none,Option.isSome_none,List.map_cons,List.map_nil,List.length_cons,List.length_nil,zp,zt,zQ,zS,zT,zR,qm,xe,zF,zJ,Orc.ppre_cons,Orc.pr_cons,Orc.ppre_econs,Orc.pr_econs,Orc.ppre_fcons,Orc.pr_fcons,Orc.ppre_gcons,Orc.pr_gcons,List.head?_cons,List.headD_cons,XE.val,XE.heap,efO,zw,zN,yd,V.tops,V.top1,zD,zU,Orc.flat_fcons,Orc.pre_fcons,Orc.v_fcons,Orc.hp_fcons,Orc.qpre_fcons,Orc.qv_fcons,Orc.fpre_fcons,Orc.fes_fcons,Orc.flat_gcons,Orc.pre_gcons,Orc.v_gcons,Orc.hp_gcons,Orc.qpre_gcons,Orc.qv_gcons,Orc.fpre_gcons,Orc.fes_gcons,GSum.pre,GSum.v,GSum.hp,Orc.fpre_cons,Orc.fes_cons,Orc.fpre_econs,Orc.fes_econs,FSum.pre,FSum.v,FSum.hp,qw,O.calls,List.flatMap_cons,List.flatMap_nil,List.contains_cons,List.contains_nil,Bool.not_true,Bool.not_false,Heap.freeze,List.mapIdx_cons,List.mapIdx_nil,List.elem_cons,List.elem_nil,ya,zG,evF,bne_iff_ne,ne_eq,Option.some.injEq,Orc.flat_econs,Orc.pre_econs,Orc.v_econs,Orc.hp_econs,Orc.qpre_econs,Orc.qv_econs,a1,zd,zb,za,go_sem,reduceCtorEq,reduceIte,Nat.reduceEqDiff,Nat.reduceAdd,Nat.reduceSub,Nat.reduceMul,Nat.reduceLT,Nat.reduceLeDiff,Nat.reduceBEq,Int.reduceEq,Int.reduceLT,Int.reduceLE,Int.reduceAdd,Int.reduceSub,Int.reduceNeg,Int.reduceToNat]
    |cons i u=>
     have p0:(0:Int)<((u.length+1+1:Nat):Int):=by omega
     have p1:(1:Int)<((u.length+1+1:Nat):Int):=by omega
     have p2:¬((u.length+1+1:Nat):Int)<2:=by omega
     have p3:(2:Int)≤((u.length+1+1:Nat):Int):=by omega
     have p4:u.take (u.length+1+1 - 2)=u:=List.take_of_length_le (by omega)
     have hiw:=g4 i (by simp)
     have hok:okB s:=by unfold jW at g2;unfold okB;simp at g2;omega
     have b2:=a2 ⟨0,5,[PSel.zero.enc],false,[]⟩ s i.text clk hok hiw
     have b3:=a3 ⟨0,5,[PSel.zero.enc],false,[]⟩ s i.text clk
     have b4:=a4 ⟨0,5,[PSel.zero.enc],false,[]⟩ s i.text clk
     simp only[PSel.enc,PSel.zero]at b2 b3 b4
     simp only[psL]at g1
     by_cases k14:c.kind=14
     ·have k14t:=eq_true k14
      by_cases ki:i.kind=2
      ·have kit:=eq_true ki
       rw[if_pos ⟨k14,ki⟩]at g1
       cases hb:jc s (z8 i.text)with
       |none=>
        rw[hb]at g1 b3 b4
        simp only at g1
        subst g1
        simp only[Option.getD_none,Option.isSome_none]at b3 b4
        simp only[p0,p1,p2,p3,p4,k14t,kit,b2,b3,b4,PSel.enc,PSel.zero,Tok.enc,Yb,Option.getD_none,Option.isSome_none,List.map_cons,zp,zt,zQ,zS,zT,zR,qm,xe,zF,zJ,Orc.ppre_cons,Orc.pr_cons,Orc.ppre_econs,Orc.pr_econs,Orc.ppre_fcons,Orc.pr_fcons,Orc.ppre_gcons,Orc.pr_gcons,List.head?_cons,List.headD_cons,XE.val,XE.heap,efO,zw,zN,yd,V.tops,V.top1,zD,zU,Orc.flat_fcons,Orc.pre_fcons,Orc.v_fcons,Orc.hp_fcons,Orc.qpre_fcons,Orc.qv_fcons,Orc.fpre_fcons,Orc.fes_fcons,Orc.flat_gcons,Orc.pre_gcons,Orc.v_gcons,Orc.hp_gcons,Orc.qpre_gcons,Orc.qv_gcons,Orc.fpre_gcons,Orc.fes_gcons,GSum.pre,GSum.v,GSum.hp,Orc.fpre_cons,Orc.fes_cons,Orc.fpre_econs,Orc.fes_econs,FSum.pre,FSum.v,FSum.hp,qw,O.calls,List.flatMap_cons,List.flatMap_nil,List.contains_cons,List.contains_nil,Bool.not_true,Bool.not_false,Heap.freeze,List.mapIdx_cons,List.mapIdx_nil,List.elem_cons,List.elem_nil,ya,zG,evF,bne_iff_ne,ne_eq,Option.some.injEq,Orc.flat_econs,Orc.pre_econs,Orc.v_econs,Orc.hp_econs,Orc.qpre_econs,Orc.qv_econs,a1,zd,zb,za,go_sem,reduceCtorEq,reduceIte,Nat.reduceEqDiff,Nat.reduceAdd,Nat.reduceSub,Nat.reduceMul,Nat.reduceLT,Nat.reduceLeDiff,Nat.reduceBEq,Int.reduceEq,Int.reduceLT,Int.reduceLE,Int.reduceAdd,Int.reduceSub,Int.reduceNeg,Int.reduceToNat]
       |some s'=>
        rw[hb]at g1 b3 b4
        simp only at g1
        simp only[Option.getD_some,Option.isSome_some]at b3 b4
        simp only[p0,p1,p2,p3,p4,k14t,kit,b2,b3,b4,PSel.enc,PSel.zero,Tok.enc,List.map_cons,zp,zt,zQ,zS,zT,zR,qm,xe,zF,zJ,Orc.ppre_cons,Orc.pr_cons,Orc.ppre_econs,Orc.pr_econs,Orc.ppre_fcons,Orc.pr_fcons,Orc.ppre_gcons,Orc.pr_gcons,List.head?_cons,List.headD_cons,XE.val,XE.heap,efO,zw,zN,yd,V.tops,V.top1,zD,zU,Orc.flat_fcons,Orc.pre_fcons,Orc.v_fcons,Orc.hp_fcons,Orc.qpre_fcons,Orc.qv_fcons,Orc.fpre_fcons,Orc.fes_fcons,Orc.flat_gcons,Orc.pre_gcons,Orc.v_gcons,Orc.hp_gcons,Orc.qpre_gcons,Orc.qv_gcons,Orc.fpre_gcons,Orc.fes_gcons,GSum.pre,GSum.v,GSum.hp,Orc.fpre_cons,Orc.fes_cons,Orc.fpre_econs,Orc.fes_econs,FSum.pre,FSum.v,FSum.hp,qw,O.calls,List.flatMap_cons,List.flatMap_nil,List.contains_cons,List.contains_nil,Bool.not_true,Bool.not_false,Heap.freeze,List.mapIdx_cons,List.mapIdx_nil,List.elem_cons,List.elem_nil,ya,zG,evF,bne_iff_ne,ne_eq,Option.some.injEq,Orc.flat_econs,Orc.pre_econs,Orc.v_econs,Orc.hp_econs,Orc.qpre_econs,Orc.qv_econs,a1,zd,zb,za,go_sem,reduceCtorEq,reduceIte,Nat.reduceEqDiff,Nat.reduceAdd,Nat.reduceSub,Nat.reduceMul,Nat.reduceLT,Nat.reduceLeDiff,Nat.reduceBEq,Int.reduceEq,Int.reduceLT,Int.reduceLE,Int.reduceAdd,Int.reduceSub,Int.reduceNeg,Int.reduceToNat]
        have hbk:=XZ hb g2.1 g2.2.1 g2.2.2.1 g2.2.2.2
        exact⟨Int.le_refl _,⟨u,s',clk⟩,⟨g1,by unfold jW;simp at hbk ⊢;omega,by simp at g3;dsimp only;omega,fun t ht=>g4 t (by simp[ht])⟩,by dsimp only;omega,rfl,⟨rfl,rfl,rfl,rfl,rfl⟩,rfl⟩
      ·have kit:=eq_false ki
       rw[if_neg (fun hh=>ki hh.2)]at g1
       subst g1
       simp only[p0,p1,p2,k14t,kit,PSel.enc,PSel.zero,Tok.enc,Yb,Option.getD_none,Option.isSome_none,List.map_cons,zp,zt,zQ,zS,zT,zR,qm,xe,zF,zJ,Orc.ppre_cons,Orc.pr_cons,Orc.ppre_econs,Orc.pr_econs,Orc.ppre_fcons,Orc.pr_fcons,Orc.ppre_gcons,Orc.pr_gcons,List.head?_cons,List.headD_cons,XE.val,XE.heap,efO,zw,zN,yd,V.tops,V.top1,zD,zU,Orc.flat_fcons,Orc.pre_fcons,Orc.v_fcons,Orc.hp_fcons,Orc.qpre_fcons,Orc.qv_fcons,Orc.fpre_fcons,Orc.fes_fcons,Orc.flat_gcons,Orc.pre_gcons,Orc.v_gcons,Orc.hp_gcons,Orc.qpre_gcons,Orc.qv_gcons,Orc.fpre_gcons,Orc.fes_gcons,GSum.pre,GSum.v,GSum.hp,Orc.fpre_cons,Orc.fes_cons,Orc.fpre_econs,Orc.fes_econs,FSum.pre,FSum.v,FSum.hp,qw,O.calls,List.flatMap_cons,List.flatMap_nil,List.contains_cons,List.contains_nil,Bool.not_true,Bool.not_false,Heap.freeze,List.mapIdx_cons,List.mapIdx_nil,List.elem_cons,List.elem_nil,ya,zG,evF,bne_iff_ne,ne_eq,Option.some.injEq,Orc.flat_econs,Orc.pre_econs,Orc.v_econs,Orc.hp_econs,Orc.qpre_econs,Orc.qv_econs,a1,zd,zb,za,go_sem,reduceCtorEq,reduceIte,Nat.reduceEqDiff,Nat.reduceAdd,Nat.reduceSub,Nat.reduceMul,Nat.reduceLT,Nat.reduceLeDiff,Nat.reduceBEq,Int.reduceEq,Int.reduceLT,Int.reduceLE,Int.reduceAdd,Int.reduceSub,Int.reduceNeg,Int.reduceToNat]
     ·have k14t:=eq_false k14
      rw[if_neg (fun hh=>k14 hh.1)]at g1
      subst g1
      simp only[p0,p1,p2,k14t,PSel.enc,PSel.zero,Tok.enc,Yb,Option.getD_none,Option.isSome_none,List.map_cons,zp,zt,zQ,zS,zT,zR,qm,xe,zF,zJ,Orc.ppre_cons,Orc.pr_cons,Orc.ppre_econs,Orc.pr_econs,Orc.ppre_fcons,Orc.pr_fcons,Orc.ppre_gcons,Orc.pr_gcons,List.head?_cons,List.headD_cons,XE.val,XE.heap,efO,zw,zN,yd,V.tops,V.top1,zD,zU,Orc.flat_fcons,Orc.pre_fcons,Orc.v_fcons,Orc.hp_fcons,Orc.qpre_fcons,Orc.qv_fcons,Orc.fpre_fcons,Orc.fes_fcons,Orc.flat_gcons,Orc.pre_gcons,Orc.v_gcons,Orc.hp_gcons,Orc.qpre_gcons,Orc.qv_gcons,Orc.fpre_gcons,Orc.fes_gcons,GSum.pre,GSum.v,GSum.hp,Orc.fpre_cons,Orc.fes_cons,Orc.fpre_econs,Orc.fes_econs,FSum.pre,FSum.v,FSum.hp,qw,O.calls,List.flatMap_cons,List.flatMap_nil,List.contains_cons,List.contains_nil,Bool.not_true,Bool.not_false,Heap.freeze,List.mapIdx_cons,List.mapIdx_nil,List.elem_cons,List.elem_nil,ya,zG,evF,bne_iff_ne,ne_eq,Option.some.injEq,Orc.flat_econs,Orc.pre_econs,Orc.v_econs,Orc.hp_econs,Orc.qpre_econs,Orc.qv_econs,a1,zd,zb,za,go_sem,reduceCtorEq,reduceIte,Nat.reduceEqDiff,Nat.reduceAdd,Nat.reduceSub,Nat.reduceMul,Nat.reduceLT,Nat.reduceLeDiff,Nat.reduceBEq,Int.reduceEq,Int.reduceLT,Int.reduceLE,Int.reduceAdd,Int.reduceSub,Int.reduceNeg,Int.reduceToNat]
def Zg:Sum Tryz.prog:=⟨150,fun args=>args= [zm (zi (args.getD 0 .any))]∧jM (zi (args.getD 0 .any)),fun args=>Yb (za6 (zi (args.getD 0 .any))),fun args h=>by
 have:=zjl (zi (args.getD 0 .any)) h.2;rwa [←h.1]at this,false⟩
theorem zgZ:Zg.f=150:=rfl
theorem zgY(args:List V):Zg.D args=(args= [zm (zi (args.getD 0 .any))]∧jM (zi (args.getD 0 .any))):=rfl
theorem WN:Zg.flat=false:=rfl
theorem zg0(args:List V):Zg.r args=Yb (za6 (zi (args.getD 0 .any))):=rfl
attribute [go_sem] zgZ zgY WN zg0
end Go.Proofs.YtlaopdfpncckeaaGreatDoor
end
section
namespace Go.Proofs.YtlaopdfpncckeaaGreatDoor
open Go.Sx
set_option linter.unusedSimpArgs false
set_option maxHeartbeats 8000000
set_option maxRecDepth 100000
structure OrS16 where
 a:Nat
 s:PSel
 clk:Nat
end Go.Proofs.YtlaopdfpncckeaaGreatDoor
end
section
namespace Go.Proofs.YtlaopdfpncckeaaGreatDoor
open Go.Sx
set_option linter.unusedSimpArgs false
set_option maxHeartbeats 4000000
set_option maxRecDepth 20000
theorem zjt{l:List Tok}(hd:yf l=false):∀(f:Nat)(k:Nat),∀x∈plR (zA l) l.length f k,(k:Int)≤x
 |0,k,x,hx=>by simp[plR]at hx
 |f+1,k,x,hx=>by
  simp only[plR]at hx
  split at hx
  ·rename_i h
   rcases List.mem_cons.1 hx with rfl|hx
   ·exact Int.le_refl _
   ·obtain⟨n,hn1,hn2,_⟩:=kT hd k (by omega)
    rw[hn1]at hx
    have:=zjt hd f n x hx
    omega
  ·cases hx
theorem zju{l:List Tok}(hd:yf l=false):∀(f:Nat)(k:Nat),(plR (zA l) l.length f k).Pairwise (· < ·)
 |0,k=>by simp[plR]
 |f+1,k=>by
  simp only[plR]
  split
  ·rename_i h
   obtain⟨n,hn1,hn2,_⟩:=kT hd k (by omega)
   rw[hn1]
   refine List.pairwise_cons.2 ⟨fun x hx=> ?_,zju hd f n⟩
   have:=zjt hd f n x hx
   omega
  ·exact List.Pairwise.nil
structure SnS where
 k:Nat
 b:Int
 out:List (Int×Int)
 ver:Nat
 clk:Nat
end Go.Proofs.YtlaopdfpncckeaaGreatDoor
end
section
namespace Go.Proofs.YtlaopdfpncckeaaGreatDoor
open Go.Sx
set_option linter.unusedSimpArgs false
set_option maxHeartbeats 8000000
set_option maxRecDepth 100000
def Yc(l:List Tok):List (Int×Int)→Option (List PSel)
 | []=>some []
 |p::ps=>match za6 ((l.take p.2.toNat).drop p.1.toNat)with|none=>none|some s=>(Yc l ps).map (s:: ·)
def psO(l:List Tok):Option (List PSel):=if yf l=true then none else if trA l=trB l then some [.zero]else Yc l (zbt l)
def psR:Option (List PSel)→V
 |none=>.tup [zL,vb false]
 |some xs=>.tup [ZJ xs,vb true]
def psV(o:Option (List PSel)):V:=.tup [ZJ (o.getD []),vb o.isSome]
theorem zod(o:Option (List PSel)){f:FuncId}{args:List V}(h:ze Tryz.prog f args (psR o)):ze Tryz.prog f args (psV o):=by
 cases o with
 |some l=>exact h
 |none=>
  refine ze.rsub h fun F w v hp=> ?_
  cases hp with
  |tup cs _ hl hx=>
   refine .tup cs _ hl fun i hi=> ?_
   have:=hx i hi
   match i,hi with
   |0,_=>exact PRep.nilS 5 this
   |1,_=>exact this
theorem Wx(l:List Tok):∀(ps:List Int)(b:Int),0≤b→b≤l.length→ps.Pairwise (· < ·)→(∀p∈ps,b≤p∧p<l.length)→∀q∈rsK l 16 l.length b ps,0≤q.1∧q.1≤q.2∧q.2≤l.length
 | [],b,h0,h1,_,_,q,hq=>by simp only[rsK,List.mem_singleton]at hq;subst hq;exact⟨h0,h1,Int.le_refl _⟩
 |p::ps,b,h0,h1,hw,hm,q,hq=>by
  obtain⟨hw1,hw2⟩:=List.pairwise_cons.1 hw
  have hp:=hm p (by simp)
  simp only[rsK]at hq
  split at hq
  ·rcases List.mem_cons.1 hq with rfl|hq
   ·exact⟨h0,hp.1,by dsimp only;omega⟩
   ·exact Wx l ps (p+1) (by omega) (by omega) hw2 (fun x hx=>⟨by have:=hw1 x hx;omega,(hm x (by simp[hx])).2⟩) q hq
  ·exact Wx l ps b h0 h1 hw2 (fun x hx=>hm x (by simp[hx])) q hq
theorem Ww(l:List Tok)(to:Int):∀(ps:List Int)(b:Int),(rsK l 16 to b ps).length≤ps.length+1
 | [],b=>by simp[rsK]
 |p::ps,b=>by
  simp only[rsK]
  split
  ·have:=Ww l to ps (p+1);simp;omega
  ·have:=Ww l to ps b;simp;omega
theorem Jm{l:List Tok}(hd:yf l=false):(zbt l).length≤l.length+1∧∀q∈zbt l,0≤q.1∧q.1≤q.2∧q.2≤l.length:=by
 have hmem:=zeI hd (l.length+1) 0
 have hpw:=zju hd (l.length+1) 0
 have hln:=zeH hd (l.length+1) 0 (Nat.zero_le _)
 rw[show((0:Nat):Int)=0 from rfl]at hmem hpw hln
 rw[zov hd]
 exact⟨by have:=Ww l l.length (plR (zA l) l.length (l.length+1) 0) 0;omega,Wx l _ 0 (Int.le_refl _) (by omega) hpw hmem⟩
theorem zf3{l:List Tok}(h:jM l)(a b:Nat):jM ((l.take b).drop a):=⟨by have:=h.1;simp;omega,fun t ht=>h.2 t (List.mem_of_mem_take (List.mem_of_mem_drop ht))⟩
theorem J9(S:Nat→Bool)(h:Heap)(l:List PSel):zK (zK (res S h 11)) (l.map PSel.enc)=some (l.map PSel.enc):=qa S h 10 _ (fun _=>rfl) l
theorem J8(S:Nat→Bool)(h:Heap)(l:List PSel):zK (zK (res S h 10)) (l.map PSel.enc)=some (l.map PSel.enc):=qa S h 9 _ (fun _=>rfl) l
theorem zgb(l:List Tok)(P:List (Int×Int))(k:Nat)(h:k<P.length):Yc l (P.drop k)=match za6 ((l.take (P.getD k (0,0)).2.toNat).drop (P.getD k (0,0)).1.toNat)with|none=>none|some s=>(Yc l (P.drop (k+1))).map (s:: ·):=by
 rw[List.drop_eq_getElem_cons h,List.getD_eq_getElem?_getD,List.getElem?_eq_getElem h];rfl
theorem zcT(l:List (Int×Int))(i:Nat):(l.map fun p=>[vi p.1,vi p.2]).getD i [vi 0,vi 0]= [vi (l.getD i (0,0)).1,vi (l.getD i (0,0)).2]:=by
 have:[vi 0,vi 0]=(fun p:Int×Int=>[vi p.1,vi p.2]) (0,0):=rfl
 rw[this]
 simp only[List.getD_eq_getElem?_getD,List.getElem?_map]
 cases l[i]? <;>rfl
structure QrS where
 k:Nat
 out:List PSel
 ver:Nat
 clk:Nat
theorem zjp(l:List Tok)(h:jM l):ze Tryz.prog 126 [zm l] (psV (psO l)):=by
 have h1:=h.1
 refine zod _ ?_
 unfold psO
 cases hd:yf l with
 |true=>
  rw[if_pos rfl]
  have he:Kd l=3:=by unfold Kd;rw[if_pos hd]
  refine ze.of (Orc.cons Qh (Orc.cons jh (Orc.cons kW (Orc.cons Zg (Orc.nil _))))) X2 (by simp[zcF]) fun w0 own0=> ?_
  simp only[zcF,zm,ye,KK,KL,zh,yh,h1,he,psR,zp,zt,zQ,zS,zT,zR,qm,xe,zF,zJ,Orc.ppre_cons,Orc.pr_cons,Orc.ppre_econs,Orc.pr_econs,Orc.ppre_fcons,Orc.pr_fcons,Orc.ppre_gcons,Orc.pr_gcons,List.head?_cons,List.headD_cons,XE.val,XE.heap,efO,zw,zN,yd,V.tops,V.top1,zD,zU,Orc.flat_fcons,Orc.pre_fcons,Orc.v_fcons,Orc.hp_fcons,Orc.qpre_fcons,Orc.qv_fcons,Orc.fpre_fcons,Orc.fes_fcons,Orc.flat_gcons,Orc.pre_gcons,Orc.v_gcons,Orc.hp_gcons,Orc.qpre_gcons,Orc.qv_gcons,Orc.fpre_gcons,Orc.fes_gcons,GSum.pre,GSum.v,GSum.hp,Orc.fpre_cons,Orc.fes_cons,Orc.fpre_econs,Orc.fes_econs,FSum.pre,FSum.v,FSum.hp,qw,O.calls,List.flatMap_cons,List.flatMap_nil,List.contains_cons,List.contains_nil,Bool.not_true,Bool.not_false,Heap.freeze,List.mapIdx_cons,List.mapIdx_nil,List.elem_cons,List.elem_nil,ya,zG,evF,bne_iff_ne,ne_eq,Option.some.injEq,zd,zb,za,yX,yW,yg,yY,qU,qT,yQ,qW,go_sem,seval,reduceIte,reduceCtorEq]
 |false=>
 rw[if_neg (by simp)]
 have he:Kd l=0:=by unfold Kd;rw[hd];rfl
 have htv:trV l= .tup [vi (trA l),vi (trB l)]:=rfl
 by_cases hab:trA l=trB l
 ·rw[if_pos hab]
  have q0:(((trA l:Nat):Int)=((trB l:Nat):Int))=True:=eq_true (by omega)
  refine ze.of (Orc.cons Qh (Orc.cons jh (Orc.cons kW (Orc.cons Zg (Orc.nil _))))) X2 (by simp[zcF]) fun w0 own0=> ?_
  simp only[zcF,zm,ye,KK,KL,zh,yh,h1,he,htv,q0,psR,ZJ,PSel.enc,PSel.zero,List.map_cons,List.map_nil,zp,zt,zQ,zS,zT,zR,qm,xe,zF,zJ,Orc.ppre_cons,Orc.pr_cons,Orc.ppre_econs,Orc.pr_econs,Orc.ppre_fcons,Orc.pr_fcons,Orc.ppre_gcons,Orc.pr_gcons,List.head?_cons,List.headD_cons,XE.val,XE.heap,efO,zw,zN,yd,V.tops,V.top1,zD,zU,Orc.flat_fcons,Orc.pre_fcons,Orc.v_fcons,Orc.hp_fcons,Orc.qpre_fcons,Orc.qv_fcons,Orc.fpre_fcons,Orc.fes_fcons,Orc.flat_gcons,Orc.pre_gcons,Orc.v_gcons,Orc.hp_gcons,Orc.qpre_gcons,Orc.qv_gcons,Orc.fpre_gcons,Orc.fes_gcons,GSum.pre,GSum.v,GSum.hp,Orc.fpre_cons,Orc.fes_cons,Orc.fpre_econs,Orc.fes_econs,FSum.pre,FSum.v,FSum.hp,qw,O.calls,List.flatMap_cons,List.flatMap_nil,List.contains_cons,List.contains_nil,Bool.not_true,Bool.not_false,Heap.freeze,List.mapIdx_cons,List.mapIdx_nil,List.elem_cons,List.elem_nil,ya,zG,evF,bne_iff_ne,ne_eq,Option.some.injEq,zd,zb,za,yX,yW,yg,yY,qU,qT,yQ,qW,go_sem,seval,reduceIte,reduceCtorEq]
 ·rw[if_neg hab]
  have q0:(((trA l:Nat):Int)=((trB l:Nat):Int))=False:=eq_false (by omega)
  have hsp:=zfZ hd
  obtain⟨hPl,hPr⟩:=Jm hd
  have hfd:zaC l (zA l):=⟨h1,fun i=>by have:=zax l i;omega⟩
  generalize hP:zbt l=P at*
  generalize hR:Yc l P=R
  refine ze.of (Orc.cons Qh (Orc.cons jh (Orc.cons kW (Orc.cons Zg (Orc.nil _))))) X2 (by simp[zcF]) fun w0 own0=> ?_
  simp only[zcF,zm,ye,KK,KL,zh,yh,h1,he,htv,q0,hfd,hsp,prs,zp,zt,zQ,zS,zT,zR,qm,xe,zF,zJ,Orc.ppre_cons,Orc.pr_cons,Orc.ppre_econs,Orc.pr_econs,Orc.ppre_fcons,Orc.pr_fcons,Orc.ppre_gcons,Orc.pr_gcons,List.head?_cons,List.headD_cons,XE.val,XE.heap,efO,zw,zN,yd,V.tops,V.top1,zD,zU,Orc.flat_fcons,Orc.pre_fcons,Orc.v_fcons,Orc.hp_fcons,Orc.qpre_fcons,Orc.qv_fcons,Orc.fpre_fcons,Orc.fes_fcons,Orc.flat_gcons,Orc.pre_gcons,Orc.v_gcons,Orc.hp_gcons,Orc.qpre_gcons,Orc.qv_gcons,Orc.fpre_gcons,Orc.fes_gcons,GSum.pre,GSum.v,GSum.hp,Orc.fpre_cons,Orc.fes_cons,Orc.fpre_econs,Orc.fes_econs,FSum.pre,FSum.v,FSum.hp,qw,O.calls,List.flatMap_cons,List.flatMap_nil,List.contains_cons,List.contains_nil,Bool.not_true,Bool.not_false,Heap.freeze,List.mapIdx_cons,List.mapIdx_nil,List.elem_cons,List.elem_nil,ya,zG,evF,bne_iff_ne,ne_eq,Option.some.injEq,zd,zb,za,yX,yW,yg,yY,qU,qT,yQ,qW,go_sem,seval,reduceIte,reduceCtorEq]
  refine z7.lp (α:=QrS) (fun a=>[(0,.slc 3 (l.map Tok.enc)),(8,.ref 0 a.ver 0 a.out.length),(36,.slc 2 (P.map fun p=>[vi p.1,vi p.2])),(37,vi P.length),(38,vi a.k)])
   (fun a=>⟨[⟨a.ver,5,a.out.map PSel.enc,false,[vs ⟨#[]⟩,vi 0,vi 0,vi 0,vi 0]⟩],a.clk⟩) (fun a=>a.k≤P.length∧a.out.length=a.k∧(Yc l (P.drop a.k)).map (a.out++ ·)=R) (fun a=>P.length - a.k) ⟨0,[],0,1⟩
   ⟨Nat.zero_le _,rfl,by rw[←hR];simp only[List.drop_zero,List.nil_append];cases Yc l P<;>rfl⟩ (St.nil 8 5 [vs ⟨#[]⟩,vi 0,vi 0,vi 0,vi 0] (by simp[zq]) (St.cut ?_ ?_ ?_)) fun a ha=> ?_
  ·simp[zC,zq,zI]
  ·simp[Heap.alloc]
  ·rfl
  obtain⟨k,out,ver,clk⟩:=a
  obtain⟨h2,h3,h4⟩:=ha
  simp only at h2 h3 h4
  have hot:out.take out.length=out:=List.take_length
  by_cases hk:k=P.length
  ·subst hk
   rw[List.drop_length]at h4
   simp only[Yc,Option.map_some,List.append_nil]at h4
   subst h4
   simp only[Int.lt_irrefl,hot,psR,ZJ,J9,J8,Nat.le_refl,zp,zt,zQ,zS,zT,zR,qm,xe,zF,zJ,Orc.ppre_cons,Orc.pr_cons,Orc.ppre_econs,Orc.pr_econs,Orc.ppre_fcons,Orc.pr_fcons,Orc.ppre_gcons,Orc.pr_gcons,List.head?_cons,List.headD_cons,XE.val,XE.heap,efO,zw,zN,yd,V.tops,V.top1,zD,zU,Orc.flat_fcons,Orc.pre_fcons,Orc.v_fcons,Orc.hp_fcons,Orc.qpre_fcons,Orc.qv_fcons,Orc.fpre_fcons,Orc.fes_fcons,Orc.flat_gcons,Orc.pre_gcons,Orc.v_gcons,Orc.hp_gcons,Orc.qpre_gcons,Orc.qv_gcons,Orc.fpre_gcons,Orc.fes_gcons,GSum.pre,GSum.v,GSum.hp,Orc.fpre_cons,Orc.fes_cons,Orc.fpre_econs,Orc.fes_econs,FSum.pre,FSum.v,FSum.hp,qw,O.calls,List.flatMap_cons,List.flatMap_nil,List.contains_cons,List.contains_nil,Bool.not_true,Bool.not_false,Heap.freeze,List.mapIdx_cons,List.mapIdx_nil,List.elem_cons,List.elem_nil,ya,zG,evF,bne_iff_ne,ne_eq,Option.some.injEq,zd,zb,za,yX,yW,yg,yY,qU,qT,yQ,qW,go_sem,seval,reduceIte,reduceCtorEq]
  ·have e1:(k:Int)<(P.length:Int):=by omega
   have e0:(0:Int)≤(k:Int):=by omega
   have hlt:k<P.length:=by omega
   rw[zgb l P k hlt]at h4
   have hg:=zcT P k
   have hr:=hPr (P.getD k (0,0)) (by rw[List.getD_eq_getElem?_getD,List.getElem?_eq_getElem hlt];exact List.getElem_mem _)
   generalize P.getD k (0,0)=p at*
   obtain⟨a,b⟩:=p
   simp only at hr h4 hg
   obtain⟨a,rfl⟩:∃n:Nat,a=n:=⟨a.toNat,by omega⟩
   obtain⟨b,rfl⟩:∃n:Nat,b=n:=⟨b.toNat,by omega⟩
   obtain⟨r1,r2,r3⟩:=hr
   have hcut:List.take (b - a) (List.drop a (l.map Tok.enc))=((l.take b).drop a).map Tok.enc:=by rw[List.map_drop,List.map_take,List.drop_take]
   have hok:=zf3 h a b
   simp only[Int.toNat_natCast]at h4
   generalize(l.take b).drop a=v at*
   cases ho:za6 v with
   |none=>
    rw[ho]at h4
    simp only[Option.map_none]at h4
    subst h4
    simp only[e0,e1,hg,r1,r2,r3,hcut,hok,ho,Yb,Option.getD_none,Option.isSome_none,PSel.enc,PSel.zero,psR,zm,zh,zp,zt,zQ,zS,zT,zR,qm,xe,zF,zJ,Orc.ppre_cons,Orc.pr_cons,Orc.ppre_econs,Orc.pr_econs,Orc.ppre_fcons,Orc.pr_fcons,Orc.ppre_gcons,Orc.pr_gcons,List.head?_cons,List.headD_cons,XE.val,XE.heap,efO,zw,zN,yd,V.tops,V.top1,zD,zU,Orc.flat_fcons,Orc.pre_fcons,Orc.v_fcons,Orc.hp_fcons,Orc.qpre_fcons,Orc.qv_fcons,Orc.fpre_fcons,Orc.fes_fcons,Orc.flat_gcons,Orc.pre_gcons,Orc.v_gcons,Orc.hp_gcons,Orc.qpre_gcons,Orc.qv_gcons,Orc.fpre_gcons,Orc.fes_gcons,GSum.pre,GSum.v,GSum.hp,Orc.fpre_cons,Orc.fes_cons,Orc.fpre_econs,Orc.fes_econs,FSum.pre,FSum.v,FSum.hp,qw,O.calls,List.flatMap_cons,List.flatMap_nil,List.contains_cons,List.contains_nil,Bool.not_true,Bool.not_false,Heap.freeze,List.mapIdx_cons,List.mapIdx_nil,List.elem_cons,List.elem_nil,ya,zG,evF,bne_iff_ne,ne_eq,Option.some.injEq,zd,zb,za,yX,yW,yg,yY,qU,qT,yQ,qW,go_sem,seval,reduceIte,reduceCtorEq]
   |some s=>
    rw[ho]at h4
    simp only at h4
    simp only[e0,e1,hg,r1,r2,r3,hcut,hok,ho,hot,Yb,Option.getD_some,Option.isSome_some,PSel.enc,zm,zh,zp,zt,zQ,zS,zT,zR,qm,xe,zF,zJ,Orc.ppre_cons,Orc.pr_cons,Orc.ppre_econs,Orc.pr_econs,Orc.ppre_fcons,Orc.pr_fcons,Orc.ppre_gcons,Orc.pr_gcons,List.head?_cons,List.headD_cons,XE.val,XE.heap,efO,zw,zN,yd,V.tops,V.top1,zD,zU,Orc.flat_fcons,Orc.pre_fcons,Orc.v_fcons,Orc.hp_fcons,Orc.qpre_fcons,Orc.qv_fcons,Orc.fpre_fcons,Orc.fes_fcons,Orc.flat_gcons,Orc.pre_gcons,Orc.v_gcons,Orc.hp_gcons,Orc.qpre_gcons,Orc.qv_gcons,Orc.fpre_gcons,Orc.fes_gcons,GSum.pre,GSum.v,GSum.hp,Orc.fpre_cons,Orc.fes_cons,Orc.fpre_econs,Orc.fes_econs,FSum.pre,FSum.v,FSum.hp,qw,O.calls,List.flatMap_cons,List.flatMap_nil,List.contains_cons,List.contains_nil,Bool.not_true,Bool.not_false,Heap.freeze,List.mapIdx_cons,List.mapIdx_nil,List.elem_cons,List.elem_nil,ya,zG,evF,bne_iff_ne,ne_eq,Option.some.injEq,zd,zb,za,yX,yW,yg,yY,qU,qT,yQ,qW,go_sem,seval,reduceIte,reduceCtorEq]
    refine⟨⟨by omega,by omega,by omega⟩,by omega,⟨k+1,out++ [s],_,_⟩,⟨by dsimp only;omega,by simp;omega,?_⟩,by dsimp only;omega,⟨⟨rfl,by simp⟩,by dsimp only;omega⟩,⟨rfl,by simp[PSel.enc]⟩,rfl⟩
    rw[←h4];cases Yc l (P.drop (k+1))<;>simp
def JF:Sum Tryz.prog:=⟨126,fun args=>args= [zm (zi (args.getD 0 .any))]∧jM (zi (args.getD 0 .any)),fun args=>psV (psO (zi (args.getD 0 .any))),fun args h=>by
 have:=zjp (zi (args.getD 0 .any)) h.2;rwa [←h.1]at this,false⟩
theorem zk6:JF.f=126:=rfl
theorem zk5(args:List V):JF.D args=(args= [zm (zi (args.getD 0 .any))]∧jM (zi (args.getD 0 .any))):=rfl
theorem zb0:JF.flat=false:=rfl
theorem zk7(args:List V):JF.r args=psV (psO (zi (args.getD 0 .any))):=rfl
attribute [go_sem] zk6 zk5 zb0 zk7
end Go.Proofs.YtlaopdfpncckeaaGreatDoor
end
section
namespace Go.Proofs.YtlaopdfpncckeaaGreatDoor
open Go.Sx
set_option linter.unusedSimpArgs false
set_option linter.unusedVariables false
set_option maxHeartbeats 8000000
set_option maxRecDepth 100000
structure Dcl where
 nm:ByteArray
 v:List Tok
 imp:Bool
instance:Inhabited Dcl:=⟨⟨⟨#[]⟩,[],false⟩⟩
def Dcl.enc(d:Dcl):List V:=[vs d.nm,.slc 3 (d.v.map Tok.enc),vb d.imp]
def zeh(e:List V):Dcl:=⟨(e.getD 0 .any).str,zi (e.getD 1 .any),V.boo (e.getD 2 .any)⟩
def Zn(v:V):Dcl:=zeh v.cs
def jy(v:V):List Dcl:=v.es.map zeh
theorem qJ(d:Dcl):zeh d.enc=d:=by
 show(⟨_,zi (.slc 3 (d.v.map Tok.enc)),_⟩:Dcl)=d
 rw[zh];rfl
theorem Qt(sz:Nat)(l:List Dcl):jy (.slc sz (l.map Dcl.enc))=l:=by
 simp[jy,V.es,Function.comp_def,qJ]
theorem Dcl.eta'(d:Dcl):(⟨d.nm,d.v,d.imp⟩:Dcl)=d:=rfl
structure Mg where
 nm:ByteArray
 ds:List Dcl
instance:Inhabited Mg:=⟨⟨⟨#[]⟩,[]⟩⟩
def Mg.enc(m:Mg):List V:=[vs m.nm,.slc 3 (m.ds.map Dcl.enc)]
def znu(e:List V):Mg:=⟨(e.getD 0 .any).str,jy (e.getD 1 .any)⟩
theorem zih(m:Mg):znu m.enc=m:=by
 show(⟨_,jy (.slc 3 (m.ds.map Dcl.enc))⟩:Mg)=m
 rw[Qt];rfl
structure Rul where
 kind:Int
 pre:List Tok
 ds:List Dcl
 ms:List Mg
instance:Inhabited Rul:=⟨⟨0,[],[],[]⟩⟩
def Rul.enc(r:Rul):List V:=[vi r.kind,.slc 3 (r.pre.map Tok.enc),.slc 3 (r.ds.map Dcl.enc),.slc 2 (r.ms.map Mg.enc)]
def zii(e:List V):Rul:=⟨(e.getD 0 .any).int,zi (e.getD 1 .any),jy (e.getD 2 .any),(e.getD 3 .any).es.map znu⟩
def JZ(v:V):Rul:=zii v.cs
theorem Xw(r:Rul):zii r.enc=r:=by
 show(⟨_,zi (.slc 3 (r.pre.map Tok.enc)),jy (.slc 3 (r.ds.map Dcl.enc)),(V.es (.slc 2 (r.ms.map Mg.enc))).map znu⟩:Rul)=r
 rw[zh,Qt]
 have:(V.es (.slc 2 (r.ms.map Mg.enc))).map znu=r.ms:=by simp[V.es,Function.comp_def,zih]
 rw[this];rfl
theorem znw(k:Int)(p:List Tok)(d:List Dcl)(m:List Mg):JZ (.agg [.c (.int .i64 k),.slc 3 (p.map Tok.enc),.slc 3 (d.map Dcl.enc),.slc 2 (m.map Mg.enc)])=⟨k,p,d,m⟩:=Xw ⟨k,p,d,m⟩
def zei(v:V):List Rul:=v.es.map zii
theorem zfl(sz:Nat)(l:List Rul):zei (.slc sz (l.map Rul.enc))=l:=by
 simp[zei,V.es,Function.comp_def,Xw]
theorem Rul.eta'(r:Rul):(⟨r.kind,r.pre,r.ds,r.ms⟩:Rul)=r:=rfl
def shE(l:List Rul):List V:=[.slc 4 (l.map Rul.enc)]
def yR(s:List (List Rul)):V:=.slc 1 (s.map shE)
def YL(v:V):List (List Rul):=v.es.map fun e=>zei (e.getD 0 .any)
theorem yi(sz:Nat)(s:List (List Rul)):YL (.slc sz (s.map shE))=s:=by
 have:∀l:List Rul,zei (.slc 4 (l.map Rul.enc))=l:=zfl 4
 simp[YL,V.es,Function.comp_def,shE,this]
theorem XF(l:List Dcl)(i:Nat)(z:List V)(h:i<l.length):(l.map Dcl.enc).getD i z=(l.getD i default).enc:=by
 simp[List.getD_eq_getElem?_getD,h]
theorem ziJ(l:List Mg)(i:Nat)(z:List V)(h:i<l.length):(l.map Mg.enc).getD i z=(l.getD i default).enc:=by
 simp[List.getD_eq_getElem?_getD,h]
theorem zfA(l:List Rul)(i:Nat)(z:List V)(h:i<l.length):(l.map Rul.enc).getD i z=(l.getD i default).enc:=by
 simp[List.getD_eq_getElem?_getD,h]
theorem zfB(s:List (List Rul))(i:Nat)(z:List V)(h:i<s.length):(s.map shE).getD i z=shE (s.getD i []):=by
 simp[List.getD_eq_getElem?_getD,h]
def zn7(n:Int):Prop:= -9223372036854775808≤n∧n≤9223372036854775807
def zre(l:List Tok):Prop:=∀t∈l,zn7 t.n
def ztO(d:Dcl):Prop:=zre d.v
def zrZ:Nat:=maxLen
theorem zmU:zrZ=9223372036854775807:=by decide
def zjg(l:List Dcl):Prop:=l.length≤zrZ∧∀d∈l,ztO d
def zvd(m:Mg):Prop:=zjg m.ds
def zve(r:Rul):Prop:=zre r.pre∧zjg r.ds∧∀m∈r.ms,zvd m
theorem kL{α:Type}{l:List α}{i:Nat}{d:α}(h:i<l.length):l.getD i d∈l:=by
 rw[List.getD_eq_getElem?_getD,List.getElem?_eq_getElem h];exact List.getElem_mem _
structure FdS where
 k:Nat
 clk:Nat
def shD(l:List Dcl):Prop:=l.length≤8∧∀d∈l,d.nm.size≤100∧d.v.length≤20∧∀t∈d.v,t.text.size≤100
def shR(r:Rul):Prop:=(r.pre.length≤20∧∀t∈r.pre,t.text.size≤100)∧shD r.ds∧r.ms.length≤8∧∀m∈r.ms,m.nm.size≤100∧shD m.ds
end Go.Proofs.YtlaopdfpncckeaaGreatDoor
end
section
namespace Go.Proofs.YtlaopdfpncckeaaGreatDoor
open Go.Sx
attribute [go_sem] zt zQ zS zT zR qm xe zF zJ Orc.ppre_cons Orc.pr_cons Orc.ppre_econs Orc.pr_econs Orc.ppre_fcons Orc.pr_fcons Orc.ppre_gcons Orc.pr_gcons List.head?_cons List.headD_cons XE.val XE.heap efO zw zN yd V.tops V.top1 zD zU Orc.flat_fcons Orc.pre_fcons Orc.v_fcons Orc.hp_fcons Orc.qpre_fcons Orc.qv_fcons Orc.fpre_fcons Orc.fes_fcons Orc.flat_gcons Orc.pre_gcons Orc.v_gcons Orc.hp_gcons Orc.qpre_gcons Orc.qv_gcons Orc.fpre_gcons Orc.fes_gcons GSum.pre GSum.v GSum.hp Orc.fpre_cons Orc.fes_cons Orc.fpre_econs Orc.fes_econs FSum.pre FSum.v FSum.hp qw O.calls List.flatMap_cons List.flatMap_nil List.contains_cons List.contains_nil Bool.not_true Bool.not_false Heap.freeze List.mapIdx_cons List.mapIdx_nil List.elem_cons List.elem_nil ya zG evF bne_iff_ne ne_eq Option.some.injEq Orc.flat_econs Orc.pre_econs Orc.v_econs Orc.hp_econs Orc.qpre_econs Orc.qv_econs
end Go.Proofs.YtlaopdfpncckeaaGreatDoor
end
