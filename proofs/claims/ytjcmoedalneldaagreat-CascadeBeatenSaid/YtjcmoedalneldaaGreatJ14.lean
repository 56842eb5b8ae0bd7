/- Part of the proof of layer-11. No condition. -/
import Derived.Test.YtjcmoedalneldaaGreatJ13
import Derived.Test.YtjcmoedalneldaaGreatJ11
import Derived.Test.YtjcmoedalneldaaGreatJ9
import Derived.Test.YtjcmoedalneldaaGreatJ10
import Derived.Test.YtjcmoedalneldaaGreatAw
namespace Go.Proofs.YtjcmoedalneldaaGreat
open Go.Sx
set_option linter.unusedSimpArgs false
set_option linter.unusedVariables false
set_option maxHeartbeats 8000000
set_option maxRecDepth 100000
def Zc(p:Pa):Bool:=decide (p.t.kind=16)
theorem zCB(p:Pa):zg Tryz.prog 78 [.agg p.enc] (vb (Zc p)):=by
 refine zg.of (Orc.nil _) zAO (by simp[c78]) fun w0 o0=> ?_
 simp only[c78,Pa.enc,Zc,go_sem,zc,reduceCtorEq,reduceIte,Nat.reduceEqDiff,Nat.reduceAdd,Nat.reduceSub,Nat.reduceMul,Nat.reduceLT,Nat.reduceLeDiff,Nat.reduceBEq,Int.reduceEq,Int.reduceLT,Int.reduceLE,Int.reduceAdd,Int.reduceSub,Int.reduceNeg,Int.reduceToNat]
def zg6:Sum Tryz.prog:=⟨78,fun args=>args= [.agg (Pa.enc (dPa (args.getD 0 .any)))],fun args=>vb (Zc (dPa (args.getD 0 .any))),fun args h=>by
 have:=zCB (dPa (args.getD 0 .any));rwa [←h]at this,true⟩
theorem zyk:zg6.f=78:=rfl
theorem zyj(args:List V):zg6.D args=(args= [.agg (Pa.enc (dPa (args.getD 0 .any)))]):=rfl
theorem zjI:zg6.flat=true:=rfl
theorem zyl(args:List V):zg6.r args=vb (Zc (dPa (args.getD 0 .any))):=rfl
attribute [go_sem] zyk zyj zjI zyl
def ziR(L:List Pa):Int:=fst (fun i=>Zc (L.getD i default)) (L.length - 0) 0
theorem zxy(L:List Pa)(hl:L.length≤1000001):zg Tryz.prog 77 [pas L,.fn 78 []] (vi (ziR L)):=by
 refine zg.of (Orc.cons zg6 (Orc.nil _)) zAN (by simp[c77]) fun w0 o0=> ?_
 simp only[c77,pas,go_sem,zc,reduceCtorEq,reduceIte,Nat.reduceEqDiff,Nat.reduceAdd,Nat.reduceSub,Nat.reduceMul,Nat.reduceLT,Nat.reduceLeDiff,Nat.reduceBEq,Int.reduceEq,Int.reduceLT,Int.reduceLE,Int.reduceAdd,Int.reduceSub,Int.reduceNeg,Int.reduceToNat]
 refine zD.lp (α:=Nat) (fun k=>[(0,.slc 4 (L.map Pa.enc)),(1,.fn 78 []),(7,vi L.length),(8,vi k)]) (fun _=>⟨[],0⟩)
  (fun k=>k≤L.length∧fst (fun i=>Zc (L.getD i default)) (L.length - k) k=ziR L) (fun k=>L.length - k) 0 ⟨Nat.zero_le _,rfl⟩ (St.mk (by simp[zu,zk,zt])) fun k hk=> ?_
 obtain⟨h1,h2⟩:=hk
 by_cases hkl:k=L.length
 ·subst hkl
  rw[Z1]at h2
  simp only[Int.lt_irrefl,←h2,go_sem,zc,reduceCtorEq,reduceIte,Nat.reduceEqDiff,Nat.reduceAdd,Nat.reduceSub,Nat.reduceMul,Nat.reduceLT,Nat.reduceLeDiff,Nat.reduceBEq,Int.reduceEq,Int.reduceLT,Int.reduceLE,Int.reduceAdd,Int.reduceSub,Int.reduceNeg,Int.reduceToNat]
 ·have e1:(k:Int)<(L.length:Int):=by omega
  have e0:(0:Int)≤(k:Int):=by omega
  have hlt:k<L.length:=by omega
  rw[kV _ _ _ hlt]at h2
  have hg:=z2 L k [vi 0,vs ⟨#[]⟩,vi 0,zA] hlt
  generalize L.getD k default=x at*
  simp only[e0,e1,hg,Pa.enc,zm,Pa.eta',go_sem,zc,reduceCtorEq,reduceIte,Nat.reduceEqDiff,Nat.reduceAdd,Nat.reduceSub,Nat.reduceMul,Nat.reduceLT,Nat.reduceLeDiff,Nat.reduceBEq,Int.reduceEq,Int.reduceLT,Int.reduceLE,Int.reduceAdd,Int.reduceSub,Int.reduceNeg,Int.reduceToNat]
  cases hc:Zc x with
  |true=>simp only[hc,if_true]at h2;simp[h2]
  |false=>
   simp only[hc,Bool.false_eq_true,if_false]at h2
   simp
   exact⟨by omega,k+1,⟨by omega,h2⟩,by omega,by omega⟩
def Qa:Sum Tryz.prog:=⟨77,fun args=>args= [pas (yX (args.getD 0 .any)),.fn 78 []]∧((yX (args.getD 0 .any))).length≤1000001,fun args=>vi (ziR (yX (args.getD 0 .any))),fun args h=>by
 have:=zxy (yX (args.getD 0 .any)) h.2;rwa [←h.1]at this,true⟩
theorem zoB:Qa.f=77:=rfl
theorem zoA(args:List V):Qa.D args=(args= [pas (yX (args.getD 0 .any)),.fn 78 []]∧((yX (args.getD 0 .any))).length≤1000001):=rfl
theorem zeI:Qa.flat=true:=rfl
theorem zoC(args:List V):Qa.r args=vi (ziR (yX (args.getD 0 .any))):=rfl
attribute [go_sem] zoB zoA zeI zoC
def jC(cur:List Pa):Option Stp:=match cur with
 | []=>none
 |a::r=>if zJ a=true then(match itL true r with|some (x::xs)=>some ⟨a.t.text,0,x::xs⟩|_=>none)else none
def qG:List Pa→List Pa→Option (List Stp)
 |cur,[]=>(jC cur).map fun s=>[s]
 |cur,p::l=>if Zc p=true then(match jC cur with|none=>none|some s=>(qG [] l).map (s:: ·))else qG (cur++ [p]) l
theorem Jv:∀(a cur l:List Pa),(∀p∈a,Zc p=false)→qG cur (a++l)=qG (cur++a) l
 | [],cur,l,_=>by simp
 |p::a,cur,l,h=>by
  rw[List.cons_append,qG,if_neg (by rw[h p (by simp)];simp),Jv a _ l (fun q hq=>h q (by simp[hq]))]
  simp
def stO(l:List Tok):Option (List Stp):=if ptB l=true then(if isNone (pl l)=true then some []else qG [] (pl l))else none
def stR:Option (List Stp)→V
 |none=>.tup [zA,vb false]
 |some l=>.tup [jI l,vb true]
def zbQ(o:Option (List Stp)):V:=.tup [jI (o.getD []),vb o.isSome]
theorem zlq(o:Option (List Stp)){f:FuncId}{args:List V}(h:zg Tryz.prog f args (stR o)):zg Tryz.prog f args (zbQ o):=by
 cases o with
 |none=>exact zg.rsub h (qM false)
 |some l=>exact h
theorem ZA(S:Nat→Bool)(h:Heap):∀l:List Stp,zB (zB (res S h 11)) (l.map Stp.enc)=some (l.map Stp.enc)
 | []=>rfl
 |p::l=>by
  have e:zB (res S h 11) p.enc=some p.enc:=rfl
  simp only[List.map_cons,zB,ZA S h l,e]
theorem Zz(S:Nat→Bool)(h:Heap):∀l:List Stp,zB (zB (res S h 10)) (l.map Stp.enc)=some (l.map Stp.enc)
 | []=>rfl
 |p::l=>by
  have e:zB (res S h 10) p.enc=some p.enc:=rfl
  simp only[List.map_cons,zB,Zz S h l,e]
theorem zbe{L:List Pa}(h:isNone L=true):∃p,L= [p]∧yf p ⟨#[110,111,110,101]⟩=true:=by
 unfold isNone at h
 split at h
 ·exact⟨_,rfl,h⟩
 ·cases h
theorem zbf(L:List Pa):(ziR L= -1∧qG [] L=(jC L).map fun s=>[s])∨∃m:Nat,ziR L=m∧m<L.length∧qG [] L=(match jC (L.take m)with|none=>none|some s=>(qG [] (L.drop (m+1))).map (s:: ·)):=by
 unfold ziR
 have hg:∀(a:List Pa),(∀i,i<a.length→Zc (a.getD i default)=false)→∀p∈a,Zc p=false:=fun a h p hp=>by
  obtain⟨i,hi,rfl⟩:=List.getElem_of_mem hp
  have:=h i hi
  rwa [List.getD_eq_getElem?_getD,List.getElem?_eq_getElem hi]at this
 rcases kU (fun i=>Zc (L.getD i default)) (L.length - 0) 0 with⟨h1,h2⟩|⟨m,h1,h2,h3,h4,h5⟩
 ·refine .inl ⟨h1,?_⟩
  have:=Jv L [] [] (hg L fun i hi=>h2 i (by omega) (by omega))
  rw[List.append_nil,List.nil_append]at this
  rw[this];rfl
 ·have hm:m<L.length:=by omega
  refine .inr ⟨m,h1,hm,?_⟩
  have e:L=L.take m++L.getD m default::L.drop (m+1):=by
   rw[←qF L m hm,List.take_append_drop]
  have h6:=Jv (L.take m) [] (L.getD m default::L.drop (m+1)) (hg _ fun i hi=>by
   rw[List.length_take]at hi
   have:=h5 i (by omega) (by omega)
   rw[List.getD_eq_getElem?_getD,List.getElem?_take,if_pos (by omega),←List.getD_eq_getElem?_getD];exact this)
  rw[←e,List.nil_append]at h6
  rw[h6,qG,if_pos h4]
structure SrS where
 L:List Pa
 out:List Stp
 ver:Nat
 clk:Nat
theorem kI{a:Pa}{r:List Pa}{x:Itm}{xs:List Itm}(h:zJ a=true)(hI:itL true r=some (x::xs)):jC (a::r)=some ⟨a.t.text,0,x::xs⟩:=by unfold jC;simp only[h,if_true,hI]
theorem ZZ{a:Pa}{r:List Pa}(h:zJ a=false):jC (a::r)=none:=by unfold jC;simp only[h,Bool.false_eq_true,if_false]
theorem qi{a:Pa}{r:List Pa}(hI:itL true r=none∨itL true r=some []):jC (a::r)=none:=by
 unfold jC
 rcases hI with hI|hI<;>simp only[hI,ite_self]
theorem zjw(l:List Tok)(h:okT l):zg Tryz.prog 43 [zj l] (zbQ (stO l)):=by
 have h1:=h.1
 have hP:=zlc h
 have hfb:=@Xe l
 unfold stO
 generalize hL:pl l=L0 at*
 cases hb:ptB l with
 |false=>
  have hz:=hfb hb
  subst hz
  rw[if_neg (by simp)]
  refine zg.rsub ?_ (qM false)
  refine zg.of (Orc.cons kg (Orc.cons jr (Orc.cons Qa (Orc.cons Z5 (Orc.cons Jx (Orc.nil _)))))) ziz (by simp[c43]) fun w0 o0=> ?_
  simp only[c43,zj,zf,h1,plV,hL,hb,List.map_nil,zd,zb,za,go_sem,reduceCtorEq,reduceIte,Nat.reduceEqDiff,Nat.reduceAdd,Nat.reduceSub,Nat.reduceMul,Nat.reduceLT,Nat.reduceLeDiff,Nat.reduceBEq,Int.reduceEq,Int.reduceLT,Int.reduceLE,Int.reduceAdd,Int.reduceSub,Int.reduceNeg,Int.reduceToNat]
  refine zD.lp (α:=Nat) (fun k=>[(5,vb false)]) (fun _=>⟨[],0⟩) (fun k=>True) (fun k=>0) 0 trivial (St.mk (by simp[zu,zk])) fun k hk=> ?_
  simp only[zd,zb,za,go_sem,reduceCtorEq,reduceIte,Nat.reduceEqDiff,Nat.reduceAdd,Nat.reduceSub,Nat.reduceMul,Nat.reduceLT,Nat.reduceLeDiff,Nat.reduceBEq,Int.reduceEq,Int.reduceLT,Int.reduceLE,Int.reduceAdd,Int.reduceSub,Int.reduceNeg,Int.reduceToNat]
 |true=>
 rw[if_pos rfl]
 by_cases hn:isNone L0=true
 ·rw[if_pos hn]
  obtain⟨p,rfl,hi⟩:=zbe hn
  have hp:=(hP.2 p (by simp)).1
  refine zg.rsub ?_ (qM true)
  refine zg.of (Orc.cons kg (Orc.cons jr (Orc.cons Qa (Orc.cons Z5 (Orc.cons Jx (Orc.nil _)))))) ziz (by simp[c43]) fun w0 o0=> ?_
  simp only[c43,zj,zf,h1,plV,hL,hb,hi,hp,Pa.enc,zm,Pa.eta',List.map_cons,List.map_nil,zd,zb,za,go_sem,reduceCtorEq,reduceIte,Nat.reduceEqDiff,Nat.reduceAdd,Nat.reduceSub,Nat.reduceMul,Nat.reduceLT,Nat.reduceLeDiff,Nat.reduceBEq,Int.reduceEq,Int.reduceLT,Int.reduceLE,Int.reduceAdd,Int.reduceSub,Int.reduceNeg,Int.reduceToNat]
 rw[if_neg hn]
 refine zlq _ ?_
 generalize hR:qG [] L0=R
 refine zg.of (Orc.cons kg (Orc.cons jr (Orc.cons Qa (Orc.cons Z5 (Orc.cons Jx (Orc.nil _)))))) ziz (by simp[c43]) fun w0 o0=> ?_
 have lp:∀(e:Nat→V)(Q:yy),e 4= .slc 4 (L0.map Pa.enc)→e 5=vb true→e 6=zA→(∀e' h',(e' 2=zA∧e' 3=vb false∧R=none)→Q .ret e' h')→True:=fun _ _ _ _ _ _=>trivial
 clear lp
 by_cases hl1:∃p,L0= [p]
 ·obtain⟨p,rfl⟩:=hl1
  have hp:=(hP.2 p (by simp)).1
  have hi:yf p ⟨#[110,111,110,101]⟩=false:=by
   cases hh:yf p ⟨#[110,111,110,101]⟩with
   |false=>rfl
   |true=>exact absurd hh (by simpa[isNone,zgl]using hn)
  simp only[c43,zj,zf,h1,plV,hL,hb,hi,hp,Pa.enc,zm,Pa.eta',List.map_cons,List.map_nil,zd,zb,za,go_sem,reduceCtorEq,reduceIte,Nat.reduceEqDiff,Nat.reduceAdd,Nat.reduceSub,Nat.reduceMul,Nat.reduceLT,Nat.reduceLeDiff,Nat.reduceBEq,Int.reduceEq,Int.reduceLT,Int.reduceLE,Int.reduceAdd,Int.reduceSub,Int.reduceNeg,Int.reduceToNat]
  refine zD.lp (α:=SrS) (fun a=>[(4,.slc 4 (a.L.map Pa.enc)),(5,vb true),(6,.ref 0 a.ver 0 a.out.length)])
   (fun a=>⟨[⟨a.ver,3,a.out.map Stp.enc,false,[vs ⟨#[]⟩,vi 0,zA]⟩],a.clk⟩) (fun a=>Y2 a.L∧a.out.length+a.L.length≤1000001∧(qG [] a.L).map (a.out++ ·)=R) (fun a=>a.L.length) ⟨[p],[],0,1⟩
   ⟨hP,by simp,by rw[←hR];cases qG [] [p]<;>rfl⟩ (St.nil 6 3 [vs ⟨#[]⟩,vi 0,zA] (by simp[zk]) (St.cut ?_ ?_ ?_)) fun a ha=> ?_
  ·simp[zu,zk,zt,Pa.enc]
  ·simp[Heap.alloc]
  ·rfl
  obtain⟨L,out,ver,clk⟩:=a
  obtain⟨hPL,hlen,h4⟩:=ha
  simp only at hPL hlen h4
  have hot:out.take out.length=out:=List.take_length
  have hL1:=hPL.1
  have key:∀(one:List Pa)(e:Int),(one= []→qG [] L=none)→True:=fun _ _ _=>trivial
  clear key
  rcases zbf L with⟨hix,hst⟩|⟨m,hix,hm,hst⟩
  ·rw[hst]at h4
   have hone:=hPL
   obtain⟨one,hO⟩:∃one,L=one:=⟨_,rfl⟩
   subst hO
   match L,hone,h4,hix,hL1,hlen,hst,hPL with
   | [],hone,h4,hix,hL1,hlen,hst,hPL=>
     simp only[jC,Option.map_none]at h4
     subst h4
     have hd0:yX (.slc 4 [])= []:=rfl
     simp only[hix,hL1,pas,zC,V.boo_c,hd0,stR,List.map_nil,List.length_nil,Nat.zero_le,Int.lt_irrefl,zd,zb,za,go_sem,reduceCtorEq,reduceIte,Nat.reduceEqDiff,Nat.reduceAdd,Nat.reduceSub,Nat.reduceMul,Nat.reduceLT,Nat.reduceLeDiff,Nat.reduceBEq,Int.reduceEq,Int.reduceLT,Int.reduceLE,Int.reduceAdd,Int.reduceSub,Int.reduceNeg,Int.reduceToNat]
   |x::r,hone,h4,hix,hL1,hlen,hst,hPL=>
    obtain⟨kx,kr⟩:(yW x∧okT x.al)∧Y2 r:=⟨hone.2 x (by simp),by have:=hone.1;simp at this;omega,fun p hp=>hone.2 p (by simp[hp])⟩
    have hx0:=kx.1
    have hrl:r.length≤1000001:=kr.1
    have hl0:(((r.length+1:Nat):Int)=0)=False:=eq_false (by omega)
    have hlp:(0:Int)<((r.length+1:Nat):Int):=by omega
    have hl1:(1:Int)≤((r.length+1:Nat):Int):=by omega
    have htr:r.take (r.length+1 - 1)=r:=List.take_of_length_le (by omega)
    have hpe:yX (.slc 4 ([vi x.t.kind,vs x.t.text,vi x.t.n,.slc 3 (x.al.map Tok.enc)]::r.map Pa.enc))=x::r:=zC 4 (x::r)
    have hrl1:r.length+1≤1000001:=hone.1
    cases hn2:zJ x with
    |false=>
     rw[ZZ hn2]at h4
     simp only[Option.map_none]at h4
     subst h4
     simp only[hix,hL1,pas,zC,V.boo_c,hpe,hrl1,hl0,hlp,hl1,htr,Int.le_refl,hx0,kr,List.map_cons,List.length_cons,Pa.enc,zm,Pa.eta',hn2,stR,zd,zb,za,go_sem,reduceCtorEq,reduceIte,Nat.reduceEqDiff,Nat.reduceAdd,Nat.reduceSub,Nat.reduceMul,Nat.reduceLT,Nat.reduceLeDiff,Nat.reduceBEq,Int.reduceEq,Int.reduceLT,Int.reduceLE,Int.reduceAdd,Int.reduceSub,Int.reduceNeg,Int.reduceToNat]
    |true=>
     match hI:itL true r with
     |none=>
      rw[qi (.inl hI)]at h4
      simp only[Option.map_none]at h4
      subst h4
      simp only[hix,hL1,pas,zC,V.boo_c,hpe,hrl1,hl0,hlp,hl1,htr,Int.le_refl,hx0,kr,List.map_cons,List.length_cons,Pa.enc,zm,Pa.eta',hn2,hI,kX,qT,stR,Option.getD_none,Option.getD_some,List.length_nil,List.map_nil,Int.lt_irrefl,zd,zb,za,go_sem,reduceCtorEq,reduceIte,Nat.reduceEqDiff,Nat.reduceAdd,Nat.reduceSub,Nat.reduceMul,Nat.reduceLT,Nat.reduceLeDiff,Nat.reduceBEq,Int.reduceEq,Int.reduceLT,Int.reduceLE,Int.reduceAdd,Int.reduceSub,Int.reduceNeg,Int.reduceToNat]
     |some []=>
      rw[qi (.inr hI)]at h4
      simp only[Option.map_none]at h4
      subst h4
      simp only[hix,hL1,pas,zC,V.boo_c,hpe,hrl1,hl0,hlp,hl1,htr,Int.le_refl,hx0,kr,List.map_cons,List.length_cons,Pa.enc,zm,Pa.eta',hn2,hI,kX,qT,stR,Option.getD_none,Option.getD_some,List.length_nil,List.map_nil,Int.lt_irrefl,zd,zb,za,go_sem,reduceCtorEq,reduceIte,Nat.reduceEqDiff,Nat.reduceAdd,Nat.reduceSub,Nat.reduceMul,Nat.reduceLT,Nat.reduceLeDiff,Nat.reduceBEq,Int.reduceEq,Int.reduceLT,Int.reduceLE,Int.reduceAdd,Int.reduceSub,Int.reduceNeg,Int.reduceToNat]
     |some (y::ys)=>
      rw[kI hn2 hI]at h4
      have hap:List.map Stp.enc out++ [[vs x.t.text,vi 0,.slc 5 (y.enc::List.map Itm.enc ys)]]=List.map Stp.enc (out++ [(⟨x.t.text,0,y::ys⟩:Stp)]):=by simp[Stp.enc]
      have htS:List.take (out.length+1) (out++ [(⟨x.t.text,0,y::ys⟩:Stp)])=out++ [(⟨x.t.text,0,y::ys⟩:Stp)]:=List.take_of_length_le (by simp)
      have hlS:(out++ [(⟨x.t.text,0,y::ys⟩:Stp)]).length=out.length+1:=by simp
      have hyp:(0:Int)<((ys.length+1:Nat):Int):=by omega
      simp only[Option.map_some]at h4
      subst h4
      simp only[hix,hL1,pas,zC,V.boo_c,hpe,hrl1,hl0,hlp,hl1,htr,Int.le_refl,hx0,kr,List.map_cons,List.length_cons,Pa.enc,zm,Pa.eta',hn2,hI,hyp,hot,hap,htS,hlS,Zz,ZA,Nat.le_refl,kX,qT,stR,jI,Option.getD_some,zd,zb,za,go_sem,reduceCtorEq,reduceIte,Nat.reduceEqDiff,Nat.reduceAdd,Nat.reduceSub,Nat.reduceMul,Nat.reduceLT,Nat.reduceLeDiff,Nat.reduceBEq,Int.reduceEq,Int.reduceLT,Int.reduceLE,Int.reduceAdd,Int.reduceSub,Int.reduceNeg,Int.reduceToNat]
      omega
  ·rw[hst]at h4
   have em1:(0:Int)≤(m:Int):=by omega
   have em2:(m:Int)≤(L.length:Int):=by omega
   have emn:¬(m:Int)<0:=by omega
   have emt:((m:Int)+1).toNat=m+1:=by omega
   have htk:List.take m (L.map Pa.enc)=(L.take m).map Pa.enc:=by rw[List.map_take]
   have hd1:(0:Int)≤(m:Int)+1:=by omega
   have hd2:(m:Int)+1≤(L.length:Int):=by omega
   have hdr:List.take (L.length - (m+1)) (List.drop (m+1) (L.map Pa.enc))=(L.drop (m+1)).map Pa.enc:=by rw[←List.map_drop,List.take_of_length_le (by simp)]
   have hone:Y2 (L.take m):=⟨by rw[List.length_take];omega,fun p hp=>hPL.2 p (List.mem_of_mem_take hp)⟩
   have hlm:(L.take m).length=m:=by rw[List.length_take];omega
   generalize hO:L.take m=one at*
   match one,hone,h4,htk,hlm with
   | [],hone,h4,htk,hlm=>
     simp only[jC,Option.map_none]at h4
     subst h4
     have hlm0:(0:Int)≤(L.length:Int):=by omega
     have hm0:m=0:=by simpa using hlm.symm
     subst hm0
     have hd0:yX (.slc 4 [])= []:=rfl
     simp only[hix,hL1,em1,em2,emn,emt,hd1,hd2,htk,hdr,Nat.sub_zero,hO,pas,zC,V.boo_c,hd0,stR,List.map_nil,List.length_nil,Nat.zero_le,Int.lt_irrefl,hlm0,zd,zb,za,go_sem,reduceCtorEq,reduceIte,Nat.reduceEqDiff,Nat.reduceAdd,Nat.reduceSub,Nat.reduceMul,Nat.reduceLT,Nat.reduceLeDiff,Nat.reduceBEq,Int.reduceEq,Int.reduceLT,Int.reduceLE,Int.reduceAdd,Int.reduceSub,Int.reduceNeg,Int.reduceToNat]
   |x::r,hone,h4,htk,hlm=>
    obtain⟨kx,kr⟩:(yW x∧okT x.al)∧Y2 r:=⟨hone.2 x (by simp),by have:=hone.1;simp at this;omega,fun p hp=>hone.2 p (by simp[hp])⟩
    have hx0:=kx.1
    have hrl:r.length≤1000001:=kr.1
    have hl0:(((r.length+1:Nat):Int)=0)=False:=eq_false (by omega)
    have hlp:(0:Int)<((r.length+1:Nat):Int):=by omega
    have hl1:(1:Int)≤((r.length+1:Nat):Int):=by omega
    have htr:r.take (r.length+1 - 1)=r:=List.take_of_length_le (by omega)
    have hpe:yX (.slc 4 ([vi x.t.kind,vs x.t.text,vi x.t.n,.slc 3 (x.al.map Tok.enc)]::r.map Pa.enc))=x::r:=zC 4 (x::r)
    have hrl1:r.length+1≤1000001:=hone.1
    have hml:m=r.length+1:=by simpa using hlm.symm
    have hzm:((m:Int)=0)=False:=eq_false (by omega)
    cases hn2:zJ x with
    |false=>
     rw[ZZ hn2]at h4
     simp only[Option.map_none]at h4
     subst h4
     simp only[hix,hL1,em1,em2,emn,emt,hd1,hd2,htk,hdr,Nat.sub_zero,hO,pas,zC,V.boo_c,hpe,hrl1,hl0,hlp,hl1,htr,Int.le_refl,hx0,kr,List.map_cons,List.length_cons,Pa.enc,zm,Pa.eta',hn2,stR,zd,zb,za,go_sem,reduceCtorEq,reduceIte,Nat.reduceEqDiff,Nat.reduceAdd,Nat.reduceSub,Nat.reduceMul,Nat.reduceLT,Nat.reduceLeDiff,Nat.reduceBEq,Int.reduceEq,Int.reduceLT,Int.reduceLE,Int.reduceAdd,Int.reduceSub,Int.reduceNeg,Int.reduceToNat]
    |true=>
     match hI:itL true r with
     |none=>
      rw[qi (.inl hI)]at h4
      simp only[Option.map_none]at h4
      subst h4
      simp only[hix,hL1,em1,em2,emn,emt,hd1,hd2,htk,hdr,Nat.sub_zero,hO,pas,zC,V.boo_c,hpe,hrl1,hl0,hlp,hl1,htr,Int.le_refl,hx0,kr,List.map_cons,List.length_cons,Pa.enc,zm,Pa.eta',hn2,hI,kX,qT,stR,Option.getD_none,Option.getD_some,List.length_nil,List.map_nil,Int.lt_irrefl,zd,zb,za,go_sem,reduceCtorEq,reduceIte,Nat.reduceEqDiff,Nat.reduceAdd,Nat.reduceSub,Nat.reduceMul,Nat.reduceLT,Nat.reduceLeDiff,Nat.reduceBEq,Int.reduceEq,Int.reduceLT,Int.reduceLE,Int.reduceAdd,Int.reduceSub,Int.reduceNeg,Int.reduceToNat]
     |some []=>
      rw[qi (.inr hI)]at h4
      simp only[Option.map_none]at h4
      subst h4
      simp only[hix,hL1,em1,em2,emn,emt,hd1,hd2,htk,hdr,Nat.sub_zero,hO,pas,zC,V.boo_c,hpe,hrl1,hl0,hlp,hl1,htr,Int.le_refl,hx0,kr,List.map_cons,List.length_cons,Pa.enc,zm,Pa.eta',hn2,hI,kX,qT,stR,Option.getD_none,Option.getD_some,List.length_nil,List.map_nil,Int.lt_irrefl,zd,zb,za,go_sem,reduceCtorEq,reduceIte,Nat.reduceEqDiff,Nat.reduceAdd,Nat.reduceSub,Nat.reduceMul,Nat.reduceLT,Nat.reduceLeDiff,Nat.reduceBEq,Int.reduceEq,Int.reduceLT,Int.reduceLE,Int.reduceAdd,Int.reduceSub,Int.reduceNeg,Int.reduceToNat]
     |some (y::ys)=>
      rw[kI hn2 hI]at h4
      have hap:List.map Stp.enc out++ [[vs x.t.text,vi 0,.slc 5 (y.enc::List.map Itm.enc ys)]]=List.map Stp.enc (out++ [(⟨x.t.text,0,y::ys⟩:Stp)]):=by simp[Stp.enc]
      have htS:List.take (out.length+1) (out++ [(⟨x.t.text,0,y::ys⟩:Stp)])=out++ [(⟨x.t.text,0,y::ys⟩:Stp)]:=List.take_of_length_le (by simp)
      have hlS:(out++ [(⟨x.t.text,0,y::ys⟩:Stp)]).length=out.length+1:=by simp
      have hyp:(0:Int)<((ys.length+1:Nat):Int):=by omega
      simp only at h4
      simp only[hix,hL1,em1,em2,emn,emt,hd1,hd2,htk,hdr,Nat.sub_zero,hO,pas,zC,V.boo_c,hpe,hrl1,hl0,hlp,hl1,htr,Int.le_refl,hx0,kr,List.map_cons,List.length_cons,Pa.enc,zm,Pa.eta',hn2,hI,hyp,hot,hap,htS,hlS,kX,qT,Option.getD_some,zd,zb,za,go_sem,reduceCtorEq,reduceIte,Nat.reduceEqDiff,Nat.reduceAdd,Nat.reduceSub,Nat.reduceMul,Nat.reduceLT,Nat.reduceLeDiff,Nat.reduceBEq,Int.reduceEq,Int.reduceLT,Int.reduceLE,Int.reduceAdd,Int.reduceSub,Int.reduceNeg,Int.reduceToNat]
      refine⟨⟨by omega,by omega,by omega⟩,by omega,⟨L.drop (m+1),out++ [⟨x.t.text,0,y::ys⟩],clk+1,clk+1+1⟩,⟨⟨by simp;omega,fun p hp=>hPL.2 p (List.mem_of_mem_drop hp)⟩,by simp;omega,?_⟩,by simp;omega,⟨rfl,rfl,by simp⟩,⟨rfl,rfl⟩,rfl⟩
      rw[←h4];cases qG [] (L.drop (m+1))<;>simp
 ·have hl2:((L0.length:Int)=1)=False:=eq_false (fun hh=>hl1 (List.length_eq_one_iff.1 (by omega)))
  simp only[c43,zj,zf,h1,plV,hL,hb,hl2,zd,zb,za,go_sem,reduceCtorEq,reduceIte,Nat.reduceEqDiff,Nat.reduceAdd,Nat.reduceSub,Nat.reduceMul,Nat.reduceLT,Nat.reduceLeDiff,Nat.reduceBEq,Int.reduceEq,Int.reduceLT,Int.reduceLE,Int.reduceAdd,Int.reduceSub,Int.reduceNeg,Int.reduceToNat]
  refine zD.lp (α:=SrS) (fun a=>[(4,.slc 4 (a.L.map Pa.enc)),(5,vb true),(6,.ref 0 a.ver 0 a.out.length)])
   (fun a=>⟨[⟨a.ver,3,a.out.map Stp.enc,false,[vs ⟨#[]⟩,vi 0,zA]⟩],a.clk⟩) (fun a=>Y2 a.L∧a.out.length+a.L.length≤1000001∧(qG [] a.L).map (a.out++ ·)=R) (fun a=>a.L.length) ⟨L0,[],0,1⟩
   ⟨hP,by simpa using hP.1,by rw[←hR];cases qG [] L0<;>rfl⟩ (St.nil 6 3 [vs ⟨#[]⟩,vi 0,zA] (by simp[zk]) (St.cut ?_ ?_ ?_)) fun a ha=> ?_
  ·simp[zu,zk,zt,Pa.enc]
  ·simp[Heap.alloc]
  ·rfl
  obtain⟨L,out,ver,clk⟩:=a
  obtain⟨hPL,hlen,h4⟩:=ha
  simp only at hPL hlen h4
  have hot:out.take out.length=out:=List.take_length
  have hL1:=hPL.1
  have key:∀(one:List Pa)(e:Int),(one= []→qG [] L=none)→True:=fun _ _ _=>trivial
  clear key
  rcases zbf L with⟨hix,hst⟩|⟨m,hix,hm,hst⟩
  ·rw[hst]at h4
   have hone:=hPL
   obtain⟨one,hO⟩:∃one,L=one:=⟨_,rfl⟩
   subst hO
   match L,hone,h4,hix,hL1,hlen,hst,hPL with
   | [],hone,h4,hix,hL1,hlen,hst,hPL=>
     simp only[jC,Option.map_none]at h4
     subst h4
     have hd0:yX (.slc 4 [])= []:=rfl
     simp only[hix,hL1,pas,zC,V.boo_c,hd0,stR,List.map_nil,List.length_nil,Nat.zero_le,Int.lt_irrefl,zd,zb,za,go_sem,reduceCtorEq,reduceIte,Nat.reduceEqDiff,Nat.reduceAdd,Nat.reduceSub,Nat.reduceMul,Nat.reduceLT,Nat.reduceLeDiff,Nat.reduceBEq,Int.reduceEq,Int.reduceLT,Int.reduceLE,Int.reduceAdd,Int.reduceSub,Int.reduceNeg,Int.reduceToNat]
   |x::r,hone,h4,hix,hL1,hlen,hst,hPL=>
    obtain⟨kx,kr⟩:(yW x∧okT x.al)∧Y2 r:=⟨hone.2 x (by simp),by have:=hone.1;simp at this;omega,fun p hp=>hone.2 p (by simp[hp])⟩
    have hx0:=kx.1
    have hrl:r.length≤1000001:=kr.1
    have hl0:(((r.length+1:Nat):Int)=0)=False:=eq_false (by omega)
    have hlp:(0:Int)<((r.length+1:Nat):Int):=by omega
    have hl1:(1:Int)≤((r.length+1:Nat):Int):=by omega
    have htr:r.take (r.length+1 - 1)=r:=List.take_of_length_le (by omega)
    have hpe:yX (.slc 4 ([vi x.t.kind,vs x.t.text,vi x.t.n,.slc 3 (x.al.map Tok.enc)]::r.map Pa.enc))=x::r:=zC 4 (x::r)
    have hrl1:r.length+1≤1000001:=hone.1
    cases hn2:zJ x with
    |false=>
     rw[ZZ hn2]at h4
     simp only[Option.map_none]at h4
     subst h4
     simp only[hix,hL1,pas,zC,V.boo_c,hpe,hrl1,hl0,hlp,hl1,htr,Int.le_refl,hx0,kr,List.map_cons,List.length_cons,Pa.enc,zm,Pa.eta',hn2,stR,zd,zb,za,go_sem,reduceCtorEq,reduceIte,Nat.reduceEqDiff,Nat.reduceAdd,Nat.reduceSub,Nat.reduceMul,Nat.reduceLT,Nat.reduceLeDiff,Nat.reduceBEq,Int.reduceEq,Int.reduceLT,Int.reduceLE,Int.reduceAdd,Int.reduceSub,Int.reduceNeg,Int.reduceToNat]
    |true=>
     match hI:itL true r with
     |none=>
      rw[qi (.inl hI)]at h4
      simp only[Option.map_none]at h4
      subst h4
      simp only[hix,hL1,pas,zC,V.boo_c,hpe,hrl1,hl0,hlp,hl1,htr,Int.le_refl,hx0,kr,List.map_cons,List.length_cons,Pa.enc,zm,Pa.eta',hn2,hI,kX,qT,stR,Option.getD_none,Option.getD_some,List.length_nil,List.map_nil,Int.lt_irrefl,zd,zb,za,go_sem,reduceCtorEq,reduceIte,Nat.reduceEqDiff,Nat.reduceAdd,Nat.reduceSub,Nat.reduceMul,Nat.reduceLT,Nat.reduceLeDiff,Nat.reduceBEq,Int.reduceEq,Int.reduceLT,Int.reduceLE,Int.reduceAdd,Int.reduceSub,Int.reduceNeg,Int.reduceToNat]
     |some []=>
      rw[qi (.inr hI)]at h4
      simp only[Option.map_none]at h4
      subst h4
      simp only[hix,hL1,pas,zC,V.boo_c,hpe,hrl1,hl0,hlp,hl1,htr,Int.le_refl,hx0,kr,List.map_cons,List.length_cons,Pa.enc,zm,Pa.eta',hn2,hI,kX,qT,stR,Option.getD_none,Option.getD_some,List.length_nil,List.map_nil,Int.lt_irrefl,zd,zb,za,go_sem,reduceCtorEq,reduceIte,Nat.reduceEqDiff,Nat.reduceAdd,Nat.reduceSub,Nat.reduceMul,Nat.reduceLT,Nat.reduceLeDiff,Nat.reduceBEq,Int.reduceEq,Int.reduceLT,Int.reduceLE,Int.reduceAdd,Int.reduceSub,Int.reduceNeg,Int.reduceToNat]
     |some (y::ys)=>
      rw[kI hn2 hI]at h4
      have hap:List.map Stp.enc out++ [[vs x.t.text,vi 0,.slc 5 (y.enc::List.map Itm.enc ys)]]=List.map Stp.enc (out++ [(⟨x.t.text,0,y::ys⟩:Stp)]):=by simp[Stp.enc]
      have htS:List.take (out.length+1) (out++ [(⟨x.t.text,0,y::ys⟩:Stp)])=out++ [(⟨x.t.text,0,y::ys⟩:Stp)]:=List.take_of_length_le (by simp)
      have hlS:(out++ [(⟨x.t.text,0,y::ys⟩:Stp)]).length=out.length+1:=by simp
      have hyp:(0:Int)<((ys.length+1:Nat):Int):=by omega
      simp only[Option.map_some]at h4
      subst h4
      simp only[hix,hL1,pas,zC,V.boo_c,hpe,hrl1,hl0,hlp,hl1,htr,Int.le_refl,hx0,kr,List.map_cons,List.length_cons,Pa.enc,zm,Pa.eta',hn2,hI,hyp,hot,hap,htS,hlS,Zz,ZA,Nat.le_refl,kX,qT,stR,jI,Option.getD_some,zd,zb,za,go_sem,reduceCtorEq,reduceIte,Nat.reduceEqDiff,Nat.reduceAdd,Nat.reduceSub,Nat.reduceMul,Nat.reduceLT,Nat.reduceLeDiff,Nat.reduceBEq,Int.reduceEq,Int.reduceLT,Int.reduceLE,Int.reduceAdd,Int.reduceSub,Int.reduceNeg,Int.reduceToNat]
      omega
  ·rw[hst]at h4
   have em1:(0:Int)≤(m:Int):=by omega
   have em2:(m:Int)≤(L.length:Int):=by omega
   have emn:¬(m:Int)<0:=by omega
   have emt:((m:Int)+1).toNat=m+1:=by omega
   have htk:List.take m (L.map Pa.enc)=(L.take m).map Pa.enc:=by rw[List.map_take]
   have hd1:(0:Int)≤(m:Int)+1:=by omega
   have hd2:(m:Int)+1≤(L.length:Int):=by omega
   have hdr:List.take (L.length - (m+1)) (List.drop (m+1) (L.map Pa.enc))=(L.drop (m+1)).map Pa.enc:=by rw[←List.map_drop,List.take_of_length_le (by simp)]
   have hone:Y2 (L.take m):=⟨by rw[List.length_take];omega,fun p hp=>hPL.2 p (List.mem_of_mem_take hp)⟩
   have hlm:(L.take m).length=m:=by rw[List.length_take];omega
   generalize hO:L.take m=one at*
   match one,hone,h4,htk,hlm with
   | [],hone,h4,htk,hlm=>
     simp only[jC,Option.map_none]at h4
     subst h4
     have hlm0:(0:Int)≤(L.length:Int):=by omega
     have hm0:m=0:=by simpa using hlm.symm
     subst hm0
     have hd0:yX (.slc 4 [])= []:=rfl
     simp only[hix,hL1,em1,em2,emn,emt,hd1,hd2,htk,hdr,Nat.sub_zero,hO,pas,zC,V.boo_c,hd0,stR,List.map_nil,List.length_nil,Nat.zero_le,Int.lt_irrefl,hlm0,zd,zb,za,go_sem,reduceCtorEq,reduceIte,Nat.reduceEqDiff,Nat.reduceAdd,Nat.reduceSub,Nat.reduceMul,Nat.reduceLT,Nat.reduceLeDiff,Nat.reduceBEq,Int.reduceEq,Int.reduceLT,Int.reduceLE,Int.reduceAdd,Int.reduceSub,Int.reduceNeg,Int.reduceToNat]
   |x::r,hone,h4,htk,hlm=>
    obtain⟨kx,kr⟩:(yW x∧okT x.al)∧Y2 r:=⟨hone.2 x (by simp),by have:=hone.1;simp at this;omega,fun p hp=>hone.2 p (by simp[hp])⟩
    have hx0:=kx.1
    have hrl:r.length≤1000001:=kr.1
    have hl0:(((r.length+1:Nat):Int)=0)=False:=eq_false (by omega)
    have hlp:(0:Int)<((r.length+1:Nat):Int):=by omega
    have hl1:(1:Int)≤((r.length+1:Nat):Int):=by omega
    have htr:r.take (r.length+1 - 1)=r:=List.take_of_length_le (by omega)
    have hpe:yX (.slc 4 ([vi x.t.kind,vs x.t.text,vi x.t.n,.slc 3 (x.al.map Tok.enc)]::r.map Pa.enc))=x::r:=zC 4 (x::r)
    have hrl1:r.length+1≤1000001:=hone.1
    have hml:m=r.length+1:=by simpa using hlm.symm
    have hzm:((m:Int)=0)=False:=eq_false (by omega)
    cases hn2:zJ x with
    |false=>
     rw[ZZ hn2]at h4
     simp only[Option.map_none]at h4
     subst h4
     simp only[hix,hL1,em1,em2,emn,emt,hd1,hd2,htk,hdr,Nat.sub_zero,hO,pas,zC,V.boo_c,hpe,hrl1,hl0,hlp,hl1,htr,Int.le_refl,hx0,kr,List.map_cons,List.length_cons,Pa.enc,zm,Pa.eta',hn2,stR,zd,zb,za,go_sem,reduceCtorEq,reduceIte,Nat.reduceEqDiff,Nat.reduceAdd,Nat.reduceSub,Nat.reduceMul,Nat.reduceLT,Nat.reduceLeDiff,Nat.reduceBEq,Int.reduceEq,Int.reduceLT,Int.reduceLE,Int.reduceAdd,Int.reduceSub,Int.reduceNeg,Int.reduceToNat]
    |true=>
     match hI:itL true r with
     |none=>
      rw[qi (.inl hI)]at h4
      simp only[Option.map_none]at h4
      subst h4
      simp only[hix,hL1,em1,em2,emn,emt,hd1,hd2,htk,hdr,Nat.sub_zero,hO,pas,zC,V.boo_c,hpe,hrl1,hl0,hlp,hl1,htr,Int.le_refl,hx0,kr,List.map_cons,List.length_cons,Pa.enc,zm,Pa.eta',hn2,hI,kX,qT,stR,Option.getD_none,Option.getD_some,List.length_nil,List.map_nil,Int.lt_irrefl,zd,zb,za,go_sem,reduceCtorEq,reduceIte,Nat.reduceEqDiff,Nat.reduceAdd,Nat.reduceSub,Nat.reduceMul,Nat.reduceLT,Nat.reduceLeDiff,Nat.reduceBEq,Int.reduceEq,Int.reduceLT,Int.reduceLE,Int.reduceAdd,Int.reduceSub,Int.reduceNeg,Int.reduceToNat]
     |some []=>
      rw[qi (.inr hI)]at h4
      simp only[Option.map_none]at h4
      subst h4
      simp only[hix,hL1,em1,em2,emn,emt,hd1,hd2,htk,hdr,Nat.sub_zero,hO,pas,zC,V.boo_c,hpe,hrl1,hl0,hlp,hl1,htr,Int.le_refl,hx0,kr,List.map_cons,List.length_cons,Pa.enc,zm,Pa.eta',hn2,hI,kX,qT,stR,Option.getD_none,Option.getD_some,List.length_nil,List.map_nil,Int.lt_irrefl,zd,zb,za,go_sem,reduceCtorEq,reduceIte,Nat.reduceEqDiff,Nat.reduceAdd,Nat.reduceSub,Nat.reduceMul,Nat.reduceLT,Nat.reduceLeDiff,Nat.reduceBEq,Int.reduceEq,Int.reduceLT,Int.reduceLE,Int.reduceAdd,Int.reduceSub,Int.reduceNeg,Int.reduceToNat]
     |some (y::ys)=>
      rw[kI hn2 hI]at h4
      have hap:List.map Stp.enc out++ [[vs x.t.text,vi 0,.slc 5 (y.enc::List.map Itm.enc ys)]]=List.map Stp.enc (out++ [(⟨x.t.text,0,y::ys⟩:Stp)]):=by simp[Stp.enc]
      have htS:List.take (out.length+1) (out++ [(⟨x.t.text,0,y::ys⟩:Stp)])=out++ [(⟨x.t.text,0,y::ys⟩:Stp)]:=List.take_of_length_le (by simp)
      have hlS:(out++ [(⟨x.t.text,0,y::ys⟩:Stp)]).length=out.length+1:=by simp
      have hyp:(0:Int)<((ys.length+1:Nat):Int):=by omega
      simp only at h4
      simp only[hix,hL1,em1,em2,emn,emt,hd1,hd2,htk,hdr,Nat.sub_zero,hO,pas,zC,V.boo_c,hpe,hrl1,hl0,hlp,hl1,htr,Int.le_refl,hx0,kr,List.map_cons,List.length_cons,Pa.enc,zm,Pa.eta',hn2,hI,hyp,hot,hap,htS,hlS,kX,qT,Option.getD_some,zd,zb,za,go_sem,reduceCtorEq,reduceIte,Nat.reduceEqDiff,Nat.reduceAdd,Nat.reduceSub,Nat.reduceMul,Nat.reduceLT,Nat.reduceLeDiff,Nat.reduceBEq,Int.reduceEq,Int.reduceLT,Int.reduceLE,Int.reduceAdd,Int.reduceSub,Int.reduceNeg,Int.reduceToNat]
      refine⟨⟨by omega,by omega,by omega⟩,by omega,⟨L.drop (m+1),out++ [⟨x.t.text,0,y::ys⟩],clk+1,clk+1+1⟩,⟨⟨by simp;omega,fun p hp=>hPL.2 p (List.mem_of_mem_drop hp)⟩,by simp;omega,?_⟩,by simp;omega,⟨rfl,rfl,by simp⟩,⟨rfl,rfl⟩,rfl⟩
      rw[←h4];cases qG [] (L.drop (m+1))<;>simp
def WH:Sum Tryz.prog:=⟨43,fun args=>args= [zj (zh (args.getD 0 .any))]∧okT (zh (args.getD 0 .any)),fun args=>zbQ (stO (zh (args.getD 0 .any))),fun args h=>by
 have:=zjw (zh (args.getD 0 .any)) h.2;rwa [←h.1]at this,false⟩
theorem zuA:WH.f=43:=rfl
theorem zuz(args:List V):WH.D args=(args= [zj (zh (args.getD 0 .any))]∧okT (zh (args.getD 0 .any))):=rfl
theorem zhJ:WH.flat=false:=rfl
theorem zuB(args:List V):WH.r args=zbQ (stO (zh (args.getD 0 .any))):=rfl
attribute [go_sem] zuA zuz zhJ zuB
theorem yQ(S:Nat→Bool)(h:Heap)(cs:List V):res S h 11 (.agg cs)=(zB (res S h 10) cs).map .agg:=rfl
theorem qp(S:Nat→Bool)(h:Heap)(sz:Nat)(es:List (List V)):res S h 10 (.slc sz es)=some (.slc sz es):=rfl
theorem zmk{s:List (List Rul)}{k:Nat}(h:k<s.length)(h4:k≤4)(hn:Jl (s.getD k [])=false):KX s=false:=
 decide_eq_false fun hh=>by have:=hh.1 k h h4;rw[hn]at this;cases this
def zr3(s:List (List Rul)):Prop:=∀l∈s,∀r∈l,zbu r
theorem zml(s:List (List Rul))(l0:List Node)(hs:zr3 s):zg Tryz.prog 13 [yz s,zo l0] (vb (KX s&&Yv l0)):=by
 refine zg.of (Orc.cons XD (Orc.cons XF (Orc.nil _))) zzN (by simp[c13]) fun w0 o0=> ?_
 simp -implicitDefEqProofs only[c13,yz,zo,zd,zb,za,go_sem,seval,reduceIte,reduceCtorEq]
 refine zD.lp (α:=FdS) (fun a=>[(0,.slc 1 (s.map shE)),(1,.slc 6 (l0.map Node.enc)),(5,vi a.k)]) (fun a=>⟨[],a.clk⟩)
  (fun a=>a.k≤s.length∧a.k≤5∧∀i,i<a.k→Jl (s.getD i [])=true) (fun a=>s.length - a.k) ⟨0,0⟩ ⟨Nat.zero_le _,by dsimp only;omega,fun i hi=>by simp at hi⟩ (St.cut ?_ ?_ ?_) fun a ha=> ?_
 ·simp[zu,zk,zt]
 ·rfl
 ·rfl
 obtain⟨k,clk⟩:=a
 obtain⟨g1,g5,g2⟩:=ha
 simp only at g1 g5 g2
 by_cases he:k<s.length∧k≤4
 case neg=>
  by_cases c:s.length≤4
  ·have hR:KX s=true:=decide_eq_true ⟨fun i hi _=>g2 i (by omega),c⟩
   have n4:=eq_true (show(s.length:Int)≤4 by omega)
   have f1:=eq_false (show ¬(k:Int)<(s.length:Int)by omega)
   simp -implicitDefEqProofs only[hR,n4,zo,zr,Bool.true_and,Bool.false_and,f1,List.length_map,zd,zb,za,go_sem,seval,reduceIte,reduceCtorEq]
  ·have hR:KX s=false:=decide_eq_false fun h=>c h.2
   have n4:=eq_false (show ¬(s.length:Int)≤4 by omega)
   by_cases hk:k<s.length
   ·have f1:=eq_true (show(k:Int)<(s.length:Int)by omega)
    have f4:=eq_false (show ¬(k:Int)≤4 by omega)
    simp -implicitDefEqProofs only[hR,n4,zo,zr,Bool.true_and,Bool.false_and,f1,f4,List.length_map,zd,zb,za,go_sem,seval,reduceIte,reduceCtorEq]
   ·have f1:=eq_false (show ¬(k:Int)<(s.length:Int)by omega)
    simp -implicitDefEqProofs only[hR,n4,zo,zr,Bool.true_and,Bool.false_and,f1,List.length_map,zd,zb,za,go_sem,seval,reduceIte,reduceCtorEq]
 obtain⟨k1,k2⟩:=he
 have f1:=eq_true (show(k:Int)<(s.length:Int)by omega)
 have f4:=eq_true (show(k:Int)≤4 by omega)
 have f0:=eq_true (show(0:Int)≤(k:Int)by omega)
 have hg:=fun z=>Wf s k z (by omega)
 have hno:=zmk (s:=s) k1 k2
 have hnx:Jl (s.getD k [])=true→∀i,i<k+1→Jl (s.getD i [])=true:=fun h i hi=>by
  by_cases e:i=k
  ·rw[e];exact h
  ·exact g2 i (by omega)
 have hrk:=hs _ (yh (d:=[]) k1)
 generalize s.getD k []=l at*
 cases hf:Jl l with
 |true=>
  simp -implicitDefEqProofs only[f0,f1,f4,hg,hf,shE,zjg,X9,List.length_map,zd,zb,za,go_sem,seval,reduceIte,reduceCtorEq]
  exact⟨hrk,⟨by omega,by omega⟩,⟨k+1,clk⟩,⟨by dsimp only;omega,by dsimp only;omega,hnx hf⟩,by dsimp only;omega,by dsimp only;omega,rfl⟩
 |false=>
  have h0:=hno hf
  simp -implicitDefEqProofs only[f0,f1,f4,hg,hf,h0,Bool.false_and,shE,zjg,X9,List.length_map,zd,zb,za,go_sem,seval,reduceIte,reduceCtorEq]
  exact hrk
def ZI:Sum Tryz.prog:=⟨13,fun args=>args= [yz (zY (args.getD 0 .any)),zo (zl (args.getD 1 .any))]∧zr3 (zY (args.getD 0 .any)),fun args=>vb (KX (zY (args.getD 0 .any))&&Yv (zl (args.getD 1 .any))),fun args h=>by
 have:=zml (zY (args.getD 0 .any)) (zl (args.getD 1 .any)) h.2;rwa [←h.1]at this,true⟩
theorem zjK:ZI.f=13:=rfl
theorem zjJ(args:List V):ZI.D args=(args= [yz (zY (args.getD 0 .any)),zo (zl (args.getD 1 .any))]∧zr3 (zY (args.getD 0 .any))):=rfl
theorem zcG:ZI.flat=true:=rfl
theorem zjL(args:List V):ZI.r args=vb (KX (zY (args.getD 0 .any))&&Yv (zl (args.getD 1 .any))):=rfl
attribute [go_sem] zjK zjJ zcG zjL
def prW:List ByteArray:=[⟨#[98,114,101,97,107,45,98,101,102,111,114,101]⟩,⟨#[98,114,101,97,107,45,97,102,116,101,114]⟩,⟨#[112,97,103,101]⟩,⟨#[99,111,117,110,116,101,114,45,114,101,115,101,116]⟩,⟨#[99,111,117,110,116,101,114,45,105,110,99,114,101,109,101,110,116]⟩,⟨#[99,111,117,110,116,101,114,45,115,101,116]⟩,⟨#[115,116,114,105,110,103,45,115,101,116]⟩,⟨#[112,111,115,105,116,105,111,110]⟩]
theorem zi4:zg Tryz.prog 58 [] (Y6 prW):=by
 refine zg.of (Orc.nil _) zAx (by simp[c58]) fun w0 o0=> ?_
 simp -implicitDefEqProofs only[c58,zd,zb,za,go_sem,seval,reduceIte,reduceCtorEq]
 rfl
def Q0:Sum Tryz.prog:=⟨58,fun args=>args= [],fun args=>Y6 prW,fun args h=>by
 have:=zi4;rwa [←h]at this,false⟩
theorem zjY:Q0.f=58:=rfl
theorem zjX(args:List V):Q0.D args=(args= []):=rfl
theorem zcK:Q0.flat=false:=rfl
theorem zjZ(args:List V):Q0.r args=Y6 prW:=rfl
attribute [go_sem] zjY zjX zcK zjZ
def prN(s:ByteArray):Int:=ixS prW (jG s)
theorem zgt(s:ByteArray)(hs:s.size≤1000000):zg Tryz.prog 31 [vs s] (vi (prN s)):=by
 have hl:prW.length≤1000000:=by decide
 refine zg.of (Orc.cons Q0 (Orc.cons QZ (Orc.cons WC (Orc.nil _)))) zAb (by simp[c31]) fun w0 o0=> ?_
 simp -implicitDefEqProofs only[c31,hs,hl,Y6,Yt,prN,zd,zb,za,go_sem,seval,reduceIte,reduceCtorEq]
def Q2:Sum Tryz.prog:=⟨31,fun args=>args= [vs ((args.getD 0 .any).str)]∧(((args.getD 0 .any).str)).size≤1000000,fun args=>vi (prN ((args.getD 0 .any).str)),fun args h=>by
 have:=zgt ((args.getD 0 .any).str) h.2;rwa [←h.1]at this,true⟩
theorem zj4:Q2.f=31:=rfl
theorem zj3(args:List V):Q2.D args=(args= [vs ((args.getD 0 .any).str)]∧(((args.getD 0 .any).str)).size≤1000000):=rfl
theorem zcM:Q2.flat=true:=rfl
theorem zj5(args:List V):Q2.r args=vi (prN ((args.getD 0 .any).str)):=rfl
attribute [go_sem] zj4 zj3 zcM zj5
theorem Xb(o:Option ByteArray):z7 o= .tup [vs (o.getD ⟨#[]⟩),vb o.isSome]:=by cases o<;>rfl
theorem zCg(v:List Tok)(hv:okQ v):zg Tryz.prog 65 [.pp [zj v]] (vb (spO 0 v).isSome):=by
 refine zg.of (Orc.cons WG (Orc.nil _)) zAD (by simp[c65]) fun w0 o0=> ?_
 simp -implicitDefEqProofs only[c65,spV,jI,zj,zf,hv,zd,zb,za,go_sem,seval,reduceIte,reduceCtorEq]
def zcj:Sum Tryz.prog:=⟨65,fun args=>args= [.pp [zj (zh (((args.getD 0 .any).cs).getD 0 .any))]]∧okQ (zh (((args.getD 0 .any).cs).getD 0 .any)),fun args=>vb (spO 0 (zh (((args.getD 0 .any).cs).getD 0 .any))).isSome,fun args h=>by
 have:=zCg (zh (((args.getD 0 .any).cs).getD 0 .any)) h.2;rwa [←h.1]at this,true⟩
theorem zuJ:zcj.f=65:=rfl
theorem zuI(args:List V):zcj.D args=(args= [.pp [zj (zh (((args.getD 0 .any).cs).getD 0 .any))]]∧okQ (zh (((args.getD 0 .any).cs).getD 0 .any))):=rfl
theorem zhN:zcj.flat=true:=rfl
theorem zuK(args:List V):zcj.r args=vb (spO 0 (zh (((args.getD 0 .any).cs).getD 0 .any))).isSome:=rfl
attribute [go_sem] zuJ zuI zhN zuK
theorem zCh(v:List Tok)(hv:okT v):zg Tryz.prog 66 [.pp [zj v]] (vb (K8 v).isSome):=by
 refine zg.of (Orc.cons Wy (Orc.nil _)) zAE (by simp[c66]) fun w0 o0=> ?_
 simp -implicitDefEqProofs only[c66,zaw,zj,zf,hv,zd,zb,za,go_sem,seval,reduceIte,reduceCtorEq]
def zck:Sum Tryz.prog:=⟨66,fun args=>args= [.pp [zj (zh (((args.getD 0 .any).cs).getD 0 .any))]]∧okT (zh (((args.getD 0 .any).cs).getD 0 .any)),fun args=>vb (K8 (zh (((args.getD 0 .any).cs).getD 0 .any))).isSome,fun args h=>by
 have:=zCh (zh (((args.getD 0 .any).cs).getD 0 .any)) h.2;rwa [←h.1]at this,true⟩
theorem zuM:zck.f=66:=rfl
theorem zuL(args:List V):zck.D args=(args= [.pp [zj (zh (((args.getD 0 .any).cs).getD 0 .any))]]∧okT (zh (((args.getD 0 .any).cs).getD 0 .any))):=rfl
theorem zhO:zck.flat=true:=rfl
theorem zuN(args:List V):zck.r args=vb (K8 (zh (((args.getD 0 .any).cs).getD 0 .any))).isSome:=rfl
attribute [go_sem] zuM zuL zhO zuN
theorem zCi(v:List Tok)(hv:okT v):zg Tryz.prog 67 [.pp [zj v]] (vb (YC v).isSome):=by
 refine zg.of (Orc.cons KH (Orc.nil _)) zAF (by simp[c67]) fun w0 o0=> ?_
 simp -implicitDefEqProofs only[c67,Xb,zj,zf,hv,zd,zb,za,go_sem,seval,reduceIte,reduceCtorEq]
def zcl:Sum Tryz.prog:=⟨67,fun args=>args= [.pp [zj (zh (((args.getD 0 .any).cs).getD 0 .any))]]∧okT (zh (((args.getD 0 .any).cs).getD 0 .any)),fun args=>vb (YC (zh (((args.getD 0 .any).cs).getD 0 .any))).isSome,fun args h=>by
 have:=zCi (zh (((args.getD 0 .any).cs).getD 0 .any)) h.2;rwa [←h.1]at this,true⟩
theorem zuP:zcl.f=67:=rfl
theorem zuO(args:List V):zcl.D args=(args= [.pp [zj (zh (((args.getD 0 .any).cs).getD 0 .any))]]∧okT (zh (((args.getD 0 .any).cs).getD 0 .any))):=rfl
theorem zhP:zcl.flat=true:=rfl
theorem zuQ(args:List V):zcl.r args=vb (YC (zh (((args.getD 0 .any).cs).getD 0 .any))).isSome:=rfl
attribute [go_sem] zuP zuO zhP zuQ
theorem zCj(v:List Tok)(hv:okT v):zg Tryz.prog 68 [.pp [zj v]] (vb (stO v).isSome):=by
 refine zg.of (Orc.cons WH (Orc.nil _)) zAG (by simp[c68]) fun w0 o0=> ?_
 simp -implicitDefEqProofs only[c68,zbQ,jI,zj,zf,hv,zd,zb,za,go_sem,seval,reduceIte,reduceCtorEq]
def zcm:Sum Tryz.prog:=⟨68,fun args=>args= [.pp [zj (zh (((args.getD 0 .any).cs).getD 0 .any))]]∧okT (zh (((args.getD 0 .any).cs).getD 0 .any)),fun args=>vb (stO (zh (((args.getD 0 .any).cs).getD 0 .any))).isSome,fun args h=>by
 have:=zCj (zh (((args.getD 0 .any).cs).getD 0 .any)) h.2;rwa [←h.1]at this,true⟩
theorem zuS:zcm.f=68:=rfl
theorem zuR(args:List V):zcm.D args=(args= [.pp [zj (zh (((args.getD 0 .any).cs).getD 0 .any))]]∧okT (zh (((args.getD 0 .any).cs).getD 0 .any))):=rfl
theorem zhQ:zcm.flat=true:=rfl
theorem zuT(args:List V):zcm.r args=vb (stO (zh (((args.getD 0 .any).cs).getD 0 .any))).isSome:=rfl
attribute [go_sem] zuS zuR zhQ zuT
theorem zCk(v:List Tok)(hv:okT v):zg Tryz.prog 69 [.pp [zj v]] (vb (Wq v).isSome):=by
 refine zg.of (Orc.cons WF (Orc.nil _)) zAH (by simp[c69]) fun w0 o0=> ?_
 simp -implicitDefEqProofs only[c69,Xb,zj,zf,hv,zd,zb,za,go_sem,seval,reduceIte,reduceCtorEq]
def zcn:Sum Tryz.prog:=⟨69,fun args=>args= [.pp [zj (zh (((args.getD 0 .any).cs).getD 0 .any))]]∧okT (zh (((args.getD 0 .any).cs).getD 0 .any)),fun args=>vb (Wq (zh (((args.getD 0 .any).cs).getD 0 .any))).isSome,fun args h=>by
 have:=zCk (zh (((args.getD 0 .any).cs).getD 0 .any)) h.2;rwa [←h.1]at this,true⟩
theorem zuV:zcn.f=69:=rfl
theorem zuU(args:List V):zcn.D args=(args= [.pp [zj (zh (((args.getD 0 .any).cs).getD 0 .any))]]∧okT (zh (((args.getD 0 .any).cs).getD 0 .any))):=rfl
theorem zhR:zcn.flat=true:=rfl
theorem zuW(args:List V):zcn.r args=vb (Wq (zh (((args.getD 0 .any).cs).getD 0 .any))).isSome:=rfl
attribute [go_sem] zuV zuU zhR zuW
def JB(k:Int)(v:List Tok):Bool:=
 if k=0 then(K8 v).isSome else if k=1 then(K8 v).isSome else if k=2 then(YC v).isSome else if k=3 then(spO 0 v).isSome else if k=4 then(spO 0 v).isSome else if k=5 then(spO 0 v).isSome else if k=6 then(stO v).isSome else if k=7 then(Wq v).isSome else false
theorem mg8(a b c d e f g h:V)(k:Int):mget [.int .i64 0,.int .i64 1,.int .i64 2,.int .i64 3,.int .i64 4,.int .i64 5,.int .i64 6,.int .i64 7] [a,b,c,d,e,f,g,h] (.int .i64 k)=
  if k=0 then some a else if k=1 then some b else if k=2 then some c else if k=3 then some d else if k=4 then some e else if k=5 then some f else if k=6 then some g else if k=7 then some h else none:=by
 simp[mget,yd,eq_comm]
theorem zkp(k:Int)(v:List Tok)(hv:okQ v):zg Tryz.prog 36 [vi k,zj v] (vb (JB k v)):=by
 have hT:=hv.1
 refine zg.of (Orc.cons zcj (Orc.cons zck (Orc.cons zcl (Orc.cons zcm (Orc.cons zcn (Orc.nil _)))))) zAg (by simp[c36]) fun w0 o0=> ?_
 unfold JB
 by_cases h:k=0∨k=1∨k=2∨k=3∨k=4∨k=5∨k=6∨k=7
 ·rcases h with rfl|rfl|rfl|rfl|rfl|rfl|rfl|rfl<;>
   simp -implicitDefEqProofs only[c36,mg8,zj,hv,hT,V.cs_pp,zf,List.isEmpty_cons,List.isEmpty_nil,zd,zb,za,go_sem,seval,reduceIte,reduceCtorEq]
 ·have n0:=eq_false (show ¬k=0 by omega)
  have n1:=eq_false (show ¬k=1 by omega)
  have n2:=eq_false (show ¬k=2 by omega)
  have n3:=eq_false (show ¬k=3 by omega)
  have n4:=eq_false (show ¬k=4 by omega)
  have n5:=eq_false (show ¬k=5 by omega)
  have n6:=eq_false (show ¬k=6 by omega)
  have n7:=eq_false (show ¬k=7 by omega)
  simp -implicitDefEqProofs only[c36,mg8,zj,n0,n1,n2,n3,n4,n5,n6,n7,hv,hT,V.cs_pp,zf,List.isEmpty_cons,List.isEmpty_nil,zd,zb,za,go_sem,seval,reduceIte,reduceCtorEq]
def Q4:Sum Tryz.prog:=⟨36,fun args=>args= [vi ((args.getD 0 .any).int),zj (zh (args.getD 1 .any))]∧okQ (zh (args.getD 1 .any)),fun args=>vb (JB ((args.getD 0 .any).int) (zh (args.getD 1 .any))),fun args h=>by
 have:=zkp ((args.getD 0 .any).int) (zh (args.getD 1 .any)) h.2;rwa [←h.1]at this,true⟩
theorem zkf:Q4.f=36:=rfl
theorem zke(args:List V):Q4.D args=(args= [vi ((args.getD 0 .any).int),zj (zh (args.getD 1 .any))]∧okQ (zh (args.getD 1 .any))):=rfl
theorem zcP:Q4.flat=true:=rfl
theorem zkg(args:List V):Q4.r args=vb (JB ((args.getD 0 .any).int) (zh (args.getD 1 .any))):=rfl
attribute [go_sem] zkf zke zcP zkg
theorem zr8{v:List Tok}(hl:v.length≤1000000){s:Sel}(hs:Xd v=some s):okC s:=by
 have hl2:=Q9 v
 unfold Xd zle at hs
 cases hd:yq (Q8 v)with
 |true=>rw[hd,if_pos rfl]at hs;cases hs
 |false=>
  rw[hd,if_neg (by simp)]at hs
  exact zBH (zbv (Xn hd) (by omega) _ 0 0 [] s (Nat.zero_le _) (by simp) (by simp) hs)
theorem zgu{l:List Tok}(hl:l.length≤1000000):∀(P:List (Int×Int))(a:List Sel),Xg l P=some a→a.length=P.length∧∀s∈a,okC s
 | [],a,h=>by
   simp only[Xg,Option.some.injEq]at h
   subst h
   exact⟨rfl,fun s hs=>by cases hs⟩
 |p::ps,a,h=>by
  rw[Xg]at h
  cases ho:Xd ((l.take p.2.toNat).drop p.1.toNat)with
  |none=>rw[ho]at h;cases h
  |some s=>
   rw[ho]at h
   simp only[Option.map_eq_some_iff]at h
   obtain⟨b,hb,rfl⟩:=h
   obtain⟨h1,h2⟩:=zgu hl ps b hb
   refine⟨by simp[h1],fun x hx=> ?_⟩
   rcases List.mem_cons.1 hx with rfl|hx
   ·exact zr8 (by rw[List.length_drop,List.length_take];omega) ho
   ·exact h2 x hx
theorem zlb{l:List Tok}(hl:l.length≤1000){a:List Sel}(h:psC l=some a):okM a:=by
 unfold psC at h
 cases hd:yq l with
 |true=>rw[hd,if_pos rfl]at h;cases h
 |false=>
  rw[hd,if_neg (by simp)]at h
  obtain⟨h1,h2⟩:=zgu (by omega) _ a h
  have h3:=(zbP hd).1
  exact⟨by omega,fun i hi=>h2 _ (by rw[List.getD_eq_getElem?_getD,List.getElem?_eq_getElem hi];exact List.getElem_mem _)⟩
def isE(l:List Node)(k:Int):Bool:=Wc l&&decide (0≤k∧k<l.length)&& !decide ((l.getD k.toNat .zero).type=⟨#[]⟩)
theorem zBu(l:List Node)(k:Int)(hl:l.length≤1000):zg Tryz.prog 34 [zo l,vi k] (vb (isE l k)):=by
 refine zg.of (Orc.cons Kz (Orc.nil _)) zAe (by simp[c34]) fun w0 o0=> ?_
 unfold isE
 by_cases hD:Wc l=true
 ·have c0:(if 0≤K7 l∨l.length=0 then(5:Int)else 0)=0:=by
   unfold Wc at hD;rw[decide_eq_true_eq]at hD;rw[if_neg];omega
  rw[hD,Bool.true_and]
  by_cases h1:0≤k
  ·by_cases h2:k<(l.length:Int)
   ·have hg:=fun z=>yv l k.toNat z (by omega)
    generalize l.getD k.toNat .zero=n at*
    rw[decide_eq_true ⟨h1,h2⟩,Bool.true_and]
    have h1:=eq_true h1
    have h2:=eq_true h2
    by_cases c:n.type=⟨#[]⟩
    ·rw[decide_eq_true c]
     have c:=eq_true c
     simp -implicitDefEqProofs only[c34,zo,zr,qk,Z9,c0,hl,h1,h2,hg,c,Node.enc,List.length_map,zd,zb,za,go_sem,seval,reduceIte,reduceCtorEq]
    ·rw[decide_eq_false c]
     have c:=eq_false c
     simp -implicitDefEqProofs only[c34,zo,zr,qk,Z9,c0,hl,h1,h2,hg,c,Node.enc,List.length_map,zd,zb,za,go_sem,seval,reduceIte,reduceCtorEq]
   ·rw[decide_eq_false (fun h=>h2 h.2),Bool.false_and]
    have h1:=eq_true h1
    have h2:=eq_false h2
    simp -implicitDefEqProofs only[c34,zo,zr,qk,Z9,c0,hl,h1,h2,List.length_map,zd,zb,za,go_sem,seval,reduceIte,reduceCtorEq]
  ·rw[decide_eq_false (fun h=>h1 h.1),Bool.false_and]
   have h1:=eq_false h1
   simp -implicitDefEqProofs only[c34,zo,zr,qk,Z9,c0,hl,h1,List.length_map,zd,zb,za,go_sem,seval,reduceIte,reduceCtorEq]
 ·have c0:(if 0≤K7 l∨l.length=0 then(5:Int)else 0)=5:=by
   unfold Wc at hD;rw[decide_eq_true_eq]at hD;rw[if_pos];omega
  rw[Bool.eq_false_iff.2 hD,Bool.false_and,Bool.false_and]
  simp -implicitDefEqProofs only[c34,zo,zr,qk,Z9,c0,hl,List.length_map,zd,zb,za,go_sem,seval,reduceIte,reduceCtorEq]
def Jw:Sum Tryz.prog:=⟨34,fun args=>args= [zo (zl (args.getD 0 .any)),vi ((args.getD 1 .any).int)]∧((zl (args.getD 0 .any))).length≤1000,fun args=>vb (isE (zl (args.getD 0 .any)) ((args.getD 1 .any).int)),fun args h=>by
 have:=zBu (zl (args.getD 0 .any)) ((args.getD 1 .any).int) h.2;rwa [←h.1]at this,true⟩
theorem zth:Jw.f=34:=rfl
theorem ztg(args:List V):Jw.D args=(args= [zo (zl (args.getD 0 .any)),vi ((args.getD 1 .any).int)]∧((zl (args.getD 0 .any))).length≤1000):=rfl
theorem zhe:Jw.flat=true:=rfl
theorem zti(args:List V):Jw.r args=vb (isE (zl (args.getD 0 .any)) ((args.getD 1 .any).int)):=rfl
attribute [go_sem] zth ztg zhe zti
def abC(r:Rul)(l:List Node)(k:Int):W3×Bool:=if r.kind=1 then(if(psC r.pre).isSome=true then Ja l k (⟨0,0,0⟩,false) ((psC r.pre).getD [])else(⟨0,0,0⟩,false))else(⟨0,0,0⟩,false)
theorem zio(r:Rul)(l:List Node)(k:Int)(hr:shR r)(hl:l.length≤1000)(hn:jS l):zg Tryz.prog 35 [.agg r.enc,zo l,vi k] (.tup [.agg (abC r l k).1.enc,vb (abC r l k).2]):=by
 have hp:=hr.1.1
 obtain⟨kd,pre,ds,ms⟩:=r
 simp only at hp
 have hM:okM ((psC pre).getD []):=by
  cases h:psC pre with
  |none=>exact⟨by simp,fun i hi=>by simp at hi⟩
  |some a=>exact zlb (by omega) h
 have hp6:pre.length≤1000000:=by omega
 refine zg.of (Orc.cons XO (Orc.cons Xu (Orc.nil _))) zAf (by simp[c35]) fun w0 o0=> ?_
 unfold abC
 simp only
 by_cases c:kd=1
 ·rw[if_pos c]
  have c:=eq_true c
  generalize hO:psC pre=o at*
  generalize hS:o.getD []=S at*
  cases ho:o.isSome with
  |false=>
   rw[if_neg (by simp)]
   simp -implicitDefEqProofs only[c35,Rul.enc,c,hO,hS,ho,hp6,zbE,W3.enc,yQ,qp,k9,zj,zf,List.isEmpty_cons,zd,zb,za,go_sem,seval,reduceIte,reduceCtorEq]
  |true=>
   rw[if_pos rfl]
   generalize hB:Ja l k (⟨0,0,0⟩,false) S=B at*
   obtain⟨⟨wa,wb,wc⟩,b⟩:=B
   simp -implicitDefEqProofs only[c35,Rul.enc,c,hO,hS,ho,hM,hB,hl,hn,hp6,zbE,k9,Wb,zo,zr,W3.enc,yQ,qp,k9,zj,zf,List.isEmpty_cons,zd,zb,za,go_sem,seval,reduceIte,reduceCtorEq]
 ·rw[if_neg c]
  have c:=eq_false c
  simp -implicitDefEqProofs only[c35,Rul.enc,c,W3.enc,yQ,qp,k9,zj,zf,List.isEmpty_cons,zd,zb,za,go_sem,seval,reduceIte,reduceCtorEq]
def Xp:Sum Tryz.prog:=⟨35,fun args=>args= [.agg (Rul.enc (YS (args.getD 0 .any))),zo (zl (args.getD 1 .any)),vi ((args.getD 2 .any).int)]∧shR (YS (args.getD 0 .any))∧((zl (args.getD 1 .any))).length≤1000∧jS (zl (args.getD 1 .any)),fun args=>.tup [.agg (abC (YS (args.getD 0 .any)) (zl (args.getD 1 .any)) ((args.getD 2 .any).int)).1.enc,vb (abC (YS (args.getD 0 .any)) (zl (args.getD 1 .any)) ((args.getD 2 .any).int)).2],fun args h=>by
 have:=zio (YS (args.getD 0 .any)) (zl (args.getD 1 .any)) ((args.getD 2 .any).int) h.2.1 h.2.2.1 h.2.2.2;rwa [←h.1]at this,false⟩
theorem znk:Xp.f=35:=rfl
theorem znj(args:List V):Xp.D args=(args= [.agg (Rul.enc (YS (args.getD 0 .any))),zo (zl (args.getD 1 .any)),vi ((args.getD 2 .any).int)]∧shR (YS (args.getD 0 .any))∧((zl (args.getD 1 .any))).length≤1000∧jS (zl (args.getD 1 .any))):=rfl
theorem zei:Xp.flat=false:=rfl
theorem znl(args:List V):Xp.r args= .tup [.agg (abC (YS (args.getD 0 .any)) (zl (args.getD 1 .any)) ((args.getD 2 .any).int)).1.enc,vb (abC (YS (args.getD 0 .any)) (zl (args.getD 1 .any)) ((args.getD 2 .any).int)).2]:=rfl
attribute [go_sem] znk znj zei znl
def ZD(ss:List (List Rul)):Prop:=∀l∈ss,l.length≤8∧∀r∈l,shR r∧zbu r
theorem zr0{r:Rul}(h:shR r∧zbu r):∀d∈r.ds,d.nm.size≤1000000∧okQ d.v:=fun d hd=>by
 obtain⟨h3,h4,h5⟩:=h.1.2.1.2 d hd
 exact⟨by omega,⟨by omega,fun t ht=>by have:=h5 t ht;omega⟩,fun t ht=>h.2.2.1.2 d hd t ht⟩
structure Cst where
 k:Ky
 v:List Tok
 b:Bool
 o:Int
def zdR(pr n:Int)(w:W3)(b:Bool)(s:Cst)(d:Dcl):Cst:=
 if b=true∧prN d.nm=pr∧JB pr d.v=true∧(s.b=false∨bts ⟨lvl n d.imp,w,s.o+1⟩ s.k=true)then⟨⟨lvl n d.imp,w,s.o+1⟩,d.v,true,s.o+1⟩else⟨s.k,s.v,s.b,s.o+1⟩
def cD(pr n:Int)(w:W3)(b:Bool)(ds:List Dcl)(s:Cst):Nat→Cst
 |0=>s
 |j+1=>zdR pr n w b (cD pr n w b ds s j) (ds.getD j default)
def cR(pr n:Int)(l:List Node)(k:Int)(rs:List Rul)(s:Cst):Nat→Cst
 |0=>s
 |j+1=>cD pr n (abC (rs.getD j default) l k).1 (abC (rs.getD j default) l k).2 (rs.getD j default).ds (cR pr n l k rs s j) (rs.getD j default).ds.length
def cZ:Cst:=⟨⟨0,⟨0,0,0⟩,0⟩,[],false,-1⟩
def cS(pr:Int)(l:List Node)(k:Int)(ss:List (List Rul)):Nat→Cst
 |0=>cZ
 |n+1=>cR pr n l k (ss.getD n []) (cS pr l k ss n) (ss.getD n []).length
def cV(s:Cst):V:=if s.b=true then .slc 3 (s.v.map Tok.enc)else zA
def cOK(s:Cst):Prop:=okQ s.v∧(s.b=false→s.v= [])
theorem zA7(pr n:Int)(w:W3)(b:Bool)(s:Cst)(d:Dcl):(zdR pr n w b s d).o=s.o+1:=by unfold zdR;split<;>rfl
theorem zA3(pr n:Int)(w:W3)(b:Bool)(ds:List Dcl)(s:Cst):∀j,(cD pr n w b ds s j).o=s.o+j
 |0=>by simp[cD]
 |j+1=>by rw[cD,zA7,zA3 pr n w b ds s j];omega
theorem zw1{pr n:Int}{w:W3}{b:Bool}{s:Cst}{d:Dcl}(h:cOK s)(hd:okQ d.v):cOK (zdR pr n w b s d):=by
 unfold zdR;split
 ·exact⟨hd,fun h=>by cases h⟩
 ·exact h
theorem zwS(v:List Tok)(hv:v.length≤1000000):zg Tryz.prog 37 [zj v] (zj v):=by
 cases v with
 |nil=>
  refine⟨(Zu X4).1,fun F w cargs hF hs hp=> ?_⟩
  have hv:=hp 0 (by simp)
  simp only[List.getD_cons_zero,zj,List.map_nil]at hv
  generalize hcv:cargs.getD 0 undef=cv at hv
  have hE:∀(a:Option Addr)(cap:Nat),zg Tryz.prog 37 [.c (.slice a 0 cap)] (.slc 3 []):=fun a cap=>by
   cases a with
   |none=>exact zg.rsub (X5 cap) fun F w v h=>PRep.nilS 3 h
   |some a=>
    refine zg.of (Orc.nil _) X4 (by simp[c37]) fun w0 o0=> ?_
    simp only[c37,Heap.nilV,Option.isNone_some,go_sem,zc,seval,reduceIte,reduceCtorEq]
  cases hv with
  |slc a n cap sz es b' o' ys hn' hc hsz ha hy hry=>
  simp only[List.length_nil]at hn'
  subst hn'
  refine(hE a cap).2 F w cargs hF hs fun i hi=> ?_
  match i,hi with
  |0,_=>rw[hcv];exact .c _
  |i+1,hi=>exact absurd hi (by simp)
 |cons c l=>
  refine zg.of (Orc.nil _) X4 (by simp[c37]) fun w0 o0=> ?_
  have h1:=eq_true (show(c::l).length≤1099511627776 by omega)
  have h2:=eq_true (show(c::l).length*32≤140737488355328 by omega)
  have hm:=fun S h=>qt S h (c::l)
  simp only[List.length_cons]at h1 h2
  simp only[List.map_cons]at hm
  simp -implicitDefEqProofs only[c37,zj,Heap.nilV,h1,h2,hm,List.map_cons,List.length_cons,List.length_map,Nat.le_refl,List.take_length,go_sem,zc,seval,reduceIte,reduceCtorEq]
def QV:Sum Tryz.prog:=⟨37,fun args=>args= [zA]∨(args= [zj (zh (args.getD 0 .any))]∧(zh (args.getD 0 .any)).length≤1000000),fun args=>args.getD 0 .any,fun args h=>by
 rcases h with h|⟨h,h1⟩
 ·subst h;exact X5 0
 ·have:=zwS _ h1
  generalize zh (args.getD 0 .any)=X at*
  subst h;exact this,false⟩
theorem qe:QV.f=37:=rfl
theorem qd(args:List V):QV.D args=(args= [zA]∨(args= [zj (zh (args.getD 0 .any))]∧(zh (args.getD 0 .any)).length≤1000000)):=rfl
theorem ym:QV.flat=false:=rfl
theorem qf(args:List V):QV.r args=args.getD 0 .any:=rfl
attribute [go_sem] qe qd ym qf
structure CwS where
 j:Nat
 s:Cst
 clk:Nat
def zK5:List V:=[vi 0,vi 0,vi 0,vi 0,vi 0]
def zyG(s:Cst):V:=.tup [.agg s.k.enc,cV s,vb s.b]
theorem zy3{pr n:Int}{w:W3}{b:Bool}{ds:List Dcl}{s:Cst}(h:cOK s)(hd:∀d∈ds,okQ d.v):∀j,j≤ds.length→cOK (cD pr n w b ds s j)
 |0,_=>h
 |j+1,hj=>zw1 (zy3 h hd j (by omega)) (hd _ (yh (by omega)))
theorem zA4{pr n:Int}{l:List Node}{k:Int}{rs:List Rul}{s:Cst}(h:∀r∈rs,r.ds.length≤8):∀j,j≤rs.length→s.o≤(cR pr n l k rs s j).o∧(cR pr n l k rs s j).o≤s.o+8*j
 |0,_=>by rw[cR];omega
 |j+1,hj=>by
  have h1:=zA4 (pr:=pr) (n:=n) (l:=l) (k:=k) (s:=s) h j (by omega)
  have h2:=h _ (yh (d:=default) (show j<rs.length by omega))
  rw[cR,zA3];omega
theorem zy4{pr n:Int}{l:List Node}{k:Int}{rs:List Rul}{s:Cst}(h:cOK s)(hr:∀r∈rs,shR r∧zbu r):∀j,j≤rs.length→cOK (cR pr n l k rs s j)
 |0,_=>h
 |j+1,hj=>zy3 (zy4 h hr j (by omega)) (fun d hd=>((zr0 (hr _ (yh (by omega))) d hd).2)) _ (Nat.le_refl _)
theorem zCy{pr:Int}{l:List Node}{k:Int}{ss:List (List Rul)}(h:ZD ss):∀n,n≤ss.length→ -1≤(cS pr l k ss n).o∧(cS pr l k ss n).o≤64*n
 |0,_=>by rw[cS];decide
 |n+1,hn=>by
  have h1:=zCy (pr:=pr) (l:=l) (k:=k) h n (by omega)
  obtain⟨h2,h3⟩:=h _ (yh (d:=[]) (show n<ss.length by omega))
  have h4:=zA4 (pr:=pr) (n:=n) (l:=l) (k:=k) (s:=cS pr l k ss n) (fun r hr=>(h3 r hr).1.2.1.1) (ss.getD n []).length (Nat.le_refl _)
  rw[cS];omega
theorem zkL{pr:Int}{l:List Node}{k:Int}{ss:List (List Rul)}(h:ZD ss):∀n,n≤ss.length→cOK (cS pr l k ss n)
 |0,_=>⟨⟨⟨by rw[cS];decide,fun t ht=>by cases ht⟩,fun t ht=>by cases ht⟩,fun _=>rfl⟩
 |n+1,hn=>zy4 (zkL h n (by omega)) (h _ (yh (by omega))).2 _ (Nat.le_refl _)
theorem zfa(ss:List (List Rul))(l:List Node)(k pr:Int)(h3:ss.length≤3)(hE:isE l k=true)(hl:l.length≤1000)(hn:jS l)(hs:ZD ss):zg Tryz.prog 14 [yz ss,zo l,vi k,vi pr] (zyG (cS pr l k ss ss.length)):=by
 have e3:=eq_false (show ¬(3:Int)<(ss.length:Int)by omega)
 have hok:=zkL (pr:=pr) (l:=l) (k:=k) hs ss.length (Nat.le_refl _)
 refine zg.of (Orc.cons Jw (Orc.cons Xp (Orc.cons zb9 (Orc.cons Q2 (Orc.cons Q4 (Orc.cons zbV (Orc.cons QV (Orc.nil _)))))))) zzO (by simp[c14]) fun w0 o0=> ?_
 generalize hR:cS pr l k ss ss.length=R at*
 simp -implicitDefEqProofs only[c14,e3,hE,hl,yz,zo,zr,zM,Rul.enc,Dcl.enc,W3.enc,Ky.enc,zj,zf,List.length_map,List.isEmpty_cons,List.isEmpty_nil,zd,zb,za,qe,qd,ym,qf,go_sem,seval,reduceIte,reduceCtorEq]
 refine zD.lp (α:=CwS) (fun a=>[(1,.slc 6 (l.map Node.enc)),(2,vi k),(3,vi pr),(8,.ptr 0 0 0 0),(11,.ptr 1 1 0 0),(12,cV a.s),(13,vb a.s.b),(14,vi a.s.o),(34,.slc 1 (ss.map shE)),(35,vi ss.length),(36,vi a.j)])
  (fun a=>⟨[⟨0,5,[zK5],false,[]⟩,⟨1,5,[a.s.k.enc],false,[]⟩],a.clk⟩) (fun a=>a.j≤ss.length∧a.s=cS pr l k ss a.j) (fun a=>ss.length - a.j) ⟨0,cZ,2⟩ ⟨Nat.zero_le _,rfl⟩ (St.cut ?_ ?_ ?_) fun a ha=> ?_
 ·simp[zu,zk,zt,zp,cV,cZ]
 ·simp[zK5,cZ,Ky.enc]
 ·rfl
 obtain⟨i,s,clk⟩:=a
 obtain⟨g1,g2⟩:=ha
 simp only at g1 g2
 by_cases he:i=ss.length
 ·subst he
  rw[hR]at g2
  subst g2
  obtain⟨⟨kl,⟨ka,kb,kc⟩,ko⟩,sv,sb,so⟩:=s
  obtain⟨hv,hb⟩:=hok
  have hvl:=hv.1.1
  clear hv hb
  simp only at hvl
  cases sb with
  |false=>simp -implicitDefEqProofs only[Int.lt_irrefl,zyG,cV,zK5,hvl,yQ,qp,yz,zo,zr,zM,Rul.enc,Dcl.enc,W3.enc,Ky.enc,zj,zf,List.length_map,List.isEmpty_cons,List.isEmpty_nil,zd,zb,za,qe,qd,ym,qf,go_sem,seval,reduceIte,reduceCtorEq]
  |true=>
   simp -implicitDefEqProofs only[Int.lt_irrefl,zyG,cV,zK5,hvl,yQ,qp,yz,zo,zr,zM,Rul.enc,Dcl.enc,W3.enc,Ky.enc,zj,zf,List.length_map,List.isEmpty_cons,List.isEmpty_nil,zd,zb,za,qe,qd,ym,qf,go_sem,seval,reduceIte,reduceCtorEq]
 have f1:=eq_true (show(i:Int)<(ss.length:Int)by omega)
 have f0:=eq_true (show(0:Int)≤(i:Int)by omega)
 have hg:=fun z=>Wf ss i z (by omega)
 obtain⟨hl8,hrr⟩:=hs _ (yh (d:=([]:List Rul)) (show i<ss.length by omega))
 have hN:cS pr l k ss (i+1)=cR pr i l k (ss.getD i []) s (ss.getD i []).length:=by rw[cS,g2]
 have hso:=zCy (pr:=pr) (l:=l) (k:=k) hs i g1
 rw[←g2]at hso
 generalize ss.getD i []=rs at*
 clear hR hok
 simp -implicitDefEqProofs only[f0,f1,hg,shE,yz,zo,zr,zM,Rul.enc,Dcl.enc,W3.enc,Ky.enc,zj,zf,List.length_map,List.isEmpty_cons,List.isEmpty_nil,zd,zb,za,qe,qd,ym,qf,go_sem,seval,reduceIte,reduceCtorEq]
 refine zD.lp (α:=CwS) (fun a=>[(1,.slc 6 (l.map Node.enc)),(2,vi k),(3,vi pr),(8,.ptr 0 0 0 0),(11,.ptr 1 1 0 0),(12,cV a.s),(13,vb a.s.b),(14,vi a.s.o),(15,vi i),(34,.slc 1 (ss.map shE)),(35,vi ss.length),(36,vi i),(41,.slc 4 (rs.map Rul.enc)),(42,vi rs.length),(43,vi a.j)])
  (fun a=>⟨[⟨0,5,[zK5],false,[]⟩,⟨1,5,[a.s.k.enc],false,[]⟩],a.clk⟩) (fun a=>a.j≤rs.length∧a.s=cR pr i l k rs s a.j) (fun a=>rs.length - a.j) ⟨0,s,clk⟩ ⟨Nat.zero_le _,rfl⟩ (St.cut ?_ ?_ ?_) fun a ha=> ?_
 ·simp[zu,zk,zp]
 ·simp[Ky.enc]
 ·rfl
 obtain⟨j,t,clk2⟩:=a
 obtain⟨j1,j2⟩:=ha
 simp only at j1 j2
 by_cases hj:j=rs.length
 ·subst hj
  have e9:=eq_false (show ¬(rs.length:Int)<(rs.length:Int)by omega)
  simp -implicitDefEqProofs only[e9,yz,zo,zr,zM,Rul.enc,Dcl.enc,W3.enc,Ky.enc,zj,zf,List.length_map,List.isEmpty_cons,List.isEmpty_nil,zd,zb,za,qe,qd,ym,qf,go_sem,seval,reduceIte,reduceCtorEq]
  exact⟨by omega,⟨i+1,t,clk2⟩,⟨by dsimp only;omega,by dsimp only;rw[hN];exact j2⟩,by dsimp only;omega,⟨rfl,rfl,rfl,by dsimp only;omega⟩,⟨rfl,rfl,rfl,rfl,rfl⟩,rfl⟩
 have q1:=eq_true (show(j:Int)<(rs.length:Int)by omega)
 have q0:=eq_true (show(0:Int)≤(j:Int)by omega)
 have hgr:=fun z=>We rs j z (by omega)
 have hrj:=hrr _ (yh (d:=default) (show j<rs.length by omega))
 have hN2:cR pr i l k rs s (j+1)=cD pr i (abC (rs.getD j default) l k).1 (abC (rs.getD j default) l k).2 (rs.getD j default).ds t (rs.getD j default).ds.length:=by rw[cR,j2]
 have hto:=zA4 (pr:=pr) (n:=i) (l:=l) (k:=k) (s:=s) (fun r hr=>(hrr r hr).1.2.1.1) j j1
 rw[←j2]at hto
 generalize rs.getD j default=r at*
 have hsh:=hrj.1
 have hd8:=hsh.2.1.1
 have hdd:=zr0 hrj
 obtain⟨kd,pre,ds,ms⟩:=r
 simp only at hd8 hdd hN2
 generalize hab:abC ⟨kd,pre,ds,ms⟩ l k=ab at*
 obtain⟨⟨wa,wb,wc⟩,by'⟩:=ab
 simp only at hN2
 clear hrr hrj
 simp -implicitDefEqProofs only[q0,q1,hgr,hsh,hab,zkO,hl,hn,yz,zo,zr,zM,Rul.enc,Dcl.enc,W3.enc,Ky.enc,zj,zf,List.length_map,List.isEmpty_cons,List.isEmpty_nil,zd,zb,za,qe,qd,ym,qf,go_sem,seval,reduceIte,reduceCtorEq]
 refine zD.lp (α:=CwS) (fun a=>[(1,.slc 6 (l.map Node.enc)),(2,vi k),(3,vi pr),(8,.ptr 0 0 0 0),(11,.ptr 1 1 0 0),(12,cV a.s),(13,vb a.s.b),(14,vi a.s.o),(15,vi i),(18,.ptr 2 clk2 0 0),(19,.ptr 3 (clk2+1) 0 0),(20,vb by'),(34,.slc 1 (ss.map shE)),(35,vi ss.length),(36,vi i),(41,.slc 4 (rs.map Rul.enc)),(42,vi rs.length),(43,vi j),(55,.slc 3 (ds.map Dcl.enc)),(56,vi ds.length),(57,vi a.j)])
  (fun a=>⟨[⟨0,5,[zK5],false,[]⟩,⟨1,5,[a.s.k.enc],false,[]⟩,⟨clk2,4,[[vi kd,.slc 3 (pre.map Tok.enc),.slc 3 (ds.map Dcl.enc),.slc 2 (ms.map Mg.enc)]],false,[]⟩,⟨clk2+1,3,[[vi wa,vi wb,vi wc]],false,[]⟩],a.clk⟩) (fun a=>a.j≤ds.length∧a.s=cD pr i ⟨wa,wb,wc⟩ by' ds t a.j) (fun a=>ds.length - a.j) ⟨0,t,clk2+2⟩ ⟨Nat.zero_le _,rfl⟩ (St.cut ?_ ?_ ?_) fun a ha=> ?_
 ·simp[zu,zk,zp]
 ·simp[Ky.enc]
 ·rfl
 obtain⟨q,u,clk3⟩:=a
 obtain⟨u1,u2⟩:=ha
 simp only at u1 u2
 by_cases hq:q=ds.length
 ·subst hq
  have e9:=eq_false (show ¬(ds.length:Int)<(ds.length:Int)by omega)
  simp -implicitDefEqProofs only[e9,yz,zo,zr,zM,Rul.enc,Dcl.enc,W3.enc,Ky.enc,zj,zf,List.length_map,List.isEmpty_cons,List.isEmpty_nil,zd,zb,za,qe,qd,ym,qf,go_sem,seval,reduceIte,reduceCtorEq]
  exact⟨by omega,⟨j+1,u,clk3⟩,⟨by dsimp only;omega,by dsimp only;rw[hN2];exact u2⟩,by dsimp only;omega,⟨rfl,rfl,rfl,by dsimp only;omega⟩,⟨rfl,rfl,rfl,rfl,rfl⟩,rfl⟩
 have r1:=eq_true (show(q:Int)<(ds.length:Int)by omega)
 have r0:=eq_true (show(0:Int)≤(q:Int)by omega)
 have hgd:=fun z=>Wd ds q z (by omega)
 obtain⟨hnm,hqv⟩:=hdd _ (yh (d:=default) (show q<ds.length by omega))
 have hN3:cD pr i ⟨wa,wb,wc⟩ by' ds t (q+1)=zdR pr i ⟨wa,wb,wc⟩ by' u (ds.getD q default):=by rw[cD,u2]
 have huo:=zA3 pr i ⟨wa,wb,wc⟩ by' ds t q
 rw[←u2]at huo
 generalize ds.getD q default=d at*
 obtain⟨nm,v,imp⟩:=d
 obtain⟨⟨kl,⟨ka,kb,kc⟩,ko⟩,sv,sb,so⟩:=u
 simp only at hnm hqv hN3 huo
 unfold zdR at hN3
 simp only at hN3
 have o1:=eq_true (show -9223372036854775808≤so+1∧so+1≤9223372036854775807 by omega)
 generalize hB:bts ⟨lvl i imp,⟨wa,wb,wc⟩,so+1⟩ ⟨kl,⟨ka,kb,kc⟩,ko⟩=T at*
 generalize hV:JB pr v=vd at*
 by_cases hp:prN nm=pr
 case neg=>
  rw[if_neg (fun h=>hp h.2.1)]at hN3
  have hp:=eq_false hp
  cases by'<;>simp -implicitDefEqProofs only[r0,r1,hgd,hnm,hp,cV,V.boo_c,XY,zh3,zdD,zh9,JH,zfx,WR,V.allK,V.isK,O.still,ZC,Qi,yz,zo,zr,zM,Rul.enc,Dcl.enc,W3.enc,Ky.enc,zj,zf,List.length_map,List.isEmpty_cons,List.isEmpty_nil,zd,zb,za,qe,qd,ym,qf,go_sem,seval,reduceIte,reduceCtorEq]<;>
   exact⟨by omega,by omega,⟨q+1,⟨⟨kl,⟨ka,kb,kc⟩,ko⟩,sv,sb,so+1⟩,clk3+2⟩,⟨by dsimp only;omega,hN3.symm⟩,by dsimp only;omega,⟨rfl,rfl,rfl,by dsimp only;omega⟩,⟨rfl,rfl,rfl,rfl,rfl⟩,rfl⟩
 rw[hp]at hN3
 have hp:=eq_true hp
 cases by'<;>cases vd<;>cases sb<;>cases T<;>simp only[eq_self,Bool.false_eq_true,false_and,and_false,true_and,and_true,or_true,true_or,or_false,or_self,if_true,if_false,reduceCtorEq]at hN3<;>
  simp -implicitDefEqProofs only[r0,r1,hgd,hnm,hqv,hp,hV,hB,cV,ziF,W3.eta,V.boo_c,XY,zh3,zdD,zh9,JH,zfx,WR,V.allK,V.isK,O.still,ZC,Qi,yz,zo,zr,zM,Rul.enc,Dcl.enc,W3.enc,Ky.enc,zj,zf,List.length_map,List.isEmpty_cons,List.isEmpty_nil,zd,zb,za,qe,qd,ym,qf,go_sem,seval,reduceIte,reduceCtorEq]
 all_goals first
  |exact⟨by omega,by omega,⟨q+1,⟨⟨kl,⟨ka,kb,kc⟩,ko⟩,sv,_,so+1⟩,clk3+2⟩,⟨by dsimp only;omega,hN3.symm⟩,by dsimp only;omega,⟨rfl,rfl,rfl,by dsimp only;omega⟩,⟨rfl,rfl,rfl,rfl,rfl⟩,rfl⟩
  |exact⟨by omega,by omega,⟨q+1,⟨⟨lvl i imp,⟨wa,wb,wc⟩,so+1⟩,v,true,so+1⟩,clk3+8⟩,⟨by dsimp only;omega,hN3.symm⟩,by dsimp only;omega,⟨rfl,rfl,rfl,by dsimp only;omega⟩,⟨rfl,rfl,rfl,rfl,rfl⟩,rfl⟩
theorem HRel.upc11{g:Gh}{h:Heap}{w w0:World}{o0:Sx.Own}(H:HRel g h w w0 o0){c:Nat}(hc:h.clk≤c):HRel g ⟨h.bs,c⟩ w w0 o0:=
 ⟨fun j v hu=>Nat.lt_of_lt_of_le (H.clk j v hu) hc,H.len,H.ok,H.vlt,H.dist,H.Flt,H.own,H.frm,H.fin,H.ext,H.glb⟩
theorem zL.walkL11{P:Program}(T:Orc P){f:FuncId}{fc:FnC}(hf:zq P f=some fc){args:List V}{r:V}{h h':Heap}(hn:args.length≤fc.n)
  (hw:∀w0 o0,wpC ⟨P,T,fc.n,w0,o0⟩ fc.body (zbJ fc.rs fun v h2=>v=r∧h2.bs.take h'.bs.length=h'.bs∧h2.clk≤h'.clk) (QF args) h):zL P f args h r h':=by
 refine⟨(Zu hf).1,fun g w w0 o0 cargs H hs hv=> ?_⟩
 have H1:HRel g h w w ⟨fun b=>∃(j:Nat)(I:Inf),g.inf[j]? =some I∧I.blk=some b,g.F,g,[]⟩:=
  ⟨H.clk,H.len,H.ok,H.vlt,H.dist,H.Flt,fun j I b hI hb=>.inl ⟨j,I,hI,hb⟩,Frm.refl _ _,fun b hb=>.inl hb,Ext.refl _ _,H.glbw⟩
 refine(JJ T rfl hf hn (hw w _) H1 hs hv).mono fun e w' he=> ?_
 obtain⟨g1,h1,cv,v,rfl,H2,hcv,rfl,hb,hc⟩:=he
 obtain⟨ex,H3⟩:=H2.drop h'.bs.length
 rw[hb]at H3
 replace H3:=HRel.upc11 H3 (c:=h'.clk) hc
 have hex:=H3.ext
 refine⟨_,cv,rfl,?_,hex,hcv.mono ex⟩
 refine⟨H3.clk,H3.len,H3.ok,H3.vlt,H3.dist,H3.Flt,fun j I b hI hIb=> ?_,?_,fun b hb=> ?_,H.ext.trans hex,H.glb⟩
 ·rcases H3.own j I b hI hIb with⟨k,J,hJ,hJb⟩|hge
  ·exact H.own k J b hJ hJb
  ·exact .inr (Nat.le_trans H.frm.size hge)
 ·refine⟨H3.frm.os.trans H.frm.os,H3.frm.tape.trans H.frm.tape,H3.frm.output.trans H.frm.output,Nat.le_trans H.frm.size H3.frm.size,fun b hlt hno=> ?_⟩
  refine(H3.frm.block b (Nat.lt_of_lt_of_le hlt H.frm.size) ?_).trans (H.frm.block b hlt hno)
  rintro⟨j,I,hI,hIb⟩
  rcases H.own j I b hI hIb with ho|hge
  ·exact hno ho
  ·omega
 ·rcases H3.fin b hb with hF|⟨k,J,hJ,hJb⟩|hge
  ·exact H.fin b hF
  ·exact .inr (H.own k J b hJ hJb)
  ·exact .inr (.inr (Nat.le_trans H.frm.size hge))
def zu7(s:Cst):V:=.tup [.agg s.k.enc,zj s.v,vb s.b]
theorem zh2(ss:List (List Rul))(l:List Node)(k pr:Int)(h3:ss.length≤3)(hE:isE l k=true)(hl:l.length≤1000)(hn:jS l)(hs:ZD ss):zg Tryz.prog 14 [yz ss,zo l,vi k,vi pr] (zu7 (cS pr l k ss ss.length)):=by
 have h:=zfa ss l k pr h3 hE hl hn hs
 have hok:=(zkL (pr:=pr) (l:=l) (k:=k) hs ss.length (Nat.le_refl _)).2
 unfold zyG cV at h
 unfold zu7
 generalize cS pr l k ss ss.length=s at*
 cases hb:s.b with
 |true=>rw[hb,if_pos rfl]at h;exact h
 |false=>
  rw[hb,if_neg (by simp)]at h
  rw[hok hb]
  refine zg.rsub h fun F w v hp=> ?_
  cases hp with
  |tup cs _ hl hx=>
   refine .tup cs _ hl fun i hi=> ?_
   have:=hx i hi
   match i,hi with
   |0,_=>exact this
   |1,_=>exact PRep.nilS 3 this
   |2,_=>exact this
def WK(ss:List (List Rul))(l:List Node)(k:Int):Prop:=ss.length≤3∧isE l k=true∧l.length≤1000∧jS l∧ZD ss
def Q5:Sum Tryz.prog:=⟨14,fun args=>args= [yz (zY (args.getD 0 .any)),zo (zl (args.getD 1 .any)),vi ((args.getD 2 .any).int),vi ((args.getD 3 .any).int)]∧WK (zY (args.getD 0 .any)) (zl (args.getD 1 .any)) ((args.getD 2 .any).int),fun args=>zu7 (cS ((args.getD 3 .any).int) (zl (args.getD 1 .any)) ((args.getD 2 .any).int) (zY (args.getD 0 .any)) ((zY (args.getD 0 .any))).length),fun args h=>by
 have:=zh2 (zY (args.getD 0 .any)) (zl (args.getD 1 .any)) ((args.getD 2 .any).int) ((args.getD 3 .any).int) h.2.1 h.2.2.1 h.2.2.2.1 h.2.2.2.2.1 h.2.2.2.2.2;rwa [←h.1]at this,false⟩
theorem zkj:Q5.f=14:=rfl
theorem zki(args:List V):Q5.D args=(args= [yz (zY (args.getD 0 .any)),zo (zl (args.getD 1 .any)),vi ((args.getD 2 .any).int),vi ((args.getD 3 .any).int)]∧WK (zY (args.getD 0 .any)) (zl (args.getD 1 .any)) ((args.getD 2 .any).int)):=rfl
theorem zcQ:Q5.flat=false:=rfl
theorem zkk(args:List V):Q5.r args=zu7 (cS ((args.getD 3 .any).int) (zl (args.getD 1 .any)) ((args.getD 2 .any).int) (zY (args.getD 0 .any)) ((zY (args.getD 0 .any))).length):=rfl
attribute [go_sem] zkj zki zcQ zkk
def wv(ss:List (List Rul))(l:List Node)(k pr:Int):List Tok:=(cS pr l k ss ss.length).v
def elB(ss:List (List Rul))(l:List Node)(k:Int)(B3 B4:Blk):List Blk:=[⟨0,1,[[yz ss]],false,[]⟩,⟨1,1,[[zo l]],false,[]⟩,⟨2,1,[[vi k]],false,[]⟩,B3,B4]
theorem zrb(ss:List (List Rul))(l:List Node)(k pr:Int)(h:WK ss l k)(B3 B4:Blk)(clk:Nat):
  zL Tryz.prog 39 [vi pr,.ptr 0 0 0 0,.ptr 1 1 0 0,.ptr 2 2 0 0] ⟨elB ss l k B3 B4,clk⟩ (zj (wv ss l k pr)) ⟨elB ss l k B3 B4,clk+10⟩:=by
 refine zL.walkL11 (Orc.cons Q5 (Orc.nil _)) zAi (by simp[c39]) fun w0 o0=> ?_
 unfold wv
 generalize hR:cS pr l k ss ss.length=R at*
 simp -implicitDefEqProofs only[c39,elB,h,hR,zu7,yz,zo,zr,zM,Ky.enc,zj,zf,List.isEmpty_cons,List.isEmpty_nil,zd,zb,za,go_sem,seval,reduceIte,reduceCtorEq]
 omega
structure El1OK (A:ESum Tryz.prog) (ss:List (List Rul)) (l:List Node) (k:Int):Prop where
 f:A.f=39
 pre:∀B3 B4 clk(pr:Int),A.pre [.c (.int .i64 pr),.ptr 0 0 0 0,.ptr 1 1 0 0,.ptr 2 2 0 0] ⟨elB ss l k B3 B4,clk⟩
 v:∀(pr:Int) h,A.v [.c (.int .i64 pr),.ptr 0 0 0 0,.ptr 1 1 0 0,.ptr 2 2 0 0] h=zj (wv ss l k pr)
 hp:∀args h,A.hp args h=⟨h.bs,h.clk+10⟩
theorem zw7(ss:List (List Rul))(l:List Node)(k:Int)(h:WK ss l k):∃A:ESum Tryz.prog,El1OK A ss l k:=by
 refine⟨⟨39,fun args h=>∃(B3 B4:Blk)(clk:Nat)(pr:Int),args= [.c (.int .i64 pr),.ptr 0 0 0 0,.ptr 1 1 0 0,.ptr 2 2 0 0]∧h=⟨elB ss l k B3 B4,clk⟩,fun args _=>zj (wv ss l k (args.getD 0 .any).int),fun _ h=>⟨h.bs,h.clk+10⟩,fun args h hp=> ?_⟩,rfl,
  fun B3 B4 clk pr=>⟨B3,B4,clk,pr,rfl,rfl⟩,fun _ _=>rfl,fun _ _=>rfl⟩
 obtain⟨B3,B4,clk,pr,rfl,rfl⟩:=hp
 exact zrb ss l k pr ‹_› B3 B4 clk
def elP(ss:List (List Rul))(l:List Node)(k:Int):List V:=
 [vi ((K8 (wv ss l k 0)).getD 0),vi ((K8 (wv ss l k 1)).getD 0),vs ((YC (wv ss l k 2)).getD ⟨#[]⟩),jI (((spO 0 (wv ss l k 3)).getD []).map toS),jI (((spO 1 (wv ss l k 4)).getD []).map toS),jI (((spO 0 (wv ss l k 5)).getD []).map toS),jI ((stO (wv ss l k 6)).getD []),vs ((Wq (wv ss l k 7)).getD ⟨#[]⟩)]
theorem KT{ss:List (List Rul)}{l:List Node}{k:Int}(h:WK ss l k)(pr:Int):okQ (wv ss l k pr):=(zkL (pr:=pr) (l:=l) (k:=k) h.2.2.2.2 ss.length (Nat.le_refl _)).1
theorem zaZ(ss:List (List Rul))(l:List Node)(k:Int)(h:WK ss l k):zg Tryz.prog 18 [yz ss,zo l,vi k] (.tup [.agg (elP ss l k),vi 0]):=by
 have e3:=eq_false (show ¬(3:Int)<(ss.length:Int)by have:=h.1;omega)
 have hE:=h.2.1
 have hl:=h.2.2.1
 have q0:=(KT h 0).1
 have q1:=(KT h 1).1
 have q2:=(KT h 2).1
 have q3:=KT h 3
 have q4:=KT h 4
 have q5:=KT h 5
 have q6:=(KT h 6).1
 have q7:=(KT h 7).1
 obtain⟨A,aF,aP,aV,aH⟩:=zw7 ss l k h
 simp only[elB,yz,zo]at aP
 refine zg.of (Orc.econs A (Orc.cons Jw (Orc.cons Wy (Orc.cons KH (Orc.cons WG (Orc.cons WH (Orc.cons WF (Orc.nil _)))))))) zqG (by simp[c18]) fun w0 o0=> ?_
 unfold elP
 generalize hv0:wv ss l k 0=v0 at*
 generalize hv1:wv ss l k 1=v1 at*
 generalize hv2:wv ss l k 2=v2 at*
 generalize hv3:wv ss l k 3=v3 at*
 generalize hv4:wv ss l k 4=v4 at*
 generalize hv5:wv ss l k 5=v5 at*
 generalize hv6:wv ss l k 6=v6 at*
 generalize hv7:wv ss l k 7=v7 at*
 simp -implicitDefEqProofs only[c18,e3,hE,hl,h,q0,q1,q2,q3,q4,q5,q6,q7,hv0,hv1,hv2,hv3,hv4,hv5,hv6,hv7,aF,aP,aV,aH,zaw,Xb,spV,zbQ,jI,yz,zo,zr,zM,zj,zf,V.cs_pp,yQ,qp,List.length_map,List.isEmpty_cons,List.isEmpty_nil,zd,zb,za,go_sem,seval,reduceIte,reduceCtorEq]
def zeA:Sum Tryz.prog:=⟨18,fun args=>args= [yz (zY (args.getD 0 .any)),zo (zl (args.getD 1 .any)),vi ((args.getD 2 .any).int)]∧WK (zY (args.getD 0 .any)) (zl (args.getD 1 .any)) ((args.getD 2 .any).int),fun args=>.tup [.agg (elP (zY (args.getD 0 .any)) (zl (args.getD 1 .any)) ((args.getD 2 .any).int)),vi 0],fun args h=>by
 have:=zaZ (zY (args.getD 0 .any)) (zl (args.getD 1 .any)) ((args.getD 2 .any).int) h.2;rwa [←h.1]at this,false⟩
theorem zs5:zeA.f=18:=rfl
theorem zs4(args:List V):zeA.D args=(args= [yz (zY (args.getD 0 .any)),zo (zl (args.getD 1 .any)),vi ((args.getD 2 .any).int)]∧WK (zY (args.getD 0 .any)) (zl (args.getD 1 .any)) ((args.getD 2 .any).int)):=rfl
theorem zg9:zeA.flat=false:=rfl
theorem zs6(args:List V):zeA.r args= .tup [.agg (elP (zY (args.getD 0 .any)) (zl (args.getD 1 .any)) ((args.getD 2 .any).int)),vi 0]:=rfl
attribute [go_sem] zs5 zs4 zg9 zs6

theorem zu1(l:List Node)(k:Int)(hl:l.length≤1000):zg Tryz.prog 15 [zo l,vi k] (vb (isE l k)):=by
 refine zg.of (Orc.cons Xw (Orc.nil _)) zzQ (by simp[c15]) fun w0 o0=> ?_
 unfold isE
 by_cases hD:Wc l=true
 ·have c0:(if 0≤K7 l∨l.length=0 then(5:Int)else 0)=0:=by
   unfold Wc at hD;rw[decide_eq_true_eq]at hD;rw[if_neg];omega
  rw[hD,Bool.true_and]
  by_cases h1:0≤k
  ·by_cases h2:k<(l.length:Int)
   ·have hg:=fun z=>yv l k.toNat z (by omega)
    generalize l.getD k.toNat .zero=n at*
    rw[decide_eq_true ⟨h1,h2⟩,Bool.true_and]
    have h1:=eq_true h1
    have h2:=eq_true h2
    by_cases c:n.type=⟨#[]⟩
    ·rw[decide_eq_true c]
     have c:=eq_true c
     simp -implicitDefEqProofs only[c15,zo,zr,qk,c0,hl,h1,h2,hg,c,Node.enc,List.length_map,zd,zb,za,go_sem,seval,reduceIte,reduceCtorEq]
    ·rw[decide_eq_false c]
     have c:=eq_false c
     simp -implicitDefEqProofs only[c15,zo,zr,qk,c0,hl,h1,h2,hg,c,Node.enc,List.length_map,zd,zb,za,go_sem,seval,reduceIte,reduceCtorEq]
   ·rw[decide_eq_false (fun h=>h2 h.2),Bool.false_and]
    have h1:=eq_true h1
    have h2:=eq_false h2
    simp -implicitDefEqProofs only[c15,zo,zr,qk,c0,hl,h1,h2,List.length_map,zd,zb,za,go_sem,seval,reduceIte,reduceCtorEq]
  ·rw[decide_eq_false (fun h=>h1 h.1),Bool.false_and]
   have h1:=eq_false h1
   simp -implicitDefEqProofs only[c15,zo,zr,qk,c0,hl,h1,List.length_map,zd,zb,za,go_sem,seval,reduceIte,reduceCtorEq]
 ·have c0:(if 0≤K7 l∨l.length=0 then(5:Int)else 0)=5:=by
   unfold Wc at hD;rw[decide_eq_true_eq]at hD;rw[if_pos];omega
  rw[Bool.eq_false_iff.2 hD,Bool.false_and,Bool.false_and]
  simp -implicitDefEqProofs only[c15,zo,zr,qk,c0,hl,List.length_map,zd,zb,za,go_sem,seval,reduceIte,reduceCtorEq]
def Jy:Sum Tryz.prog:=⟨15,fun args=>args= [zo (zl (args.getD 0 .any)),vi ((args.getD 1 .any).int)]∧((zl (args.getD 0 .any))).length≤1000,fun args=>vb (isE (zl (args.getD 0 .any)) ((args.getD 1 .any).int)),fun args h=>by
 have:=zu1 (zl (args.getD 0 .any)) ((args.getD 1 .any).int) h.2;rwa [←h.1]at this,true⟩
theorem zuG:Jy.f=15:=rfl
theorem zuF(args:List V):Jy.D args=(args= [zo (zl (args.getD 0 .any)),vi ((args.getD 1 .any).int)]∧((zl (args.getD 0 .any))).length≤1000):=rfl
theorem zhL:Jy.flat=true:=rfl
theorem zuH(args:List V):Jy.r args=vb (isE (zl (args.getD 0 .any)) ((args.getD 1 .any).int)):=rfl
attribute [go_sem] zuG zuF zhL zuH
def Y7:Sum Tryz.prog:=⟨12,fun args=>args= [],fun args=>vb true,fun args h=>by
 have:=zqr;rwa [←h]at this,true⟩
theorem znw:Y7.f=12:=rfl
theorem znv(args:List V):Y7.D args=(args= []):=rfl
theorem zem:Y7.flat=true:=rfl
theorem znx(args:List V):Y7.r args=vb true:=rfl
attribute [go_sem] znw znv zem znx
theorem zfR{l:List Node}(h:Yv l=true):l.length≤60∧jS l:=by
 unfold Yv at h
 rw[decide_eq_true_eq]at h
 refine⟨h.1,fun k hk=> ?_⟩
 have:=h.2 k hk
 unfold zdW at this
 rw[decide_eq_true_eq]at this
 obtain⟨_,_,_,a,b,_⟩:=this
 exact⟨by omega,by omega⟩
theorem zmj{s:List (List Rul)}(h:KX s=true)(h6:zr3 s):ZD s:=fun l hl=>by
 unfold KX at h;rw[decide_eq_true_eq]at h
 obtain⟨i,hi,rfl⟩:=YA (d:=[]) hl
 have:=zxg (h.1 i hi (by omega))
 exact⟨this.1,fun r hr=>⟨this.2 r hr,h6 _ hl r hr⟩⟩
theorem zC4(S:Nat→Bool)(h:Heap)(n j ver off len:Nat):res S h (n+1) (.ref j ver off len)=
 if S j&&h.cur j ver&&decide (off+len≤(h.blk j).es.length)then(zB (zB (res S h n)) (((h.blk j).es.drop off).take len)).map (.slc (h.blk j).sz)else none:=rfl
theorem zDo(S:Nat→Bool)(h:Heap)(n:Nat)(u:Value):res S h (n+1) (.c u)=some (.c u):=rfl
theorem zC5(S:Nat→Bool)(h:Heap)(n sz:Nat)(es:List (List V)):res S h (n+1) (.slc sz es)=some (.slc sz es):=rfl
theorem zk6(own:Bool):∀(L:List Pa)(xs:List Itm),itL own L=some xs→xs.length=L.length
 | [],xs,h=>by simp[itL]at h;subst h;rfl
 |p::L,xs,h=>by
  simp only[itL]at h
  split at h
  ·cases h
  ·simp only[Option.map_eq_some_iff]at h
   obtain⟨ys,hy,rfl⟩:=h
   simp[zk6 own L ys hy]
theorem zmq(l:List Stp)(i:Nat)(d:List V)(h:i<l.length):(l.map Stp.enc).getD i d=(l.getD i default).enc:=by
 simp[List.getD_eq_getElem?_getD,h]
def zr5(l:List Stp):Prop:=l.length≤2000000∧∀s∈l,s.items.length≤2000000
theorem zjq(a:List Stp)(h:zr5 a):zg Tryz.prog 25 [jI a,jI a] (vb true):=by
 refine zg.of (Orc.cons zb1 (Orc.nil _)) zz7 (by simp[c25]) fun w0 o0=> ?_
 obtain⟨hl,hi⟩:=h
 simp only[c25,jI,zd,zb,za,go_sem,seval,reduceIte,reduceCtorEq]
 refine zD.lp (α:=Nat) (fun k=>[(0,.slc 3 (a.map Stp.enc)),(1,.slc 3 (a.map Stp.enc)),(12,vi a.length),(13,vi k)]) (fun _=>⟨[],0⟩) (fun k=>k≤a.length) (fun k=>a.length - k) 0 (Nat.zero_le _) (St.mk (by simp[zu,zk,zt])) fun k hk=> ?_
 by_cases hkl:k=a.length
 ·subst hkl
  simp only[Int.lt_irrefl,zd,zb,za,go_sem,seval,reduceIte,reduceCtorEq]
 ·have e1:(k:Int)<(a.length:Int):=by omega
  have e0:(0:Int)≤(k:Int):=by omega
  have hlt:k<a.length:=by omega
  have hg:=zmq a k [vs ⟨#[]⟩,vi 0,zA] hlt
  have hx:=hi (a.getD k default) (by rw[List.getD_eq_getElem?_getD,List.getElem?_eq_getElem hlt];exact List.getElem_mem _)
  generalize a.getD k default=x at*
  simp only[e0,e1,hg,hx,Stp.enc,qT,zc9,zd,zb,za,go_sem,seval,reduceIte,reduceCtorEq]
  exact⟨by omega,k+1,by omega,by omega,by omega⟩
def zce:Sum Tryz.prog:=⟨25,fun args=>args= [jI (JS (args.getD 0 .any)),jI (JS (args.getD 0 .any))]∧zr5 (JS (args.getD 0 .any)),fun args=>vb true,fun args h=>by
 have:=zjq (JS (args.getD 0 .any)) h.2;rwa [←h.1]at this,true⟩
theorem zul:zce.f=25:=rfl
theorem zuk(args:List V):zce.D args=(args= [jI (JS (args.getD 0 .any)),jI (JS (args.getD 0 .any))]∧zr5 (JS (args.getD 0 .any))):=rfl
theorem zhE:zce.flat=true:=rfl
theorem zum(args:List V):zce.r args=vb true:=rfl
attribute [go_sem] zul zuk zhE zum
theorem Ju(u:Int):∀(L:List Pa)(xs:List NS),zV u L=some xs→xs.length≤L.length
 | [],xs,h=>by simp[zV]at h;subst h;simp
 | [p],xs,h=>by
   simp only[zV]at h
   split at h
   ·cases h;simp
   ·cases h
 |p::q::L,xs,h=>by
  simp only[zV]at h
  split at h
  ·split at h
   ·simp only[Option.map_eq_some_iff]at h
    obtain⟨ys,hy,rfl⟩:=h
    have:=Ju u L ys hy
    simp;omega
   ·simp only[Option.map_eq_some_iff]at h
    obtain⟨ys,hy,rfl⟩:=h
    have:=Ju u (q::L) ys hy
    simp at this ⊢;omega
  ·cases h
theorem zjp(u:Int)(l:List Tok)(h:okT l):zr5 (((spO u l).getD []).map toS):=by
 refine⟨?_,fun s hs=> ?_⟩
 ·rw[List.length_map]
  have h1:=QP l
  have h2:=h.1
  unfold spO
  split
  ·split
   ·simp
   ·split
    ·simp
    ·cases hx:zV u (pl l)with
     |none=>simp
     |some xs=>have:=Ju u _ _ hx;simp only[Option.getD_some];omega
  ·simp
 ·obtain⟨x,_,rfl⟩:=List.mem_map.1 hs
  simp[toS]
theorem zfW{cur:List Pa}{s:Stp}(h:jC cur=some s):s.items.length≤cur.length:=by
 unfold jC at h
 split at h
 ·cases h
 ·rename_i a r
  split at h
  ·split at h
   ·rename_i x xs hI
    cases h
    have:=zk6 _ _ _ hI
    simp only[List.length_cons]at this⊢
    omega
   ·cases h
  ·cases h
theorem zeh:∀(l cur:List Pa)(n:Nat)(xs:List Stp),cur.length+l.length≤n→qG cur l=some xs→xs.length≤l.length+1∧∀s∈xs,s.items.length≤n
 | [],cur,n,xs,hn,h=>by
   simp only[qG,Option.map_eq_some_iff]at h
   obtain⟨s,hs,rfl⟩:=h
   have:=zfW hs
   simp at hn
   exact⟨by simp,fun t ht=>by simp at ht;subst ht;omega⟩
 |p::l,cur,n,xs,hn,h=>by
  simp only[qG]at h
  simp only[List.length_cons]at hn⊢
  split at h
  ·split at h
   ·cases h
   ·rename_i s hs
    simp only[Option.map_eq_some_iff]at h
    obtain⟨ys,hy,rfl⟩:=h
    have h1:=zfW hs
    obtain⟨h2,h3⟩:=zeh l [] n ys (by simp;omega) hy
    refine⟨by simp;omega,fun t ht=> ?_⟩
    rcases List.mem_cons.1 ht with rfl|ht
    ·omega
    ·exact h3 t ht
  ·obtain⟨h2,h3⟩:=zeh l (cur++ [p]) n xs (by simp;omega) h
   exact⟨by omega,h3⟩
theorem zB2(l:List Tok)(h:okT l):zr5 ((stO l).getD []):=by
 have h1:=QP l
 have h2:=h.1
 unfold stO
 split
 ·split
  ·exact⟨by simp,by simp⟩
  ·cases hx:qG [] (pl l)with
   |none=>exact⟨by simp,by simp⟩
   |some xs=>
    obtain⟨a,b⟩:=zeh (pl l) [] (pl l).length xs (by simp) hx
    exact⟨by simp only[Option.getD_some];omega,fun s hs=>by have:=b s hs;omega⟩
 ·exact⟨by simp,by simp⟩
structure SwS where
 b:Nat
 i:Nat
 out:List Stp
 ver:Nat
 clk:Nat
theorem Q7(L:List Pa)(b i:Nat)(h:b≤i)(h2:i<L.length):(L.take (i+1)).drop b=(L.take i).drop b++ [L.getD i default]:=by
 rw[List.take_add_one,List.drop_append,List.getElem?_eq_getElem h2,List.getD_eq_getElem?_getD,List.getElem?_eq_getElem h2]
 have:b - (L.take i).length=0:=by rw[List.length_take];omega
 rw[this];rfl
theorem zgU(l:List Tok)(h:okT l):zg Tryz.prog 23 [zj l] (zbQ (stO l)):=by
 have h1:=h.1
 have hP:=zlc h
 have hfb:=@Xe l
 unfold stO
 generalize hL:pl l=L at*
 cases hb:ptB l with
 |false=>
  have hz:=hfb hb
  subst hz
  rw[if_neg (by simp)]
  refine zg.rsub ?_ (qM false)
  refine zg.of (Orc.cons yT (Orc.cons jq (Orc.cons kf (Orc.cons Y9 (Orc.nil _))))) ziy (by simp[c23]) fun w0 o0=> ?_
  simp only[c23,zj,zf,h1,plV,hL,hb,List.map_nil,zd,zb,za,go_sem,reduceCtorEq,reduceIte,Nat.reduceEqDiff,Nat.reduceAdd,Nat.reduceSub,Nat.reduceMul,Nat.reduceLT,Nat.reduceLeDiff,Nat.reduceBEq,Int.reduceEq,Int.reduceLT,Int.reduceLE,Int.reduceAdd,Int.reduceSub,Int.reduceNeg,Int.reduceToNat]
 |true=>
 rw[if_pos rfl]
 by_cases hn:isNone L=true
 ·rw[if_pos hn]
  obtain⟨p,rfl,hi⟩:=zbe hn
  have hp:=(hP.2 p (by simp)).1
  refine zg.rsub ?_ (qM true)
  refine zg.of (Orc.cons yT (Orc.cons jq (Orc.cons kf (Orc.cons Y9 (Orc.nil _))))) ziy (by simp[c23]) fun w0 o0=> ?_
  simp only[c23,zj,zf,h1,plV,hL,hb,hi,hp,Pa.enc,zm,Pa.eta',List.map_cons,List.map_nil,zd,zb,za,go_sem,reduceCtorEq,reduceIte,Nat.reduceEqDiff,Nat.reduceAdd,Nat.reduceSub,Nat.reduceMul,Nat.reduceLT,Nat.reduceLeDiff,Nat.reduceBEq,Int.reduceEq,Int.reduceLT,Int.reduceLE,Int.reduceAdd,Int.reduceSub,Int.reduceNeg,Int.reduceToNat]
 rw[if_neg hn]
 refine zlq _ ?_
 generalize hR:qG [] L=R
 refine zg.of (Orc.cons yT (Orc.cons jq (Orc.cons kf (Orc.cons Y9 (Orc.nil _))))) ziy (by simp[c23]) fun w0 o0=> ?_
 have hg0:(L.length:Int)=1→∃p0:Pa,(L.map Pa.enc).getD 0 [vi 0,vs ⟨#[]⟩,vi 0,zA]=p0.enc∧yW p0∧yf p0 ⟨#[110,111,110,101]⟩=false:=fun h1=>by
  obtain⟨p,rfl⟩:=List.length_eq_one_iff.1 (show L.length=1 by omega)
  refine⟨p,rfl,(hP.2 p (by simp)).1,?_⟩
  cases hh:yf p ⟨#[110,111,110,101]⟩with
  |false=>rfl
  |true=>exact absurd hh (by simpa[isNone,zgl]using hn)
 have hLn:=hP.1
 by_cases hl1:(L.length:Int)=1
 ·obtain⟨p0,hx0,hp0,hi0⟩:=hg0 hl1
  have hl1t:=eq_true hl1
  have hlp:(0:Int)<(L.length:Int):=by omega
  simp only[c23,zj,zf,h1,plV,hL,hb,hl1,hx0,hp0,hi0,Pa.enc,zm,Pa.eta',zd,zb,za,go_sem,reduceCtorEq,reduceIte,Nat.reduceEqDiff,Nat.reduceAdd,Nat.reduceSub,Nat.reduceMul,Nat.reduceLT,Nat.reduceLeDiff,Nat.reduceBEq,Int.reduceEq,Int.reduceLT,Int.reduceLE,Int.reduceAdd,Int.reduceSub,Int.reduceNeg,Int.reduceToNat]
  try (refine⟨by omega,?_⟩)
  refine zD.lp (α:=SwS) (fun a=>[(4,.slc 4 (L.map Pa.enc)),(6,.ref 0 a.ver 0 a.out.length),(7,vi a.b),(8,vi a.i)])
   (fun a=>⟨[⟨a.ver,3,a.out.map Stp.enc,false,[vs ⟨#[]⟩,vi 0,zA]⟩],a.clk⟩) (fun a=>a.i≤L.length+1∧a.out.length≤a.i∧a.b≤a.i∧(a.i≤L.length→(qG ((L.take a.i).drop a.b) (L.drop a.i)).map (a.out++ ·)=R)∧(a.i=L.length+1→some a.out=R)) (fun a=>L.length+1 - a.i) ⟨0,0,[],0,1⟩
   ⟨Nat.zero_le _,Nat.zero_le _,Nat.le_refl _,fun _=>by rw[←hR];simp only[List.take_zero,List.drop_zero,List.nil_append];cases qG [] L<;>rfl,fun hh=>by dsimp only at hh;omega⟩ (St.nil 6 3 [vs ⟨#[]⟩,vi 0,zA] (by simp[zk]) (St.cut ?_ ?_ ?_)) fun a ha=> ?_
  ·simp[zu,zk,zt]
  ·simp[Heap.alloc]
  ·rfl
  obtain⟨b,i,out,ver,clk⟩:=a
  obtain⟨i1,i2,i3,i4,i5⟩:=ha
  simp only at i1 i2 i3 i4 i5
  have hot:out.take out.length=out:=List.take_length
  by_cases hend:i=L.length+1
  ·have i6:=i5 hend
   subst i6
   have e1:¬((i:Int)≤(L.length:Int)):=by omega
   have hlm:List.take out.length (out.map Stp.enc)=out.map Stp.enc:=by rw[List.take_of_length_le (by simp)]
   simp only[e1,hot,stR,jI,Zz,ZA,Nat.le_refl,zd,zb,za,go_sem,reduceCtorEq,reduceIte,Nat.reduceEqDiff,Nat.reduceAdd,Nat.reduceSub,Nat.reduceMul,Nat.reduceLT,Nat.reduceLeDiff,Nat.reduceBEq,Int.reduceEq,Int.reduceLT,Int.reduceLE,Int.reduceAdd,Int.reduceSub,Int.reduceNeg,Int.reduceToNat]
  ·have e1:((i:Int)≤(L.length:Int)):=by omega
   have e0:(0:Int)≤(i:Int):=by omega
   have i6:=i4 (by omega)
   have more:∀(hsep:i=L.length∨(i<L.length∧Zc (L.getD i default)=true)),(match jC ((L.take i).drop b)with|none=>none|some s=>if i=L.length then some (out++ [s])else((qG [] (L.drop (i+1))).map (s:: ·)).map (out++ ·))=R:=fun hsep=>by
    rcases hsep with hs|⟨hs,hc⟩
    ·rw[←i6,hs,List.drop_length,qG]
     cases jC ((L.take L.length).drop b)<;>simp
    ·rw[←i6,qF L i hs,qG,if_pos hc]
     cases jC ((L.take i).drop b)with
     |none=>rfl
     |some s=>simp only[if_neg (show ¬i=L.length by omega)]
   by_cases hsep:i=L.length∨(i<L.length∧Zc (L.getD i default)=true)
   ·have hm:=more hsep
    clear more i4 i5 i6
    have hguard:∃(g1:Prop),True:=⟨True,trivial⟩
    have hcur:(L.take i).drop b= []∨∃x r,(L.take i).drop b=x::r∧b<i∧L.getD b default=x∧r=(L.take i).drop (b+1):=by
     by_cases hbi:b=i
     ·left;subst hbi;exact List.drop_eq_nil_of_le (by rw[List.length_take];omega)
     ·right
      have hb2:b<(L.take i).length:=by rw[List.length_take];omega
      refine⟨L.getD b default,(L.take i).drop (b+1),?_,by omega,rfl,rfl⟩
      rw[List.drop_eq_getElem_cons hb2,List.getD_eq_getElem?_getD,List.getElem?_eq_getElem (by omega)]
      simp
    have hpart:∀(T:Prop),T→T:=fun _ t=>t
    rcases hsep with hs|⟨hs,hc⟩
    ·subst hs
     have k1:¬((L.length:Int)<(L.length:Int)):=by omega
     rcases hcur with hcur|⟨x,r,hcur,hbi,hx,hr⟩
     ·have hbi:b=L.length:=by
       have:=congrArg List.length hcur
       simp at this;omega
      subst hbi
      rw[hcur]at hm
      simp only[jC]at hm
      subst hm
      simp only[k1,e0,e1,Pa.enc,stR,zd,zb,za,go_sem,reduceCtorEq,reduceIte,Nat.reduceEqDiff,Nat.reduceAdd,Nat.reduceSub,Nat.reduceMul,Nat.reduceLT,Nat.reduceLeDiff,Nat.reduceBEq,Int.reduceEq,Int.reduceLT,Int.reduceLE,Int.reduceAdd,Int.reduceSub,Int.reduceNeg,Int.reduceToNat]
     ·rw[hcur]at hm
      have kb:(((L.length:Nat):Int)=(b:Int))=False:=eq_false (by omega)
      have kb0:(0:Int)≤(b:Int):=by omega
      have kb1:(b:Int)<(L.length:Int):=by omega
      have hgb:=z2 L b [vi 0,vs ⟨#[]⟩,vi 0,zA] (by omega)
      rw[hx]at hgb
      have hmx:x∈L:=by rw[←hx,List.getD_eq_getElem?_getD,List.getElem?_eq_getElem (by omega)];exact List.getElem_mem _
      have hxo:=(hP.2 x hmx).1
      have e3:((b:Int)+1).toNat=b+1:=by omega
      have e4:(0:Int)≤(b:Int)+1:=by omega
      have e5:(b:Int)+1≤((L.length:Nat):Int):=by omega
      have e6:((L.length:Nat):Int)≤(L.length:Int):=by omega
      have hsl:List.take (L.length - (b+1)) (List.drop (b+1) (L.map Pa.enc))=r.map Pa.enc:=by
       rw[hr,List.map_drop,List.map_take,List.drop_take]
      have kr:Y2 r:=by
       rw[hr]
       exact⟨by simp;omega,fun p hp=>hP.2 p (List.mem_of_mem_take (List.mem_of_mem_drop hp))⟩
      cases hn2:zJ x with
      |false=>
       rw[ZZ hn2]at hm
       simp only at hm
       subst hm
       simp only[k1,e0,e1,kb,kb0,kb1,hgb,hxo,hn2,Pa.enc,zm,Pa.eta',stR,zd,zb,za,go_sem,reduceCtorEq,reduceIte,Nat.reduceEqDiff,Nat.reduceAdd,Nat.reduceSub,Nat.reduceMul,Nat.reduceLT,Nat.reduceLeDiff,Nat.reduceBEq,Int.reduceEq,Int.reduceLT,Int.reduceLE,Int.reduceAdd,Int.reduceSub,Int.reduceNeg,Int.reduceToNat]
      |true=>
       match hI:itL true r with
       |none=>
        rw[qi (.inl hI)]at hm
        simp only at hm
        subst hm
        simp only[k1,e0,e1,e3,e4,e5,e6,hsl,kb,kb0,kb1,hgb,hxo,hn2,hI,kr,pas,zC,V.boo_c,kX,qT,Option.getD_none,Option.getD_some,List.length_nil,List.map_nil,Int.lt_irrefl,Pa.enc,zm,Pa.eta',stR,zd,zb,za,go_sem,reduceCtorEq,reduceIte,Nat.reduceEqDiff,Nat.reduceAdd,Nat.reduceSub,Nat.reduceMul,Nat.reduceLT,Nat.reduceLeDiff,Nat.reduceBEq,Int.reduceEq,Int.reduceLT,Int.reduceLE,Int.reduceAdd,Int.reduceSub,Int.reduceNeg,Int.reduceToNat]
        try omega
       |some []=>
        rw[qi (.inr hI)]at hm
        simp only at hm
        subst hm
        simp only[k1,e0,e1,e3,e4,e5,e6,hsl,kb,kb0,kb1,hgb,hxo,hn2,hI,kr,pas,zC,V.boo_c,kX,qT,Option.getD_none,Option.getD_some,List.length_nil,List.map_nil,Int.lt_irrefl,Pa.enc,zm,Pa.eta',stR,zd,zb,za,go_sem,reduceCtorEq,reduceIte,Nat.reduceEqDiff,Nat.reduceAdd,Nat.reduceSub,Nat.reduceMul,Nat.reduceLT,Nat.reduceLeDiff,Nat.reduceBEq,Int.reduceEq,Int.reduceLT,Int.reduceLE,Int.reduceAdd,Int.reduceSub,Int.reduceNeg,Int.reduceToNat]
        try omega
       |some (y::ys)=>
        rw[kI hn2 hI]at hm
        have hap:List.map Stp.enc out++ [[vs x.t.text,vi 0,.slc 5 (y.enc::List.map Itm.enc ys)]]=List.map Stp.enc (out++ [(⟨x.t.text,0,y::ys⟩:Stp)]):=by simp[Stp.enc]
        have hyp:(0:Int)<((ys.length+1:Nat):Int):=by omega
        simp only[k1,e0,e1,e3,e4,e5,e6,hsl,kb,kb0,kb1,hgb,hxo,hn2,hI,kr,hyp,hot,hap,pas,zC,V.boo_c,kX,qT,Option.getD_some,Pa.enc,zm,Pa.eta',zd,zb,za,go_sem,reduceCtorEq,reduceIte,Nat.reduceEqDiff,Nat.reduceAdd,Nat.reduceSub,Nat.reduceMul,Nat.reduceLT,Nat.reduceLeDiff,Nat.reduceBEq,Int.reduceEq,Int.reduceLT,Int.reduceLE,Int.reduceAdd,Int.reduceSub,Int.reduceNeg,Int.reduceToNat]
        simp only[if_pos]at hm
        refine⟨by omega,⟨by omega,by omega,by omega⟩,by omega,by omega,⟨L.length+1,L.length+1,out++ [⟨x.t.text,0,y::ys⟩],_,_⟩,⟨by dsimp only;omega,by simp;omega,by dsimp only;omega,fun hh=>by dsimp only at hh;omega,fun _=>hm⟩,by dsimp only;omega,⟨⟨rfl,by simp⟩,by dsimp only;omega,by dsimp only;omega⟩,⟨rfl,rfl⟩,rfl⟩
    ·have k1:(i:Int)<(L.length:Int):=by omega
     have hgi:=z2 L i [vi 0,vs ⟨#[]⟩,vi 0,zA] hs
     have hck:((L.getD i default).t.kind=16)=True:=eq_true (by simpa[Zc]using hc)
     generalize L.getD i default=z at*
     rcases hcur with hcur|⟨x,r,hcur,hbi,hx,hr⟩
     ·have hbi:b=i:=by
       have:=congrArg List.length hcur
       simp at this;omega
      subst hbi
      rw[hcur]at hm
      simp only[jC]at hm
      subst hm
      simp only[k1,hgi,hck,e0,e1,Pa.enc,stR,zd,zb,za,go_sem,reduceCtorEq,reduceIte,Nat.reduceEqDiff,Nat.reduceAdd,Nat.reduceSub,Nat.reduceMul,Nat.reduceLT,Nat.reduceLeDiff,Nat.reduceBEq,Int.reduceEq,Int.reduceLT,Int.reduceLE,Int.reduceAdd,Int.reduceSub,Int.reduceNeg,Int.reduceToNat]
     ·rw[hcur]at hm
      have kb:(((i:Nat):Int)=(b:Int))=False:=eq_false (by omega)
      have kb0:(0:Int)≤(b:Int):=by omega
      have kb1:(b:Int)<(L.length:Int):=by omega
      have hgb:=z2 L b [vi 0,vs ⟨#[]⟩,vi 0,zA] (by omega)
      rw[hx]at hgb
      have hmx:x∈L:=by rw[←hx,List.getD_eq_getElem?_getD,List.getElem?_eq_getElem (by omega)];exact List.getElem_mem _
      have hxo:=(hP.2 x hmx).1
      have e3:((b:Int)+1).toNat=b+1:=by omega
      have e4:(0:Int)≤(b:Int)+1:=by omega
      have e5:(b:Int)+1≤((i:Nat):Int):=by omega
      have e6:((i:Nat):Int)≤(L.length:Int):=by omega
      have hsl:List.take (i - (b+1)) (List.drop (b+1) (L.map Pa.enc))=r.map Pa.enc:=by
       rw[hr,List.map_drop,List.map_take,List.drop_take]
      have kr:Y2 r:=by
       rw[hr]
       exact⟨by simp;omega,fun p hp=>hP.2 p (List.mem_of_mem_take (List.mem_of_mem_drop hp))⟩
      cases hn2:zJ x with
      |false=>
       rw[ZZ hn2]at hm
       simp only at hm
       subst hm
       simp only[k1,hgi,hck,e0,e1,kb,kb0,kb1,hgb,hxo,hn2,Pa.enc,zm,Pa.eta',stR,zd,zb,za,go_sem,reduceCtorEq,reduceIte,Nat.reduceEqDiff,Nat.reduceAdd,Nat.reduceSub,Nat.reduceMul,Nat.reduceLT,Nat.reduceLeDiff,Nat.reduceBEq,Int.reduceEq,Int.reduceLT,Int.reduceLE,Int.reduceAdd,Int.reduceSub,Int.reduceNeg,Int.reduceToNat]
      |true=>
       match hI:itL true r with
       |none=>
        rw[qi (.inl hI)]at hm
        simp only at hm
        subst hm
        simp only[k1,hgi,hck,e0,e1,e3,e4,e5,e6,hsl,kb,kb0,kb1,hgb,hxo,hn2,hI,kr,pas,zC,V.boo_c,kX,qT,Option.getD_none,Option.getD_some,List.length_nil,List.map_nil,Int.lt_irrefl,Pa.enc,zm,Pa.eta',stR,zd,zb,za,go_sem,reduceCtorEq,reduceIte,Nat.reduceEqDiff,Nat.reduceAdd,Nat.reduceSub,Nat.reduceMul,Nat.reduceLT,Nat.reduceLeDiff,Nat.reduceBEq,Int.reduceEq,Int.reduceLT,Int.reduceLE,Int.reduceAdd,Int.reduceSub,Int.reduceNeg,Int.reduceToNat]
        try omega
       |some []=>
        rw[qi (.inr hI)]at hm
        simp only at hm
        subst hm
        simp only[k1,hgi,hck,e0,e1,e3,e4,e5,e6,hsl,kb,kb0,kb1,hgb,hxo,hn2,hI,kr,pas,zC,V.boo_c,kX,qT,Option.getD_none,Option.getD_some,List.length_nil,List.map_nil,Int.lt_irrefl,Pa.enc,zm,Pa.eta',stR,zd,zb,za,go_sem,reduceCtorEq,reduceIte,Nat.reduceEqDiff,Nat.reduceAdd,Nat.reduceSub,Nat.reduceMul,Nat.reduceLT,Nat.reduceLeDiff,Nat.reduceBEq,Int.reduceEq,Int.reduceLT,Int.reduceLE,Int.reduceAdd,Int.reduceSub,Int.reduceNeg,Int.reduceToNat]
        try omega
       |some (y::ys)=>
        rw[kI hn2 hI]at hm
        have hap:List.map Stp.enc out++ [[vs x.t.text,vi 0,.slc 5 (y.enc::List.map Itm.enc ys)]]=List.map Stp.enc (out++ [(⟨x.t.text,0,y::ys⟩:Stp)]):=by simp[Stp.enc]
        have hyp:(0:Int)<((ys.length+1:Nat):Int):=by omega
        simp only[k1,hgi,hck,e0,e1,e3,e4,e5,e6,hsl,kb,kb0,kb1,hgb,hxo,hn2,hI,kr,hyp,hot,hap,pas,zC,V.boo_c,kX,qT,Option.getD_some,Pa.enc,zm,Pa.eta',zd,zb,za,go_sem,reduceCtorEq,reduceIte,Nat.reduceEqDiff,Nat.reduceAdd,Nat.reduceSub,Nat.reduceMul,Nat.reduceLT,Nat.reduceLeDiff,Nat.reduceBEq,Int.reduceEq,Int.reduceLT,Int.reduceLE,Int.reduceAdd,Int.reduceSub,Int.reduceNeg,Int.reduceToNat]
        simp only[if_neg (show ¬i=L.length by omega)]at hm
        refine⟨by omega,⟨by omega,by omega,by omega⟩,by omega,by omega,⟨i+1,i+1,out++ [⟨x.t.text,0,y::ys⟩],_,_⟩,⟨by dsimp only;omega,by simp;omega,by dsimp only;omega,fun _=> ?_,fun hh=>by dsimp only at hh;omega⟩,by dsimp only;omega,⟨⟨rfl,by simp⟩,by dsimp only;omega,by dsimp only;omega⟩,⟨rfl,rfl⟩,rfl⟩
        dsimp only
        rw[←hm,List.drop_eq_nil_of_le (by rw[List.length_take];omega)]
        cases qG [] (L.drop (i+1))<;>simp
   ·have hs:i<L.length:=Decidable.byContradiction fun hh=>hsep (.inl (by omega))
    have hc:Zc (L.getD i default)=false:=by
     cases hh:Zc (L.getD i default)with
     |false=>rfl
     |true=>exact absurd (.inr ⟨hs,hh⟩) hsep
    have k1:(i:Int)<(L.length:Int):=by omega
    have hgi:=z2 L i [vi 0,vs ⟨#[]⟩,vi 0,zA] hs
    have hck:((L.getD i default).t.kind=16)=False:=eq_false (by simpa[Zc]using hc)
    have hsn:=Q7 L b i i3 hs
    rw[qF L i hs,qG,if_neg (by rw[hc];simp),←hsn]at i6
    generalize L.getD i default=z at*
    simp only[k1,hgi,hck,e0,e1,Pa.enc,zd,zb,za,go_sem,reduceCtorEq,reduceIte,Nat.reduceEqDiff,Nat.reduceAdd,Nat.reduceSub,Nat.reduceMul,Nat.reduceLT,Nat.reduceLeDiff,Nat.reduceBEq,Int.reduceEq,Int.reduceLT,Int.reduceLE,Int.reduceAdd,Int.reduceSub,Int.reduceNeg,Int.reduceToNat]
    exact⟨by omega,⟨b,i+1,out,ver,clk⟩,⟨by dsimp only;omega,by dsimp only;omega,by dsimp only;omega,fun _=>i6,fun hh=>by dsimp only at hh;omega⟩,by dsimp only;omega,⟨⟨rfl,rfl⟩,rfl,by dsimp only;omega⟩,⟨rfl,rfl⟩,rfl⟩
 ·have hl2:=eq_false hl1
  simp only[c23,zj,zf,h1,plV,hL,hb,hl2,zd,zb,za,go_sem,reduceCtorEq,reduceIte,Nat.reduceEqDiff,Nat.reduceAdd,Nat.reduceSub,Nat.reduceMul,Nat.reduceLT,Nat.reduceLeDiff,Nat.reduceBEq,Int.reduceEq,Int.reduceLT,Int.reduceLE,Int.reduceAdd,Int.reduceSub,Int.reduceNeg,Int.reduceToNat]
  refine zD.lp (α:=SwS) (fun a=>[(4,.slc 4 (L.map Pa.enc)),(6,.ref 0 a.ver 0 a.out.length),(7,vi a.b),(8,vi a.i)])
   (fun a=>⟨[⟨a.ver,3,a.out.map Stp.enc,false,[vs ⟨#[]⟩,vi 0,zA]⟩],a.clk⟩) (fun a=>a.i≤L.length+1∧a.out.length≤a.i∧a.b≤a.i∧(a.i≤L.length→(qG ((L.take a.i).drop a.b) (L.drop a.i)).map (a.out++ ·)=R)∧(a.i=L.length+1→some a.out=R)) (fun a=>L.length+1 - a.i) ⟨0,0,[],0,1⟩
   ⟨Nat.zero_le _,Nat.zero_le _,Nat.le_refl _,fun _=>by rw[←hR];simp only[List.take_zero,List.drop_zero,List.nil_append];cases qG [] L<;>rfl,fun hh=>by dsimp only at hh;omega⟩ (St.nil 6 3 [vs ⟨#[]⟩,vi 0,zA] (by simp[zk]) (St.cut ?_ ?_ ?_)) fun a ha=> ?_
  ·simp[zu,zk,zt]
  ·simp[Heap.alloc]
  ·rfl
  obtain⟨b,i,out,ver,clk⟩:=a
  obtain⟨i1,i2,i3,i4,i5⟩:=ha
  simp only at i1 i2 i3 i4 i5
  have hot:out.take out.length=out:=List.take_length
  by_cases hend:i=L.length+1
  ·have i6:=i5 hend
   subst i6
   have e1:¬((i:Int)≤(L.length:Int)):=by omega
   have hlm:List.take out.length (out.map Stp.enc)=out.map Stp.enc:=by rw[List.take_of_length_le (by simp)]
   simp only[e1,hot,stR,jI,Zz,ZA,Nat.le_refl,zd,zb,za,go_sem,reduceCtorEq,reduceIte,Nat.reduceEqDiff,Nat.reduceAdd,Nat.reduceSub,Nat.reduceMul,Nat.reduceLT,Nat.reduceLeDiff,Nat.reduceBEq,Int.reduceEq,Int.reduceLT,Int.reduceLE,Int.reduceAdd,Int.reduceSub,Int.reduceNeg,Int.reduceToNat]
  ·have e1:((i:Int)≤(L.length:Int)):=by omega
   have e0:(0:Int)≤(i:Int):=by omega
   have i6:=i4 (by omega)
   have more:∀(hsep:i=L.length∨(i<L.length∧Zc (L.getD i default)=true)),(match jC ((L.take i).drop b)with|none=>none|some s=>if i=L.length then some (out++ [s])else((qG [] (L.drop (i+1))).map (s:: ·)).map (out++ ·))=R:=fun hsep=>by
    rcases hsep with hs|⟨hs,hc⟩
    ·rw[←i6,hs,List.drop_length,qG]
     cases jC ((L.take L.length).drop b)<;>simp
    ·rw[←i6,qF L i hs,qG,if_pos hc]
     cases jC ((L.take i).drop b)with
     |none=>rfl
     |some s=>simp only[if_neg (show ¬i=L.length by omega)]
   by_cases hsep:i=L.length∨(i<L.length∧Zc (L.getD i default)=true)
   ·have hm:=more hsep
    clear more i4 i5 i6
    have hguard:∃(g1:Prop),True:=⟨True,trivial⟩
    have hcur:(L.take i).drop b= []∨∃x r,(L.take i).drop b=x::r∧b<i∧L.getD b default=x∧r=(L.take i).drop (b+1):=by
     by_cases hbi:b=i
     ·left;subst hbi;exact List.drop_eq_nil_of_le (by rw[List.length_take];omega)
     ·right
      have hb2:b<(L.take i).length:=by rw[List.length_take];omega
      refine⟨L.getD b default,(L.take i).drop (b+1),?_,by omega,rfl,rfl⟩
      rw[List.drop_eq_getElem_cons hb2,List.getD_eq_getElem?_getD,List.getElem?_eq_getElem (by omega)]
      simp
    have hpart:∀(T:Prop),T→T:=fun _ t=>t
    rcases hsep with hs|⟨hs,hc⟩
    ·subst hs
     have k1:¬((L.length:Int)<(L.length:Int)):=by omega
     rcases hcur with hcur|⟨x,r,hcur,hbi,hx,hr⟩
     ·have hbi:b=L.length:=by
       have:=congrArg List.length hcur
       simp at this;omega
      subst hbi
      rw[hcur]at hm
      simp only[jC]at hm
      subst hm
      simp only[k1,e0,e1,Pa.enc,stR,zd,zb,za,go_sem,reduceCtorEq,reduceIte,Nat.reduceEqDiff,Nat.reduceAdd,Nat.reduceSub,Nat.reduceMul,Nat.reduceLT,Nat.reduceLeDiff,Nat.reduceBEq,Int.reduceEq,Int.reduceLT,Int.reduceLE,Int.reduceAdd,Int.reduceSub,Int.reduceNeg,Int.reduceToNat]
     ·rw[hcur]at hm
      have kb:(((L.length:Nat):Int)=(b:Int))=False:=eq_false (by omega)
      have kb0:(0:Int)≤(b:Int):=by omega
      have kb1:(b:Int)<(L.length:Int):=by omega
      have hgb:=z2 L b [vi 0,vs ⟨#[]⟩,vi 0,zA] (by omega)
      rw[hx]at hgb
      have hmx:x∈L:=by rw[←hx,List.getD_eq_getElem?_getD,List.getElem?_eq_getElem (by omega)];exact List.getElem_mem _
      have hxo:=(hP.2 x hmx).1
      have e3:((b:Int)+1).toNat=b+1:=by omega
      have e4:(0:Int)≤(b:Int)+1:=by omega
      have e5:(b:Int)+1≤((L.length:Nat):Int):=by omega
      have e6:((L.length:Nat):Int)≤(L.length:Int):=by omega
      have hsl:List.take (L.length - (b+1)) (List.drop (b+1) (L.map Pa.enc))=r.map Pa.enc:=by
       rw[hr,List.map_drop,List.map_take,List.drop_take]
      have kr:Y2 r:=by
       rw[hr]
       exact⟨by simp;omega,fun p hp=>hP.2 p (List.mem_of_mem_take (List.mem_of_mem_drop hp))⟩
      cases hn2:zJ x with
      |false=>
       rw[ZZ hn2]at hm
       simp only at hm
       subst hm
       simp only[k1,e0,e1,kb,kb0,kb1,hgb,hxo,hn2,Pa.enc,zm,Pa.eta',stR,zd,zb,za,go_sem,reduceCtorEq,reduceIte,Nat.reduceEqDiff,Nat.reduceAdd,Nat.reduceSub,Nat.reduceMul,Nat.reduceLT,Nat.reduceLeDiff,Nat.reduceBEq,Int.reduceEq,Int.reduceLT,Int.reduceLE,Int.reduceAdd,Int.reduceSub,Int.reduceNeg,Int.reduceToNat]
      |true=>
       match hI:itL true r with
       |none=>
        rw[qi (.inl hI)]at hm
        simp only at hm
        subst hm
        simp only[k1,e0,e1,e3,e4,e5,e6,hsl,kb,kb0,kb1,hgb,hxo,hn2,hI,kr,pas,zC,V.boo_c,kX,qT,Option.getD_none,Option.getD_some,List.length_nil,List.map_nil,Int.lt_irrefl,Pa.enc,zm,Pa.eta',stR,zd,zb,za,go_sem,reduceCtorEq,reduceIte,Nat.reduceEqDiff,Nat.reduceAdd,Nat.reduceSub,Nat.reduceMul,Nat.reduceLT,Nat.reduceLeDiff,Nat.reduceBEq,Int.reduceEq,Int.reduceLT,Int.reduceLE,Int.reduceAdd,Int.reduceSub,Int.reduceNeg,Int.reduceToNat]
        try omega
       |some []=>
        rw[qi (.inr hI)]at hm
        simp only at hm
        subst hm
        simp only[k1,e0,e1,e3,e4,e5,e6,hsl,kb,kb0,kb1,hgb,hxo,hn2,hI,kr,pas,zC,V.boo_c,kX,qT,Option.getD_none,Option.getD_some,List.length_nil,List.map_nil,Int.lt_irrefl,Pa.enc,zm,Pa.eta',stR,zd,zb,za,go_sem,reduceCtorEq,reduceIte,Nat.reduceEqDiff,Nat.reduceAdd,Nat.reduceSub,Nat.reduceMul,Nat.reduceLT,Nat.reduceLeDiff,Nat.reduceBEq,Int.reduceEq,Int.reduceLT,Int.reduceLE,Int.reduceAdd,Int.reduceSub,Int.reduceNeg,Int.reduceToNat]
        try omega
       |some (y::ys)=>
        rw[kI hn2 hI]at hm
        have hap:List.map Stp.enc out++ [[vs x.t.text,vi 0,.slc 5 (y.enc::List.map Itm.enc ys)]]=List.map Stp.enc (out++ [(⟨x.t.text,0,y::ys⟩:Stp)]):=by simp[Stp.enc]
        have hyp:(0:Int)<((ys.length+1:Nat):Int):=by omega
        simp only[k1,e0,e1,e3,e4,e5,e6,hsl,kb,kb0,kb1,hgb,hxo,hn2,hI,kr,hyp,hot,hap,pas,zC,V.boo_c,kX,qT,Option.getD_some,Pa.enc,zm,Pa.eta',zd,zb,za,go_sem,reduceCtorEq,reduceIte,Nat.reduceEqDiff,Nat.reduceAdd,Nat.reduceSub,Nat.reduceMul,Nat.reduceLT,Nat.reduceLeDiff,Nat.reduceBEq,Int.reduceEq,Int.reduceLT,Int.reduceLE,Int.reduceAdd,Int.reduceSub,Int.reduceNeg,Int.reduceToNat]
        simp only[if_pos]at hm
        refine⟨by omega,⟨by omega,by omega,by omega⟩,by omega,by omega,⟨L.length+1,L.length+1,out++ [⟨x.t.text,0,y::ys⟩],_,_⟩,⟨by dsimp only;omega,by simp;omega,by dsimp only;omega,fun hh=>by dsimp only at hh;omega,fun _=>hm⟩,by dsimp only;omega,⟨⟨rfl,by simp⟩,by dsimp only;omega,by dsimp only;omega⟩,⟨rfl,rfl⟩,rfl⟩
    ·have k1:(i:Int)<(L.length:Int):=by omega
     have hgi:=z2 L i [vi 0,vs ⟨#[]⟩,vi 0,zA] hs
     have hck:((L.getD i default).t.kind=16)=True:=eq_true (by simpa[Zc]using hc)
     generalize L.getD i default=z at*
     rcases hcur with hcur|⟨x,r,hcur,hbi,hx,hr⟩
     ·have hbi:b=i:=by
       have:=congrArg List.length hcur
       simp at this;omega
      subst hbi
      rw[hcur]at hm
      simp only[jC]at hm
      subst hm
      simp only[k1,hgi,hck,e0,e1,Pa.enc,stR,zd,zb,za,go_sem,reduceCtorEq,reduceIte,Nat.reduceEqDiff,Nat.reduceAdd,Nat.reduceSub,Nat.reduceMul,Nat.reduceLT,Nat.reduceLeDiff,Nat.reduceBEq,Int.reduceEq,Int.reduceLT,Int.reduceLE,Int.reduceAdd,Int.reduceSub,Int.reduceNeg,Int.reduceToNat]
     ·rw[hcur]at hm
      have kb:(((i:Nat):Int)=(b:Int))=False:=eq_false (by omega)
      have kb0:(0:Int)≤(b:Int):=by omega
      have kb1:(b:Int)<(L.length:Int):=by omega
      have hgb:=z2 L b [vi 0,vs ⟨#[]⟩,vi 0,zA] (by omega)
      rw[hx]at hgb
      have hmx:x∈L:=by rw[←hx,List.getD_eq_getElem?_getD,List.getElem?_eq_getElem (by omega)];exact List.getElem_mem _
      have hxo:=(hP.2 x hmx).1
      have e3:((b:Int)+1).toNat=b+1:=by omega
      have e4:(0:Int)≤(b:Int)+1:=by omega
      have e5:(b:Int)+1≤((i:Nat):Int):=by omega
      have e6:((i:Nat):Int)≤(L.length:Int):=by omega
      have hsl:List.take (i - (b+1)) (List.drop (b+1) (L.map Pa.enc))=r.map Pa.enc:=by
       rw[hr,List.map_drop,List.map_take,List.drop_take]
      have kr:Y2 r:=by
       rw[hr]
       exact⟨by simp;omega,fun p hp=>hP.2 p (List.mem_of_mem_take (List.mem_of_mem_drop hp))⟩
      cases hn2:zJ x with
      |false=>
       rw[ZZ hn2]at hm
       simp only at hm
       subst hm
       simp only[k1,hgi,hck,e0,e1,kb,kb0,kb1,hgb,hxo,hn2,Pa.enc,zm,Pa.eta',stR,zd,zb,za,go_sem,reduceCtorEq,reduceIte,Nat.reduceEqDiff,Nat.reduceAdd,Nat.reduceSub,Nat.reduceMul,Nat.reduceLT,Nat.reduceLeDiff,Nat.reduceBEq,Int.reduceEq,Int.reduceLT,Int.reduceLE,Int.reduceAdd,Int.reduceSub,Int.reduceNeg,Int.reduceToNat]
      |true=>
       match hI:itL true r with
       |none=>
        rw[qi (.inl hI)]at hm
        simp only at hm
        subst hm
        simp only[k1,hgi,hck,e0,e1,e3,e4,e5,e6,hsl,kb,kb0,kb1,hgb,hxo,hn2,hI,kr,pas,zC,V.boo_c,kX,qT,Option.getD_none,Option.getD_some,List.length_nil,List.map_nil,Int.lt_irrefl,Pa.enc,zm,Pa.eta',stR,zd,zb,za,go_sem,reduceCtorEq,reduceIte,Nat.reduceEqDiff,Nat.reduceAdd,Nat.reduceSub,Nat.reduceMul,Nat.reduceLT,Nat.reduceLeDiff,Nat.reduceBEq,Int.reduceEq,Int.reduceLT,Int.reduceLE,Int.reduceAdd,Int.reduceSub,Int.reduceNeg,Int.reduceToNat]
        try omega
       |some []=>
        rw[qi (.inr hI)]at hm
        simp only at hm
        subst hm
        simp only[k1,hgi,hck,e0,e1,e3,e4,e5,e6,hsl,kb,kb0,kb1,hgb,hxo,hn2,hI,kr,pas,zC,V.boo_c,kX,qT,Option.getD_none,Option.getD_some,List.length_nil,List.map_nil,Int.lt_irrefl,Pa.enc,zm,Pa.eta',stR,zd,zb,za,go_sem,reduceCtorEq,reduceIte,Nat.reduceEqDiff,Nat.reduceAdd,Nat.reduceSub,Nat.reduceMul,Nat.reduceLT,Nat.reduceLeDiff,Nat.reduceBEq,Int.reduceEq,Int.reduceLT,Int.reduceLE,Int.reduceAdd,Int.reduceSub,Int.reduceNeg,Int.reduceToNat]
        try omega
       |some (y::ys)=>
        rw[kI hn2 hI]at hm
        have hap:List.map Stp.enc out++ [[vs x.t.text,vi 0,.slc 5 (y.enc::List.map Itm.enc ys)]]=List.map Stp.enc (out++ [(⟨x.t.text,0,y::ys⟩:Stp)]):=by simp[Stp.enc]
        have hyp:(0:Int)<((ys.length+1:Nat):Int):=by omega
        simp only[k1,hgi,hck,e0,e1,e3,e4,e5,e6,hsl,kb,kb0,kb1,hgb,hxo,hn2,hI,kr,hyp,hot,hap,pas,zC,V.boo_c,kX,qT,Option.getD_some,Pa.enc,zm,Pa.eta',zd,zb,za,go_sem,reduceCtorEq,reduceIte,Nat.reduceEqDiff,Nat.reduceAdd,Nat.reduceSub,Nat.reduceMul,Nat.reduceLT,Nat.reduceLeDiff,Nat.reduceBEq,Int.reduceEq,Int.reduceLT,Int.reduceLE,Int.reduceAdd,Int.reduceSub,Int.reduceNeg,Int.reduceToNat]
        simp only[if_neg (show ¬i=L.length by omega)]at hm
        refine⟨by omega,⟨by omega,by omega,by omega⟩,by omega,by omega,⟨i+1,i+1,out++ [⟨x.t.text,0,y::ys⟩],_,_⟩,⟨by dsimp only;omega,by simp;omega,by dsimp only;omega,fun _=> ?_,fun hh=>by dsimp only at hh;omega⟩,by dsimp only;omega,⟨⟨rfl,by simp⟩,by dsimp only;omega,by dsimp only;omega⟩,⟨rfl,rfl⟩,rfl⟩
        dsimp only
        rw[←hm,List.drop_eq_nil_of_le (by rw[List.length_take];omega)]
        cases qG [] (L.drop (i+1))<;>simp
   ·have hs:i<L.length:=Decidable.byContradiction fun hh=>hsep (.inl (by omega))
    have hc:Zc (L.getD i default)=false:=by
     cases hh:Zc (L.getD i default)with
     |false=>rfl
     |true=>exact absurd (.inr ⟨hs,hh⟩) hsep
    have k1:(i:Int)<(L.length:Int):=by omega
    have hgi:=z2 L i [vi 0,vs ⟨#[]⟩,vi 0,zA] hs
    have hck:((L.getD i default).t.kind=16)=False:=eq_false (by simpa[Zc]using hc)
    have hsn:=Q7 L b i i3 hs
    rw[qF L i hs,qG,if_neg (by rw[hc];simp),←hsn]at i6
    generalize L.getD i default=z at*
    simp only[k1,hgi,hck,e0,e1,Pa.enc,zd,zb,za,go_sem,reduceCtorEq,reduceIte,Nat.reduceEqDiff,Nat.reduceAdd,Nat.reduceSub,Nat.reduceMul,Nat.reduceLT,Nat.reduceLeDiff,Nat.reduceBEq,Int.reduceEq,Int.reduceLT,Int.reduceLE,Int.reduceAdd,Int.reduceSub,Int.reduceNeg,Int.reduceToNat]
    exact⟨by omega,⟨b,i+1,out,ver,clk⟩,⟨by dsimp only;omega,by dsimp only;omega,by dsimp only;omega,fun _=>i6,fun hh=>by dsimp only at hh;omega⟩,by dsimp only;omega,⟨⟨rfl,rfl⟩,rfl,by dsimp only;omega⟩,⟨rfl,rfl⟩,rfl⟩
def KN:Sum Tryz.prog:=⟨23,fun args=>args= [zj (zh (args.getD 0 .any))]∧okT (zh (args.getD 0 .any)),fun args=>zbQ (stO (zh (args.getD 0 .any))),fun args h=>by
 have:=zgU (zh (args.getD 0 .any)) h.2;rwa [←h.1]at this,false⟩
theorem zpz:KN.f=23:=rfl
theorem zpy(args:List V):KN.D args=(args= [zj (zh (args.getD 0 .any))]∧okT (zh (args.getD 0 .any))):=rfl
theorem ze2:KN.flat=false:=rfl
theorem zpA(args:List V):KN.r args=zbQ (stO (zh (args.getD 0 .any))):=rfl
attribute [go_sem] zpz zpy ze2 zpA
end Go.Proofs.YtjcmoedalneldaaGreat
section
section
namespace Go.Proofs.YtjcmoedalneldaaGreat
open Go.Sx
set_option linter.unusedSimpArgs false
set_option linter.unusedVariables false
set_option maxHeartbeats 4000000
set_option maxRecDepth 100000
theorem zq6(l:List Tok):yq l=false↔∀j,j≤l.length→(opn l j).length≤64:=by
 unfold yq
 rw[decide_eq_false_iff_not]
 constructor
 ·intro h j hj
  cases j with
  |zero=>simp[opn]
  |succ j=>exact Decidable.byContradiction fun hn=>h ⟨j,by omega,by omega⟩
 ·rintro h ⟨i,h1,h2⟩
  have:=h (i+1) (by omega)
  omega
structure Bal (a:List Tok):Prop where
 d:yq a=false
 o:opn a a.length= []
theorem ziG{a:List Tok}(h:a.length≤64):yq a=false:=by
 rw[zq6];intro j hj;have:=zaE a j;omega
end Go.Proofs.YtjcmoedalneldaaGreat
end
section
namespace Go.Proofs.YtjcmoedalneldaaGreat
open Go.Sx
set_option linter.unusedSimpArgs false
set_option linter.unusedVariables false
set_option maxHeartbeats 4000000
set_option maxRecDepth 100000
end Go.Proofs.YtjcmoedalneldaaGreat
end
section
namespace Go.Proofs.YtjcmoedalneldaaGreat
open Go.Sx
set_option linter.unusedSimpArgs false
set_option linter.unusedVariables false
set_option maxHeartbeats 4000000
set_option maxRecDepth 100000
end Go.Proofs.YtjcmoedalneldaaGreat
end
section
namespace Go.Proofs.YtjcmoedalneldaaGreat
open Go.Sx
set_option linter.unusedSimpArgs false
set_option linter.unusedVariables false
set_option maxHeartbeats 4000000
set_option maxRecDepth 100000
end Go.Proofs.YtjcmoedalneldaaGreat
end
end
