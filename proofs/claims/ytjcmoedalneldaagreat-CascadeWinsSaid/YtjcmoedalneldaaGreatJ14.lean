/- Part of the proof of CascadeWins. No condition. -/
import Derived.Test.YtjcmoedalneldaaGreatJ13
import Derived.Test.YtjcmoedalneldaaGreatJ11
import Derived.Test.YtjcmoedalneldaaGreatJ9
import Derived.Test.YtjcmoedalneldaaGreatJ10
import Derived.Test.YtjcmoedalneldaaGreatAw
namespace Go.Proofs.YtjcmoedalneldaaGreat
open Go.Sx
set_option linter.unusedSimpArgs false
set_option linter.unusedVariables false
set_option maxHeartbeats 8000000
set_option maxRecDepth 100000
def j5(p:Pa):Bool:=decide (p.t.kind=16)
theorem zBN(p:Pa):zf Tryz.prog 78 [.agg p.enc] (vb (j5 p)):=by
 refine zf.of (Orc.nil _) zz1 (by simp[c78]) fun w0 own0=> ?_
 simp only[c78,Pa.enc,j5,go_sem,zc,reduceCtorEq,reduceIte,Nat.reduceEqDiff,Nat.reduceAdd,Nat.reduceSub,Nat.reduceMul,Nat.reduceLT,Nat.reduceLeDiff,Nat.reduceBEq,Int.reduceEq,Int.reduceLT,Int.reduceLE,Int.reduceAdd,Int.reduceSub,Int.reduceNeg,Int.reduceToNat]
def zgL:Sum Tryz.prog:=⟨78,fun args=>args= [.agg (Pa.enc (dPa (args.getD 0 .any)))],fun args=>vb (j5 (dPa (args.getD 0 .any))),fun args h=>by
 have:=zBN (dPa (args.getD 0 .any));rwa [←h]at this,true⟩
theorem zxB:zgL.f=78:=rfl
theorem zxA(args:List V):zgL.D args=(args= [.agg (Pa.enc (dPa (args.getD 0 .any)))]):=rfl
theorem zjg:zgL.flat=true:=rfl
theorem zxC(args:List V):zgL.r args=vb (j5 (dPa (args.getD 0 .any))):=rfl
attribute [go_sem] zxB zxA zjg zxC
def zir(L:List Pa):Int:=fst (fun i=>j5 (L.getD i default)) (L.length - 0) 0
theorem zwP(L:List Pa)(hl:L.length≤1000001):zf Tryz.prog 77 [pas L,.fn 78 []] (vi (zir L)):=by
 refine zf.of (Orc.cons zgL (Orc.nil _)) zz0 (by simp[c77]) fun w0 own0=> ?_
 simp only[c77,pas,go_sem,zc,reduceCtorEq,reduceIte,Nat.reduceEqDiff,Nat.reduceAdd,Nat.reduceSub,Nat.reduceMul,Nat.reduceLT,Nat.reduceLeDiff,Nat.reduceBEq,Int.reduceEq,Int.reduceLT,Int.reduceLE,Int.reduceAdd,Int.reduceSub,Int.reduceNeg,Int.reduceToNat]
 refine zC.lp (α:=Nat) (fun k=>[(0,.slc 4 (L.map Pa.enc)),(1,.fn 78 []),(7,vi L.length),(8,vi k)]) (fun _=>⟨[],0⟩)
  (fun k=>k≤L.length∧fst (fun i=>j5 (L.getD i default)) (L.length - k) k=zir L) (fun k=>L.length - k) 0 ⟨Nat.zero_le _,rfl⟩ (St.mk (by simp[zu,zj,zq])) fun k hk=> ?_
 obtain⟨h1,h2⟩:=hk
 by_cases hkl:k=L.length
 ·subst hkl
  rw[ZT]at h2
  simp only[Int.lt_irrefl,←h2,go_sem,zc,reduceCtorEq,reduceIte,Nat.reduceEqDiff,Nat.reduceAdd,Nat.reduceSub,Nat.reduceMul,Nat.reduceLT,Nat.reduceLeDiff,Nat.reduceBEq,Int.reduceEq,Int.reduceLT,Int.reduceLE,Int.reduceAdd,Int.reduceSub,Int.reduceNeg,Int.reduceToNat]
 ·have e1:(k:Int)<(L.length:Int):=by omega
  have e0:(0:Int)≤(k:Int):=by omega
  have hlt:k<L.length:=by omega
  rw[kP _ _ _ hlt]at h2
  have hg:=zY L k [vi 0,vs ⟨#[]⟩,vi 0,zz] hlt
  generalize L.getD k default=x at*
  simp only[e0,e1,hg,Pa.enc,zl,Pa.eta',go_sem,zc,reduceCtorEq,reduceIte,Nat.reduceEqDiff,Nat.reduceAdd,Nat.reduceSub,Nat.reduceMul,Nat.reduceLT,Nat.reduceLeDiff,Nat.reduceBEq,Int.reduceEq,Int.reduceLT,Int.reduceLE,Int.reduceAdd,Int.reduceSub,Int.reduceNeg,Int.reduceToNat]
  cases hc:j5 x with
  |true=>simp only[hc,if_true]at h2;simp[h2]
  |false=>
   simp only[hc,Bool.false_eq_true,if_false]at h2
   simp
   exact⟨by omega,k+1,⟨by omega,h2⟩,by omega,by omega⟩
def YZ:Sum Tryz.prog:=⟨77,fun args=>args= [pas (yV (args.getD 0 .any)),.fn 78 []]∧((yV (args.getD 0 .any))).length≤1000001,fun args=>vi (zir (yV (args.getD 0 .any))),fun args h=>by
 have:=zwP (yV (args.getD 0 .any)) h.2;rwa [←h.1]at this,true⟩
theorem zn3:YZ.f=77:=rfl
theorem zn2(args:List V):YZ.D args=(args= [pas (yV (args.getD 0 .any)),.fn 78 []]∧((yV (args.getD 0 .any))).length≤1000001):=rfl
theorem zem:YZ.flat=true:=rfl
theorem zn4(args:List V):YZ.r args=vi (zir (yV (args.getD 0 .any))):=rfl
attribute [go_sem] zn3 zn2 zem zn4
def jZ(cur:List Pa):Option Stp:=match cur with
 | []=>none
 |a::r=>if zI a=true then(match itL true r with|some (x::xs)=>some ⟨a.t.text,0,x::xs⟩|_=>none)else none
def kg:List Pa→List Pa→Option (List Stp)
 |cur,[]=>(jZ cur).map fun s=>[s]
 |cur,p::l=>if j5 p=true then(match jZ cur with|none=>none|some s=>(kg [] l).map (s:: ·))else kg (cur++ [p]) l
theorem Jc:∀(a cur l:List Pa),(∀p∈a,j5 p=false)→kg cur (a++l)=kg (cur++a) l
 | [],cur,l,_=>by simp
 |p::a,cur,l,h=>by
  rw[List.cons_append,kg,if_neg (by rw[h p (by simp)];simp),Jc a _ l (fun q hq=>h q (by simp[hq]))]
  simp
def stO(l:List Tok):Option (List Stp):=if ptB l=true then(if isNone (pl l)=true then some []else kg [] (pl l))else none
def stR:Option (List Stp)→V
 |none=>.tup [zz,vb false]
 |some l=>.tup [W4 l,vb true]
def zdU(o:Option (List Stp)):V:=.tup [W4 (o.getD []),vb o.isSome]
theorem zkY(o:Option (List Stp)){f:FuncId}{args:List V}(h:zf Tryz.prog f args (stR o)):zf Tryz.prog f args (zdU o):=by
 cases o with
 |none=>exact zf.rsub h (qF false)
 |some l=>exact h
theorem Zt(S:Nat→Bool)(h:Heap):∀l:List Stp,zA (zA (res S h 11)) (l.map Stp.enc)=some (l.map Stp.enc)
 | []=>rfl
 |p::l=>by
  have e:zA (res S h 11) p.enc=some p.enc:=rfl
  simp only[List.map_cons,zA,Zt S h l,e]
theorem Zs(S:Nat→Bool)(h:Heap):∀l:List Stp,zA (zA (res S h 10)) (l.map Stp.enc)=some (l.map Stp.enc)
 | []=>rfl
 |p::l=>by
  have e:zA (res S h 10) p.enc=some p.enc:=rfl
  simp only[List.map_cons,zA,Zs S h l,e]
theorem zaT{L:List Pa}(h:isNone L=true):∃p,L= [p]∧yc p ⟨#[110,111,110,101]⟩=true:=by
 unfold isNone at h
 split at h
 ·exact⟨_,rfl,h⟩
 ·cases h
theorem zaU(L:List Pa):(zir L= -1∧kg [] L=(jZ L).map fun s=>[s])∨∃m:Nat,zir L=m∧m<L.length∧kg [] L=(match jZ (L.take m)with|none=>none|some s=>(kg [] (L.drop (m+1))).map (s:: ·)):=by
 unfold zir
 have hg:∀(a:List Pa),(∀i,i<a.length→j5 (a.getD i default)=false)→∀p∈a,j5 p=false:=fun a h p hp=>by
  obtain⟨i,hi,rfl⟩:=List.getElem_of_mem hp
  have:=h i hi
  rwa [List.getD_eq_getElem?_getD,List.getElem?_eq_getElem hi]at this
 rcases kO (fun i=>j5 (L.getD i default)) (L.length - 0) 0 with⟨h1,h2⟩|⟨m,h1,h2,h3,h4,h5⟩
 ·refine .inl ⟨h1,?_⟩
  have:=Jc L [] [] (hg L fun i hi=>h2 i (by omega) (by omega))
  rw[List.append_nil,List.nil_append]at this
  rw[this];rfl
 ·have hm:m<L.length:=by omega
  refine .inr ⟨m,h1,hm,?_⟩
  have e:L=L.take m++L.getD m default::L.drop (m+1):=by
   rw[←qy L m hm,List.take_append_drop]
  have h6:=Jc (L.take m) [] (L.getD m default::L.drop (m+1)) (hg _ fun i hi=>by
   rw[List.length_take]at hi
   have:=h5 i (by omega) (by omega)
   rw[List.getD_eq_getElem?_getD,List.getElem?_take,if_pos (by omega),←List.getD_eq_getElem?_getD];exact this)
  rw[←e,List.nil_append]at h6
  rw[h6,kg,if_pos h4]
structure SrS where
 L:List Pa
 out:List Stp
 ver:Nat
 clk:Nat
theorem kC{a:Pa}{r:List Pa}{x:Itm}{xs:List Itm}(h:zI a=true)(hI:itL true r=some (x::xs)):jZ (a::r)=some ⟨a.t.text,0,x::xs⟩:=by unfold jZ;simp only[h,if_true,hI]
theorem ZR{a:Pa}{r:List Pa}(h:zI a=false):jZ (a::r)=none:=by unfold jZ;simp only[h,Bool.false_eq_true,if_false]
theorem qc{a:Pa}{r:List Pa}(hI:itL true r=none∨itL true r=some []):jZ (a::r)=none:=by
 unfold jZ
 rcases hI with hI|hI<;>simp only[hI,ite_self]
theorem zi4(l:List Tok)(h:okT l):zf Tryz.prog 43 [zh l] (zdU (stO l)):=by
 have h1:=h.1
 have hP:=zkK h
 have hfb:=@JP l
 unfold stO
 generalize hL:pl l=L0 at*
 cases hb:ptB l with
 |false=>
  have hz:=hfb hb
  subst hz
  rw[if_neg (by simp)]
  refine zf.rsub ?_ (qF false)
  refine zf.of (Orc.cons qX (Orc.cons jm (Orc.cons YZ (Orc.cons ZX (Orc.cons Jd (Orc.nil _)))))) zh8 (by simp[c43]) fun w0 own0=> ?_
  simp only[c43,zh,ze,h1,plV,hL,hb,List.map_nil,zd,zb,za,go_sem,reduceCtorEq,reduceIte,Nat.reduceEqDiff,Nat.reduceAdd,Nat.reduceSub,Nat.reduceMul,Nat.reduceLT,Nat.reduceLeDiff,Nat.reduceBEq,Int.reduceEq,Int.reduceLT,Int.reduceLE,Int.reduceAdd,Int.reduceSub,Int.reduceNeg,Int.reduceToNat]
  refine zC.lp (α:=Nat) (fun k=>[(5,vb false)]) (fun _=>⟨[],0⟩) (fun k=>True) (fun k=>0) 0 trivial (St.mk (by simp[zu,zj])) fun k hk=> ?_
  simp only[zd,zb,za,go_sem,reduceCtorEq,reduceIte,Nat.reduceEqDiff,Nat.reduceAdd,Nat.reduceSub,Nat.reduceMul,Nat.reduceLT,Nat.reduceLeDiff,Nat.reduceBEq,Int.reduceEq,Int.reduceLT,Int.reduceLE,Int.reduceAdd,Int.reduceSub,Int.reduceNeg,Int.reduceToNat]
 |true=>
 rw[if_pos rfl]
 by_cases hn:isNone L0=true
 ·rw[if_pos hn]
  obtain⟨p,rfl,hi⟩:=zaT hn
  have hp:=(hP.2 p (by simp)).1
  refine zf.rsub ?_ (qF true)
  refine zf.of (Orc.cons qX (Orc.cons jm (Orc.cons YZ (Orc.cons ZX (Orc.cons Jd (Orc.nil _)))))) zh8 (by simp[c43]) fun w0 own0=> ?_
  simp only[c43,zh,ze,h1,plV,hL,hb,hi,hp,Pa.enc,zl,Pa.eta',List.map_cons,List.map_nil,zd,zb,za,go_sem,reduceCtorEq,reduceIte,Nat.reduceEqDiff,Nat.reduceAdd,Nat.reduceSub,Nat.reduceMul,Nat.reduceLT,Nat.reduceLeDiff,Nat.reduceBEq,Int.reduceEq,Int.reduceLT,Int.reduceLE,Int.reduceAdd,Int.reduceSub,Int.reduceNeg,Int.reduceToNat]
 rw[if_neg hn]
 refine zkY _ ?_
 generalize hR:kg [] L0=R
 refine zf.of (Orc.cons qX (Orc.cons jm (Orc.cons YZ (Orc.cons ZX (Orc.cons Jd (Orc.nil _)))))) zh8 (by simp[c43]) fun w0 own0=> ?_
 have lp:∀(e:Nat→V)(Q:yv),e 4= .slc 4 (L0.map Pa.enc)→e 5=vb true→e 6=zz→(∀e' h',(e' 2=zz∧e' 3=vb false∧R=none)→Q .ret e' h')→True:=fun _ _ _ _ _ _=>trivial
 clear lp
 by_cases hl1:∃p,L0= [p]
 ·obtain⟨p,rfl⟩:=hl1
  have hp:=(hP.2 p (by simp)).1
  have hi:yc p ⟨#[110,111,110,101]⟩=false:=by
   cases hh:yc p ⟨#[110,111,110,101]⟩with
   |false=>rfl
   |true=>exact absurd hh (by simpa[isNone,zfZ]using hn)
  simp only[c43,zh,ze,h1,plV,hL,hb,hi,hp,Pa.enc,zl,Pa.eta',List.map_cons,List.map_nil,zd,zb,za,go_sem,reduceCtorEq,reduceIte,Nat.reduceEqDiff,Nat.reduceAdd,Nat.reduceSub,Nat.reduceMul,Nat.reduceLT,Nat.reduceLeDiff,Nat.reduceBEq,Int.reduceEq,Int.reduceLT,Int.reduceLE,Int.reduceAdd,Int.reduceSub,Int.reduceNeg,Int.reduceToNat]
  refine zC.lp (α:=SrS) (fun a=>[(4,.slc 4 (a.L.map Pa.enc)),(5,vb true),(6,.ref 0 a.ver 0 a.out.length)])
   (fun a=>⟨[⟨a.ver,3,a.out.map Stp.enc,false,[vs ⟨#[]⟩,vi 0,zz]⟩],a.clk⟩) (fun a=>YT a.L∧a.out.length+a.L.length≤1000001∧(kg [] a.L).map (a.out++ ·)=R) (fun a=>a.L.length) ⟨[p],[],0,1⟩
   ⟨hP,by simp,by rw[←hR];cases kg [] [p]<;>rfl⟩ (St.nil 6 3 [vs ⟨#[]⟩,vi 0,zz] (by simp[zj]) (St.cut ?_ ?_ ?_)) fun a ha=> ?_
  ·simp[zu,zj,zq,Pa.enc]
  ·simp[Heap.alloc]
  ·rfl
  obtain⟨L,out,ver,clk⟩:=a
  obtain⟨hPL,hlen,h4⟩:=ha
  simp only at hPL hlen h4
  have hot:out.take out.length=out:=List.take_length
  have hL1:=hPL.1
  have key:∀(one:List Pa)(e:Int),(one= []→kg [] L=none)→True:=fun _ _ _=>trivial
  clear key
  rcases zaU L with⟨hix,hst⟩|⟨m,hix,hm,hst⟩
  ·rw[hst]at h4
   have hone:=hPL
   obtain⟨one,hO⟩:∃one,L=one:=⟨_,rfl⟩
   subst hO
   match L,hone,h4,hix,hL1,hlen,hst,hPL with
   | [],hone,h4,hix,hL1,hlen,hst,hPL=>
     simp only[jZ,Option.map_none]at h4
     subst h4
     have hd0:yV (.slc 4 [])= []:=rfl
     simp only[hix,hL1,pas,zB,V.boo_c,hd0,stR,List.map_nil,List.length_nil,Nat.zero_le,Int.lt_irrefl,zd,zb,za,go_sem,reduceCtorEq,reduceIte,Nat.reduceEqDiff,Nat.reduceAdd,Nat.reduceSub,Nat.reduceMul,Nat.reduceLT,Nat.reduceLeDiff,Nat.reduceBEq,Int.reduceEq,Int.reduceLT,Int.reduceLE,Int.reduceAdd,Int.reduceSub,Int.reduceNeg,Int.reduceToNat]
   |x::r,hone,h4,hix,hL1,hlen,hst,hPL=>
    obtain⟨kx,kr⟩:(yT x∧okT x.al)∧YT r:=⟨hone.2 x (by simp),by have:=hone.1;simp at this;omega,fun p hp=>hone.2 p (by simp[hp])⟩
    have hx0:=kx.1
    have hrl:r.length≤1000001:=kr.1
    have hl0:(((r.length+1:Nat):Int)=0)=False:=eq_false (by omega)
    have hlp:(0:Int)<((r.length+1:Nat):Int):=by omega
    have hl1:(1:Int)≤((r.length+1:Nat):Int):=by omega
    have htr:r.take (r.length+1 - 1)=r:=List.take_of_length_le (by omega)
    have hpe:yV (.slc 4 ([vi x.t.kind,vs x.t.text,vi x.t.n,.slc 3 (x.al.map Tok.enc)]::r.map Pa.enc))=x::r:=zB 4 (x::r)
    have hrl1:r.length+1≤1000001:=hone.1
    cases hn2:zI x with
    |false=>
     rw[ZR hn2]at h4
     simp only[Option.map_none]at h4
     subst h4
     simp only[hix,hL1,pas,zB,V.boo_c,hpe,hrl1,hl0,hlp,hl1,htr,Int.le_refl,hx0,kr,List.map_cons,List.length_cons,Pa.enc,zl,Pa.eta',hn2,stR,zd,zb,za,go_sem,reduceCtorEq,reduceIte,Nat.reduceEqDiff,Nat.reduceAdd,Nat.reduceSub,Nat.reduceMul,Nat.reduceLT,Nat.reduceLeDiff,Nat.reduceBEq,Int.reduceEq,Int.reduceLT,Int.reduceLE,Int.reduceAdd,Int.reduceSub,Int.reduceNeg,Int.reduceToNat]
    |true=>
     match hI:itL true r with
     |none=>
      rw[qc (.inl hI)]at h4
      simp only[Option.map_none]at h4
      subst h4
      simp only[hix,hL1,pas,zB,V.boo_c,hpe,hrl1,hl0,hlp,hl1,htr,Int.le_refl,hx0,kr,List.map_cons,List.length_cons,Pa.enc,zl,Pa.eta',hn2,hI,kR,kZ,stR,Option.getD_none,Option.getD_some,List.length_nil,List.map_nil,Int.lt_irrefl,zd,zb,za,go_sem,reduceCtorEq,reduceIte,Nat.reduceEqDiff,Nat.reduceAdd,Nat.reduceSub,Nat.reduceMul,Nat.reduceLT,Nat.reduceLeDiff,Nat.reduceBEq,Int.reduceEq,Int.reduceLT,Int.reduceLE,Int.reduceAdd,Int.reduceSub,Int.reduceNeg,Int.reduceToNat]
     |some []=>
      rw[qc (.inr hI)]at h4
      simp only[Option.map_none]at h4
      subst h4
      simp only[hix,hL1,pas,zB,V.boo_c,hpe,hrl1,hl0,hlp,hl1,htr,Int.le_refl,hx0,kr,List.map_cons,List.length_cons,Pa.enc,zl,Pa.eta',hn2,hI,kR,kZ,stR,Option.getD_none,Option.getD_some,List.length_nil,List.map_nil,Int.lt_irrefl,zd,zb,za,go_sem,reduceCtorEq,reduceIte,Nat.reduceEqDiff,Nat.reduceAdd,Nat.reduceSub,Nat.reduceMul,Nat.reduceLT,Nat.reduceLeDiff,Nat.reduceBEq,Int.reduceEq,Int.reduceLT,Int.reduceLE,Int.reduceAdd,Int.reduceSub,Int.reduceNeg,Int.reduceToNat]
     |some (y::ys)=>
      rw[kC hn2 hI]at h4
      have hap:List.map Stp.enc out++ [[vs x.t.text,vi 0,.slc 5 (y.enc::List.map Itm.enc ys)]]=List.map Stp.enc (out++ [(⟨x.t.text,0,y::ys⟩:Stp)]):=by simp[Stp.enc]
      have htS:List.take (out.length+1) (out++ [(⟨x.t.text,0,y::ys⟩:Stp)])=out++ [(⟨x.t.text,0,y::ys⟩:Stp)]:=List.take_of_length_le (by simp)
      have hlS:(out++ [(⟨x.t.text,0,y::ys⟩:Stp)]).length=out.length+1:=by simp
      have hyp:(0:Int)<((ys.length+1:Nat):Int):=by omega
      simp only[Option.map_some]at h4
      subst h4
      simp only[hix,hL1,pas,zB,V.boo_c,hpe,hrl1,hl0,hlp,hl1,htr,Int.le_refl,hx0,kr,List.map_cons,List.length_cons,Pa.enc,zl,Pa.eta',hn2,hI,hyp,hot,hap,htS,hlS,Zs,Zt,Nat.le_refl,kR,kZ,stR,W4,Option.getD_some,zd,zb,za,go_sem,reduceCtorEq,reduceIte,Nat.reduceEqDiff,Nat.reduceAdd,Nat.reduceSub,Nat.reduceMul,Nat.reduceLT,Nat.reduceLeDiff,Nat.reduceBEq,Int.reduceEq,Int.reduceLT,Int.reduceLE,Int.reduceAdd,Int.reduceSub,Int.reduceNeg,Int.reduceToNat]
      omega
  ·rw[hst]at h4
   have em1:(0:Int)≤(m:Int):=by omega
   have em2:(m:Int)≤(L.length:Int):=by omega
   have emn:¬(m:Int)<0:=by omega
   have emt:((m:Int)+1).toNat=m+1:=by omega
   have htk:List.take m (L.map Pa.enc)=(L.take m).map Pa.enc:=by rw[List.map_take]
   have hd1:(0:Int)≤(m:Int)+1:=by omega
   have hd2:(m:Int)+1≤(L.length:Int):=by omega
   have hdr:List.take (L.length - (m+1)) (List.drop (m+1) (L.map Pa.enc))=(L.drop (m+1)).map Pa.enc:=by rw[←List.map_drop,List.take_of_length_le (by simp)]
   have hone:YT (L.take m):=⟨by rw[List.length_take];omega,fun p hp=>hPL.2 p (List.mem_of_mem_take hp)⟩
   have hlm:(L.take m).length=m:=by rw[List.length_take];omega
   generalize hO:L.take m=one at*
   match one,hone,h4,htk,hlm with
   | [],hone,h4,htk,hlm=>
     simp only[jZ,Option.map_none]at h4
     subst h4
     have hlm0:(0:Int)≤(L.length:Int):=by omega
     have hm0:m=0:=by simpa using hlm.symm
     subst hm0
     have hd0:yV (.slc 4 [])= []:=rfl
     simp only[hix,hL1,em1,em2,emn,emt,hd1,hd2,htk,hdr,Nat.sub_zero,hO,pas,zB,V.boo_c,hd0,stR,List.map_nil,List.length_nil,Nat.zero_le,Int.lt_irrefl,hlm0,zd,zb,za,go_sem,reduceCtorEq,reduceIte,Nat.reduceEqDiff,Nat.reduceAdd,Nat.reduceSub,Nat.reduceMul,Nat.reduceLT,Nat.reduceLeDiff,Nat.reduceBEq,Int.reduceEq,Int.reduceLT,Int.reduceLE,Int.reduceAdd,Int.reduceSub,Int.reduceNeg,Int.reduceToNat]
   |x::r,hone,h4,htk,hlm=>
    obtain⟨kx,kr⟩:(yT x∧okT x.al)∧YT r:=⟨hone.2 x (by simp),by have:=hone.1;simp at this;omega,fun p hp=>hone.2 p (by simp[hp])⟩
    have hx0:=kx.1
    have hrl:r.length≤1000001:=kr.1
    have hl0:(((r.length+1:Nat):Int)=0)=False:=eq_false (by omega)
    have hlp:(0:Int)<((r.length+1:Nat):Int):=by omega
    have hl1:(1:Int)≤((r.length+1:Nat):Int):=by omega
    have htr:r.take (r.length+1 - 1)=r:=List.take_of_length_le (by omega)
    have hpe:yV (.slc 4 ([vi x.t.kind,vs x.t.text,vi x.t.n,.slc 3 (x.al.map Tok.enc)]::r.map Pa.enc))=x::r:=zB 4 (x::r)
    have hrl1:r.length+1≤1000001:=hone.1
    have hml:m=r.length+1:=by simpa using hlm.symm
    have hzm:((m:Int)=0)=False:=eq_false (by omega)
    cases hn2:zI x with
    |false=>
     rw[ZR hn2]at h4
     simp only[Option.map_none]at h4
     subst h4
     simp only[hix,hL1,em1,em2,emn,emt,hd1,hd2,htk,hdr,Nat.sub_zero,hO,pas,zB,V.boo_c,hpe,hrl1,hl0,hlp,hl1,htr,Int.le_refl,hx0,kr,List.map_cons,List.length_cons,Pa.enc,zl,Pa.eta',hn2,stR,zd,zb,za,go_sem,reduceCtorEq,reduceIte,Nat.reduceEqDiff,Nat.reduceAdd,Nat.reduceSub,Nat.reduceMul,Nat.reduceLT,Nat.reduceLeDiff,Nat.reduceBEq,Int.reduceEq,Int.reduceLT,Int.reduceLE,Int.reduceAdd,Int.reduceSub,Int.reduceNeg,Int.reduceToNat]
    |true=>
     match hI:itL true r with
     |none=>
      rw[qc (.inl hI)]at h4
      simp only[Option.map_none]at h4
      subst h4
      simp only[hix,hL1,em1,em2,emn,emt,hd1,hd2,htk,hdr,Nat.sub_zero,hO,pas,zB,V.boo_c,hpe,hrl1,hl0,hlp,hl1,htr,Int.le_refl,hx0,kr,List.map_cons,List.length_cons,Pa.enc,zl,Pa.eta',hn2,hI,kR,kZ,stR,Option.getD_none,Option.getD_some,List.length_nil,List.map_nil,Int.lt_irrefl,zd,zb,za,go_sem,reduceCtorEq,reduceIte,Nat.reduceEqDiff,Nat.reduceAdd,Nat.reduceSub,Nat.reduceMul,Nat.reduceLT,Nat.reduceLeDiff,Nat.reduceBEq,Int.reduceEq,Int.reduceLT,Int.reduceLE,Int.reduceAdd,Int.reduceSub,Int.reduceNeg,Int.reduceToNat]
     |some []=>
      rw[qc (.inr hI)]at h4
      simp only[Option.map_none]at h4
      subst h4
      simp only[hix,hL1,em1,em2,emn,emt,hd1,hd2,htk,hdr,Nat.sub_zero,hO,pas,zB,V.boo_c,hpe,hrl1,hl0,hlp,hl1,htr,Int.le_refl,hx0,kr,List.map_cons,List.length_cons,Pa.enc,zl,Pa.eta',hn2,hI,kR,kZ,stR,Option.getD_none,Option.getD_some,List.length_nil,List.map_nil,Int.lt_irrefl,zd,zb,za,go_sem,reduceCtorEq,reduceIte,Nat.reduceEqDiff,Nat.reduceAdd,Nat.reduceSub,Nat.reduceMul,Nat.reduceLT,Nat.reduceLeDiff,Nat.reduceBEq,Int.reduceEq,Int.reduceLT,Int.reduceLE,Int.reduceAdd,Int.reduceSub,Int.reduceNeg,Int.reduceToNat]
     |some (y::ys)=>
      rw[kC hn2 hI]at h4
      have hap:List.map Stp.enc out++ [[vs x.t.text,vi 0,.slc 5 (y.enc::List.map Itm.enc ys)]]=List.map Stp.enc (out++ [(⟨x.t.text,0,y::ys⟩:Stp)]):=by simp[Stp.enc]
      have htS:List.take (out.length+1) (out++ [(⟨x.t.text,0,y::ys⟩:Stp)])=out++ [(⟨x.t.text,0,y::ys⟩:Stp)]:=List.take_of_length_le (by simp)
      have hlS:(out++ [(⟨x.t.text,0,y::ys⟩:Stp)]).length=out.length+1:=by simp
      have hyp:(0:Int)<((ys.length+1:Nat):Int):=by omega
      simp only at h4
      simp only[hix,hL1,em1,em2,emn,emt,hd1,hd2,htk,hdr,Nat.sub_zero,hO,pas,zB,V.boo_c,hpe,hrl1,hl0,hlp,hl1,htr,Int.le_refl,hx0,kr,List.map_cons,List.length_cons,Pa.enc,zl,Pa.eta',hn2,hI,hyp,hot,hap,htS,hlS,kR,kZ,Option.getD_some,zd,zb,za,go_sem,reduceCtorEq,reduceIte,Nat.reduceEqDiff,Nat.reduceAdd,Nat.reduceSub,Nat.reduceMul,Nat.reduceLT,Nat.reduceLeDiff,Nat.reduceBEq,Int.reduceEq,Int.reduceLT,Int.reduceLE,Int.reduceAdd,Int.reduceSub,Int.reduceNeg,Int.reduceToNat]
      refine⟨⟨by omega,by omega,by omega⟩,by omega,⟨L.drop (m+1),out++ [⟨x.t.text,0,y::ys⟩],clk+1,clk+1+1⟩,⟨⟨by simp;omega,fun p hp=>hPL.2 p (List.mem_of_mem_drop hp)⟩,by simp;omega,?_⟩,by simp;omega,⟨rfl,rfl,by simp⟩,⟨rfl,rfl⟩,rfl⟩
      rw[←h4];cases kg [] (L.drop (m+1))<;>simp
 ·have hl2:((L0.length:Int)=1)=False:=eq_false (fun hh=>hl1 (List.length_eq_one_iff.1 (by omega)))
  simp only[c43,zh,ze,h1,plV,hL,hb,hl2,zd,zb,za,go_sem,reduceCtorEq,reduceIte,Nat.reduceEqDiff,Nat.reduceAdd,Nat.reduceSub,Nat.reduceMul,Nat.reduceLT,Nat.reduceLeDiff,Nat.reduceBEq,Int.reduceEq,Int.reduceLT,Int.reduceLE,Int.reduceAdd,Int.reduceSub,Int.reduceNeg,Int.reduceToNat]
  refine zC.lp (α:=SrS) (fun a=>[(4,.slc 4 (a.L.map Pa.enc)),(5,vb true),(6,.ref 0 a.ver 0 a.out.length)])
   (fun a=>⟨[⟨a.ver,3,a.out.map Stp.enc,false,[vs ⟨#[]⟩,vi 0,zz]⟩],a.clk⟩) (fun a=>YT a.L∧a.out.length+a.L.length≤1000001∧(kg [] a.L).map (a.out++ ·)=R) (fun a=>a.L.length) ⟨L0,[],0,1⟩
   ⟨hP,by simpa using hP.1,by rw[←hR];cases kg [] L0<;>rfl⟩ (St.nil 6 3 [vs ⟨#[]⟩,vi 0,zz] (by simp[zj]) (St.cut ?_ ?_ ?_)) fun a ha=> ?_
  ·simp[zu,zj,zq,Pa.enc]
  ·simp[Heap.alloc]
  ·rfl
  obtain⟨L,out,ver,clk⟩:=a
  obtain⟨hPL,hlen,h4⟩:=ha
  simp only at hPL hlen h4
  have hot:out.take out.length=out:=List.take_length
  have hL1:=hPL.1
  have key:∀(one:List Pa)(e:Int),(one= []→kg [] L=none)→True:=fun _ _ _=>trivial
  clear key
  rcases zaU L with⟨hix,hst⟩|⟨m,hix,hm,hst⟩
  ·rw[hst]at h4
   have hone:=hPL
   obtain⟨one,hO⟩:∃one,L=one:=⟨_,rfl⟩
   subst hO
   match L,hone,h4,hix,hL1,hlen,hst,hPL with
   | [],hone,h4,hix,hL1,hlen,hst,hPL=>
     simp only[jZ,Option.map_none]at h4
     subst h4
     have hd0:yV (.slc 4 [])= []:=rfl
     simp only[hix,hL1,pas,zB,V.boo_c,hd0,stR,List.map_nil,List.length_nil,Nat.zero_le,Int.lt_irrefl,zd,zb,za,go_sem,reduceCtorEq,reduceIte,Nat.reduceEqDiff,Nat.reduceAdd,Nat.reduceSub,Nat.reduceMul,Nat.reduceLT,Nat.reduceLeDiff,Nat.reduceBEq,Int.reduceEq,Int.reduceLT,Int.reduceLE,Int.reduceAdd,Int.reduceSub,Int.reduceNeg,Int.reduceToNat]
   |x::r,hone,h4,hix,hL1,hlen,hst,hPL=>
    obtain⟨kx,kr⟩:(yT x∧okT x.al)∧YT r:=⟨hone.2 x (by simp),by have:=hone.1;simp at this;omega,fun p hp=>hone.2 p (by simp[hp])⟩
    have hx0:=kx.1
    have hrl:r.length≤1000001:=kr.1
    have hl0:(((r.length+1:Nat):Int)=0)=False:=eq_false (by omega)
    have hlp:(0:Int)<((r.length+1:Nat):Int):=by omega
    have hl1:(1:Int)≤((r.length+1:Nat):Int):=by omega
    have htr:r.take (r.length+1 - 1)=r:=List.take_of_length_le (by omega)
    have hpe:yV (.slc 4 ([vi x.t.kind,vs x.t.text,vi x.t.n,.slc 3 (x.al.map Tok.enc)]::r.map Pa.enc))=x::r:=zB 4 (x::r)
    have hrl1:r.length+1≤1000001:=hone.1
    cases hn2:zI x with
    |false=>
     rw[ZR hn2]at h4
     simp only[Option.map_none]at h4
     subst h4
     simp only[hix,hL1,pas,zB,V.boo_c,hpe,hrl1,hl0,hlp,hl1,htr,Int.le_refl,hx0,kr,List.map_cons,List.length_cons,Pa.enc,zl,Pa.eta',hn2,stR,zd,zb,za,go_sem,reduceCtorEq,reduceIte,Nat.reduceEqDiff,Nat.reduceAdd,Nat.reduceSub,Nat.reduceMul,Nat.reduceLT,Nat.reduceLeDiff,Nat.reduceBEq,Int.reduceEq,Int.reduceLT,Int.reduceLE,Int.reduceAdd,Int.reduceSub,Int.reduceNeg,Int.reduceToNat]
    |true=>
     match hI:itL true r with
     |none=>
      rw[qc (.inl hI)]at h4
      simp only[Option.map_none]at h4
      subst h4
      simp only[hix,hL1,pas,zB,V.boo_c,hpe,hrl1,hl0,hlp,hl1,htr,Int.le_refl,hx0,kr,List.map_cons,List.length_cons,Pa.enc,zl,Pa.eta',hn2,hI,kR,kZ,stR,Option.getD_none,Option.getD_some,List.length_nil,List.map_nil,Int.lt_irrefl,zd,zb,za,go_sem,reduceCtorEq,reduceIte,Nat.reduceEqDiff,Nat.reduceAdd,Nat.reduceSub,Nat.reduceMul,Nat.reduceLT,Nat.reduceLeDiff,Nat.reduceBEq,Int.reduceEq,Int.reduceLT,Int.reduceLE,Int.reduceAdd,Int.reduceSub,Int.reduceNeg,Int.reduceToNat]
     |some []=>
      rw[qc (.inr hI)]at h4
      simp only[Option.map_none]at h4
      subst h4
      simp only[hix,hL1,pas,zB,V.boo_c,hpe,hrl1,hl0,hlp,hl1,htr,Int.le_refl,hx0,kr,List.map_cons,List.length_cons,Pa.enc,zl,Pa.eta',hn2,hI,kR,kZ,stR,Option.getD_none,Option.getD_some,List.length_nil,List.map_nil,Int.lt_irrefl,zd,zb,za,go_sem,reduceCtorEq,reduceIte,Nat.reduceEqDiff,Nat.reduceAdd,Nat.reduceSub,Nat.reduceMul,Nat.reduceLT,Nat.reduceLeDiff,Nat.reduceBEq,Int.reduceEq,Int.reduceLT,Int.reduceLE,Int.reduceAdd,Int.reduceSub,Int.reduceNeg,Int.reduceToNat]
     |some (y::ys)=>
      rw[kC hn2 hI]at h4
      have hap:List.map Stp.enc out++ [[vs x.t.text,vi 0,.slc 5 (y.enc::List.map Itm.enc ys)]]=List.map Stp.enc (out++ [(⟨x.t.text,0,y::ys⟩:Stp)]):=by simp[Stp.enc]
      have htS:List.take (out.length+1) (out++ [(⟨x.t.text,0,y::ys⟩:Stp)])=out++ [(⟨x.t.text,0,y::ys⟩:Stp)]:=List.take_of_length_le (by simp)
      have hlS:(out++ [(⟨x.t.text,0,y::ys⟩:Stp)]).length=out.length+1:=by simp
      have hyp:(0:Int)<((ys.length+1:Nat):Int):=by omega
      simp only[Option.map_some]at h4
      subst h4
      simp only[hix,hL1,pas,zB,V.boo_c,hpe,hrl1,hl0,hlp,hl1,htr,Int.le_refl,hx0,kr,List.map_cons,List.length_cons,Pa.enc,zl,Pa.eta',hn2,hI,hyp,hot,hap,htS,hlS,Zs,Zt,Nat.le_refl,kR,kZ,stR,W4,Option.getD_some,zd,zb,za,go_sem,reduceCtorEq,reduceIte,Nat.reduceEqDiff,Nat.reduceAdd,Nat.reduceSub,Nat.reduceMul,Nat.reduceLT,Nat.reduceLeDiff,Nat.reduceBEq,Int.reduceEq,Int.reduceLT,Int.reduceLE,Int.reduceAdd,Int.reduceSub,Int.reduceNeg,Int.reduceToNat]
      omega
  ·rw[hst]at h4
   have em1:(0:Int)≤(m:Int):=by omega
   have em2:(m:Int)≤(L.length:Int):=by omega
   have emn:¬(m:Int)<0:=by omega
   have emt:((m:Int)+1).toNat=m+1:=by omega
   have htk:List.take m (L.map Pa.enc)=(L.take m).map Pa.enc:=by rw[List.map_take]
   have hd1:(0:Int)≤(m:Int)+1:=by omega
   have hd2:(m:Int)+1≤(L.length:Int):=by omega
   have hdr:List.take (L.length - (m+1)) (List.drop (m+1) (L.map Pa.enc))=(L.drop (m+1)).map Pa.enc:=by rw[←List.map_drop,List.take_of_length_le (by simp)]
   have hone:YT (L.take m):=⟨by rw[List.length_take];omega,fun p hp=>hPL.2 p (List.mem_of_mem_take hp)⟩
   have hlm:(L.take m).length=m:=by rw[List.length_take];omega
   generalize hO:L.take m=one at*
   match one,hone,h4,htk,hlm with
   | [],hone,h4,htk,hlm=>
     simp only[jZ,Option.map_none]at h4
     subst h4
     have hlm0:(0:Int)≤(L.length:Int):=by omega
     have hm0:m=0:=by simpa using hlm.symm
     subst hm0
     have hd0:yV (.slc 4 [])= []:=rfl
     simp only[hix,hL1,em1,em2,emn,emt,hd1,hd2,htk,hdr,Nat.sub_zero,hO,pas,zB,V.boo_c,hd0,stR,List.map_nil,List.length_nil,Nat.zero_le,Int.lt_irrefl,hlm0,zd,zb,za,go_sem,reduceCtorEq,reduceIte,Nat.reduceEqDiff,Nat.reduceAdd,Nat.reduceSub,Nat.reduceMul,Nat.reduceLT,Nat.reduceLeDiff,Nat.reduceBEq,Int.reduceEq,Int.reduceLT,Int.reduceLE,Int.reduceAdd,Int.reduceSub,Int.reduceNeg,Int.reduceToNat]
   |x::r,hone,h4,htk,hlm=>
    obtain⟨kx,kr⟩:(yT x∧okT x.al)∧YT r:=⟨hone.2 x (by simp),by have:=hone.1;simp at this;omega,fun p hp=>hone.2 p (by simp[hp])⟩
    have hx0:=kx.1
    have hrl:r.length≤1000001:=kr.1
    have hl0:(((r.length+1:Nat):Int)=0)=False:=eq_false (by omega)
    have hlp:(0:Int)<((r.length+1:Nat):Int):=by omega
    have hl1:(1:Int)≤((r.length+1:Nat):Int):=by omega
    have htr:r.take (r.length+1 - 1)=r:=List.take_of_length_le (by omega)
    have hpe:yV (.slc 4 ([vi x.t.kind,vs x.t.text,vi x.t.n,.slc 3 (x.al.map Tok.enc)]::r.map Pa.enc))=x::r:=zB 4 (x::r)
    have hrl1:r.length+1≤1000001:=hone.1
    have hml:m=r.length+1:=by simpa using hlm.symm
    have hzm:((m:Int)=0)=False:=eq_false (by omega)
    cases hn2:zI x with
    |false=>
     rw[ZR hn2]at h4
     simp only[Option.map_none]at h4
     subst h4
     simp only[hix,hL1,em1,em2,emn,emt,hd1,hd2,htk,hdr,Nat.sub_zero,hO,pas,zB,V.boo_c,hpe,hrl1,hl0,hlp,hl1,htr,Int.le_refl,hx0,kr,List.map_cons,List.length_cons,Pa.enc,zl,Pa.eta',hn2,stR,zd,zb,za,go_sem,reduceCtorEq,reduceIte,Nat.reduceEqDiff,Nat.reduceAdd,Nat.reduceSub,Nat.reduceMul,Nat.reduceLT,Nat.reduceLeDiff,Nat.reduceBEq,Int.reduceEq,Int.reduceLT,Int.reduceLE,Int.reduceAdd,Int.reduceSub,Int.reduceNeg,Int.reduceToNat]
    |true=>
     match hI:itL true r with
     |none=>
      rw[qc (.inl hI)]at h4
      simp only[Option.map_none]at h4
      subst h4
      simp only[hix,hL1,em1,em2,emn,emt,hd1,hd2,htk,hdr,Nat.sub_zero,hO,pas,zB,V.boo_c,hpe,hrl1,hl0,hlp,hl1,htr,Int.le_refl,hx0,kr,List.map_cons,List.length_cons,Pa.enc,zl,Pa.eta',hn2,hI,kR,kZ,stR,Option.getD_none,Option.getD_some,List.length_nil,List.map_nil,Int.lt_irrefl,zd,zb,za,go_sem,reduceCtorEq,reduceIte,Nat.reduceEqDiff,Nat.reduceAdd,Nat.reduceSub,Nat.reduceMul,Nat.reduceLT,Nat.reduceLeDiff,Nat.reduceBEq,Int.reduceEq,Int.reduceLT,Int.reduceLE,Int.reduceAdd,Int.reduceSub,Int.reduceNeg,Int.reduceToNat]
     |some []=>
      rw[qc (.inr hI)]at h4
      simp only[Option.map_none]at h4
      subst h4
      simp only[hix,hL1,em1,em2,emn,emt,hd1,hd2,htk,hdr,Nat.sub_zero,hO,pas,zB,V.boo_c,hpe,hrl1,hl0,hlp,hl1,htr,Int.le_refl,hx0,kr,List.map_cons,List.length_cons,Pa.enc,zl,Pa.eta',hn2,hI,kR,kZ,stR,Option.getD_none,Option.getD_some,List.length_nil,List.map_nil,Int.lt_irrefl,zd,zb,za,go_sem,reduceCtorEq,reduceIte,Nat.reduceEqDiff,Nat.reduceAdd,Nat.reduceSub,Nat.reduceMul,Nat.reduceLT,Nat.reduceLeDiff,Nat.reduceBEq,Int.reduceEq,Int.reduceLT,Int.reduceLE,Int.reduceAdd,Int.reduceSub,Int.reduceNeg,Int.reduceToNat]
     |some (y::ys)=>
      rw[kC hn2 hI]at h4
      have hap:List.map Stp.enc out++ [[vs x.t.text,vi 0,.slc 5 (y.enc::List.map Itm.enc ys)]]=List.map Stp.enc (out++ [(⟨x.t.text,0,y::ys⟩:Stp)]):=by simp[Stp.enc]
      have htS:List.take (out.length+1) (out++ [(⟨x.t.text,0,y::ys⟩:Stp)])=out++ [(⟨x.t.text,0,y::ys⟩:Stp)]:=List.take_of_length_le (by simp)
      have hlS:(out++ [(⟨x.t.text,0,y::ys⟩:Stp)]).length=out.length+1:=by simp
      have hyp:(0:Int)<((ys.length+1:Nat):Int):=by omega
      simp only at h4
      simp only[hix,hL1,em1,em2,emn,emt,hd1,hd2,htk,hdr,Nat.sub_zero,hO,pas,zB,V.boo_c,hpe,hrl1,hl0,hlp,hl1,htr,Int.le_refl,hx0,kr,List.map_cons,List.length_cons,Pa.enc,zl,Pa.eta',hn2,hI,hyp,hot,hap,htS,hlS,kR,kZ,Option.getD_some,zd,zb,za,go_sem,reduceCtorEq,reduceIte,Nat.reduceEqDiff,Nat.reduceAdd,Nat.reduceSub,Nat.reduceMul,Nat.reduceLT,Nat.reduceLeDiff,Nat.reduceBEq,Int.reduceEq,Int.reduceLT,Int.reduceLE,Int.reduceAdd,Int.reduceSub,Int.reduceNeg,Int.reduceToNat]
      refine⟨⟨by omega,by omega,by omega⟩,by omega,⟨L.drop (m+1),out++ [⟨x.t.text,0,y::ys⟩],clk+1,clk+1+1⟩,⟨⟨by simp;omega,fun p hp=>hPL.2 p (List.mem_of_mem_drop hp)⟩,by simp;omega,?_⟩,by simp;omega,⟨rfl,rfl,by simp⟩,⟨rfl,rfl⟩,rfl⟩
      rw[←h4];cases kg [] (L.drop (m+1))<;>simp
def zbW:Sum Tryz.prog:=⟨43,fun args=>args= [zh (zg (args.getD 0 .any))]∧okT (zg (args.getD 0 .any)),fun args=>zdU (stO (zg (args.getD 0 .any))),fun args h=>by
 have:=zi4 (zg (args.getD 0 .any)) h.2;rwa [←h.1]at this,false⟩
theorem ztW:zbW.f=43:=rfl
theorem ztV(args:List V):zbW.D args=(args= [zh (zg (args.getD 0 .any))]∧okT (zg (args.getD 0 .any))):=rfl
theorem zhl:zbW.flat=false:=rfl
theorem ztX(args:List V):zbW.r args=zdU (stO (zg (args.getD 0 .any))):=rfl
attribute [go_sem] ztW ztV zhl ztX
theorem qj(S:Nat→Bool)(h:Heap)(cs:List V):res S h 11 (.agg cs)=(zA (res S h 10) cs).map .agg:=rfl
theorem qU(S:Nat→Bool)(h:Heap)(sz:Nat)(es:List (List V)):res S h 10 (.slc sz es)=some (.slc sz es):=rfl
theorem zlP{s:List (List Rul)}{k:Nat}(h:k<s.length)(h4:k≤4)(hn:K3 (s.getD k [])=false):Qa s=false:=
 decide_eq_false fun hh=>by have:=hh.1 k h h4;rw[hn]at this;cases this
def zrz(s:List (List Rul)):Prop:=∀l∈s,∀r∈l,za9 r
theorem zlQ(s:List (List Rul))(l0:List Node)(hs:zrz s):zf Tryz.prog 13 [yU s,zp l0] (vb (Qa s&&Yo l0)):=by
 refine zf.of (Orc.cons Xf (Orc.cons Xg (Orc.nil _))) zy4 (by simp[c13]) fun w0 own0=> ?_
 simp -implicitDefEqProofs only[c13,yU,zp,zd,zb,za,go_sem,seval,reduceIte,reduceCtorEq]
 refine zC.lp (α:=FdS) (fun a=>[(0,.slc 1 (s.map shE)),(1,.slc 6 (l0.map Node.enc)),(5,vi a.k)]) (fun a=>⟨[],a.clk⟩)
  (fun a=>a.k≤s.length∧a.k≤5∧∀i,i<a.k→K3 (s.getD i [])=true) (fun a=>s.length - a.k) ⟨0,0⟩ ⟨Nat.zero_le _,by dsimp only;omega,fun i hi=>by simp at hi⟩ (St.cut ?_ ?_ ?_) fun a ha=> ?_
 ·simp[zu,zj,zq]
 ·rfl
 ·rfl
 obtain⟨k,clk⟩:=a
 obtain⟨g1,g5,g2⟩:=ha
 simp only at g1 g5 g2
 by_cases he:k<s.length∧k≤4
 case neg=>
  by_cases c:s.length≤4
  ·have hR:Qa s=true:=decide_eq_true ⟨fun i hi _=>g2 i (by omega),c⟩
   have n4:=eq_true (show(s.length:Int)≤4 by omega)
   have f1:=eq_false (show ¬(k:Int)<(s.length:Int)by omega)
   simp -implicitDefEqProofs only[hR,n4,zp,zo,Bool.true_and,Bool.false_and,f1,List.length_map,zd,zb,za,go_sem,seval,reduceIte,reduceCtorEq]
  ·have hR:Qa s=false:=decide_eq_false fun h=>c h.2
   have n4:=eq_false (show ¬(s.length:Int)≤4 by omega)
   by_cases hk:k<s.length
   ·have f1:=eq_true (show(k:Int)<(s.length:Int)by omega)
    have f4:=eq_false (show ¬(k:Int)≤4 by omega)
    simp -implicitDefEqProofs only[hR,n4,zp,zo,Bool.true_and,Bool.false_and,f1,f4,List.length_map,zd,zb,za,go_sem,seval,reduceIte,reduceCtorEq]
   ·have f1:=eq_false (show ¬(k:Int)<(s.length:Int)by omega)
    simp -implicitDefEqProofs only[hR,n4,zp,zo,Bool.true_and,Bool.false_and,f1,List.length_map,zd,zb,za,go_sem,seval,reduceIte,reduceCtorEq]
 obtain⟨k1,k2⟩:=he
 have f1:=eq_true (show(k:Int)<(s.length:Int)by omega)
 have f4:=eq_true (show(k:Int)≤4 by omega)
 have f0:=eq_true (show(0:Int)≤(k:Int)by omega)
 have hg:=fun z=>XZ s k z (by omega)
 have hno:=zlP (s:=s) k1 k2
 have hnx:K3 (s.getD k [])=true→∀i,i<k+1→K3 (s.getD i [])=true:=fun h i hi=>by
  by_cases e:i=k
  ·rw[e];exact h
  ·exact g2 i (by omega)
 have hrk:=hs _ (ye (d:=[]) k1)
 generalize s.getD k []=l at*
 cases hf:K3 l with
 |true=>
  simp -implicitDefEqProofs only[f0,f1,f4,hg,hf,shE,ziQ,XT,List.length_map,zd,zb,za,go_sem,seval,reduceIte,reduceCtorEq]
  exact⟨hrk,⟨by omega,by omega⟩,⟨k+1,clk⟩,⟨by dsimp only;omega,by dsimp only;omega,hnx hf⟩,by dsimp only;omega,by dsimp only;omega,rfl⟩
 |false=>
  have h0:=hno hf
  simp -implicitDefEqProofs only[f0,f1,f4,hg,hf,h0,Bool.false_and,shE,ziQ,XT,List.length_map,zd,zb,za,go_sem,seval,reduceIte,reduceCtorEq]
  exact hrk
def QM:Sum Tryz.prog:=⟨13,fun args=>args= [yU (yo (args.getD 0 .any)),zp (zk (args.getD 1 .any))]∧zrz (yo (args.getD 0 .any)),fun args=>vb (Qa (yo (args.getD 0 .any))&&Yo (zk (args.getD 1 .any))),fun args h=>by
 have:=zlQ (yo (args.getD 0 .any)) (zk (args.getD 1 .any)) h.2;rwa [←h.1]at this,true⟩
theorem zji:QM.f=13:=rfl
theorem zjh(args:List V):QM.D args=(args= [yU (yo (args.getD 0 .any)),zp (zk (args.getD 1 .any))]∧zrz (yo (args.getD 0 .any))):=rfl
theorem zco:QM.flat=true:=rfl
theorem zjj(args:List V):QM.r args=vb (Qa (yo (args.getD 0 .any))&&Yo (zk (args.getD 1 .any))):=rfl
attribute [go_sem] zji zjh zco zjj
def prW:List ByteArray:=[⟨#[98,114,101,97,107,45,98,101,102,111,114,101]⟩,⟨#[98,114,101,97,107,45,97,102,116,101,114]⟩,⟨#[112,97,103,101]⟩,⟨#[99,111,117,110,116,101,114,45,114,101,115,101,116]⟩,⟨#[99,111,117,110,116,101,114,45,105,110,99,114,101,109,101,110,116]⟩,⟨#[99,111,117,110,116,101,114,45,115,101,116]⟩,⟨#[115,116,114,105,110,103,45,115,101,116]⟩,⟨#[112,111,115,105,116,105,111,110]⟩]
theorem ziE:zf Tryz.prog 58 [] (YX prW):=by
 refine zf.of (Orc.nil _) zzK (by simp[c58]) fun w0 own0=> ?_
 simp -implicitDefEqProofs only[c58,zd,zb,za,go_sem,seval,reduceIte,reduceCtorEq]
 rfl
def QR:Sum Tryz.prog:=⟨58,fun args=>args= [],fun args=>YX prW,fun args h=>by
 have:=ziE;rwa [←h]at this,false⟩
theorem zjw:QR.f=58:=rfl
theorem zjv(args:List V):QR.D args=(args= []):=rfl
theorem zcs:QR.flat=false:=rfl
theorem zjx(args:List V):QR.r args=YX prW:=rfl
attribute [go_sem] zjw zjv zcs zjx
def prN(s:ByteArray):Int:=ixS prW (jA s)
theorem zf7(s:ByteArray)(hs:s.size≤1000000):zf Tryz.prog 31 [vs s] (vi (prN s)):=by
 have hl:prW.length≤1000000:=by decide
 refine zf.of (Orc.cons QR (Orc.cons QP (Orc.cons Wj (Orc.nil _)))) zzq (by simp[c31]) fun w0 own0=> ?_
 simp -implicitDefEqProofs only[c31,hs,hl,YX,Ym,prN,zd,zb,za,go_sem,seval,reduceIte,reduceCtorEq]
def QT:Sum Tryz.prog:=⟨31,fun args=>args= [vs ((args.getD 0 .any).str)]∧(((args.getD 0 .any).str)).size≤1000000,fun args=>vi (prN ((args.getD 0 .any).str)),fun args h=>by
 have:=zf7 ((args.getD 0 .any).str) h.2;rwa [←h.1]at this,true⟩
theorem zjC:QT.f=31:=rfl
theorem zjB(args:List V):QT.D args=(args= [vs ((args.getD 0 .any).str)]∧(((args.getD 0 .any).str)).size≤1000000):=rfl
theorem zcu:QT.flat=true:=rfl
theorem zjD(args:List V):QT.r args=vi (prN ((args.getD 0 .any).str)):=rfl
attribute [go_sem] zjC zjB zcu zjD
theorem zdI(o:Option ByteArray):z4 o= .tup [vs (o.getD ⟨#[]⟩),vb o.isSome]:=by cases o<;>rfl
theorem zBs(v:List Tok)(hv:okQ v):zf Tryz.prog 65 [.pp [zh v]] (vb (spO 0 v).isSome):=by
 refine zf.of (Orc.cons zbV (Orc.nil _)) zzQ (by simp[c65]) fun w0 own0=> ?_
 simp -implicitDefEqProofs only[c65,spV,W4,zh,ze,hv,zd,zb,za,go_sem,seval,reduceIte,reduceCtorEq]
def zbZ:Sum Tryz.prog:=⟨65,fun args=>args= [.pp [zh (zg (((args.getD 0 .any).cs).getD 0 .any))]]∧okQ (zg (((args.getD 0 .any).cs).getD 0 .any)),fun args=>vb (spO 0 (zg (((args.getD 0 .any).cs).getD 0 .any))).isSome,fun args h=>by
 have:=zBs (zg (((args.getD 0 .any).cs).getD 0 .any)) h.2;rwa [←h.1]at this,true⟩
theorem zt5:zbZ.f=65:=rfl
theorem zt4(args:List V):zbZ.D args=(args= [.pp [zh (zg (((args.getD 0 .any).cs).getD 0 .any))]]∧okQ (zg (((args.getD 0 .any).cs).getD 0 .any))):=rfl
theorem zhp:zbZ.flat=true:=rfl
theorem zt6(args:List V):zbZ.r args=vb (spO 0 (zg (((args.getD 0 .any).cs).getD 0 .any))).isSome:=rfl
attribute [go_sem] zt5 zt4 zhp zt6
theorem zBt(v:List Tok)(hv:okT v):zf Tryz.prog 66 [.pp [zh v]] (vb (XN v).isSome):=by
 refine zf.of (Orc.cons zby (Orc.nil _)) zzR (by simp[c66]) fun w0 own0=> ?_
 simp -implicitDefEqProofs only[c66,zkf,zh,ze,hv,zd,zb,za,go_sem,seval,reduceIte,reduceCtorEq]
def zb0:Sum Tryz.prog:=⟨66,fun args=>args= [.pp [zh (zg (((args.getD 0 .any).cs).getD 0 .any))]]∧okT (zg (((args.getD 0 .any).cs).getD 0 .any)),fun args=>vb (XN (zg (((args.getD 0 .any).cs).getD 0 .any))).isSome,fun args h=>by
 have:=zBt (zg (((args.getD 0 .any).cs).getD 0 .any)) h.2;rwa [←h.1]at this,true⟩
theorem zt8:zb0.f=66:=rfl
theorem zt7(args:List V):zb0.D args=(args= [.pp [zh (zg (((args.getD 0 .any).cs).getD 0 .any))]]∧okT (zg (((args.getD 0 .any).cs).getD 0 .any))):=rfl
theorem zhq:zb0.flat=true:=rfl
theorem zt9(args:List V):zb0.r args=vb (XN (zg (((args.getD 0 .any).cs).getD 0 .any))).isSome:=rfl
attribute [go_sem] zt8 zt7 zhq zt9
theorem zBu(v:List Tok)(hv:okT v):zf Tryz.prog 67 [.pp [zh v]] (vb (Qc v).isSome):=by
 refine zf.of (Orc.cons Xm (Orc.nil _)) zzS (by simp[c67]) fun w0 own0=> ?_
 simp -implicitDefEqProofs only[c67,zdI,zh,ze,hv,zd,zb,za,go_sem,seval,reduceIte,reduceCtorEq]
def zb1:Sum Tryz.prog:=⟨67,fun args=>args= [.pp [zh (zg (((args.getD 0 .any).cs).getD 0 .any))]]∧okT (zg (((args.getD 0 .any).cs).getD 0 .any)),fun args=>vb (Qc (zg (((args.getD 0 .any).cs).getD 0 .any))).isSome,fun args h=>by
 have:=zBu (zg (((args.getD 0 .any).cs).getD 0 .any)) h.2;rwa [←h.1]at this,true⟩
theorem zub:zb1.f=67:=rfl
theorem zua(args:List V):zb1.D args=(args= [.pp [zh (zg (((args.getD 0 .any).cs).getD 0 .any))]]∧okT (zg (((args.getD 0 .any).cs).getD 0 .any))):=rfl
theorem zhr:zb1.flat=true:=rfl
theorem zuc(args:List V):zb1.r args=vb (Qc (zg (((args.getD 0 .any).cs).getD 0 .any))).isSome:=rfl
attribute [go_sem] zub zua zhr zuc
theorem zBv(v:List Tok)(hv:okT v):zf Tryz.prog 68 [.pp [zh v]] (vb (stO v).isSome):=by
 refine zf.of (Orc.cons zbW (Orc.nil _)) zzT (by simp[c68]) fun w0 own0=> ?_
 simp -implicitDefEqProofs only[c68,zdU,W4,zh,ze,hv,zd,zb,za,go_sem,seval,reduceIte,reduceCtorEq]
def zb2:Sum Tryz.prog:=⟨68,fun args=>args= [.pp [zh (zg (((args.getD 0 .any).cs).getD 0 .any))]]∧okT (zg (((args.getD 0 .any).cs).getD 0 .any)),fun args=>vb (stO (zg (((args.getD 0 .any).cs).getD 0 .any))).isSome,fun args h=>by
 have:=zBv (zg (((args.getD 0 .any).cs).getD 0 .any)) h.2;rwa [←h.1]at this,true⟩
theorem zue:zb2.f=68:=rfl
theorem zud(args:List V):zb2.D args=(args= [.pp [zh (zg (((args.getD 0 .any).cs).getD 0 .any))]]∧okT (zg (((args.getD 0 .any).cs).getD 0 .any))):=rfl
theorem zhs:zb2.flat=true:=rfl
theorem zuf(args:List V):zb2.r args=vb (stO (zg (((args.getD 0 .any).cs).getD 0 .any))).isSome:=rfl
attribute [go_sem] zue zud zhs zuf
theorem zBw(v:List Tok)(hv:okT v):zf Tryz.prog 69 [.pp [zh v]] (vb (W0 v).isSome):=by
 refine zf.of (Orc.cons zbR (Orc.nil _)) zzU (by simp[c69]) fun w0 own0=> ?_
 simp -implicitDefEqProofs only[c69,zdI,zh,ze,hv,zd,zb,za,go_sem,seval,reduceIte,reduceCtorEq]
def zb3:Sum Tryz.prog:=⟨69,fun args=>args= [.pp [zh (zg (((args.getD 0 .any).cs).getD 0 .any))]]∧okT (zg (((args.getD 0 .any).cs).getD 0 .any)),fun args=>vb (W0 (zg (((args.getD 0 .any).cs).getD 0 .any))).isSome,fun args h=>by
 have:=zBw (zg (((args.getD 0 .any).cs).getD 0 .any)) h.2;rwa [←h.1]at this,true⟩
theorem zuh:zb3.f=69:=rfl
theorem zug(args:List V):zb3.D args=(args= [.pp [zh (zg (((args.getD 0 .any).cs).getD 0 .any))]]∧okT (zg (((args.getD 0 .any).cs).getD 0 .any))):=rfl
theorem zht:zb3.flat=true:=rfl
theorem zui(args:List V):zb3.r args=vb (W0 (zg (((args.getD 0 .any).cs).getD 0 .any))).isSome:=rfl
attribute [go_sem] zuh zug zht zui
def Q2(k:Int)(v:List Tok):Bool:=
 if k=0 then(XN v).isSome else if k=1 then(XN v).isSome else if k=2 then(Qc v).isSome else if k=3 then(spO 0 v).isSome else if k=4 then(spO 0 v).isSome else if k=5 then(spO 0 v).isSome else if k=6 then(stO v).isSome else if k=7 then(W0 v).isSome else false
theorem mg8(a b c d e f g h:V)(k:Int):mget [.int .i64 0,.int .i64 1,.int .i64 2,.int .i64 3,.int .i64 4,.int .i64 5,.int .i64 6,.int .i64 7] [a,b,c,d,e,f,g,h] (.int .i64 k)=
  if k=0 then some a else if k=1 then some b else if k=2 then some c else if k=3 then some d else if k=4 then some e else if k=5 then some f else if k=6 then some g else if k=7 then some h else none:=by
 simp[mget,z9,eq_comm]
theorem zjX(k:Int)(v:List Tok)(hv:okQ v):zf Tryz.prog 36 [vi k,zh v] (vb (Q2 k v)):=by
 have hT:=hv.1
 refine zf.of (Orc.cons zbZ (Orc.cons zb0 (Orc.cons zb1 (Orc.cons zb2 (Orc.cons zb3 (Orc.nil _)))))) zzv (by simp[c36]) fun w0 own0=> ?_
 unfold Q2
 by_cases h:k=0∨k=1∨k=2∨k=3∨k=4∨k=5∨k=6∨k=7
 ·rcases h with rfl|rfl|rfl|rfl|rfl|rfl|rfl|rfl<;>
   simp -implicitDefEqProofs only[c36,mg8,zh,hv,hT,V.cs_pp,ze,List.isEmpty_cons,List.isEmpty_nil,zd,zb,za,go_sem,seval,reduceIte,reduceCtorEq]
 ·have n0:=eq_false (show ¬k=0 by omega)
  have n1:=eq_false (show ¬k=1 by omega)
  have n2:=eq_false (show ¬k=2 by omega)
  have n3:=eq_false (show ¬k=3 by omega)
  have n4:=eq_false (show ¬k=4 by omega)
  have n5:=eq_false (show ¬k=5 by omega)
  have n6:=eq_false (show ¬k=6 by omega)
  have n7:=eq_false (show ¬k=7 by omega)
  simp -implicitDefEqProofs only[c36,mg8,zh,n0,n1,n2,n3,n4,n5,n6,n7,hv,hT,V.cs_pp,ze,List.isEmpty_cons,List.isEmpty_nil,zd,zb,za,go_sem,seval,reduceIte,reduceCtorEq]
def QW:Sum Tryz.prog:=⟨36,fun args=>args= [vi ((args.getD 0 .any).int),zh (zg (args.getD 1 .any))]∧okQ (zg (args.getD 1 .any)),fun args=>vb (Q2 ((args.getD 0 .any).int) (zg (args.getD 1 .any))),fun args h=>by
 have:=zjX ((args.getD 0 .any).int) (zg (args.getD 1 .any)) h.2;rwa [←h.1]at this,true⟩
theorem zjN:QW.f=36:=rfl
theorem zjM(args:List V):QW.D args=(args= [vi ((args.getD 0 .any).int),zh (zg (args.getD 1 .any))]∧okQ (zg (args.getD 1 .any))):=rfl
theorem zcx:QW.flat=true:=rfl
theorem zjO(args:List V):QW.r args=vb (Q2 ((args.getD 0 .any).int) (zg (args.getD 1 .any))):=rfl
attribute [go_sem] zjN zjM zcx zjO
theorem zrD{v:List Tok}(hl:v.length≤1000000){s:Sel}(hs:JO v=some s):okC s:=by
 have hl2:=Q1 v
 unfold JO zkM at hs
 cases hd:ym (Q0 v)with
 |true=>rw[hd,if_pos rfl]at hs;cases hs
 |false=>
  rw[hd,if_neg (by simp)]at hs
  exact zAU (zba (JY hd) (by omega) _ 0 0 [] s (Nat.zero_le _) (by simp) (by simp) hs)
theorem zf8{l:List Tok}(hl:l.length≤1000000):∀(P:List (Int×Int))(a:List Sel),JR l P=some a→a.length=P.length∧∀s∈a,okC s
 | [],a,h=>by
   simp only[JR,Option.some.injEq]at h
   subst h
   exact⟨rfl,fun s hs=>by cases hs⟩
 |p::ps,a,h=>by
  rw[JR]at h
  cases ho:JO ((l.take p.2.toNat).drop p.1.toNat)with
  |none=>rw[ho]at h;cases h
  |some s=>
   rw[ho]at h
   simp only[Option.map_eq_some_iff]at h
   obtain⟨b,hb,rfl⟩:=h
   obtain⟨h1,h2⟩:=zf8 hl ps b hb
   refine⟨by simp[h1],fun x hx=> ?_⟩
   rcases List.mem_cons.1 hx with rfl|hx
   ·exact zrD (by rw[List.length_drop,List.length_take];omega) ho
   ·exact h2 x hx
theorem zkJ{l:List Tok}(hl:l.length≤1000){a:List Sel}(h:psC l=some a):okM a:=by
 unfold psC at h
 cases hd:ym l with
 |true=>rw[hd,if_pos rfl]at h;cases h
 |false=>
  rw[hd,if_neg (by simp)]at h
  obtain⟨h1,h2⟩:=zf8 (by omega) _ a h
  have h3:=(zbt hd).1
  exact⟨by omega,fun i hi=>h2 _ (by rw[List.getD_eq_getElem?_getD,List.getElem?_eq_getElem hi];exact List.getElem_mem _)⟩
def isE(l:List Node)(k:Int):Bool:=XW l&&decide (0≤k∧k<l.length)&& !decide ((l.getD k.toNat .zero).type=⟨#[]⟩)
theorem zAH(l:List Node)(k:Int)(hl:l.length≤1000):zf Tryz.prog 34 [zp l,vi k] (vb (isE l k)):=by
 refine zf.of (Orc.cons Kq (Orc.nil _)) zzt (by simp[c34]) fun w0 own0=> ?_
 unfold isE
 by_cases hD:XW l=true
 ·have c0:(if 0≤KR l∨l.length=0 then(5:Int)else 0)=0:=by
   unfold XW at hD;rw[decide_eq_true_eq]at hD;rw[if_neg];omega
  rw[hD,Bool.true_and]
  by_cases h1:0≤k
  ·by_cases h2:k<(l.length:Int)
   ·have hg:=fun z=>yr l k.toNat z (by omega)
    generalize l.getD k.toNat .zero=n at*
    rw[decide_eq_true ⟨h1,h2⟩,Bool.true_and]
    have h1:=eq_true h1
    have h2:=eq_true h2
    by_cases c:n.type=⟨#[]⟩
    ·rw[decide_eq_true c]
     have c:=eq_true c
     simp -implicitDefEqProofs only[c34,zp,zo,qe,Z1,c0,hl,h1,h2,hg,c,Node.enc,List.length_map,zd,zb,za,go_sem,seval,reduceIte,reduceCtorEq]
    ·rw[decide_eq_false c]
     have c:=eq_false c
     simp -implicitDefEqProofs only[c34,zp,zo,qe,Z1,c0,hl,h1,h2,hg,c,Node.enc,List.length_map,zd,zb,za,go_sem,seval,reduceIte,reduceCtorEq]
   ·rw[decide_eq_false (fun h=>h2 h.2),Bool.false_and]
    have h1:=eq_true h1
    have h2:=eq_false h2
    simp -implicitDefEqProofs only[c34,zp,zo,qe,Z1,c0,hl,h1,h2,List.length_map,zd,zb,za,go_sem,seval,reduceIte,reduceCtorEq]
  ·rw[decide_eq_false (fun h=>h1 h.1),Bool.false_and]
   have h1:=eq_false h1
   simp -implicitDefEqProofs only[c34,zp,zo,qe,Z1,c0,hl,h1,List.length_map,zd,zb,za,go_sem,seval,reduceIte,reduceCtorEq]
 ·have c0:(if 0≤KR l∨l.length=0 then(5:Int)else 0)=5:=by
   unfold XW at hD;rw[decide_eq_true_eq]at hD;rw[if_pos];omega
  rw[Bool.eq_false_iff.2 hD,Bool.false_and,Bool.false_and]
  simp -implicitDefEqProofs only[c34,zp,zo,qe,Z1,c0,hl,List.length_map,zd,zb,za,go_sem,seval,reduceIte,reduceCtorEq]
def Wi:Sum Tryz.prog:=⟨34,fun args=>args= [zp (zk (args.getD 0 .any)),vi ((args.getD 1 .any).int)]∧((zk (args.getD 0 .any))).length≤1000,fun args=>vb (isE (zk (args.getD 0 .any)) ((args.getD 1 .any).int)),fun args h=>by
 have:=zAH (zk (args.getD 0 .any)) ((args.getD 1 .any).int) h.2;rwa [←h.1]at this,true⟩
theorem zsG:Wi.f=34:=rfl
theorem zsF(args:List V):Wi.D args=(args= [zp (zk (args.getD 0 .any)),vi ((args.getD 1 .any).int)]∧((zk (args.getD 0 .any))).length≤1000):=rfl
theorem zgR:Wi.flat=true:=rfl
theorem zsH(args:List V):Wi.r args=vb (isE (zk (args.getD 0 .any)) ((args.getD 1 .any).int)):=rfl
attribute [go_sem] zsG zsF zgR zsH
def abC(r:Rul)(l:List Node)(k:Int):W3×Bool:=if r.kind=1 then(if(psC r.pre).isSome=true then KT l k (⟨0,0,0⟩,false) ((psC r.pre).getD [])else(⟨0,0,0⟩,false))else(⟨0,0,0⟩,false)
theorem zhY(r:Rul)(l:List Node)(k:Int)(hr:shR r)(hl:l.length≤1000)(hn:jK l):zf Tryz.prog 35 [.agg r.enc,zp l,vi k] (.tup [.agg (abC r l k).1.enc,vb (abC r l k).2]):=by
 have hp:=hr.1.1
 obtain⟨kd,pre,ds,ms⟩:=r
 simp only at hp
 have hM:okM ((psC pre).getD []):=by
  cases h:psC pre with
  |none=>exact⟨by simp,fun i hi=>by simp at hi⟩
  |some a=>exact zkJ (by omega) h
 have hp6:pre.length≤1000000:=by omega
 refine zf.of (Orc.cons Xq (Orc.cons J5 (Orc.nil _))) zzu (by simp[c35]) fun w0 own0=> ?_
 unfold abC
 simp only
 by_cases c:kd=1
 ·rw[if_pos c]
  have c:=eq_true c
  generalize hO:psC pre=o at*
  generalize hS:o.getD []=S at*
  cases ho:o.isSome with
  |false=>
   rw[if_neg (by simp)]
   simp -implicitDefEqProofs only[c35,Rul.enc,c,hO,hS,ho,hp6,zbj,W3.enc,qj,qU,kU,zh,ze,List.isEmpty_cons,zd,zb,za,go_sem,seval,reduceIte,reduceCtorEq]
  |true=>
   rw[if_pos rfl]
   generalize hB:KT l k (⟨0,0,0⟩,false) S=B at*
   obtain⟨⟨wa,wb,wc⟩,b⟩:=B
   simp -implicitDefEqProofs only[c35,Rul.enc,c,hO,hS,ho,hM,hB,hl,hn,hp6,zbj,kU,XV,zp,zo,W3.enc,qj,qU,kU,zh,ze,List.isEmpty_cons,zd,zb,za,go_sem,seval,reduceIte,reduceCtorEq]
 ·rw[if_neg c]
  have c:=eq_false c
  simp -implicitDefEqProofs only[c35,Rul.enc,c,W3.enc,qj,qU,kU,zh,ze,List.isEmpty_cons,zd,zb,za,go_sem,seval,reduceIte,reduceCtorEq]
def J0:Sum Tryz.prog:=⟨35,fun args=>args= [.agg (Rul.enc (YJ (args.getD 0 .any))),zp (zk (args.getD 1 .any)),vi ((args.getD 2 .any).int)]∧shR (YJ (args.getD 0 .any))∧((zk (args.getD 1 .any))).length≤1000∧jK (zk (args.getD 1 .any)),fun args=>.tup [.agg (abC (YJ (args.getD 0 .any)) (zk (args.getD 1 .any)) ((args.getD 2 .any).int)).1.enc,vb (abC (YJ (args.getD 0 .any)) (zk (args.getD 1 .any)) ((args.getD 2 .any).int)).2],fun args h=>by
 have:=zhY (YJ (args.getD 0 .any)) (zk (args.getD 1 .any)) ((args.getD 2 .any).int) h.2.1 h.2.2.1 h.2.2.2;rwa [←h.1]at this,false⟩
theorem zmM:J0.f=35:=rfl
theorem zmL(args:List V):J0.D args=(args= [.agg (Rul.enc (YJ (args.getD 0 .any))),zp (zk (args.getD 1 .any)),vi ((args.getD 2 .any).int)]∧shR (YJ (args.getD 0 .any))∧((zk (args.getD 1 .any))).length≤1000∧jK (zk (args.getD 1 .any))):=rfl
theorem zdX:J0.flat=false:=rfl
theorem zmN(args:List V):J0.r args= .tup [.agg (abC (YJ (args.getD 0 .any)) (zk (args.getD 1 .any)) ((args.getD 2 .any).int)).1.enc,vb (abC (YJ (args.getD 0 .any)) (zk (args.getD 1 .any)) ((args.getD 2 .any).int)).2]:=rfl
attribute [go_sem] zmM zmL zdX zmN
def Zw(ss:List (List Rul)):Prop:=∀l∈ss,l.length≤8∧∀r∈l,shR r∧za9 r
theorem zrw{r:Rul}(h:shR r∧za9 r):∀d∈r.ds,d.nm.size≤1000000∧okQ d.v:=fun d hd=>by
 obtain⟨h3,h4,h5⟩:=h.1.2.1.2 d hd
 exact⟨by omega,⟨by omega,fun t ht=>by have:=h5 t ht;omega⟩,fun t ht=>h.2.2.1.2 d hd t ht⟩
structure Cst where
 k:Ky
 v:List Tok
 b:Bool
 o:Int
def zce(pr n:Int)(w:W3)(b:Bool)(s:Cst)(d:Dcl):Cst:=
 if b=true∧prN d.nm=pr∧Q2 pr d.v=true∧(s.b=false∨bts ⟨lvl n d.imp,w,s.o+1⟩ s.k=true)then⟨⟨lvl n d.imp,w,s.o+1⟩,d.v,true,s.o+1⟩else⟨s.k,s.v,s.b,s.o+1⟩
def cD(pr n:Int)(w:W3)(b:Bool)(ds:List Dcl)(s:Cst):Nat→Cst
 |0=>s
 |j+1=>zce pr n w b (cD pr n w b ds s j) (ds.getD j default)
def cR(pr n:Int)(l:List Node)(k:Int)(rs:List Rul)(s:Cst):Nat→Cst
 |0=>s
 |j+1=>cD pr n (abC (rs.getD j default) l k).1 (abC (rs.getD j default) l k).2 (rs.getD j default).ds (cR pr n l k rs s j) (rs.getD j default).ds.length
def cZ:Cst:=⟨⟨0,⟨0,0,0⟩,0⟩,[],false,-1⟩
def cS(pr:Int)(l:List Node)(k:Int)(ss:List (List Rul)):Nat→Cst
 |0=>cZ
 |n+1=>cR pr n l k (ss.getD n []) (cS pr l k ss n) (ss.getD n []).length
def cV(s:Cst):V:=if s.b=true then .slc 3 (s.v.map Tok.enc)else zz
def cOK(s:Cst):Prop:=okQ s.v∧(s.b=false→s.v= [])
theorem zAk(pr n:Int)(w:W3)(b:Bool)(s:Cst)(d:Dcl):(zce pr n w b s d).o=s.o+1:=by unfold zce;split<;>rfl
theorem zAg(pr n:Int)(w:W3)(b:Bool)(ds:List Dcl)(s:Cst):∀j,(cD pr n w b ds s j).o=s.o+j
 |0=>by simp[cD]
 |j+1=>by rw[cD,zAk,zAg pr n w b ds s j];omega
theorem zwm{pr n:Int}{w:W3}{b:Bool}{s:Cst}{d:Dcl}(h:cOK s)(hd:okQ d.v):cOK (zce pr n w b s d):=by
 unfold zce;split
 ·exact⟨hd,fun h=>by cases h⟩
 ·exact h
theorem zwd(v:List Tok)(hv:v.length≤1000000):zf Tryz.prog 37 [zh v] (zh v):=by
 cases v with
 |nil=>
  refine⟨(Yf XO).1,fun F w cargs hF hs hp=> ?_⟩
  have hv:=hp 0 (by simp)
  simp only[List.getD_cons_zero,zh,List.map_nil]at hv
  generalize hcv:cargs.getD 0 undef=cv at hv
  have hE:∀(a:Option Addr)(cap:Nat),zf Tryz.prog 37 [.c (.slice a 0 cap)] (.slc 3 []):=fun a cap=>by
   cases a with
   |none=>exact zf.rsub (XP cap) fun F w v h=>PRep.nilS 3 h
   |some a=>
    refine zf.of (Orc.nil _) XO (by simp[c37]) fun w0 own0=> ?_
    simp only[c37,Heap.nilV,Option.isNone_some,go_sem,zc,seval,reduceIte,reduceCtorEq]
  cases hv with
  |slc a n cap sz es b' o' ys hn' hc hsz ha hy hry=>
  simp only[List.length_nil]at hn'
  subst hn'
  refine(hE a cap).2 F w cargs hF hs fun i hi=> ?_
  match i,hi with
  |0,_=>rw[hcv];exact .c _
  |i+1,hi=>exact absurd hi (by simp)
 |cons c l=>
  refine zf.of (Orc.nil _) XO (by simp[c37]) fun w0 own0=> ?_
  have h1:=eq_true (show(c::l).length≤1099511627776 by omega)
  have h2:=eq_true (show(c::l).length*32≤140737488355328 by omega)
  have hm:=fun S h=>ql S h (c::l)
  simp only[List.length_cons]at h1 h2
  simp only[List.map_cons]at hm
  simp -implicitDefEqProofs only[c37,zh,Heap.nilV,h1,h2,hm,List.map_cons,List.length_cons,List.length_map,Nat.le_refl,List.take_length,go_sem,zc,seval,reduceIte,reduceCtorEq]
def QK:Sum Tryz.prog:=⟨37,fun args=>args= [zz]∨(args= [zh (zg (args.getD 0 .any))]∧(zg (args.getD 0 .any)).length≤1000000),fun args=>args.getD 0 .any,fun args h=>by
 rcases h with h|⟨h,h1⟩
 ·subst h;exact XP 0
 ·have:=zwd _ h1
  generalize zg (args.getD 0 .any)=X at*
  subst h;exact this,false⟩
theorem y8:QK.f=37:=rfl
theorem y7(args:List V):QK.D args=(args= [zz]∨(args= [zh (zg (args.getD 0 .any))]∧(zg (args.getD 0 .any)).length≤1000000)):=rfl
theorem yi:QK.flat=false:=rfl
theorem y9(args:List V):QK.r args=args.getD 0 .any:=rfl
attribute [go_sem] y8 y7 yi y9
structure CwS where
 j:Nat
 s:Cst
 clk:Nat
def zK5:List V:=[vi 0,vi 0,vi 0,vi 0,vi 0]
def zxY(s:Cst):V:=.tup [.agg s.k.enc,cV s,vb s.b]
theorem zyl{pr n:Int}{w:W3}{b:Bool}{ds:List Dcl}{s:Cst}(h:cOK s)(hd:∀d∈ds,okQ d.v):∀j,j≤ds.length→cOK (cD pr n w b ds s j)
 |0,_=>h
 |j+1,hj=>zwm (zyl h hd j (by omega)) (hd _ (ye (by omega)))
theorem zAh{pr n:Int}{l:List Node}{k:Int}{rs:List Rul}{s:Cst}(h:∀r∈rs,r.ds.length≤8):∀j,j≤rs.length→s.o≤(cR pr n l k rs s j).o∧(cR pr n l k rs s j).o≤s.o+8*j
 |0,_=>by rw[cR];omega
 |j+1,hj=>by
  have h1:=zAh (pr:=pr) (n:=n) (l:=l) (k:=k) (s:=s) h j (by omega)
  have h2:=h _ (ye (d:=default) (show j<rs.length by omega))
  rw[cR,zAg];omega
theorem zym{pr n:Int}{l:List Node}{k:Int}{rs:List Rul}{s:Cst}(h:cOK s)(hr:∀r∈rs,shR r∧za9 r):∀j,j≤rs.length→cOK (cR pr n l k rs s j)
 |0,_=>h
 |j+1,hj=>zyl (zym h hr j (by omega)) (fun d hd=>((zrw (hr _ (ye (by omega))) d hd).2)) _ (Nat.le_refl _)
theorem zBK{pr:Int}{l:List Node}{k:Int}{ss:List (List Rul)}(h:Zw ss):∀n,n≤ss.length→ -1≤(cS pr l k ss n).o∧(cS pr l k ss n).o≤64*n
 |0,_=>by rw[cS];decide
 |n+1,hn=>by
  have h1:=zBK (pr:=pr) (l:=l) (k:=k) h n (by omega)
  obtain⟨h2,h3⟩:=h _ (ye (d:=[]) (show n<ss.length by omega))
  have h4:=zAh (pr:=pr) (n:=n) (l:=l) (k:=k) (s:=cS pr l k ss n) (fun r hr=>(h3 r hr).1.2.1.1) (ss.getD n []).length (Nat.le_refl _)
  rw[cS];omega
theorem zkk{pr:Int}{l:List Node}{k:Int}{ss:List (List Rul)}(h:Zw ss):∀n,n≤ss.length→cOK (cS pr l k ss n)
 |0,_=>⟨⟨⟨by rw[cS];decide,fun t ht=>by cases ht⟩,fun t ht=>by cases ht⟩,fun _=>rfl⟩
 |n+1,hn=>zym (zkk h n (by omega)) (h _ (ye (by omega))).2 _ (Nat.le_refl _)
theorem zeQ(ss:List (List Rul))(l:List Node)(k pr:Int)(h3:ss.length≤3)(hE:isE l k=true)(hl:l.length≤1000)(hn:jK l)(hs:Zw ss):zf Tryz.prog 14 [yU ss,zp l,vi k,vi pr] (zxY (cS pr l k ss ss.length)):=by
 have e3:=eq_false (show ¬(3:Int)<(ss.length:Int)by omega)
 have hok:=zkk (pr:=pr) (l:=l) (k:=k) hs ss.length (Nat.le_refl _)
 refine zf.of (Orc.cons Wi (Orc.cons J0 (Orc.cons zbM (Orc.cons QT (Orc.cons QW (Orc.cons zbz (Orc.cons QK (Orc.nil _)))))))) zqb (by simp[c14]) fun w0 own0=> ?_
 generalize hR:cS pr l k ss ss.length=R at*
 simp -implicitDefEqProofs only[c14,e3,hE,hl,yU,zp,zo,zK,Rul.enc,Dcl.enc,W3.enc,Ky.enc,zh,ze,List.length_map,List.isEmpty_cons,List.isEmpty_nil,zd,zb,za,y8,y7,yi,y9,go_sem,seval,reduceIte,reduceCtorEq]
 refine zC.lp (α:=CwS) (fun a=>[(1,.slc 6 (l.map Node.enc)),(2,vi k),(3,vi pr),(8,.ptr 0 0 0 0),(11,.ptr 1 1 0 0),(12,cV a.s),(13,vb a.s.b),(14,vi a.s.o),(34,.slc 1 (ss.map shE)),(35,vi ss.length),(36,vi a.j)])
  (fun a=>⟨[⟨0,5,[zK5],false,[]⟩,⟨1,5,[a.s.k.enc],false,[]⟩],a.clk⟩) (fun a=>a.j≤ss.length∧a.s=cS pr l k ss a.j) (fun a=>ss.length - a.j) ⟨0,cZ,2⟩ ⟨Nat.zero_le _,rfl⟩ (St.cut ?_ ?_ ?_) fun a ha=> ?_
 ·simp[zu,zj,zq,zn,cV,cZ]
 ·simp[zK5,cZ,Ky.enc]
 ·rfl
 obtain⟨i,s,clk⟩:=a
 obtain⟨g1,g2⟩:=ha
 simp only at g1 g2
 by_cases he:i=ss.length
 ·subst he
  rw[hR]at g2
  subst g2
  obtain⟨⟨kl,⟨ka,kb,kc⟩,ko⟩,sv,sb,so⟩:=s
  obtain⟨hv,hb⟩:=hok
  have hvl:=hv.1.1
  clear hv hb
  simp only at hvl
  cases sb with
  |false=>simp -implicitDefEqProofs only[Int.lt_irrefl,zxY,cV,zK5,hvl,qj,qU,yU,zp,zo,zK,Rul.enc,Dcl.enc,W3.enc,Ky.enc,zh,ze,List.length_map,List.isEmpty_cons,List.isEmpty_nil,zd,zb,za,y8,y7,yi,y9,go_sem,seval,reduceIte,reduceCtorEq]
  |true=>
   simp -implicitDefEqProofs only[Int.lt_irrefl,zxY,cV,zK5,hvl,qj,qU,yU,zp,zo,zK,Rul.enc,Dcl.enc,W3.enc,Ky.enc,zh,ze,List.length_map,List.isEmpty_cons,List.isEmpty_nil,zd,zb,za,y8,y7,yi,y9,go_sem,seval,reduceIte,reduceCtorEq]
 have f1:=eq_true (show(i:Int)<(ss.length:Int)by omega)
 have f0:=eq_true (show(0:Int)≤(i:Int)by omega)
 have hg:=fun z=>XZ ss i z (by omega)
 obtain⟨hl8,hrr⟩:=hs _ (ye (d:=([]:List Rul)) (show i<ss.length by omega))
 have hN:cS pr l k ss (i+1)=cR pr i l k (ss.getD i []) s (ss.getD i []).length:=by rw[cS,g2]
 have hso:=zBK (pr:=pr) (l:=l) (k:=k) hs i g1
 rw[←g2]at hso
 generalize ss.getD i []=rs at*
 clear hR hok
 simp -implicitDefEqProofs only[f0,f1,hg,shE,yU,zp,zo,zK,Rul.enc,Dcl.enc,W3.enc,Ky.enc,zh,ze,List.length_map,List.isEmpty_cons,List.isEmpty_nil,zd,zb,za,y8,y7,yi,y9,go_sem,seval,reduceIte,reduceCtorEq]
 refine zC.lp (α:=CwS) (fun a=>[(1,.slc 6 (l.map Node.enc)),(2,vi k),(3,vi pr),(8,.ptr 0 0 0 0),(11,.ptr 1 1 0 0),(12,cV a.s),(13,vb a.s.b),(14,vi a.s.o),(15,vi i),(34,.slc 1 (ss.map shE)),(35,vi ss.length),(36,vi i),(41,.slc 4 (rs.map Rul.enc)),(42,vi rs.length),(43,vi a.j)])
  (fun a=>⟨[⟨0,5,[zK5],false,[]⟩,⟨1,5,[a.s.k.enc],false,[]⟩],a.clk⟩) (fun a=>a.j≤rs.length∧a.s=cR pr i l k rs s a.j) (fun a=>rs.length - a.j) ⟨0,s,clk⟩ ⟨Nat.zero_le _,rfl⟩ (St.cut ?_ ?_ ?_) fun a ha=> ?_
 ·simp[zu,zj,zn]
 ·simp[Ky.enc]
 ·rfl
 obtain⟨j,t,clk2⟩:=a
 obtain⟨j1,j2⟩:=ha
 simp only at j1 j2
 by_cases hj:j=rs.length
 ·subst hj
  have e9:=eq_false (show ¬(rs.length:Int)<(rs.length:Int)by omega)
  simp -implicitDefEqProofs only[e9,yU,zp,zo,zK,Rul.enc,Dcl.enc,W3.enc,Ky.enc,zh,ze,List.length_map,List.isEmpty_cons,List.isEmpty_nil,zd,zb,za,y8,y7,yi,y9,go_sem,seval,reduceIte,reduceCtorEq]
  exact⟨by omega,⟨i+1,t,clk2⟩,⟨by dsimp only;omega,by dsimp only;rw[hN];exact j2⟩,by dsimp only;omega,⟨rfl,rfl,rfl,by dsimp only;omega⟩,⟨rfl,rfl,rfl,rfl,rfl⟩,rfl⟩
 have q1:=eq_true (show(j:Int)<(rs.length:Int)by omega)
 have q0:=eq_true (show(0:Int)≤(j:Int)by omega)
 have hgr:=fun z=>XY rs j z (by omega)
 have hrj:=hrr _ (ye (d:=default) (show j<rs.length by omega))
 have hN2:cR pr i l k rs s (j+1)=cD pr i (abC (rs.getD j default) l k).1 (abC (rs.getD j default) l k).2 (rs.getD j default).ds t (rs.getD j default).ds.length:=by rw[cR,j2]
 have hto:=zAh (pr:=pr) (n:=i) (l:=l) (k:=k) (s:=s) (fun r hr=>(hrr r hr).1.2.1.1) j j1
 rw[←j2]at hto
 generalize rs.getD j default=r at*
 have hsh:=hrj.1
 have hd8:=hsh.2.1.1
 have hdd:=zrw hrj
 obtain⟨kd,pre,ds,ms⟩:=r
 simp only at hd8 hdd hN2
 generalize hab:abC ⟨kd,pre,ds,ms⟩ l k=ab at*
 obtain⟨⟨wa,wb,wc⟩,by'⟩:=ab
 simp only at hN2
 clear hrr hrj
 simp -implicitDefEqProofs only[q0,q1,hgr,hsh,hab,zkn,hl,hn,yU,zp,zo,zK,Rul.enc,Dcl.enc,W3.enc,Ky.enc,zh,ze,List.length_map,List.isEmpty_cons,List.isEmpty_nil,zd,zb,za,y8,y7,yi,y9,go_sem,seval,reduceIte,reduceCtorEq]
 refine zC.lp (α:=CwS) (fun a=>[(1,.slc 6 (l.map Node.enc)),(2,vi k),(3,vi pr),(8,.ptr 0 0 0 0),(11,.ptr 1 1 0 0),(12,cV a.s),(13,vb a.s.b),(14,vi a.s.o),(15,vi i),(18,.ptr 2 clk2 0 0),(19,.ptr 3 (clk2+1) 0 0),(20,vb by'),(34,.slc 1 (ss.map shE)),(35,vi ss.length),(36,vi i),(41,.slc 4 (rs.map Rul.enc)),(42,vi rs.length),(43,vi j),(55,.slc 3 (ds.map Dcl.enc)),(56,vi ds.length),(57,vi a.j)])
  (fun a=>⟨[⟨0,5,[zK5],false,[]⟩,⟨1,5,[a.s.k.enc],false,[]⟩,⟨clk2,4,[[vi kd,.slc 3 (pre.map Tok.enc),.slc 3 (ds.map Dcl.enc),.slc 2 (ms.map Mg.enc)]],false,[]⟩,⟨clk2+1,3,[[vi wa,vi wb,vi wc]],false,[]⟩],a.clk⟩) (fun a=>a.j≤ds.length∧a.s=cD pr i ⟨wa,wb,wc⟩ by' ds t a.j) (fun a=>ds.length - a.j) ⟨0,t,clk2+2⟩ ⟨Nat.zero_le _,rfl⟩ (St.cut ?_ ?_ ?_) fun a ha=> ?_
 ·simp[zu,zj,zn]
 ·simp[Ky.enc]
 ·rfl
 obtain⟨q,u,clk3⟩:=a
 obtain⟨u1,u2⟩:=ha
 simp only at u1 u2
 by_cases hq:q=ds.length
 ·subst hq
  have e9:=eq_false (show ¬(ds.length:Int)<(ds.length:Int)by omega)
  simp -implicitDefEqProofs only[e9,yU,zp,zo,zK,Rul.enc,Dcl.enc,W3.enc,Ky.enc,zh,ze,List.length_map,List.isEmpty_cons,List.isEmpty_nil,zd,zb,za,y8,y7,yi,y9,go_sem,seval,reduceIte,reduceCtorEq]
  exact⟨by omega,⟨j+1,u,clk3⟩,⟨by dsimp only;omega,by dsimp only;rw[hN2];exact u2⟩,by dsimp only;omega,⟨rfl,rfl,rfl,by dsimp only;omega⟩,⟨rfl,rfl,rfl,rfl,rfl⟩,rfl⟩
 have r1:=eq_true (show(q:Int)<(ds.length:Int)by omega)
 have r0:=eq_true (show(0:Int)≤(q:Int)by omega)
 have hgd:=fun z=>XX ds q z (by omega)
 obtain⟨hnm,hqv⟩:=hdd _ (ye (d:=default) (show q<ds.length by omega))
 have hN3:cD pr i ⟨wa,wb,wc⟩ by' ds t (q+1)=zce pr i ⟨wa,wb,wc⟩ by' u (ds.getD q default):=by rw[cD,u2]
 have huo:=zAg pr i ⟨wa,wb,wc⟩ by' ds t q
 rw[←u2]at huo
 generalize ds.getD q default=d at*
 obtain⟨nm,v,imp⟩:=d
 obtain⟨⟨kl,⟨ka,kb,kc⟩,ko⟩,sv,sb,so⟩:=u
 simp only at hnm hqv hN3 huo
 unfold zce at hN3
 simp only at hN3
 have o1:=eq_true (show -9223372036854775808≤so+1∧so+1≤9223372036854775807 by omega)
 generalize hB:bts ⟨lvl i imp,⟨wa,wb,wc⟩,so+1⟩ ⟨kl,⟨ka,kb,kc⟩,ko⟩=T at*
 generalize hV:Q2 pr v=vd at*
 by_cases hp:prN nm=pr
 case neg=>
  rw[if_neg (fun h=>hp h.2.1)]at hN3
  have hp:=eq_false hp
  cases by'<;>simp -implicitDefEqProofs only[r0,r1,hgd,hnm,hp,cV,V.boo_c,XG,zhD,zdk,zhJ,Jl,zfd,Wu,V.allK,V.isK,O.still,Zv,Y7,yU,zp,zo,zK,Rul.enc,Dcl.enc,W3.enc,Ky.enc,zh,ze,List.length_map,List.isEmpty_cons,List.isEmpty_nil,zd,zb,za,y8,y7,yi,y9,go_sem,seval,reduceIte,reduceCtorEq]<;>
   exact⟨by omega,by omega,⟨q+1,⟨⟨kl,⟨ka,kb,kc⟩,ko⟩,sv,sb,so+1⟩,clk3+2⟩,⟨by dsimp only;omega,hN3.symm⟩,by dsimp only;omega,⟨rfl,rfl,rfl,by dsimp only;omega⟩,⟨rfl,rfl,rfl,rfl,rfl⟩,rfl⟩
 rw[hp]at hN3
 have hp:=eq_true hp
 cases by'<;>cases vd<;>cases sb<;>cases T<;>simp only[eq_self,Bool.false_eq_true,false_and,and_false,true_and,and_true,or_true,true_or,or_false,or_self,if_true,if_false,reduceCtorEq]at hN3<;>
  simp -implicitDefEqProofs only[r0,r1,hgd,hnm,hqv,hp,hV,hB,cV,zie,W3.eta,V.boo_c,XG,zhD,zdk,zhJ,Jl,zfd,Wu,V.allK,V.isK,O.still,Zv,Y7,yU,zp,zo,zK,Rul.enc,Dcl.enc,W3.enc,Ky.enc,zh,ze,List.length_map,List.isEmpty_cons,List.isEmpty_nil,zd,zb,za,y8,y7,yi,y9,go_sem,seval,reduceIte,reduceCtorEq]
 all_goals first
  |exact⟨by omega,by omega,⟨q+1,⟨⟨kl,⟨ka,kb,kc⟩,ko⟩,sv,_,so+1⟩,clk3+2⟩,⟨by dsimp only;omega,hN3.symm⟩,by dsimp only;omega,⟨rfl,rfl,rfl,by dsimp only;omega⟩,⟨rfl,rfl,rfl,rfl,rfl⟩,rfl⟩
  |exact⟨by omega,by omega,⟨q+1,⟨⟨lvl i imp,⟨wa,wb,wc⟩,so+1⟩,v,true,so+1⟩,clk3+8⟩,⟨by dsimp only;omega,hN3.symm⟩,by dsimp only;omega,⟨rfl,rfl,rfl,by dsimp only;omega⟩,⟨rfl,rfl,rfl,rfl,rfl⟩,rfl⟩
def zeP(s:Cst):V:=.tup [.agg s.k.enc,zh s.v,vb s.b]
theorem zhC(ss:List (List Rul))(l:List Node)(k pr:Int)(h3:ss.length≤3)(hE:isE l k=true)(hl:l.length≤1000)(hn:jK l)(hs:Zw ss):zf Tryz.prog 14 [yU ss,zp l,vi k,vi pr] (zeP (cS pr l k ss ss.length)):=by
 have h:=zeQ ss l k pr h3 hE hl hn hs
 have hok:=(zkk (pr:=pr) (l:=l) (k:=k) hs ss.length (Nat.le_refl _)).2
 unfold zxY cV at h
 unfold zeP
 generalize cS pr l k ss ss.length=s at*
 cases hb:s.b with
 |true=>rw[hb,if_pos rfl]at h;exact h
 |false=>
  rw[hb,if_neg (by simp)]at h
  rw[hok hb]
  refine zf.rsub h fun F w v hp=> ?_
  cases hp with
  |tup cs _ hl hx=>
   refine .tup cs _ hl fun i hi=> ?_
   have:=hx i hi
   match i,hi with
   |0,_=>exact this
   |1,_=>exact PRep.nilS 3 this
   |2,_=>exact this
def wv(ss:List (List Rul))(l:List Node)(k pr:Int):List Tok:=(cS pr l k ss ss.length).v
def elB(ss:List (List Rul))(l:List Node)(k:Int)(B3 B4:Blk):List Blk:=[⟨0,1,[[yU ss]],false,[]⟩,⟨1,1,[[zp l]],false,[]⟩,⟨2,1,[[vi k]],false,[]⟩,B3,B4]
structure El1OK (A:ESum Tryz.prog) (ss:List (List Rul)) (l:List Node) (k:Int):Prop where
 f:A.f=39
 pre:∀B3 B4 clk(pr:Int),A.pre [.c (.int .i64 pr),.ptr 0 0 0 0,.ptr 1 1 0 0,.ptr 2 2 0 0] ⟨elB ss l k B3 B4,clk⟩
 v:∀(pr:Int) h,A.v [.c (.int .i64 pr),.ptr 0 0 0 0,.ptr 1 1 0 0,.ptr 2 2 0 0] h=zh (wv ss l k pr)
 hp:∀args h,A.hp args h=⟨h.bs,h.clk+10⟩

theorem zun(l:List Node)(k:Int)(hl:l.length≤1000):zf Tryz.prog 15 [zp l,vi k] (vb (isE l k)):=by
 refine zf.of (Orc.cons J8 (Orc.nil _)) zy6 (by simp[c15]) fun w0 own0=> ?_
 unfold isE
 by_cases hD:XW l=true
 ·have c0:(if 0≤KR l∨l.length=0 then(5:Int)else 0)=0:=by
   unfold XW at hD;rw[decide_eq_true_eq]at hD;rw[if_neg];omega
  rw[hD,Bool.true_and]
  by_cases h1:0≤k
  ·by_cases h2:k<(l.length:Int)
   ·have hg:=fun z=>yr l k.toNat z (by omega)
    generalize l.getD k.toNat .zero=n at*
    rw[decide_eq_true ⟨h1,h2⟩,Bool.true_and]
    have h1:=eq_true h1
    have h2:=eq_true h2
    by_cases c:n.type=⟨#[]⟩
    ·rw[decide_eq_true c]
     have c:=eq_true c
     simp -implicitDefEqProofs only[c15,zp,zo,qe,c0,hl,h1,h2,hg,c,Node.enc,List.length_map,zd,zb,za,go_sem,seval,reduceIte,reduceCtorEq]
    ·rw[decide_eq_false c]
     have c:=eq_false c
     simp -implicitDefEqProofs only[c15,zp,zo,qe,c0,hl,h1,h2,hg,c,Node.enc,List.length_map,zd,zb,za,go_sem,seval,reduceIte,reduceCtorEq]
   ·rw[decide_eq_false (fun h=>h2 h.2),Bool.false_and]
    have h1:=eq_true h1
    have h2:=eq_false h2
    simp -implicitDefEqProofs only[c15,zp,zo,qe,c0,hl,h1,h2,List.length_map,zd,zb,za,go_sem,seval,reduceIte,reduceCtorEq]
  ·rw[decide_eq_false (fun h=>h1 h.1),Bool.false_and]
   have h1:=eq_false h1
   simp -implicitDefEqProofs only[c15,zp,zo,qe,c0,hl,h1,List.length_map,zd,zb,za,go_sem,seval,reduceIte,reduceCtorEq]
 ·have c0:(if 0≤KR l∨l.length=0 then(5:Int)else 0)=5:=by
   unfold XW at hD;rw[decide_eq_true_eq]at hD;rw[if_pos];omega
  rw[Bool.eq_false_iff.2 hD,Bool.false_and,Bool.false_and]
  simp -implicitDefEqProofs only[c15,zp,zo,qe,c0,hl,List.length_map,zd,zb,za,go_sem,seval,reduceIte,reduceCtorEq]
def zbY:Sum Tryz.prog:=⟨15,fun args=>args= [zp (zk (args.getD 0 .any)),vi ((args.getD 1 .any).int)]∧((zk (args.getD 0 .any))).length≤1000,fun args=>vb (isE (zk (args.getD 0 .any)) ((args.getD 1 .any).int)),fun args h=>by
 have:=zun (zk (args.getD 0 .any)) ((args.getD 1 .any).int) h.2;rwa [←h.1]at this,true⟩
theorem zt2:zbY.f=15:=rfl
theorem zt1(args:List V):zbY.D args=(args= [zp (zk (args.getD 0 .any)),vi ((args.getD 1 .any).int)]∧((zk (args.getD 0 .any))).length≤1000):=rfl
theorem zhn:zbY.flat=true:=rfl
theorem zt3(args:List V):zbY.r args=vb (isE (zk (args.getD 0 .any)) ((args.getD 1 .any).int)):=rfl
attribute [go_sem] zt2 zt1 zhn zt3
def J3:Sum Tryz.prog:=⟨12,fun args=>args= [],fun args=>vb true,fun args h=>by
 have:=zpX;rwa [←h]at this,true⟩
theorem zmY:J3.f=12:=rfl
theorem zmX(args:List V):J3.D args=(args= []):=rfl
theorem zd1:J3.flat=true:=rfl
theorem zmZ(args:List V):J3.r args=vb true:=rfl
attribute [go_sem] zmY zmX zd1 zmZ
theorem zfw{l:List Node}(h:Yo l=true):l.length≤60∧jK l:=by
 unfold Yo at h
 rw[decide_eq_true_eq]at h
 refine⟨h.1,fun k hk=> ?_⟩
 have:=h.2 k hk
 unfold zdB at this
 rw[decide_eq_true_eq]at this
 obtain⟨_,_,_,a,b,_⟩:=this
 exact⟨by omega,by omega⟩
theorem zlO{s:List (List Rul)}(h:Qa s=true)(h6:zrz s):Zw s:=fun l hl=>by
 unfold Qa at h;rw[decide_eq_true_eq]at h
 obtain⟨i,hi,rfl⟩:=Yt (d:=[]) hl
 have:=zwx (h.1 i hi (by omega))
 exact⟨this.1,fun r hr=>⟨this.2 r hr,h6 _ hl r hr⟩⟩


structure SwS where
 b:Nat
 i:Nat
 out:List Stp
 ver:Nat
 clk:Nat
theorem QZ(L:List Pa)(b i:Nat)(h:b≤i)(h2:i<L.length):(L.take (i+1)).drop b=(L.take i).drop b++ [L.getD i default]:=by
 rw[List.take_add_one,List.drop_append,List.getElem?_eq_getElem h2,List.getD_eq_getElem?_getD,List.getElem?_eq_getElem h2]
 have:b - (L.take i).length=0:=by rw[List.length_take];omega
 rw[this];rfl
theorem zgz(l:List Tok)(h:okT l):zf Tryz.prog 23 [zh l] (zdU (stO l)):=by
 have h1:=h.1
 have hP:=zkK h
 have hfb:=@JP l
 unfold stO
 generalize hL:pl l=L at*
 cases hb:ptB l with
 |false=>
  have hz:=hfb hb
  subst hz
  rw[if_neg (by simp)]
  refine zf.rsub ?_ (qF false)
  refine zf.of (Orc.cons yQ (Orc.cons jl (Orc.cons qW (Orc.cons YY (Orc.nil _))))) zh7 (by simp[c23]) fun w0 own0=> ?_
  simp only[c23,zh,ze,h1,plV,hL,hb,List.map_nil,zd,zb,za,go_sem,reduceCtorEq,reduceIte,Nat.reduceEqDiff,Nat.reduceAdd,Nat.reduceSub,Nat.reduceMul,Nat.reduceLT,Nat.reduceLeDiff,Nat.reduceBEq,Int.reduceEq,Int.reduceLT,Int.reduceLE,Int.reduceAdd,Int.reduceSub,Int.reduceNeg,Int.reduceToNat]
 |true=>
 rw[if_pos rfl]
 by_cases hn:isNone L=true
 ·rw[if_pos hn]
  obtain⟨p,rfl,hi⟩:=zaT hn
  have hp:=(hP.2 p (by simp)).1
  refine zf.rsub ?_ (qF true)
  refine zf.of (Orc.cons yQ (Orc.cons jl (Orc.cons qW (Orc.cons YY (Orc.nil _))))) zh7 (by simp[c23]) fun w0 own0=> ?_
  simp only[c23,zh,ze,h1,plV,hL,hb,hi,hp,Pa.enc,zl,Pa.eta',List.map_cons,List.map_nil,zd,zb,za,go_sem,reduceCtorEq,reduceIte,Nat.reduceEqDiff,Nat.reduceAdd,Nat.reduceSub,Nat.reduceMul,Nat.reduceLT,Nat.reduceLeDiff,Nat.reduceBEq,Int.reduceEq,Int.reduceLT,Int.reduceLE,Int.reduceAdd,Int.reduceSub,Int.reduceNeg,Int.reduceToNat]
 rw[if_neg hn]
 refine zkY _ ?_
 generalize hR:kg [] L=R
 refine zf.of (Orc.cons yQ (Orc.cons jl (Orc.cons qW (Orc.cons YY (Orc.nil _))))) zh7 (by simp[c23]) fun w0 own0=> ?_
 have hg0:(L.length:Int)=1→∃p0:Pa,(L.map Pa.enc).getD 0 [vi 0,vs ⟨#[]⟩,vi 0,zz]=p0.enc∧yT p0∧yc p0 ⟨#[110,111,110,101]⟩=false:=fun h1=>by
  obtain⟨p,rfl⟩:=List.length_eq_one_iff.1 (show L.length=1 by omega)
  refine⟨p,rfl,(hP.2 p (by simp)).1,?_⟩
  cases hh:yc p ⟨#[110,111,110,101]⟩with
  |false=>rfl
  |true=>exact absurd hh (by simpa[isNone,zfZ]using hn)
 have hLn:=hP.1
 by_cases hl1:(L.length:Int)=1
 ·obtain⟨p0,hx0,hp0,hi0⟩:=hg0 hl1
  have hl1t:=eq_true hl1
  have hlp:(0:Int)<(L.length:Int):=by omega
  simp only[c23,zh,ze,h1,plV,hL,hb,hl1,hx0,hp0,hi0,Pa.enc,zl,Pa.eta',zd,zb,za,go_sem,reduceCtorEq,reduceIte,Nat.reduceEqDiff,Nat.reduceAdd,Nat.reduceSub,Nat.reduceMul,Nat.reduceLT,Nat.reduceLeDiff,Nat.reduceBEq,Int.reduceEq,Int.reduceLT,Int.reduceLE,Int.reduceAdd,Int.reduceSub,Int.reduceNeg,Int.reduceToNat]
  try (refine⟨by omega,?_⟩)
  refine zC.lp (α:=SwS) (fun a=>[(4,.slc 4 (L.map Pa.enc)),(6,.ref 0 a.ver 0 a.out.length),(7,vi a.b),(8,vi a.i)])
   (fun a=>⟨[⟨a.ver,3,a.out.map Stp.enc,false,[vs ⟨#[]⟩,vi 0,zz]⟩],a.clk⟩) (fun a=>a.i≤L.length+1∧a.out.length≤a.i∧a.b≤a.i∧(a.i≤L.length→(kg ((L.take a.i).drop a.b) (L.drop a.i)).map (a.out++ ·)=R)∧(a.i=L.length+1→some a.out=R)) (fun a=>L.length+1 - a.i) ⟨0,0,[],0,1⟩
   ⟨Nat.zero_le _,Nat.zero_le _,Nat.le_refl _,fun _=>by rw[←hR];simp only[List.take_zero,List.drop_zero,List.nil_append];cases kg [] L<;>rfl,fun hh=>by dsimp only at hh;omega⟩ (St.nil 6 3 [vs ⟨#[]⟩,vi 0,zz] (by simp[zj]) (St.cut ?_ ?_ ?_)) fun a ha=> ?_
  ·simp[zu,zj,zq]
  ·simp[Heap.alloc]
  ·rfl
  obtain⟨b,i,out,ver,clk⟩:=a
  obtain⟨i1,i2,i3,i4,i5⟩:=ha
  simp only at i1 i2 i3 i4 i5
  have hot:out.take out.length=out:=List.take_length
  by_cases hend:i=L.length+1
  ·have i6:=i5 hend
   subst i6
   have e1:¬((i:Int)≤(L.length:Int)):=by omega
   have hlm:List.take out.length (out.map Stp.enc)=out.map Stp.enc:=by rw[List.take_of_length_le (by simp)]
   simp only[e1,hot,stR,W4,Zs,Zt,Nat.le_refl,zd,zb,za,go_sem,reduceCtorEq,reduceIte,Nat.reduceEqDiff,Nat.reduceAdd,Nat.reduceSub,Nat.reduceMul,Nat.reduceLT,Nat.reduceLeDiff,Nat.reduceBEq,Int.reduceEq,Int.reduceLT,Int.reduceLE,Int.reduceAdd,Int.reduceSub,Int.reduceNeg,Int.reduceToNat]
  ·have e1:((i:Int)≤(L.length:Int)):=by omega
   have e0:(0:Int)≤(i:Int):=by omega
   have i6:=i4 (by omega)
   have more:∀(hsep:i=L.length∨(i<L.length∧j5 (L.getD i default)=true)),(match jZ ((L.take i).drop b)with|none=>none|some s=>if i=L.length then some (out++ [s])else((kg [] (L.drop (i+1))).map (s:: ·)).map (out++ ·))=R:=fun hsep=>by
    rcases hsep with hs|⟨hs,hc⟩
    ·rw[←i6,hs,List.drop_length,kg]
     cases jZ ((L.take L.length).drop b)<;>simp
    ·rw[←i6,qy L i hs,kg,if_pos hc]
     cases jZ ((L.take i).drop b)with
     |none=>rfl
     |some s=>simp only[if_neg (show ¬i=L.length by omega)]
   by_cases hsep:i=L.length∨(i<L.length∧j5 (L.getD i default)=true)
   ·have hm:=more hsep
    clear more i4 i5 i6
    have hguard:∃(g1:Prop),True:=⟨True,trivial⟩
    have hcur:(L.take i).drop b= []∨∃x r,(L.take i).drop b=x::r∧b<i∧L.getD b default=x∧r=(L.take i).drop (b+1):=by
     by_cases hbi:b=i
     ·left;subst hbi;exact List.drop_eq_nil_of_le (by rw[List.length_take];omega)
     ·right
      have hb2:b<(L.take i).length:=by rw[List.length_take];omega
      refine⟨L.getD b default,(L.take i).drop (b+1),?_,by omega,rfl,rfl⟩
      rw[List.drop_eq_getElem_cons hb2,List.getD_eq_getElem?_getD,List.getElem?_eq_getElem (by omega)]
      simp
    have hpart:∀(T:Prop),T→T:=fun _ t=>t
    rcases hsep with hs|⟨hs,hc⟩
    ·subst hs
     have k1:¬((L.length:Int)<(L.length:Int)):=by omega
     rcases hcur with hcur|⟨x,r,hcur,hbi,hx,hr⟩
     ·have hbi:b=L.length:=by
       have:=congrArg List.length hcur
       simp at this;omega
      subst hbi
      rw[hcur]at hm
      simp only[jZ]at hm
      subst hm
      simp only[k1,e0,e1,Pa.enc,stR,zd,zb,za,go_sem,reduceCtorEq,reduceIte,Nat.reduceEqDiff,Nat.reduceAdd,Nat.reduceSub,Nat.reduceMul,Nat.reduceLT,Nat.reduceLeDiff,Nat.reduceBEq,Int.reduceEq,Int.reduceLT,Int.reduceLE,Int.reduceAdd,Int.reduceSub,Int.reduceNeg,Int.reduceToNat]
     ·rw[hcur]at hm
      have kb:(((L.length:Nat):Int)=(b:Int))=False:=eq_false (by omega)
      have kb0:(0:Int)≤(b:Int):=by omega
      have kb1:(b:Int)<(L.length:Int):=by omega
      have hgb:=zY L b [vi 0,vs ⟨#[]⟩,vi 0,zz] (by omega)
      rw[hx]at hgb
      have hmx:x∈L:=by rw[←hx,List.getD_eq_getElem?_getD,List.getElem?_eq_getElem (by omega)];exact List.getElem_mem _
      have hxo:=(hP.2 x hmx).1
      have e3:((b:Int)+1).toNat=b+1:=by omega
      have e4:(0:Int)≤(b:Int)+1:=by omega
      have e5:(b:Int)+1≤((L.length:Nat):Int):=by omega
      have e6:((L.length:Nat):Int)≤(L.length:Int):=by omega
      have hsl:List.take (L.length - (b+1)) (List.drop (b+1) (L.map Pa.enc))=r.map Pa.enc:=by
       rw[hr,List.map_drop,List.map_take,List.drop_take]
      have kr:YT r:=by
       rw[hr]
       exact⟨by simp;omega,fun p hp=>hP.2 p (List.mem_of_mem_take (List.mem_of_mem_drop hp))⟩
      cases hn2:zI x with
      |false=>
       rw[ZR hn2]at hm
       simp only at hm
       subst hm
       simp only[k1,e0,e1,kb,kb0,kb1,hgb,hxo,hn2,Pa.enc,zl,Pa.eta',stR,zd,zb,za,go_sem,reduceCtorEq,reduceIte,Nat.reduceEqDiff,Nat.reduceAdd,Nat.reduceSub,Nat.reduceMul,Nat.reduceLT,Nat.reduceLeDiff,Nat.reduceBEq,Int.reduceEq,Int.reduceLT,Int.reduceLE,Int.reduceAdd,Int.reduceSub,Int.reduceNeg,Int.reduceToNat]
      |true=>
       match hI:itL true r with
       |none=>
        rw[qc (.inl hI)]at hm
        simp only at hm
        subst hm
        simp only[k1,e0,e1,e3,e4,e5,e6,hsl,kb,kb0,kb1,hgb,hxo,hn2,hI,kr,pas,zB,V.boo_c,kR,kZ,Option.getD_none,Option.getD_some,List.length_nil,List.map_nil,Int.lt_irrefl,Pa.enc,zl,Pa.eta',stR,zd,zb,za,go_sem,reduceCtorEq,reduceIte,Nat.reduceEqDiff,Nat.reduceAdd,Nat.reduceSub,Nat.reduceMul,Nat.reduceLT,Nat.reduceLeDiff,Nat.reduceBEq,Int.reduceEq,Int.reduceLT,Int.reduceLE,Int.reduceAdd,Int.reduceSub,Int.reduceNeg,Int.reduceToNat]
        try omega
       |some []=>
        rw[qc (.inr hI)]at hm
        simp only at hm
        subst hm
        simp only[k1,e0,e1,e3,e4,e5,e6,hsl,kb,kb0,kb1,hgb,hxo,hn2,hI,kr,pas,zB,V.boo_c,kR,kZ,Option.getD_none,Option.getD_some,List.length_nil,List.map_nil,Int.lt_irrefl,Pa.enc,zl,Pa.eta',stR,zd,zb,za,go_sem,reduceCtorEq,reduceIte,Nat.reduceEqDiff,Nat.reduceAdd,Nat.reduceSub,Nat.reduceMul,Nat.reduceLT,Nat.reduceLeDiff,Nat.reduceBEq,Int.reduceEq,Int.reduceLT,Int.reduceLE,Int.reduceAdd,Int.reduceSub,Int.reduceNeg,Int.reduceToNat]
        try omega
       |some (y::ys)=>
        rw[kC hn2 hI]at hm
        have hap:List.map Stp.enc out++ [[vs x.t.text,vi 0,.slc 5 (y.enc::List.map Itm.enc ys)]]=List.map Stp.enc (out++ [(⟨x.t.text,0,y::ys⟩:Stp)]):=by simp[Stp.enc]
        have hyp:(0:Int)<((ys.length+1:Nat):Int):=by omega
        simp only[k1,e0,e1,e3,e4,e5,e6,hsl,kb,kb0,kb1,hgb,hxo,hn2,hI,kr,hyp,hot,hap,pas,zB,V.boo_c,kR,kZ,Option.getD_some,Pa.enc,zl,Pa.eta',zd,zb,za,go_sem,reduceCtorEq,reduceIte,Nat.reduceEqDiff,Nat.reduceAdd,Nat.reduceSub,Nat.reduceMul,Nat.reduceLT,Nat.reduceLeDiff,Nat.reduceBEq,Int.reduceEq,Int.reduceLT,Int.reduceLE,Int.reduceAdd,Int.reduceSub,Int.reduceNeg,Int.reduceToNat]
        simp only[if_pos]at hm
        refine⟨by omega,⟨by omega,by omega,by omega⟩,by omega,by omega,⟨L.length+1,L.length+1,out++ [⟨x.t.text,0,y::ys⟩],_,_⟩,⟨by dsimp only;omega,by simp;omega,by dsimp only;omega,fun hh=>by dsimp only at hh;omega,fun _=>hm⟩,by dsimp only;omega,⟨⟨rfl,by simp⟩,by dsimp only;omega,by dsimp only;omega⟩,⟨rfl,rfl⟩,rfl⟩
    ·have k1:(i:Int)<(L.length:Int):=by omega
     have hgi:=zY L i [vi 0,vs ⟨#[]⟩,vi 0,zz] hs
     have hck:((L.getD i default).t.kind=16)=True:=eq_true (by simpa[j5]using hc)
     generalize L.getD i default=z at*
     rcases hcur with hcur|⟨x,r,hcur,hbi,hx,hr⟩
     ·have hbi:b=i:=by
       have:=congrArg List.length hcur
       simp at this;omega
      subst hbi
      rw[hcur]at hm
      simp only[jZ]at hm
      subst hm
      simp only[k1,hgi,hck,e0,e1,Pa.enc,stR,zd,zb,za,go_sem,reduceCtorEq,reduceIte,Nat.reduceEqDiff,Nat.reduceAdd,Nat.reduceSub,Nat.reduceMul,Nat.reduceLT,Nat.reduceLeDiff,Nat.reduceBEq,Int.reduceEq,Int.reduceLT,Int.reduceLE,Int.reduceAdd,Int.reduceSub,Int.reduceNeg,Int.reduceToNat]
     ·rw[hcur]at hm
      have kb:(((i:Nat):Int)=(b:Int))=False:=eq_false (by omega)
      have kb0:(0:Int)≤(b:Int):=by omega
      have kb1:(b:Int)<(L.length:Int):=by omega
      have hgb:=zY L b [vi 0,vs ⟨#[]⟩,vi 0,zz] (by omega)
      rw[hx]at hgb
      have hmx:x∈L:=by rw[←hx,List.getD_eq_getElem?_getD,List.getElem?_eq_getElem (by omega)];exact List.getElem_mem _
      have hxo:=(hP.2 x hmx).1
      have e3:((b:Int)+1).toNat=b+1:=by omega
      have e4:(0:Int)≤(b:Int)+1:=by omega
      have e5:(b:Int)+1≤((i:Nat):Int):=by omega
      have e6:((i:Nat):Int)≤(L.length:Int):=by omega
      have hsl:List.take (i - (b+1)) (List.drop (b+1) (L.map Pa.enc))=r.map Pa.enc:=by
       rw[hr,List.map_drop,List.map_take,List.drop_take]
      have kr:YT r:=by
       rw[hr]
       exact⟨by simp;omega,fun p hp=>hP.2 p (List.mem_of_mem_take (List.mem_of_mem_drop hp))⟩
      cases hn2:zI x with
      |false=>
       rw[ZR hn2]at hm
       simp only at hm
       subst hm
       simp only[k1,hgi,hck,e0,e1,kb,kb0,kb1,hgb,hxo,hn2,Pa.enc,zl,Pa.eta',stR,zd,zb,za,go_sem,reduceCtorEq,reduceIte,Nat.reduceEqDiff,Nat.reduceAdd,Nat.reduceSub,Nat.reduceMul,Nat.reduceLT,Nat.reduceLeDiff,Nat.reduceBEq,Int.reduceEq,Int.reduceLT,Int.reduceLE,Int.reduceAdd,Int.reduceSub,Int.reduceNeg,Int.reduceToNat]
      |true=>
       match hI:itL true r with
       |none=>
        rw[qc (.inl hI)]at hm
        simp only at hm
        subst hm
        simp only[k1,hgi,hck,e0,e1,e3,e4,e5,e6,hsl,kb,kb0,kb1,hgb,hxo,hn2,hI,kr,pas,zB,V.boo_c,kR,kZ,Option.getD_none,Option.getD_some,List.length_nil,List.map_nil,Int.lt_irrefl,Pa.enc,zl,Pa.eta',stR,zd,zb,za,go_sem,reduceCtorEq,reduceIte,Nat.reduceEqDiff,Nat.reduceAdd,Nat.reduceSub,Nat.reduceMul,Nat.reduceLT,Nat.reduceLeDiff,Nat.reduceBEq,Int.reduceEq,Int.reduceLT,Int.reduceLE,Int.reduceAdd,Int.reduceSub,Int.reduceNeg,Int.reduceToNat]
        try omega
       |some []=>
        rw[qc (.inr hI)]at hm
        simp only at hm
        subst hm
        simp only[k1,hgi,hck,e0,e1,e3,e4,e5,e6,hsl,kb,kb0,kb1,hgb,hxo,hn2,hI,kr,pas,zB,V.boo_c,kR,kZ,Option.getD_none,Option.getD_some,List.length_nil,List.map_nil,Int.lt_irrefl,Pa.enc,zl,Pa.eta',stR,zd,zb,za,go_sem,reduceCtorEq,reduceIte,Nat.reduceEqDiff,Nat.reduceAdd,Nat.reduceSub,Nat.reduceMul,Nat.reduceLT,Nat.reduceLeDiff,Nat.reduceBEq,Int.reduceEq,Int.reduceLT,Int.reduceLE,Int.reduceAdd,Int.reduceSub,Int.reduceNeg,Int.reduceToNat]
        try omega
       |some (y::ys)=>
        rw[kC hn2 hI]at hm
        have hap:List.map Stp.enc out++ [[vs x.t.text,vi 0,.slc 5 (y.enc::List.map Itm.enc ys)]]=List.map Stp.enc (out++ [(⟨x.t.text,0,y::ys⟩:Stp)]):=by simp[Stp.enc]
        have hyp:(0:Int)<((ys.length+1:Nat):Int):=by omega
        simp only[k1,hgi,hck,e0,e1,e3,e4,e5,e6,hsl,kb,kb0,kb1,hgb,hxo,hn2,hI,kr,hyp,hot,hap,pas,zB,V.boo_c,kR,kZ,Option.getD_some,Pa.enc,zl,Pa.eta',zd,zb,za,go_sem,reduceCtorEq,reduceIte,Nat.reduceEqDiff,Nat.reduceAdd,Nat.reduceSub,Nat.reduceMul,Nat.reduceLT,Nat.reduceLeDiff,Nat.reduceBEq,Int.reduceEq,Int.reduceLT,Int.reduceLE,Int.reduceAdd,Int.reduceSub,Int.reduceNeg,Int.reduceToNat]
        simp only[if_neg (show ¬i=L.length by omega)]at hm
        refine⟨by omega,⟨by omega,by omega,by omega⟩,by omega,by omega,⟨i+1,i+1,out++ [⟨x.t.text,0,y::ys⟩],_,_⟩,⟨by dsimp only;omega,by simp;omega,by dsimp only;omega,fun _=> ?_,fun hh=>by dsimp only at hh;omega⟩,by dsimp only;omega,⟨⟨rfl,by simp⟩,by dsimp only;omega,by dsimp only;omega⟩,⟨rfl,rfl⟩,rfl⟩
        dsimp only
        rw[←hm,List.drop_eq_nil_of_le (by rw[List.length_take];omega)]
        cases kg [] (L.drop (i+1))<;>simp
   ·have hs:i<L.length:=Decidable.byContradiction fun hh=>hsep (.inl (by omega))
    have hc:j5 (L.getD i default)=false:=by
     cases hh:j5 (L.getD i default)with
     |false=>rfl
     |true=>exact absurd (.inr ⟨hs,hh⟩) hsep
    have k1:(i:Int)<(L.length:Int):=by omega
    have hgi:=zY L i [vi 0,vs ⟨#[]⟩,vi 0,zz] hs
    have hck:((L.getD i default).t.kind=16)=False:=eq_false (by simpa[j5]using hc)
    have hsn:=QZ L b i i3 hs
    rw[qy L i hs,kg,if_neg (by rw[hc];simp),←hsn]at i6
    generalize L.getD i default=z at*
    simp only[k1,hgi,hck,e0,e1,Pa.enc,zd,zb,za,go_sem,reduceCtorEq,reduceIte,Nat.reduceEqDiff,Nat.reduceAdd,Nat.reduceSub,Nat.reduceMul,Nat.reduceLT,Nat.reduceLeDiff,Nat.reduceBEq,Int.reduceEq,Int.reduceLT,Int.reduceLE,Int.reduceAdd,Int.reduceSub,Int.reduceNeg,Int.reduceToNat]
    exact⟨by omega,⟨b,i+1,out,ver,clk⟩,⟨by dsimp only;omega,by dsimp only;omega,by dsimp only;omega,fun _=>i6,fun hh=>by dsimp only at hh;omega⟩,by dsimp only;omega,⟨⟨rfl,rfl⟩,rfl,by dsimp only;omega⟩,⟨rfl,rfl⟩,rfl⟩
 ·have hl2:=eq_false hl1
  simp only[c23,zh,ze,h1,plV,hL,hb,hl2,zd,zb,za,go_sem,reduceCtorEq,reduceIte,Nat.reduceEqDiff,Nat.reduceAdd,Nat.reduceSub,Nat.reduceMul,Nat.reduceLT,Nat.reduceLeDiff,Nat.reduceBEq,Int.reduceEq,Int.reduceLT,Int.reduceLE,Int.reduceAdd,Int.reduceSub,Int.reduceNeg,Int.reduceToNat]
  refine zC.lp (α:=SwS) (fun a=>[(4,.slc 4 (L.map Pa.enc)),(6,.ref 0 a.ver 0 a.out.length),(7,vi a.b),(8,vi a.i)])
   (fun a=>⟨[⟨a.ver,3,a.out.map Stp.enc,false,[vs ⟨#[]⟩,vi 0,zz]⟩],a.clk⟩) (fun a=>a.i≤L.length+1∧a.out.length≤a.i∧a.b≤a.i∧(a.i≤L.length→(kg ((L.take a.i).drop a.b) (L.drop a.i)).map (a.out++ ·)=R)∧(a.i=L.length+1→some a.out=R)) (fun a=>L.length+1 - a.i) ⟨0,0,[],0,1⟩
   ⟨Nat.zero_le _,Nat.zero_le _,Nat.le_refl _,fun _=>by rw[←hR];simp only[List.take_zero,List.drop_zero,List.nil_append];cases kg [] L<;>rfl,fun hh=>by dsimp only at hh;omega⟩ (St.nil 6 3 [vs ⟨#[]⟩,vi 0,zz] (by simp[zj]) (St.cut ?_ ?_ ?_)) fun a ha=> ?_
  ·simp[zu,zj,zq]
  ·simp[Heap.alloc]
  ·rfl
  obtain⟨b,i,out,ver,clk⟩:=a
  obtain⟨i1,i2,i3,i4,i5⟩:=ha
  simp only at i1 i2 i3 i4 i5
  have hot:out.take out.length=out:=List.take_length
  by_cases hend:i=L.length+1
  ·have i6:=i5 hend
   subst i6
   have e1:¬((i:Int)≤(L.length:Int)):=by omega
   have hlm:List.take out.length (out.map Stp.enc)=out.map Stp.enc:=by rw[List.take_of_length_le (by simp)]
   simp only[e1,hot,stR,W4,Zs,Zt,Nat.le_refl,zd,zb,za,go_sem,reduceCtorEq,reduceIte,Nat.reduceEqDiff,Nat.reduceAdd,Nat.reduceSub,Nat.reduceMul,Nat.reduceLT,Nat.reduceLeDiff,Nat.reduceBEq,Int.reduceEq,Int.reduceLT,Int.reduceLE,Int.reduceAdd,Int.reduceSub,Int.reduceNeg,Int.reduceToNat]
  ·have e1:((i:Int)≤(L.length:Int)):=by omega
   have e0:(0:Int)≤(i:Int):=by omega
   have i6:=i4 (by omega)
   have more:∀(hsep:i=L.length∨(i<L.length∧j5 (L.getD i default)=true)),(match jZ ((L.take i).drop b)with|none=>none|some s=>if i=L.length then some (out++ [s])else((kg [] (L.drop (i+1))).map (s:: ·)).map (out++ ·))=R:=fun hsep=>by
    rcases hsep with hs|⟨hs,hc⟩
    ·rw[←i6,hs,List.drop_length,kg]
     cases jZ ((L.take L.length).drop b)<;>simp
    ·rw[←i6,qy L i hs,kg,if_pos hc]
     cases jZ ((L.take i).drop b)with
     |none=>rfl
     |some s=>simp only[if_neg (show ¬i=L.length by omega)]
   by_cases hsep:i=L.length∨(i<L.length∧j5 (L.getD i default)=true)
   ·have hm:=more hsep
    clear more i4 i5 i6
    have hguard:∃(g1:Prop),True:=⟨True,trivial⟩
    have hcur:(L.take i).drop b= []∨∃x r,(L.take i).drop b=x::r∧b<i∧L.getD b default=x∧r=(L.take i).drop (b+1):=by
     by_cases hbi:b=i
     ·left;subst hbi;exact List.drop_eq_nil_of_le (by rw[List.length_take];omega)
     ·right
      have hb2:b<(L.take i).length:=by rw[List.length_take];omega
      refine⟨L.getD b default,(L.take i).drop (b+1),?_,by omega,rfl,rfl⟩
      rw[List.drop_eq_getElem_cons hb2,List.getD_eq_getElem?_getD,List.getElem?_eq_getElem (by omega)]
      simp
    have hpart:∀(T:Prop),T→T:=fun _ t=>t
    rcases hsep with hs|⟨hs,hc⟩
    ·subst hs
     have k1:¬((L.length:Int)<(L.length:Int)):=by omega
     rcases hcur with hcur|⟨x,r,hcur,hbi,hx,hr⟩
     ·have hbi:b=L.length:=by
       have:=congrArg List.length hcur
       simp at this;omega
      subst hbi
      rw[hcur]at hm
      simp only[jZ]at hm
      subst hm
      simp only[k1,e0,e1,Pa.enc,stR,zd,zb,za,go_sem,reduceCtorEq,reduceIte,Nat.reduceEqDiff,Nat.reduceAdd,Nat.reduceSub,Nat.reduceMul,Nat.reduceLT,Nat.reduceLeDiff,Nat.reduceBEq,Int.reduceEq,Int.reduceLT,Int.reduceLE,Int.reduceAdd,Int.reduceSub,Int.reduceNeg,Int.reduceToNat]
     ·rw[hcur]at hm
      have kb:(((L.length:Nat):Int)=(b:Int))=False:=eq_false (by omega)
      have kb0:(0:Int)≤(b:Int):=by omega
      have kb1:(b:Int)<(L.length:Int):=by omega
      have hgb:=zY L b [vi 0,vs ⟨#[]⟩,vi 0,zz] (by omega)
      rw[hx]at hgb
      have hmx:x∈L:=by rw[←hx,List.getD_eq_getElem?_getD,List.getElem?_eq_getElem (by omega)];exact List.getElem_mem _
      have hxo:=(hP.2 x hmx).1
      have e3:((b:Int)+1).toNat=b+1:=by omega
      have e4:(0:Int)≤(b:Int)+1:=by omega
      have e5:(b:Int)+1≤((L.length:Nat):Int):=by omega
      have e6:((L.length:Nat):Int)≤(L.length:Int):=by omega
      have hsl:List.take (L.length - (b+1)) (List.drop (b+1) (L.map Pa.enc))=r.map Pa.enc:=by
       rw[hr,List.map_drop,List.map_take,List.drop_take]
      have kr:YT r:=by
       rw[hr]
       exact⟨by simp;omega,fun p hp=>hP.2 p (List.mem_of_mem_take (List.mem_of_mem_drop hp))⟩
      cases hn2:zI x with
      |false=>
       rw[ZR hn2]at hm
       simp only at hm
       subst hm
       simp only[k1,e0,e1,kb,kb0,kb1,hgb,hxo,hn2,Pa.enc,zl,Pa.eta',stR,zd,zb,za,go_sem,reduceCtorEq,reduceIte,Nat.reduceEqDiff,Nat.reduceAdd,Nat.reduceSub,Nat.reduceMul,Nat.reduceLT,Nat.reduceLeDiff,Nat.reduceBEq,Int.reduceEq,Int.reduceLT,Int.reduceLE,Int.reduceAdd,Int.reduceSub,Int.reduceNeg,Int.reduceToNat]
      |true=>
       match hI:itL true r with
       |none=>
        rw[qc (.inl hI)]at hm
        simp only at hm
        subst hm
        simp only[k1,e0,e1,e3,e4,e5,e6,hsl,kb,kb0,kb1,hgb,hxo,hn2,hI,kr,pas,zB,V.boo_c,kR,kZ,Option.getD_none,Option.getD_some,List.length_nil,List.map_nil,Int.lt_irrefl,Pa.enc,zl,Pa.eta',stR,zd,zb,za,go_sem,reduceCtorEq,reduceIte,Nat.reduceEqDiff,Nat.reduceAdd,Nat.reduceSub,Nat.reduceMul,Nat.reduceLT,Nat.reduceLeDiff,Nat.reduceBEq,Int.reduceEq,Int.reduceLT,Int.reduceLE,Int.reduceAdd,Int.reduceSub,Int.reduceNeg,Int.reduceToNat]
        try omega
       |some []=>
        rw[qc (.inr hI)]at hm
        simp only at hm
        subst hm
        simp only[k1,e0,e1,e3,e4,e5,e6,hsl,kb,kb0,kb1,hgb,hxo,hn2,hI,kr,pas,zB,V.boo_c,kR,kZ,Option.getD_none,Option.getD_some,List.length_nil,List.map_nil,Int.lt_irrefl,Pa.enc,zl,Pa.eta',stR,zd,zb,za,go_sem,reduceCtorEq,reduceIte,Nat.reduceEqDiff,Nat.reduceAdd,Nat.reduceSub,Nat.reduceMul,Nat.reduceLT,Nat.reduceLeDiff,Nat.reduceBEq,Int.reduceEq,Int.reduceLT,Int.reduceLE,Int.reduceAdd,Int.reduceSub,Int.reduceNeg,Int.reduceToNat]
        try omega
       |some (y::ys)=>
        rw[kC hn2 hI]at hm
        have hap:List.map Stp.enc out++ [[vs x.t.text,vi 0,.slc 5 (y.enc::List.map Itm.enc ys)]]=List.map Stp.enc (out++ [(⟨x.t.text,0,y::ys⟩:Stp)]):=by simp[Stp.enc]
        have hyp:(0:Int)<((ys.length+1:Nat):Int):=by omega
        simp only[k1,e0,e1,e3,e4,e5,e6,hsl,kb,kb0,kb1,hgb,hxo,hn2,hI,kr,hyp,hot,hap,pas,zB,V.boo_c,kR,kZ,Option.getD_some,Pa.enc,zl,Pa.eta',zd,zb,za,go_sem,reduceCtorEq,reduceIte,Nat.reduceEqDiff,Nat.reduceAdd,Nat.reduceSub,Nat.reduceMul,Nat.reduceLT,Nat.reduceLeDiff,Nat.reduceBEq,Int.reduceEq,Int.reduceLT,Int.reduceLE,Int.reduceAdd,Int.reduceSub,Int.reduceNeg,Int.reduceToNat]
        simp only[if_pos]at hm
        refine⟨by omega,⟨by omega,by omega,by omega⟩,by omega,by omega,⟨L.length+1,L.length+1,out++ [⟨x.t.text,0,y::ys⟩],_,_⟩,⟨by dsimp only;omega,by simp;omega,by dsimp only;omega,fun hh=>by dsimp only at hh;omega,fun _=>hm⟩,by dsimp only;omega,⟨⟨rfl,by simp⟩,by dsimp only;omega,by dsimp only;omega⟩,⟨rfl,rfl⟩,rfl⟩
    ·have k1:(i:Int)<(L.length:Int):=by omega
     have hgi:=zY L i [vi 0,vs ⟨#[]⟩,vi 0,zz] hs
     have hck:((L.getD i default).t.kind=16)=True:=eq_true (by simpa[j5]using hc)
     generalize L.getD i default=z at*
     rcases hcur with hcur|⟨x,r,hcur,hbi,hx,hr⟩
     ·have hbi:b=i:=by
       have:=congrArg List.length hcur
       simp at this;omega
      subst hbi
      rw[hcur]at hm
      simp only[jZ]at hm
      subst hm
      simp only[k1,hgi,hck,e0,e1,Pa.enc,stR,zd,zb,za,go_sem,reduceCtorEq,reduceIte,Nat.reduceEqDiff,Nat.reduceAdd,Nat.reduceSub,Nat.reduceMul,Nat.reduceLT,Nat.reduceLeDiff,Nat.reduceBEq,Int.reduceEq,Int.reduceLT,Int.reduceLE,Int.reduceAdd,Int.reduceSub,Int.reduceNeg,Int.reduceToNat]
     ·rw[hcur]at hm
      have kb:(((i:Nat):Int)=(b:Int))=False:=eq_false (by omega)
      have kb0:(0:Int)≤(b:Int):=by omega
      have kb1:(b:Int)<(L.length:Int):=by omega
      have hgb:=zY L b [vi 0,vs ⟨#[]⟩,vi 0,zz] (by omega)
      rw[hx]at hgb
      have hmx:x∈L:=by rw[←hx,List.getD_eq_getElem?_getD,List.getElem?_eq_getElem (by omega)];exact List.getElem_mem _
      have hxo:=(hP.2 x hmx).1
      have e3:((b:Int)+1).toNat=b+1:=by omega
      have e4:(0:Int)≤(b:Int)+1:=by omega
      have e5:(b:Int)+1≤((i:Nat):Int):=by omega
      have e6:((i:Nat):Int)≤(L.length:Int):=by omega
      have hsl:List.take (i - (b+1)) (List.drop (b+1) (L.map Pa.enc))=r.map Pa.enc:=by
       rw[hr,List.map_drop,List.map_take,List.drop_take]
      have kr:YT r:=by
       rw[hr]
       exact⟨by simp;omega,fun p hp=>hP.2 p (List.mem_of_mem_take (List.mem_of_mem_drop hp))⟩
      cases hn2:zI x with
      |false=>
       rw[ZR hn2]at hm
       simp only at hm
       subst hm
       simp only[k1,hgi,hck,e0,e1,kb,kb0,kb1,hgb,hxo,hn2,Pa.enc,zl,Pa.eta',stR,zd,zb,za,go_sem,reduceCtorEq,reduceIte,Nat.reduceEqDiff,Nat.reduceAdd,Nat.reduceSub,Nat.reduceMul,Nat.reduceLT,Nat.reduceLeDiff,Nat.reduceBEq,Int.reduceEq,Int.reduceLT,Int.reduceLE,Int.reduceAdd,Int.reduceSub,Int.reduceNeg,Int.reduceToNat]
      |true=>
       match hI:itL true r with
       |none=>
        rw[qc (.inl hI)]at hm
        simp only at hm
        subst hm
        simp only[k1,hgi,hck,e0,e1,e3,e4,e5,e6,hsl,kb,kb0,kb1,hgb,hxo,hn2,hI,kr,pas,zB,V.boo_c,kR,kZ,Option.getD_none,Option.getD_some,List.length_nil,List.map_nil,Int.lt_irrefl,Pa.enc,zl,Pa.eta',stR,zd,zb,za,go_sem,reduceCtorEq,reduceIte,Nat.reduceEqDiff,Nat.reduceAdd,Nat.reduceSub,Nat.reduceMul,Nat.reduceLT,Nat.reduceLeDiff,Nat.reduceBEq,Int.reduceEq,Int.reduceLT,Int.reduceLE,Int.reduceAdd,Int.reduceSub,Int.reduceNeg,Int.reduceToNat]
        try omega
       |some []=>
        rw[qc (.inr hI)]at hm
        simp only at hm
        subst hm
        simp only[k1,hgi,hck,e0,e1,e3,e4,e5,e6,hsl,kb,kb0,kb1,hgb,hxo,hn2,hI,kr,pas,zB,V.boo_c,kR,kZ,Option.getD_none,Option.getD_some,List.length_nil,List.map_nil,Int.lt_irrefl,Pa.enc,zl,Pa.eta',stR,zd,zb,za,go_sem,reduceCtorEq,reduceIte,Nat.reduceEqDiff,Nat.reduceAdd,Nat.reduceSub,Nat.reduceMul,Nat.reduceLT,Nat.reduceLeDiff,Nat.reduceBEq,Int.reduceEq,Int.reduceLT,Int.reduceLE,Int.reduceAdd,Int.reduceSub,Int.reduceNeg,Int.reduceToNat]
        try omega
       |some (y::ys)=>
        rw[kC hn2 hI]at hm
        have hap:List.map Stp.enc out++ [[vs x.t.text,vi 0,.slc 5 (y.enc::List.map Itm.enc ys)]]=List.map Stp.enc (out++ [(⟨x.t.text,0,y::ys⟩:Stp)]):=by simp[Stp.enc]
        have hyp:(0:Int)<((ys.length+1:Nat):Int):=by omega
        simp only[k1,hgi,hck,e0,e1,e3,e4,e5,e6,hsl,kb,kb0,kb1,hgb,hxo,hn2,hI,kr,hyp,hot,hap,pas,zB,V.boo_c,kR,kZ,Option.getD_some,Pa.enc,zl,Pa.eta',zd,zb,za,go_sem,reduceCtorEq,reduceIte,Nat.reduceEqDiff,Nat.reduceAdd,Nat.reduceSub,Nat.reduceMul,Nat.reduceLT,Nat.reduceLeDiff,Nat.reduceBEq,Int.reduceEq,Int.reduceLT,Int.reduceLE,Int.reduceAdd,Int.reduceSub,Int.reduceNeg,Int.reduceToNat]
        simp only[if_neg (show ¬i=L.length by omega)]at hm
        refine⟨by omega,⟨by omega,by omega,by omega⟩,by omega,by omega,⟨i+1,i+1,out++ [⟨x.t.text,0,y::ys⟩],_,_⟩,⟨by dsimp only;omega,by simp;omega,by dsimp only;omega,fun _=> ?_,fun hh=>by dsimp only at hh;omega⟩,by dsimp only;omega,⟨⟨rfl,by simp⟩,by dsimp only;omega,by dsimp only;omega⟩,⟨rfl,rfl⟩,rfl⟩
        dsimp only
        rw[←hm,List.drop_eq_nil_of_le (by rw[List.length_take];omega)]
        cases kg [] (L.drop (i+1))<;>simp
   ·have hs:i<L.length:=Decidable.byContradiction fun hh=>hsep (.inl (by omega))
    have hc:j5 (L.getD i default)=false:=by
     cases hh:j5 (L.getD i default)with
     |false=>rfl
     |true=>exact absurd (.inr ⟨hs,hh⟩) hsep
    have k1:(i:Int)<(L.length:Int):=by omega
    have hgi:=zY L i [vi 0,vs ⟨#[]⟩,vi 0,zz] hs
    have hck:((L.getD i default).t.kind=16)=False:=eq_false (by simpa[j5]using hc)
    have hsn:=QZ L b i i3 hs
    rw[qy L i hs,kg,if_neg (by rw[hc];simp),←hsn]at i6
    generalize L.getD i default=z at*
    simp only[k1,hgi,hck,e0,e1,Pa.enc,zd,zb,za,go_sem,reduceCtorEq,reduceIte,Nat.reduceEqDiff,Nat.reduceAdd,Nat.reduceSub,Nat.reduceMul,Nat.reduceLT,Nat.reduceLeDiff,Nat.reduceBEq,Int.reduceEq,Int.reduceLT,Int.reduceLE,Int.reduceAdd,Int.reduceSub,Int.reduceNeg,Int.reduceToNat]
    exact⟨by omega,⟨b,i+1,out,ver,clk⟩,⟨by dsimp only;omega,by dsimp only;omega,by dsimp only;omega,fun _=>i6,fun hh=>by dsimp only at hh;omega⟩,by dsimp only;omega,⟨⟨rfl,rfl⟩,rfl,by dsimp only;omega⟩,⟨rfl,rfl⟩,rfl⟩
def Xz:Sum Tryz.prog:=⟨23,fun args=>args= [zh (zg (args.getD 0 .any))]∧okT (zg (args.getD 0 .any)),fun args=>zdU (stO (zg (args.getD 0 .any))),fun args h=>by
 have:=zgz (zg (args.getD 0 .any)) h.2;rwa [←h.1]at this,false⟩
theorem zo1:Xz.f=23:=rfl
theorem zo0(args:List V):Xz.D args=(args= [zh (zg (args.getD 0 .any))]∧okT (zg (args.getD 0 .any))):=rfl
theorem zeG:Xz.flat=false:=rfl
theorem zo2(args:List V):Xz.r args=zdU (stO (zg (args.getD 0 .any))):=rfl
attribute [go_sem] zo1 zo0 zeG zo2
end Go.Proofs.YtjcmoedalneldaaGreat
section
section
namespace Go.Proofs.YtjcmoedalneldaaGreat
open Go.Sx
set_option linter.unusedSimpArgs false
set_option linter.unusedVariables false
set_option maxHeartbeats 4000000
set_option maxRecDepth 100000
theorem zqD(l:List Tok):ym l=false↔∀j,j≤l.length→(opn l j).length≤64:=by
 unfold ym
 rw[decide_eq_false_iff_not]
 constructor
 ·intro h j hj
  cases j with
  |zero=>simp[opn]
  |succ j=>exact Decidable.byContradiction fun hn=>h ⟨j,by omega,by omega⟩
 ·rintro h ⟨i,h1,h2⟩
  have:=h (i+1) (by omega)
  omega
structure Bal (a:List Tok):Prop where
 d:ym a=false
 o:opn a a.length= []
theorem zif{a:List Tok}(h:a.length≤64):ym a=false:=by
 rw[zqD];intro j hj;have:=zaj a j;omega
end Go.Proofs.YtjcmoedalneldaaGreat
end
section
namespace Go.Proofs.YtjcmoedalneldaaGreat
open Go.Sx
set_option linter.unusedSimpArgs false
set_option linter.unusedVariables false
set_option maxHeartbeats 4000000
set_option maxRecDepth 100000
end Go.Proofs.YtjcmoedalneldaaGreat
end
section
namespace Go.Proofs.YtjcmoedalneldaaGreat
open Go.Sx
set_option linter.unusedSimpArgs false
set_option linter.unusedVariables false
set_option maxHeartbeats 4000000
set_option maxRecDepth 100000
end Go.Proofs.YtjcmoedalneldaaGreat
end
section
namespace Go.Proofs.YtjcmoedalneldaaGreat
open Go.Sx
set_option linter.unusedSimpArgs false
set_option linter.unusedVariables false
set_option maxHeartbeats 4000000
set_option maxRecDepth 100000
end Go.Proofs.YtjcmoedalneldaaGreat
end
end
namespace Go.Proofs.YtjcmoedalneldaaGreat
open Go.Sx
set_option linter.unusedSimpArgs false
set_option linter.unusedVariables false
set_option maxHeartbeats 8000000
set_option maxRecDepth 100000
theorem zra(v:List Tok)(k:Nat):zf Tryz.prog 136 [zh v,vi k] (vi (knd v k)):=by
 refine zf.of (Orc.nil _) zvL (by simp[zvK]) fun w0 own0=> ?_
 by_cases h:k<v.length
 ·have e2:(k:Int)<(v.length:Int):=by omega
  have e0:(0:Int)≤(k:Int):=by omega
  have hg:=yf v k
  simp only[zvK,knd,zh,h,e0,e2,hg,Tok.enc,if_true,go_sem,zc,seval,reduceIte,reduceCtorEq]
 ·have e2:=eq_false (show ¬(k:Int)<(v.length:Int)by omega)
  simp only[zvK,knd,zh,h,e2,Tok.enc,if_false,go_sem,zc,seval,reduceIte,reduceCtorEq]
theorem zl3(v:List Tok)(k:Int)(h:0≤k):zf Tryz.prog 136 [zh v,vi k] (vi (knd v k.toNat)):=by
 have:=zra v k.toNat;rwa [Int.toNat_of_nonneg h]at this
def j8:Sum Tryz.prog:=⟨136,fun args=>args= [zh (zg (args.getD 0 .any)),vi ((args.getD 1 .any).int)]∧0≤((args.getD 1 .any).int),fun args=>vi (knd (zg (args.getD 0 .any)) (((args.getD 1 .any).int)).toNat),fun args h=>by
 have:=zl3 (zg (args.getD 0 .any)) ((args.getD 1 .any).int) h.2;rwa [←h.1]at this,true⟩
theorem zn6:j8.f=136:=rfl
theorem zn5(args:List V):j8.D args=(args= [zh (zg (args.getD 0 .any)),vi ((args.getD 1 .any).int)]∧0≤((args.getD 1 .any).int)):=rfl
theorem zen:j8.flat=true:=rfl
theorem zn7(args:List V):j8.r args=vi (knd (zg (args.getD 0 .any)) (((args.getD 1 .any).int)).toNat):=rfl
attribute [go_sem] zn6 zn5 zen zn7
theorem zlJ(v:List Tok)(k:Nat)(w:ByteArray):zf Tryz.prog 137 [zh v,vi k,vs w] (vb (dlm v k w)):=by
 refine zf.of (Orc.cons j8 (Orc.nil _)) zvN (by simp[zvM]) fun w0 own0=> ?_
 have e0:(0:Int)≤(k:Int):=by omega
 by_cases h:knd v k=11
 ·obtain⟨h1,h2⟩:=yu h (by decide)
  have e2:(k:Int)<(v.length:Int):=by omega
  have hg:=yf v k
  have e:dlm v k w=decide ((v.getD k .zero).text=w):=by
   unfold dlm
   rw[decide_eq_decide]
   exact⟨fun hh=>hh.2.2,fun hh=>⟨h1,h2,hh⟩⟩
  have h:=eq_true h
  simp only[zvM,zh,ze,e,e0,e2,hg,h,Tok.enc,Int.toNat_natCast,go_sem,zc,seval,reduceIte,reduceCtorEq]
 ·have e:dlm v k w=false:=decide_eq_false fun hh=>h (by unfold knd;rw[if_pos hh.1];exact hh.2.1)
  have h:=eq_false h
  simp only[zvM,zh,ze,e,e0,h,Tok.enc,Int.toNat_natCast,go_sem,zc,seval,reduceIte,reduceCtorEq]
theorem zig(v:List Tok)(k:Int)(w:ByteArray)(h:0≤k):zf Tryz.prog 137 [zh v,vi k,vs w] (vb (dlm v k.toNat w)):=by
 have:=zlJ v k.toNat w;rwa [Int.toNat_of_nonneg h]at this
def ZW:Sum Tryz.prog:=⟨137,fun args=>args= [zh (zg (args.getD 0 .any)),vi ((args.getD 1 .any).int),vs ((args.getD 2 .any).str)]∧0≤((args.getD 1 .any).int),fun args=>vb (dlm (zg (args.getD 0 .any)) (((args.getD 1 .any).int)).toNat ((args.getD 2 .any).str)),fun args h=>by
 have:=zig (zg (args.getD 0 .any)) ((args.getD 1 .any).int) ((args.getD 2 .any).str) h.2;rwa [←h.1]at this,true⟩
theorem znF:ZW.f=137:=rfl
theorem znE(args:List V):ZW.D args=(args= [zh (zg (args.getD 0 .any)),vi ((args.getD 1 .any).int),vs ((args.getD 2 .any).str)]∧0≤((args.getD 1 .any).int)):=rfl
theorem zee:ZW.flat=true:=rfl
theorem znG(args:List V):ZW.r args=vb (dlm (zg (args.getD 0 .any)) (((args.getD 1 .any).int)).toNat ((args.getD 2 .any).str)):=rfl
attribute [go_sem] znF znE zee znG
def zS:Smp:=⟨0,⟨#[]⟩,⟨#[]⟩⟩
def inF(v:List Tok):Nat→Nat→List Tok→List Tok×Nat
 |0,k,L=>(L,k)
 |f+1,k,L=>if knd v k≠0∧¬(knd v k=13∧txt v k=⟨#[93]⟩)∧L.length<4 then inF v f (k+1) (if knd v k=1 then L else L++ [v.getD k .zero])else(L,k)
def zcj(v:List Tok)(k:Nat)(r:List Tok×Nat):Smp×Nat:=
 if knd v r.2=13 then match Qg r.1 with|some s=>(s,r.2+1 - k)|none=>(zS,0)else(zS,0)
def Qk(v:List Tok)(k:Nat):Smp×Nat:=
 if dlm v k ⟨#[42]⟩=true then(⟨1,⟨#[]⟩,⟨#[]⟩⟩,1)
 else if knd v k=2 then(⟨2,txt v k,⟨#[]⟩⟩,1)
 else if knd v k=5 then(⟨3,txt v k,⟨#[]⟩⟩,1)
 else if dlm v k ⟨#[46]⟩=true∧knd v (k+1)=2 then(⟨4,txt v (k+1),⟨#[]⟩⟩,2)
 else if knd v k=12∧txt v k=⟨#[91]⟩then zcj v k (inF v v.length (k+1) [])
 else(zS,0)
def kf(r:Smp×Nat):V:=.tup [.agg r.1.enc,vi r.2]
structure InS8 where
 k:Nat
 L:List Tok
 f:Nat
 ver:Nat
 clk:Nat
theorem ziX(v:List Tok)(hl:v.length≤1000000)(k:Nat)(hk:k≤v.length):zf Tryz.prog 135 [zh v,vi k] (kf (Qk v k)):=by
 refine zf.of (Orc.cons j8 (Orc.cons ZW (Orc.nil _))) zvJ (by simp[jr]) fun w0 own0=> ?_
 have e0:(0:Int)≤(k:Int):=by omega
 have e0':(0:Int)≤(k:Int)+1:=by omega
 have t1:((k:Int)+1).toNat=k+1:=by omega
 have o1:=eq_true (show(k:Int)+1≤9223372036854775807 by omega)
 have o2:=eq_true (show -9223372036854775808≤(k:Int)+1 by omega)
 unfold Qk
 by_cases h1:dlm v k ⟨#[42]⟩=true
 ·rw[if_pos h1]
  simp -implicitDefEqProofs only[jr,kf,zh,ze,e0,h1,Int.toNat_natCast,Smp.enc,zm,zd,zb,za,go_sem,seval,reduceIte,reduceCtorEq]
 have h1:dlm v k ⟨#[42]⟩=false:=by simpa using h1
 rw[if_neg (by rw[h1];simp)]
 by_cases h2:knd v k=2
 ·rw[if_pos h2]
  have hkl:=(yu h2 (by decide)).1
  have e2:(k:Int)<(v.length:Int):=by omega
  have hg:=yf v k
  have h2:=eq_true h2
  simp -implicitDefEqProofs only[jr,kf,zh,txt,ze,e0,e2,h1,h2,hg,Int.toNat_natCast,Smp.enc,Tok.enc,zm,zd,zb,za,go_sem,seval,reduceIte,reduceCtorEq]
 rw[if_neg h2]
 by_cases h3:knd v k=5
 ·rw[if_pos h3]
  have hkl:=(yu h3 (by decide)).1
  have e2:(k:Int)<(v.length:Int):=by omega
  have hg:=yf v k
  have h2:=eq_false h2;have h3:=eq_true h3
  simp -implicitDefEqProofs only[jr,kf,zh,txt,ze,e0,e2,h1,h2,h3,hg,Int.toNat_natCast,Smp.enc,Tok.enc,zm,zd,zb,za,go_sem,seval,reduceIte,reduceCtorEq]
 rw[if_neg h3]
 have h2':=eq_false h2;have h3':=eq_false h3
 by_cases h4:dlm v k ⟨#[46]⟩=true∧knd v (k+1)=2
 ·rw[if_pos h4]
  obtain⟨h4,h5⟩:=h4
  have hkl:=(yu h5 (by decide)).1
  have e2:(k:Int)+1<(v.length:Int):=by omega
  have hg:=yf v (k+1)
  have h5:=eq_true h5
  simp -implicitDefEqProofs only[jr,kf,zh,txt,ze,e0,e0',e2,t1,o1,o2,h1,h2',h3',h4,h5,hg,Int.toNat_natCast,Smp.enc,Tok.enc,zm,zd,zb,za,go_sem,seval,reduceIte,reduceCtorEq]
 rw[if_neg h4]
 by_cases h12:knd v k=12∧txt v k=⟨#[91]⟩
 case neg=>
  rw[if_neg h12]
  by_cases hn:knd v k=12
  ·have ht:¬(v.getD k .zero).text=⟨#[91]⟩:=fun hh=>h12 ⟨hn,hh⟩
   obtain⟨hkl,hk12⟩:=yu hn (by decide)
   have h4:dlm v k ⟨#[46]⟩=false:=Jw (by omega)
   have e2:(k:Int)<(v.length:Int):=by omega
   have hg:=yf v k
   have hn:=eq_true hn;have ht:=eq_false ht
   simp -implicitDefEqProofs only[jr,e2,h4,hn,ht,hg,kf,zS,zh,txt,ze,e0,e0',t1,o1,o2,h1,h2',h3',Int.toNat_natCast,Smp.enc,Tok.enc,zm,zd,zb,za,go_sem,seval,reduceIte,reduceCtorEq]
  ·have hn:=eq_false hn
   cases h5:dlm v k ⟨#[46]⟩with
   |true=>
    have h6:=eq_false (fun hh=>h4 ⟨h5,hh⟩)
    simp -implicitDefEqProofs only[jr,h5,h6,hn,kf,zS,zh,txt,ze,e0,e0',t1,o1,o2,h1,h2',h3',Int.toNat_natCast,Smp.enc,Tok.enc,zm,zd,zb,za,go_sem,seval,reduceIte,reduceCtorEq]
   |false=>
    simp -implicitDefEqProofs only[jr,h5,hn,kf,zS,zh,txt,ze,e0,e0',t1,o1,o2,h1,h2',h3',Int.toNat_natCast,Smp.enc,Tok.enc,zm,zd,zb,za,go_sem,seval,reduceIte,reduceCtorEq]
 rw[if_pos h12]
 obtain⟨hn,ht⟩:=h12
 obtain⟨hkl,hk12⟩:=yu hn (by decide)
 have h4:dlm v k ⟨#[46]⟩=false:=Jw (by omega)
 have e2:(k:Int)<(v.length:Int):=by omega
 have hg:=yf v k
 have ht':(v.getD k .zero).text=⟨#[91]⟩:=ht
 have hn:=eq_true hn;have ht':=eq_true ht'
 generalize hR:inF v v.length (k+1) []=R
 simp -implicitDefEqProofs only[jr,zh,txt,ze,e0,e0',e2,t1,o1,o2,h1,h2',h3',h4,hn,ht',hg,Int.toNat_natCast,Smp.enc,Tok.enc,zm,zd,zb,za,go_sem,seval,reduceIte,reduceCtorEq]
 refine zC.lp (α:=InS8) (fun x=>[(0,.slc 3 (v.map Tok.enc)),(1,vi k),(4,.ptr 0 0 0 0),(6,.ref 1 x.ver 0 x.L.length),(7,vi x.k)])
  (fun x=>⟨[⟨0,3,[[vi 0,vs ⟨#[]⟩,vs ⟨#[]⟩]],false,[]⟩,⟨x.ver,3,x.L.map Tok.enc,false,[vi 0,vs ⟨#[]⟩,vi 0]⟩],x.clk⟩)
  (fun x=>k<x.k∧x.k≤v.length∧x.L.length≤4∧v.length+1≤x.f+x.k∧inF v x.f x.k x.L=R) (fun x=>v.length - x.k) ⟨k+1,[],v.length,1,2⟩
  ⟨by dsimp only;omega,by dsimp only;omega,by simp,by dsimp only;omega,hR⟩ (St.nil 6 3 [vi 0,vs ⟨#[]⟩,vi 0] (by simp[zj]) (St.cut ?_ ?_ ?_)) fun x hx=> ?_
 ·simp[zu,zj,zq]
 ·simp[Heap.alloc]
 ·rfl
 clear hR e0 e0' t1 o1 o2 h1 h2 h3 h2' h3' h4 hn ht ht' e2 hg
 obtain⟨j,L,f,ver,clk⟩:=x
 obtain⟨g1,g2,g3,g4,g5⟩:=hx
 simp only at g1 g2 g3 g4 g5
 obtain⟨f,rfl⟩:∃g,f=g+1:=⟨f - 1,by omega⟩
 have f0:(0:Int)≤(j:Int):=by omega
 have hgj:=yf v j
 simp only[inF]at g5
 by_cases c0:knd v j=0
 ·rw[if_neg (fun hh=>hh.1 c0)]at g5
  subst g5
  have hS:zcj v k (L,j)=(zS,0):=if_neg (by show ¬knd v j=13;omega)
  rw[hS]
  have c0:=eq_true c0
  have c13:=eq_false (show ¬knd v j=13 by omega)
  simp -implicitDefEqProofs only[c0,c13,jr,kf,zS,zh,ze,f0,hgj,Int.toNat_natCast,Smp.enc,Tok.enc,zm,List.take_length,zd,zb,za,go_sem,seval,reduceIte,reduceCtorEq]
 have hjl:j<v.length:=by
  unfold knd at c0
  by_cases h:j<v.length
  ·exact h
  ·rw[if_neg h]at c0;exact absurd rfl c0
 have f2:(j:Int)<(v.length:Int):=by omega
 have c0':=eq_false c0
 by_cases c4:L.length<4
 case neg=>
  rw[if_neg (fun hh=>c4 hh.2.2)]at g5
  subst g5
  have hS:zcj v k (L,j)=(zS,0):=by
   unfold zcj
   split
   ·have:Qg L=none:=by
     rcases L with _|⟨_,_|⟨_,_|⟨_,_|⟨_,L⟩⟩⟩⟩<;>first|rfl|(simp at c4)
    rw[this]
   ·rfl
  rw[hS]
  have c4':=eq_false (show ¬(L.length:Int)<4 by omega)
  have l1:=eq_false (show ¬(L.length:Int)=1 by omega)
  have l3:=eq_false (show ¬(L.length:Int)=3 by omega)
  by_cases c13:knd v j=13
  ·have c13:=eq_true c13
   by_cases ct:(v.getD j .zero).text=⟨#[93]⟩
   ·have ct:=eq_true ct
    simp -implicitDefEqProofs only[c0',c13,ct,c4',l1,l3,f2,jr,kf,zS,zh,ze,f0,hgj,Int.toNat_natCast,Smp.enc,Tok.enc,zm,List.take_length,zd,zb,za,go_sem,seval,reduceIte,reduceCtorEq]
   ·have ct:=eq_false ct
    simp -implicitDefEqProofs only[c0',c13,ct,c4',l1,l3,f2,jr,kf,zS,zh,ze,f0,hgj,Int.toNat_natCast,Smp.enc,Tok.enc,zm,List.take_length,zd,zb,za,go_sem,seval,reduceIte,reduceCtorEq]
  ·have c13:=eq_false c13
   simp -implicitDefEqProofs only[c0',c13,c4',l1,l3,f2,jr,kf,zS,zh,ze,f0,hgj,Int.toNat_natCast,Smp.enc,Tok.enc,zm,List.take_length,zd,zb,za,go_sem,seval,reduceIte,reduceCtorEq]
 have c4':=eq_true (show(L.length:Int)<4 by omega)
 by_cases c13:knd v j=13
 ·by_cases ct:(v.getD j .zero).text=⟨#[93]⟩
  ·rw[if_neg (fun hh=>hh.2.1 ⟨c13,ct⟩)]at g5
   subst g5
   have hS:zcj v k (L,j)=match Qg L with|some s=>(s,j+1 - k)|none=>(zS,0):=if_pos c13
   rw[hS]
   clear hS g4
   have c13:=eq_true c13;have ct:=eq_true ct
   have m1:((j:Int)+1) - (k:Int)=((j+1 - k:Nat):Int):=by omega
   have q1:=eq_true (show -9223372036854775808≤(j:Int)+1 by omega)
   have q2:=eq_true (show(j:Int)+1≤9223372036854775807 by omega)
   have q3:=eq_true (show -9223372036854775808≤((j+1 - k:Nat):Int)by omega)
   have q4:=eq_true (show((j+1 - k:Nat):Int)≤9223372036854775807 by omega)
   have hz:Tok.zero.enc= [vi 0,vs ⟨#[]⟩,vi 0]:=rfl
   have hf:∀ {P:Prop}[Decidable P]{x y:Option Smp},¬P→(if P then x else y)=y:=fun h=>if_neg h
   match L,g3,c4 with
   | [],_,_=>
     have hA:Qg []=none:=rfl
     rw[hA]
     simp -implicitDefEqProofs only[c0',c13,ct,f2,List.map_nil,List.map_cons,List.length_cons,List.length_nil,jr,kf,zS,zh,ze,f0,hgj,Int.toNat_natCast,Smp.enc,Tok.enc,zm,List.take_length,zd,zb,za,go_sem,seval,reduceIte,reduceCtorEq]
   | [⟨ak,at',an⟩],_,_=>
     have hA:Qg [⟨ak,at',an⟩]=if ak=2 then some ⟨5,at',⟨#[]⟩⟩else none:=rfl
     rw[hA]
     by_cases h:ak=2
     ·rw[if_pos h];have h:=eq_true h
      simp -implicitDefEqProofs only[c0',c13,ct,f2,h,m1,q1,q2,q3,q4,List.map_nil,List.map_cons,List.length_cons,List.length_nil,jr,kf,zS,zh,ze,f0,hgj,Int.toNat_natCast,Smp.enc,Tok.enc,zm,List.take_length,zd,zb,za,go_sem,seval,reduceIte,reduceCtorEq]
     ·rw[hf h];have h:=eq_false h
      simp -implicitDefEqProofs only[c0',c13,ct,f2,h,List.map_nil,List.map_cons,List.length_cons,List.length_nil,jr,kf,zS,zh,ze,f0,hgj,Int.toNat_natCast,Smp.enc,Tok.enc,zm,List.take_length,zd,zb,za,go_sem,seval,reduceIte,reduceCtorEq]
   | [a,b],_,_=>
     have hA:Qg [a,b]=none:=rfl
     rw[hA]
     simp -implicitDefEqProofs only[c0',c13,ct,f2,List.map_nil,List.map_cons,List.length_cons,List.length_nil,jr,kf,zS,zh,ze,f0,hgj,Int.toNat_natCast,Smp.enc,Tok.enc,zm,List.take_length,zd,zb,za,go_sem,seval,reduceIte,reduceCtorEq]
   | [⟨ak,at',an⟩,⟨bk,bt,bn⟩,⟨ck,ct',cn⟩],_,_=>
     have hd:∀w,dlm [⟨ak,at',an⟩,⟨bk,bt,bn⟩,⟨ck,ct',cn⟩] 1 w=decide (bk=11∧bt=w):=fun w=>by simp[dlm]
     have hdt:zg (.slc 3 [[vi ak,vs at',vi an],[vi bk,vs bt,vi bn],[vi ck,vs ct',vi cn]])= [⟨ak,at',an⟩,⟨bk,bt,bn⟩,⟨ck,ct',cn⟩]:=rfl
     have htk:zh [⟨ak,at',an⟩,⟨bk,bt,bn⟩,⟨ck,ct',cn⟩]= .slc 3 [[vi ak,vs at',vi an],[vi bk,vs bt,vi bn],[vi ck,vs ct',vi cn]]:=rfl
     have hd1:dlm [⟨ak,at',an⟩,⟨bk,bt,bn⟩,⟨ck,ct',cn⟩] 1 ⟨#[61]⟩=decide (bk=11∧bt=⟨#[61]⟩):=hd _
     have hA:Qg [⟨ak,at',an⟩,⟨bk,bt,bn⟩,⟨ck,ct',cn⟩]=if ak=2∧bk=11∧bt=⟨#[61]⟩∧(ck=2∨ck=6)then some ⟨6,at',ct'⟩else none:=rfl
     rw[hA]
     by_cases h:ak=2
     ·cases hb:decide (bk=11∧bt=(⟨#[61]⟩:ByteArray))with
      |false=>
       have hb':=of_decide_eq_false hb
       rw[hb]at hd1
       rw[hf (fun hh=>hb' ⟨hh.2.1,hh.2.2.1⟩)]
       have h:=eq_true h
       simp -implicitDefEqProofs only[c0',c13,ct,f2,h,hdt,htk,hd1,List.map_nil,List.map_cons,List.length_cons,List.length_nil,jr,kf,zS,zh,ze,f0,hgj,Int.toNat_natCast,Smp.enc,Tok.enc,zm,List.take_length,zd,zb,za,go_sem,seval,reduceIte,reduceCtorEq]
      |true=>
       have hb':=of_decide_eq_true hb
       rw[hb]at hd1
       by_cases hc:ck=2
       ·rw[if_pos ⟨h,hb'.1,hb'.2,.inl hc⟩]
        have h:=eq_true h;have hc:=eq_true hc
        simp -implicitDefEqProofs only[c0',c13,ct,f2,h,hc,hdt,htk,hd1,m1,q1,q2,q3,q4,List.map_nil,List.map_cons,List.length_cons,List.length_nil,jr,kf,zS,zh,ze,f0,hgj,Int.toNat_natCast,Smp.enc,Tok.enc,zm,List.take_length,zd,zb,za,go_sem,seval,reduceIte,reduceCtorEq]
       ·by_cases hc6:ck=6
        ·rw[if_pos ⟨h,hb'.1,hb'.2,.inr hc6⟩]
         have h:=eq_true h;have hc:=eq_false hc;have hc6:=eq_true hc6
         simp -implicitDefEqProofs only[c0',c13,ct,f2,h,hc,hc6,hdt,htk,hd1,m1,q1,q2,q3,q4,List.map_nil,List.map_cons,List.length_cons,List.length_nil,jr,kf,zS,zh,ze,f0,hgj,Int.toNat_natCast,Smp.enc,Tok.enc,zm,List.take_length,zd,zb,za,go_sem,seval,reduceIte,reduceCtorEq]
        ·rw[hf (fun hh=>hh.2.2.2.elim hc hc6)]
         have h:=eq_true h;have hc:=eq_false hc;have hc6:=eq_false hc6
         simp -implicitDefEqProofs only[c0',c13,ct,f2,h,hc,hc6,hdt,htk,hd1,List.map_nil,List.map_cons,List.length_cons,List.length_nil,jr,kf,zS,zh,ze,f0,hgj,Int.toNat_natCast,Smp.enc,Tok.enc,zm,List.take_length,zd,zb,za,go_sem,seval,reduceIte,reduceCtorEq]
     ·rw[hf (fun hh=>h hh.1)]
      have h:=eq_false h
      simp -implicitDefEqProofs only[c0',c13,ct,f2,h,hdt,htk,hd1,List.map_nil,List.map_cons,List.length_cons,List.length_nil,jr,kf,zS,zh,ze,f0,hgj,Int.toNat_natCast,Smp.enc,Tok.enc,zm,List.take_length,zd,zb,za,go_sem,seval,reduceIte,reduceCtorEq]
  ·rw[if_pos ⟨c0,fun hh=>ct hh.2,c4⟩,if_neg (by omega)]at g5
   have c1:=eq_false (show ¬knd v j=1 by omega)
   have c13:=eq_true c13;have ct:=eq_false ct
   simp -implicitDefEqProofs only[c0',c13,c1,ct,c4',f2,jr,kf,zS,zh,ze,f0,hgj,Int.toNat_natCast,Smp.enc,Tok.enc,zm,List.take_length,zd,zb,za,go_sem,seval,reduceIte,reduceCtorEq]
   generalize v.getD j .zero=t at*
   exact⟨⟨Nat.le_refl _,by omega,by omega⟩,by omega,⟨j+1,L++ [t],f,_,_⟩,⟨by dsimp only;omega,by dsimp only;omega,by simp;omega,by dsimp only;omega,g5⟩,by dsimp only;omega,⟨⟨rfl,by simp⟩,by dsimp only;omega⟩,⟨rfl,by simp[Tok.enc]⟩,rfl⟩
 ·rw[if_pos ⟨c0,fun hh=>c13 hh.1,c4⟩]at g5
  have c13:=eq_false c13
  by_cases c1:knd v j=1
  ·rw[if_pos c1]at g5
   have c1:=eq_true c1
   simp -implicitDefEqProofs only[c0',c13,c1,c4',f2,jr,kf,zS,zh,ze,f0,hgj,Int.toNat_natCast,Smp.enc,Tok.enc,zm,List.take_length,zd,zb,za,go_sem,seval,reduceIte,reduceCtorEq]
   exact⟨by omega,⟨j+1,L,f,_,_⟩,⟨by dsimp only;omega,by dsimp only;omega,g3,by dsimp only;omega,g5⟩,by dsimp only;omega,⟨⟨rfl,rfl⟩,by dsimp only;omega⟩,⟨rfl,rfl⟩,rfl⟩
  ·rw[if_neg c1]at g5
   have c1:=eq_false c1
   simp -implicitDefEqProofs only[c0',c13,c1,c4',f2,jr,kf,zS,zh,ze,f0,hgj,Int.toNat_natCast,Smp.enc,Tok.enc,zm,List.take_length,zd,zb,za,go_sem,seval,reduceIte,reduceCtorEq]
   generalize v.getD j .zero=t at*
   exact⟨⟨Nat.le_refl _,by omega,by omega⟩,by omega,⟨j+1,L++ [t],f,_,_⟩,⟨by dsimp only;omega,by dsimp only;omega,by simp;omega,by dsimp only;omega,g5⟩,by dsimp only;omega,⟨⟨rfl,by simp⟩,by dsimp only;omega⟩,⟨rfl,by simp[Tok.enc]⟩,rfl⟩
theorem zgr{v:List Tok}{k:Int}(h0:0≤k)(h1:k≤v.length)(hl:v.length≤1000000):zf Tryz.prog 135 [zh v,vi k] (kf (Qk v k.toNat)):=by
 have:=ziX v hl k.toNat (by omega);rwa [Int.toNat_of_nonneg h0]at this
def Y6:Sum Tryz.prog:=⟨135,fun args=>args= [zh (zg (args.getD 0 .any)),vi ((args.getD 1 .any).int)]∧0≤((args.getD 1 .any).int)∧((args.getD 1 .any).int)≤((zg (args.getD 0 .any))).length∧((zg (args.getD 0 .any))).length≤1000000,fun args=>kf (Qk (zg (args.getD 0 .any)) (((args.getD 1 .any).int)).toNat),fun args h=>by
 have:=zgr h.2.1 h.2.2.1 h.2.2.2;rwa [←h.1]at this,false⟩
theorem zoP:Y6.f=135:=rfl
theorem zoO(args:List V):Y6.D args=(args= [zh (zg (args.getD 0 .any)),vi ((args.getD 1 .any).int)]∧0≤((args.getD 1 .any).int)∧((args.getD 1 .any).int)≤((zg (args.getD 0 .any))).length∧((zg (args.getD 0 .any))).length≤1000000):=rfl
theorem zeC:Y6.flat=false:=rfl
theorem zoQ(args:List V):Y6.r args=kf (Qk (zg (args.getD 0 .any)) (((args.getD 1 .any).int)).toNat):=rfl
attribute [go_sem] zoP zoO zeC zoQ
end Go.Proofs.YtjcmoedalneldaaGreat
