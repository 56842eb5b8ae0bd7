/- Part of the proof of layer-11. No condition. -/
import Derived.Test.YtjcmoedalneldaaGreatJ11
namespace Go.Proofs.YtjcmoedalneldaaGreat
open Go.Sx
set_option linter.unusedSimpArgs false
set_option maxHeartbeats 8000000
set_option maxRecDepth 20000
def kn(out:List NS)(n:Int):List NS:=out.set (out.length - 1) ((out.getD (out.length - 1) default).1,n)
def Yd(u:Int):Bool→List Pa→List NS→Option (List NS)
 |_,[],out=>some out
 |prev,p::l,out=>match(if prev=true then jd p.t else none)with
  |some n=>Yd u false l (kn out n)
  |none=>if zJ p=true then Yd u true l (out++ [(p.t.text,u)])else none
theorem zgI(out:List NS)(a:ByteArray)(b n:Int):kn (out++ [(a,b)]) n=out++ [(a,n)]:=by
 unfold kn
 have e:(out++ [(a,b)]).length - 1=out.length:=by simp
 rw[e]
 simp
theorem zds(u:Int):∀(m:Nat)(l:List Pa),l.length≤m→∀out:List NS,Yd u false l out=(zV u l).map (out++ ·)∧∀nm,Yd u true l (out++ [(nm,u)])=match l with
  | []=>some (out++ [(nm,u)])
  |q::l'=>match jd q.t with
   |some n=>(zV u l').map ((out++ [(nm,n)])++ ·)
   |none=>(zV u (q::l')).map ((out++ [(nm,u)])++ ·)
 |0,l,h,out=>by
  have:l= []:=List.length_eq_zero_iff.1 (by omega)
  subst this
  exact⟨by simp[Yd,zV],fun nm=>rfl⟩
 |m+1,[],h,out=>⟨by simp[Yd,zV],fun nm=>rfl⟩
 |m+1,p::l,h,out=>by
  have ih:=fun(out:List NS)=>zds u m l (by simpa using h) out
  have h1:∀out:List NS,Yd u false (p::l) out=(zV u (p::l)).map (out++ ·):=fun out=>by
   simp only[Yd,Bool.false_eq_true,if_false]
   by_cases hn:zJ p=true
   ·rw[if_pos hn,(ih out).2]
    match l with
    | []=>simp[zV,hn]
    |q::l'=>
     simp only[zV,hn,if_true]
     cases jd q.t with
     |none=>simp only;cases zV u (q::l')<;>simp
     |some n=>simp only;cases zV u l'<;>simp
   ·rw[if_neg hn]
    match l with
    | []=>simp[zV,hn]
    |q::l'=>simp[zV,hn]
  refine⟨h1 out,fun nm=> ?_⟩
  cases hc:jd p.t with
  |some n=>
   simp only[Yd,if_true,hc]
   rw[zgI,(ih _).1]
  |none=>
   have:Yd u true (p::l) (out++ [(nm,u)])=Yd u false (p::l) (out++ [(nm,u)]):=by
    simp only[Yd,if_true,hc,Bool.false_eq_true,if_false]
   rw[this,h1]
   simp only[hc]
theorem zli(u:Int)(l:List Pa)(out:List NS):Yd u false l out=(zV u l).map (out++ ·):=(zds u l.length l (Nat.le_refl _) out).1
def Qm(L:List Pa)(k:Nat):Bool:=decide (0<k)&&decide ((L.getD (k - 1) default).t.kind=2)
theorem zk8{p:Pa}(h:zJ p=true):p.t.kind=2:=by
 unfold zJ at h
 simp only[Bool.and_eq_true,decide_eq_true_eq]at h
 exact h.1
theorem zzf(n:Int):max (min n 2147483647) (-2147483648)=min (max n (-2147483648)) 2147483647:=by omega
theorem znc(l:List Tok)(u:Int)(h:okQ l):zg Tryz.prog 22 [zj l,vi u] (spV (spO u l)):=by
 have h1:=h.1.1
 have hm:=Yc h.1
 have hN:=zC2 h.2
 have hlen:=QP l
 unfold spO
 have hfb:=@Xe l
 generalize hL:pl l=L at*
 cases hb:ptB l with
 |false=>
  have hz:=hfb hb
  subst hz
  rw[if_neg (by simp)]
  refine zg.rsub ?_ (qM false)
  refine zg.of (Orc.cons yT (Orc.cons jq (Orc.cons kf (Orc.nil _)))) zdG (by simp[c22]) fun w0 o0=> ?_
  simp only[c22,zj,zf,h1,plV,hL,hb,Yf,Bool.false_eq_true,if_false,zd,zb,za,go_sem,reduceCtorEq,reduceIte,Nat.reduceEqDiff,Nat.reduceAdd,Nat.reduceSub,Nat.reduceMul,Nat.reduceLT,Nat.reduceLeDiff,Nat.reduceBEq,Int.reduceEq,Int.reduceLT,Int.reduceLE,Int.reduceAdd,Int.reduceSub,Int.reduceNeg,Int.reduceToNat]
 |true=>
 rw[if_pos rfl]
 by_cases hz:L= []
 ·rw[if_pos hz]
  subst hz
  refine zg.rsub ?_ (qM false)
  refine zg.of (Orc.cons yT (Orc.cons jq (Orc.cons kf (Orc.nil _)))) zdG (by simp[c22]) fun w0 o0=> ?_
  simp only[c22,zj,zf,h1,plV,hL,hb,Yf,zd,zb,za,go_sem,reduceCtorEq,reduceIte,Nat.reduceEqDiff,Nat.reduceAdd,Nat.reduceSub,Nat.reduceMul,Nat.reduceLT,Nat.reduceLeDiff,Nat.reduceBEq,Int.reduceEq,Int.reduceLT,Int.reduceLE,Int.reduceAdd,Int.reduceSub,Int.reduceNeg,Int.reduceToNat]
 rw[if_neg hz]
 have hz0:L.length≠0:=fun hh=>hz (List.length_eq_zero_iff.1 hh)
 have hz1:((L.length:Int)=0)=False:=eq_false (by omega)
 by_cases hn:isNone L=true
 ·rw[if_pos hn]
  obtain⟨p,rfl⟩:∃p,L= [p]:=by
   unfold isNone at hn
   split at hn
   ·exact⟨_,rfl⟩
   ·cases hn
  have hi:yf p ⟨#[110,111,110,101]⟩=true:=hn
  have hp:=(hm p (by simp)).1
  refine zg.rsub ?_ (qM true)
  refine zg.of (Orc.cons yT (Orc.cons jq (Orc.cons kf (Orc.nil _)))) zdG (by simp[c22]) fun w0 o0=> ?_
  simp only[c22,zj,zf,h1,plV,hL,hb,hi,hp,Yf,Pa.enc,zm,Pa.eta',zd,zb,za,go_sem,reduceCtorEq,reduceIte,Nat.reduceEqDiff,Nat.reduceAdd,Nat.reduceSub,Nat.reduceMul,Nat.reduceLT,Nat.reduceLeDiff,Nat.reduceBEq,Int.reduceEq,Int.reduceLT,Int.reduceLE,Int.reduceAdd,Int.reduceSub,Int.reduceNeg,Int.reduceToNat]
 rw[if_neg hn]
 have hg0:0<L.length:=by omega
 have hx0:=z2 L 0 [vi 0,vs ⟨#[]⟩,vi 0,zA] hg0
 have hp0:=(hm (L.getD 0 default) (by rw[List.getD_eq_getElem?_getD,List.getElem?_eq_getElem hg0];exact List.getElem_mem _)).1
 have hi0:(L.length:Int)=1→yf (L.getD 0 default) ⟨#[110,111,110,101]⟩=false:=fun h1=>by
  obtain⟨p,rfl⟩:=List.length_eq_one_iff.1 (show L.length=1 by omega)
  cases hh:yf p ⟨#[110,111,110,101]⟩with
  |false=>exact hh
  |true=>exact absurd hh (by simpa[isNone,zgl]using hn)
 generalize hR:zV u L=R
 have hLn:L.length≤1000001:=by have:=h.1.1;omega
 generalize L.getD 0 default=p0 at*
 have start:∀Q:Prop,(∀hlt:(L.length:Int)=1∨¬(L.length:Int)=1,Q)→Q:=fun Q f=>f (Decidable.em _)
 refine start _ fun hl1=> ?_
 refine zlo R ?_
 refine zg.of (Orc.cons yT (Orc.cons jq (Orc.cons kf (Orc.nil _)))) zdG (by simp[c22]) fun w0 o0=> ?_
 clear start
 rcases hl1 with hl1|hl1
 ·simp only[c22,zj,zf,h1,plV,hL,hb,hz1,hl1,hi0 hl1,hx0,hp0,Pa.enc,zm,Pa.eta',zd,zb,za,go_sem,reduceCtorEq,reduceIte,Nat.reduceEqDiff,Nat.reduceAdd,Nat.reduceSub,Nat.reduceMul,Nat.reduceLT,Nat.reduceLeDiff,Nat.reduceBEq,Int.reduceEq,Int.reduceLT,Int.reduceLE,Int.reduceAdd,Int.reduceSub,Int.reduceNeg,Int.reduceToNat]
  try (refine⟨by omega,?_⟩)
  refine zD.lp (α:=SpS) (fun a=>[(1,vi u),(6,.slc 4 (L.map Pa.enc)),(8,.ref 0 a.ver 0 a.out.length),(9,vi a.k)])
   (fun a=>⟨[⟨a.ver,3,a.out.map xE,false,[vs ⟨#[]⟩,vi 0,zA]⟩],a.clk⟩) (fun a=>a.k≤L.length∧a.out.length≤a.k∧Yd u (Qm L a.k) (L.drop a.k) a.out=R∧(0<a.k→0<a.out.length)) (fun a=>L.length - a.k) ⟨0,[],0,1⟩
   ⟨Nat.zero_le _,Nat.zero_le _,by rw[←hR];exact(zli u L []).trans (by cases zV u L<;>rfl),fun hh=>absurd hh (Nat.lt_irrefl 0)⟩ (St.nil 8 3 [vs ⟨#[]⟩,vi 0,zA] (by simp[zk]) (St.cut ?_ ?_ ?_)) fun a ha=> ?_
  ·simp[zu,zk,zt]
  ·simp[Heap.alloc]
  ·rfl
  obtain⟨k,out,ver,clk⟩:=a
  obtain⟨h2,h3,h4,h5⟩:=ha
  simp only at h2 h3 h4 h5
  by_cases hk:k=L.length
  ·subst hk
   have hop:((0:Int)<(out.length:Int))=True:=eq_true (by have:=h5 (by omega);omega)
   rw[List.drop_length]at h4
   simp only[Yd]at h4
   subst h4
   simp only[Int.lt_irrefl,hop,Yf,List.take_length,yZ,Kr,Kq,Nat.le_refl,zd,zb,za,go_sem,reduceCtorEq,reduceIte,Nat.reduceEqDiff,Nat.reduceAdd,Nat.reduceSub,Nat.reduceMul,Nat.reduceLT,Nat.reduceLeDiff,Nat.reduceBEq,Int.reduceEq,Int.reduceLT,Int.reduceLE,Int.reduceAdd,Int.reduceSub,Int.reduceNeg,Int.reduceToNat]
  ·have e1:(k:Int)<(L.length:Int):=by omega
   have e0:(0:Int)≤(k:Int):=by omega
   have hlt:k<L.length:=by omega
   have hg:=z2 L k [vi 0,vs ⟨#[]⟩,vi 0,zA] hlt
   have hx:=(hm (L.getD k default) (by rw[List.getD_eq_getElem?_getD,List.getElem?_eq_getElem hlt];exact List.getElem_mem _)).1
   have hxn:=hN (L.getD k default) (by rw[List.getD_eq_getElem?_getD,List.getElem?_eq_getElem hlt];exact List.getElem_mem _)
   have hot:out.take out.length=out:=List.take_length
   rw[qF L k hlt]at h4
   have hprev:Qm L (k+1)=decide ((L.getD k default).t.kind=2):=by simp[Qm]
   have hpv:Qm L k=(decide (0<k)&&decide ((L.getD (k - 1) default).t.kind=2)):=rfl
   have e3:((k:Int) - 1).toNat=k - 1:=by omega
   have hg1:=z2 L (k - 1) [vi 0,vs ⟨#[]⟩,vi 0,zA] (by omega)
   generalize L.getD (k - 1) default=y at*
   generalize L.getD k default=x at*
   simp only[Yd]at h4
   have notA:∀f1:(if Qm L k=true then jd x.t else none)=none,(if zJ x=true then Yd u true (L.drop (k+1)) (out++ [(x.t.text,u)])else none)=R:=fun f1=>by rw[f1]at h4;exact h4
   by_cases c8:x.t.kind=8
   ·have c8t:=eq_true c8
    have hn3:zJ x=false:=by unfold zJ;rw[decide_eq_false (by rw[c8];decide),Bool.false_and]
    have notC:∀f1:(if Qm L k=true then jd x.t else none)=none,none=R:=fun f1=>by have:=notA f1;rwa [hn3,if_neg (by simp)]at this
    by_cases cm:x.t.n.tmod 1000=0
    ·have cmt:=eq_true cm
     by_cases ck:0<k
     ·have ckt:((0:Int)<(k:Int))=True:=eq_true (by omega)
      have e6:(0:Int)≤(k:Int) - 1:=by omega
      have e7:(k:Int) - 1<(L.length:Int):=by omega
      by_cases cp:y.t.kind=2
      ·have cpt:=eq_true cp
       have hc:jd x.t=some (min (max (x.t.n.tdiv 1000) (-2147483648)) 2147483647):=by unfold jd;rw[if_pos ⟨c8,cm⟩]
       rw[hpv,decide_eq_true ck,decide_eq_true cp,Bool.true_and,if_pos rfl,hc]at h4
       simp only at h4
       have h50:=h5 ck
       have e5:((out.length:Int) - 1).toNat=out.length - 1:=by omega
       have e8:(0:Int)≤(out.length:Int) - 1:=by omega
       have e9:(out.length:Int) - 1<(out.length:Int):=by omega
       have hr:=zcp hxn
       have hgo:(out.map xE).getD (out.length - 1) [vs ⟨#[]⟩,vi 0,zA]=xE (out.getD (out.length - 1) default):=by
        simp[List.getD_eq_getElem?_getD,show out.length - 1<out.length by omega]
       simp only[e0,e1,e3,e5,e6,e7,e8,e9,hg,hg1,hgo,hx,c8t,cmt,ckt,cpt,zzf,xE,Pa.enc,zm,Pa.eta',zd,zb,za,go_sem,reduceCtorEq,reduceIte,Nat.reduceEqDiff,Nat.reduceAdd,Nat.reduceSub,Nat.reduceMul,Nat.reduceLT,Nat.reduceLeDiff,Nat.reduceBEq,Int.reduceEq,Int.reduceLT,Int.reduceLE,Int.reduceAdd,Int.reduceSub,Int.reduceNeg,Int.reduceToNat]
       refine⟨by omega,by omega,by omega,⟨hr,by omega⟩,by omega,by omega,⟨k+1,kn out (min (max (x.t.n.tdiv 1000) (-2147483648)) 2147483647),ver,clk+1⟩,⟨by dsimp only;omega,by simp[kn];omega,?_,fun _=>by simp[kn];omega⟩,by dsimp only;omega,⟨⟨rfl,by simp[kn]⟩,by dsimp only;omega⟩,⟨rfl,?_⟩,rfl⟩
       ·dsimp only;rw[hprev,decide_eq_false (by rw[c8];decide)];exact h4
       ·simp[kn,List.map_set,xE]
      ·have cpt:=eq_false cp
       have:=notC (by rw[hpv,decide_eq_false cp,Bool.and_false,if_neg (by simp)])
       subst this
       simp only[e0,e1,e3,e6,e7,hg,hg1,hx,hn3,c8t,cmt,ckt,cpt,Yf,Pa.enc,zm,Pa.eta',zd,zb,za,go_sem,reduceCtorEq,reduceIte,Nat.reduceEqDiff,Nat.reduceAdd,Nat.reduceSub,Nat.reduceMul,Nat.reduceLT,Nat.reduceLeDiff,Nat.reduceBEq,Int.reduceEq,Int.reduceLT,Int.reduceLE,Int.reduceAdd,Int.reduceSub,Int.reduceNeg,Int.reduceToNat]
       omega
     ·have ckt:((0:Int)<(k:Int))=False:=eq_false (by omega)
      have:=notC (by rw[hpv,decide_eq_false ck,Bool.false_and,if_neg (by simp)])
      subst this
      simp only[e0,e1,e3,hg,hx,hn3,c8t,cmt,ckt,Yf,Pa.enc,zm,Pa.eta',zd,zb,za,go_sem,reduceCtorEq,reduceIte,Nat.reduceEqDiff,Nat.reduceAdd,Nat.reduceSub,Nat.reduceMul,Nat.reduceLT,Nat.reduceLeDiff,Nat.reduceBEq,Int.reduceEq,Int.reduceLT,Int.reduceLE,Int.reduceAdd,Int.reduceSub,Int.reduceNeg,Int.reduceToNat]
      omega
    ·have cmt:=eq_false cm
     have:=notC (by have:jd x.t=none:=(by unfold jd;rw[if_neg (fun hh=>cm hh.2)]);rw[this];split<;>rfl)
     subst this
     simp only[e0,e1,e3,hg,hx,hn3,c8t,cmt,Yf,Pa.enc,zm,Pa.eta',zd,zb,za,go_sem,reduceCtorEq,reduceIte,Nat.reduceEqDiff,Nat.reduceAdd,Nat.reduceSub,Nat.reduceMul,Nat.reduceLT,Nat.reduceLeDiff,Nat.reduceBEq,Int.reduceEq,Int.reduceLT,Int.reduceLE,Int.reduceAdd,Int.reduceSub,Int.reduceNeg,Int.reduceToNat]
     omega
   ·have c8t:=eq_false c8
    have h6:=notA (by have:jd x.t=none:=(by unfold jd;rw[if_neg (fun hh=>c8 hh.1)]);rw[this];split<;>rfl)
    cases hn3:zJ x with
    |true=>
     rw[hn3,if_pos rfl]at h6
     simp only[e0,e1,e3,hg,hx,hn3,hot,c8t,xE,Pa.enc,zm,Pa.eta',zd,zb,za,go_sem,reduceCtorEq,reduceIte,Nat.reduceEqDiff,Nat.reduceAdd,Nat.reduceSub,Nat.reduceMul,Nat.reduceLT,Nat.reduceLeDiff,Nat.reduceBEq,Int.reduceEq,Int.reduceLT,Int.reduceLE,Int.reduceAdd,Int.reduceSub,Int.reduceNeg,Int.reduceToNat]
     refine⟨⟨by omega,by omega,by omega⟩,by omega,⟨k+1,out++ [(x.t.text,u)],_,_⟩,⟨by dsimp only;omega,by simp;omega,?_,by simp⟩,by dsimp only;omega,⟨⟨rfl,by simp⟩,by dsimp only;omega⟩,⟨rfl,by simp[xE]⟩,rfl⟩
     dsimp only
     rw[hprev,decide_eq_true (zk8 hn3)];exact h6
    |false=>
     rw[hn3,if_neg (by simp)]at h6
     subst h6
     simp only[e0,e1,e3,hg,hx,hn3,c8t,Yf,Pa.enc,zm,Pa.eta',zd,zb,za,go_sem,reduceCtorEq,reduceIte,Nat.reduceEqDiff,Nat.reduceAdd,Nat.reduceSub,Nat.reduceMul,Nat.reduceLT,Nat.reduceLeDiff,Nat.reduceBEq,Int.reduceEq,Int.reduceLT,Int.reduceLE,Int.reduceAdd,Int.reduceSub,Int.reduceNeg,Int.reduceToNat]
 ·simp only[c22,zj,zf,h1,plV,hL,hb,hz1,hl1,Pa.enc,zm,Pa.eta',zd,zb,za,go_sem,reduceCtorEq,reduceIte,Nat.reduceEqDiff,Nat.reduceAdd,Nat.reduceSub,Nat.reduceMul,Nat.reduceLT,Nat.reduceLeDiff,Nat.reduceBEq,Int.reduceEq,Int.reduceLT,Int.reduceLE,Int.reduceAdd,Int.reduceSub,Int.reduceNeg,Int.reduceToNat]
  refine zD.lp (α:=SpS) (fun a=>[(1,vi u),(6,.slc 4 (L.map Pa.enc)),(8,.ref 0 a.ver 0 a.out.length),(9,vi a.k)])
   (fun a=>⟨[⟨a.ver,3,a.out.map xE,false,[vs ⟨#[]⟩,vi 0,zA]⟩],a.clk⟩) (fun a=>a.k≤L.length∧a.out.length≤a.k∧Yd u (Qm L a.k) (L.drop a.k) a.out=R∧(0<a.k→0<a.out.length)) (fun a=>L.length - a.k) ⟨0,[],0,1⟩
   ⟨Nat.zero_le _,Nat.zero_le _,by rw[←hR];exact(zli u L []).trans (by cases zV u L<;>rfl),fun hh=>absurd hh (Nat.lt_irrefl 0)⟩ (St.nil 8 3 [vs ⟨#[]⟩,vi 0,zA] (by simp[zk]) (St.cut ?_ ?_ ?_)) fun a ha=> ?_
  ·simp[zu,zk,zt]
  ·simp[Heap.alloc]
  ·rfl
  obtain⟨k,out,ver,clk⟩:=a
  obtain⟨h2,h3,h4,h5⟩:=ha
  simp only at h2 h3 h4 h5
  by_cases hk:k=L.length
  ·subst hk
   have hop:((0:Int)<(out.length:Int))=True:=eq_true (by have:=h5 (by omega);omega)
   rw[List.drop_length]at h4
   simp only[Yd]at h4
   subst h4
   simp only[Int.lt_irrefl,hop,Yf,List.take_length,yZ,Kr,Kq,Nat.le_refl,zd,zb,za,go_sem,reduceCtorEq,reduceIte,Nat.reduceEqDiff,Nat.reduceAdd,Nat.reduceSub,Nat.reduceMul,Nat.reduceLT,Nat.reduceLeDiff,Nat.reduceBEq,Int.reduceEq,Int.reduceLT,Int.reduceLE,Int.reduceAdd,Int.reduceSub,Int.reduceNeg,Int.reduceToNat]
  ·have e1:(k:Int)<(L.length:Int):=by omega
   have e0:(0:Int)≤(k:Int):=by omega
   have hlt:k<L.length:=by omega
   have hg:=z2 L k [vi 0,vs ⟨#[]⟩,vi 0,zA] hlt
   have hx:=(hm (L.getD k default) (by rw[List.getD_eq_getElem?_getD,List.getElem?_eq_getElem hlt];exact List.getElem_mem _)).1
   have hxn:=hN (L.getD k default) (by rw[List.getD_eq_getElem?_getD,List.getElem?_eq_getElem hlt];exact List.getElem_mem _)
   have hot:out.take out.length=out:=List.take_length
   rw[qF L k hlt]at h4
   have hprev:Qm L (k+1)=decide ((L.getD k default).t.kind=2):=by simp[Qm]
   have hpv:Qm L k=(decide (0<k)&&decide ((L.getD (k - 1) default).t.kind=2)):=rfl
   have e3:((k:Int) - 1).toNat=k - 1:=by omega
   have hg1:=z2 L (k - 1) [vi 0,vs ⟨#[]⟩,vi 0,zA] (by omega)
   generalize L.getD (k - 1) default=y at*
   generalize L.getD k default=x at*
   simp only[Yd]at h4
   have notA:∀f1:(if Qm L k=true then jd x.t else none)=none,(if zJ x=true then Yd u true (L.drop (k+1)) (out++ [(x.t.text,u)])else none)=R:=fun f1=>by rw[f1]at h4;exact h4
   by_cases c8:x.t.kind=8
   ·have c8t:=eq_true c8
    have hn3:zJ x=false:=by unfold zJ;rw[decide_eq_false (by rw[c8];decide),Bool.false_and]
    have notC:∀f1:(if Qm L k=true then jd x.t else none)=none,none=R:=fun f1=>by have:=notA f1;rwa [hn3,if_neg (by simp)]at this
    by_cases cm:x.t.n.tmod 1000=0
    ·have cmt:=eq_true cm
     by_cases ck:0<k
     ·have ckt:((0:Int)<(k:Int))=True:=eq_true (by omega)
      have e6:(0:Int)≤(k:Int) - 1:=by omega
      have e7:(k:Int) - 1<(L.length:Int):=by omega
      by_cases cp:y.t.kind=2
      ·have cpt:=eq_true cp
       have hc:jd x.t=some (min (max (x.t.n.tdiv 1000) (-2147483648)) 2147483647):=by unfold jd;rw[if_pos ⟨c8,cm⟩]
       rw[hpv,decide_eq_true ck,decide_eq_true cp,Bool.true_and,if_pos rfl,hc]at h4
       simp only at h4
       have h50:=h5 ck
       have e5:((out.length:Int) - 1).toNat=out.length - 1:=by omega
       have e8:(0:Int)≤(out.length:Int) - 1:=by omega
       have e9:(out.length:Int) - 1<(out.length:Int):=by omega
       have hr:=zcp hxn
       have hgo:(out.map xE).getD (out.length - 1) [vs ⟨#[]⟩,vi 0,zA]=xE (out.getD (out.length - 1) default):=by
        simp[List.getD_eq_getElem?_getD,show out.length - 1<out.length by omega]
       simp only[e0,e1,e3,e5,e6,e7,e8,e9,hg,hg1,hgo,hx,c8t,cmt,ckt,cpt,zzf,xE,Pa.enc,zm,Pa.eta',zd,zb,za,go_sem,reduceCtorEq,reduceIte,Nat.reduceEqDiff,Nat.reduceAdd,Nat.reduceSub,Nat.reduceMul,Nat.reduceLT,Nat.reduceLeDiff,Nat.reduceBEq,Int.reduceEq,Int.reduceLT,Int.reduceLE,Int.reduceAdd,Int.reduceSub,Int.reduceNeg,Int.reduceToNat]
       refine⟨by omega,by omega,by omega,⟨hr,by omega⟩,by omega,by omega,⟨k+1,kn out (min (max (x.t.n.tdiv 1000) (-2147483648)) 2147483647),ver,clk+1⟩,⟨by dsimp only;omega,by simp[kn];omega,?_,fun _=>by simp[kn];omega⟩,by dsimp only;omega,⟨⟨rfl,by simp[kn]⟩,by dsimp only;omega⟩,⟨rfl,?_⟩,rfl⟩
       ·dsimp only;rw[hprev,decide_eq_false (by rw[c8];decide)];exact h4
       ·simp[kn,List.map_set,xE]
      ·have cpt:=eq_false cp
       have:=notC (by rw[hpv,decide_eq_false cp,Bool.and_false,if_neg (by simp)])
       subst this
       simp only[e0,e1,e3,e6,e7,hg,hg1,hx,hn3,c8t,cmt,ckt,cpt,Yf,Pa.enc,zm,Pa.eta',zd,zb,za,go_sem,reduceCtorEq,reduceIte,Nat.reduceEqDiff,Nat.reduceAdd,Nat.reduceSub,Nat.reduceMul,Nat.reduceLT,Nat.reduceLeDiff,Nat.reduceBEq,Int.reduceEq,Int.reduceLT,Int.reduceLE,Int.reduceAdd,Int.reduceSub,Int.reduceNeg,Int.reduceToNat]
       omega
     ·have ckt:((0:Int)<(k:Int))=False:=eq_false (by omega)
      have:=notC (by rw[hpv,decide_eq_false ck,Bool.false_and,if_neg (by simp)])
      subst this
      simp only[e0,e1,e3,hg,hx,hn3,c8t,cmt,ckt,Yf,Pa.enc,zm,Pa.eta',zd,zb,za,go_sem,reduceCtorEq,reduceIte,Nat.reduceEqDiff,Nat.reduceAdd,Nat.reduceSub,Nat.reduceMul,Nat.reduceLT,Nat.reduceLeDiff,Nat.reduceBEq,Int.reduceEq,Int.reduceLT,Int.reduceLE,Int.reduceAdd,Int.reduceSub,Int.reduceNeg,Int.reduceToNat]
      omega
    ·have cmt:=eq_false cm
     have:=notC (by have:jd x.t=none:=(by unfold jd;rw[if_neg (fun hh=>cm hh.2)]);rw[this];split<;>rfl)
     subst this
     simp only[e0,e1,e3,hg,hx,hn3,c8t,cmt,Yf,Pa.enc,zm,Pa.eta',zd,zb,za,go_sem,reduceCtorEq,reduceIte,Nat.reduceEqDiff,Nat.reduceAdd,Nat.reduceSub,Nat.reduceMul,Nat.reduceLT,Nat.reduceLeDiff,Nat.reduceBEq,Int.reduceEq,Int.reduceLT,Int.reduceLE,Int.reduceAdd,Int.reduceSub,Int.reduceNeg,Int.reduceToNat]
     omega
   ·have c8t:=eq_false c8
    have h6:=notA (by have:jd x.t=none:=(by unfold jd;rw[if_neg (fun hh=>c8 hh.1)]);rw[this];split<;>rfl)
    cases hn3:zJ x with
    |true=>
     rw[hn3,if_pos rfl]at h6
     simp only[e0,e1,e3,hg,hx,hn3,hot,c8t,xE,Pa.enc,zm,Pa.eta',zd,zb,za,go_sem,reduceCtorEq,reduceIte,Nat.reduceEqDiff,Nat.reduceAdd,Nat.reduceSub,Nat.reduceMul,Nat.reduceLT,Nat.reduceLeDiff,Nat.reduceBEq,Int.reduceEq,Int.reduceLT,Int.reduceLE,Int.reduceAdd,Int.reduceSub,Int.reduceNeg,Int.reduceToNat]
     refine⟨⟨by omega,by omega,by omega⟩,by omega,⟨k+1,out++ [(x.t.text,u)],_,_⟩,⟨by dsimp only;omega,by simp;omega,?_,by simp⟩,by dsimp only;omega,⟨⟨rfl,by simp⟩,by dsimp only;omega⟩,⟨rfl,by simp[xE]⟩,rfl⟩
     dsimp only
     rw[hprev,decide_eq_true (zk8 hn3)];exact h6
    |false=>
     rw[hn3,if_neg (by simp)]at h6
     subst h6
     simp only[e0,e1,e3,hg,hx,hn3,c8t,Yf,Pa.enc,zm,Pa.eta',zd,zb,za,go_sem,reduceCtorEq,reduceIte,Nat.reduceEqDiff,Nat.reduceAdd,Nat.reduceSub,Nat.reduceMul,Nat.reduceLT,Nat.reduceLeDiff,Nat.reduceBEq,Int.reduceEq,Int.reduceLT,Int.reduceLE,Int.reduceAdd,Int.reduceSub,Int.reduceNeg,Int.reduceToNat]
def KM:Sum Tryz.prog:=⟨22,fun args=>args= [zj (zh (args.getD 0 .any)),vi ((args.getD 1 .any).int)]∧okQ (zh (args.getD 0 .any)),fun args=>spV (spO ((args.getD 1 .any).int) (zh (args.getD 0 .any))),fun args h=>by
 have:=znc (zh (args.getD 0 .any)) ((args.getD 1 .any).int) h.2;rwa [←h.1]at this,false⟩
theorem zpw:KM.f=22:=rfl
theorem zpv(args:List V):KM.D args=(args= [zj (zh (args.getD 0 .any)),vi ((args.getD 1 .any).int)]∧okQ (zh (args.getD 0 .any))):=rfl
theorem ze1:KM.flat=false:=rfl
theorem zpx(args:List V):KM.r args=spV (spO ((args.getD 1 .any).int) (zh (args.getD 0 .any))):=rfl
attribute [go_sem] zpw zpv ze1 zpx
end Go.Proofs.YtjcmoedalneldaaGreat
