/- Part of the proof of ContextPage. No condition. -/
import Derived.Test.YtlaopdfpncckeaaGreatDoorJ20
namespace Go.Proofs.YtlaopdfpncckeaaGreatDoor
open Go.Sx
set_option linter.unusedSimpArgs false
set_option linter.unusedVariables false
set_option maxHeartbeats 8000000
set_option maxRecDepth 100000
theorem zsz(s:ByteArray)(hs:s.size≤1000000):ze Tryz.prog 81 [vs s] (vi (bxN (zy s))):=by
 refine ze.of (Orc.cons ku (Orc.nil _)) zwV (by simp[c81]) fun w0 own0=> ?_
 simp -implicitDefEqProofs only[c81,zc,zb,za,go_sem,seval,reduceIte,reduceCtorEq]
 have hF:bxN (zy s)=fst (fun i=>decide (zy s=bxW.getD i ⟨#[]⟩)) (16 - 0) 0:=rfl
 rw[hF]
 generalize hR:fst (fun i=>decide (zy s=bxW.getD i ⟨#[]⟩)) (16 - 0) 0=R
 refine zG.lp (α:=Nat) (fun k=>[(0,vs s),(3,.ref 0 0 0 16),(4,vi k)]) (fun _=>⟨[⟨0,1,bxW.map fun s=>[vs s],false,[vs ⟨#[]⟩]⟩],1⟩)
  (fun k=>k≤16∧fst (fun i=>decide (zy s=bxW.getD i ⟨#[]⟩)) (16 - k) k=R) (fun k=>16 - k) 0 ⟨Nat.zero_le _,hR⟩ (St.cut ?_ ?_ ?_) fun k hk=> ?_
 ·simp[zq,zo,zt,yb,bxW]
 ·simp[bxW]
 ·rfl
 clear hR hF
 obtain⟨h1,h2⟩:=hk
 have hl:bxW.length=16:=rfl
 by_cases he:k=16
 ·subst he
  have h2:(-1:Int)=R:=h2
  subst h2
  simp -implicitDefEqProofs only[List.length_map,hl,Int.lt_irrefl,Int.cast_ofNat_Int,hs,zc,zb,za,go_sem,seval,reduceIte,reduceCtorEq]
 ·have f1:=eq_true (show(k:Int)<16 by omega)
  have f0:=eq_true (show(0:Int)≤(k:Int)by omega)
  have hg:∀z,(bxW.map fun s=>[vs s]).getD k z= [vs (bxW.getD k ⟨#[]⟩)]:=fun z=>by
   rw[List.getD_eq_getElem?_getD,List.getElem?_map,List.getElem?_eq_getElem (by rw[hl];omega),List.getD_eq_getElem?_getD,List.getElem?_eq_getElem (by rw[hl];omega)];rfl
  rw[Q9 _ _ _ (by omega)]at h2
  generalize bxW.getD k ⟨#[]⟩=u at*
  by_cases c:zy s=u
  ·rw[if_pos (decide_eq_true c)]at h2
   subst h2
   have c:=eq_true c.symm
   simp -implicitDefEqProofs only[List.length_map,hl,f0,f1,hg,c,Int.cast_ofNat_Int,hs,zc,zb,za,go_sem,seval,reduceIte,reduceCtorEq]
   omega
  ·rw[if_neg (by rw[decide_eq_false c];simp)]at h2
   have c:=eq_false (Ne.symm c)
   simp -implicitDefEqProofs only[List.length_map,hl,f0,f1,hg,c,Int.cast_ofNat_Int,hs,zc,zb,za,go_sem,seval,reduceIte,reduceCtorEq]
   exact⟨by omega,⟨by omega,by omega⟩,k+1,⟨by omega,h2⟩,by omega,by omega⟩
def Wt:Sum Tryz.prog:=⟨81,fun args=>args= [vs ((args.getD 0 .any).str)]∧(((args.getD 0 .any).str)).size≤1000000,fun args=>vi (bxN (zy ((args.getD 0 .any).str))),fun args h=>by
 have:=zsz ((args.getD 0 .any).str) h.2;rwa [←h.1]at this,true⟩
theorem zpd:Wt.f=81:=rfl
theorem zpc(args:List V):Wt.D args=(args= [vs ((args.getD 0 .any).str)]∧(((args.getD 0 .any).str)).size≤1000000):=rfl
theorem zeG:Wt.flat=true:=rfl
theorem zpe(args:List V):Wt.r args=vi (bxN (zy ((args.getD 0 .any).str))):=rfl
attribute [go_sem] zpd zpc zeG zpe
abbrev Fnd:=Ky×Dcl
def fdE(x:Fnd):List V:=[vi x.1.lv,vi x.1.w.a,vi x.1.w.b,vi x.1.w.c,vi x.1.od,vs x.2.nm,.slc 3 (x.2.v.map Tok.enc),vb x.2.imp]
def eF(tl:ByteArray→List Tok→Bool)(b:Bool)(n:Int)(w:W3):Int→List Dcl→List Fnd
 |_,[]=>[]
 |o,d::r=>if b=true∧tl (zy d.nm) d.v=true then(⟨lvl n d.imp,w,o⟩,d)::eF tl b n w (o+1) r else eF tl b n w (o+1) r
def rF(tl:ByteArray→List Tok→Bool)(p:Sh)(n:Int):Int→List Rul→List Fnd
 |_,[]=>[]
 |o,r::l=>eF tl (jp r p).2 n (jp r p).1 o r.ds++rF tl p n (o+r.ds.length+Zy r.ms) l
def sF(tl:ByteArray→List Tok→Bool)(p:Sh):Int→Int→List (List Rul)→List Fnd
 |_,_,[]=>[]
 |n,o,l::t=>rF tl p n o l++sF tl p (n+1) (o+Zd l) t
def zF:List V:=[vi 0,vi 0,vi 0,vi 0,vi 0,vs ⟨#[]⟩,zI,vb false]
theorem za3{α β:Type}(f:β→Option β)(g:α→β)(h:∀x,f (g x)=some (g x)):∀l:List α,zL f (l.map g)=some (l.map g)
 | []=>rfl
 |x::r=>by simp only[List.map_cons,zL,h x,za3 f g h r]
theorem zjT(S:Nat→Bool)(h:Heap)(l:List Fnd):zL (zL (res S h 11)) (l.map fdE)=some (l.map fdE):=za3 (zL (res S h 11)) fdE (fun _=>rfl) l
theorem Xr(tl:ByteArray→List Tok→Bool)(n:Int)(w:W3):∀(l:List Dcl)(o:Int),eF tl false n w o l= []
 | [],_=>rfl
 |d::r,o=>by rw[eF,if_neg (fun h=>by cases h.1)];exact Xr tl n w r (o+1)
structure AlS where
 k:Nat
 f:List Fnd
 o:Int
 ver:Nat
 clk:Nat
theorem zvw(ss:List (List Rul))(p:Sh)(pr:Nat)(hp:pr≤9)(hs:qu ss):ze Tryz.prog 46 [zN ss,.agg p.enc,vi (-1),vi pr] (.slc 8 ((sF (yA pr) p 0 0 ss).map fdE)):=by
 refine ze.of (Orc.cons KN (Orc.cons YP (Orc.cons Wt (Orc.cons WV (Orc.cons KG (Orc.nil _)))))) zwv (by simp[c46]) fun w0 own0=> ?_
 obtain⟨hs3,hs8⟩:=hs
 generalize hR:sF (yA pr) p 0 0 ss=R
 simp -implicitDefEqProofs only[c46,zN,Sh.enc,List.isEmpty_cons,List.isEmpty_nil,zc,zb,za,go_sem,seval,reduceIte,reduceCtorEq]
 refine zG.lp (α:=AlS) (fun x=>[(0,.slc 1 (ss.map shE)),(2,vi (-1)),(3,vi pr),(5,.ptr 0 0 0 0),(9,.ref 1 x.ver 0 x.f.length),(10,vi x.o),(11,vi x.k)])
  (fun x=>⟨[⟨0,6,[p.enc],false,[]⟩,⟨x.ver,8,x.f.map fdE,false,zF⟩],x.clk⟩)
  (fun x=>x.k≤ss.length∧0≤x.o∧x.o≤x.k*1000∧(x.f.length:Int)≤x.o∧x.f++sF (yA pr) p x.k x.o (ss.drop x.k)=R) (fun x=>ss.length - x.k) ⟨0,[],0,1,2⟩ ⟨Nat.zero_le _,by simp,by simp,by simp,hR⟩ (St.nil 9 8 zF (by simp[zo]) (St.cut ?_ ?_ ?_)) fun x hx=> ?_
 ·simp[zq,zo,zt,yb,Heap.alloc]
 ·simp[Heap.alloc,Sh.enc]
 ·rfl
 clear hR
 obtain⟨i,F,o,ver,clk⟩:=x
 obtain⟨g1,g3,g4,g5,g2⟩:=hx
 simp only at g1 g2 g3 g4 g5
 by_cases he:i=ss.length
 ·subst he
  rw[List.drop_length]at g2
  simp only[sF,List.append_nil]at g2
  subst g2
  have htk:(F.map fdE).take F.length=F.map fdE:=List.take_of_length_le (by simp)
  simp -implicitDefEqProofs only[Int.lt_irrefl,htk,Nat.le_refl,if_true,zjT,Option.map_some,zc,zb,za,go_sem,seval,reduceIte,reduceCtorEq]
 have f1:=eq_true (show(i:Int)<(ss.length:Int)by omega)
 have f0:=eq_true (show(0:Int)≤(i:Int)by omega)
 have hg:=fun z=>K1 ss i z (by omega)
 obtain⟨hl8,hrr⟩:=hs8 _ (yt (d:=([]:List Rul)) (show i<ss.length by omega))
 have hdr:ss.drop i=ss.getD i []::ss.drop (i+1):=by rw[List.drop_eq_getElem_cons (by omega),List.getD_eq_getElem?_getD,List.getElem?_eq_getElem (by omega)];rfl
 rw[hdr]at g2
 simp only[sF]at g2
 clear hdr hs8
 generalize hl:ss.getD i []=l at*
 simp -implicitDefEqProofs only[f0,f1,Sh.enc,zc,zb,za,go_sem,seval,reduceIte,reduceCtorEq]
 generalize hR2:rF (yA pr) p i o l=R2 at g2
 refine zG.lp (α:=AlS) (fun x=>[(0,.slc 1 (ss.map shE)),(2,vi (-1)),(3,vi pr),(5,.ptr 0 0 0 0),(9,.ref 1 x.ver 0 x.f.length),(10,vi x.o),(11,vi i),(12,vi x.k)])
  (fun x=>⟨[⟨0,6,[p.enc],false,[]⟩,⟨x.ver,8,x.f.map fdE,false,zF⟩],x.clk⟩)
  (fun x=>x.k≤l.length∧0≤x.o∧x.o≤i*1000+x.k*100∧(x.f.length:Int)≤x.o∧x.o+Zd (l.drop x.k)=o+Zd l∧x.f++rF (yA pr) p i x.o (l.drop x.k)=F++R2) (fun x=>l.length - x.k) ⟨0,F,o,ver,clk⟩ ⟨Nat.zero_le _,g3,by simpa using g4,g5,rfl,by rw[←hR2];rfl⟩ (St.cut ?_ ?_ ?_) fun x hx=> ?_
 ·simp[zq,zo,yb]
 ·simp[Sh.enc]
 ·rfl
 clear hR2
 obtain⟨j,F2,o2,ver2,clk2⟩:=x
 obtain⟨k1,k3,k4,k5,k6,k2⟩:=hx
 simp only at k1 k2 k3 k4 k5 k6
 by_cases hj:j=l.length
 ·subst hj
  rw[List.drop_length]at k2 k6
  simp only[rF,Zd,List.append_nil]at k2 k6
  have e9:=eq_false (show ¬(l.length:Int)<(l.length:Int)by omega)
  simp -implicitDefEqProofs only[f0,f1,hg,shE,List.length_map,e9,Sh.enc,zc,zb,za,go_sem,seval,reduceIte,reduceCtorEq]
  exact⟨⟨by omega,by omega⟩,⟨i+1,F2,o2,ver2,clk2⟩,⟨by dsimp only;omega,k3,by dsimp only;omega,k5,by dsimp only;rw[show((i+1:Nat):Int)=(i:Int)+1 by omega,show o2=o+Zd l by omega,k2,List.append_assoc];exact g2⟩,by dsimp only;omega,⟨⟨rfl,rfl⟩,rfl,by dsimp only;omega⟩,⟨rfl,rfl⟩,rfl⟩
 have j1:=eq_true (show(j:Int)<(l.length:Int)by omega)
 have j0:=eq_true (show(0:Int)≤(j:Int)by omega)
 have hgr:=fun z=>K0 l j z (by omega)
 have hrj:=hrr _ (yt (d:=default) (show j<l.length by omega))
 have hdr:l.drop j=l.getD j default::l.drop (j+1):=by rw[List.drop_eq_getElem_cons (by omega),List.getD_eq_getElem?_getD,List.getElem?_eq_getElem (by omega)];rfl
 rw[hdr]at k2 k6
 simp only[rF,Zd]at k2 k6
 clear hdr hrr
 generalize l.getD j default=r at*
 obtain⟨hsh,hok⟩:=hrj
 have hd0:=XZ hsh.2.1 hok.2.1
 have hm0:∀m∈r.ms,m.nm.size≤100∧m.ds.length≤8:=fun m hm=>⟨(hsh.2.2.2 m hm).1,(hsh.2.2.2 m hm).2.1⟩
 have hd8:=hsh.2.1.1
 have hm8:=hsh.2.2.1
 obtain⟨hpT,hpS⟩:=K9 hsh
 have hpT:qR r.pre:=hpT
 obtain⟨kd,pre,ds,ms⟩:=r
 simp only at k2 k6 hd0 hm0 hd8 hm8 hpT hpS
 have hab:∃l0,psV (psO pre)= .tup [kr l0,vb (psO pre).isSome]∧Zg l0∧(∀b:Bool,(((yu l0 p l0.length).2&&(psO pre).isSome&&decide (kd=2))=b)→jp ⟨kd,pre,ds,ms⟩ p=(if b=true then(yu l0 p l0.length).1 else(jp ⟨kd,pre,ds,ms⟩ p).1,b)):=by
  cases hpo:psO pre with
  |none=>
   refine⟨[],rfl,⟨by simp,fun i hi=>by simp at hi⟩,fun b hb=> ?_⟩
   have hb:b=false:=by rw[←hb];rfl
   subst hb
   unfold jp;simp only[hpo];rfl
  |some l0=>
   refine⟨l0,rfl,hpS l0 hpo,fun b hb=> ?_⟩
   unfold jp
   simp only[hpo]
   by_cases k2:kd=2
   ·rw[if_pos k2]
    rw[decide_eq_true k2,Option.isSome_some,Bool.and_true,Bool.and_true]at hb
    rw[←hb]
    exact Prod.ext (by simp) rfl
   ·rw[if_neg k2]
    rw[decide_eq_false k2,Bool.and_false]at hb
    rw[←hb];rfl
 obtain⟨l0,hpv,hl0,hab⟩:=hab
 have hE:∃B:Bool,((yu l0 p l0.length).2&&(psO pre).isSome&&decide (kd=2))=B∧eF (yA pr) (jp ⟨kd,pre,ds,ms⟩ p).2 i (jp ⟨kd,pre,ds,ms⟩ p).1 o2 ds=eF (yA pr) B i (yu l0 p l0.length).1 o2 ds:=by
  refine⟨_,rfl,?_⟩
  have h:=hab _ rfl
  generalize((yu l0 p l0.length).2&&(psO pre).isSome&&decide (kd=2))=B at*
  cases B with
  |true=>rw[h];rfl
  |false=>rw[h,Xr,Xr]
 obtain⟨B,hB,hE⟩:=hE
 rw[hE]at k2
 clear hE hab
 simp -implicitDefEqProofs only[f0,f1,j0,j1,hg,hgr,shE,Rul.enc,List.length_map,hpT,hpv,hl0,Qo,kr,zj,zf,Xo,zA,Sh.eta',W3.enc,List.isEmpty_cons,List.isEmpty_nil,Sh.enc,zc,zb,za,go_sem,seval,reduceIte,reduceCtorEq]
 generalize hW:(yu l0 p l0.length).1=W at*
 generalize hEF:eF (yA pr) B i W o2 ds=EF at*
 refine zG.lp (α:=AlS) (fun x=>[(0,.slc 1 (ss.map shE)),(2,vi (-1)),(3,vi pr),(5,.ptr 0 0 0 0),(9,.ref 1 x.ver 0 x.f.length),(10,vi x.o),(11,vi i),(12,vi j),(13,.ptr 2 clk2 0 0),(16,.ptr 3 (clk2+1) 0 0),(17,vb B),(18,vi ((x.k:Int) - 1))])
  (fun x=>⟨[⟨0,6,[p.enc],false,[]⟩,⟨x.ver,8,x.f.map fdE,false,zF⟩,⟨clk2,4,[Rul.enc ⟨kd,pre,ds,ms⟩],false,[]⟩,⟨clk2+1,3,[W.enc],false,[]⟩],x.clk⟩)
  (fun x=>x.k≤ms.length+1∧0≤x.o∧x.o≤o2+x.k*8∧(x.f.length:Int)≤x.o∧(x.k=0→x.o=o2∧x.f=F2)∧(0<x.k→x.f=F2++EF∧x.o+Zy (ms.drop (x.k - 1))=o2+ds.length+Zy ms)) (fun x=>ms.length+1 - x.k) ⟨0,F2,o2,ver2,clk2+1+1⟩ ⟨Nat.zero_le _,k3,by simp,k5,fun _=>⟨rfl,rfl⟩,fun h=>by simp at h⟩ (St.cut ?_ ?_ ?_) fun x hx=> ?_
 ·simp[zq,zo,yb,←hB]
 ·simp[Sh.enc,Rul.enc,W3.enc,←hW]
 ·rfl
 clear hpv hl0 hB hpT hpS
 have hWe:=hW
 clear hW
 obtain⟨q,F3,o3,ver3,clk3⟩:=x
 obtain⟨q1,q3,q4,q5,q6,q7⟩:=hx
 simp only at q1 q3 q4 q5 q6 q7
 rcases Nat.eq_zero_or_pos q with hq|hq
 ·subst hq
  obtain⟨rfl,rfl⟩:=q6 rfl
  clear q7 q6
  have m1:=eq_true (show(-1:Int)<(ms.length:Int)by omega)
  have z1:((0:Nat):Int) - 1= -1:=rfl
  simp -implicitDefEqProofs only[m1,z1,Rul.enc,W3.enc,Sh.enc,List.length_map,zc,zb,za,go_sem,seval,reduceIte,reduceCtorEq]
  refine zG.lp (α:=AlS) (fun x=>[(0,.slc 1 (ss.map shE)),(2,vi (-1)),(3,vi pr),(5,.ptr 0 0 0 0),(9,.ref 1 x.ver 0 x.f.length),(10,vi x.o),(11,vi i),(12,vi j),(13,.ptr 2 clk2 0 0),(16,.ptr 3 (clk2+1) 0 0),(17,vb B),(18,vi (-1)),(19,.slc 3 (ds.map Dcl.enc)),(20,vi (-1)),(21,vi x.k)])
   (fun x=>⟨[⟨0,6,[p.enc],false,[]⟩,⟨x.ver,8,x.f.map fdE,false,zF⟩,⟨clk2,4,[Rul.enc ⟨kd,pre,ds,ms⟩],false,[]⟩,⟨clk2+1,3,[W.enc],false,[]⟩],x.clk⟩)
   (fun x=>x.k≤ds.length∧x.o=o3+x.k∧(x.f.length:Int)≤x.o∧x.f++eF (yA pr) B i W x.o (ds.drop x.k)=F3++EF) (fun x=>ds.length - x.k) ⟨0,F3,o3,ver3,clk3⟩ ⟨Nat.zero_le _,by simp,k5,by rw[←hEF];rfl⟩ (St.cut ?_ ?_ ?_) fun x hx=> ?_
  ·simp[zq,zo,yb]
  ·simp[Sh.enc,Rul.enc,W3.enc]
  ·rfl
  obtain⟨t,F4,o4,ver4,clk4⟩:=x
  obtain⟨t1,t3,t4,t2⟩:=hx
  simp only at t1 t2 t3 t4
  by_cases hte:t=ds.length
  ·subst hte
   rw[List.drop_length]at t2
   simp only[eF,List.append_nil]at t2
   have e9:=eq_false (show ¬(ds.length:Int)<(ds.length:Int)by omega)
   simp -implicitDefEqProofs only[e9,Rul.enc,W3.enc,Sh.enc,List.length_map,zc,zb,za,go_sem,seval,reduceIte,reduceCtorEq]
   exact⟨⟨1,F4,o4,ver4,clk4⟩,⟨by dsimp only;omega,by dsimp only;omega,by dsimp only;omega,t4,fun h=>by dsimp only at h;omega,fun _=>⟨t2,by dsimp only;rw[show(1 - 1:Nat)=0 from rfl,List.drop_zero];omega⟩⟩,by dsimp only;omega,⟨⟨rfl,rfl⟩,rfl,by dsimp only;omega⟩,⟨rfl,rfl⟩,rfl⟩
  have u1:=eq_true (show(t:Int)<(ds.length:Int)by omega)
  have u0:=eq_true (show(0:Int)≤(t:Int)by omega)
  have hgd:=fun z=>Y4 ds t z (by omega)
  have hdk:=hd0 _ (yt (d:=default) (show t<ds.length by omega))
  have hdr:ds.drop t=ds.getD t default::ds.drop (t+1):=by rw[List.drop_eq_getElem_cons (by omega),List.getD_eq_getElem?_getD,List.getElem?_eq_getElem (by omega)];rfl
  rw[hdr]at t2
  simp only[eF]at t2
  clear hdr
  generalize ds.getD t default=d at*
  obtain⟨nm,v,imp⟩:=d
  have hdk:=eq_true hdk
  simp only at t2
  generalize hT:yA pr (zy nm) v=T at*
  have p0:=eq_true (show(0:Int)≤(pr:Int)by omega)
  have p9:=eq_true (show(pr:Int)≤9 by omega)
  cases B with
  |false=>
   rw[if_neg (fun h=>by cases h.1)]at t2
   simp -implicitDefEqProofs only[u0,u1,hgd,Dcl.enc,Rul.enc,W3.enc,Sh.enc,List.length_map,zc,zb,za,go_sem,seval,reduceIte,reduceCtorEq]
   exact⟨⟨by omega,by omega⟩,⟨by omega,by omega⟩,⟨t+1,F4,o4+1,ver4,clk4⟩,⟨by dsimp only;omega,by dsimp only;omega,by dsimp only;omega,t2⟩,by dsimp only;omega,⟨⟨rfl,rfl⟩,rfl,by dsimp only;omega⟩,⟨rfl,rfl⟩,rfl⟩
  |true=>
   cases T with
   |false=>
    rw[if_neg (fun h=>by cases h.2)]at t2
    simp -implicitDefEqProofs only[u0,u1,hgd,hdk,hT,p0,p9,zh6,Int.toNat_natCast,Dcl.enc,Rul.enc,W3.enc,Sh.enc,List.length_map,zc,zb,za,go_sem,seval,reduceIte,reduceCtorEq]
    exact⟨⟨by omega,by omega⟩,⟨by omega,by omega⟩,⟨t+1,F4,o4+1,ver4,clk4⟩,⟨by dsimp only;omega,by dsimp only;omega,by dsimp only;omega,t2⟩,by dsimp only;omega,⟨⟨rfl,rfl⟩,rfl,by dsimp only;omega⟩,⟨rfl,rfl⟩,rfl⟩
   |true=>
    rw[if_pos ⟨rfl,rfl⟩]at t2
    simp -implicitDefEqProofs only[u0,u1,hgd,hdk,hT,p0,p9,zh6,Int.toNat_natCast,Dcl.enc,Rul.enc,W3.enc,Sh.enc,List.length_map,zc,zb,za,go_sem,seval,reduceIte,reduceCtorEq]
    exact⟨rfl,⟨Nat.le_refl _,by omega,by omega⟩,⟨by omega,by omega⟩,⟨by omega,by omega⟩,⟨t+1,F4++ [(⟨lvl i imp,W,o4⟩,⟨nm,v,imp⟩)],o4+1,clk4,_⟩,⟨by dsimp only;omega,by dsimp only;omega,by dsimp only;rw[List.length_append];simp only[List.length_cons,List.length_nil];omega,by dsimp only;rw[List.append_assoc];exact t2⟩,by dsimp only;omega,⟨⟨rfl,by simp⟩,rfl,by dsimp only;omega⟩,⟨rfl,by rw[List.take_length,List.map_append];rfl⟩,rfl⟩
 ·obtain⟨rfl,q8⟩:=q7 hq
  clear q6 q7
  have z1:((q:Int) - 1)=((q - 1:Nat):Int):=by omega
  by_cases hqe:q=ms.length+1
  ·subst hqe
   have q9:=eq_false (show ¬((ms.length+1:Nat):Int) - 1<(ms.length:Int)by omega)
   rw[show ms.length+1 - 1=ms.length by omega,List.drop_length]at q8
   simp only[Zy]at q8
   simp -implicitDefEqProofs only[q9,Rul.enc,W3.enc,Sh.enc,List.length_map,zc,zb,za,go_sem,seval,reduceIte,reduceCtorEq]
   exact⟨⟨by omega,by omega⟩,⟨j+1,F2++EF,o3,ver3,clk3⟩,⟨by dsimp only;omega,q3,by dsimp only;omega,q5,by dsimp only;omega,by dsimp only;rw[List.append_assoc,show o3=o2+ds.length+Zy ms by omega];exact k2⟩,by dsimp only;omega,⟨⟨rfl,rfl⟩,rfl,by dsimp only;omega⟩,⟨rfl,rfl⟩,rfl⟩
  have q9:=eq_true (show((q - 1:Nat):Int)<(ms.length:Int)by omega)
  have q0:=eq_true (show(0:Int)≤((q - 1:Nat):Int)by omega)
  have q00:=eq_false (show ¬((q - 1:Nat):Int)<0 by omega)
  have hgm:=fun z=>XH ms (q - 1) z (by omega)
  obtain⟨hnm,hds8⟩:=hm0 _ (yt (d:=default) (show q - 1<ms.length by omega))
  have hmc:=zjU ms (q - 1) (by omega)
  rw[show q - 1+1=q by omega]at hmc
  generalize ms.getD (q - 1) default=m at*
  obtain⟨nm,md⟩:=m
  simp only at hnm hds8 hmc
  have hnm6:=eq_true (show nm.size≤1000000 by omega)
  simp -implicitDefEqProofs only[z1,q9,q0,hgm,hnm6,Mg.enc,Int.toNat_natCast,Rul.enc,W3.enc,Sh.enc,List.length_map,zc,zb,za,go_sem,seval,reduceIte,reduceCtorEq]
  refine zG.lp (α:=AlS) (fun x=>[(0,.slc 1 (ss.map shE)),(2,vi (-1)),(3,vi pr),(5,.ptr 0 0 0 0),(9,.ref 1 x.ver 0 x.f.length),(10,vi x.o),(11,vi i),(12,vi j),(13,.ptr 2 clk2 0 0),(16,.ptr 3 (clk2+1) 0 0),(17,vb B),(18,vi ((q - 1:Nat):Int)),(19,.slc 3 (md.map Dcl.enc)),(20,vi (bxN (zy nm))),(21,vi x.k)])
   (fun x=>⟨[⟨0,6,[p.enc],false,[]⟩,⟨x.ver,8,x.f.map fdE,false,zF⟩,⟨clk2,4,[Rul.enc ⟨kd,pre,ds,ms⟩],false,[]⟩,⟨clk2+1,3,[W.enc],false,[]⟩],x.clk⟩)
   (fun x=>x.k≤md.length∧x.o=o3+x.k∧x.f=F2++EF) (fun x=>md.length - x.k) ⟨0,F2++EF,o3,ver3,clk3⟩ ⟨Nat.zero_le _,by simp,rfl⟩ (St.cut ?_ ?_ ?_) fun x hx=> ?_
  ·simp[zq,zo,yb]
  ·simp[Sh.enc,Rul.enc,W3.enc]
  ·rfl
  obtain⟨t,F4,o4,ver4,clk4⟩:=x
  obtain⟨t1,t3,t2⟩:=hx
  simp only at t1 t2 t3
  subst t2
  by_cases hte:t=md.length
  ·have e9:=eq_false (show ¬(t:Int)<(md.length:Int)by omega)
   simp -implicitDefEqProofs only[e9,Rul.enc,W3.enc,Sh.enc,List.length_map,zc,zb,za,go_sem,seval,reduceIte,reduceCtorEq]
   exact⟨⟨by omega,by omega⟩,⟨q+1,F2++EF,o4,ver4,clk4⟩,⟨by dsimp only;omega,by dsimp only;omega,by dsimp only;omega,by dsimp only;omega,fun h=>by dsimp only at h;omega,fun _=>⟨rfl,by dsimp only;rw[show q+1 - 1=q by omega];omega⟩⟩,by dsimp only;omega,⟨⟨rfl,rfl⟩,rfl,by dsimp only;omega⟩,⟨rfl,rfl⟩,rfl⟩
  have u1:=eq_true (show(t:Int)<(md.length:Int)by omega)
  have u0:=eq_true (show(0:Int)≤(t:Int)by omega)
  by_cases hbx:bxN (zy nm)= -1
  ·have hbx:=eq_true hbx
   cases B<;>simp -implicitDefEqProofs only[u0,u1,q00,hbx,Rul.enc,W3.enc,Sh.enc,List.length_map,zc,zb,za,go_sem,seval,reduceIte,reduceCtorEq]
   all_goals exact⟨⟨by omega,by omega⟩,⟨by omega,by omega⟩,⟨t+1,F2++EF,o4+1,ver4,clk4⟩,⟨by dsimp only;omega,by dsimp only;omega,rfl⟩,by dsimp only;omega,⟨⟨rfl,rfl⟩,rfl,by dsimp only;omega⟩,⟨rfl,rfl⟩,rfl⟩
  ·have hbx:=eq_false hbx
   cases B<;>simp -implicitDefEqProofs only[u0,u1,q00,hbx,Rul.enc,W3.enc,Sh.enc,List.length_map,zc,zb,za,go_sem,seval,reduceIte,reduceCtorEq]
   all_goals exact⟨⟨by omega,by omega⟩,⟨by omega,by omega⟩,⟨t+1,F2++EF,o4+1,ver4,clk4⟩,⟨by dsimp only;omega,by dsimp only;omega,rfl⟩,by dsimp only;omega,⟨⟨rfl,rfl⟩,rfl,by dsimp only;omega⟩,⟨rfl,rfl⟩,rfl⟩
theorem zss(ss:List (List Rul))(p:Sh)(pr:Int)(h0:0≤pr)(h9:pr≤9)(hs:qu ss):ze Tryz.prog 46 [zN ss,.agg p.enc,vi (-1),vi pr] (.slc 8 ((sF (yA pr.toNat) p 0 0 ss).map fdE)):=by
 have:=zvw ss p pr.toNat (by omega) hs
 rwa [Int.toNat_of_nonneg h0]at this
def Kt:Sum Tryz.prog:=⟨46,fun args=>args= [zN (zD (args.getD 0 .any)),.agg (Sh.enc (zR (args.getD 1 .any))),vi (-1),vi ((args.getD 3 .any).int)]∧qu (zD (args.getD 0 .any))∧0≤((args.getD 3 .any).int)∧((args.getD 3 .any).int)≤9,fun args=>.slc 8 ((sF (yA (((args.getD 3 .any).int)).toNat) (zR (args.getD 1 .any)) 0 0 (zD (args.getD 0 .any))).map fdE),fun args h=>by
 have:=zss (zD (args.getD 0 .any)) (zR (args.getD 1 .any)) ((args.getD 3 .any).int) h.2.2.1 h.2.2.2 h.2.1;rwa [←h.1]at this,false⟩
theorem zkv:Kt.f=46:=rfl
theorem zku(args:List V):Kt.D args=(args= [zN (zD (args.getD 0 .any)),.agg (Sh.enc (zR (args.getD 1 .any))),vi (-1),vi ((args.getD 3 .any).int)]∧qu (zD (args.getD 0 .any))∧0≤((args.getD 3 .any).int)∧((args.getD 3 .any).int)≤9):=rfl
theorem zce:Kt.flat=false:=rfl
theorem zkw(args:List V):Kt.r args= .slc 8 ((sF (yA (((args.getD 3 .any).int)).toNat) (zR (args.getD 1 .any)) 0 0 (zD (args.getD 0 .any))).map fdE):=rfl
attribute [go_sem] zkv zku zce zkw
def dF:Fnd:=(⟨0,⟨0,0,0⟩,0⟩,⟨⟨#[]⟩,[],false⟩)
theorem zdv(l:List Fnd)(i:Nat)(z:List V)(h:i<l.length):(l.map fdE).getD i z=fdE (l.getD i dF):=by
 simp[List.getD_eq_getElem?_getD,h]
def zyg:Option Fnd→V
 |none=>.tup [.agg zF,vb false]
 |some x=>.tup [.agg (fdE x),vb true]
structure WnS where
 j:Nat
 b:Bool
 clk:Nat
theorem zlZ(ss:List (List Rul))(p:Sh)(pr:Nat)(hp:pr≤9)(hs:qu ss)(hl:(sF (yA pr) p 0 0 ss).length≤1000000):ze Tryz.prog 18 [zN ss,.agg p.enc,vi (-1),vi pr] (zyg (top1 (sF (yA pr) p 0 0 ss))):=by
 refine ze.of (Orc.cons Kt (Orc.cons Kv (Orc.nil _))) zwa (by simp[c18]) fun w0 own0=> ?_
 have p0:=eq_true (show(0:Int)≤(pr:Int)by omega)
 have p9:=eq_true (show(pr:Int)≤9 by omega)
 generalize hF:sF (yA pr) p 0 0 ss=F at*
 unfold top1
 generalize hR:F.find? (fun x=>F.all fun y=> !bts y.1 x.1)=R
 simp -implicitDefEqProofs only[c18,zN,Sh.enc,hs,p0,p9,hF,zw,zA,Sh.eta',Int.toNat_natCast,List.isEmpty_cons,List.isEmpty_nil,zc,zb,za,go_sem,seval,reduceIte,reduceCtorEq]
 refine zG.lp (α:=WnS) (fun x=>[(8,.ptr 1 1 0 0),(10,.slc 8 (F.map fdE)),(11,vi x.j)])
  (fun x=>⟨[⟨0,6,[p.enc],false,[]⟩,⟨1,8,[zF],false,[]⟩],x.clk⟩)
  (fun x=>x.j≤F.length∧(F.drop x.j).find? (fun x=>F.all fun y=> !bts y.1 x.1)=R) (fun x=>F.length - x.j) ⟨0,true,2⟩ ⟨Nat.zero_le _,hR⟩ (St.cut ?_ ?_ ?_) fun x hx=> ?_
 ·simp[zq,zo,yb,zt]
 ·simp[Sh.enc,zF]
 ·rfl
 clear hR
 obtain⟨i,_,clk⟩:=x
 obtain⟨g1,g2⟩:=hx
 simp only at g1 g2
 by_cases he:i=F.length
 ·subst he
  rw[List.drop_length]at g2
  simp only[List.find?_nil]at g2
  subst g2
  simp -implicitDefEqProofs only[List.length_map,Int.lt_irrefl,zyg,zF,zk,zW,zc,zb,za,go_sem,seval,reduceIte,reduceCtorEq]
 have f1:=eq_true (show(i:Int)<(F.length:Int)by omega)
 have f0:=eq_true (show(0:Int)≤(i:Int)by omega)
 have hgi:=fun z=>zdv F i z (by omega)
 have hdr:F.drop i=F.getD i dF::F.drop (i+1):=by rw[List.drop_eq_getElem_cons (by omega),List.getD_eq_getElem?_getD,List.getElem?_eq_getElem (by omega)];rfl
 rw[hdr,List.find?_cons]at g2
 generalize F.getD i dF=x at*
 simp -implicitDefEqProofs only[List.length_map,f1,zc,zb,za,go_sem,seval,reduceIte,reduceCtorEq]
 refine zG.lp (α:=WnS) (fun y=>[(8,.ptr 1 1 0 0),(10,.slc 8 (F.map fdE)),(11,vi i),(12,vb y.b),(13,vi y.j)])
  (fun y=>⟨[⟨0,6,[p.enc],false,[]⟩,⟨1,8,[zF],false,[]⟩],y.clk⟩)
  (fun y=>y.j≤F.length∧y.b=(F.take y.j).all fun z=> !bts z.1 x.1) (fun y=>F.length - y.j) ⟨0,true,clk⟩ ⟨Nat.zero_le _,rfl⟩ (St.cut ?_ ?_ ?_) fun y hy=> ?_
 ·simp[zq,zo,yb]
 ·simp[Sh.enc,zF]
 ·rfl
 obtain⟨j,b,clk2⟩:=y
 obtain⟨j1,j2⟩:=hy
 simp only at j1 j2
 by_cases hj:j=F.length
 ·subst hj
  rw[List.take_length]at j2
  rw[←j2]at g2
  have e9:=eq_false (show ¬(F.length:Int)<(F.length:Int)by omega)
  obtain⟨⟨lv,⟨wa,wb,wc⟩,od⟩,⟨nm,v,imp⟩⟩:=x
  cases b with
  |true=>
   simp only at g2
   subst g2
   simp -implicitDefEqProofs only[List.length_map,e9,f0,f1,hgi,fdE,zyg,zF,zk,zW,zc,zb,za,go_sem,seval,reduceIte,reduceCtorEq]
  |false=>
   simp only at g2
   simp -implicitDefEqProofs only[List.length_map,e9,zc,zb,za,go_sem,seval,reduceIte,reduceCtorEq]
   exact⟨⟨by omega,by omega⟩,⟨i+1,true,clk2⟩,⟨by dsimp only;omega,g2⟩,by dsimp only;omega,by dsimp only;omega,rfl⟩
 have u1:=eq_true (show(j:Int)<(F.length:Int)by omega)
 have u0:=eq_true (show(0:Int)≤(j:Int)by omega)
 have hgj:=fun z=>zdv F j z (by omega)
 have htk:F.take (j+1)=F.take j++ [F.getD j dF]:=by rw[List.take_add_one,List.getElem?_eq_getElem (by omega),List.getD_eq_getElem?_getD,List.getElem?_eq_getElem (by omega)];rfl
 have hall:((F.take (j+1)).all fun z=> !bts z.1 x.1)=(b&& !bts (F.getD j dF).1 x.1):=by rw[htk,List.all_append,j2];simp
 clear htk j2
 generalize F.getD j dF=z at*
 obtain⟨⟨lv,⟨wa,wb,wc⟩,od⟩,⟨nm,v,imp⟩⟩:=x
 obtain⟨⟨lv',⟨wa',wb',wc'⟩,od'⟩,⟨nm',v',imp'⟩⟩:=z
 simp only at hall
 generalize hb:bts ⟨lv',⟨wa',wb',wc'⟩,od'⟩ ⟨lv,⟨wa,wb,wc⟩,od⟩=T at*
 cases T with
 |true=>
  simp -implicitDefEqProofs only[List.length_map,u0,u1,f0,f1,hgi,hgj,hb,fdE,Ky.enc,kj,zc,zb,za,go_sem,seval,reduceIte,reduceCtorEq]
  exact⟨⟨by omega,by omega⟩,⟨j+1,false,clk2⟩,⟨by dsimp only;omega,by dsimp only;rw[hall];simp⟩,by dsimp only;omega,⟨rfl,by dsimp only;omega⟩,rfl⟩
 |false=>
  simp -implicitDefEqProofs only[List.length_map,u0,u1,f0,f1,hgi,hgj,hb,fdE,Ky.enc,kj,zc,zb,za,go_sem,seval,reduceIte,reduceCtorEq]
  exact⟨⟨by omega,by omega⟩,⟨j+1,b,clk2⟩,⟨by dsimp only;omega,by dsimp only;rw[hall];simp⟩,by dsimp only;omega,⟨rfl,by dsimp only;omega⟩,rfl⟩
section
def Kr:Option Fnd→Wst
 |none=>qF
 |some x=>⟨x.1,(lwD x.2).enc,true⟩
section
variable {tl:ByteArray→List Tok→Bool}
theorem zsq(b:Bool)(a:Option Fnd)(d:Dcl)(k:Ky):qY tl (-1) b (Kr a) (-1) d k=Kr (if b=true∧tl (zy d.nm) d.v=true then pick a (k,d)else a):=by
 unfold qY
 by_cases h:b=true∧tl (zy d.nm) d.v=true
 ·rw[if_pos h]
  cases a with
  |none=>rw[if_pos ⟨h.1,rfl,h.2,.inl rfl⟩];rfl
  |some x=>
   by_cases hb:bts k x.1=true
   ·rw[if_pos ⟨h.1,rfl,h.2,.inr hb⟩]
    show _=Kr (if bts k x.1=true then some (k,d)else some x)
    rw[if_pos hb];rfl
   ·rw[if_neg (fun hh=>by rcases hh.2.2.2 with h'|h';cases h';exact hb h')]
    show _=Kr (if bts k x.1=true then some (k,d)else some x)
    rw[if_neg hb]
 ·rw[if_neg h,if_neg (fun hh=>h ⟨hh.1,hh.2.2.1⟩)]
theorem zdl(b:Bool)(n:Int)(w:W3):∀(l:List Dcl)(o:Int)(a:Option Fnd),yq tl (-1) b n w (-1) o l (Kr a)=Kr ((eF tl b n w o l).foldl pick a)
 | [],_,a=>rfl
 |d::r,o,a=>by
  rw[yq,zsq,zdl b n w r (o+1)]
  rw[eF]
  split
  ·rw[List.foldl_cons]
  ·rfl
theorem zdk{b:Bool}{n:Int}{w:W3}{c:Int}(hc:¬c= -1):∀(l:List Dcl)(o:Int)(s:Wst),yq tl (-1) b n w c o l s=s
 | [],_,s=>rfl
 |d::r,o,s=>by
  rw[yq,zdk hc r (o+1)]
  unfold qY;rw[if_neg (fun h=>hc h.2.1)]
theorem zvH(nm:ByteArray):¬bxP nm= -1:=by unfold bxP;split<;>omega
theorem zdS(b:Bool)(n:Int)(w:W3):∀(l:List Mg)(o:Int)(s:Wst),jD tl (-1) b n w o l s=s
 | [],_,s=>rfl
 |m::r,o,s=>by rw[jD,zdk (zvH _),zdS b n w r]
theorem zeg(p:Sh)(n:Int):∀(l:List Rul)(o:Int)(a:Option Fnd),jF tl (-1) p n o l (Kr a)=Kr ((rF tl p n o l).foldl pick a)
 | [],_,a=>rfl
 |r::l,o,a=>by rw[jF,zdl,zdS,zeg p n l,rF,List.foldl_append]
theorem zeu(p:Sh):∀(t:List (List Rul))(n o:Int)(a:Option Fnd),yW tl (-1) p n o t (Kr a)=Kr ((sF tl p n o t).foldl pick a)
 | [],_,_,a=>rfl
 |l::t,n,o,a=>by rw[yW,zeg,zeu p t,sF,List.foldl_append]
def zb2(l:List Fnd)(a b:Int):Prop:=l.Pairwise (fun x y=>x.1.od≠y.1.od)∧∀x∈l,a≤x.1.od∧x.1.od<b
theorem Wg{l m:List Fnd}{a b c:Int}(h:zb2 l a b)(h':zb2 m b c)(hab:a≤b)(hbc:b≤c):zb2 (l++m) a c:=by
 refine⟨List.pairwise_append.2 ⟨h.1,h'.1,fun x hx y hy=> ?_⟩,fun x hx=> ?_⟩
 ·have h1:=h.2 x hx;have h2:=h'.2 y hy;omega
 ·rcases List.mem_append.1 hx with hx|hx
  ·have:=h.2 x hx;omega
  ·have:=h'.2 x hx;omega
theorem zh9(b:Bool)(n:Int)(w:W3):∀(l:List Dcl)(o:Int),zb2 (eF tl b n w o l) o (o+l.length)
 | [],o=>⟨List.Pairwise.nil,fun x hx=>by cases hx⟩
 |d::r,o=>by
  have ih:=zh9 b n w r (o+1)
  have ih2:zb2 (eF tl b n w (o+1) r) (o+1) (o+(d::r).length):=by
   refine⟨ih.1,fun x hx=> ?_⟩
   have:=ih.2 x hx;simp only[List.length_cons];omega
  rw[eF]
  split
  ·refine Wg (l:=[_]) (b:=o+1) ⟨List.pairwise_singleton _ _,fun x hx=> ?_⟩ ih2 (by omega) (by simp only[List.length_cons];omega)
   rw[List.mem_singleton.1 hx];show o≤o∧o<o+1;omega
  ·exact⟨ih2.1,fun x hx=>by have:=ih2.2 x hx;omega⟩
theorem XT:∀l:List Mg,0≤Zy l
 | []=>by simp[Zy]
 |m::r=>by have:=XT r;simp only[Zy];omega
theorem Kl:∀l:List Rul,0≤Zd l
 | []=>by simp[Zd]
 |r::l=>by have:=Kl l;have:=XT r.ms;simp only[Zd];omega
theorem zb3{l:List Fnd}{a b c:Int}(h:zb2 l a b)(hb:b≤c):zb2 l a c:=⟨h.1,fun x hx=>by have:=h.2 x hx;omega⟩
theorem ziD(p:Sh)(n:Int):∀(l:List Rul)(o:Int),zb2 (rF tl p n o l) o (o+Zd l)
 | [],o=>⟨List.Pairwise.nil,fun x hx=>by cases hx⟩
 |r::l,o=>by
  have h1:=XT r.ms
  have h2:=Kl l
  rw[rF,Zd]
  have ih:=ziD p n l (o+r.ds.length+Zy r.ms)
  exact Wg (zb3 (zh9 _ n _ r.ds o) (by omega)) (zb3 ih (by omega)) (by omega) (by omega)
def zkf:List (List Rul)→Int
 | []=>0
 |l::t=>Zd l+zkf t
theorem zem:∀l:List (List Rul),0≤zkf l
 | []=>by simp[zkf]
 |r::l=>by have:=zem l;have:=Kl r;simp only[zkf];omega
theorem ziI(p:Sh):∀(t:List (List Rul))(n o:Int),zb2 (sF tl p n o t) o (o+zkf t)
 | [],_,o=>⟨List.Pairwise.nil,fun x hx=>by cases hx⟩
 |l::t,n,o=>by
  have h1:=Kl l
  have h2:=zem t
  rw[sF,zkf]
  exact Wg (ziD p n l o) (zb3 (ziI p t (n+1) (o+Zd l)) (by omega)) (by omega) (by omega)
end
theorem zrq(ss:List (List Rul))(p:Sh)(pr:Nat):zS ss p pr=Kr (top1 (sF (yA pr) p 0 0 ss)):=by
 have h:zS ss p pr=Kr ((sF (yA pr) p 0 0 ss).foldl pick none):=zeu p ss 0 0 none
 rw[h,←zuz _ (ziI p ss 0 0).1];rfl
end
section
section
variable {tl:ByteArray→List Tok→Bool}
theorem znm(b:Bool)(n:Int)(w:W3):∀(l:List Dcl)(o:Int),(eF tl b n w o l).length≤l.length
 | [],_=>Nat.le_refl _
 |d::r,o=>by
  have:=znm b n w r (o+1)
  rw[eF];split<;>simp only[List.length_cons]<;>omega
theorem zov(p:Sh)(n:Int):∀(l:List Rul)(o:Int),(∀r∈l,zbV r)→(rF tl p n o l).length≤8*l.length
 | [],_,_=>Nat.le_refl _
 |r::l,o,h=>by
  have h1:=zov p n l (o+r.ds.length+Zy r.ms) (fun x hx=>h x (by simp[hx]))
  have h2:=znm (tl:=tl) (jp r p).2 n (jp r p).1 r.ds o
  have h3:=(h r (by simp)).1.2.1.1
  rw[rF,List.length_append,List.length_cons];omega
theorem zoL(p:Sh):∀(t:List (List Rul))(n o:Int),(∀l∈t,l.length≤8∧∀r∈l,zbV r)→(sF tl p n o t).length≤64*t.length
 | [],_,_,_=>Nat.le_refl _
 |l::t,n,o,h=>by
  have h1:=zoL p t (n+1) (o+Zd l) (fun x hx=>h x (by simp[hx]))
  have h2:=zov (tl:=tl) p n l o (h l (by simp)).2
  have h3:=(h l (by simp)).1
  rw[sF,List.length_append,List.length_cons];omega
end
def fnd(ss:List (List Rul))(p:Sh)(pr:Nat):Option Fnd:=top1 (sF (yA pr) p 0 0 ss)
def fdV(o:Option Fnd):V:=.tup [.agg (fdE (o.getD dF)),vb o.isSome]
theorem zrm(ss:List (List Rul))(p:Sh)(pr:Int)(h0:0≤pr)(h9:pr≤9)(hs:qu ss):ze Tryz.prog 18 [zN ss,.agg p.enc,vi (-1),vi pr] (fdV (fnd ss p pr.toNat)):=by
 have hl:=zoL (tl:=yA pr.toNat) p ss 0 0 hs.2
 have h3:=hs.1
 have h:=zlZ ss p pr.toNat (by omega) hs (by omega)
 rw[Int.toNat_of_nonneg h0]at h
 unfold fnd
 generalize top1 (sF (yA pr.toNat) p 0 0 ss)=R at*
 cases R with
 |some x=>exact h
 |none=>
  refine ze.rsub h fun F w v hp=> ?_
  cases hp with
  |tup cs _ hl hx=>
   refine .tup cs _ hl fun i hi=> ?_
   have:=hx i hi
   match i,hi with
   |0,_=>exact Sub.prep 2 (.agg zF) _ _ (show Sub 2 _ (.agg (fdE dF))from Or.inr ⟨Sub.rfl 1 _,Sub.rfl 1 _,Sub.rfl 1 _,Sub.rfl 1 _,Sub.rfl 1 _,Sub.rfl 1 _,Or.inr rfl,Sub.rfl 1 _,trivial⟩) this
   |1,_=>exact this
def Yf:Sum Tryz.prog:=⟨18,fun args=>args= [zN (zD (args.getD 0 .any)),.agg (Sh.enc (zR (args.getD 1 .any))),vi (-1),vi ((args.getD 3 .any).int)]∧qu (zD (args.getD 0 .any))∧0≤((args.getD 3 .any).int)∧((args.getD 3 .any).int)≤9,fun args=>fdV (fnd (zD (args.getD 0 .any)) (zR (args.getD 1 .any)) (((args.getD 3 .any).int)).toNat),fun args h=>by
 have:=zrm (zD (args.getD 0 .any)) (zR (args.getD 1 .any)) ((args.getD 3 .any).int) h.2.2.1 h.2.2.2 h.2.1;rwa [←h.1]at this,false⟩
theorem zq6:Yf.f=18:=rfl
theorem zq5(args:List V):Yf.D args=(args= [zN (zD (args.getD 0 .any)),.agg (Sh.enc (zR (args.getD 1 .any))),vi (-1),vi ((args.getD 3 .any).int)]∧qu (zD (args.getD 0 .any))∧0≤((args.getD 3 .any).int)∧((args.getD 3 .any).int)≤9):=rfl
theorem zfq:Yf.flat=false:=rfl
theorem zq7(args:List V):Yf.r args=fdV (fnd (zD (args.getD 0 .any)) (zR (args.getD 1 .any)) (((args.getD 3 .any).int)).toNat):=rfl
attribute [go_sem] zq6 zq5 zfq zq7
theorem JI(ss:List (List Rul))(p:Sh)(pr:Nat):(zS ss p pr).b=(fnd ss p pr).isSome∧(yy (zS ss p pr)).v=((fnd ss p pr).getD dF).2.v∧((fnd ss p pr).isSome=true→(yy (zS ss p pr)).nm=zy ((fnd ss p pr).getD dF).2.nm):=by
 rw[zrq]
 unfold fnd
 cases top1 (sF (yA pr) p 0 0 ss)with
 |none=>exact⟨rfl,rfl,fun h=>by cases h⟩
 |some x=>
  have e:yy (Kr (some x))=lwD x.2:=by unfold yy Kr;rw[if_pos rfl,qL]
  rw[e];exact⟨rfl,rfl,fun _=>rfl⟩
theorem zux(ss:List (List Rul))(p:Sh)(u:ByteArray)(hs:qu ss):ze Tryz.prog 16 [zN ss,.agg p.enc,vi (-1),vi 8,vs u] (vs (zf1 (zS ss p 8) u)):=by
 refine ze.of (Orc.cons Yf (Orc.cons jJ (Orc.nil _))) zv6 (by simp[c16]) fun w0 own0=> ?_
 obtain⟨f1,f2,_⟩:=JI ss p 8
 have hq:=(yX ss p 8 hs).1.1
 rw[f2]at hq
 unfold zf1
 rw[f1,f2]
 generalize hF:fnd ss p 8=o at*
 generalize hD:o.getD dF=x at*
 obtain⟨⟨lv,⟨wa,wb,wc⟩,od⟩,⟨nm,v,imp⟩⟩:=x
 simp only at hq
 cases hb:o.isSome with
 |true=>simp -implicitDefEqProofs only[c16,zN,Sh.enc,hs,hF,hD,hb,hq,fdV,fdE,zX,zj,zf,zw,zA,Sh.eta',if_true,List.isEmpty_cons,List.isEmpty_nil,zc,zb,za,go_sem,seval,reduceIte,reduceCtorEq]
 |false=>simp -implicitDefEqProofs only[c16,zN,Sh.enc,hs,hF,hD,hb,fdV,fdE,zw,zA,Sh.eta',Bool.false_eq_true,if_false,List.isEmpty_cons,List.isEmpty_nil,zc,zb,za,go_sem,seval,reduceIte,reduceCtorEq]
end
theorem zd5:∀v:List Tok,(∀x∈v,x.kind≠3∧x.kind≠12)→ptB v=true∧pl v=(kpT v).map fun t=>⟨t,[]⟩
 | [],_=>⟨rfl,rfl⟩
 |x::r,h=>by
  obtain⟨h1,h2⟩:=zd5 r fun y hy=>h y (by simp[hy])
  obtain⟨a,b,_⟩:=zbX (h x (by simp)).1 (h x (by simp)).2 h1
  refine⟨a,?_⟩
  rw[b,h2]
  by_cases c:x.kind=1
  ·have e:kpT (x::r)=kpT r:=by unfold kpT;rw[List.filter_cons_of_neg (by simpa using c)]
   rw[if_pos c,e];rfl
  ·have e:kpT (x::r)=x::kpT r:=by unfold kpT;rw[List.filter_cons_of_pos (by simpa using c)]
   rw[if_neg c,e];rfl
theorem zn5{v:List Tok}(h:(yw v).isSome=true):yE v=none:=by
 unfold yw at h
 match hk:kpT v,h with
 | [t],h=>
   cases hl:qb t with
   |none=>rw[hk]at *;simp[zdK,hl]at h
   |some n=>
    have hkd:=XQ hl
    obtain⟨h1,h2⟩:=zd5 v fun x hx=>by
     by_cases c:x.kind=1
     ·omega
     ·have:x∈kpT v:=List.mem_filter.2 ⟨hx,by simpa using c⟩
      rw[hk]at this
      rw[List.mem_singleton.1 this];omega
    rw[hk]at h2
    unfold yE ZC
    rw[h1,h2]
    exact zdV (by show ¬t.kind=2;omega)
 | [],h=>rw[hk]at *;cases h
 |_::_::_,h=>rw[hk]at *;cases h
def zlY(v:List Tok):V:=if yE v=some ⟨#[]⟩then .tup [vi (-1),vb true]else Wm (yw v)
theorem zuE(v:List Tok)(hv:okT v):ze Tryz.prog 45 [zj v] (zlY v):=by
 have hd:decide ((yw v).isSome=true∧0≤(yw v).getD 0)=((yw v).isSome&&decide (0≤(yw v).getD 0)):=by rw[Bool.eq_iff_iff];simp
 refine ze.of (Orc.cons jJ (Orc.cons Z8 (Orc.nil _))) zwu (by simp[c45]) fun w0 own0=> ?_
 unfold zlY
 cases hn:yE v with
 |none=>
  rw[if_neg (by simp)]
  simp -implicitDefEqProofs only[c45,hn,Wm,hd,zX,zJ,Option.getD_none,Option.isSome_none,zj,zf,hv,zc,zb,za,go_sem,seval,reduceIte,reduceCtorEq]
 |some s=>
  by_cases c:s=⟨#[]⟩
  ·rw[if_pos (by rw[c])]
   have c:=eq_true c
   simp -implicitDefEqProofs only[c45,hn,c,zX,Option.getD_some,Option.isSome_some,zj,zf,hv,zc,zb,za,go_sem,seval,reduceIte,reduceCtorEq]
  ·rw[if_neg (fun h=>c (Option.some.inj h))]
   have c:=eq_false c
   simp -implicitDefEqProofs only[c45,hn,c,Wm,hd,zX,zJ,Option.getD_some,Option.isSome_some,zj,zf,hv,zc,zb,za,go_sem,seval,reduceIte,reduceCtorEq]
def WW:Sum Tryz.prog:=⟨45,fun args=>args= [zj (zi (args.getD 0 .any))]∧okT (zi (args.getD 0 .any)),fun args=>zlY (zi (args.getD 0 .any)),fun args h=>by
 have:=zuE (zi (args.getD 0 .any)) h.2;rwa [←h.1]at this,false⟩
theorem zq3:WW.f=45:=rfl
theorem zq2(args:List V):WW.D args=(args= [zj (zi (args.getD 0 .any))]∧okT (zi (args.getD 0 .any))):=rfl
theorem zfp:WW.flat=false:=rfl
theorem zq4(args:List V):WW.r args=zlY (zi (args.getD 0 .any)):=rfl
attribute [go_sem] zq3 zq2 zfp zq4
theorem zjZ(ss:List (List Rul))(p:Sh)(u:Int)(hs:qu ss):ze Tryz.prog 17 [zN ss,.agg p.enc,vi (-1),vi 9,vi u] (vi (zgo (zS ss p 9) u)):=by
 refine ze.of (Orc.cons Yf (Orc.cons WW (Orc.nil _))) zv9 (by simp[c17]) fun w0 own0=> ?_
 obtain⟨f1,f2,_⟩:=JI ss p 9
 obtain⟨hq,hv⟩:=yX ss p 9 hs
 have hq:=hq.1
 rw[f2]at hq
 rw[f1,f2]at hv
 unfold zgo
 rw[f1,f2]
 generalize hF:fnd ss p 9=o at*
 generalize hD:o.getD dF=x at*
 obtain⟨⟨lv,⟨wa,wb,wc⟩,od⟩,⟨nm,v,imp⟩⟩:=x
 simp only at hq hv
 cases hb:o.isSome with
 |true=>
  have hv:=hv hb
  have hl:(yw v).isSome=true:=by
   unfold yA at hv
   rw[if_neg (by omega)]at hv
   simp only[Bool.and_eq_true]at hv
   have h2:Wl (yw v)=true:=hv.2
   unfold Wl at h2;rw[decide_eq_true_eq]at h2;exact h2.1
  have hn:=zn5 hl
  have hw:zlY v=Wm (yw v):=by unfold zlY;rw[if_neg (by rw[hn];simp)]
  simp -implicitDefEqProofs only[c17,zN,Sh.enc,hs,hF,hD,hb,hq,hw,Wm,fdV,fdE,zj,zf,zw,zA,Sh.eta',if_true,List.isEmpty_cons,List.isEmpty_nil,zc,zb,za,go_sem,seval,reduceIte,reduceCtorEq]
 |false=>simp -implicitDefEqProofs only[c17,zN,Sh.enc,hs,hF,hD,hb,fdV,fdE,zw,zA,Sh.eta',Bool.false_eq_true,if_false,List.isEmpty_cons,List.isEmpty_nil,zc,zb,za,go_sem,seval,reduceIte,reduceCtorEq]
section
section
variable {tl:ByteArray→List Tok→Bool}
theorem zf7(b:Bool)(n:Int)(w:W3):∀(l:List Dcl)(o:Int),(∀d∈l,okD d)→∀x∈eF tl b n w o l,okD x.2
 | [],_,_,x,hx=>by cases hx
 |d::r,o,h,x,hx=>by
  rw[eF]at hx
  split at hx
  ·rcases List.mem_cons.1 hx with rfl|hx
   ·exact h d (by simp)
   ·exact zf7 b n w r (o+1) (fun y hy=>h y (by simp[hy])) x hx
  ·exact zf7 b n w r (o+1) (fun y hy=>h y (by simp[hy])) x hx
theorem zow(p:Sh)(n:Int):∀(l:List Rul)(o:Int),(∀r∈l,zbV r)→∀x∈rF tl p n o l,okD x.2
 | [],_,_,x,hx=>by cases hx
 |r::l,o,h,x,hx=>by
  rw[rF]at hx
  rcases List.mem_append.1 hx with hx|hx
  ·exact zf7 _ _ _ _ _ (zgy (h r (by simp))).1 x hx
  ·exact zow p n l _ (fun y hy=>h y (by simp[hy])) x hx
theorem zoM(p:Sh):∀(t:List (List Rul))(n o:Int),(∀l∈t,∀r∈l,zbV r)→∀x∈sF tl p n o t,okD x.2
 | [],_,_,_,x,hx=>by cases hx
 |l::t,n,o,h,x,hx=>by
  rw[sF]at hx
  rcases List.mem_append.1 hx with hx|hx
  ·exact zow p n l o (h l (by simp)) x hx
  ·exact zoM p t _ _ (fun y hy=>h y (by simp[hy])) x hx
end
theorem zbI(ss:List (List Rul))(p:Sh)(pr:Nat)(hs:qu ss):((fnd ss p pr).getD dF).2.nm.size≤1000000:=by
 unfold fnd
 cases h:top1 (sF (yA pr) p 0 0 ss)with
 |none=>decide
 |some x=>exact(zoM p ss 0 0 (fun l hl=>(hs.2 l hl).2) x (List.mem_of_find?_eq_some h)).1
theorem zgu(ss:List (List Rul))(p:Sh)(hs:qu ss):ze Tryz.prog 15 [zN ss,.agg p.enc] (.agg [vi (yD (zS ss p 1) 0),vi (yD (zS ss p 2) 1),vi (yD (zS ss p 3) 2),vi (yD (zS ss p 4) 3)]):=by
 refine ze.of (Orc.cons Yf (Orc.cons ku (Orc.cons Qf (Orc.cons Z8 (Orc.nil _))))) zv2 (by simp[c15]) fun w0 own0=> ?_
 obtain⟨M,hM0,hM1,hM2,hM3⟩:∃M:Nat→Int,M 0=yD (zS ss p 1) 0∧M 1=yD (zS ss p 2) 1∧M 2=yD (zS ss p 3) 2∧M 3=yD (zS ss p 4) 3:=⟨fun i=>match i with|0=>yD (zS ss p 1) 0|1=>yD (zS ss p 2) 1|2=>yD (zS ss p 3) 2|_=>yD (zS ss p 4) 3,rfl,rfl,rfl,rfl⟩
 rw[←hM0,←hM1,←hM2,←hM3]
 simp -implicitDefEqProofs only[c15,hs,zN,Sh.enc,fdV,fdE,zj,zf,zw,zA,Sh.eta',List.isEmpty_cons,List.isEmpty_nil,zc,zb,za,go_sem,seval,reduceIte,reduceCtorEq]
 refine zG.lp (α:=PgS) (fun x=>[(0,.slc 1 (ss.map shE)),(3,.ptr 0 0 0 0),(4,.ptr 1 1 0 0),(5,.ptr 2 2 0 0),(6,vi x.k)])
  (fun x=>⟨[⟨0,6,[p.enc],false,[]⟩,⟨1,4,[[vi 0,vi 0,vi 0,vi 0]],false,[]⟩,⟨2,4,[qZ M x.k],false,[]⟩],x.clk⟩) (fun x=>x.k≤4) (fun x=>4 - x.k) ⟨0,3⟩ (Nat.zero_le _) (St.cut ?_ ?_ ?_) fun x hx=> ?_
 ·simp[zq,zo,yb,zt]
 ·simp[Sh.enc,qZ]
 ·rfl
 obtain⟨k,clk⟩:=x
 simp only at hx
 rcases(show k=0∨k=1∨k=2∨k=3∨k=4 by omega)with rfl|rfl|rfl|rfl|rfl
 ·obtain⟨f1,f2,f3⟩:=JI ss p 1
  obtain⟨hq,hv⟩:=yX ss p 1 hs
  have hq:=hq.1
  have hnm:=zbI ss p 1 hs
  rw[f2]at hq
  rw[f1,f2]at hv
  unfold yD at hM0
  rw[f1,f2]at hM0
  clear f1 f2
  generalize yy (zS ss p 1)=wd at*
  generalize hF:fnd ss p 1=o at*
  generalize hD:o.getD dF=x at*
  obtain⟨⟨lv,⟨wa,wb,wc⟩,od⟩,⟨nm,v,imp⟩⟩:=x
  simp only at hq hv hM0 f3 hnm
  cases hb:o.isSome with
  |false=>
   rw[if_neg (by rw[hb];simp)]at hM0
   simp -implicitDefEqProofs only[hF,hD,hb,hM0,qZ,Int.cast_ofNat_Int,Int.natCast_zero,Int.natCast_one,hs,zN,Sh.enc,fdV,fdE,zj,zf,zw,zA,Sh.eta',List.isEmpty_cons,List.isEmpty_nil,zc,zb,za,go_sem,seval,reduceIte,reduceCtorEq]
   exact⟨⟨1,_⟩,by dsimp only;omega,by dsimp only;omega,rfl,rfl,rfl⟩
  |true=>
   rw[if_pos hb,f3 hb]at hM0
   have hv:=hv hb
   rw[f3 hb]at hv
   by_cases hn:zy nm=JT
   ·rw[if_pos hn]at hM0
    unfold yA at hv
    rw[if_pos ⟨by omega,by omega,hn⟩]at hv
    cases hL:qy v with
    |none=>rw[hL]at hv;cases hv
    |some l=>
     have h4:=qr hL
     rw[hL,Option.getD_some]at hM0
     have hg:=z4 l 0
     have hlt:=eq_true (show(0:Int)<(l.length:Int)by omega)
     have hn:=eq_true (show zy nm=⟨#[109,97,114,103,105,110]⟩from hn)
     simp -implicitDefEqProofs only[hF,hD,hb,hM0,hn,hnm,hq,hL,hg,hlt,ZY,zH,zK,Option.getD_some,Option.isSome_some,qZ,Int.cast_ofNat_Int,Int.natCast_zero,Int.natCast_one,hs,zN,Sh.enc,fdV,fdE,zj,zf,zw,zA,Sh.eta',List.isEmpty_cons,List.isEmpty_nil,zc,zb,za,go_sem,seval,reduceIte,reduceCtorEq]
     exact⟨⟨1,_⟩,by dsimp only;omega,by dsimp only;omega,rfl,rfl,rfl⟩
   ·rw[if_neg hn]at hM0
    have hn:=eq_false (show ¬zy nm=⟨#[109,97,114,103,105,110]⟩from hn)
    simp -implicitDefEqProofs only[hF,hD,hb,hM0,hn,hnm,hq,zJ,qZ,Int.cast_ofNat_Int,Int.natCast_zero,Int.natCast_one,hs,zN,Sh.enc,fdV,fdE,zj,zf,zw,zA,Sh.eta',List.isEmpty_cons,List.isEmpty_nil,zc,zb,za,go_sem,seval,reduceIte,reduceCtorEq]
    exact⟨⟨1,_⟩,by dsimp only;omega,by dsimp only;omega,rfl,rfl,rfl⟩
 ·obtain⟨f1,f2,f3⟩:=JI ss p 2
  obtain⟨hq,hv⟩:=yX ss p 2 hs
  have hq:=hq.1
  have hnm:=zbI ss p 2 hs
  rw[f2]at hq
  rw[f1,f2]at hv
  unfold yD at hM1
  rw[f1,f2]at hM1
  clear f1 f2
  generalize yy (zS ss p 2)=wd at*
  generalize hF:fnd ss p 2=o at*
  generalize hD:o.getD dF=x at*
  obtain⟨⟨lv,⟨wa,wb,wc⟩,od⟩,⟨nm,v,imp⟩⟩:=x
  simp only at hq hv hM1 f3 hnm
  cases hb:o.isSome with
  |false=>
   rw[if_neg (by rw[hb];simp)]at hM1
   simp -implicitDefEqProofs only[hF,hD,hb,hM1,qZ,Int.cast_ofNat_Int,Int.natCast_zero,Int.natCast_one,hs,zN,Sh.enc,fdV,fdE,zj,zf,zw,zA,Sh.eta',List.isEmpty_cons,List.isEmpty_nil,zc,zb,za,go_sem,seval,reduceIte,reduceCtorEq]
   exact⟨⟨2,_⟩,by dsimp only;omega,by dsimp only;omega,rfl,rfl,rfl⟩
  |true=>
   rw[if_pos hb,f3 hb]at hM1
   have hv:=hv hb
   rw[f3 hb]at hv
   by_cases hn:zy nm=JT
   ·rw[if_pos hn]at hM1
    unfold yA at hv
    rw[if_pos ⟨by omega,by omega,hn⟩]at hv
    cases hL:qy v with
    |none=>rw[hL]at hv;cases hv
    |some l=>
     have h4:=qr hL
     rw[hL,Option.getD_some]at hM1
     have hg:=z4 l 1
     have hlt:=eq_true (show(1:Int)<(l.length:Int)by omega)
     have hn:=eq_true (show zy nm=⟨#[109,97,114,103,105,110]⟩from hn)
     simp -implicitDefEqProofs only[hF,hD,hb,hM1,hn,hnm,hq,hL,hg,hlt,ZY,zH,zK,Option.getD_some,Option.isSome_some,qZ,Int.cast_ofNat_Int,Int.natCast_zero,Int.natCast_one,hs,zN,Sh.enc,fdV,fdE,zj,zf,zw,zA,Sh.eta',List.isEmpty_cons,List.isEmpty_nil,zc,zb,za,go_sem,seval,reduceIte,reduceCtorEq]
     exact⟨⟨2,_⟩,by dsimp only;omega,by dsimp only;omega,rfl,rfl,rfl⟩
   ·rw[if_neg hn]at hM1
    have hn:=eq_false (show ¬zy nm=⟨#[109,97,114,103,105,110]⟩from hn)
    simp -implicitDefEqProofs only[hF,hD,hb,hM1,hn,hnm,hq,zJ,qZ,Int.cast_ofNat_Int,Int.natCast_zero,Int.natCast_one,hs,zN,Sh.enc,fdV,fdE,zj,zf,zw,zA,Sh.eta',List.isEmpty_cons,List.isEmpty_nil,zc,zb,za,go_sem,seval,reduceIte,reduceCtorEq]
    exact⟨⟨2,_⟩,by dsimp only;omega,by dsimp only;omega,rfl,rfl,rfl⟩
 ·obtain⟨f1,f2,f3⟩:=JI ss p 3
  obtain⟨hq,hv⟩:=yX ss p 3 hs
  have hq:=hq.1
  have hnm:=zbI ss p 3 hs
  rw[f2]at hq
  rw[f1,f2]at hv
  unfold yD at hM2
  rw[f1,f2]at hM2
  clear f1 f2
  generalize yy (zS ss p 3)=wd at*
  generalize hF:fnd ss p 3=o at*
  generalize hD:o.getD dF=x at*
  obtain⟨⟨lv,⟨wa,wb,wc⟩,od⟩,⟨nm,v,imp⟩⟩:=x
  simp only at hq hv hM2 f3 hnm
  cases hb:o.isSome with
  |false=>
   rw[if_neg (by rw[hb];simp)]at hM2
   simp -implicitDefEqProofs only[hF,hD,hb,hM2,qZ,Int.cast_ofNat_Int,Int.natCast_zero,Int.natCast_one,hs,zN,Sh.enc,fdV,fdE,zj,zf,zw,zA,Sh.eta',List.isEmpty_cons,List.isEmpty_nil,zc,zb,za,go_sem,seval,reduceIte,reduceCtorEq]
   exact⟨⟨3,_⟩,by dsimp only;omega,by dsimp only;omega,rfl,rfl,rfl⟩
  |true=>
   rw[if_pos hb,f3 hb]at hM2
   have hv:=hv hb
   rw[f3 hb]at hv
   by_cases hn:zy nm=JT
   ·rw[if_pos hn]at hM2
    unfold yA at hv
    rw[if_pos ⟨by omega,by omega,hn⟩]at hv
    cases hL:qy v with
    |none=>rw[hL]at hv;cases hv
    |some l=>
     have h4:=qr hL
     rw[hL,Option.getD_some]at hM2
     have hg:=z4 l 2
     have hlt:=eq_true (show(2:Int)<(l.length:Int)by omega)
     have hn:=eq_true (show zy nm=⟨#[109,97,114,103,105,110]⟩from hn)
     simp -implicitDefEqProofs only[hF,hD,hb,hM2,hn,hnm,hq,hL,hg,hlt,ZY,zH,zK,Option.getD_some,Option.isSome_some,qZ,Int.cast_ofNat_Int,Int.natCast_zero,Int.natCast_one,hs,zN,Sh.enc,fdV,fdE,zj,zf,zw,zA,Sh.eta',List.isEmpty_cons,List.isEmpty_nil,zc,zb,za,go_sem,seval,reduceIte,reduceCtorEq]
     exact⟨⟨3,_⟩,by dsimp only;omega,by dsimp only;omega,rfl,rfl,rfl⟩
   ·rw[if_neg hn]at hM2
    have hn:=eq_false (show ¬zy nm=⟨#[109,97,114,103,105,110]⟩from hn)
    simp -implicitDefEqProofs only[hF,hD,hb,hM2,hn,hnm,hq,zJ,qZ,Int.cast_ofNat_Int,Int.natCast_zero,Int.natCast_one,hs,zN,Sh.enc,fdV,fdE,zj,zf,zw,zA,Sh.eta',List.isEmpty_cons,List.isEmpty_nil,zc,zb,za,go_sem,seval,reduceIte,reduceCtorEq]
    exact⟨⟨3,_⟩,by dsimp only;omega,by dsimp only;omega,rfl,rfl,rfl⟩
 ·obtain⟨f1,f2,f3⟩:=JI ss p 4
  obtain⟨hq,hv⟩:=yX ss p 4 hs
  have hq:=hq.1
  have hnm:=zbI ss p 4 hs
  rw[f2]at hq
  rw[f1,f2]at hv
  unfold yD at hM3
  rw[f1,f2]at hM3
  clear f1 f2
  generalize yy (zS ss p 4)=wd at*
  generalize hF:fnd ss p 4=o at*
  generalize hD:o.getD dF=x at*
  obtain⟨⟨lv,⟨wa,wb,wc⟩,od⟩,⟨nm,v,imp⟩⟩:=x
  simp only at hq hv hM3 f3 hnm
  cases hb:o.isSome with
  |false=>
   rw[if_neg (by rw[hb];simp)]at hM3
   simp -implicitDefEqProofs only[hF,hD,hb,hM3,qZ,Int.cast_ofNat_Int,Int.natCast_zero,Int.natCast_one,hs,zN,Sh.enc,fdV,fdE,zj,zf,zw,zA,Sh.eta',List.isEmpty_cons,List.isEmpty_nil,zc,zb,za,go_sem,seval,reduceIte,reduceCtorEq]
   exact⟨⟨4,_⟩,by dsimp only;omega,by dsimp only;omega,rfl,rfl,rfl⟩
  |true=>
   rw[if_pos hb,f3 hb]at hM3
   have hv:=hv hb
   rw[f3 hb]at hv
   by_cases hn:zy nm=JT
   ·rw[if_pos hn]at hM3
    unfold yA at hv
    rw[if_pos ⟨by omega,by omega,hn⟩]at hv
    cases hL:qy v with
    |none=>rw[hL]at hv;cases hv
    |some l=>
     have h4:=qr hL
     rw[hL,Option.getD_some]at hM3
     have hg:=z4 l 3
     have hlt:=eq_true (show(3:Int)<(l.length:Int)by omega)
     have hn:=eq_true (show zy nm=⟨#[109,97,114,103,105,110]⟩from hn)
     simp -implicitDefEqProofs only[hF,hD,hb,hM3,hn,hnm,hq,hL,hg,hlt,ZY,zH,zK,Option.getD_some,Option.isSome_some,qZ,Int.cast_ofNat_Int,Int.natCast_zero,Int.natCast_one,hs,zN,Sh.enc,fdV,fdE,zj,zf,zw,zA,Sh.eta',List.isEmpty_cons,List.isEmpty_nil,zc,zb,za,go_sem,seval,reduceIte,reduceCtorEq]
     exact⟨⟨4,_⟩,by dsimp only;omega,by dsimp only;omega,rfl,rfl,rfl⟩
   ·rw[if_neg hn]at hM3
    have hn:=eq_false (show ¬zy nm=⟨#[109,97,114,103,105,110]⟩from hn)
    simp -implicitDefEqProofs only[hF,hD,hb,hM3,hn,hnm,hq,zJ,qZ,Int.cast_ofNat_Int,Int.natCast_zero,Int.natCast_one,hs,zN,Sh.enc,fdV,fdE,zj,zf,zw,zA,Sh.eta',List.isEmpty_cons,List.isEmpty_nil,zc,zb,za,go_sem,seval,reduceIte,reduceCtorEq]
    exact⟨⟨4,_⟩,by dsimp only;omega,by dsimp only;omega,rfl,rfl,rfl⟩
 ·simp -implicitDefEqProofs only[qZ,zk,Int.cast_ofNat_Int,hs,zN,Sh.enc,fdV,fdE,zj,zf,zw,zA,Sh.eta',List.isEmpty_cons,List.isEmpty_nil,zc,zb,za,go_sem,seval,reduceIte,reduceCtorEq]
end
theorem znz:ze Tryz.prog 71 [zI] (vb true):=by
 refine ze.of (Orc.nil _) zwN (by simp[c71]) fun w0 own0=> ?_
 simp -implicitDefEqProofs only[c71,zc,zb,za,go_sem,seval,reduceIte,reduceCtorEq]
 refine zG.lp (α:=Nat) (fun _=>[(0,zI),(3,vi 0)]) (fun k=>⟨[],k⟩) (fun _=>True) (fun _=>0) 0 trivial (St.cut ?_ ?_ ?_) fun a _=> ?_
 ·simp[zq,zo,zt]
 ·rfl
 ·rfl
 simp -implicitDefEqProofs only[c71,zc,zb,za,go_sem,seval,reduceIte,reduceCtorEq]
def YS:Sum Tryz.prog:=⟨71,fun args=>args= [zI],fun args=>vb true,fun args h=>by
 have:=znz;rwa [←h]at this,true⟩
theorem zhe:YS.f=71:=rfl
theorem zhd(args:List V):YS.D args=(args= [zI]):=rfl
theorem zar:YS.flat=true:=rfl
theorem zhf(args:List V):YS.r args=vb true:=rfl
attribute [go_sem] zhe zhd zar zhf
theorem znw{s:List (List Rul)}{k:Nat}(h:k<s.length)(h4:k≤4)(hn:QH (s.getD k [])=false):Q7 s=false:=
 decide_eq_false fun hh=>by have:=hh.1 k h h4;rw[hn]at this;cases this
def zdY(s:List (List Rul)):Prop:=∀l∈s,∀r∈l,zbU r
theorem znx(s:List (List Rul))(hs:zdY s):ze Tryz.prog 33 [zN s,zI] (vb (Q7 s)):=by
 refine ze.of (Orc.cons KE (Orc.cons YS (Orc.nil _))) zwj (by simp[c33]) fun w0 own0=> ?_
 simp -implicitDefEqProofs only[c33,zN,zc,zb,za,go_sem,seval,reduceIte,reduceCtorEq]
 refine zG.lp (α:=FdS) (fun a=>[(0,.slc 1 (s.map shE)),(1,zI),(5,vi a.k)]) (fun a=>⟨[],a.clk⟩)
  (fun a=>a.k≤s.length∧a.k≤5∧∀i,i<a.k→QH (s.getD i [])=true) (fun a=>s.length - a.k) ⟨0,0⟩ ⟨Nat.zero_le _,by dsimp only;omega,fun i hi=>by simp at hi⟩ (St.cut ?_ ?_ ?_) fun a ha=> ?_
 ·simp[zq,zo,zt]
 ·rfl
 ·rfl
 obtain⟨k,clk⟩:=a
 obtain⟨g1,g5,g2⟩:=ha
 simp only at g1 g5 g2
 by_cases he:k<s.length∧k≤4
 case neg=>
  by_cases c:s.length≤4
  ·have hR:Q7 s=true:=decide_eq_true ⟨fun i hi _=>g2 i (by omega),c⟩
   have n4:=eq_true (show(s.length:Int)≤4 by omega)
   have f1:=eq_false (show ¬(k:Int)<(s.length:Int)by omega)
   simp -implicitDefEqProofs only[hR,n4,f1,List.length_map,zc,zb,za,go_sem,seval,reduceIte,reduceCtorEq]
  ·have hR:Q7 s=false:=decide_eq_false fun h=>c h.2
   have n4:=eq_false (show ¬(s.length:Int)≤4 by omega)
   by_cases hk:k<s.length
   ·have f1:=eq_true (show(k:Int)<(s.length:Int)by omega)
    have f4:=eq_false (show ¬(k:Int)≤4 by omega)
    simp -implicitDefEqProofs only[hR,n4,f1,f4,List.length_map,zc,zb,za,go_sem,seval,reduceIte,reduceCtorEq]
   ·have f1:=eq_false (show ¬(k:Int)<(s.length:Int)by omega)
    simp -implicitDefEqProofs only[hR,n4,f1,List.length_map,zc,zb,za,go_sem,seval,reduceIte,reduceCtorEq]
 obtain⟨k1,k2⟩:=he
 have f1:=eq_true (show(k:Int)<(s.length:Int)by omega)
 have f4:=eq_true (show(k:Int)≤4 by omega)
 have f0:=eq_true (show(0:Int)≤(k:Int)by omega)
 have hg:=fun z=>K1 s k z (by omega)
 have hno:=znw (s:=s) k1 k2
 have hnx:QH (s.getD k [])=true→∀i,i<k+1→QH (s.getD i [])=true:=fun h i hi=>by
  by_cases e:i=k
  ·rw[e];exact h
  ·exact g2 i (by omega)
 have hrk:=hs _ (yt (d:=[]) k1)
 generalize s.getD k []=l at*
 cases hf:QH l with
 |true=>
  simp -implicitDefEqProofs only[f0,f1,f4,hg,hf,shE,zgJ,KZ,List.length_map,zc,zb,za,go_sem,seval,reduceIte,reduceCtorEq]
  exact⟨hrk,⟨by omega,by omega⟩,⟨k+1,clk⟩,⟨by dsimp only;omega,by dsimp only;omega,hnx hf⟩,by dsimp only;omega,by dsimp only;omega,rfl⟩
 |false=>
  have h0:=hno hf
  simp -implicitDefEqProofs only[f0,f1,f4,hg,hf,h0,shE,zgJ,KZ,List.length_map,zc,zb,za,go_sem,seval,reduceIte,reduceCtorEq]
  exact hrk
def YR:Sum Tryz.prog:=⟨33,fun args=>args= [zN (zD (args.getD 0 .any)),zI]∧zdY (zD (args.getD 0 .any)),fun args=>vb (Q7 (zD (args.getD 0 .any))),fun args h=>by
 have:=znx (zD (args.getD 0 .any)) h.2;rwa [←h.1]at this,true⟩
theorem zg8:YR.f=33:=rfl
theorem zg7(args:List V):YR.D args=(args= [zN (zD (args.getD 0 .any)),zI]∧zdY (zD (args.getD 0 .any))):=rfl
theorem zap:YR.flat=true:=rfl
theorem zg9(args:List V):YR.r args=vb (Q7 (zD (args.getD 0 .any))):=rfl
attribute [go_sem] zg8 zg7 zap zg9
def XA(s:List (List Rul))(p:Sh):Bool:=Q7 s&&decide (p.name.size≤100)
theorem zny(s:List (List Rul))(p:Sh)(hs:zdY s):ze Tryz.prog 11 [zN s,.agg p.enc] (vb (XA s p)):=by
 refine ze.of (Orc.cons YR (Orc.nil _)) zvQ (by simp[c11]) fun w0 own0=> ?_
 unfold XA
 cases hf:Q7 s with
 |true=>
  simp -implicitDefEqProofs only[c11,zN,Sh.enc,hs,hf,zw,List.isEmpty_cons,zc,zb,za,go_sem,seval,reduceIte,reduceCtorEq]
  rw[Bool.eq_iff_iff,decide_eq_true_eq,decide_eq_true_eq];omega
 |false=>simp -implicitDefEqProofs only[c11,zN,Sh.enc,hs,hf,zw,List.isEmpty_cons,zc,zb,za,go_sem,seval,reduceIte,reduceCtorEq]
def jH:Sum Tryz.prog:=⟨11,fun args=>args= [zN (zD (args.getD 0 .any)),.agg (Sh.enc (zR (args.getD 1 .any)))]∧zdY (zD (args.getD 0 .any)),fun args=>vb (XA (zD (args.getD 0 .any)) (zR (args.getD 1 .any))),fun args h=>by
 have:=zny (zD (args.getD 0 .any)) (zR (args.getD 1 .any)) h.2;rwa [←h.1]at this,true⟩
theorem zhb:jH.f=11:=rfl
theorem zha(args:List V):jH.D args=(args= [zN (zD (args.getD 0 .any)),.agg (Sh.enc (zR (args.getD 1 .any)))]∧zdY (zD (args.getD 0 .any))):=rfl
theorem zaq:jH.flat=true:=rfl
theorem zhc(args:List V):jH.r args=vb (XA (zD (args.getD 0 .any)) (zR (args.getD 1 .any))):=rfl
attribute [go_sem] zhb zha zaq zhc
theorem zga{s:List (List Rul)}{p:Sh}(h:XA s p=true)(h3:s.length≤3)(h6:zdY s):qu s:=by
 unfold XA at h
 rw[Bool.and_eq_true]at h
 refine⟨h3,fun l hl=> ?_⟩
 have h:=h.1
 unfold Q7 at h;rw[decide_eq_true_eq]at h
 obtain⟨i,hi,rfl⟩:=Zz (d:=[]) hl
 have:=zto (h.1 i hi (by omega))
 exact⟨this.1,fun r hr=>⟨this.2 r hr,h6 _ hl r hr⟩⟩
def zSt:List V:=[vi 0,vi 0,vi 0,vi 0,vi 0,vi 0,zI,zI,zI,vs ⟨#[]⟩,vi 0]
theorem zop(ss:List (List Rul))(p:Sh)(h:3<ss.length):ze Tryz.prog 12 [zN ss,.agg p.enc] (.tup [.agg zSt,vi 1]):=by
 refine ze.of (Orc.nil _) zmX (by simp[c12]) fun w0 own0=> ?_
 have e1:=eq_true (show(3:Int)<(ss.length:Int)by omega)
 simp -implicitDefEqProofs only[c12,zN,Sh.enc,zSt,e1,zk,zW,List.length_map,List.isEmpty_cons,List.isEmpty_nil,zc,zb,za,go_sem,seval,reduceIte,reduceCtorEq]
def WL:Sum Tryz.prog:=⟨12,fun args=>args= [zN (zD (args.getD 0 .any)),.agg (Sh.enc (zR (args.getD 1 .any)))]∧3<((zD (args.getD 0 .any))).length,fun args=>.tup [.agg zSt,vi 1],fun args h=>by
 have:=zop (zD (args.getD 0 .any)) (zR (args.getD 1 .any)) h.2;rwa [←h.1]at this,false⟩
theorem zqn:WL.f=12:=rfl
theorem zqm(args:List V):WL.D args=(args= [zN (zD (args.getD 0 .any)),.agg (Sh.enc (zR (args.getD 1 .any)))]∧3<((zD (args.getD 0 .any))).length):=rfl
theorem zfb:WL.flat=false:=rfl
theorem zqo(args:List V):WL.r args= .tup [.agg zSt,vi 1]:=rfl
attribute [go_sem] zqn zqm zfb zqo
def zfa:Sum Tryz.prog:=⟨12,fun args=>args= [zN (zD (args.getD 0 .any)),.agg (Sh.enc (zR (args.getD 1 .any)))]∧qu (zD (args.getD 0 .any)),fun args=>.tup [.agg (zd2 (zD (args.getD 0 .any)) (zR (args.getD 1 .any))),vi 0],fun args h=>by
 have:=ztX (zD (args.getD 0 .any)) (zR (args.getD 1 .any)) h.2;rwa [←h.1]at this,false⟩
theorem zus:zfa.f=12:=rfl
theorem zur(args:List V):zfa.D args=(args= [zN (zD (args.getD 0 .any)),.agg (Sh.enc (zR (args.getD 1 .any)))]∧qu (zD (args.getD 0 .any))):=rfl
theorem zht:zfa.flat=false:=rfl
theorem zut(args:List V):zfa.r args= .tup [.agg (zd2 (zD (args.getD 0 .any)) (zR (args.getD 1 .any))),vi 0]:=rfl
attribute [go_sem] zus zur zht zut
theorem zgY:ze Tryz.prog 13 [.agg zSt,.agg zSt] (vb true):=
 ze.asub 3 (zbj (L:=[vi 0,vi 0,vi 0,vi 0,vi 0,vi 0,yO [],yO [],yO [],vs ⟨#[]⟩,vi 0]) ⟨0,0,0,0,0,0,0,[],[],[],⟨#[]⟩,rfl,X2,X2,X2⟩)
  ⟨Or.inr ⟨Sub.rfl 2 _,Sub.rfl 2 _,Sub.rfl 2 _,Sub.rfl 2 _,Sub.rfl 2 _,Sub.rfl 2 _,Or.inr rfl,Or.inr rfl,Or.inr rfl,Sub.rfl 2 _,Sub.rfl 2 _,trivial⟩,Or.inr ⟨Sub.rfl 2 _,Sub.rfl 2 _,Sub.rfl 2 _,Sub.rfl 2 _,Sub.rfl 2 _,Sub.rfl 2 _,Or.inr rfl,Or.inr rfl,Or.inr rfl,Sub.rfl 2 _,Sub.rfl 2 _,trivial⟩,trivial⟩
def KP:Sum Tryz.prog:=⟨13,fun args=>args= [.agg zSt,.agg zSt],fun args=>vb true,fun args h=>by
 have:=zgY;rwa [←h]at this,true⟩
theorem zlJ:KP.f=13:=rfl
theorem zlI(args:List V):KP.D args=(args= [.agg zSt,.agg zSt]):=rfl
theorem zcC:KP.flat=true:=rfl
theorem zlK(args:List V):KP.r args=vb true:=rfl
attribute [go_sem] zlJ zlI zcC zlK
def KH:Sum Tryz.prog:=⟨15,fun args=>args= [zN (zD (args.getD 0 .any)),.agg (Sh.enc (zR (args.getD 1 .any)))]∧qu (zD (args.getD 0 .any)),fun args=>.agg [vi (yD (zS (zD (args.getD 0 .any)) (zR (args.getD 1 .any)) 1) 0),vi (yD (zS (zD (args.getD 0 .any)) (zR (args.getD 1 .any)) 2) 1),vi (yD (zS (zD (args.getD 0 .any)) (zR (args.getD 1 .any)) 3) 2),vi (yD (zS (zD (args.getD 0 .any)) (zR (args.getD 1 .any)) 4) 3)],fun args h=>by
 have:=zgu (zD (args.getD 0 .any)) (zR (args.getD 1 .any)) h.2;rwa [←h.1]at this,false⟩
theorem zli:KH.f=15:=rfl
theorem zlh(args:List V):KH.D args=(args= [zN (zD (args.getD 0 .any)),.agg (Sh.enc (zR (args.getD 1 .any)))]∧qu (zD (args.getD 0 .any))):=rfl
theorem zct:KH.flat=false:=rfl
theorem zlj(args:List V):KH.r args= .agg [vi (yD (zS (zD (args.getD 0 .any)) (zR (args.getD 1 .any)) 1) 0),vi (yD (zS (zD (args.getD 0 .any)) (zR (args.getD 1 .any)) 2) 1),vi (yD (zS (zD (args.getD 0 .any)) (zR (args.getD 1 .any)) 3) 2),vi (yD (zS (zD (args.getD 0 .any)) (zR (args.getD 1 .any)) 4) 3)]:=rfl
attribute [go_sem] zli zlh zct zlj
def KQ:Sum Tryz.prog:=⟨16,fun args=>args= [zN (zD (args.getD 0 .any)),.agg (Sh.enc (zR (args.getD 1 .any))),vi (-1),vi 8,vs ((args.getD 4 .any).str)]∧qu (zD (args.getD 0 .any)),fun args=>vs (zf1 (zS (zD (args.getD 0 .any)) (zR (args.getD 1 .any)) 8) ((args.getD 4 .any).str)),fun args h=>by
 have:=zux (zD (args.getD 0 .any)) (zR (args.getD 1 .any)) ((args.getD 4 .any).str) h.2;rwa [←h.1]at this,true⟩
theorem zlP:KQ.f=16:=rfl
theorem zlO(args:List V):KQ.D args=(args= [zN (zD (args.getD 0 .any)),.agg (Sh.enc (zR (args.getD 1 .any))),vi (-1),vi 8,vs ((args.getD 4 .any).str)]∧qu (zD (args.getD 0 .any))):=rfl
theorem zcE:KQ.flat=true:=rfl
theorem zlQ(args:List V):KQ.r args=vs (zf1 (zS (zD (args.getD 0 .any)) (zR (args.getD 1 .any)) 8) ((args.getD 4 .any).str)):=rfl
attribute [go_sem] zlP zlO zcE zlQ
def KK:Sum Tryz.prog:=⟨17,fun args=>args= [zN (zD (args.getD 0 .any)),.agg (Sh.enc (zR (args.getD 1 .any))),vi (-1),vi 9,vi ((args.getD 4 .any).int)]∧qu (zD (args.getD 0 .any)),fun args=>vi (zgo (zS (zD (args.getD 0 .any)) (zR (args.getD 1 .any)) 9) ((args.getD 4 .any).int)),fun args h=>by
 have:=zjZ (zD (args.getD 0 .any)) (zR (args.getD 1 .any)) ((args.getD 4 .any).int) h.2;rwa [←h.1]at this,true⟩
theorem zlo:KK.f=17:=rfl
theorem zln(args:List V):KK.D args=(args= [zN (zD (args.getD 0 .any)),.agg (Sh.enc (zR (args.getD 1 .any))),vi (-1),vi 9,vi ((args.getD 4 .any).int)]∧qu (zD (args.getD 0 .any))):=rfl
theorem zcv:KK.flat=true:=rfl
theorem zlp(args:List V):KK.r args=vi (zgo (zS (zD (args.getD 0 .any)) (zR (args.getD 1 .any)) 9) ((args.getD 4 .any).int)):=rfl
attribute [go_sem] zlo zln zcv zlp
def lwB(ss:List (List Rul))(p:Sh)(v3:Nat)(B1 B2 B4 B5:Blk):List Blk:=[⟨0,1,[[zN ss]],false,[]⟩,B1,B2,⟨v3,6,[p.enc],false,[]⟩,B4,B5]
theorem zoc(ss:List (List Rul))(p:Sh)(hs:qu ss)(v3:Nat)(B1 B2 B4 B5:Blk)(clk:Nat)(pr u:Int)(h0:0≤pr)(h9:pr≤9):
  zB Tryz.prog 19 [vi pr,vi u,.ptr 0 0 0 0,.ptr 3 v3 0 0] ⟨lwB ss p v3 B1 B2 B4 B5,clk⟩ (YO u (yy (zS ss p pr.toNat)).v) ⟨lwB ss p v3 B1 B2 B4 B5,clk+10⟩:=by
 refine zB.walkL (Orc.cons Yf (Orc.cons Qh (Orc.nil _))) zwb (by simp[c19]) fun w0 own0=> ?_
 have hq:=(yX ss p pr.toNat hs).1
 obtain⟨f1,f2,_⟩:=JI ss p pr.toNat
 rw[f2]at hq
 unfold YO
 rw[f2]
 clear f1 f2
 generalize hF:fnd ss p pr.toNat=o at*
 generalize hD:o.getD dF=x at*
 obtain⟨⟨lv,⟨wa,wb,wc⟩,od⟩,⟨nm,v,imp⟩⟩:=x
 simp only at hq
 simp -implicitDefEqProofs only[c19,lwB,zN,Sh.enc,h0,h9,hs,hF,hD,hq,fdV,fdE,spV,yO,zj,zw,zA,Sh.eta',zf,List.isEmpty_cons,List.isEmpty_nil,zc,zb,za,go_sem,seval,reduceIte,reduceCtorEq]
 omega
structure Lw1OK (A:ESum Tryz.prog) (ss:List (List Rul)) (p:Sh):Prop where
 f:A.f=19
 pre:∀v3 B1 B2 B4 B5 clk(pr u:Int),0≤pr→pr≤9→A.pre [.c (.int .i64 pr),.c (.int .i64 u),.ptr 0 0 0 0,.ptr 3 v3 0 0] ⟨lwB ss p v3 B1 B2 B4 B5,clk⟩
 v:∀v3(pr u:Int) h,A.v [.c (.int .i64 pr),.c (.int .i64 u),.ptr 0 0 0 0,.ptr 3 v3 0 0] h=YO u (yy (zS ss p pr.toNat)).v
 hp:∀args h,A.hp args h=⟨h.bs,h.clk+10⟩
theorem ztN(ss:List (List Rul))(p:Sh)(hs:qu ss):∃A:ESum Tryz.prog,Lw1OK A ss p:=by
 refine⟨⟨19,fun args h=>∃(v3:Nat)(B1 B2 B4 B5:Blk)(clk:Nat)(pr u:Int),0≤pr∧pr≤9∧args= [.c (.int .i64 pr),.c (.int .i64 u),.ptr 0 0 0 0,.ptr 3 v3 0 0]∧h=⟨lwB ss p v3 B1 B2 B4 B5,clk⟩,fun args _=>YO (args.getD 1 .any).int (yy (zS ss p (args.getD 0 .any).int.toNat)).v,fun _ h=>⟨h.bs,h.clk+10⟩,fun args h hp=> ?_⟩,rfl,
  fun v3 B1 B2 B4 B5 clk pr u h1 h2=>⟨v3,B1,B2,B4,B5,clk,pr,u,h1,h2,rfl,rfl⟩,fun _ _ _ _=>rfl,fun _ _=>rfl⟩
 obtain⟨v3,B1,B2,B4,B5,clk,pr,u,h1,h2,rfl,rfl⟩:=hp
 exact zoc ss p hs v3 B1 B2 B4 B5 clk pr u h1 h2
theorem JS(x:V)(hx:CellOK (.slc zx1) x)(y:List V)(hl:y.length=6)(hy:∀i c,shC[i]? =some c→CellOK c (y.getD i .any)):
  ze Tryz.prog 4 [x,.agg y] (.c (.bool true)):=by
 obtain⟨ss,rfl,h6⟩:=zue hx
 have h6:zdY ss:=h6
 obtain⟨p,rfl⟩:=zx0 hl hy
 cases hf:XA ss p with
 |false=>
  refine ze.of (Orc.cons jH (Orc.cons Z4 (Orc.nil _))) zm1 (by simp[c4]) fun w0 own0=> ?_
  simp -implicitDefEqProofs only[c4,zN,Sh.enc,h6,hf,zw,zA,Sh.eta',List.isEmpty_cons,zc,zb,za,go_sem,seval,reduceIte,reduceCtorEq]
 |true=>
 by_cases c:3<ss.length
 ·refine ze.of (Orc.cons jH (Orc.cons WL (Orc.cons KP (Orc.cons Z4 (Orc.nil _))))) zm1 (by simp[c4]) fun w0 own0=> ?_
  have e1:=eq_true (show(3:Int)<(ss.length:Int)by omega)
  have c:=eq_true c
  simp -implicitDefEqProofs only[c4,zN,Sh.enc,zSt,h6,hf,c,e1,zw,zA,Sh.eta',List.length_map,List.isEmpty_cons,List.isEmpty_nil,zc,zb,za,go_sem,seval,reduceIte,reduceCtorEq]
 have hs:=zga hf (by omega) h6
 have e1:=eq_false (show ¬(3:Int)<(ss.length:Int)by omega)
 obtain⟨A,aF,aP,aV,aH⟩:=ztN ss p hs
 simp only[lwB,zN,Sh.enc]at aP
 have hst:zuk (zd2 ss p):=⟨_,_,_,_,_,_,_,_,_,_,_,rfl,zgQ _ _ (yX ss p 5 hs).1.1,zgQ _ _ (yX ss p 6 hs).1.1,zgQ _ _ (yX ss p 7 hs).1.1⟩
 refine ze.of (Orc.econs A (Orc.cons YW (Orc.cons jH (Orc.cons zfa (Orc.cons Wy (Orc.cons KH (Orc.cons KQ (Orc.cons KK (Orc.cons Yf (Orc.cons Qg (Orc.cons Z4 (Orc.nil _)))))))))))) zm1 (by simp[c4]) fun w0 own0=> ?_
 obtain⟨q1,q2,_⟩:=JI ss p 0
 have hq0:=(yX ss p 0 hs).1.1
 rw[q2]at hq0
 have hz:szS (zS ss p 0)=if(fnd ss p 0).isSome=true then(Qn (kpT ((fnd ss p 0).getD dF).2.v)).getD (0,0)else(793700,1122519):=by unfold szS;rw[q1,q2]
 have hD:=zhu _ hst
 unfold zd2 at hD
 obtain⟨z,hZ⟩:∃z,szS (zS ss p 0)=z:=⟨_,rfl⟩
 obtain⟨m0,hM0⟩:∃z,yD (zS ss p 1) 0=z:=⟨_,rfl⟩
 obtain⟨m1,hM1⟩:∃z,yD (zS ss p 2) 1=z:=⟨_,rfl⟩
 obtain⟨m2,hM2⟩:∃z,yD (zS ss p 3) 2=z:=⟨_,rfl⟩
 obtain⟨m3,hM3⟩:∃z,yD (zS ss p 4) 3=z:=⟨_,rfl⟩
 obtain⟨x5,hW5⟩:∃x,YO 0 (yy (zS ss p 5)).v= .slc 3 x:=⟨_,rfl⟩
 obtain⟨x6,hW6⟩:∃x,YO 1 (yy (zS ss p 6)).v= .slc 3 x:=⟨_,rfl⟩
 obtain⟨x7,hW7⟩:∃x,YO 0 (yy (zS ss p 7)).v= .slc 3 x:=⟨_,rfl⟩
 obtain⟨k8,hW8⟩:∃x,zf1 (zS ss p 8) zjG=x:=⟨_,rfl⟩
 obtain⟨k9,hW9⟩:∃x,zgo (zS ss p 9) 16000=x:=⟨_,rfl⟩
 rw[hZ,hM0,hM1,hM2,hM3,hW5,hW6,hW7,hW8,hW9]at hD
 rw[hZ]at hz
 have a5:=fun v3 B1 B2 B4 B5 clk=>eq_true (aP v3 B1 B2 B4 B5 clk 5 0 (by omega) (by omega))
 have a6:=fun v3 B1 B2 B4 B5 clk=>eq_true (aP v3 B1 B2 B4 B5 clk 6 1 (by omega) (by omega))
 have a7:=fun v3 B1 B2 B4 B5 clk=>eq_true (aP v3 B1 B2 B4 B5 clk 7 0 (by omega) (by omega))
 have b5:=fun v3 h=>(aV v3 5 0 h).trans hW5
 have b6:=fun v3 h=>(aV v3 6 1 h).trans hW6
 have b7:=fun v3 h=>(aV v3 7 0 h).trans hW7
 clear aP aV q1 q2
 have hk:(⟨#[98,108,97,99,107]⟩:ByteArray)=zjG:=rfl
 have hsz:=zbg ((fnd ss p 0).getD dF).2.v
 generalize hF:fnd ss p 0=o at*
 generalize hDF:o.getD dF=x at*
 obtain⟨⟨lv,⟨wa,wb,wc⟩,od⟩,⟨nm,v,imp⟩⟩:=x
 simp only at hq0 hz hsz
 have hqt:=J9 hq0
 cases hb:o.isSome with
 |false=>
  rw[if_neg (by rw[hb];simp)]at hz
  rw[hz]at hD
  dsimp only at hD
  simp -implicitDefEqProofs only[c4,zd2,zN,Sh.enc,h6,hf,hs,e1,hZ,hM0,hM1,hM2,hM3,hW5,hW6,hW7,hW8,hW9,hk,hF,hDF,hb,hz,hD,a5,a6,a7,b5,b6,b7,aF,aH,fdV,fdE,WS,Qw,WT,KS,zfw,zbo,zfC,QV,zdc,JC,V.allK,V.isK,O.still,X0,zcI,zj,zf,zw,zA,Sh.eta',List.length_map,List.isEmpty_cons,List.isEmpty_nil,zc,zb,za,go_sem,seval,reduceIte,reduceCtorEq]
 |true=>
  rw[if_pos hb]at hz
  rw[hz]at hD
  simp -implicitDefEqProofs only[c4,zd2,zN,Sh.enc,h6,hf,hs,e1,hZ,hM0,hM1,hM2,hM3,hW5,hW6,hW7,hW8,hW9,hk,hF,hDF,hb,hz,hD,hqt,hsz,yr,a5,a6,a7,b5,b6,b7,aF,aH,fdV,fdE,WS,Qw,WT,KS,zfw,zbo,zfC,QV,zdc,JC,V.allK,V.isK,O.still,X0,zcI,zj,zf,zw,zA,Sh.eta',List.length_map,List.isEmpty_cons,List.isEmpty_nil,zc,zb,za,go_sem,seval,reduceIte,reduceCtorEq]
end Go.Proofs.YtlaopdfpncckeaaGreatDoor
