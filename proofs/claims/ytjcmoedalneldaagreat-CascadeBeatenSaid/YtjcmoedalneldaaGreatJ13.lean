/- Part of the proof of layer-11. No condition. -/
import Derived.Test.YtjcmoedalneldaaGreatE4
import Derived.Test.YtjcmoedalneldaaGreatJ11
import Derived.Test.YtjcmoedalneldaaGreatJ10
import Derived.Test.YtjcmoedalneldaaGreatV7v
namespace Go.Proofs.YtjcmoedalneldaaGreat
open Go.Sx
set_option linter.unusedSimpArgs false
set_option linter.unusedVariables false
set_option maxHeartbeats 8000000
set_option maxRecDepth 100000
attribute [go_sem] zfj zvh zvH zvI zvG zqc xe kD QO Orc.ppre_cons Orc.pr_cons Orc.ppre_econs Orc.pr_econs Orc.ppre_fcons Orc.pr_fcons Orc.ppre_gcons Orc.pr_gcons List.head?_cons List.headD_cons XE.val XE.heap efO qa yS jY V.tops V.top1 jx Xc Orc.flat_fcons Orc.pre_fcons Orc.v_fcons Orc.hp_fcons Orc.qpre_fcons Orc.qv_fcons Orc.fpre_fcons Orc.fes_fcons Orc.flat_gcons Orc.pre_gcons Orc.v_gcons Orc.hp_gcons Orc.qpre_gcons Orc.qv_gcons Orc.fpre_gcons Orc.fes_gcons GSum.pre GSum.v GSum.hp Orc.fpre_cons Orc.fes_cons Orc.fpre_econs Orc.fes_econs FSum.pre FSum.v FSum.hp zrn O.calls List.flatMap_cons List.flatMap_nil List.contains_cons List.contains_nil Bool.not_true Bool.not_false Heap.freeze List.mapIdx_cons List.mapIdx_nil List.elem_cons List.elem_nil yU zZ evF bne_iff_ne ne_eq Option.some.injEq Orc.flat_econs Orc.pre_econs Orc.v_econs Orc.hp_econs Orc.qpre_econs Orc.qv_econs
def zaM(v:List Tok):Prop:=v.length≤1000000∧∀k,k≤v.length→zg Tryz.prog 154 [zj v,zE (zz v),vi k] (srV (yJ v k))∧((yJ v k).ok=true→k<(yJ v k).to∧(yJ v k).to≤v.length)
theorem zyc{v:List Tok}{k:Int}(h0:0≤k)(h1:k≤v.length)(h:zaM v):zg Tryz.prog 154 [zj v,zE (zz v),vi k] (srV (yJ v k.toNat)):=by
 have:=(h.2 k.toNat (by omega)).1;rwa [Int.toNat_of_nonneg h0]at this
def zcg:Sum Tryz.prog:=⟨154,fun args=>args= [zj (zh (args.getD 0 .any)),zE (zz (zh (args.getD 0 .any))),vi ((args.getD 2 .any).int)]∧0≤((args.getD 2 .any).int)∧((args.getD 2 .any).int)≤((zh (args.getD 0 .any))).length∧zaM (zh (args.getD 0 .any)),fun args=>srV (yJ (zh (args.getD 0 .any)) (((args.getD 2 .any).int)).toNat),fun args h=>by
 have:=zyc h.2.1 h.2.2.1 h.2.2.2;rwa [←h.1]at this,false⟩
theorem zur:zcg.f=154:=rfl
theorem zuq(args:List V):zcg.D args=(args= [zj (zh (args.getD 0 .any)),zE (zz (zh (args.getD 0 .any))),vi ((args.getD 2 .any).int)]∧0≤((args.getD 2 .any).int)∧((args.getD 2 .any).int)≤((zh (args.getD 0 .any))).length∧zaM (zh (args.getD 0 .any))):=rfl
theorem zhG:zcg.flat=false:=rfl
theorem zus(args:List V):zcg.r args=srV (yJ (zh (args.getD 0 .any)) (((args.getD 2 .any).int)).toNat):=rfl
attribute [go_sem] zur zuq zhG zus
theorem yP(S:Nat→Bool)(h:Heap)(j ver off len:Nat):res S h 10 (.ref j ver off len)=
 if S j&&h.cur j ver&&decide (off+len≤(h.blk j).es.length)then(zB (zB (res S h 9)) (((h.blk j).es.drop off).take len)).map (.slc (h.blk j).sz)else none:=rfl
theorem Kp(S:Nat→Bool)(h:Heap)(l:List Smp):zB (zB (res S h 9)) (l.map Smp.enc)=some (l.map Smp.enc):=qH S h 8 _ (fun _=>rfl) l
def JN(v:List Tok):Nat→Nat→List Smp→List Smp×Nat
 |0,k,L=>(L,k)
 |f+1,k,L=>if(yJ v k).ok=false∨(0<L.length∧(yJ v k).s.kind≤2)then(L,k)else JN v f (yJ v k).to (L++ [(yJ v k).s])
def j5(v:List Tok)(k:Nat):List Smp×Nat:=JN v (v.length+1) k []
def crV(r:List Smp×Nat):V:=.tup [.agg [vi 0,.slc 3 (r.1.map Smp.enc)],vi r.2,vb (decide ((0:Int)<(r.1.length:Int)))]
structure CdS8 where
 k:Nat
 L:List Smp
 f:Nat
 ver:Nat
 clk:Nat
theorem zfG(v:List Tok)(hS:zaM v)(k:Nat)(hk:k≤v.length):zg Tryz.prog 128 [zj v,zE (zz v),vi k] (crV (j5 v k)):=by
 refine zg.of (Orc.cons zcg (Orc.nil _)) zwi (by simp[zzJ]) fun w0 o0=> ?_
 have hl:=hS.1
 unfold j5
 generalize hR:JN v (v.length+1) k []=R
 simp only[zzJ,zj,zE,go_sem,zc,seval,reduceIte,reduceCtorEq]
 refine zD.lp (α:=CdS8) (fun x=>[(0,.slc 3 (v.map Tok.enc)),(1,.slc 1 ((zz v).map fun n=>[vi n])),(2,vi x.k),(6,.ptr 0 0 0 0),(9,.ptr 1 1 0 0)])
  (fun x=>⟨[⟨0,2,[[vi 0,zA]],false,[]⟩,⟨1,2,[[vi 0,.ref 2 x.ver 0 x.L.length]],false,[]⟩,⟨x.ver,3,x.L.map Smp.enc,false,[vi 0,vs ⟨#[]⟩,vs ⟨#[]⟩]⟩],x.clk⟩)
  (fun x=>x.k≤v.length∧x.L.length≤x.k∧v.length+1≤x.f+x.k∧JN v x.f x.k x.L=R) (fun x=>v.length - x.k) ⟨k,[],v.length+1,2,3⟩
  ⟨hk,by simp,by dsimp only;omega,hR⟩ (St.cell 1 0 1 3 [vi 0,vs ⟨#[]⟩,vs ⟨#[]⟩] rfl rfl (St.cut ?_ ?_ ?_)) fun x hx=> ?_
 ·simp[zu,zk,zt]
 ·simp[Heap.alloc]
 ·rfl
 obtain⟨k,L,f,ver,clk⟩:=x
 obtain⟨h1,h2,h3,h4⟩:=hx
 simp only at h1 h2 h3 h4
 obtain⟨f,rfl⟩:∃g,f=g+1:=⟨f - 1,by omega⟩
 have e0:(0:Int)≤(k:Int):=by omega
 have e1:(k:Int)≤(v.length:Int):=by omega
 have hr:=(hS.2 k h1).2
 have htl:L.take L.length=L:=List.take_length
 simp only[JN]at h4
 generalize hrr:yJ v k=r at*
 obtain⟨⟨kd,tx,vl⟩,to,ok⟩:=r
 simp only at hr h4
 cases ok with
 |false=>
  rw[if_pos (.inl rfl)]at h4
  subst h4
  simp only[e0,e1,hrr,hS,hl,htl,Kp,yP,Nat.le_refl,←List.map_take,srV,crV,Smp.enc,zf,zj,zE,Int.toNat_natCast,zn,zd,zb,za,go_sem,seval,reduceIte,reduceCtorEq]
 |true=>
  by_cases hL:0<L.length∧kd≤2
  ·rw[if_pos (.inr hL)]at h4
   subst h4
   have q1:(0:Int)<(L.length:Int):=by omega
   have q2:=eq_true hL.2
   simp only[e0,e1,q1,q2,hrr,hS,hl,htl,Kp,yP,Nat.le_refl,←List.map_take,srV,crV,Smp.enc,zf,zj,zE,Int.toNat_natCast,zn,zd,zb,za,go_sem,seval,reduceIte,reduceCtorEq]
  ·rw[if_neg (fun hh=>by rcases hh with h|h; ·cases h
                         ·exact hL h)]at h4
   obtain⟨g1,g2⟩:=hr rfl
   by_cases q1:0<L.length
   ·have q2:=eq_false (fun h=>hL ⟨q1,h⟩)
    have q1:(0:Int)<(L.length:Int):=by omega
    simp only[e0,e1,q1,q2,hrr,hS,hl,htl,Kp,yP,Nat.le_refl,←List.map_take,srV,crV,Smp.enc,zf,zj,zE,Int.toNat_natCast,zn,zd,zb,za,go_sem,seval,reduceIte,reduceCtorEq]
    exact⟨⟨by omega,by omega⟩,⟨to,L++ [⟨kd,tx,vl⟩],f,clk+1+1,clk+1+1+1⟩,⟨g2,by simp;omega,by dsimp only;omega,h4⟩,by dsimp only;omega,by simp[Smp.enc]⟩
   ·have q1:=eq_false (show ¬(0:Int)<(L.length:Int)by omega)
    simp only[e0,e1,q1,hrr,hS,hl,htl,Kp,yP,Nat.le_refl,←List.map_take,srV,crV,Smp.enc,zf,zj,zE,Int.toNat_natCast,zn,zd,zb,za,go_sem,seval,reduceIte,reduceCtorEq]
    exact⟨⟨by omega,by omega⟩,⟨to,L++ [⟨kd,tx,vl⟩],f,clk+1+1,clk+1+1+1⟩,⟨g2,by simp;omega,by dsimp only;omega,h4⟩,by dsimp only;omega,by simp[Smp.enc]⟩
def QJ(v:List Tok):Nat→Nat→Int→Int×Nat
 |0,k,n=>(n,k)
 |f+1,k,n=>if knd v k=1∨(n≠2∧dlm v k ⟨#[62]⟩=true)then QJ v f (k+1) (if knd v k=11 then 2 else if n<1 then 1 else n)else(n,k)
def jF(v:List Tok)(k:Nat):Int×Nat:=QJ v (v.length+1) k 0
structure LkS8 where
 k:Nat
 n:Int
 f:Nat
theorem zxD(v:List Tok)(hl:v.length≤1000000)(k:Nat)(hk:k≤v.length):zg Tryz.prog 129 [zj v,vi k] (.tup [vi (jF v k).1,vi (jF v k).2]):=by
 refine zg.of (Orc.cons Qb (Orc.cons Yi (Orc.nil _))) zwj (by simp[zzK]) fun w0 o0=> ?_
 unfold jF
 generalize hR:QJ v (v.length+1) k 0=R
 simp only[zzK,zj,zd,zb,za,go_sem,seval,reduceIte,reduceCtorEq]
 refine zD.lp (α:=LkS8) (fun x=>[(0,.slc 3 (v.map Tok.enc)),(1,vi x.k),(6,vi x.n)]) (fun _=>⟨[],0⟩)
  (fun x=>x.k≤v.length∧(x.n=0∨x.n=1∨x.n=2)∧v.length+1≤x.f+x.k∧QJ v x.f x.k x.n=R) (fun x=>v.length - x.k) ⟨k,0,v.length+1⟩
  ⟨hk,.inl rfl,by dsimp only;omega,hR⟩ (St.cut ?_ ?_ ?_) fun x hx=> ?_
 ·simp[zu,zk,zt]
 ·simp[Heap.alloc]
 ·rfl
 obtain⟨k,n,f⟩:=x
 obtain⟨h1,h2,h3,h4⟩:=hx
 simp only at h1 h2 h3 h4
 obtain⟨f,rfl⟩:∃g,f=g+1:=⟨f - 1,by omega⟩
 have e0:(0:Int)≤(k:Int):=by omega
 have hg:=yi v k
 simp only[QJ]at h4
 have key:∀m:Int,(m=0∨m=1∨m=2)→k<v.length→QJ v f (k+1) m=R→∃x:LkS8,(x.k≤v.length∧(x.n=0∨x.n=1∨x.n=2)∧v.length+1≤x.f+x.k∧QJ v x.f x.k x.n=R)∧v.length - x.k<v.length - k∧(k:Int)+1=x.k∧m=x.n:=
  fun m hm hkl hR=>⟨⟨k+1,m,f⟩,⟨by dsimp only;omega,hm,by dsimp only;omega,hR⟩,by dsimp only;omega,by dsimp only;omega,rfl⟩
 by_cases c1:knd v k=1
 ·obtain⟨hkl,hk1⟩:=yx c1 (by decide)
  have e2:(k:Int)<(v.length:Int):=by omega
  rw[if_pos (.inl c1),if_neg (by omega)]at h4
  have c1:=eq_true c1;have hk11:=eq_true hk1
  rcases h2 with rfl|rfl|rfl
  ·simp only[e0,e2,c1,hk1,hg,zj,zf,Int.toNat_natCast,Tok.enc,zd,zb,za,go_sem,seval,reduceIte,reduceCtorEq]
   exact⟨by omega,key 1 (by omega) hkl h4⟩
  ·simp only[e0,e2,c1,hk1,hg,zj,zf,Int.toNat_natCast,Tok.enc,zd,zb,za,go_sem,seval,reduceIte,reduceCtorEq]
   exact⟨by omega,key 1 (by omega) hkl h4⟩
  ·simp only[e0,e2,c1,hk1,hg,zj,zf,Int.toNat_natCast,Tok.enc,zd,zb,za,go_sem,seval,reduceIte,reduceCtorEq]
   exact⟨by omega,key 2 (by omega) hkl h4⟩
 ·by_cases c2:n≠2∧dlm v k ⟨#[62]⟩=true
  ·obtain⟨c2,c3⟩:=c2
   have hd:=of_decide_eq_true c3
   have e2:(k:Int)<(v.length:Int):=by omega
   have hk11:knd v k=11:=by unfold knd;rw[if_pos hd.1];exact hd.2.1
   have hk1:=hd.2.1
   rw[if_pos (.inr ⟨c2,c3⟩),if_pos hk11]at h4
   have c1:=eq_false c1
   rcases h2 with rfl|rfl|rfl
   ·simp only[e0,e2,c1,c3,hk1,hg,zj,zf,Int.toNat_natCast,Tok.enc,zd,zb,za,go_sem,seval,reduceIte,reduceCtorEq]
    exact⟨by omega,key 2 (by omega) hd.1 h4⟩
   ·simp only[e0,e2,c1,c3,hk1,hg,zj,zf,Int.toNat_natCast,Tok.enc,zd,zb,za,go_sem,seval,reduceIte,reduceCtorEq]
    exact⟨by omega,key 2 (by omega) hd.1 h4⟩
   ·exact absurd rfl c2
  ·rw[if_neg (by rintro(h|h); ·exact c1 h
                 ·exact c2 h)]at h4
   subst h4
   have c1:=eq_false c1
   by_cases c3:n=2
   ·subst c3
    simp only[e0,c1,zj,zf,Int.toNat_natCast,Tok.enc,zd,zb,za,go_sem,seval,reduceIte,reduceCtorEq]
   ·have c4:dlm v k ⟨#[62]⟩=false:=by
     cases hh:dlm v k ⟨#[62]⟩with
     |false=>rfl
     |true=>exact absurd ⟨c3,hh⟩ c2
    have c3:=eq_false c3
    simp only[e0,c1,c3,c4,zj,zf,Int.toNat_natCast,Tok.enc,zd,zb,za,go_sem,seval,reduceIte,reduceCtorEq]
end Go.Proofs.YtjcmoedalneldaaGreat
section
section
namespace Go.Proofs.YtjcmoedalneldaaGreat
open Go.Sx
set_option linter.unusedSimpArgs false
set_option linter.unusedVariables false
set_option maxHeartbeats 8000000
set_option maxRecDepth 100000
def spB(t:Tok):Bool:=decide (t.kind=1)
def kpT(l:List Tok):List Tok:=l.filter fun t=>decide (t.kind≠1)
theorem zzp(t:Tok):zg Tryz.prog 186 [.agg t.enc] (vb (spB t)):=by
 refine zg.of (Orc.nil _) zwO (by simp[zz2]) fun w0 o0=> ?_
 simp only[zz2,Tok.enc,spB,go_sem,zc,seval,reduceIte,reduceCtorEq]
theorem Kj(t:Tok):(⟨t.kind,t.text,t.n⟩:Tok)=t:=rfl
def Wx:Sum Tryz.prog:=⟨186,fun args=>args= [.agg (Tok.enc (ZQ (args.getD 0 .any)))],fun args=>vb (spB (ZQ (args.getD 0 .any))),fun args h=>by
 have:=zzp (ZQ (args.getD 0 .any));rwa [←h]at this,true⟩
theorem zsN:Wx.f=186:=rfl
theorem zsM(args:List V):Wx.D args=(args= [.agg (Tok.enc (ZQ (args.getD 0 .any)))]):=rfl
theorem zgZ:Wx.flat=true:=rfl
theorem zsO(args:List V):Wx.r args=vb (spB (ZQ (args.getD 0 .any))):=rfl
attribute [go_sem] zsN zsM zgZ zsO
def ixT(l:List Tok):Nat→Nat→Int
 |0,_=> -1
 |f+1,j=>if spB (l.getD j .zero)=true then(j:Int)else ixT l f (j+1)
theorem J6(l:List Tok)(j:Nat)(hj:j<l.length):kpT (l.take (j+1))=if spB (l.getD j .zero)=true then kpT (l.take j)else kpT (l.take j)++ [l.getD j .zero]:=by
 have ht:l.take (j+1)=l.take j++ [l.getD j .zero]:=by
  rw[List.take_add_one,List.getD_eq_getElem?_getD,List.getElem?_eq_getElem hj];rfl
 rw[ht]
 unfold kpT spB
 rw[List.filter_append]
 by_cases h:(l.getD j .zero).kind=1
 ·rw[if_pos (by simpa using h),List.filter_cons_of_neg (by simpa using h)];simp
 ·rw[if_neg (by simpa using h),List.filter_cons_of_pos (by simpa using h)];rfl
theorem zgb(l:List Tok):∀(f j:Nat),j+f=l.length→kpT (l.take j)=l.take j→
  (ixT l f j= -1∧kpT l=l)∨∃i:Nat,ixT l f j=i∧i<l.length∧spB (l.getD i .zero)=true∧kpT (l.take i)=l.take i
 |0,j,hf,hk=>by
  have:j=l.length:=by omega
  subst this
  rw[List.take_length]at hk
  exact .inl ⟨rfl,hk⟩
 |f+1,j,hf,hk=>by
  simp only[ixT]
  have hkt:=J6 l j (by omega)
  by_cases h:spB (l.getD j .zero)=true
  ·rw[if_pos h];exact .inr ⟨j,rfl,by omega,h,hk⟩
  ·rw[if_neg h]
   rw[if_neg h,hk]at hkt
   refine zgb l f (j+1) (by omega) ?_
   rw[hkt,List.take_add_one,List.getD_eq_getElem?_getD,List.getElem?_eq_getElem (by omega)];rfl
def ziS(l:List Tok):Int:=ixT l l.length 0
theorem zBz(l:List Tok)(hl:l.length≤1000000):zg Tryz.prog 188 [zj l,.fn 186 []] (vi (ziS l)):=by
 refine zg.of (Orc.cons Wx (Orc.nil _)) zkK (by simp[zqF]) fun w0 o0=> ?_
 unfold ziS
 generalize hR:ixT l l.length 0=R
 simp only[zqF,zj,go_sem,zc,seval,reduceIte,reduceCtorEq]
 refine zD.lp (α:=Nat×Nat) (fun j=>[(0,.slc 3 (l.map Tok.enc)),(1,.fn 186 []),(7,vi l.length),(8,vi j.1)]) (fun j=>⟨[],j.2⟩)
  (fun j=>j.1≤l.length∧ixT l (l.length - j.1) j.1=R) (fun j=>l.length - j.1) (0,0) ⟨Nat.zero_le _,hR⟩ (St.cut ?_ ?_ ?_) fun j hj=> ?_
 ·simp[zu,zk,zt]
 ·simp
 ·rfl
 obtain⟨j,clk⟩:=j
 obtain⟨h1,h2⟩:=hj
 simp only at h1 h2
 by_cases hkl:j=l.length
 ·subst hkl
  rw[Nat.sub_self]at h2
  simp only[ixT]at h2
  simp only[Int.lt_irrefl,←h2,go_sem,zc,seval,reduceIte,reduceCtorEq]
 ·have e1:(j:Int)<(l.length:Int):=by omega
  have e0:(0:Int)≤(j:Int):=by omega
  obtain⟨f,hf⟩:∃f,l.length - j=f+1:=⟨l.length - j - 1,by omega⟩
  rw[hf]at h2
  simp only[ixT]at h2
  have hg:=yi l j
  generalize l.getD j .zero=c at*
  cases hs:spB c with
  |true=>
   rw[hs]at h2
   simp only[e0,e1,hg,hs,Tok.enc,JT,Kj,go_sem,zc,seval,reduceIte,reduceCtorEq]
   simpa using h2
  |false=>
   rw[hs]at h2
   simp only[e0,e1,hg,hs,Tok.enc,JT,Kj,go_sem,zc,seval,reduceIte,reduceCtorEq]
   exact⟨by omega,(j+1,_),⟨by dsimp only;omega,by dsimp only;rw[show l.length - (j+1)=f by omega];simpa using h2⟩,by dsimp only;omega,by dsimp only;omega,rfl⟩
def zb8:Sum Tryz.prog:=⟨188,fun args=>args= [zj (zh (args.getD 0 .any)),.fn 186 []]∧((zh (args.getD 0 .any))).length≤1000000,fun args=>vi (ziS (zh (args.getD 0 .any))),fun args h=>by
 have:=zBz (zh (args.getD 0 .any)) h.2;rwa [←h.1]at this,true⟩
theorem ztC:zb8.f=188:=rfl
theorem ztB(args:List V):zb8.D args=(args= [zj (zh (args.getD 0 .any)),.fn 186 []]∧((zh (args.getD 0 .any))).length≤1000000):=rfl
theorem zho:zb8.flat=true:=rfl
theorem ztD(args:List V):zb8.r args=vi (ziS (zh (args.getD 0 .any))):=rfl
attribute [go_sem] ztC ztB zho ztD
def hT8(l:List Tok)(ver clk:Nat):Heap:=⟨[⟨ver,3,l.map Tok.enc,false,[vi 0,vs ⟨#[]⟩,vi 0]⟩],clk⟩
def ckT(l:List Tok):Nat:=if ziS l= -1 then 0 else l.length - ((ziS l).toNat+1)
structure DeT where
 es:List Tok
 i:Nat
 j:Nat
theorem zpR(l:List Tok)(j:Nat)(hj:j<l.length):l.take (j+1)=l.take j++ [l.getD j .zero]:=by
 rw[List.take_add_one,List.getD_eq_getElem?_getD,List.getElem?_eq_getElem hj];rfl
theorem zmb(l:List Tok)(ver clk:Nat)(hl:l.length≤1000000):
  zL Tryz.prog 185 [.ref 0 ver 0 l.length,.fn 186 []] (hT8 l ver clk) (.ref 0 ver 0 (kpT l).length) (hT8 (kpT l) ver (clk+ckT l)):=by
 refine zL.walk (Orc.cons zb8 (Orc.cons Wx (Orc.nil _))) zkJ (by simp[zlX]) fun w0 o0=> ?_
 have hsp:=zgb l l.length 0 (by omega) rfl
 have hV:ziS l=ixT l l.length 0:=rfl
 rw[←hV]at hsp
 rcases hsp with⟨h,e⟩|⟨i0,hi,hil,hri,hk⟩
 ·have hck:ckT l=0:=by unfold ckT;rw[if_pos h]
  rw[e,hck]
  simp only[zlX,hT8,h,hl,zj,zf,List.length_map,List.take_length,Nat.le_refl,qt,go_sem,zc,seval,reduceIte,reduceCtorEq]
  rw[Nat.add_zero]
 have hck:ckT l=l.length - (i0+1):=by unfold ckT;rw[if_neg (by omega),hi,Int.toNat_natCast]
 rw[hck]
 have hne:=eq_false (show ¬(i0:Int)= -1 by omega)
 simp only[zlX,hT8,hi,hne,hl,zj,zf,List.length_map,List.take_length,Nat.le_refl,qt,go_sem,zc,seval,reduceIte,reduceCtorEq]
 refine⟨by omega,?_⟩
 refine zD.lp (α:=DeT) (fun a=>[(0,.ref 0 ver 0 l.length),(1,.fn 186 []),(5,vi a.i),(6,vi a.j)])
  (fun a=>hT8 a.es ver (clk+(a.j - (i0+1))))
  (fun a=>i0<a.j∧a.i<a.j∧a.j≤l.length∧a.es.length=l.length∧a.i=(kpT (l.take a.j)).length∧a.es.take a.i=kpT (l.take a.j)∧a.es.drop a.j=l.drop a.j) (fun a=>l.length - a.j) ⟨l,i0,i0+1⟩ ?_
  (St.cut ?_ ?_ ?_) fun a ha=> ?_
 ·refine⟨by dsimp only;omega,by dsimp only;omega,by dsimp only;omega,rfl,?_,?_,rfl⟩
  ·rw[J6 l i0 hil,if_pos hri,hk];simp;omega
  ·rw[J6 l i0 hil,if_pos hri,hk]
 ·simp[zu,zk,zt]
 ·simp[hT8]
 ·simp[hT8]
 obtain⟨es,i,j⟩:=a
 simp only at ha
 obtain⟨h0,h1,h2,h3,h4,h5,h6⟩:=ha
 by_cases hj:j=l.length
 ·subst hj
  rw[List.take_length]at h4 h5
  simp only[hT8,Int.lt_irrefl,h3,h5,go_sem,zc,seval,reduceIte,reduceCtorEq]
  exact⟨⟨by omega,by omega,by omega⟩,⟨by omega,by omega⟩,⟨by omega,by omega⟩,by omega⟩
 ·have e1:(j:Int)<(l.length:Int):=by omega
  have e0:(0:Int)≤(j:Int):=by omega
  have e0i:(0:Int)≤(i:Int):=by omega
  have e2:es.getD j .zero=l.getD j .zero:=by
   rw[List.getD_eq_getElem?_getD,List.getD_eq_getElem?_getD]
   have:es[j]? =l[j]? :=by
    have:=congrArg (fun l=>l[0]?) h6
    simpa using this
   rw[this]
  have hkt:=J6 l j (by omega)
  have hg:=yi es j
  have h7:es.drop (j+1)=l.drop (j+1):=by
   have:=congrArg (fun l=>l.drop 1) h6
   simpa[List.drop_drop]using this
  rw[e2]at hg
  generalize l.getD j .zero=c at*
  cases hs:spB c with
  |false=>
   rw[hs]at hkt
   simp only[hT8,Tok.enc,JT,Kj,e0,e0i,e1,hg,hs,h3,qt,go_sem,zc,seval,reduceIte,reduceCtorEq]
   refine⟨by omega,by omega,by omega,by omega,by omega,⟨es.set i c,i+1,j+1⟩,⟨by dsimp only;omega,by dsimp only;omega,by dsimp only;omega,by simp[h3],?_,?_,?_⟩,by dsimp only;omega,⟨by dsimp only;omega,by dsimp only;omega⟩,?_,by dsimp only;omega⟩
   ·dsimp only;rw[hkt,if_neg (by simp),List.length_append,←h4];rfl
   ·dsimp only
    rw[hkt,if_neg (by simp),zpR _ i (by simp;omega),List.take_set_of_le (by omega),h5]
    congr 2
    rw[List.getD_eq_getElem?_getD,List.getElem?_set_self (by omega)];rfl
   ·dsimp only;rw[List.drop_set_of_lt (by omega),h7]
   ·dsimp only;rw[List.map_set];rfl
  |true=>
   rw[hs]at hkt
   simp only[hT8,Tok.enc,JT,Kj,e0,e0i,e1,hg,hs,h3,qt,go_sem,zc,seval,reduceIte,reduceCtorEq]
   exact⟨by omega,by omega,⟨es,i,j+1⟩,⟨by dsimp only;omega,by dsimp only;omega,by dsimp only;omega,h3,by dsimp only;rw[hkt,if_pos rfl];exact h4,by dsimp only;rw[hkt,if_pos rfl];exact h5,h7⟩,by dsimp only;omega,⟨rfl,by dsimp only;omega⟩,rfl,by dsimp only;omega⟩
end Go.Proofs.YtjcmoedalneldaaGreat
end
section
namespace Go.Proofs.YtjcmoedalneldaaGreat
open Go.Sx
set_option linter.unusedSimpArgs false
set_option linter.unusedVariables false
set_option maxHeartbeats 8000000
set_option maxRecDepth 100000
theorem zlz(l:List Tok):(l.map Tok.enc).all (fun e=>e.all V.isC)=true:=by
 rw[List.all_eq_true];intro e he;obtain⟨n,_,rfl⟩:=List.mem_map.1 he;rfl
theorem zlZ(l:List Tok)(h0:l≠[])(hl:l.length≤1000000):ZT Tryz.prog 37 [zj l] 3 [vi 0,vs ⟨#[]⟩,vi 0] (l.map Tok.enc):=by
 cases l with
 |nil=>exact absurd rfl h0
 |cons c l=>
  refine ZT.of (Orc.nil _) X4 [vi 0,vs ⟨#[]⟩,vi 0] (by simp[c37]) fun w0 o0=> ?_
  have h1:=eq_true (show(c::l).length≤1099511627776 by omega)
  have h2:=eq_true (show(c::l).length*32≤140737488355328 by omega)
  have hm:=fun S h=>qt S h (c::l)
  simp only[List.length_cons]at h1 h2
  simp only[List.map_cons]at hm
  simp -implicitDefEqProofs only[c37,zj,Heap.nilV,h1,h2,hm,List.map_cons,List.length_cons,List.length_map,Nat.le_refl,List.take_length,go_sem,zc,seval,reduceIte,reduceCtorEq]
def KB:GSum Tryz.prog:=⟨37,fun args=>args= [zj (zh (args.getD 0 .any))]∧zh (args.getD 0 .any)≠[]∧(zh (args.getD 0 .any)).length≤1000000,3,[vi 0,vs ⟨#[]⟩,vi 0],
 fun args=>(zh (args.getD 0 .any)).map Tok.enc,fun args h=>(by
  have:=zlZ (zh (args.getD 0 .any)) h.2.1 h.2.2
  rwa [←h.1]at this),fun args=>zlz _⟩
theorem znS:KB.f=37:=rfl
theorem znQ(args:List V):KB.D args=(args= [zj (zh (args.getD 0 .any))]∧zh (args.getD 0 .any)≠[]∧(zh (args.getD 0 .any)).length≤1000000):=rfl
theorem zjH:KB.sz=3:=rfl
theorem znR:KB.d= [vi 0,vs ⟨#[]⟩,vi 0]:=rfl
theorem znT(args:List V):KB.r args=(zh (args.getD 0 .any)).map Tok.enc:=rfl
attribute [go_sem] znS znQ zjH znR znT
def rsT(h:Heap):List Tok:=zh (.slc 3 (h.blk 0).es)
def dtP(args:List V)(h:Heap):Prop:=∃(l:List Tok)(ver clk:Nat),args= [.ref 0 ver 0 l.length,.fn 186 []]∧h=hT8 l ver clk∧l.length≤1000000
def dtV(h:Heap):V:=.ref 0 (h.blk 0).ver 0 (kpT (rsT h)).length
def dtH(h:Heap):Heap:=hT8 (kpT (rsT h)) (h.blk 0).ver (h.clk+ckT (rsT h))
theorem zsr(l:List Tok)(ver clk:Nat):rsT (hT8 l ver clk)=l:=by
 simp only[rsT,hT8,Heap.blk,List.getElem?_cons_zero,Option.getD_some,zf]
theorem ziJ(l:List Tok)(ver clk:Nat):dtV (hT8 l ver clk)= .ref 0 ver 0 (kpT l).length:=by unfold dtV;rw[zsr];rfl
theorem ziI(l:List Tok)(ver clk:Nat):dtH (hT8 l ver clk)=hT8 (kpT l) ver (clk+ckT l):=by unfold dtH;rw[zsr];rfl
def Yj:ESum Tryz.prog:=⟨185,dtP,fun _ h=>dtV h,fun _ h=>dtH h,fun args h hp=>by
 obtain⟨l,ver,clk,rfl,rfl,h1⟩:=hp
 rw[ziJ,ziI];exact zmb l ver clk h1⟩
theorem zqu(l:List Tok)(h0:l≠[])(hl:l.length≤1000000):zg Tryz.prog 179 [zj l] (zj (kpT l)):=by
 refine zg.of (Orc.gcons KB (Orc.econs Yj (Orc.nil _))) zay (by simp[ziw]) fun w0 o0=> ?_
 have e1:Yj.f=185:=rfl
 have e2:∀args h,Yj.pre args h=dtP args h:=fun _ _=>rfl
 have e3:∀args h,Yj.v args h=dtV h:=fun _ _=>rfl
 have e4:∀args h,Yj.hp args h=dtH h:=fun _ _=>rfl
 have hP:dtP [.ref 0 0 0 l.length,.fn 186 []] (hT8 l 0 1):=⟨l,0,1,rfl,rfl,hl⟩
 have hV:=ziJ l 0 1
 have hH:=ziI l 0 1
 simp only[hT8]at hP hV hH
 have htl:((kpT l).map Tok.enc).take (kpT l).length=(kpT l).map Tok.enc:=List.take_of_length_le (by simp)
 simp -implicitDefEqProofs only[ziw,zj,zf,h0,hl,hP,hV,hH,htl,qt,List.length_map,List.take_length,Nat.le_refl,e1,e2,e3,e4,GSum.pre,GSum.v,GSum.hp,Heap.alloc,List.nil_append,Nat.zero_add,zd,zb,za,go_sem,seval,reduceIte,reduceCtorEq]
theorem zry:zg Tryz.prog 188 [zA,.fn 186 []] (vi (-1)):=by
 refine zg.of (Orc.nil _) zkK (by simp[zqF]) fun w0 o0=> ?_
 simp only[zqF,go_sem,zc,seval,reduceIte,reduceCtorEq]
 refine zD.lp (α:=Nat) (fun _=>[(7,vi 0),(8,vi 0)]) (fun _=>⟨[],0⟩) (fun _=>True) (fun j=>j) 0 trivial (St.cut ?_ ?_ ?_) fun j hj=> ?_
 ·simp[zu,zk,zt]
 ·simp
 ·rfl
 simp only[Int.lt_irrefl,go_sem,zc,seval,reduceIte,reduceCtorEq]
def zb7:Sum Tryz.prog:=⟨188,fun args=>args= [zA,.fn 186 []],fun _=>vi (-1),fun args h=>(by rw[h];exact zry),true⟩
theorem zma:zg Tryz.prog 185 [zA,.fn 186 []] zA:=by
 refine zg.of (Orc.cons zb7 (Orc.nil _)) zkJ (by simp[zlX]) fun w0 o0=> ?_
 have e1:zb7.f=188:=rfl
 have e2:∀args,zb7.D args=(args= [zA,.fn 186 []]):=fun _=>rfl
 have e3:∀args,zb7.r args=vi (-1):=fun _=>rfl
 have e4:zb7.flat=true:=rfl
 simp only[zlX,e1,e2,e3,e4,go_sem,zc,seval,reduceIte,reduceCtorEq]
def XC:Sum Tryz.prog:=⟨185,fun args=>args= [zA,.fn 186 []],fun _=>zA,fun args h=>(by rw[h];exact zma),true⟩
theorem X5(cap:Nat):zg Tryz.prog 37 [.c (.slice none 0 cap)] zA:=by
 refine zg.of (Orc.nil _) X4 (by simp[c37]) fun w0 o0=> ?_
 simp only[c37,Heap.nilV,Option.isNone_none,go_sem,zc,seval,reduceIte,reduceCtorEq]
def Xx:Sum Tryz.prog:=⟨37,fun args=>∃cap,args= [.c (.slice none 0 cap)],fun _=>zA,fun args h=>(by obtain⟨cap,rfl⟩:=h;exact X5 cap),true⟩
theorem ziB(a:Addr)(cap:Nat):ZT Tryz.prog 37 [.c (.slice (some a) 0 cap)] 3 [vi 0,vs ⟨#[]⟩,vi 0] []:=by
 refine ZT.of (Orc.nil _) X4 [vi 0,vs ⟨#[]⟩,vi 0] (by simp[c37]) fun w0 o0=> ?_
 simp only[c37,Heap.nilV,Option.isNone_some,go_sem,zc,seval,reduceIte,reduceCtorEq]
def KA:GSum Tryz.prog:=⟨37,fun args=>∃a cap,args= [.c (.slice (some a) 0 cap)],3,[vi 0,vs ⟨#[]⟩,vi 0],fun _=>[],fun args h=>(by obtain⟨a,cap,rfl⟩:=h;exact ziB a cap),fun _=>rfl⟩
theorem zvQ(a:Option Addr)(cap:Nat):zg Tryz.prog 179 [.c (.slice a 0 cap)] (.slc 3 []):=by
 cases a with
 |none=>
  refine zg.rsub (r:=zA) ?_ fun F w v h=>PRep.nilS 3 h
  refine zg.of (Orc.cons Xx (Orc.cons XC (Orc.nil _))) zay (by simp[ziw]) fun w0 o0=> ?_
  have a1:Xx.f=37:=rfl
  have a2:∀cap,Xx.D [.c (.slice none 0 cap)]=True:=fun cap=>eq_true ⟨cap,rfl⟩
  have a3:∀args,Xx.r args=zA:=fun _=>rfl
  have a4:Xx.flat=true:=rfl
  have e1:XC.f=185:=rfl
  have e2:∀args,XC.D args=(args= [zA,.fn 186 []]):=fun _=>rfl
  have e3:∀args,XC.r args=zA:=fun _=>rfl
  have e4:XC.flat=true:=rfl
  simp only[ziw,a1,a2,a3,a4,e1,e2,e3,e4,go_sem,zc,seval,reduceIte,reduceCtorEq]
 |some a=>
  refine zg.of (Orc.gcons KA (Orc.econs Yj (Orc.nil _))) zay (by simp[ziw]) fun w0 o0=> ?_
  have a1:KA.f=37:=rfl
  have a2:∀a cap,KA.D [.c (.slice (some a) 0 cap)]=True:=fun a cap=>eq_true ⟨a,cap,rfl⟩
  have a3:∀args,KA.r args= []:=fun _=>rfl
  have a4:KA.sz=3:=rfl
  have a5:KA.d= [vi 0,vs ⟨#[]⟩,vi 0]:=rfl
  have e1:Yj.f=185:=rfl
  have e2:∀args h,Yj.pre args h=dtP args h:=fun _ _=>rfl
  have e3:∀args h,Yj.v args h=dtV h:=fun _ _=>rfl
  have e4:∀args h,Yj.hp args h=dtH h:=fun _ _=>rfl
  have hP:dtP [.ref 0 0 0 0,.fn 186 []] (hT8 [] 0 1):=⟨[],0,1,rfl,rfl,Nat.zero_le _⟩
  have hV:dtV (hT8 [] 0 1)= .ref 0 0 0 0:=ziJ [] 0 1
  have hH:dtH (hT8 [] 0 1)=hT8 [] 0 1:=ziI [] 0 1
  simp only[hT8,List.map_nil]at hP hV hH
  simp -implicitDefEqProofs only[ziw,hP,hV,hH,a1,a2,a3,a4,a5,List.length_nil,Nat.le_refl,e1,e2,e3,e4,GSum.pre,GSum.v,GSum.hp,Heap.alloc,List.nil_append,Nat.zero_add,zd,zb,za,go_sem,seval,reduceIte,reduceCtorEq]
theorem zvR(l:List Tok)(hl:l.length≤1000000):zg Tryz.prog 179 [zj l] (zj (kpT l)):=by
 cases l with
 |nil=>
  refine⟨(Zu zay).1,fun F w cargs hF hs hp=> ?_⟩
  have hv:=hp 0 (by simp)
  simp only[List.getD_cons_zero,zj,List.map_nil]at hv
  generalize hcv:cargs.getD 0 undef=cv at hv
  cases hv with
  |slc a n cap sz es b' o' ys hn' hc hsz ha hy hry=>
  simp only[List.length_nil]at hn'
  subst hn'
  refine(zvQ a cap).2 F w cargs hF hs fun i hi=> ?_
  match i,hi with
  |0,_=>rw[hcv];exact .c _
  |i+1,hi=>exact absurd hi (by simp)
 |cons c l=>exact zqu (c::l) (by simp) hl
def Xs:Sum Tryz.prog:=⟨179,fun args=>args= [zj (zh (args.getD 0 .any))]∧((zh (args.getD 0 .any))).length≤1000000,fun args=>zj (kpT (zh (args.getD 0 .any))),fun args h=>by
 have:=zvR (zh (args.getD 0 .any)) h.2;rwa [←h.1]at this,false⟩
theorem znz:Xs.f=179:=rfl
theorem zny(args:List V):Xs.D args=(args= [zj (zh (args.getD 0 .any))]∧((zh (args.getD 0 .any))).length≤1000000):=rfl
theorem zen:Xs.flat=false:=rfl
theorem znA(args:List V):Xs.r args=zj (kpT (zh (args.getD 0 .any))):=rfl
attribute [go_sem] znz zny zen znA
def Zr(o:Option Smp):V:=.tup [.agg (o.getD ⟨0,⟨#[]⟩,⟨#[]⟩⟩).enc,vb o.isSome]
def Qp(r:List Tok):Option Smp:=
 match r with
 | [a]=>if a.kind=2 then some ⟨5,a.text,⟨#[]⟩⟩else none
 | [a,b,c]=>if a.kind=2∧b.kind=11∧b.text=⟨#[61]⟩∧(c.kind=2∨c.kind=6)then some ⟨6,a.text,c.text⟩else none
 |_=>none
theorem zvP(l:List Tok)(hl:l.length≤1000000):zg Tryz.prog 172 [zj l] (Zr (JG l)):=by
 refine zg.of (Orc.cons Xs (Orc.cons Yi (Orc.nil _))) zwF (by simp[zzU]) fun w0 o0=> ?_
 have hk:JG l=Qp (kpT l):=rfl
 rw[hk]
 clear hk
 simp -implicitDefEqProofs only[zzU,zj,zf,hl,zd,zb,za,go_sem,seval,reduceIte,reduceCtorEq]
 have hz:Tok.zero.enc= [vi 0,vs ⟨#[]⟩,vi 0]:=rfl
 generalize kpT l=r
 match r with
 | []=>
   have hR:Qp []=none:=rfl
   rw[hR]
   simp -implicitDefEqProofs only[List.map_nil,List.map_cons,List.length_cons,List.length_nil,Zr,Tok.enc,hz,Option.getD_none,Option.isSome_none,Smp.enc,zn,zd,zb,za,go_sem,seval,reduceIte,reduceCtorEq]
 | [a]=>
   obtain⟨ak,at',an⟩:=a
   have hR:Qp [⟨ak,at',an⟩]=if ak=2 then some ⟨5,at',⟨#[]⟩⟩else none:=rfl
   rw[hR]
   by_cases h:ak=2
   ·subst h
    simp -implicitDefEqProofs only[List.map_nil,List.map_cons,List.length_cons,List.length_nil,Zr,Tok.enc,hz,if_true,Option.getD_some,Option.isSome_some,Smp.enc,zn,zd,zb,za,go_sem,seval,reduceIte,reduceCtorEq]
   ·have h:=eq_false h
    simp -implicitDefEqProofs only[List.map_nil,List.map_cons,List.length_cons,List.length_nil,Zr,Tok.enc,hz,h,if_false,Option.getD_none,Option.isSome_none,Smp.enc,zn,zd,zb,za,go_sem,seval,reduceIte,reduceCtorEq]
 | [a,b]=>
   have hR:Qp [a,b]=none:=rfl
   rw[hR]
   simp -implicitDefEqProofs only[List.map_nil,List.map_cons,List.length_cons,List.length_nil,Zr,Tok.enc,hz,Option.getD_none,Option.isSome_none,Smp.enc,zn,zd,zb,za,go_sem,seval,reduceIte,reduceCtorEq]
 | [a,b,c]=>
   obtain⟨ak,at',an⟩:=a
   obtain⟨bk,bt,bn⟩:=b
   obtain⟨ck,ct,cn⟩:=c
   have hd:∀w,dlm [⟨ak,at',an⟩,⟨bk,bt,bn⟩,⟨ck,ct,cn⟩] 1 w=decide (bk=11∧bt=w):=fun w=>by simp[dlm]
   have hdt:zh (.slc 3 [[vi ak,vs at',vi an],[vi bk,vs bt,vi bn],[vi ck,vs ct,vi cn]])= [⟨ak,at',an⟩,⟨bk,bt,bn⟩,⟨ck,ct,cn⟩]:=rfl
   have htk:zj [⟨ak,at',an⟩,⟨bk,bt,bn⟩,⟨ck,ct,cn⟩]= .slc 3 [[vi ak,vs at',vi an],[vi bk,vs bt,vi bn],[vi ck,vs ct,vi cn]]:=rfl
   have hd1:dlm [⟨ak,at',an⟩,⟨bk,bt,bn⟩,⟨ck,ct,cn⟩] 1 ⟨#[61]⟩=decide (bk=11∧bt=⟨#[61]⟩):=hd _
   have hR:Qp [⟨ak,at',an⟩,⟨bk,bt,bn⟩,⟨ck,ct,cn⟩]=if ak=2∧bk=11∧bt=⟨#[61]⟩∧(ck=2∨ck=6)then some ⟨6,at',ct⟩else none:=rfl
   rw[hR]
   have hf:∀ {P:Prop}[Decidable P]{x y:Option Smp},¬P→(if P then x else y)=y:=fun h=>if_neg h
   by_cases h:ak=2
   ·subst h
    cases hb:decide (bk=11∧bt=(⟨#[61]⟩:ByteArray))with
    |false=>
     have hb':=of_decide_eq_false hb
     rw[hb]at hd1
     rw[hf (fun hh=>hb' ⟨hh.2.1,hh.2.2.1⟩)]
     simp -implicitDefEqProofs only[List.map_nil,List.map_cons,List.length_cons,List.length_nil,Zr,Tok.enc,hz,hdt,htk,hd1,Option.getD_none,Option.isSome_none,Smp.enc,zn,zd,zb,za,go_sem,seval,reduceIte,reduceCtorEq]
    |true=>
     have hb':=of_decide_eq_true hb
     rw[hb]at hd1
     by_cases hc:ck=2
     ·subst hc
      rw[if_pos ⟨rfl,hb'.1,hb'.2,.inl rfl⟩]
      simp -implicitDefEqProofs only[List.map_nil,List.map_cons,List.length_cons,List.length_nil,Zr,Tok.enc,hz,hdt,htk,hd1,Option.getD_some,Option.isSome_some,Smp.enc,zn,zd,zb,za,go_sem,seval,reduceIte,reduceCtorEq]
     ·by_cases hc6:ck=6
      ·subst hc6
       rw[if_pos ⟨rfl,hb'.1,hb'.2,.inr rfl⟩]
       simp -implicitDefEqProofs only[List.map_nil,List.map_cons,List.length_cons,List.length_nil,Zr,Tok.enc,hz,hdt,htk,hd1,Option.getD_some,Option.isSome_some,Smp.enc,zn,zd,zb,za,go_sem,seval,reduceIte,reduceCtorEq]
      ·rw[hf (fun hh=>hh.2.2.2.elim hc hc6)]
       have hc:=eq_false hc;have hc6:=eq_false hc6
       simp -implicitDefEqProofs only[List.map_nil,List.map_cons,List.length_cons,List.length_nil,Zr,Tok.enc,hz,hdt,htk,hd1,hc,hc6,Option.getD_none,Option.isSome_none,Smp.enc,zn,zd,zb,za,go_sem,seval,reduceIte,reduceCtorEq]
   ·rw[hf (fun hh=>h hh.1)]
    have h:=eq_false h
    simp -implicitDefEqProofs only[List.map_nil,List.map_cons,List.length_cons,List.length_nil,Zr,Tok.enc,hz,hdt,htk,hd1,h,Option.getD_none,Option.isSome_none,Smp.enc,zn,zd,zb,za,go_sem,seval,reduceIte,reduceCtorEq]
 |a::b::c::e::r=>
  have hR:Qp (a::b::c::e::r)=none:=rfl
  rw[hR]
  have q1:=eq_false (show ¬((r.length+1+1+1+1:Nat):Int)=1 by omega)
  have q3:=eq_false (show ¬((r.length+1+1+1+1:Nat):Int)=3 by omega)
  simp -implicitDefEqProofs only[List.map_nil,List.map_cons,List.length_cons,List.length_nil,Zr,Tok.enc,hz,List.length_map,q1,q3,Option.getD_none,Option.isSome_none,Smp.enc,zn,zd,zb,za,go_sem,seval,reduceIte,reduceCtorEq]
end Go.Proofs.YtjcmoedalneldaaGreat
end
end
namespace Go.Proofs.YtjcmoedalneldaaGreat
open Go.Sx
set_option linter.unusedSimpArgs false
set_option linter.unusedVariables false
set_option maxHeartbeats 8000000
set_option maxRecDepth 100000
structure SaS where
 n:Nat
 clk:Nat
def zqe(v:List Tok):Prop:=∀k,k≤v.length→(yJ v k).ok=true→k<(yJ v k).to∧(yJ v k).to≤v.length
theorem zdT{v:List Tok}{k:Nat}{w:ByteArray}(h:dlm v k w=true):k<v.length:=(of_decide_eq_true h).1
theorem zaM.b{v:List Tok}(h:zaM v):zqe v:=fun k hk=>(h.2 k hk).2
theorem zfC{v:List Tok}(hS:zqe v):∀(f k:Nat)(L:List Smp),k≤v.length→k≤(JN v f k L).2∧(JN v f k L).2≤v.length∧L.length≤(JN v f k L).1.length∧(JN v f k L).1.length+k≤L.length+(JN v f k L).2
 |0,k,L,hk=>by simp only[JN];omega
 |f+1,k,L,hk=>by
  simp only[JN]
  split
  ·simp only;omega
  ·rename_i hc
   have hok:(yJ v k).ok=true:=by
    cases h:(yJ v k).ok with
    |true=>rfl
    |false=>exact absurd (.inl h) hc
   have h1:=hS k hk hok
   have h2:=zfC hS f (yJ v k).to (L++ [(yJ v k).s]) h1.2
   simp only[List.length_append,List.length_cons,List.length_nil]at h2
   omega
theorem zaQ{v:List Tok}(hS:zqe v)(k:Nat)(hk:k≤v.length):k≤(j5 v k).2∧(j5 v k).2≤v.length∧(j5 v k).1.length+k≤(j5 v k).2:=by
 have:=zfC hS (v.length+1) k [] hk
 simp only[List.length_nil]at this
 unfold j5;omega
theorem zbm{v:List Tok}:∀(f k:Nat)(n:Int),k≤v.length→k≤(QJ v f k n).2∧(QJ v f k n).2≤v.length
 |0,k,n,hk=>by simp only[QJ];omega
 |f+1,k,n,hk=>by
  simp only[QJ]
  split
  ·rename_i hc
   have hlt:k<v.length:=by
    rcases hc with h|h
    ·exact(yx h (by decide)).1
    ·exact zdT h.2
   have:=zbm (v:=v) f (k+1) (if knd v k=11 then 2 else if n<1 then 1 else n) (by omega)
   omega
  ·simp only;omega
theorem QK{v:List Tok}(k:Nat)(hk:k≤v.length):(jF v k).2≤v.length∧((jF v k).1≠0→k<(jF v k).2):=by
 unfold jF
 refine⟨(zbm _ k 0 hk).2,fun hn=> ?_⟩
 simp only[QJ]at hn⊢
 split at hn
 ·rename_i hc
  rw[if_pos hc]
  have hlt:k<v.length:=by
   rcases hc with h|h
   ·exact(yx h (by decide)).1
   ·exact zdT h.2
  have:=zbm (v:=v) v.length (k+1) (if knd v k=11 then 2 else if(0:Int)<1 then 1 else 0) (by omega)
  omega
 ·exact absurd rfl hn
def zd7(w:List Tok):Nat→Nat→Int→List Cmp→Option (List Cmp)
 |0,_,_,_=>none
 |f+1,k,n,L=>
  if(j5 w k).1.length=0∨L.length=64 then none
  else if(j5 w k).2=w.length then some (L++ [⟨n,(j5 w k).1⟩])
  else if(jF w (j5 w k).2).1=0 then none
  else zd7 w f (jF w (j5 w k).2).2 (jF w (j5 w k).2).1 (L++ [⟨n,(j5 w k).1⟩])
def zle(w:List Tok):Option Sel:=if yq w=true then none else zd7 w (w.length+1) 0 0 []
def Xd(v:List Tok):Option Sel:=zle (Q8 v)
theorem zbv{w:List Tok}(hS:zqe w)(hl:w.length≤1000000):∀(f k:Nat)(n:Int)(L:List Cmp)(s:Sel),k≤w.length→L.length≤64→(∀c∈L,c.l.length≤1000000)→zd7 w f k n L=some s→s.length≤64∧∀c∈s,c.l.length≤1000000
 |0,_,_,_,_,_,_,_,h=>by cases h
 |f+1,k,n,L,s,hk,hL,hc,h=>by
  have h1:=zaQ hS k hk
  simp only[zd7]at h
  split at h
  ·cases h
  rename_i hn
  have hc':∀c∈L++ [⟨n,(j5 w k).1⟩],c.l.length≤1000000:=fun c hcm=>by
   rcases List.mem_append.1 hcm with hcm|hcm
   ·exact hc c hcm
   ·obtain rfl:=List.mem_singleton.1 hcm;dsimp only;omega
  have hL':(L++ [(⟨n,(j5 w k).1⟩:Cmp)]).length≤64:=by simp;omega
  split at h
  ·obtain rfl:=Option.some.inj h;exact⟨hL',hc'⟩
  split at h
  ·cases h
  ·exact zbv hS hl f _ _ _ s (QK _ h1.2.1).1 hL' hc' h
theorem zBH{s:Sel}(h:s.length≤64∧∀c∈s,c.l.length≤1000000):okC s:=⟨by omega,fun i hi=>h.2 _ (by rw[List.getD_eq_getElem?_getD,List.getElem?_eq_getElem hi];exact List.getElem_mem _)⟩
def Xg(l:List Tok):List (Int×Int)→Option (List Sel)
 | []=>some []
 |p::ps=>match Xd ((l.take p.2.toNat).drop p.1.toNat)with|none=>none|some s=>(Xg l ps).map (s:: ·)
def psC(l:List Tok):Option (List Sel):=if yq l=true then none else Xg l (Wu l)
theorem zqX{v:List Tok}{k:Int}(h0:0≤k)(h1:k≤v.length)(h:zaM v):zg Tryz.prog 128 [zj v,zE (zz v),vi k] (crV (j5 v k.toNat)):=by
 have:=zfG v h k.toNat (by omega);rwa [Int.toNat_of_nonneg h0]at this
def KC:Sum Tryz.prog:=⟨128,fun args=>args= [zj (zh (args.getD 0 .any)),zE (zz (zh (args.getD 0 .any))),vi ((args.getD 2 .any).int)]∧0≤((args.getD 2 .any).int)∧((args.getD 2 .any).int)≤((zh (args.getD 0 .any))).length∧zaM (zh (args.getD 0 .any)),fun args=>crV (j5 (zh (args.getD 0 .any)) (((args.getD 2 .any).int)).toNat),fun args h=>by
 have:=zqX h.2.1 h.2.2.1 h.2.2.2;rwa [←h.1]at this,false⟩
theorem znY:KC.f=128:=rfl
theorem znX(args:List V):KC.D args=(args= [zj (zh (args.getD 0 .any)),zE (zz (zh (args.getD 0 .any))),vi ((args.getD 2 .any).int)]∧0≤((args.getD 2 .any).int)∧((args.getD 2 .any).int)≤((zh (args.getD 0 .any))).length∧zaM (zh (args.getD 0 .any))):=rfl
theorem zeu:KC.flat=false:=rfl
theorem znZ(args:List V):KC.r args=crV (j5 (zh (args.getD 0 .any)) (((args.getD 2 .any).int)).toNat):=rfl
attribute [go_sem] znY znX zeu znZ
theorem zrJ{v:List Tok}{k:Int}(h0:0≤k)(h1:k≤v.length)(hl:v.length≤1000000):zg Tryz.prog 129 [zj v,vi k] (.tup [vi (jF v k.toNat).1,vi (jF v k.toNat).2]):=by
 have:=zxD v hl k.toNat (by omega);rwa [Int.toNat_of_nonneg h0]at this
def KG:Sum Tryz.prog:=⟨129,fun args=>args= [zj (zh (args.getD 0 .any)),vi ((args.getD 1 .any).int)]∧0≤((args.getD 1 .any).int)∧((args.getD 1 .any).int)≤((zh (args.getD 0 .any))).length∧((zh (args.getD 0 .any))).length≤1000000,fun args=>.tup [vi (jF (zh (args.getD 0 .any)) (((args.getD 1 .any).int)).toNat).1,vi (jF (zh (args.getD 0 .any)) (((args.getD 1 .any).int)).toNat).2],fun args h=>by
 have:=zrJ h.2.1 h.2.2.1 h.2.2.2;rwa [←h.1]at this,false⟩
theorem zoH:KG.f=129:=rfl
theorem zoG(args:List V):KG.D args=(args= [zj (zh (args.getD 0 .any)),vi ((args.getD 1 .any).int)]∧0≤((args.getD 1 .any).int)∧((args.getD 1 .any).int)≤((zh (args.getD 0 .any))).length∧((zh (args.getD 0 .any))).length≤1000000):=rfl
theorem zeK:KG.flat=false:=rfl
theorem zoI(args:List V):KG.r args= .tup [vi (jF (zh (args.getD 0 .any)) (((args.getD 1 .any).int)).toNat).1,vi (jF (zh (args.getD 0 .any)) (((args.getD 1 .any).int)).toNat).2]:=rfl
attribute [go_sem] zoH zoG zeK zoI
theorem Zo(S:Nat→Bool)(h:Heap):∀l:List Cmp,zB (zB (res S h 9)) (l.map Cmp.enc)=some (l.map Cmp.enc)
 | []=>rfl
 |s::l=>by simp only[List.map_cons,zB,Zo S h l,Cmp.enc];rfl
def zbw:Option Sel→V
 |none=>.tup [.agg [zA],vb false]
 |some s=>.tup [.agg (zX s),vb true]
def W6(o:Option Sel):V:=.tup [.agg (zX (o.getD [])),vb o.isSome]
theorem zdp(o:Option Sel){f:FuncId}{args:List V}(h:zg Tryz.prog f args (zbw o)):zg Tryz.prog f args (W6 o):=by
 cases o with
 |some l=>exact h
 |none=>
  refine zg.rsub h fun F w v hp=> ?_
  cases hp with
  |tup cs _ hl hx=>
   refine .tup cs _ hl fun i hi=> ?_
   have:=hx i hi
   match i,hi with
   |0,_=>
    have this:PRep F w (cs.getD 0 undef) (.agg [zA]):=this
    show PRep F w (cs.getD 0 undef) (.agg [.slc 2 []])
    generalize cs.getD 0 undef=u at this
    cases this with
    |agg cs _ hl h1 hx=>
     refine .agg cs [.slc 2 []] hl h1 fun i hi=> ?_
     have:=hx i hi
     match i,hi with
     |0,_=>exact PRep.nilS 2 this
   |1,_=>exact this
structure OnS8 where
 k:Nat
 n:Int
 L:List Cmp
 f:Nat
 ver:Nat
 clk:Nat
theorem zxM(v:List Tok)(hv:v.length≤1000000)(hS:yq (Q8 v)=false→zaM (Q8 v)):zg Tryz.prog 99 [zj v] (W6 (Xd v)):=by
 refine zdp _ ?_
 unfold Xd zle
 have htr:=ze8 v
 have htv:trV v= .tup [vi (trA v),vi (trB v)]:=rfl
 have hcut:List.take (trB v - trA v) (List.drop (trA v) (v.map Tok.enc))=(Q8 v).map Tok.enc:=by unfold Q8;rw[List.map_drop,List.map_take,List.drop_take]
 have hwl:=Q9 v
 have b1:=eq_true (show((trA v:Nat):Int)≤((trB v:Nat):Int)by omega)
 have b2:=eq_true (show((trB v:Nat):Int)≤(v.length:Int)by omega)
 have b0:=eq_true (show(0:Int)≤((trA v:Nat):Int)by omega)
 have hwl:(Q8 v).length≤1000000:=by omega
 generalize Q8 v=w at*
 generalize trA v=ta at*
 generalize trB v=tb at*
 cases hd:yq w with
 |true=>
  rw[if_pos rfl]
  have he:jP w=3:=by unfold jP;rw[if_pos hd]
  refine zg.of (Orc.cons K2 (Orc.cons KO (Orc.cons KC (Orc.cons KG (Orc.nil _))))) zqM (by simp[c99]) fun w0 o0=> ?_
  simp only[c99,zj,zE,ZW,ZX,zf,zW,hv,hwl,htv,hcut,b0,b1,b2,he,Int.toNat_natCast,zd,zb,za,yB,yA,zR,yC,go_sem,seval,reduceIte,reduceCtorEq]
  refine zD.lp (α:=Nat) (fun x=>[(2,.ptr 0 0 0 0),(7,vi 3)]) (fun x=>⟨[⟨0,1,[[zA]],false,[]⟩,⟨1,1,[[zA]],false,[]⟩],2⟩) (fun _=>True) (fun x=>x) 0 trivial (St.cut ?_ ?_ ?_) fun x hx=> ?_
  ·simp[zu,zk,zt]
  ·simp[Heap.alloc]
  ·rfl
  simp only[zbw,zX,zn,zd,zb,za,yB,yA,zR,yC,go_sem,seval,reduceIte,reduceCtorEq]
 |false=>
  rw[if_neg (by simp)]
  have he:jP w=0:=by unfold jP;rw[hd];rfl
  have hS:=hS hd
  generalize hR:zd7 w (w.length+1) 0 0 []=R
  refine zg.of (Orc.cons K2 (Orc.cons KO (Orc.cons KC (Orc.cons KG (Orc.nil _))))) zqM (by simp[c99]) fun w0 o0=> ?_
  simp only[c99,zj,zE,ZW,ZX,zf,zW,hv,hwl,htv,hcut,b0,b1,b2,he,Int.toNat_natCast,zd,zb,za,yB,yA,zR,yC,go_sem,seval,reduceIte,reduceCtorEq]
  refine zD.lp (α:=OnS8) (fun x=>[(0,.slc 3 (w.map Tok.enc)),(2,.ptr 0 0 0 0),(6,.slc 1 ((zz w).map fun n=>[vi n])),(7,vi 0),(8,.ptr 1 1 0 0),(9,vi x.n),(10,vi x.k)])
   (fun x=>⟨[⟨0,1,[[zA]],false,[]⟩,⟨1,1,[[.ref 2 x.ver 0 x.L.length]],false,[]⟩,⟨x.ver,2,x.L.map Cmp.enc,false,[vi 0,zA]⟩],x.clk⟩)
   (fun x=>x.k≤w.length∧x.L.length≤64∧w.length+1≤x.f+x.k∧zd7 w x.f x.k x.n x.L=R) (fun x=>w.length+1 - x.k) ⟨0,0,[],w.length+1,2,3⟩
   ⟨Nat.zero_le _,by simp,by dsimp only;omega,hR⟩ (St.cell 1 0 0 2 [vi 0,zA] rfl rfl (St.cut ?_ ?_ ?_)) fun x hx=> ?_
  ·simp[zu,zk,zt]
  ·simp[Heap.alloc]
  ·rfl
  obtain⟨k,n,L,f,ver,clk⟩:=x
  obtain⟨h1,h2,h3,h4⟩:=hx
  simp only at h1 h2 h3 h4
  obtain⟨f,rfl⟩:∃g,f=g+1:=⟨f - 1,by omega⟩
  have e0:(0:Int)≤(k:Int):=by omega
  have e1:(k:Int)≤(w.length:Int):=by omega
  have htl:L.take L.length=L:=List.take_length
  have hc:=zaQ hS.b k h1
  have hje:∀cl:List Smp,L.map Cmp.enc++ [[.c (.int .i64 n),.slc 3 (cl.map Smp.enc)]]=(L++ [(⟨n,cl⟩:Cmp)]).map Cmp.enc:=fun cl=>by simp[Cmp.enc]
  have hT:∀cl:List Smp,List.take (L.length+1) (L++ [(⟨n,cl⟩:Cmp)])=L++ [⟨n,cl⟩]:=fun cl=>List.take_of_length_le (by simp)
  simp only[zd7]at h4
  generalize hcr:j5 w k=r at*
  obtain⟨cl,to⟩:=r
  simp only at hc h4
  have e2:(0:Int)≤(to:Int):=by omega
  have e3:(to:Int)≤(w.length:Int):=by omega
  have hlk:=QK (v:=w) to hc.2.1
  generalize hlr:jF w to=q at*
  obtain⟨m,k2⟩:=q
  simp only at hlk h4
  by_cases c1:cl.length=0
  ·rw[if_pos (.inl c1)]at h4
   subst h4
   have c1':=eq_false (show ¬(0:Int)<(cl.length:Int)by omega)
   simp only[e0,e1,c1',hcr,hS,htl,crV,zbw,zX,zn,yP,Zo,hje,hT,zj,zE,zf,zW,Int.toNat_natCast,zd,zb,za,yB,yA,zR,yC,go_sem,seval,reduceIte,reduceCtorEq]
  have c1':=eq_true (show(0:Int)<(cl.length:Int)by omega)
  by_cases c2:L.length=64
  ·rw[if_pos (.inr c2)]at h4
   subst h4
   have c2':=eq_true (show(L.length:Int)=64 by omega)
   simp only[e0,e1,c1',c2',hcr,hS,htl,crV,zbw,zX,zn,yP,Zo,hje,hT,zj,zE,zf,zW,Int.toNat_natCast,zd,zb,za,yB,yA,zR,yC,go_sem,seval,reduceIte,reduceCtorEq]
  rw[if_neg (by omega)]at h4
  have c2':=eq_false (show ¬(L.length:Int)=64 by omega)
  by_cases c3:to=w.length
  ·rw[if_pos c3]at h4
   subst h4
   have c3':=eq_true (show(to:Int)=(w.length:Int)by omega)
   simp only[e0,e1,c1',c2',c3',hcr,hS,htl,crV,zbw,zX,zn,yP,Zo,hje,hT,zj,zE,zf,zW,Int.toNat_natCast,zd,zb,za,yB,yA,zR,yC,go_sem,seval,reduceIte,reduceCtorEq]
   rw[if_pos (by simp)]
   exact⟨⟨Nat.le_refl _,by omega,by omega⟩,rfl⟩
  rw[if_neg c3]at h4
  have c3':=eq_false (show ¬(to:Int)=(w.length:Int)by omega)
  by_cases c4:m=0
  ·rw[if_pos c4]at h4
   subst h4
   have c4':=eq_true c4
   simp only[e0,e1,e2,e3,hwl,hlr,c1',c2',c3',c4',hcr,hS,htl,crV,zbw,zX,zn,yP,Zo,hje,hT,zj,zE,zf,zW,Int.toNat_natCast,zd,zb,za,yB,yA,zR,yC,go_sem,seval,reduceIte,reduceCtorEq]
   exact⟨Nat.le_refl _,by omega,by omega⟩
  rw[if_neg c4]at h4
  have c4':=eq_false c4
  simp only[e0,e1,e2,e3,hwl,hlr,c1',c2',c3',c4',hcr,hS,htl,crV,zbw,zX,zn,yP,Zo,hje,hT,zj,zE,zf,zW,Int.toNat_natCast,zd,zb,za,yB,yA,zR,yC,go_sem,seval,reduceIte,reduceCtorEq]
  have hm:=hlk.2 c4
  exact⟨⟨Nat.le_refl _,by omega,by omega⟩,⟨k2,m,L++ [⟨n,cl⟩],f,_,_⟩,⟨hlk.1,by simp;omega,by dsimp only;omega,h4⟩,by dsimp only;omega,⟨rfl,rfl⟩,⟨⟨rfl,by simp⟩,rfl,rfl⟩,rfl⟩
def zqd(v:List Tok):Prop:=zg Tryz.prog 99 [zj v] (W6 (Xd v))
theorem zxO{v:List Tok}(h:zqd v):zg Tryz.prog 99 [zj v] (W6 (Xd v)):=h
def KI:Sum Tryz.prog:=⟨99,fun args=>args= [zj (zh (args.getD 0 .any))]∧zqd (zh (args.getD 0 .any)),fun args=>W6 (Xd (zh (args.getD 0 .any))),fun args h=>by
 have:=zxO h.2;rwa [←h.1]at this,false⟩
theorem zoW:KI.f=99:=rfl
theorem zoV(args:List V):KI.D args=(args= [zj (zh (args.getD 0 .any))]∧zqd (zh (args.getD 0 .any))):=rfl
theorem zeP:KI.flat=false:=rfl
theorem zoX(args:List V):KI.r args=W6 (Xd (zh (args.getD 0 .any))):=rfl
attribute [go_sem] zoW zoV zeP zoX
def W7:Option (List Sel)→V
 |none=>.tup [zA,vb false]
 |some xs=>.tup [k9 xs,vb true]
def zbE(o:Option (List Sel)):V:=.tup [k9 (o.getD []),vb o.isSome]
theorem zdr(o:Option (List Sel)){f:FuncId}{args:List V}(h:zg Tryz.prog f args (W7 o)):zg Tryz.prog f args (zbE o):=by
 cases o with
 |some l=>exact h
 |none=>
  refine zg.rsub h fun F w v hp=> ?_
  cases hp with
  |tup cs _ hl hx=>
   refine .tup cs _ hl fun i hi=> ?_
   have:=hx i hi
   match i,hi with
   |0,_=>exact PRep.nilS 1 this
   |1,_=>exact this
theorem zd9(l:List Tok):∀(ps:List Int)(b:Int),0≤b→b≤l.length→ps.Pairwise (· < ·)→(∀p∈ps,b≤p∧p<l.length)→∀q∈rsK l 16 l.length b ps,0≤q.1∧q.1≤q.2∧q.2≤l.length
 | [],b,h0,h1,_,_,q,hq=>by simp only[rsK,List.mem_singleton]at hq;subst hq;exact⟨h0,h1,Int.le_refl _⟩
 |p::ps,b,h0,h1,hw,hm,q,hq=>by
  obtain⟨hw1,hw2⟩:=List.pairwise_cons.1 hw
  have hp:=hm p (by simp)
  simp only[rsK]at hq
  split at hq
  ·rcases List.mem_cons.1 hq with rfl|hq
   ·exact⟨h0,hp.1,by dsimp only;omega⟩
   ·exact zd9 l ps (p+1) (by omega) (by omega) hw2 (fun x hx=>⟨by have:=hw1 x hx;omega,(hm x (by simp[hx])).2⟩) q hq
  ·exact zd9 l ps b h0 h1 hw2 (fun x hx=>hm x (by simp[hx])) q hq
theorem zd8(l:List Tok)(to:Int):∀(ps:List Int)(b:Int),(rsK l 16 to b ps).length≤ps.length+1
 | [],b=>by simp[rsK]
 |p::ps,b=>by
  simp only[rsK]
  split
  ·have:=zd8 l to ps (p+1);simp;omega
  ·have:=zd8 l to ps b;simp;omega
theorem zbP{l:List Tok}(hd:yq l=false):(Wu l).length≤l.length+1∧∀q∈Wu l,0≤q.1∧q.1≤q.2∧q.2≤l.length:=by
 have hmem:=zaI hd (l.length+1) 0
 have hpw:=zja hd (l.length+1) 0
 have hln:=zaH hd (l.length+1) 0 (Nat.zero_le _)
 rw[show((0:Nat):Int)=0 from rfl]at hmem hpw hln
 rw[zlp hd]
 exact⟨by have:=zd8 l l.length (plR (zz l) l.length (l.length+1) 0) 0;omega,zd9 l _ 0 (Int.le_refl _) (by omega) hpw hmem⟩
theorem zmT(l:List Tok)(P:List (Int×Int))(k:Nat)(h:k<P.length):Xg l (P.drop k)=match Xd ((l.take (P.getD k (0,0)).2.toNat).drop (P.getD k (0,0)).1.toNat)with|none=>none|some s=>(Xg l (P.drop (k+1))).map (s:: ·):=by
 rw[List.drop_eq_getElem_cons h,List.getD_eq_getElem?_getD,List.getElem?_eq_getElem h];rfl
theorem za9(l:List (Int×Int))(i:Nat):(l.map fun p=>[vi p.1,vi p.2]).getD i [vi 0,vi 0]= [vi (l.getD i (0,0)).1,vi (l.getD i (0,0)).2]:=by
 have:[vi 0,vi 0]=(fun p:Int×Int=>[vi p.1,vi p.2]) (0,0):=rfl
 rw[this]
 simp only[List.getD_eq_getElem?_getD,List.getElem?_map]
 cases l[i]? <;>rfl
theorem Jq(S:Nat→Bool)(h:Heap):∀l:List Sel,zB (zB (res S h 10)) (l.map zX)=some (l.map zX)
 | []=>rfl
 |s::l=>by simp only[List.map_cons,zB,Jq S h l,zX];rfl
structure QrS8 where
 k:Nat
 out:List Sel
 ver:Nat
 clk:Nat
theorem zmO(l:List Tok)(h1:l.length≤1000000)(hO:yq l=false→∀q∈Wu l,zqd ((l.take q.2.toNat).drop q.1.toNat)):zg Tryz.prog 63 [zj l] (zbE (psC l)):=by
 refine zdr _ ?_
 unfold psC
 cases hd:yq l with
 |true=>
  rw[if_pos rfl]
  have he:jP l=3:=by unfold jP;rw[if_pos hd]
  refine zg.of (Orc.cons K2 (Orc.cons YJ (Orc.cons KI (Orc.nil _)))) zqJ (by simp[c63]) fun w0 o0=> ?_
  simp only[c63,zj,zE,ZW,ZX,zf,zW,h1,he,W7,zd,zb,za,yB,yA,zR,yC,ZL,ZK,kA,ZM,go_sem,seval,reduceIte,reduceCtorEq]
 |false=>
  rw[if_neg (by simp)]
  have hO:=hO hd
  have he:jP l=0:=by unfold jP;rw[hd];rfl
  have hsp:=zmM hd
  obtain⟨hPl,hPr⟩:=zbP hd
  have hfd:zfX l (zz l):=⟨h1,fun i=>by have:=JX l i;omega⟩
  generalize hP:Wu l=P at*
  generalize hR:Xg l P=R
  refine zg.of (Orc.cons K2 (Orc.cons YJ (Orc.cons KI (Orc.nil _)))) zqJ (by simp[c63]) fun w0 o0=> ?_
  simp only[c63,zj,zE,ZW,ZX,zf,zW,h1,he,hfd,hsp,prs,zd,zb,za,yB,yA,zR,yC,ZL,ZK,kA,ZM,go_sem,seval,reduceIte,reduceCtorEq]
  refine zD.lp (α:=QrS8) (fun a=>[(0,.slc 3 (l.map Tok.enc)),(6,.ref 0 a.ver 0 a.out.length),(22,.slc 2 (P.map fun p=>[vi p.1,vi p.2])),(23,vi P.length),(24,vi a.k)])
   (fun a=>⟨[⟨a.ver,1,a.out.map zX,false,[zA]⟩],a.clk⟩) (fun a=>a.k≤P.length∧a.out.length=a.k∧(Xg l (P.drop a.k)).map (a.out++ ·)=R) (fun a=>P.length - a.k) ⟨0,[],0,1⟩
   ⟨Nat.zero_le _,rfl,by rw[←hR];simp only[List.drop_zero,List.nil_append];cases Xg l P<;>rfl⟩ (St.nil 6 1 [zA] (by simp[zk]) (St.cut ?_ ?_ ?_)) fun a ha=> ?_
  ·simp[zu,zk,zt]
  ·simp[Heap.alloc]
  ·rfl
  obtain⟨k,out,ver,clk⟩:=a
  obtain⟨h2,h3,h4⟩:=ha
  simp only at h2 h3 h4
  have hot:out.take out.length=out:=List.take_length
  by_cases hk:k=P.length
  ·subst hk
   rw[List.drop_length]at h4
   simp only[Xg,Option.map_some,List.append_nil]at h4
   subst h4
   simp only[Int.lt_irrefl,hot,W7,k9,Jq,Nat.le_refl,zd,zb,za,yB,yA,zR,yC,ZL,ZK,kA,ZM,go_sem,seval,reduceIte,reduceCtorEq]
  ·have e1:(k:Int)<(P.length:Int):=by omega
   have e0:(0:Int)≤(k:Int):=by omega
   have hlt:k<P.length:=by omega
   rw[zmT l P k hlt]at h4
   have hg:=za9 P k
   have hmem:P.getD k (0,0)∈P:=by rw[List.getD_eq_getElem?_getD,List.getElem?_eq_getElem hlt];exact List.getElem_mem _
   have hr:=hPr _ hmem
   have hok:=hO _ hmem
   clear hmem
   generalize P.getD k (0,0)=p at*
   obtain⟨a,b⟩:=p
   simp only at hr h4 hg hok
   obtain⟨a,rfl⟩:∃n:Nat,a=n:=⟨a.toNat,by omega⟩
   obtain⟨b,rfl⟩:∃n:Nat,b=n:=⟨b.toNat,by omega⟩
   obtain⟨r1,r2,r3⟩:=hr
   have hcut:List.take (b - a) (List.drop a (l.map Tok.enc))=((l.take b).drop a).map Tok.enc:=by rw[List.map_drop,List.map_take,List.drop_take]
   simp only[Int.toNat_natCast]at h4 hok
   generalize(l.take b).drop a=v at*
   cases ho:Xd v with
   |none=>
    rw[ho]at h4
    simp only[Option.map_none]at h4
    subst h4
    simp only[e0,e1,hg,r1,r2,r3,hcut,hok,ho,W6,zX,Option.getD_none,Option.isSome_none,W7,zj,zf,zd,zb,za,yB,yA,zR,yC,ZL,ZK,kA,ZM,go_sem,seval,reduceIte,reduceCtorEq]
   |some s=>
    rw[ho]at h4
    simp only at h4
    simp only[e0,e1,hg,r1,r2,r3,hcut,hok,ho,hot,W6,zX,Option.getD_some,Option.isSome_some,zj,zf,zd,zb,za,yB,yA,zR,yC,ZL,ZK,kA,ZM,go_sem,seval,reduceIte,reduceCtorEq]
    refine⟨⟨Nat.le_refl _,by omega,by omega⟩,by omega,⟨k+1,out++ [s],_,_⟩,⟨by dsimp only;omega,by simp;omega,?_⟩,by dsimp only;omega,⟨⟨rfl,by simp⟩,by dsimp only;omega⟩,⟨rfl,by simp[zX]⟩,rfl⟩
    rw[←h4];cases Xg l (P.drop (k+1))<;>simp
end Go.Proofs.YtjcmoedalneldaaGreat
section
section
namespace Go.Proofs.YtjcmoedalneldaaGreat
open Go.Sx
set_option linter.unusedSimpArgs false
set_option linter.unusedVariables false
set_option maxHeartbeats 8000000
set_option maxRecDepth 100000
def Xr:Sum Tryz.prog:=⟨172,fun args=>args= [zj (zh (args.getD 0 .any))]∧((zh (args.getD 0 .any))).length≤1000000,fun args=>Zr (JG (zh (args.getD 0 .any))),fun args h=>by
 have:=zvP (zh (args.getD 0 .any)) h.2;rwa [←h.1]at this,false⟩
theorem znt:Xr.f=172:=rfl
theorem zns(args:List V):Xr.D args=(args= [zj (zh (args.getD 0 .any))]∧((zh (args.getD 0 .any))).length≤1000000):=rfl
theorem zel:Xr.flat=false:=rfl
theorem znu(args:List V):Xr.r args=Zr (JG (zh (args.getD 0 .any))):=rfl
attribute [go_sem] znt zns zel znu
theorem JU{v:List Tok}{k:Nat}{w:ByteArray}(h:(v.getD k .zero).kind≠11):dlm v k w=false:=decide_eq_false fun hh=>h hh.2.1
theorem zqQ{t:Tok}(h:t.kind=12)(h2:t.text=⟨#[91]⟩):¬zG t=⟨#[]⟩:=by
 unfold zG;rw[h,h2];decide
theorem za0{v:List Tok}(hd:yq v=false){k:Nat}(hk:knd v k=12)(ht:txt v k=⟨#[91]⟩):(k:Int)<(zz v).getD k 0∧(zz v).getD k 0≤v.length:=by
 obtain⟨h1,h2⟩:=yx hk (by decide)
 rw[Zl v hd k h1]
 rcases JW v k h1 with h|h
 ·unfold Qq at h
  rw[if_neg (zqQ h2 ht)]at h
  have:=(ziN v k (v.length - (k+1)) (k+1) (by omega)).1
  omega
 ·exact h
theorem zna(v:List Tok)(hl:v.length≤1000000)(hd:yq v=false)(k:Nat)(hk:k≤v.length):zg Tryz.prog 154 [zj v,zE (zz v),vi k] (srV (yJ v k)):=by
 by_cases hn:knd v k=12
 case neg=>exact zjm v hl k hk hn
 obtain⟨hkl,hk12⟩:=yx hn (by decide)
 have h1:dlm v k ⟨#[42]⟩=false:=JU (by omega)
 have h4:dlm v k ⟨#[46]⟩=false:=JU (by omega)
 have h2:=eq_false (show ¬knd v k=2 by omega)
 have h3:=eq_false (show ¬knd v k=5 by omega)
 have e0:(0:Int)≤(k:Int):=by omega
 have e2:(k:Int)<(v.length:Int):=by omega
 have hg:=yi v k
 have hel:=za2 hd
 have e3:=eq_true (show(k:Int)<((zz v).length:Int)by omega)
 have hgi:=qm (zz v) k
 by_cases ht:txt v k=⟨#[91]⟩
 ·have hE:=za0 hd hn ht
  obtain⟨e,he⟩:∃e:Nat,(zz v).getD k 0=e:=⟨((zz v).getD k 0).toNat,by omega⟩
  have ht':(v.getD k .zero).text=⟨#[91]⟩:=ht
  by_cases h5:e<v.length
  ·have hr:yJ v k=match JG ((v.take e).drop (k+1))with
    |some s=>⟨s,e+1,true⟩
    |none=>⟨⟨0,⟨#[]⟩,⟨#[]⟩⟩,e+1,false⟩:=by
    unfold yJ;rw[h1,h4,if_neg (by simp),if_neg (by omega),if_neg (by omega),if_neg (by simp),if_pos ⟨hn,ht,by omega⟩,he];rfl
   rw[hr]
   rw[he]at hgi
   have hcut:List.take (e - (k+1)) (List.drop (k+1) (v.map Tok.enc))=((v.take e).drop (k+1)).map Tok.enc:=by rw[List.map_drop,List.map_take,List.drop_take]
   have hln:((v.take e).drop (k+1)).length≤1000000:=by simp;omega
   generalize(v.take e).drop (k+1)=u at*
   refine zg.of (Orc.cons Qb (Orc.cons Yi (Orc.cons Xr (Orc.nil _)))) zax (by simp[Jb]) fun w0 o0=> ?_
   have hn:=eq_true hn;have ht':=eq_true ht'
   have e5:=eq_true (show(e:Int)<(v.length:Int)by omega)
   have t1:((k:Int)+1).toNat=k+1:=by omega
   have b1:=eq_true (show(k:Int)+1≤(e:Int)by omega)
   have b2:=eq_true (show(e:Int)≤(v.length:Int)by omega)
   have b0:=eq_true (show(0:Int)≤(k:Int)+1 by omega)
   have o1:=eq_true (show(k:Int)+1≤9223372036854775807 by omega)
   have o2:=eq_true (show -9223372036854775808≤(k:Int)+1 by omega)
   cases ha:JG u with
   |none=>
    simp -implicitDefEqProofs only[Jb,srV,zj,zE,txt,zf,e0,e2,e3,e5,t1,b0,b1,b2,o1,o2,hgi,he,hcut,hln,ha,Zr,Option.getD_none,Option.isSome_none,h1,h2,h3,h4,hn,ht',hg,Int.toNat_natCast,Smp.enc,Tok.enc,zn,List.length_map,zd,zb,za,go_sem,seval,reduceIte,reduceCtorEq]
    exact⟨by omega,rfl⟩
   |some s=>
    obtain⟨sk,st,sv⟩:=s
    simp -implicitDefEqProofs only[Jb,srV,zj,zE,txt,zf,e0,e2,e3,e5,t1,b0,b1,b2,o1,o2,hgi,he,hcut,hln,ha,Zr,Option.getD_some,Option.isSome_some,h1,h2,h3,h4,hn,ht',hg,Int.toNat_natCast,Smp.enc,Tok.enc,zn,List.length_map,zd,zb,za,go_sem,seval,reduceIte,reduceCtorEq]
    exact⟨by omega,rfl⟩
  ·have hr:yJ v k=⟨⟨0,⟨#[]⟩,⟨#[]⟩⟩,k,false⟩:=by unfold yJ;rw[h1,h4,if_neg (by simp),if_neg (by omega),if_neg (by omega),if_neg (by simp),if_neg (fun hh=>h5 (by omega))]
   rw[hr]
   rw[he]at hgi
   refine zg.of (Orc.cons Qb (Orc.cons Yi (Orc.nil _))) zax (by simp[Jb]) fun w0 o0=> ?_
   have hn:=eq_true hn;have ht':=eq_true ht'
   have e5:=eq_false (show ¬(e:Int)<(v.length:Int)by omega)
   simp -implicitDefEqProofs only[Jb,srV,zj,zE,txt,zf,e0,e2,e3,e5,hgi,he,h1,h2,h3,h4,hn,ht',hg,Int.toNat_natCast,Smp.enc,Tok.enc,zn,List.length_map,zd,zb,za,go_sem,seval,reduceIte,reduceCtorEq]
 ·have hr:yJ v k=⟨⟨0,⟨#[]⟩,⟨#[]⟩⟩,k,false⟩:=by unfold yJ;rw[h1,h4,if_neg (by simp),if_neg (by omega),if_neg (by omega),if_neg (by simp),if_neg (fun hh=>ht hh.2.1)]
  rw[hr]
  refine zg.of (Orc.cons Qb (Orc.cons Yi (Orc.nil _))) zax (by simp[Jb]) fun w0 o0=> ?_
  have ht':¬(v.getD k .zero).text=⟨#[91]⟩:=ht
  have hn:=eq_true hn;have ht':=eq_false ht'
  simp -implicitDefEqProofs only[Jb,srV,zj,zE,txt,zf,e0,e2,e3,h1,h2,h3,h4,hn,ht',hg,Int.toNat_natCast,Smp.enc,Tok.enc,zn,zd,zb,za,go_sem,seval,reduceIte,reduceCtorEq]
theorem Xn{v:List Tok}(hd:yq v=false):zqe v:=fun k hk=>by
 unfold yJ
 split
 ·rename_i h1;intro _;have:=zdT h1;dsimp only;omega
 split
 ·rename_i h1;intro _;have:=(yx h1 (by decide)).1;dsimp only;omega
 split
 ·rename_i h1;intro _;have:=(yx h1 (by decide)).1;dsimp only;omega
 split
 ·rename_i h1;intro _;have:=(yx h1.2 (by decide)).1;dsimp only;omega
 split
 ·rename_i h1
  have:=za0 hd h1.1 h1.2.1
  have:=h1.2.2
  split
  ·intro _;dsimp only;omega
  ·intro hh;cases hh
 ·intro hh;cases hh
theorem zsz{v:List Tok}(hl:v.length≤1000000)(hd:yq v=false):zaM v:=⟨hl,fun k hk=>⟨zna v hl hd k hk,Xn hd k hk⟩⟩
theorem zr7{v:List Tok}(hv:v.length≤1000000):zqd v:=zxM v hv fun hd=>zsz (by have:=Q9 v;omega) hd
theorem zi9(l:List Tok)(h:l.length≤1000000):zg Tryz.prog 63 [zj l] (zbE (psC l)):=
 zmO l h fun _ q hq=>zr7 (by simp;omega)
def XO:Sum Tryz.prog:=⟨63,fun args=>args= [zj (zh (args.getD 0 .any))]∧((zh (args.getD 0 .any))).length≤1000000,fun args=>zbE (psC (zh (args.getD 0 .any))),fun args h=>by
 have:=zi9 (zh (args.getD 0 .any)) h.2;rwa [←h.1]at this,false⟩
theorem zo2:XO.f=63:=rfl
theorem zo1(args:List V):XO.D args=(args= [zj (zh (args.getD 0 .any))]∧((zh (args.getD 0 .any))).length≤1000000):=rfl
theorem zeR:XO.flat=false:=rfl
theorem zo3(args:List V):XO.r args=zbE (psC (zh (args.getD 0 .any))):=rfl
attribute [go_sem] zo2 zo1 zeR zo3
end Go.Proofs.YtjcmoedalneldaaGreat
end
section
namespace Go.Proofs.YtjcmoedalneldaaGreat
open Go.Sx
set_option linter.unusedSimpArgs false
set_option linter.unusedVariables false
set_option maxHeartbeats 8000000
set_option maxRecDepth 100000
structure PrS8 where
 n:Nat
 out:List Tok
 ver:Nat
 clk:Nat
end Go.Proofs.YtjcmoedalneldaaGreat
end
end
namespace Go.Proofs.YtjcmoedalneldaaGreat
open Go.Sx
set_option linter.unusedSimpArgs false
set_option linter.unusedVariables false
set_option maxHeartbeats 8000000
set_option maxRecDepth 100000
theorem zBA(L:List ByteArray)(u:ByteArray)(h:L.length≤1000000):∃S:Sum Tryz.prog,S.f=57∧S.flat=true∧S.D [.slc 1 (L.map fun s=>[vs s]),.c (.string u)]∧S.r [.slc 1 (L.map fun s=>[vs s]),.c (.string u)]=vi (ixS L u):=
 ⟨⟨57,fun args=>args= [Y6 L,vs u],fun _=>vi (ixS L u),fun args h'=>by rw[h'];exact zrz L u h,true⟩,rfl,rfl,rfl,rfl⟩
theorem zu6(s:ByteArray)(h:s.size≤1000000):zg Tryz.prog 160 [vs s] (vi (whN s)):=by
 unfold whN
 generalize hs:jG s=u
 obtain⟨S,s1,s2,s3,s4⟩:=zBA (⟨#[]⟩::whs) u (by decide)
 refine zg.of (Orc.cons S (Orc.cons QZ (Orc.nil _))) zwD (by simp[zzR]) fun w0 o0=> ?_
 generalize ixS (⟨#[]⟩::whs) u=r at*
 simp only[whs,List.map_cons,List.map_nil]at s3 s4
 simp only[zzR,h,hs,s1,s2,s3,s4,go_sem,zc,seval,reduceIte,reduceCtorEq]
def zhS:Sum Tryz.prog:=⟨160,fun args=>args= [vs ((args.getD 0 .any).str)]∧(((args.getD 0 .any).str)).size≤1000000,fun args=>vi (whN ((args.getD 0 .any).str)),fun args h=>by
 have:=zu6 ((args.getD 0 .any).str) h.2;rwa [←h.1]at this,true⟩
theorem zyz:zhS.f=160:=rfl
theorem zyy(args:List V):zhS.D args=(args= [vs ((args.getD 0 .any).str)]∧(((args.getD 0 .any).str)).size≤1000000):=rfl
theorem zkh:zhS.flat=true:=rfl
theorem zyA(args:List V):zhS.r args=vi (whN ((args.getD 0 .any).str)):=rfl
attribute [go_sem] zyz zyy zkh zyA
def itR(x:Itm×Bool):V:=.tup [.agg x.1.enc,vb x.2]
def okL(l:List Pa):Prop:=l.length≤1000001∧∀q∈l,yW q
theorem zv(S:Nat→Bool)(h:Heap)(cs:List V):res S h 11 (.agg cs)=(zB (res S h 10) cs).map .agg:=rfl
theorem zni(x:Itm)(l:List Pa)(h:okL l):zg Tryz.prog 133 [.agg x.enc,pas l] (itR (stV x l)):=by
 refine zg.of (Orc.cons zci (Orc.nil _)) zwm (by simp[zqD]) fun w0 o0=> ?_
 match l,h with
 | [],h=>
   simp only[zqD,Itm.enc,pas,stV,itR,zv,go_sem,zc,seval,reduceIte,reduceCtorEq]
 |q:: [],h=>
  have hq:q.t.text.size≤1000000:=h.2 q (by simp)
  simp only[zqD,Itm.enc,pas,Pa.enc,stV,itR,hq,zv,go_sem,zc,seval,reduceIte,reduceCtorEq]
 |q::q2::r,h=>
  have hq:q.t.text.size≤1000000:=h.2 q (by simp)
  have hne':¬(((r.length+1+1:Nat):Int)=1):=by omega
  have hn0:¬(((r.length+1+1:Nat):Int)=0):=by omega
  have hnp:(0:Int)<((r.length+1+1:Nat):Int):=by omega
  simp only[zqD,Itm.enc,pas,Pa.enc,stV,itR,hq,hne',hn0,hnp,zv,go_sem,zc,seval,reduceIte,reduceCtorEq]
theorem zlY(x:Itm)(l:List Pa)(h:okL l):zg Tryz.prog 134 [.agg x.enc,pas l] (itR (chV x l)):=by
 refine zg.of (Orc.cons zhS (Orc.nil _)) zwn (by simp[zqE]) fun w0 o0=> ?_
 match l,h with
 | [],h=>
   simp only[zqE,Itm.enc,pas,chV,itR,zv,go_sem,zc,seval,reduceIte,reduceCtorEq]
 |q:: [],h=>
  have hq:q.t.text.size≤1000000:=h.2 q (by simp)
  simp only[zqE,Itm.enc,pas,Pa.enc,chV,itR,hq,zv,go_sem,zc,seval,reduceIte,reduceCtorEq]
 |q::q2::r,h=>
  have hq:q.t.text.size≤1000000:=h.2 q (by simp)
  have hne':¬(((r.length+1+1:Nat):Int)=1):=by omega
  have hn0:¬(((r.length+1+1:Nat):Int)=0):=by omega
  have hnp:(0:Int)<((r.length+1+1:Nat):Int):=by omega
  simp only[zqE,Itm.enc,pas,Pa.enc,chV,itR,hq,hne',hn0,hnp,zv,go_sem,zc,seval,reduceIte,reduceCtorEq]
def zch:Sum Tryz.prog:=⟨133,fun args=>args= [.agg (Itm.enc (zaS (args.getD 0 .any))),pas (yX (args.getD 1 .any))]∧okL (yX (args.getD 1 .any)),fun args=>itR (stV (zaS (args.getD 0 .any)) (yX (args.getD 1 .any))),fun args h=>by
 have:=zni (zaS (args.getD 0 .any)) (yX (args.getD 1 .any)) h.2;rwa [←h.1]at this,false⟩
theorem zuu:zch.f=133:=rfl
theorem zut(args:List V):zch.D args=(args= [.agg (Itm.enc (zaS (args.getD 0 .any))),pas (yX (args.getD 1 .any))]∧okL (yX (args.getD 1 .any))):=rfl
theorem zhH:zch.flat=false:=rfl
theorem zuv(args:List V):zch.r args=itR (stV (zaS (args.getD 0 .any)) (yX (args.getD 1 .any))):=rfl
attribute [go_sem] zuu zut zhH zuv
def zbW:Sum Tryz.prog:=⟨134,fun args=>args= [.agg (Itm.enc (zaS (args.getD 0 .any))),pas (yX (args.getD 1 .any))]∧okL (yX (args.getD 1 .any)),fun args=>itR (chV (zaS (args.getD 0 .any)) (yX (args.getD 1 .any))),fun args h=>by
 have:=zlY (zaS (args.getD 0 .any)) (yX (args.getD 1 .any)) h.2;rwa [←h.1]at this,false⟩
theorem zsW:zbW.f=134:=rfl
theorem zsV(args:List V):zbW.D args=(args= [.agg (Itm.enc (zaS (args.getD 0 .any))),pas (yX (args.getD 1 .any))]∧okL (yX (args.getD 1 .any))):=rfl
theorem zg2:zbW.flat=false:=rfl
theorem zsX(args:List V):zbW.r args=itR (chV (zaS (args.getD 0 .any)) (yX (args.getD 1 .any))):=rfl
attribute [go_sem] zsW zsV zg2 zsX
def KZ(p:Pa):Itm×Bool:=
 if p.t.kind=6 then(⟨1,p.t.text,⟨#[]⟩,0,0⟩,true)
 else if p.t.kind=3∧qY p=true then
  match Qv p with
  | []=>(.zero,false)
  |a::l=>
   if zJ a=true then
    if yj p=jK then stV ⟨2,⟨#[]⟩,a.t.text,0,0⟩ l
    else if yj p=jb then
     (match l with
     | []=>(.zero,false)
     |q::r=>if q.t.kind=6 then stV ⟨3,q.t.text,a.t.text,0,0⟩ r else(.zero,false))
    else if yj p=ZO then chV ⟨4,⟨#[]⟩,a.t.text,0,0⟩ l
    else if yj p=jL then chV ⟨5,⟨#[]⟩,a.t.text,0,0⟩ l
    else if yj p=Ka then(⟨6,⟨#[]⟩,a.t.text,0,0⟩,decide (l= []))
    else(.zero,false)
   else(.zero,false)
 else(.zero,false)
theorem zaN{p:Pa}(h:qY p=true):∃a l,Qv p=a::l:=by
 unfold qY at h
 unfold Qv
 simp only[Bool.and_eq_true,decide_eq_true_eq]at h
 match hL:pl p.al with
 | []=>rw[hL]at h;simp at h
 |a::l=>exact⟨a,evn 1 l,rfl⟩
theorem zaO{p:Pa}(h:qY p=true):JE p= .tup [pas (Qv p),vb true]:=by
 have:KQ 0 (pl p.al)=true:=by unfold qY at h;simp only[Bool.and_eq_true]at h;exact h.2
 unfold JE Qv
 rw[if_pos this,h]
theorem zgm{p:Pa}(h:okT p.al):okL (Qv p):=by
 refine⟨?_,fun q hq=>(Yc h q (zdV _ _ q hq)).1⟩
 have h1:=zkW (pl p.al) 0
 have h2:=QP p.al
 have h3:=h.1
 unfold Qv;omega
theorem ZB{a:Pa}{l:List Pa}(h:okL (a::l)):yW a∧okL l:=⟨h.2 a (by simp),by have:=h.1;simp at this;exact⟨by omega,fun q hq=>h.2 q (by simp[hq])⟩⟩
theorem zxw(p:Pa)(h:yW p)(h':okT p.al):zg Tryz.prog 105 [.agg p.enc] (itR (KZ p)):=by
 refine zg.of (Orc.cons Xq (Orc.cons Z5 (Orc.cons Yk (Orc.cons zch (Orc.cons zbW (Orc.nil _)))))) zv2 (by simp[JI]) fun w0 o0=> ?_
 have h1:=h'.1
 unfold KZ
 by_cases k6:p.t.kind=6
 ·simp only[JI,Pa.enc,k6,itR,Itm.enc,zv,go_sem,zc,reduceCtorEq,reduceIte,Nat.reduceEqDiff,Nat.reduceAdd,Nat.reduceSub,Nat.reduceMul,Nat.reduceLT,Nat.reduceLeDiff,Nat.reduceBEq,Int.reduceEq,Int.reduceLT,Int.reduceLE,Int.reduceAdd,Int.reduceSub,Int.reduceNeg,Int.reduceToNat]
 rw[if_neg k6]
 cases hb:qY p with
 |false=>
  rw[if_neg (by simp)]
  obtain⟨L,hL⟩:∃L,JE p= .tup [.slc 4 L,vb false]:=⟨_,by unfold JE;rw[hb];rfl⟩
  simp only[JI,Pa.enc,k6,hL,h,h',zm,Pa.eta',itR,Itm.enc,Itm.zero,zv,zd,zb,za,go_sem,reduceCtorEq,reduceIte,Nat.reduceEqDiff,Nat.reduceAdd,Nat.reduceSub,Nat.reduceMul,Nat.reduceLT,Nat.reduceLeDiff,Nat.reduceBEq,Int.reduceEq,Int.reduceLT,Int.reduceLE,Int.reduceAdd,Int.reduceSub,Int.reduceNeg,Int.reduceToNat]
  omega
 |true=>
  by_cases k3:p.t.kind=3
  ·rw[if_pos ⟨k3,rfl⟩]
   have hV:=zaO hb
   have hK:=zgm h'
   obtain⟨a,l,hal⟩:=zaN hb
   rw[hal]at hV hK
   obtain⟨ka,kl⟩:=ZB hK
   rw[hal]
   dsimp only
   have h3:yW ⟨⟨3,p.t.text,p.t.n⟩,p.al⟩:=h
   have e3:(⟨⟨3,p.t.text,p.t.n⟩,p.al⟩:Pa)=p:=by rw[←k3]
   have hV':JE ⟨⟨3,p.t.text,p.t.n⟩,p.al⟩= .tup [.slc 4 (a.enc::l.map Pa.enc),vb true]:=by rw[e3];exact hV
   have h'3:okT p.al:=h'
   have h6:¬((3:Int)=6):=by omega
   have hla:decide (((l.length+1:Nat):Int)=1)=decide (l= []):=by
    cases l with
    |nil=>rfl
    |cons q r=>simp;omega
   have h1l:(1:Int)≤((l.length+1:Nat):Int):=by omega
   have htk:l.take (l.length+1 - 1)=l:=List.take_of_length_le (by omega)
   have h0l:(0:Int)<((l.length+1:Nat):Int):=by omega
   obtain⟨w,hw0⟩:∃w,yj p=w:=⟨_,rfl⟩
   have hw:yj ⟨⟨3,p.t.text,p.t.n⟩,p.al⟩=w:=by rw[e3];exact hw0
   rw[hw0]
   cases hn:zJ a with
   |false=>
    simp only[Bool.false_eq_true,if_false]
    simp only[JI,Pa.enc,k3,h6,hV',h3,h'3,hw,h0l,h1l,htk,Int.le_refl,ka,zm,yH,zC,Pa.eta',Itm.eta',itR,Itm.enc,Itm.zero,pas,zv,List.map_cons,hn,zd,zb,za,go_sem,reduceCtorEq,reduceIte,Nat.reduceEqDiff,Nat.reduceAdd,Nat.reduceSub,Nat.reduceMul,Nat.reduceLT,Nat.reduceLeDiff,Nat.reduceBEq,Int.reduceEq,Int.reduceLT,Int.reduceLE,Int.reduceAdd,Int.reduceSub,Int.reduceNeg,Int.reduceToNat]
   |true=>
    simp only[if_true]
    unfold jK jb ZO jL Ka
    by_cases c0:w=⟨#[99,111,117,110,116,101,114]⟩
    ·have d0:=eq_true c0
     rw[if_pos c0]
     simp only[JI,Pa.enc,k3,h6,hV',h3,h'3,hw,h0l,h1l,htk,Int.le_refl,ka,zm,yH,zC,Pa.eta',Itm.eta',itR,Itm.enc,Itm.zero,pas,zv,List.map_cons,d0,hn,kl,zd,zb,za,go_sem,reduceCtorEq,reduceIte,Nat.reduceEqDiff,Nat.reduceAdd,Nat.reduceSub,Nat.reduceMul,Nat.reduceLT,Nat.reduceLeDiff,Nat.reduceBEq,Int.reduceEq,Int.reduceLT,Int.reduceLE,Int.reduceAdd,Int.reduceSub,Int.reduceNeg,Int.reduceToNat]
    by_cases c1:w=⟨#[99,111,117,110,116,101,114,115]⟩
    ·have d1:=eq_true c1
     rw[if_neg c0,if_pos c1]
     cases l with
     |nil=>
      simp only[JI,Pa.enc,k3,h6,hV',h3,h'3,hw,h0l,h1l,htk,Int.le_refl,ka,zm,yH,zC,Pa.eta',Itm.eta',itR,Itm.enc,Itm.zero,pas,zv,List.map_cons,c0,d1,hn,zd,zb,za,go_sem,reduceCtorEq,reduceIte,Nat.reduceEqDiff,Nat.reduceAdd,Nat.reduceSub,Nat.reduceMul,Nat.reduceLT,Nat.reduceLeDiff,Nat.reduceBEq,Int.reduceEq,Int.reduceLT,Int.reduceLE,Int.reduceAdd,Int.reduceSub,Int.reduceNeg,Int.reduceToNat]
     |cons q r=>
      dsimp only
      obtain⟨kq,kr⟩:=ZB kl
      have htk2:r.take (r.length+1+1 - 2)=r:=List.take_of_length_le (by omega)
      have hl0:(0:Int)<((r.length+1+1:Nat):Int):=by omega
      have hl2:¬(((r.length+1+1:Nat):Int)<2):=by omega
      have hl3:(1:Int)<((r.length+1+1:Nat):Int):=by omega
      have hl4:(2:Int)≤((r.length+1+1:Nat):Int):=by omega
      by_cases k6q:q.t.kind=6
      ·rw[if_pos k6q]
       simp only[JI,Pa.enc,k3,h6,hV',h3,h'3,hw,h0l,h1l,htk,Int.le_refl,ka,zm,yH,zC,Pa.eta',Itm.eta',itR,Itm.enc,Itm.zero,pas,zv,List.map_cons,c0,d1,hn,k6q,kr,kq,hl0,hl2,hl3,hl4,htk2,zd,zb,za,go_sem,reduceCtorEq,reduceIte,Nat.reduceEqDiff,Nat.reduceAdd,Nat.reduceSub,Nat.reduceMul,Nat.reduceLT,Nat.reduceLeDiff,Nat.reduceBEq,Int.reduceEq,Int.reduceLT,Int.reduceLE,Int.reduceAdd,Int.reduceSub,Int.reduceNeg,Int.reduceToNat]
      ·rw[if_neg k6q]
       simp only[JI,Pa.enc,k3,h6,hV',h3,h'3,hw,h0l,h1l,htk,Int.le_refl,ka,zm,yH,zC,Pa.eta',Itm.eta',itR,Itm.enc,Itm.zero,pas,zv,List.map_cons,c0,d1,hn,k6q,kr,kq,hl0,hl2,hl3,hl4,htk2,zd,zb,za,go_sem,reduceCtorEq,reduceIte,Nat.reduceEqDiff,Nat.reduceAdd,Nat.reduceSub,Nat.reduceMul,Nat.reduceLT,Nat.reduceLeDiff,Nat.reduceBEq,Int.reduceEq,Int.reduceLT,Int.reduceLE,Int.reduceAdd,Int.reduceSub,Int.reduceNeg,Int.reduceToNat]
    by_cases c2:w=⟨#[115,116,114,105,110,103]⟩
    ·have d2:=eq_true c2
     rw[if_neg c0,if_neg c1,if_pos c2]
     simp only[JI,Pa.enc,k3,h6,hV',h3,h'3,hw,h0l,h1l,htk,Int.le_refl,ka,zm,yH,zC,Pa.eta',Itm.eta',itR,Itm.enc,Itm.zero,pas,zv,List.map_cons,c0,c1,d2,hn,kl,zd,zb,za,go_sem,reduceCtorEq,reduceIte,Nat.reduceEqDiff,Nat.reduceAdd,Nat.reduceSub,Nat.reduceMul,Nat.reduceLT,Nat.reduceLeDiff,Nat.reduceBEq,Int.reduceEq,Int.reduceLT,Int.reduceLE,Int.reduceAdd,Int.reduceSub,Int.reduceNeg,Int.reduceToNat]
    by_cases c3:w=⟨#[101,108,101,109,101,110,116]⟩
    ·have d3:=eq_true c3
     rw[if_neg c0,if_neg c1,if_neg c2,if_pos c3]
     simp only[JI,Pa.enc,k3,h6,hV',h3,h'3,hw,h0l,h1l,htk,Int.le_refl,ka,zm,yH,zC,Pa.eta',Itm.eta',itR,Itm.enc,Itm.zero,pas,zv,List.map_cons,c0,c1,c2,d3,hn,kl,zd,zb,za,go_sem,reduceCtorEq,reduceIte,Nat.reduceEqDiff,Nat.reduceAdd,Nat.reduceSub,Nat.reduceMul,Nat.reduceLT,Nat.reduceLeDiff,Nat.reduceBEq,Int.reduceEq,Int.reduceLT,Int.reduceLE,Int.reduceAdd,Int.reduceSub,Int.reduceNeg,Int.reduceToNat]
    by_cases c4:w=⟨#[97,116,116,114]⟩
    ·have d4:=eq_true c4
     rw[if_neg c0,if_neg c1,if_neg c2,if_neg c3,if_pos c4]
     simp only[JI,Pa.enc,k3,h6,hV',h3,h'3,hw,h0l,h1l,htk,Int.le_refl,ka,zm,yH,zC,Pa.eta',Itm.eta',itR,Itm.enc,Itm.zero,pas,zv,List.map_cons,c0,c1,c2,c3,d4,hn,kl,hla,zd,zb,za,go_sem,reduceCtorEq,reduceIte,Nat.reduceEqDiff,Nat.reduceAdd,Nat.reduceSub,Nat.reduceMul,Nat.reduceLT,Nat.reduceLeDiff,Nat.reduceBEq,Int.reduceEq,Int.reduceLT,Int.reduceLE,Int.reduceAdd,Int.reduceSub,Int.reduceNeg,Int.reduceToNat]
    rw[if_neg c0,if_neg c1,if_neg c2,if_neg c3,if_neg c4]
    simp only[JI,Pa.enc,k3,h6,hV',h3,h'3,hw,h0l,h1l,htk,Int.le_refl,ka,zm,yH,zC,Pa.eta',Itm.eta',itR,Itm.enc,Itm.zero,pas,zv,List.map_cons,c0,c1,c2,c3,c4,hn,zd,zb,za,go_sem,reduceCtorEq,reduceIte,Nat.reduceEqDiff,Nat.reduceAdd,Nat.reduceSub,Nat.reduceMul,Nat.reduceLT,Nat.reduceLeDiff,Nat.reduceBEq,Int.reduceEq,Int.reduceLT,Int.reduceLE,Int.reduceAdd,Int.reduceSub,Int.reduceNeg,Int.reduceToNat]
  ·rw[if_neg (fun hh=>k3 hh.1)]
   obtain⟨a,l,hal⟩:=zaN hb
   have hV:=zaO hb
   rw[hal]at hV
   simp only[pas,List.map_cons]at hV
   simp only[JI,Pa.enc,k6,k3,hV,h,h',zm,Pa.eta',itR,Itm.enc,Itm.zero,zv,zd,zb,za,go_sem,reduceCtorEq,reduceIte,Nat.reduceEqDiff,Nat.reduceAdd,Nat.reduceSub,Nat.reduceMul,Nat.reduceLT,Nat.reduceLeDiff,Nat.reduceBEq,Int.reduceEq,Int.reduceLT,Int.reduceLE,Int.reduceAdd,Int.reduceSub,Int.reduceNeg,Int.reduceToNat]
def stW(x:Itm):List Pa→Itm×Bool
 | []=>(x,decide (0≤x.style))
 | [q]=>if q.t.kind=2 then(⟨x.kind,x.text,x.name,zaq q.t.text,x.which⟩,decide (0≤zaq q.t.text))else(.zero,false)
 |_::_::_=>(.zero,false)
def chW(x:Itm):List Pa→Itm×Bool
 | []=>(⟨x.kind,x.text,x.name,x.style,1⟩,true)
 | [q]=>if q.t.kind=2 then(⟨x.kind,x.text,x.name,x.style,whR q.t.text⟩,decide (0<whR q.t.text))else(.zero,false)
 |_::_::_=>(.zero,false)
def WZ(p:Pa):Itm×Bool:=
 if p.t.kind=6 then(⟨1,p.t.text,⟨#[]⟩,0,0⟩,true)
 else if p.t.kind=3∧qY p=true then
  match Qv p with
  | []=>(.zero,false)
  |a::l=>
   if zJ a=true then
    if yj p=Ka then(if l= []then(⟨6,⟨#[]⟩,a.t.text,0,0⟩,true)else(.zero,false))
    else if yj p=jb then
     (match l with
     | []=>(.zero,false)
     |q::r=>if q.t.kind=6 then stW ⟨3,q.t.text,a.t.text,0,0⟩ r else(.zero,false))
    else if yj p=jK then stW ⟨2,⟨#[]⟩,a.t.text,0,0⟩ l
    else if yj p=ZO then chW ⟨4,⟨#[]⟩,a.t.text,0,0⟩ l
    else if yj p=jL then chW ⟨5,⟨#[]⟩,a.t.text,0,0⟩ l
    else(.zero,false)
   else(.zero,false)
 else(.zero,false)
theorem ziq{p:Pa}(h:qY p=true):WQ p= .tup [pas (Qv p),vb true]:=by
 unfold WQ Qv
 rw[if_pos h,h]
theorem zft{p:Pa}(h:qY p=false):WQ p= .tup [.slc 4 [],vb false]:=by
 unfold WQ
 rw[if_neg (by simp[h]),h];rfl
structure AtS where
 S:Sum Tryz.prog
 hf:S.f=46
 hfl:S.flat=true
 hD:∀u,S.D [.slc 1 [[.c (.string ⟨#[102,105,114,115,116]⟩)],[.c (.string ⟨#[115,116,97,114,116]⟩)],[.c (.string ⟨#[108,97,115,116]⟩)],[.c (.string ⟨#[102,105,114,115,116,45,101,120,99,101,112,116]⟩)]],.c (.string u)]
 hr:∀u,S.r [.slc 1 [[.c (.string ⟨#[102,105,114,115,116]⟩)],[.c (.string ⟨#[115,116,97,114,116]⟩)],[.c (.string ⟨#[108,97,115,116]⟩)],[.c (.string ⟨#[102,105,114,115,116,45,101,120,99,101,112,116]⟩)]],.c (.string u)]=vi (ixS whs u)
theorem zzo:Nonempty AtS:=⟨⟨⟨46,fun args=>∃u,args= [Y6 whs,vs u],fun args=>vi (ixS whs (args.getD 1 .any).str),fun args h'=>by
 obtain⟨u,rfl⟩:=h'
 exact zql whs u (by decide),true⟩,rfl,rfl,fun u=>⟨u,rfl⟩,fun u=>rfl⟩⟩
theorem zd0(l:List ByteArray)(x:ByteArray): -1≤ixS l x∧ixS l x≤l.length:=by
 unfold ixS
 rcases kU (fun i=>decide (x=l.getD i ⟨#[]⟩)) (l.length - 0) 0 with⟨h1,_⟩|⟨m,h1,_,h3,_⟩<;>omega
def tlI:C:=c84.body.tl.tl.tl.tl.tl.tl.tl.tl.tl.tl
structure TlE (e:Nat→V) (M:List Pa) (n:Int) (v:Nat):Prop where
 a:e 2= .ptr 1 1 0 0
 b:e 4= .ptr 2 2 0 0
 c:e 5= .slc 4 (M.map Pa.enc)
 d:e 7= .ptr 3 v 0 0
 f:e 9=vi n
def hpI(p:Pa)(x:Itm)(v clk:Nat):Heap:=⟨[⟨0,4,[p.enc],false,[]⟩,⟨1,5,[Itm.zero.enc],false,[]⟩,⟨2,5,[Itm.zero.enc],false,[]⟩,⟨v,5,[x.enc],false,[]⟩],clk⟩
def QI(R:Itm×Bool):yy:=zbJ c84.rs fun v h=>res (fun _=>true) h 12 v=some (itR R)
theorem zuY(S:AtS)(p:Pa)(q1:Pa)(l:List Pa)(kl:okL l)(kd:Int)(tx nx:ByteArray)(hk4:(4≤kd)=False)(v clk:Nat)(w0:World)(o0:Sx.Own)(e:Nat→V)(he:TlE e (q1::l) 1 v):
  wpC ⟨Tryz.prog,Orc.cons S.S (Orc.cons jJ (Orc.cons kf (Orc.cons ja (Orc.cons Z6 (Orc.nil _))))),c84.n,w0,o0⟩ tlI (QI (stW ⟨kd,tx,nx,0,0⟩ l)) e (hpI p ⟨kd,tx,nx,0,0⟩ v clk):=by
 obtain⟨a,b,c,d,f⟩:=he
 obtain⟨S,s1,s2,sD,sr⟩:=S
 match l,kl with
 | [],kl=>
   simp only[stW]
   simp only[c84,tlI,QI,hpI,C.tl,a,b,c,d,f,Pa.enc,zm,Pa.eta',Itm.eta',itR,Itm.enc,Itm.zero,zv,List.map_cons,List.map_nil,hk4,zd,zb,za,s1,s2,go_sem,seval,reduceIte,reduceCtorEq]
 | [y],kl=>
   have kb:yW y:=(ZB kl).1
   have kb':y.t.text.size≤1000000:=kb
   simp only[stW]
   by_cases kb2:y.t.kind=2
   ·rw[if_pos kb2]
    have kb2t:=eq_true kb2
    have kb4:yj y=jG y.t.text:=rfl
    simp only[c84,tlI,QI,hpI,C.tl,a,b,c,d,f,Pa.enc,zm,Pa.eta',Itm.eta',itR,Itm.enc,Itm.zero,zv,List.map_cons,List.map_nil,hk4,kb2t,kb,kb',kb4,sD,sr,whR,zd,zb,za,s1,s2,go_sem,seval,reduceIte,reduceCtorEq]
    all_goals (have hix:=zd0 whs (jG y.t.text);have hwl:whs.length=4:=rfl;exact⟨by omega,rfl⟩)
   ·rw[if_neg kb2]
    have kb2t:=eq_false kb2
    simp only[c84,tlI,QI,hpI,C.tl,a,b,c,d,f,Pa.enc,zm,Pa.eta',Itm.eta',itR,Itm.enc,Itm.zero,zv,List.map_cons,List.map_nil,hk4,kb2t,kb,kb',zd,zb,za,s1,s2,go_sem,seval,reduceIte,reduceCtorEq]
 |y::y2::r,kl=>
  have hgt:(2:Int)<((r.length+1+1+1:Nat):Int):=by omega
  simp only[stW]
  simp only[c84,tlI,QI,hpI,C.tl,a,b,c,d,f,Pa.enc,zm,Pa.eta',Itm.eta',itR,Itm.enc,Itm.zero,zv,List.map_cons,List.map_nil,hk4,hgt,zd,zb,za,s1,s2,go_sem,seval,reduceIte,reduceCtorEq]
theorem zuZ(S:AtS)(p:Pa)(q1 q2:Pa)(l:List Pa)(kl:okL l)(kd:Int)(tx nx:ByteArray)(hk4:(4≤kd)=False)(v clk:Nat)(w0:World)(o0:Sx.Own)(e:Nat→V)(he:TlE e (q1::q2::l) 2 v):
  wpC ⟨Tryz.prog,Orc.cons S.S (Orc.cons jJ (Orc.cons kf (Orc.cons ja (Orc.cons Z6 (Orc.nil _))))),c84.n,w0,o0⟩ tlI (QI (stW ⟨kd,tx,nx,0,0⟩ l)) e (hpI p ⟨kd,tx,nx,0,0⟩ v clk):=by
 obtain⟨a,b,c,d,f⟩:=he
 obtain⟨S,s1,s2,sD,sr⟩:=S
 match l,kl with
 | [],kl=>
   simp only[stW]
   simp only[c84,tlI,QI,hpI,C.tl,a,b,c,d,f,Pa.enc,zm,Pa.eta',Itm.eta',itR,Itm.enc,Itm.zero,zv,List.map_cons,List.map_nil,hk4,zd,zb,za,s1,s2,go_sem,seval,reduceIte,reduceCtorEq]
 | [y],kl=>
   have kb:yW y:=(ZB kl).1
   have kb':y.t.text.size≤1000000:=kb
   simp only[stW]
   by_cases kb2:y.t.kind=2
   ·rw[if_pos kb2]
    have kb2t:=eq_true kb2
    have kb4:yj y=jG y.t.text:=rfl
    simp only[c84,tlI,QI,hpI,C.tl,a,b,c,d,f,Pa.enc,zm,Pa.eta',Itm.eta',itR,Itm.enc,Itm.zero,zv,List.map_cons,List.map_nil,hk4,kb2t,kb,kb',kb4,sD,sr,whR,zd,zb,za,s1,s2,go_sem,seval,reduceIte,reduceCtorEq]
    all_goals (have hix:=zd0 whs (jG y.t.text);have hwl:whs.length=4:=rfl;exact⟨by omega,rfl⟩)
   ·rw[if_neg kb2]
    have kb2t:=eq_false kb2
    simp only[c84,tlI,QI,hpI,C.tl,a,b,c,d,f,Pa.enc,zm,Pa.eta',Itm.eta',itR,Itm.enc,Itm.zero,zv,List.map_cons,List.map_nil,hk4,kb2t,kb,kb',zd,zb,za,s1,s2,go_sem,seval,reduceIte,reduceCtorEq]
 |y::y2::r,kl=>
  have hgt:(3:Int)<((r.length+1+1+1+1:Nat):Int):=by omega
  simp only[stW]
  simp only[c84,tlI,QI,hpI,C.tl,a,b,c,d,f,Pa.enc,zm,Pa.eta',Itm.eta',itR,Itm.enc,Itm.zero,zv,List.map_cons,List.map_nil,hk4,hgt,zd,zb,za,s1,s2,go_sem,seval,reduceIte,reduceCtorEq]
theorem zuX(S:AtS)(p:Pa)(q1:Pa)(l:List Pa)(kl:okL l)(kd:Int)(tx nx:ByteArray)(hk4:(4≤kd)=True)(v clk:Nat)(w0:World)(o0:Sx.Own)(e:Nat→V)(he:TlE e (q1::l) 1 v):
  wpC ⟨Tryz.prog,Orc.cons S.S (Orc.cons jJ (Orc.cons kf (Orc.cons ja (Orc.cons Z6 (Orc.nil _))))),c84.n,w0,o0⟩ tlI (QI (chW ⟨kd,tx,nx,0,0⟩ l)) e (hpI p ⟨kd,tx,nx,0,0⟩ v clk):=by
 obtain⟨a,b,c,d,f⟩:=he
 obtain⟨S,s1,s2,sD,sr⟩:=S
 match l,kl with
 | [],kl=>
   simp only[chW]
   simp only[c84,tlI,QI,hpI,C.tl,a,b,c,d,f,Pa.enc,zm,Pa.eta',Itm.eta',itR,Itm.enc,Itm.zero,zv,List.map_cons,List.map_nil,hk4,zd,zb,za,s1,s2,go_sem,seval,reduceIte,reduceCtorEq]
 | [y],kl=>
   have kb:yW y:=(ZB kl).1
   have kb':y.t.text.size≤1000000:=kb
   simp only[chW]
   by_cases kb2:y.t.kind=2
   ·rw[if_pos kb2]
    have kb2t:=eq_true kb2
    have kb4:yj y=jG y.t.text:=rfl
    simp only[c84,tlI,QI,hpI,C.tl,a,b,c,d,f,Pa.enc,zm,Pa.eta',Itm.eta',itR,Itm.enc,Itm.zero,zv,List.map_cons,List.map_nil,hk4,kb2t,kb,kb',kb4,sD,sr,whR,zd,zb,za,s1,s2,go_sem,seval,reduceIte,reduceCtorEq]
    all_goals (have hix:=zd0 whs (jG y.t.text);have hwl:whs.length=4:=rfl;exact⟨by omega,rfl⟩)
   ·rw[if_neg kb2]
    have kb2t:=eq_false kb2
    simp only[c84,tlI,QI,hpI,C.tl,a,b,c,d,f,Pa.enc,zm,Pa.eta',Itm.eta',itR,Itm.enc,Itm.zero,zv,List.map_cons,List.map_nil,hk4,kb2t,kb,kb',zd,zb,za,s1,s2,go_sem,seval,reduceIte,reduceCtorEq]
 |y::y2::r,kl=>
  have hgt:(2:Int)<((r.length+1+1+1:Nat):Int):=by omega
  simp only[chW]
  simp only[c84,tlI,QI,hpI,C.tl,a,b,c,d,f,Pa.enc,zm,Pa.eta',Itm.eta',itR,Itm.enc,Itm.zero,zv,List.map_cons,List.map_nil,hk4,hgt,zd,zb,za,s1,s2,go_sem,seval,reduceIte,reduceCtorEq]
theorem zrx(p:Pa)(h:yW p)(h':okT p.al):zg Tryz.prog 84 [.agg p.enc] (itR (WZ p)):=by
 obtain⟨S⟩:=zzo
 refine zg.of (Orc.cons S.S (Orc.cons jJ (Orc.cons kf (Orc.cons ja (Orc.cons Z6 (Orc.nil _)))))) zAU (by simp[c84]) fun w0 o0=> ?_
 have h1:=h'.1
 have hb:c84.body= .seq c84.body.hd (.seq c84.body.tl.hd (.seq c84.body.tl.tl.hd (.seq c84.body.tl.tl.tl.hd (.seq c84.body.tl.tl.tl.tl.hd (.seq c84.body.tl.tl.tl.tl.tl.hd (.seq c84.body.tl.tl.tl.tl.tl.tl.hd (.seq c84.body.tl.tl.tl.tl.tl.tl.tl.hd (.seq c84.body.tl.tl.tl.tl.tl.tl.tl.tl.hd (.seq c84.body.tl.tl.tl.tl.tl.tl.tl.tl.tl.hd (tlI)))))))))):=rfl
 rw[hb]
 have T1:=@zuY S p
 have T2:=@zuZ S p
 have T3:=@zuX S p
 obtain⟨S,s1,s2,sD,sr⟩:=S
 have hQ:∀R,(zbJ c84.rs fun v h=>res (fun _=>true) h 12 v=some (itR R))=QI R:=fun R=>rfl
 generalize tlI=rest at*
 unfold WZ
 by_cases k6:p.t.kind=6
 ·have k6t:=eq_true k6
  rw[if_pos k6]
  simp only[c84,C.hd,C.tl,Pa.enc,k6t,itR,Itm.enc,zv,zd,zb,za,s1,s2,go_sem,seval,reduceIte,reduceCtorEq]
 rw[if_neg k6]
 have k6f:=eq_false k6
 cases hb:qY p with
 |false=>
  rw[if_neg (by simp)]
  have hL:=zft hb
  simp only[c84,C.hd,C.tl,Pa.enc,k6f,hL,h,h',zm,Pa.eta',itR,Itm.enc,Itm.zero,zv,zd,zb,za,s1,s2,go_sem,seval,reduceIte,reduceCtorEq]
  omega
 |true=>
  have hV:=ziq hb
  have hK:=zgm h'
  obtain⟨a,l,hal⟩:=zaN hb
  rw[hal]at hV hK
  simp only[pas,List.map_cons]at hV
  obtain⟨ka,kl⟩:=ZB hK
  have h0l:(0:Int)<((l.length+1:Nat):Int):=by omega
  by_cases k3:p.t.kind=3
  ·rw[if_pos ⟨k3,rfl⟩,hal]
   have k3t:=eq_true k3
   dsimp only
   obtain⟨w,hw0⟩:∃w,yj p=w:=⟨_,rfl⟩
   rw[hw0]
   cases hn:zJ a with
   |false=>
    simp only[Bool.false_eq_true,if_false]
    simp only[c84,C.hd,C.tl,Pa.enc,k3t,k6f,hV,h,h',hw0,ka,zm,yH,Pa.eta',Itm.eta',itR,Itm.enc,Itm.zero,pas,zv,List.map_cons,List.map_nil,hn,h0l,zd,zb,za,s1,s2,go_sem,seval,reduceIte,reduceCtorEq]
   |true=>
    simp only[if_true]
    unfold jK jb ZO jL Ka
    by_cases c0:w=⟨#[97,116,116,114]⟩
    ·have d0:=eq_true c0
     rw[if_pos c0]
     cases l with
     |nil=>
      rw[if_pos rfl]
      simp only[c84,C.hd,C.tl,Pa.enc,k3t,k6f,hV,h,h',hw0,ka,zm,yH,Pa.eta',Itm.eta',itR,Itm.enc,Itm.zero,pas,zv,List.map_cons,List.map_nil,d0,hn,h0l,zd,zb,za,s1,s2,go_sem,seval,reduceIte,reduceCtorEq]
     |cons q r=>
      rw[if_neg (by simp)]
      have hg0:(0:Int)<((r.length+1+1:Nat):Int):=by omega
      have hg1:(1:Int)<((r.length+1+1:Nat):Int):=by omega
      simp only[c84,C.hd,C.tl,Pa.enc,k3t,k6f,hV,h,h',hw0,ka,zm,yH,Pa.eta',Itm.eta',itR,Itm.enc,Itm.zero,pas,zv,List.map_cons,List.map_nil,d0,hn,h0l,hg0,hg1,zd,zb,za,s1,s2,go_sem,seval,reduceIte,reduceCtorEq]
    by_cases c1:w=⟨#[99,111,117,110,116,101,114,115]⟩
    ·have d1:=eq_true c1
     rw[if_neg c0,if_pos c1]
     cases l with
     |nil=>
      simp only[c84,C.hd,C.tl,Pa.enc,k3t,k6f,hV,h,h',hw0,ka,zm,yH,Pa.eta',Itm.eta',itR,Itm.enc,Itm.zero,pas,zv,List.map_cons,List.map_nil,c0,d1,hn,h0l,zd,zb,za,s1,s2,go_sem,seval,reduceIte,reduceCtorEq]
     |cons q r=>
      dsimp only
      obtain⟨kq,kr⟩:=ZB kl
      have hl0:(0:Int)<((r.length+1+1:Nat):Int):=by omega
      have hl2:¬(((r.length+1+1:Nat):Int)<2):=by omega
      have hl3:(1:Int)<((r.length+1+1:Nat):Int):=by omega
      by_cases k6q:q.t.kind=6
      ·have k6qt:=eq_true k6q
       rw[if_pos k6q]
       have T:=T2 a q r kr 3 q.t.text a.t.text (by simp)
       unfold hpI at T
       simp only[Pa.enc,Itm.enc,Itm.zero]at T
       rw[hQ]
       simp only[c84,C.hd,C.tl,Pa.enc,k3t,k6f,hV,h,h',hw0,ka,zm,yH,Pa.eta',Itm.eta',itR,Itm.enc,Itm.zero,pas,zv,List.map_cons,List.map_nil,c0,d1,hn,h0l,k6qt,hl0,hl2,hl3,zd,zb,za,s1,s2,go_sem,seval,reduceIte,reduceCtorEq]
       exact T _ _ _ _ _ ⟨by simp[zk,zp],by simp[zk,zp],by simp[zk,zp,Pa.enc],by simp[zk,zp],by simp[zk,zp]⟩
      ·have k6qt:=eq_false k6q
       rw[if_neg k6q]
       simp only[c84,C.hd,C.tl,Pa.enc,k3t,k6f,hV,h,h',hw0,ka,zm,yH,Pa.eta',Itm.eta',itR,Itm.enc,Itm.zero,pas,zv,List.map_cons,List.map_nil,c0,d1,hn,h0l,k6qt,hl0,hl2,hl3,zd,zb,za,s1,s2,go_sem,seval,reduceIte,reduceCtorEq]
    by_cases c2:w=⟨#[99,111,117,110,116,101,114]⟩
    ·have d2:=eq_true c2
     rw[if_neg c0,if_neg c1,if_pos c2]
     have T:=T1 a l kl 2 ⟨#[]⟩ a.t.text (by simp)
     unfold hpI at T
     simp only[Pa.enc,Itm.enc,Itm.zero]at T
     rw[hQ]
     simp only[c84,C.hd,C.tl,Pa.enc,k3t,k6f,hV,h,h',hw0,ka,zm,yH,Pa.eta',Itm.eta',itR,Itm.enc,Itm.zero,pas,zv,List.map_cons,List.map_nil,c0,c1,d2,hn,h0l,zd,zb,za,s1,s2,go_sem,seval,reduceIte,reduceCtorEq]
     exact T _ _ _ _ _ ⟨by simp[zk,zp],by simp[zk,zp],by simp[zk,zp,Pa.enc],by simp[zk,zp],by simp[zk,zp]⟩
    by_cases c3:w=⟨#[115,116,114,105,110,103]⟩
    ·have d3:=eq_true c3
     rw[if_neg c0,if_neg c1,if_neg c2,if_pos c3]
     have T:=T3 a l kl 4 ⟨#[]⟩ a.t.text (by simp)
     unfold hpI at T
     simp only[Pa.enc,Itm.enc,Itm.zero]at T
     rw[hQ]
     simp only[c84,C.hd,C.tl,Pa.enc,k3t,k6f,hV,h,h',hw0,ka,zm,yH,Pa.eta',Itm.eta',itR,Itm.enc,Itm.zero,pas,zv,List.map_cons,List.map_nil,c0,c1,c2,d3,hn,h0l,zd,zb,za,s1,s2,go_sem,seval,reduceIte,reduceCtorEq]
     exact T _ _ _ _ _ ⟨by simp[zk,zp],by simp[zk,zp],by simp[zk,zp,Pa.enc],by simp[zk,zp],by simp[zk,zp]⟩
    by_cases c4:w=⟨#[101,108,101,109,101,110,116]⟩
    ·have d4:=eq_true c4
     rw[if_neg c0,if_neg c1,if_neg c2,if_neg c3,if_pos c4]
     have T:=T3 a l kl 5 ⟨#[]⟩ a.t.text (by simp)
     unfold hpI at T
     simp only[Pa.enc,Itm.enc,Itm.zero]at T
     rw[hQ]
     simp only[c84,C.hd,C.tl,Pa.enc,k3t,k6f,hV,h,h',hw0,ka,zm,yH,Pa.eta',Itm.eta',itR,Itm.enc,Itm.zero,pas,zv,List.map_cons,List.map_nil,c0,c1,c2,c3,d4,hn,h0l,zd,zb,za,s1,s2,go_sem,seval,reduceIte,reduceCtorEq]
     exact T _ _ _ _ _ ⟨by simp[zk,zp],by simp[zk,zp],by simp[zk,zp,Pa.enc],by simp[zk,zp],by simp[zk,zp]⟩
    rw[if_neg c0,if_neg c1,if_neg c2,if_neg c3,if_neg c4]
    simp only[c84,C.hd,C.tl,Pa.enc,k3t,k6f,hV,h,h',hw0,ka,zm,yH,Pa.eta',Itm.eta',itR,Itm.enc,Itm.zero,pas,zv,List.map_cons,List.map_nil,c0,c1,c2,c3,c4,hn,h0l,zd,zb,za,s1,s2,go_sem,seval,reduceIte,reduceCtorEq]
  ·rw[if_neg (fun hh=>k3 hh.1)]
   have k3t:=eq_false k3
   simp only[c84,C.hd,C.tl,Pa.enc,k6f,k3t,hV,h,h',zm,Pa.eta',itR,Itm.enc,Itm.zero,zv,zd,zb,za,s1,s2,go_sem,seval,reduceIte,reduceCtorEq]
theorem zDh(s:ByteArray):(0<whN s↔0<whR s)∧(0<whN s→whN s=whR s):=by
 unfold whN whR
 have h5:∀u:ByteArray,(0<ixS (⟨#[]⟩::whs) u↔0<ixS whs u+1)∧(0<ixS (⟨#[]⟩::whs) u→ixS (⟨#[]⟩::whs) u=ixS whs u+1):=fun u=>by
  by_cases c0:u=⟨#[]⟩
  ·subst c0;decide
  by_cases c1:u=⟨#[102,105,114,115,116]⟩
  ·subst c1;decide
  by_cases c2:u=⟨#[115,116,97,114,116]⟩
  ·subst c2;decide
  by_cases c3:u=⟨#[108,97,115,116]⟩
  ·subst c3;decide
  by_cases c4:u=⟨#[102,105,114,115,116,45,101,120,99,101,112,116]⟩
  ·subst c4;decide
  have e1:ixS (⟨#[]⟩::whs) u= -1:=by simp[ixS,fst,whs,c0,c1,c2,c3,c4]
  have e2:ixS whs u= -1:=by simp[ixS,fst,whs,c1,c2,c3,c4]
  rw[e1,e2];omega
 exact h5 _
def Xj(a b:Itm×Bool):Prop:=a.2=b.2∧(a.2=true→a.1=b.1)
theorem kN(a:Itm×Bool):Xj a a:=⟨rfl,fun _=>rfl⟩
theorem Xk{a b:Itm×Bool}(h1:a.2=false)(h2:b.2=false):Xj a b:=⟨by rw[h1,h2],fun h=>by rw[h1]at h;cases h⟩
theorem zlr(x:Itm)(hx:x.style=0):∀l:List Pa,Xj (stV x l) (stW x l)
 | []=>by simp[Xj,stV,stW,hx]
 | [q]=>by
   by_cases h:q.t.kind=2
   ·simp[Xj,stV,stW,h]
   ·exact Xk (by simp[stV,h]) (by simp[stW,h])
 |q::b::r=>Xk (by simp[stV]) rfl
theorem zkM(x:Itm):∀l:List Pa,Xj (chV x l) (chW x l)
 | []=>by simp[Xj,chV,chW]
 | [q]=>by
   by_cases h:q.t.kind=2
   ·obtain⟨h1,h2⟩:=zDh q.t.text
    simp only[Xj,chV,chW,h,if_true,decide_true,Bool.true_and,decide_eq_true_eq,Itm.mk.injEq,true_and]
    exact⟨decide_eq_decide.2 h1,h2⟩
   ·exact Xk (by simp[chV,h]) (by simp[chW,h])
 |q::b::r=>Xk (by simp[chV]) rfl
theorem zmy(p:Pa):Xj (KZ p) (WZ p):=by
 unfold KZ WZ
 by_cases k6:p.t.kind=6
 ·rw[if_pos k6,if_pos k6];exact kN _
 rw[if_neg k6,if_neg k6]
 by_cases k3:p.t.kind=3∧qY p=true
 ·rw[if_pos k3,if_pos k3]
  cases Qv p with
  |nil=>exact kN _
  |cons a l=>
   dsimp only
   by_cases hn:zJ a=true
   ·rw[if_pos hn,if_pos hn]
    by_cases c1:yj p=jK
    ·rw[c1,if_pos rfl,if_neg (by decide),if_neg (by decide),if_pos rfl];exact zlr _ rfl l
    by_cases c2:yj p=jb
    ·rw[c2,if_neg (by decide),if_pos rfl,if_neg (by decide),if_pos rfl]
     cases l with
     |nil=>exact kN _
     |cons q r=>
      dsimp only
      by_cases h6:q.t.kind=6
      ·rw[if_pos h6,if_pos h6];exact zlr _ rfl r
      ·rw[if_neg h6,if_neg h6];exact kN _
    by_cases c3:yj p=ZO
    ·rw[c3,if_neg (by decide),if_neg (by decide),if_pos rfl,if_neg (by decide),if_neg (by decide),if_neg (by decide),if_pos rfl];exact zkM _ l
    by_cases c4:yj p=jL
    ·rw[c4,if_neg (by decide),if_neg (by decide),if_neg (by decide),if_pos rfl,if_neg (by decide),if_neg (by decide),if_neg (by decide),if_neg (by decide),if_pos rfl];exact zkM _ l
    by_cases c5:yj p=Ka
    ·rw[c5,if_neg (by decide),if_neg (by decide),if_neg (by decide),if_neg (by decide),if_pos rfl,if_pos rfl]
     by_cases hl:l= []
     ·rw[if_pos hl,decide_eq_true hl];exact kN _
     ·rw[if_neg hl,decide_eq_false hl];exact Xk rfl rfl
    rw[if_neg c1,if_neg c2,if_neg c3,if_neg c4,if_neg c5,if_neg c5,if_neg c2,if_neg c1,if_neg c3,if_neg c4];exact kN _
   ·rw[if_neg hn,if_neg hn];exact kN _
 ·rw[if_neg k3,if_neg k3];exact kN _
def zam(own:Bool)(p:Pa):Bool:=own&&decide (p.t.kind=3)&&decide (yj p=kh)&&decide ((pl p.al).length=0)
def zqV:Itm:=⟨6,⟨#[]⟩,⟨#[]⟩,0,0⟩
def itX(f:Pa→Itm×Bool)(own:Bool)(p:Pa):Itm×Bool:=if zam own p=true then(zqV,true)else f p
def toO(x:Itm×Bool):Option Itm:=if x.2=true then some x.1 else none
def itO(own:Bool)(p:Pa):Option Itm:=toO (itX KZ own p)
theorem zCL(own:Bool)(p:Pa):itO own p=toO (itX KZ own p):=rfl
theorem zCM(own:Bool)(p:Pa):itO own p=toO (itX WZ own p):=by
 unfold itO itX
 by_cases h:zam own p=true
 ·rw[if_pos h,if_pos h]
 ·rw[if_neg h,if_neg h]
  obtain⟨h1,h2⟩:=zmy p
  unfold toO
  rw[←h1]
  by_cases hb:(KZ p).2=true
  ·rw[if_pos hb,if_pos hb,h2 hb]
  ·rw[if_neg hb,if_neg hb]
def itL(own:Bool):List Pa→Option (List Itm)
 | []=>some []
 |p::l=>match itO own p with|none=>none|some x=>(itL own l).map (x:: ·)
def Wj:Option (List Itm)→V
 |none=>.tup [zA,vb false]
 |some l=>.tup [qT l,vb (decide (0<(l.length:Int)))]
def kX(o:Option (List Itm)):V:=.tup [qT (o.getD []),vb (decide (0<((o.getD []).length:Int)))]
theorem zga(o:Option (List Itm)){f:FuncId}{args:List V}(h:zg Tryz.prog f args (Wj o)):zg Tryz.prog f args (kX o):=by
 cases o with
 |some l=>exact h
 |none=>
  refine zg.rsub h fun F w v hp=> ?_
  cases hp with
  |tup cs _ hl hx=>
   refine .tup cs _ hl fun i hi=> ?_
   have:=hx i hi
   match i,hi with
   |0,_=>exact PRep.nilS 5 this
   |1,_=>exact this
def XJ:Sum Tryz.prog:=⟨105,fun args=>args= [.agg (Pa.enc (dPa (args.getD 0 .any)))]∧yW (dPa (args.getD 0 .any))∧okT ((dPa (args.getD 0 .any))).al,fun args=>itR (KZ (dPa (args.getD 0 .any))),fun args h=>by
 have:=zxw (dPa (args.getD 0 .any)) h.2.1 h.2.2;rwa [←h.1]at this,false⟩
theorem zov:XJ.f=105:=rfl
theorem zou(args:List V):XJ.D args=(args= [.agg (Pa.enc (dPa (args.getD 0 .any)))]∧yW (dPa (args.getD 0 .any))∧okT ((dPa (args.getD 0 .any))).al):=rfl
theorem zeG:XJ.flat=false:=rfl
theorem zow(args:List V):XJ.r args=itR (KZ (dPa (args.getD 0 .any))):=rfl
attribute [go_sem] zov zou zeG zow
def QY:Sum Tryz.prog:=⟨84,fun args=>args= [.agg (Pa.enc (dPa (args.getD 0 .any)))]∧yW (dPa (args.getD 0 .any))∧okT ((dPa (args.getD 0 .any))).al,fun args=>itR (WZ (dPa (args.getD 0 .any))),fun args h=>by
 have:=zrx (dPa (args.getD 0 .any)) h.2.1 h.2.2;rwa [←h.1]at this,false⟩
theorem zjR:QY.f=84:=rfl
theorem zjQ(args:List V):QY.D args=(args= [.agg (Pa.enc (dPa (args.getD 0 .any)))]∧yW (dPa (args.getD 0 .any))∧okT ((dPa (args.getD 0 .any))).al):=rfl
theorem zcI:QY.flat=false:=rfl
theorem zjS(args:List V):QY.r args=itR (WZ (dPa (args.getD 0 .any))):=rfl
attribute [go_sem] zjR zjQ zcI zjS
def Y2(l:List Pa):Prop:=l.length≤1000001∧∀p∈l,yW p∧okT p.al
structure ItS where
 k:Nat
 out:List Itm
 ver:Nat
 clk:Nat
theorem zf9(own:Bool)(L:List Pa)(k:Nat)(h:k<L.length):itL own (L.drop k)=match itO own (L.getD k default)with|none=>none|some x=>(itL own (L.drop (k+1))).map (x:: ·):=by
 rw[qF L k h];rfl
theorem J5(L:List Pa)(own:Bool)(h:Y2 L):zg Tryz.prog 79 [pas L,vb own] (Wj (itL own L)):=by
 refine zg.of (Orc.cons XJ (Orc.cons kg (Orc.cons Yk (Orc.nil _)))) zAP (by simp[c79]) fun w0 o0=> ?_
 obtain⟨hl,hm⟩:=h
 generalize hR:itL own L=R
 simp only[c79,pas,go_sem,zc,seval,reduceIte,reduceCtorEq]
 refine zD.lp (α:=ItS) (fun a=>[(1,vb own),(6,.ref 0 a.ver 0 a.out.length),(13,.slc 4 (L.map Pa.enc)),(14,vi L.length),(15,vi a.k)])
  (fun a=>⟨[⟨a.ver,5,a.out.map Itm.enc,false,[vi 0,vs ⟨#[]⟩,vs ⟨#[]⟩,vi 0,vi 0]⟩],a.clk⟩) (fun a=>a.k≤L.length∧a.out.length=a.k∧(itL own (L.drop a.k)).map (a.out++ ·)=R) (fun a=>L.length - a.k) ⟨0,[],0,1⟩
  ⟨Nat.zero_le _,rfl,by rw[←hR];simp only[List.drop_zero,List.nil_append];cases itL own L<;>rfl⟩ (St.nil 6 5 [vi 0,vs ⟨#[]⟩,vs ⟨#[]⟩,vi 0,vi 0] (by simp[zk]) (St.cut ?_ ?_ ?_)) fun a ha=> ?_
 ·simp[zu,zk,zt]
 ·simp[Heap.alloc]
 ·rfl
 obtain⟨k,out,ver,clk⟩:=a
 obtain⟨h2,h3,h4⟩:=ha
 simp only at h2 h3 h4
 by_cases hk:k=L.length
 ·subst hk
  rw[List.drop_length]at h4
  simp only[itL,Option.map_some,List.append_nil]at h4
  subst h4
  simp only[Int.lt_irrefl,Wj,qT,List.take_length,yZ,W4,W2,Nat.le_refl,go_sem,zc,seval,reduceIte,reduceCtorEq]
 ·have e1:(k:Int)<(L.length:Int):=by omega
  have e0:(0:Int)≤(k:Int):=by omega
  have hlt:k<L.length:=by omega
  rw[zf9 own L k hlt,zCL]at h4
  have hg:=z2 L k [vi 0,vs ⟨#[]⟩,vi 0,zA] hlt
  obtain⟨hx,hxa⟩:=hm (L.getD k default) (by rw[List.getD_eq_getElem?_getD,List.getElem?_eq_getElem hlt];exact List.getElem_mem _)
  generalize L.getD k default=x at*
  have hxl:=hxa.1
  have hot:out.take out.length=out:=List.take_length
  unfold itX at h4
  generalize hy:KZ x=y at h4
  obtain⟨⟨yk,yt,yn,ys,yw⟩,yb⟩:=y
  have fin:∀z:Itm,toO (z,true)=some z:=fun z=>rfl
  have finN:∀z:Itm,toO (z,false)=none:=fun z=>rfl
  cases own with
  |false=>
   rw[if_neg (by simp[zam])]at h4
   cases yb with
   |false=>
    simp only[finN]at h4
    subst h4
    simp only[Wj,e0,e1,hg,Pa.enc,Itm.enc,zm,Pa.eta',hx,hxa,hxl,hy,hot,plV,zj,zf,itR,zv,zd,zb,za,go_sem,seval,reduceIte,reduceCtorEq]
   |true=>
    simp only[fin]at h4
    simp only[e0,e1,hg,Pa.enc,Itm.enc,zm,Pa.eta',hx,hxa,hxl,hy,hot,plV,zj,zf,itR,zv,zd,zb,za,go_sem,seval,reduceIte,reduceCtorEq]
    refine⟨⟨by omega,by omega,by omega⟩,by omega,⟨k+1,out++ [⟨yk,yt,yn,ys,yw⟩],_,_⟩,⟨by dsimp only;omega,by simp;omega,?_⟩,by dsimp only;omega,⟨⟨rfl,by simp⟩,by dsimp only;omega⟩,⟨rfl,by simp[Itm.enc]⟩,rfl⟩
    rw[←h4];cases itL false (L.drop (k+1))<;>simp
  |true=>
   by_cases k3:x.t.kind=3
   ·have k3t:=eq_true k3
    by_cases kc:yj x=kh
    ·have kct:=eq_true kc
     unfold kh at kct
     by_cases kl:(pl x.al).length=0
     ·rw[if_pos (by simp[zam,k3,kc,kl])]at h4
      have klt:(((pl x.al).length:Int)=0)=True:=eq_true (by omega)
      simp only[fin]at h4
      simp only[k3t,kct,klt,e0,e1,hg,Pa.enc,Itm.enc,zm,Pa.eta',hx,hxa,hxl,hy,hot,plV,zj,zf,itR,zv,zd,zb,za,go_sem,seval,reduceIte,reduceCtorEq]
      refine⟨⟨by omega,by omega,by omega⟩,by omega,⟨k+1,out++ [zqV],_,_⟩,⟨by dsimp only;omega,by simp;omega,?_⟩,by dsimp only;omega,⟨⟨rfl,by simp⟩,by dsimp only;omega⟩,⟨rfl,by simp[zqV,Itm.enc]⟩,rfl⟩
      rw[←h4];cases itL true (L.drop (k+1))<;>simp
     ·rw[if_neg (by simp[zam,kl])]at h4
      have klt:(((pl x.al).length:Int)=0)=False:=eq_false (by omega)
      cases yb with
      |false=>
       simp only[finN]at h4
       subst h4
       simp only[Wj,k3t,kct,klt,e0,e1,hg,Pa.enc,Itm.enc,zm,Pa.eta',hx,hxa,hxl,hy,hot,plV,zj,zf,itR,zv,zd,zb,za,go_sem,seval,reduceIte,reduceCtorEq]
      |true=>
       simp only[fin]at h4
       simp only[k3t,kct,klt,e0,e1,hg,Pa.enc,Itm.enc,zm,Pa.eta',hx,hxa,hxl,hy,hot,plV,zj,zf,itR,zv,zd,zb,za,go_sem,seval,reduceIte,reduceCtorEq]
       refine⟨⟨by omega,by omega,by omega⟩,by omega,⟨k+1,out++ [⟨yk,yt,yn,ys,yw⟩],_,_⟩,⟨by dsimp only;omega,by simp;omega,?_⟩,by dsimp only;omega,⟨⟨rfl,by simp⟩,by dsimp only;omega⟩,⟨rfl,by simp[Itm.enc]⟩,rfl⟩
       rw[←h4];cases itL true (L.drop (k+1))<;>simp
    ·rw[if_neg (by simp[zam,kc])]at h4
     have kct:=eq_false kc
     unfold kh at kct
     cases yb with
     |false=>
      simp only[finN]at h4
      subst h4
      simp only[Wj,k3t,kct,e0,e1,hg,Pa.enc,Itm.enc,zm,Pa.eta',hx,hxa,hxl,hy,hot,plV,zj,zf,itR,zv,zd,zb,za,go_sem,seval,reduceIte,reduceCtorEq]
     |true=>
      simp only[fin]at h4
      simp only[k3t,kct,e0,e1,hg,Pa.enc,Itm.enc,zm,Pa.eta',hx,hxa,hxl,hy,hot,plV,zj,zf,itR,zv,zd,zb,za,go_sem,seval,reduceIte,reduceCtorEq]
      refine⟨⟨by omega,by omega,by omega⟩,by omega,⟨k+1,out++ [⟨yk,yt,yn,ys,yw⟩],_,_⟩,⟨by dsimp only;omega,by simp;omega,?_⟩,by dsimp only;omega,⟨⟨rfl,by simp⟩,by dsimp only;omega⟩,⟨rfl,by simp[Itm.enc]⟩,rfl⟩
      rw[←h4];cases itL true (L.drop (k+1))<;>simp
   ·rw[if_neg (by simp[zam,k3])]at h4
    have k3t:=eq_false k3
    cases yb with
    |false=>
     simp only[finN]at h4
     subst h4
     simp only[Wj,k3t,e0,e1,hg,Pa.enc,Itm.enc,zm,Pa.eta',hx,hxa,hxl,hy,hot,plV,zj,zf,itR,zv,zd,zb,za,go_sem,seval,reduceIte,reduceCtorEq]
    |true=>
     simp only[fin]at h4
     simp only[k3t,e0,e1,hg,Pa.enc,Itm.enc,zm,Pa.eta',hx,hxa,hxl,hy,hot,plV,zj,zf,itR,zv,zd,zb,za,go_sem,seval,reduceIte,reduceCtorEq]
     refine⟨⟨by omega,by omega,by omega⟩,by omega,⟨k+1,out++ [⟨yk,yt,yn,ys,yw⟩],_,_⟩,⟨by dsimp only;omega,by simp;omega,?_⟩,by dsimp only;omega,⟨⟨rfl,by simp⟩,by dsimp only;omega⟩,⟨rfl,by simp[Itm.enc]⟩,rfl⟩
     rw[←h4];cases itL true (L.drop (k+1))<;>simp
def Jx:Sum Tryz.prog:=⟨79,fun args=>args= [pas (yX (args.getD 0 .any)),vb (V.boo (args.getD 1 .any))]∧Y2 (yX (args.getD 0 .any)),fun args=>kX (itL (V.boo (args.getD 1 .any)) (yX (args.getD 0 .any))),fun args h=>by
 have:=zga _ (J5 (yX (args.getD 0 .any)) (V.boo (args.getD 1 .any)) h.2);rwa [←h.1]at this,false⟩
theorem ztn:Jx.f=79:=rfl
theorem ztm(args:List V):Jx.D args=(args= [pas (yX (args.getD 0 .any)),vb (V.boo (args.getD 1 .any))]∧Y2 (yX (args.getD 0 .any))):=rfl
theorem zhj:Jx.flat=false:=rfl
theorem zto(args:List V):Jx.r args=kX (itL (V.boo (args.getD 1 .any)) (yX (args.getD 0 .any))):=rfl
attribute [go_sem] ztn ztm zhj zto
theorem zmA(L:List Pa)(own:Bool)(h:Y2 L):zg Tryz.prog 50 [pas L,vb own] (Wj (itL own L)):=by
 refine zg.of (Orc.cons QY (Orc.cons yT (Orc.cons ja (Orc.nil _)))) zAq (by simp[c50]) fun w0 o0=> ?_
 obtain⟨hl,hm⟩:=h
 generalize hR:itL own L=R
 simp only[c50,pas,go_sem,zc,seval,reduceIte,reduceCtorEq]
 refine zD.lp (α:=ItS) (fun a=>[(0,.slc 4 (L.map Pa.enc)),(1,vb own),(6,.ref 0 a.ver 0 a.out.length),(7,vi a.k)])
  (fun a=>⟨[⟨a.ver,5,a.out.map Itm.enc,false,[vi 0,vs ⟨#[]⟩,vs ⟨#[]⟩,vi 0,vi 0]⟩],a.clk⟩) (fun a=>a.k≤L.length∧a.out.length=a.k∧(itL own (L.drop a.k)).map (a.out++ ·)=R) (fun a=>L.length - a.k) ⟨0,[],0,1⟩
  ⟨Nat.zero_le _,rfl,by rw[←hR];simp only[List.drop_zero,List.nil_append];cases itL own L<;>rfl⟩ (St.nil 6 5 [vi 0,vs ⟨#[]⟩,vs ⟨#[]⟩,vi 0,vi 0] (by simp[zk]) (St.cut ?_ ?_ ?_)) fun a ha=> ?_
 ·simp[zu,zk,zt]
 ·simp[Heap.alloc]
 ·rfl
 obtain⟨k,out,ver,clk⟩:=a
 obtain⟨h2,h3,h4⟩:=ha
 simp only at h2 h3 h4
 by_cases hk:k=L.length
 ·subst hk
  rw[List.drop_length]at h4
  simp only[itL,Option.map_some,List.append_nil]at h4
  subst h4
  simp only[Int.lt_irrefl,Wj,qT,List.take_length,yZ,W4,W2,Nat.le_refl,go_sem,zc,seval,reduceIte,reduceCtorEq]
 ·have e1:(k:Int)<(L.length:Int):=by omega
  have e0:(0:Int)≤(k:Int):=by omega
  have hlt:k<L.length:=by omega
  rw[zf9 own L k hlt,zCM]at h4
  have hg:=z2 L k [vi 0,vs ⟨#[]⟩,vi 0,zA] hlt
  obtain⟨hx,hxa⟩:=hm (L.getD k default) (by rw[List.getD_eq_getElem?_getD,List.getElem?_eq_getElem hlt];exact List.getElem_mem _)
  generalize L.getD k default=x at*
  have hxl:=hxa.1
  have hot:out.take out.length=out:=List.take_length
  unfold itX at h4
  generalize hy:WZ x=y at h4
  obtain⟨⟨yk,yt,yn,ys,yw⟩,yb⟩:=y
  have fin:∀z:Itm,toO (z,true)=some z:=fun z=>rfl
  have finN:∀z:Itm,toO (z,false)=none:=fun z=>rfl
  cases own with
  |false=>
   rw[if_neg (by simp[zam])]at h4
   cases yb with
   |false=>
    simp only[finN]at h4
    subst h4
    simp only[Wj,e0,e1,hg,Pa.enc,Itm.enc,zm,Pa.eta',hx,hxa,hxl,hy,hot,plV,zj,zf,itR,zv,zd,zb,za,go_sem,seval,reduceIte,reduceCtorEq]
   |true=>
    simp only[fin]at h4
    simp only[e0,e1,hg,Pa.enc,Itm.enc,zm,Pa.eta',hx,hxa,hxl,hy,hot,plV,zj,zf,itR,zv,zd,zb,za,go_sem,seval,reduceIte,reduceCtorEq]
    refine⟨⟨by omega,by omega,by omega⟩,by omega,⟨k+1,out++ [⟨yk,yt,yn,ys,yw⟩],_,_⟩,⟨by dsimp only;omega,by simp;omega,?_⟩,by dsimp only;omega,⟨⟨rfl,by simp⟩,by dsimp only;omega⟩,⟨rfl,by simp[Itm.enc]⟩,rfl⟩
    rw[←h4];cases itL false (L.drop (k+1))<;>simp
  |true=>
   by_cases k3:x.t.kind=3
   ·have k3t:=eq_true k3
    by_cases kc:yj x=kh
    ·have kct:=eq_true kc
     unfold kh at kct
     by_cases kl:(pl x.al).length=0
     ·rw[if_pos (by simp[zam,k3,kc,kl])]at h4
      have klt:(((pl x.al).length:Int)=0)=True:=eq_true (by omega)
      simp only[fin]at h4
      simp only[k3t,kct,klt,e0,e1,hg,Pa.enc,Itm.enc,zm,Pa.eta',hx,hxa,hxl,hy,hot,plV,zj,zf,itR,zv,zd,zb,za,go_sem,seval,reduceIte,reduceCtorEq]
      refine⟨⟨by omega,by omega,by omega⟩,by omega,⟨k+1,out++ [zqV],_,_⟩,⟨by dsimp only;omega,by simp;omega,?_⟩,by dsimp only;omega,⟨⟨rfl,by simp⟩,by dsimp only;omega⟩,⟨rfl,by simp[zqV,Itm.enc]⟩,rfl⟩
      rw[←h4];cases itL true (L.drop (k+1))<;>simp
     ·rw[if_neg (by simp[zam,kl])]at h4
      have klt:(((pl x.al).length:Int)=0)=False:=eq_false (by omega)
      cases yb with
      |false=>
       simp only[finN]at h4
       subst h4
       simp only[Wj,k3t,kct,klt,e0,e1,hg,Pa.enc,Itm.enc,zm,Pa.eta',hx,hxa,hxl,hy,hot,plV,zj,zf,itR,zv,zd,zb,za,go_sem,seval,reduceIte,reduceCtorEq]
      |true=>
       simp only[fin]at h4
       simp only[k3t,kct,klt,e0,e1,hg,Pa.enc,Itm.enc,zm,Pa.eta',hx,hxa,hxl,hy,hot,plV,zj,zf,itR,zv,zd,zb,za,go_sem,seval,reduceIte,reduceCtorEq]
       refine⟨⟨by omega,by omega,by omega⟩,by omega,⟨k+1,out++ [⟨yk,yt,yn,ys,yw⟩],_,_⟩,⟨by dsimp only;omega,by simp;omega,?_⟩,by dsimp only;omega,⟨⟨rfl,by simp⟩,by dsimp only;omega⟩,⟨rfl,by simp[Itm.enc]⟩,rfl⟩
       rw[←h4];cases itL true (L.drop (k+1))<;>simp
    ·rw[if_neg (by simp[zam,kc])]at h4
     have kct:=eq_false kc
     unfold kh at kct
     cases yb with
     |false=>
      simp only[finN]at h4
      subst h4
      simp only[Wj,k3t,kct,e0,e1,hg,Pa.enc,Itm.enc,zm,Pa.eta',hx,hxa,hxl,hy,hot,plV,zj,zf,itR,zv,zd,zb,za,go_sem,seval,reduceIte,reduceCtorEq]
     |true=>
      simp only[fin]at h4
      simp only[k3t,kct,e0,e1,hg,Pa.enc,Itm.enc,zm,Pa.eta',hx,hxa,hxl,hy,hot,plV,zj,zf,itR,zv,zd,zb,za,go_sem,seval,reduceIte,reduceCtorEq]
      refine⟨⟨by omega,by omega,by omega⟩,by omega,⟨k+1,out++ [⟨yk,yt,yn,ys,yw⟩],_,_⟩,⟨by dsimp only;omega,by simp;omega,?_⟩,by dsimp only;omega,⟨⟨rfl,by simp⟩,by dsimp only;omega⟩,⟨rfl,by simp[Itm.enc]⟩,rfl⟩
      rw[←h4];cases itL true (L.drop (k+1))<;>simp
   ·rw[if_neg (by simp[zam,k3])]at h4
    have k3t:=eq_false k3
    cases yb with
    |false=>
     simp only[finN]at h4
     subst h4
     simp only[Wj,k3t,e0,e1,hg,Pa.enc,Itm.enc,zm,Pa.eta',hx,hxa,hxl,hy,hot,plV,zj,zf,itR,zv,zd,zb,za,go_sem,seval,reduceIte,reduceCtorEq]
    |true=>
     simp only[fin]at h4
     simp only[k3t,e0,e1,hg,Pa.enc,Itm.enc,zm,Pa.eta',hx,hxa,hxl,hy,hot,plV,zj,zf,itR,zv,zd,zb,za,go_sem,seval,reduceIte,reduceCtorEq]
     refine⟨⟨by omega,by omega,by omega⟩,by omega,⟨k+1,out++ [⟨yk,yt,yn,ys,yw⟩],_,_⟩,⟨by dsimp only;omega,by simp;omega,?_⟩,by dsimp only;omega,⟨⟨rfl,by simp⟩,by dsimp only;omega⟩,⟨rfl,by simp[Itm.enc]⟩,rfl⟩
     rw[←h4];cases itL true (L.drop (k+1))<;>simp
def Y9:Sum Tryz.prog:=⟨50,fun args=>args= [pas (yX (args.getD 0 .any)),vb (V.boo (args.getD 1 .any))]∧Y2 (yX (args.getD 0 .any)),fun args=>kX (itL (V.boo (args.getD 1 .any)) (yX (args.getD 0 .any))),fun args h=>by
 have:=zga _ (zmA (yX (args.getD 0 .any)) (V.boo (args.getD 1 .any)) h.2);rwa [←h.1]at this,false⟩
theorem zoy:Y9.f=50:=rfl
theorem zox(args:List V):Y9.D args=(args= [pas (yX (args.getD 0 .any)),vb (V.boo (args.getD 1 .any))]∧Y2 (yX (args.getD 0 .any))):=rfl
theorem zeH:Y9.flat=false:=rfl
theorem zoz(args:List V):Y9.r args=kX (itL (V.boo (args.getD 1 .any)) (yX (args.getD 0 .any))):=rfl
attribute [go_sem] zoy zox zeH zoz
structure Ct where
 l:List Itm
 none:Bool
 is:Bool
theorem zlc{l:List Tok}(h:okT l):Y2 (pl l):=⟨by have:=QP l;have:=h.1;omega,Yc h⟩
theorem zmz(a:List Itm)(h:a.length≤2000000):zg Tryz.prog 51 [qT a,qT a] (vb true):=by
 refine zg.of (Orc.nil _) zAr (by simp[c51]) fun w0 o0=> ?_
 simp only[c51,qT,go_sem,zc,seval,reduceIte,reduceCtorEq]
 refine zD.lp (α:=Nat) (fun k=>[(0,.slc 5 (a.map Itm.enc)),(1,.slc 5 (a.map Itm.enc)),(12,vi a.length),(13,vi k)]) (fun _=>⟨[],0⟩) (fun k=>k≤a.length) (fun k=>a.length - k) 0 (Nat.zero_le _) (St.mk (by simp[zu,zk,zt])) fun k hk=> ?_
 by_cases hkl:k=a.length
 ·subst hkl
  simp only[Int.lt_irrefl,go_sem,zc,seval,reduceIte,reduceCtorEq]
 ·have e1:(k:Int)<(a.length:Int):=by omega
  have e0:(0:Int)≤(k:Int):=by omega
  have hg:=zmp a k
  generalize a.getD k default=x at*
  simp only[e0,e1,hg,Itm.enc,go_sem,zc,seval,reduceIte,reduceCtorEq]
  exact⟨rfl,by omega,k+1,by omega,by omega,by omega⟩
def zb1:Sum Tryz.prog:=⟨51,fun args=>args= [qT (KV (args.getD 0 .any)),qT (KV (args.getD 0 .any))]∧((KV (args.getD 0 .any))).length≤2000000,fun args=>vb true,fun args h=>by
 have:=zmz (KV (args.getD 0 .any)) h.2;rwa [←h.1]at this,true⟩
theorem ztb:zb1.f=51:=rfl
theorem zta(args:List V):zb1.D args=(args= [qT (KV (args.getD 0 .any)),qT (KV (args.getD 0 .any))]∧((KV (args.getD 0 .any))).length≤2000000):=rfl
theorem zhb:zb1.flat=true:=rfl
theorem ztc(args:List V):zb1.r args=vb true:=rfl
attribute [go_sem] ztb zta zhb ztc
end Go.Proofs.YtjcmoedalneldaaGreat
