/- Part of the proof of CascadeTwice. No condition. -/
import Derived.Test.YtjcmoedalneldaaGreatE4
import Derived.Test.YtjcmoedalneldaaGreatJ10
import Derived.Test.YtjcmoedalneldaaGreatJ9
import Derived.Test.YtjcmoedalneldaaGreatJ11
namespace Go.Proofs.YtjcmoedalneldaaGreat
open Go.Sx
set_option linter.unusedSimpArgs false
set_option linter.unusedVariables false
set_option maxHeartbeats 8000000
set_option maxRecDepth 100000
attribute [go_sem] zcn zpC zqp zqq zqo zll xe qL Yp Orc.ppre_cons Orc.pr_cons Orc.ppre_econs Orc.pr_econs Orc.ppre_fcons Orc.pr_fcons Orc.ppre_gcons Orc.pr_gcons List.head?_cons List.headD_cons XE.val XE.heap efO yD yr je V.tops V.top1 kQ Kf Orc.flat_fcons Orc.pre_fcons Orc.v_fcons Orc.hp_fcons Orc.qpre_fcons Orc.qv_fcons Orc.fpre_fcons Orc.fes_fcons Orc.flat_gcons Orc.pre_gcons Orc.v_gcons Orc.hp_gcons Orc.qpre_gcons Orc.qv_gcons Orc.fpre_gcons Orc.fes_gcons GSum.pre GSum.v GSum.hp Orc.fpre_cons Orc.fes_cons Orc.fpre_econs Orc.fes_econs FSum.pre FSum.v FSum.hp zmg O.calls List.flatMap_cons List.flatMap_nil List.contains_cons List.contains_nil Bool.not_true Bool.not_false Heap.freeze List.mapIdx_cons List.mapIdx_nil List.elem_cons List.elem_nil yL zU evF bne_iff_ne ne_eq Option.some.injEq Orc.flat_econs Orc.pre_econs Orc.v_econs Orc.hp_econs Orc.qpre_econs Orc.qv_econs
def Xm(v:List Tok):Prop:=v.length≤1000000∧∀k,k≤v.length→zf Tryz.prog 154 [zi v,zO (zy v),vi k] (srV (yU v k))∧((yU v k).ok=true→k<(yU v k).to∧(yU v k).to≤v.length)
theorem zsB{v:List Tok}{k:Int}(h0:0≤k)(h1:k≤v.length)(h:Xm v):zf Tryz.prog 154 [zi v,zO (zy v),vi k] (srV (yU v k.toNat)):=by
 have:=(h.2 k.toNat (by omega)).1;rwa [Int.toNat_of_nonneg h0]at this
def WD:Sum Tryz.prog:=⟨154,fun args=>args= [zi (zh (args.getD 0 .any)),zO (zy (zh (args.getD 0 .any))),vi ((args.getD 2 .any).int)]∧0≤((args.getD 2 .any).int)∧((args.getD 2 .any).int)≤((zh (args.getD 0 .any))).length∧Xm (zh (args.getD 0 .any)),fun args=>srV (yU (zh (args.getD 0 .any)) (((args.getD 2 .any).int)).toNat),fun args h=>by
 have:=zsB h.2.1 h.2.2.1 h.2.2.2;rwa [←h.1]at this,false⟩
theorem zoQ:WD.f=154:=rfl
theorem zoP(args:List V):WD.D args=(args= [zi (zh (args.getD 0 .any)),zO (zy (zh (args.getD 0 .any))),vi ((args.getD 2 .any).int)]∧0≤((args.getD 2 .any).int)∧((args.getD 2 .any).int)≤((zh (args.getD 0 .any))).length∧Xm (zh (args.getD 0 .any))):=rfl
theorem zev:WD.flat=false:=rfl
theorem zoR(args:List V):WD.r args=srV (yU (zh (args.getD 0 .any)) (((args.getD 2 .any).int)).toNat):=rfl
attribute [go_sem] zoQ zoP zev zoR
theorem y0(S:Nat→Bool)(h:Heap)(j ver off len:Nat):res S h 10 (.ref j ver off len)=
 if S j&&h.cur j ver&&decide (off+len≤(h.blk j).es.length)then(zx (zx (res S h 9)) (((h.blk j).es.drop off).take len)).map (.slc (h.blk j).sz)else none:=rfl
theorem YR(S:Nat→Bool)(h:Heap)(l:List Smp):zx (zx (res S h 9)) (l.map Smp.enc)=some (l.map Smp.enc):=qb S h 8 _ (fun _=>rfl) l
def JN(v:List Tok):Nat→Nat→List Smp→List Smp×Nat
 |0,k,L=>(L,k)
 |f+1,k,L=>if(yU v k).ok=false∨(0<L.length∧(yU v k).s.kind≤2)then(L,k)else JN v f (yU v k).to (L++ [(yU v k).s])
def Zd(v:List Tok)(k:Nat):List Smp×Nat:=JN v (v.length+1) k []
def crV(r:List Smp×Nat):V:=.tup [.agg [vi 0,.slc 3 (r.1.map Smp.enc)],vi r.2,vb (decide ((0:Int)<(r.1.length:Int)))]
structure CdS8 where
 k:Nat
 L:List Smp
 f:Nat
 ver:Nat
 clk:Nat
theorem zcP(v:List Tok)(hS:Xm v)(k:Nat)(hk:k≤v.length):zf Tryz.prog 128 [zi v,zO (zy v),vi k] (crV (Zd v k)):=by
 refine zf.of (Orc.cons WD (Orc.nil _)) zqW (by simp[zua]) fun w0 own0=> ?_
 have hl:=hS.1
 unfold Zd
 generalize hR:JN v (v.length+1) k []=R
 simp only[zua,zi,zO,go_sem,zb,seval,reduceIte,reduceCtorEq]
 refine zQ.lp (α:=CdS8) (fun x=>[(0,.slc 3 (v.map Tok.enc)),(1,.slc 1 ((zy v).map fun n=>[vi n])),(2,vi x.k),(6,.ptr 0 0 0 0),(9,.ptr 1 1 0 0)])
  (fun x=>⟨[⟨0,2,[[vi 0,zD]],false,[]⟩,⟨1,2,[[vi 0,.ref 2 x.ver 0 x.L.length]],false,[]⟩,⟨x.ver,3,x.L.map Smp.enc,false,[vi 0,vs ⟨#[]⟩,vs ⟨#[]⟩]⟩],x.clk⟩)
  (fun x=>x.k≤v.length∧x.L.length≤x.k∧v.length+1≤x.f+x.k∧JN v x.f x.k x.L=R) (fun x=>v.length - x.k) ⟨k,[],v.length+1,2,3⟩
  ⟨hk,by simp,by dsimp only;omega,hR⟩ (St.cell 1 0 1 3 [vi 0,vs ⟨#[]⟩,vs ⟨#[]⟩] rfl rfl (St.cut ?_ ?_ ?_)) fun x hx=> ?_
 ·simp[zu,zr,zv]
 ·simp[Heap.alloc]
 ·rfl
 obtain⟨k,L,f,ver,clk⟩:=x
 obtain⟨h1,h2,h3,h4⟩:=hx
 simp only at h1 h2 h3 h4
 obtain⟨f,rfl⟩:∃g,f=g+1:=⟨f - 1,by omega⟩
 have e0:(0:Int)≤(k:Int):=by omega
 have e1:(k:Int)≤(v.length:Int):=by omega
 have hr:=(hS.2 k h1).2
 have htl:L.take L.length=L:=List.take_length
 simp only[JN]at h4
 generalize hrr:yU v k=r at*
 obtain⟨⟨kd,tx,vl⟩,to,ok⟩:=r
 simp only at hr h4
 cases ok with
 |false=>
  rw[if_pos (.inl rfl)]at h4
  subst h4
  simp only[e0,e1,hrr,hS,hl,htl,YR,y0,Nat.le_refl,←List.map_take,srV,crV,Smp.enc,zg,zi,zO,Int.toNat_natCast,zz,ze,zc,za,go_sem,seval,reduceIte,reduceCtorEq]
 |true=>
  by_cases hL:0<L.length∧kd≤2
  ·rw[if_pos (.inr hL)]at h4
   subst h4
   have q1:(0:Int)<(L.length:Int):=by omega
   have q2:=eq_true hL.2
   simp only[e0,e1,q1,q2,hrr,hS,hl,htl,YR,y0,Nat.le_refl,←List.map_take,srV,crV,Smp.enc,zg,zi,zO,Int.toNat_natCast,zz,ze,zc,za,go_sem,seval,reduceIte,reduceCtorEq]
  ·rw[if_neg (fun hh=>by rcases hh with h|h; ·cases h
                         ·exact hL h)]at h4
   obtain⟨g1,g2⟩:=hr rfl
   by_cases q1:0<L.length
   ·have q2:=eq_false (fun h=>hL ⟨q1,h⟩)
    have q1:(0:Int)<(L.length:Int):=by omega
    simp only[e0,e1,q1,q2,hrr,hS,hl,htl,YR,y0,Nat.le_refl,←List.map_take,srV,crV,Smp.enc,zg,zi,zO,Int.toNat_natCast,zz,ze,zc,za,go_sem,seval,reduceIte,reduceCtorEq]
    exact⟨⟨by omega,by omega⟩,⟨to,L++ [⟨kd,tx,vl⟩],f,clk+1+1,clk+1+1+1⟩,⟨g2,by simp;omega,by dsimp only;omega,h4⟩,by dsimp only;omega,by simp[Smp.enc]⟩
   ·have q1:=eq_false (show ¬(0:Int)<(L.length:Int)by omega)
    simp only[e0,e1,q1,hrr,hS,hl,htl,YR,y0,Nat.le_refl,←List.map_take,srV,crV,Smp.enc,zg,zi,zO,Int.toNat_natCast,zz,ze,zc,za,go_sem,seval,reduceIte,reduceCtorEq]
    exact⟨⟨by omega,by omega⟩,⟨to,L++ [⟨kd,tx,vl⟩],f,clk+1+1,clk+1+1+1⟩,⟨g2,by simp;omega,by dsimp only;omega,h4⟩,by dsimp only;omega,by simp[Smp.enc]⟩
def JS(v:List Tok):Nat→Nat→Int→Int×Nat
 |0,k,n=>(n,k)
 |f+1,k,n=>if knd v k=1∨(n≠2∧dlm v k ⟨#[62]⟩=true)then JS v f (k+1) (if knd v k=11 then 2 else if n<1 then 1 else n)else(n,k)
def Yn(v:List Tok)(k:Nat):Int×Nat:=JS v (v.length+1) k 0
structure LkS8 where
 k:Nat
 n:Int
 f:Nat
theorem zr6(v:List Tok)(hl:v.length≤1000000)(k:Nat)(hk:k≤v.length):zf Tryz.prog 129 [zi v,vi k] (.tup [vi (Yn v k).1,vi (Yn v k).2]):=by
 refine zf.of (Orc.cons ZZ (Orc.cons Za (Orc.nil _))) zqX (by simp[zub]) fun w0 own0=> ?_
 unfold Yn
 generalize hR:JS v (v.length+1) k 0=R
 simp only[zub,zi,ze,zc,za,go_sem,seval,reduceIte,reduceCtorEq]
 refine zQ.lp (α:=LkS8) (fun x=>[(0,.slc 3 (v.map Tok.enc)),(1,vi x.k),(6,vi x.n)]) (fun _=>⟨[],0⟩)
  (fun x=>x.k≤v.length∧(x.n=0∨x.n=1∨x.n=2)∧v.length+1≤x.f+x.k∧JS v x.f x.k x.n=R) (fun x=>v.length - x.k) ⟨k,0,v.length+1⟩
  ⟨hk,.inl rfl,by dsimp only;omega,hR⟩ (St.cut ?_ ?_ ?_) fun x hx=> ?_
 ·simp[zu,zr,zv]
 ·simp[Heap.alloc]
 ·rfl
 obtain⟨k,n,f⟩:=x
 obtain⟨h1,h2,h3,h4⟩:=hx
 simp only at h1 h2 h3 h4
 obtain⟨f,rfl⟩:∃g,f=g+1:=⟨f - 1,by omega⟩
 have e0:(0:Int)≤(k:Int):=by omega
 have hg:=qz v k
 simp only[JS]at h4
 have key:∀m:Int,(m=0∨m=1∨m=2)→k<v.length→JS v f (k+1) m=R→∃x:LkS8,(x.k≤v.length∧(x.n=0∨x.n=1∨x.n=2)∧v.length+1≤x.f+x.k∧JS v x.f x.k x.n=R)∧v.length - x.k<v.length - k∧(k:Int)+1=x.k∧m=x.n:=
  fun m hm hkl hR=>⟨⟨k+1,m,f⟩,⟨by dsimp only;omega,hm,by dsimp only;omega,hR⟩,by dsimp only;omega,by dsimp only;omega,rfl⟩
 by_cases c1:knd v k=1
 ·obtain⟨hkl,hk1⟩:=jE c1 (by decide)
  have e2:(k:Int)<(v.length:Int):=by omega
  rw[if_pos (.inl c1),if_neg (by omega)]at h4
  have c1:=eq_true c1;have hk11:=eq_true hk1
  rcases h2 with rfl|rfl|rfl
  ·simp only[e0,e2,c1,hk1,hg,zi,zg,Int.toNat_natCast,Tok.enc,ze,zc,za,go_sem,seval,reduceIte,reduceCtorEq]
   exact⟨by omega,key 1 (by omega) hkl h4⟩
  ·simp only[e0,e2,c1,hk1,hg,zi,zg,Int.toNat_natCast,Tok.enc,ze,zc,za,go_sem,seval,reduceIte,reduceCtorEq]
   exact⟨by omega,key 1 (by omega) hkl h4⟩
  ·simp only[e0,e2,c1,hk1,hg,zi,zg,Int.toNat_natCast,Tok.enc,ze,zc,za,go_sem,seval,reduceIte,reduceCtorEq]
   exact⟨by omega,key 2 (by omega) hkl h4⟩
 ·by_cases c2:n≠2∧dlm v k ⟨#[62]⟩=true
  ·obtain⟨c2,c3⟩:=c2
   have hd:=of_decide_eq_true c3
   have e2:(k:Int)<(v.length:Int):=by omega
   have hk11:knd v k=11:=by unfold knd;rw[if_pos hd.1];exact hd.2.1
   have hk1:=hd.2.1
   rw[if_pos (.inr ⟨c2,c3⟩),if_pos hk11]at h4
   have c1:=eq_false c1
   rcases h2 with rfl|rfl|rfl
   ·simp only[e0,e2,c1,c3,hk1,hg,zi,zg,Int.toNat_natCast,Tok.enc,ze,zc,za,go_sem,seval,reduceIte,reduceCtorEq]
    exact⟨by omega,key 2 (by omega) hd.1 h4⟩
   ·simp only[e0,e2,c1,c3,hk1,hg,zi,zg,Int.toNat_natCast,Tok.enc,ze,zc,za,go_sem,seval,reduceIte,reduceCtorEq]
    exact⟨by omega,key 2 (by omega) hd.1 h4⟩
   ·exact absurd rfl c2
  ·rw[if_neg (by rintro(h|h); ·exact c1 h
                 ·exact c2 h)]at h4
   subst h4
   have c1:=eq_false c1
   by_cases c3:n=2
   ·subst c3
    simp only[e0,c1,zi,zg,Int.toNat_natCast,Tok.enc,ze,zc,za,go_sem,seval,reduceIte,reduceCtorEq]
   ·have c4:dlm v k ⟨#[62]⟩=false:=by
     cases hh:dlm v k ⟨#[62]⟩with
     |false=>rfl
     |true=>exact absurd ⟨c3,hh⟩ c2
    have c3:=eq_false c3
    simp only[e0,c1,c3,c4,zi,zg,Int.toNat_natCast,Tok.enc,ze,zc,za,go_sem,seval,reduceIte,reduceCtorEq]
end Go.Proofs.YtjcmoedalneldaaGreat
section
section
namespace Go.Proofs.YtjcmoedalneldaaGreat
open Go.Sx
set_option linter.unusedSimpArgs false
set_option linter.unusedVariables false
set_option maxHeartbeats 8000000
set_option maxRecDepth 100000
def spB(t:Tok):Bool:=decide (t.kind=1)
def kpT(l:List Tok):List Tok:=l.filter fun t=>decide (t.kind≠1)
theorem ztX(t:Tok):zf Tryz.prog 186 [.agg t.enc] (vb (spB t)):=by
 refine zf.of (Orc.nil _) zrl (by simp[zur]) fun w0 own0=> ?_
 simp only[zur,Tok.enc,spB,go_sem,zb,seval,reduceIte,reduceCtorEq]
theorem YK(t:Tok):(⟨t.kind,t.text,t.n⟩:Tok)=t:=rfl
def Je:Sum Tryz.prog:=⟨186,fun args=>args= [.agg (Tok.enc (Yg (args.getD 0 .any)))],fun args=>vb (spB (Yg (args.getD 0 .any))),fun args h=>by
 have:=ztX (Yg (args.getD 0 .any));rwa [←h]at this,true⟩
theorem znA:Je.f=186:=rfl
theorem znz(args:List V):Je.D args=(args= [.agg (Tok.enc (Yg (args.getD 0 .any)))]):=rfl
theorem zdZ:Je.flat=true:=rfl
theorem znB(args:List V):Je.r args=vb (spB (Yg (args.getD 0 .any))):=rfl
attribute [go_sem] znA znz zdZ znB
def ixT(l:List Tok):Nat→Nat→Int
 |0,_=> -1
 |f+1,j=>if spB (l.getD j .zero)=true then(j:Int)else ixT l f (j+1)
theorem Q9(l:List Tok)(j:Nat)(hj:j<l.length):kpT (l.take (j+1))=if spB (l.getD j .zero)=true then kpT (l.take j)else kpT (l.take j)++ [l.getD j .zero]:=by
 have ht:l.take (j+1)=l.take j++ [l.getD j .zero]:=by
  rw[List.take_add_one,List.getD_eq_getElem?_getD,List.getElem?_eq_getElem hj];rfl
 rw[ht]
 unfold kpT spB
 rw[List.filter_append]
 by_cases h:(l.getD j .zero).kind=1
 ·rw[if_pos (by simpa using h),List.filter_cons_of_neg (by simpa using h)];simp
 ·rw[if_neg (by simpa using h),List.filter_cons_of_pos (by simpa using h)];rfl
theorem zdb(l:List Tok):∀(f j:Nat),j+f=l.length→kpT (l.take j)=l.take j→
  (ixT l f j= -1∧kpT l=l)∨∃i:Nat,ixT l f j=i∧i<l.length∧spB (l.getD i .zero)=true∧kpT (l.take i)=l.take i
 |0,j,hf,hk=>by
  have:j=l.length:=by omega
  subst this
  rw[List.take_length]at hk
  exact .inl ⟨rfl,hk⟩
 |f+1,j,hf,hk=>by
  simp only[ixT]
  have hkt:=Q9 l j (by omega)
  by_cases h:spB (l.getD j .zero)=true
  ·rw[if_pos h];exact .inr ⟨j,rfl,by omega,h,hk⟩
  ·rw[if_neg h]
   rw[if_neg h,hk]at hkt
   refine zdb l f (j+1) (by omega) ?_
   rw[hkt,List.take_add_one,List.getD_eq_getElem?_getD,List.getElem?_eq_getElem (by omega)];rfl
def zfB(l:List Tok):Int:=ixT l l.length 0
theorem zvE(l:List Tok)(hl:l.length≤1000000):zf Tryz.prog 188 [zi l,.fn 186 []] (vi (zfB l)):=by
 refine zf.of (Orc.cons Je (Orc.nil _)) zhe (by simp[zlH]) fun w0 own0=> ?_
 unfold zfB
 generalize hR:ixT l l.length 0=R
 simp only[zlH,zi,go_sem,zb,seval,reduceIte,reduceCtorEq]
 refine zQ.lp (α:=Nat×Nat) (fun j=>[(0,.slc 3 (l.map Tok.enc)),(1,.fn 186 []),(7,vi l.length),(8,vi j.1)]) (fun j=>⟨[],j.2⟩)
  (fun j=>j.1≤l.length∧ixT l (l.length - j.1) j.1=R) (fun j=>l.length - j.1) (0,0) ⟨Nat.zero_le _,hR⟩ (St.cut ?_ ?_ ?_) fun j hj=> ?_
 ·simp[zu,zr,zv]
 ·simp
 ·rfl
 obtain⟨j,clk⟩:=j
 obtain⟨h1,h2⟩:=hj
 simp only at h1 h2
 by_cases hkl:j=l.length
 ·subst hkl
  rw[Nat.sub_self]at h2
  simp only[ixT]at h2
  simp only[Int.lt_irrefl,←h2,go_sem,zb,seval,reduceIte,reduceCtorEq]
 ·have e1:(j:Int)<(l.length:Int):=by omega
  have e0:(0:Int)≤(j:Int):=by omega
  obtain⟨f,hf⟩:∃f,l.length - j=f+1:=⟨l.length - j - 1,by omega⟩
  rw[hf]at h2
  simp only[ixT]at h2
  have hg:=qz l j
  generalize l.getD j .zero=c at*
  cases hs:spB c with
  |true=>
   rw[hs]at h2
   simp only[e0,e1,hg,hs,Tok.enc,QX,YK,go_sem,zb,seval,reduceIte,reduceCtorEq]
   simpa using h2
  |false=>
   rw[hs]at h2
   simp only[e0,e1,hg,hs,Tok.enc,QX,YK,go_sem,zb,seval,reduceIte,reduceCtorEq]
   exact⟨by omega,(j+1,_),⟨by dsimp only;omega,by dsimp only;rw[show l.length - (j+1)=f by omega];simpa using h2⟩,by dsimp only;omega,by dsimp only;omega,rfl⟩
def Wx:Sum Tryz.prog:=⟨188,fun args=>args= [zi (zh (args.getD 0 .any)),.fn 186 []]∧((zh (args.getD 0 .any))).length≤1000000,fun args=>vi (zfB (zh (args.getD 0 .any))),fun args h=>by
 have:=zvE (zh (args.getD 0 .any)) h.2;rwa [←h.1]at this,true⟩
theorem zog:Wx.f=188:=rfl
theorem zof(args:List V):Wx.D args=(args= [zi (zh (args.getD 0 .any)),.fn 186 []]∧((zh (args.getD 0 .any))).length≤1000000):=rfl
theorem zei:Wx.flat=true:=rfl
theorem zoh(args:List V):Wx.r args=vi (zfB (zh (args.getD 0 .any))):=rfl
attribute [go_sem] zog zof zei zoh
def hT8(l:List Tok)(ver clk:Nat):Heap:=⟨[⟨ver,3,l.map Tok.enc,false,[vi 0,vs ⟨#[]⟩,vi 0]⟩],clk⟩
def ckT(l:List Tok):Nat:=if zfB l= -1 then 0 else l.length - ((zfB l).toNat+1)
structure DeT where
 es:List Tok
 i:Nat
 j:Nat
theorem zkI(l:List Tok)(j:Nat)(hj:j<l.length):l.take (j+1)=l.take j++ [l.getD j .zero]:=by
 rw[List.take_add_one,List.getD_eq_getElem?_getD,List.getElem?_eq_getElem hj];rfl
theorem zii(l:List Tok)(ver clk:Nat)(hl:l.length≤1000000):
  zJ Tryz.prog 185 [.ref 0 ver 0 l.length,.fn 186 []] (hT8 l ver clk) (.ref 0 ver 0 (kpT l).length) (hT8 (kpT l) ver (clk+ckT l)):=by
 refine zJ.walk (Orc.cons Wx (Orc.cons Je (Orc.nil _))) zhd (by simp[zh7]) fun w0 own0=> ?_
 have hsp:=zdb l l.length 0 (by omega) rfl
 have hV:zfB l=ixT l l.length 0:=rfl
 rw[←hV]at hsp
 rcases hsp with⟨h,e⟩|⟨i0,hi,hil,hri,hk⟩
 ·have hck:ckT l=0:=by unfold ckT;rw[if_pos h]
  rw[e,hck]
  simp only[zh7,hT8,h,hl,zi,zg,List.length_map,List.take_length,Nat.le_refl,yV,go_sem,zb,seval,reduceIte,reduceCtorEq]
  rw[Nat.add_zero]
 have hck:ckT l=l.length - (i0+1):=by unfold ckT;rw[if_neg (by omega),hi,Int.toNat_natCast]
 rw[hck]
 have hne:=eq_false (show ¬(i0:Int)= -1 by omega)
 simp only[zh7,hT8,hi,hne,hl,zi,zg,List.length_map,List.take_length,Nat.le_refl,yV,go_sem,zb,seval,reduceIte,reduceCtorEq]
 refine⟨by omega,?_⟩
 refine zQ.lp (α:=DeT) (fun a=>[(0,.ref 0 ver 0 l.length),(1,.fn 186 []),(5,vi a.i),(6,vi a.j)])
  (fun a=>hT8 a.es ver (clk+(a.j - (i0+1))))
  (fun a=>i0<a.j∧a.i<a.j∧a.j≤l.length∧a.es.length=l.length∧a.i=(kpT (l.take a.j)).length∧a.es.take a.i=kpT (l.take a.j)∧a.es.drop a.j=l.drop a.j) (fun a=>l.length - a.j) ⟨l,i0,i0+1⟩ ?_
  (St.cut ?_ ?_ ?_) fun a ha=> ?_
 ·refine⟨by dsimp only;omega,by dsimp only;omega,by dsimp only;omega,rfl,?_,?_,rfl⟩
  ·rw[Q9 l i0 hil,if_pos hri,hk];simp;omega
  ·rw[Q9 l i0 hil,if_pos hri,hk]
 ·simp[zu,zr,zv]
 ·simp[hT8]
 ·simp[hT8]
 obtain⟨es,i,j⟩:=a
 simp only at ha
 obtain⟨h0,h1,h2,h3,h4,h5,h6⟩:=ha
 by_cases hj:j=l.length
 ·subst hj
  rw[List.take_length]at h4 h5
  simp only[hT8,Int.lt_irrefl,h3,h5,go_sem,zb,seval,reduceIte,reduceCtorEq]
  exact⟨⟨by omega,by omega,by omega⟩,⟨by omega,by omega⟩,⟨by omega,by omega⟩,by omega⟩
 ·have e1:(j:Int)<(l.length:Int):=by omega
  have e0:(0:Int)≤(j:Int):=by omega
  have e0i:(0:Int)≤(i:Int):=by omega
  have e2:es.getD j .zero=l.getD j .zero:=by
   rw[List.getD_eq_getElem?_getD,List.getD_eq_getElem?_getD]
   have:es[j]? =l[j]? :=by
    have:=congrArg (fun l=>l[0]?) h6
    simpa using this
   rw[this]
  have hkt:=Q9 l j (by omega)
  have hg:=qz es j
  have h7:es.drop (j+1)=l.drop (j+1):=by
   have:=congrArg (fun l=>l.drop 1) h6
   simpa[List.drop_drop]using this
  rw[e2]at hg
  generalize l.getD j .zero=c at*
  cases hs:spB c with
  |false=>
   rw[hs]at hkt
   simp only[hT8,Tok.enc,QX,YK,e0,e0i,e1,hg,hs,h3,yV,go_sem,zb,seval,reduceIte,reduceCtorEq]
   refine⟨by omega,by omega,by omega,by omega,by omega,⟨es.set i c,i+1,j+1⟩,⟨by dsimp only;omega,by dsimp only;omega,by dsimp only;omega,by simp[h3],?_,?_,?_⟩,by dsimp only;omega,⟨by dsimp only;omega,by dsimp only;omega⟩,?_,by dsimp only;omega⟩
   ·dsimp only;rw[hkt,if_neg (by simp),List.length_append,←h4];rfl
   ·dsimp only
    rw[hkt,if_neg (by simp),zkI _ i (by simp;omega),List.take_set_of_le (by omega),h5]
    congr 2
    rw[List.getD_eq_getElem?_getD,List.getElem?_set_self (by omega)];rfl
   ·dsimp only;rw[List.drop_set_of_lt (by omega),h7]
   ·dsimp only;rw[List.map_set];rfl
  |true=>
   rw[hs]at hkt
   simp only[hT8,Tok.enc,QX,YK,e0,e0i,e1,hg,hs,h3,yV,go_sem,zb,seval,reduceIte,reduceCtorEq]
   exact⟨by omega,by omega,⟨es,i,j+1⟩,⟨by dsimp only;omega,by dsimp only;omega,by dsimp only;omega,h3,by dsimp only;rw[hkt,if_pos rfl];exact h4,by dsimp only;rw[hkt,if_pos rfl];exact h5,h7⟩,by dsimp only;omega,⟨rfl,by dsimp only;omega⟩,rfl,by dsimp only;omega⟩
end Go.Proofs.YtjcmoedalneldaaGreat
end
section
namespace Go.Proofs.YtjcmoedalneldaaGreat
open Go.Sx
set_option linter.unusedSimpArgs false
set_option linter.unusedVariables false
set_option maxHeartbeats 8000000
set_option maxRecDepth 100000
theorem zhP(l:List Tok):(l.map Tok.enc).all (fun e=>e.all V.isC)=true:=by
 rw[List.all_eq_true];intro e he;obtain⟨n,_,rfl⟩:=List.mem_map.1 he;rfl
theorem zh9(l:List Tok)(h0:l≠[])(hl:l.length≤1000000):jQ Tryz.prog 37 [zi l] 3 [vi 0,vs ⟨#[]⟩,vi 0] (l.map Tok.enc):=by
 cases l with
 |nil=>exact absurd rfl h0
 |cons c l=>
  refine jQ.of (Orc.nil _) KV [vi 0,vs ⟨#[]⟩,vi 0] (by simp[c37]) fun w0 own0=> ?_
  have h1:=eq_true (show(c::l).length≤1099511627776 by omega)
  have h2:=eq_true (show(c::l).length*32≤140737488355328 by omega)
  have hm:=fun S h=>yV S h (c::l)
  simp only[List.length_cons]at h1 h2
  simp only[List.map_cons]at hm
  simp -implicitDefEqProofs only[c37,zi,Heap.nilV,h1,h2,hm,List.map_cons,List.length_cons,List.length_map,Nat.le_refl,List.take_length,go_sem,zb,seval,reduceIte,reduceCtorEq]
def YX:GSum Tryz.prog:=⟨37,fun args=>args= [zi (zh (args.getD 0 .any))]∧zh (args.getD 0 .any)≠[]∧(zh (args.getD 0 .any)).length≤1000000,3,[vi 0,vs ⟨#[]⟩,vi 0],
 fun args=>(zh (args.getD 0 .any)).map Tok.enc,fun args h=>(by
  have:=zh9 (zh (args.getD 0 .any)) h.2.1 h.2.2
  rwa [←h.1]at this),fun args=>zhP _⟩
theorem zjB:YX.f=37:=rfl
theorem zjz(args:List V):YX.D args=(args= [zi (zh (args.getD 0 .any))]∧zh (args.getD 0 .any)≠[]∧(zh (args.getD 0 .any)).length≤1000000):=rfl
theorem zgb:YX.sz=3:=rfl
theorem zjA:YX.d= [vi 0,vs ⟨#[]⟩,vi 0]:=rfl
theorem zjC(args:List V):YX.r args=(zh (args.getD 0 .any)).map Tok.enc:=rfl
attribute [go_sem] zjB zjz zgb zjA zjC
def rsT(h:Heap):List Tok:=zh (.slc 3 (h.blk 0).es)
def dtP(args:List V)(h:Heap):Prop:=∃(l:List Tok)(ver clk:Nat),args= [.ref 0 ver 0 l.length,.fn 186 []]∧h=hT8 l ver clk∧l.length≤1000000
def dtV(h:Heap):V:=.ref 0 (h.blk 0).ver 0 (kpT (rsT h)).length
def dtH(h:Heap):Heap:=hT8 (kpT (rsT h)) (h.blk 0).ver (h.clk+ckT (rsT h))
theorem zng(l:List Tok)(ver clk:Nat):rsT (hT8 l ver clk)=l:=by
 simp only[rsT,hT8,Heap.blk,List.getElem?_cons_zero,Option.getD_some,zg]
theorem zfr(l:List Tok)(ver clk:Nat):dtV (hT8 l ver clk)= .ref 0 ver 0 (kpT l).length:=by unfold dtV;rw[zng];rfl
theorem zfq(l:List Tok)(ver clk:Nat):dtH (hT8 l ver clk)=hT8 (kpT l) ver (clk+ckT l):=by unfold dtH;rw[zng];rfl
def Zb:ESum Tryz.prog:=⟨185,dtP,fun _ h=>dtV h,fun _ h=>dtH h,fun args h hp=>by
 obtain⟨l,ver,clk,rfl,rfl,h1⟩:=hp
 rw[zfr,zfq];exact zii l ver clk h1⟩
theorem zly(l:List Tok)(h0:l≠[])(hl:l.length≤1000000):zf Tryz.prog 179 [zi l] (zi (kpT l)):=by
 refine zf.of (Orc.gcons YX (Orc.econs Zb (Orc.nil _))) Xa (by simp[zfi]) fun w0 own0=> ?_
 have e1:Zb.f=185:=rfl
 have e2:∀args h,Zb.pre args h=dtP args h:=fun _ _=>rfl
 have e3:∀args h,Zb.v args h=dtV h:=fun _ _=>rfl
 have e4:∀args h,Zb.hp args h=dtH h:=fun _ _=>rfl
 have hP:dtP [.ref 0 0 0 l.length,.fn 186 []] (hT8 l 0 1):=⟨l,0,1,rfl,rfl,hl⟩
 have hV:=zfr l 0 1
 have hH:=zfq l 0 1
 simp only[hT8]at hP hV hH
 have htl:((kpT l).map Tok.enc).take (kpT l).length=(kpT l).map Tok.enc:=List.take_of_length_le (by simp)
 simp -implicitDefEqProofs only[zfi,zi,zg,h0,hl,hP,hV,hH,htl,yV,List.length_map,List.take_length,Nat.le_refl,e1,e2,e3,e4,GSum.pre,GSum.v,GSum.hp,Heap.alloc,List.nil_append,Nat.zero_add,ze,zc,za,go_sem,seval,reduceIte,reduceCtorEq]
theorem zmp:zf Tryz.prog 188 [zD,.fn 186 []] (vi (-1)):=by
 refine zf.of (Orc.nil _) zhe (by simp[zlH]) fun w0 own0=> ?_
 simp only[zlH,go_sem,zb,seval,reduceIte,reduceCtorEq]
 refine zQ.lp (α:=Nat) (fun _=>[(7,vi 0),(8,vi 0)]) (fun _=>⟨[],0⟩) (fun _=>True) (fun j=>j) 0 trivial (St.cut ?_ ?_ ?_) fun j hj=> ?_
 ·simp[zu,zr,zv]
 ·simp
 ·rfl
 simp only[Int.lt_irrefl,go_sem,zb,seval,reduceIte,reduceCtorEq]
def Ww:Sum Tryz.prog:=⟨188,fun args=>args= [zD,.fn 186 []],fun _=>vi (-1),fun args h=>(by rw[h];exact zmp),true⟩
theorem zih:zf Tryz.prog 185 [zD,.fn 186 []] zD:=by
 refine zf.of (Orc.cons Ww (Orc.nil _)) zhd (by simp[zh7]) fun w0 own0=> ?_
 have e1:Ww.f=188:=rfl
 have e2:∀args,Ww.D args=(args= [zD,.fn 186 []]):=fun _=>rfl
 have e3:∀args,Ww.r args=vi (-1):=fun _=>rfl
 have e4:Ww.flat=true:=rfl
 simp only[zh7,e1,e2,e3,e4,go_sem,zb,seval,reduceIte,reduceCtorEq]
def Kz:Sum Tryz.prog:=⟨185,fun args=>args= [zD,.fn 186 []],fun _=>zD,fun args h=>(by rw[h];exact zih),true⟩
theorem KX(cap:Nat):zf Tryz.prog 37 [.c (.slice none 0 cap)] zD:=by
 refine zf.of (Orc.nil _) KV (by simp[c37]) fun w0 own0=> ?_
 simp only[c37,Heap.nilV,Option.isNone_none,go_sem,zb,seval,reduceIte,reduceCtorEq]
def Kt:Sum Tryz.prog:=⟨37,fun args=>∃cap,args= [.c (.slice none 0 cap)],fun _=>zD,fun args h=>(by obtain⟨cap,rfl⟩:=h;exact KX cap),true⟩
theorem zfl(a:Addr)(cap:Nat):jQ Tryz.prog 37 [.c (.slice (some a) 0 cap)] 3 [vi 0,vs ⟨#[]⟩,vi 0] []:=by
 refine jQ.of (Orc.nil _) KV [vi 0,vs ⟨#[]⟩,vi 0] (by simp[c37]) fun w0 own0=> ?_
 simp only[c37,Heap.nilV,Option.isNone_some,go_sem,zb,seval,reduceIte,reduceCtorEq]
def YW:GSum Tryz.prog:=⟨37,fun args=>∃a cap,args= [.c (.slice (some a) 0 cap)],3,[vi 0,vs ⟨#[]⟩,vi 0],fun _=>[],fun args h=>(by obtain⟨a,cap,rfl⟩:=h;exact zfl a cap),fun _=>rfl⟩
theorem zqF(a:Option Addr)(cap:Nat):zf Tryz.prog 179 [.c (.slice a 0 cap)] (.slc 3 []):=by
 cases a with
 |none=>
  refine zf.rsub (r:=zD) ?_ fun F w v h=>PRep.nilS 3 h
  refine zf.of (Orc.cons Kt (Orc.cons Kz (Orc.nil _))) Xa (by simp[zfi]) fun w0 own0=> ?_
  have a1:Kt.f=37:=rfl
  have a2:∀cap,Kt.D [.c (.slice none 0 cap)]=True:=fun cap=>eq_true ⟨cap,rfl⟩
  have a3:∀args,Kt.r args=zD:=fun _=>rfl
  have a4:Kt.flat=true:=rfl
  have e1:Kz.f=185:=rfl
  have e2:∀args,Kz.D args=(args= [zD,.fn 186 []]):=fun _=>rfl
  have e3:∀args,Kz.r args=zD:=fun _=>rfl
  have e4:Kz.flat=true:=rfl
  simp only[zfi,a1,a2,a3,a4,e1,e2,e3,e4,go_sem,zb,seval,reduceIte,reduceCtorEq]
 |some a=>
  refine zf.of (Orc.gcons YW (Orc.econs Zb (Orc.nil _))) Xa (by simp[zfi]) fun w0 own0=> ?_
  have a1:YW.f=37:=rfl
  have a2:∀a cap,YW.D [.c (.slice (some a) 0 cap)]=True:=fun a cap=>eq_true ⟨a,cap,rfl⟩
  have a3:∀args,YW.r args= []:=fun _=>rfl
  have a4:YW.sz=3:=rfl
  have a5:YW.d= [vi 0,vs ⟨#[]⟩,vi 0]:=rfl
  have e1:Zb.f=185:=rfl
  have e2:∀args h,Zb.pre args h=dtP args h:=fun _ _=>rfl
  have e3:∀args h,Zb.v args h=dtV h:=fun _ _=>rfl
  have e4:∀args h,Zb.hp args h=dtH h:=fun _ _=>rfl
  have hP:dtP [.ref 0 0 0 0,.fn 186 []] (hT8 [] 0 1):=⟨[],0,1,rfl,rfl,Nat.zero_le _⟩
  have hV:dtV (hT8 [] 0 1)= .ref 0 0 0 0:=zfr [] 0 1
  have hH:dtH (hT8 [] 0 1)=hT8 [] 0 1:=zfq [] 0 1
  simp only[hT8,List.map_nil]at hP hV hH
  simp -implicitDefEqProofs only[zfi,hP,hV,hH,a1,a2,a3,a4,a5,List.length_nil,Nat.le_refl,e1,e2,e3,e4,GSum.pre,GSum.v,GSum.hp,Heap.alloc,List.nil_append,Nat.zero_add,ze,zc,za,go_sem,seval,reduceIte,reduceCtorEq]
theorem zqG(l:List Tok)(hl:l.length≤1000000):zf Tryz.prog 179 [zi l] (zi (kpT l)):=by
 cases l with
 |nil=>
  refine⟨(jA Xa).1,fun F w cargs hF hs hp=> ?_⟩
  have hv:=hp 0 (by simp)
  simp only[List.getD_cons_zero,zi,List.map_nil]at hv
  generalize hcv:cargs.getD 0 undef=cv at hv
  cases hv with
  |slc a n cap sz es b' o' ys hn' hc hsz ha hy hry=>
  simp only[List.length_nil]at hn'
  subst hn'
  refine(zqF a cap).2 F w cargs hF hs fun i hi=> ?_
  match i,hi with
  |0,_=>rw[hcv];exact .c _
  |i+1,hi=>exact absurd hi (by simp)
 |cons c l=>exact zly (c::l) (by simp) hl
def Kq:Sum Tryz.prog:=⟨179,fun args=>args= [zi (zh (args.getD 0 .any))]∧((zh (args.getD 0 .any))).length≤1000000,fun args=>zi (kpT (zh (args.getD 0 .any))),fun args h=>by
 have:=zqG (zh (args.getD 0 .any)) h.2;rwa [←h.1]at this,false⟩
theorem zjo:Kq.f=179:=rfl
theorem zjn(args:List V):Kq.D args=(args= [zi (zh (args.getD 0 .any))]∧((zh (args.getD 0 .any))).length≤1000000):=rfl
theorem zbM:Kq.flat=false:=rfl
theorem zjp(args:List V):Kq.r args=zi (kpT (zh (args.getD 0 .any))):=rfl
attribute [go_sem] zjo zjn zbM zjp
def jy(o:Option Smp):V:=.tup [.agg (o.getD ⟨0,⟨#[]⟩,⟨#[]⟩⟩).enc,vb o.isSome]
def zhY(r:List Tok):Option Smp:=
 match r with
 | [a]=>if a.kind=2 then some ⟨5,a.text,⟨#[]⟩⟩else none
 | [a,b,c]=>if a.kind=2∧b.kind=11∧b.text=⟨#[61]⟩∧(c.kind=2∨c.kind=6)then some ⟨6,a.text,c.text⟩else none
 |_=>none
theorem zqE(l:List Tok)(hl:l.length≤1000000):zf Tryz.prog 172 [zi l] (jy (Xs l)):=by
 refine zf.of (Orc.cons Kq (Orc.cons Za (Orc.nil _))) zrc (by simp[zuj]) fun w0 own0=> ?_
 have hk:Xs l=zhY (kpT l):=rfl
 rw[hk]
 clear hk
 simp -implicitDefEqProofs only[zuj,zi,zg,hl,ze,zc,za,go_sem,seval,reduceIte,reduceCtorEq]
 have hz:Tok.zero.enc= [vi 0,vs ⟨#[]⟩,vi 0]:=rfl
 generalize kpT l=r
 match r with
 | []=>
   have hR:zhY []=none:=rfl
   rw[hR]
   simp -implicitDefEqProofs only[List.map_nil,List.map_cons,List.length_cons,List.length_nil,jy,Tok.enc,hz,Option.getD_none,Option.isSome_none,Smp.enc,zz,ze,zc,za,go_sem,seval,reduceIte,reduceCtorEq]
 | [a]=>
   obtain⟨ak,at',an⟩:=a
   have hR:zhY [⟨ak,at',an⟩]=if ak=2 then some ⟨5,at',⟨#[]⟩⟩else none:=rfl
   rw[hR]
   by_cases h:ak=2
   ·subst h
    simp -implicitDefEqProofs only[List.map_nil,List.map_cons,List.length_cons,List.length_nil,jy,Tok.enc,hz,if_true,Option.getD_some,Option.isSome_some,Smp.enc,zz,ze,zc,za,go_sem,seval,reduceIte,reduceCtorEq]
   ·have h:=eq_false h
    simp -implicitDefEqProofs only[List.map_nil,List.map_cons,List.length_cons,List.length_nil,jy,Tok.enc,hz,h,if_false,Option.getD_none,Option.isSome_none,Smp.enc,zz,ze,zc,za,go_sem,seval,reduceIte,reduceCtorEq]
 | [a,b]=>
   have hR:zhY [a,b]=none:=rfl
   rw[hR]
   simp -implicitDefEqProofs only[List.map_nil,List.map_cons,List.length_cons,List.length_nil,jy,Tok.enc,hz,Option.getD_none,Option.isSome_none,Smp.enc,zz,ze,zc,za,go_sem,seval,reduceIte,reduceCtorEq]
 | [a,b,c]=>
   obtain⟨ak,at',an⟩:=a
   obtain⟨bk,bt,bn⟩:=b
   obtain⟨ck,ct,cn⟩:=c
   have hd:∀w,dlm [⟨ak,at',an⟩,⟨bk,bt,bn⟩,⟨ck,ct,cn⟩] 1 w=decide (bk=11∧bt=w):=fun w=>by simp[dlm]
   have hdt:zh (.slc 3 [[vi ak,vs at',vi an],[vi bk,vs bt,vi bn],[vi ck,vs ct,vi cn]])= [⟨ak,at',an⟩,⟨bk,bt,bn⟩,⟨ck,ct,cn⟩]:=rfl
   have htk:zi [⟨ak,at',an⟩,⟨bk,bt,bn⟩,⟨ck,ct,cn⟩]= .slc 3 [[vi ak,vs at',vi an],[vi bk,vs bt,vi bn],[vi ck,vs ct,vi cn]]:=rfl
   have hd1:dlm [⟨ak,at',an⟩,⟨bk,bt,bn⟩,⟨ck,ct,cn⟩] 1 ⟨#[61]⟩=decide (bk=11∧bt=⟨#[61]⟩):=hd _
   have hR:zhY [⟨ak,at',an⟩,⟨bk,bt,bn⟩,⟨ck,ct,cn⟩]=if ak=2∧bk=11∧bt=⟨#[61]⟩∧(ck=2∨ck=6)then some ⟨6,at',ct⟩else none:=rfl
   rw[hR]
   have hf:∀ {P:Prop}[Decidable P]{x y:Option Smp},¬P→(if P then x else y)=y:=fun h=>if_neg h
   by_cases h:ak=2
   ·subst h
    cases hb:decide (bk=11∧bt=(⟨#[61]⟩:ByteArray))with
    |false=>
     have hb':=of_decide_eq_false hb
     rw[hb]at hd1
     rw[hf (fun hh=>hb' ⟨hh.2.1,hh.2.2.1⟩)]
     simp -implicitDefEqProofs only[List.map_nil,List.map_cons,List.length_cons,List.length_nil,jy,Tok.enc,hz,hdt,htk,hd1,Option.getD_none,Option.isSome_none,Smp.enc,zz,ze,zc,za,go_sem,seval,reduceIte,reduceCtorEq]
    |true=>
     have hb':=of_decide_eq_true hb
     rw[hb]at hd1
     by_cases hc:ck=2
     ·subst hc
      rw[if_pos ⟨rfl,hb'.1,hb'.2,.inl rfl⟩]
      simp -implicitDefEqProofs only[List.map_nil,List.map_cons,List.length_cons,List.length_nil,jy,Tok.enc,hz,hdt,htk,hd1,Option.getD_some,Option.isSome_some,Smp.enc,zz,ze,zc,za,go_sem,seval,reduceIte,reduceCtorEq]
     ·by_cases hc6:ck=6
      ·subst hc6
       rw[if_pos ⟨rfl,hb'.1,hb'.2,.inr rfl⟩]
       simp -implicitDefEqProofs only[List.map_nil,List.map_cons,List.length_cons,List.length_nil,jy,Tok.enc,hz,hdt,htk,hd1,Option.getD_some,Option.isSome_some,Smp.enc,zz,ze,zc,za,go_sem,seval,reduceIte,reduceCtorEq]
      ·rw[hf (fun hh=>hh.2.2.2.elim hc hc6)]
       have hc:=eq_false hc;have hc6:=eq_false hc6
       simp -implicitDefEqProofs only[List.map_nil,List.map_cons,List.length_cons,List.length_nil,jy,Tok.enc,hz,hdt,htk,hd1,hc,hc6,Option.getD_none,Option.isSome_none,Smp.enc,zz,ze,zc,za,go_sem,seval,reduceIte,reduceCtorEq]
   ·rw[hf (fun hh=>h hh.1)]
    have h:=eq_false h
    simp -implicitDefEqProofs only[List.map_nil,List.map_cons,List.length_cons,List.length_nil,jy,Tok.enc,hz,hdt,htk,hd1,h,Option.getD_none,Option.isSome_none,Smp.enc,zz,ze,zc,za,go_sem,seval,reduceIte,reduceCtorEq]
 |a::b::c::e::r=>
  have hR:zhY (a::b::c::e::r)=none:=rfl
  rw[hR]
  have q1:=eq_false (show ¬((r.length+1+1+1+1:Nat):Int)=1 by omega)
  have q3:=eq_false (show ¬((r.length+1+1+1+1:Nat):Int)=3 by omega)
  simp -implicitDefEqProofs only[List.map_nil,List.map_cons,List.length_cons,List.length_nil,jy,Tok.enc,hz,List.length_map,q1,q3,Option.getD_none,Option.isSome_none,Smp.enc,zz,ze,zc,za,go_sem,seval,reduceIte,reduceCtorEq]
end Go.Proofs.YtjcmoedalneldaaGreat
end
end
namespace Go.Proofs.YtjcmoedalneldaaGreat
open Go.Sx
set_option linter.unusedSimpArgs false
set_option linter.unusedVariables false
set_option maxHeartbeats 8000000
set_option maxRecDepth 100000
structure SaS where
 n:Nat
 clk:Nat
def zlo(v:List Tok):Prop:=∀k,k≤v.length→(yU v k).ok=true→k<(yU v k).to∧(yU v k).to≤v.length
theorem zfp{v:List Tok}{k:Nat}{w:ByteArray}(h:dlm v k w=true):k<v.length:=(of_decide_eq_true h).1
theorem Xm.b{v:List Tok}(h:Xm v):zlo v:=fun k hk=>(h.2 k hk).2
theorem zcL{v:List Tok}(hS:zlo v):∀(f k:Nat)(L:List Smp),k≤v.length→k≤(JN v f k L).2∧(JN v f k L).2≤v.length∧L.length≤(JN v f k L).1.length∧(JN v f k L).1.length+k≤L.length+(JN v f k L).2
 |0,k,L,hk=>by simp only[JN];omega
 |f+1,k,L,hk=>by
  simp only[JN]
  split
  ·simp only;omega
  ·rename_i hc
   have hok:(yU v k).ok=true:=by
    cases h:(yU v k).ok with
    |true=>rfl
    |false=>exact absurd (.inl h) hc
   have h1:=hS k hk hok
   have h2:=zcL hS f (yU v k).to (L++ [(yU v k).s]) h1.2
   simp only[List.length_append,List.length_cons,List.length_nil]at h2
   omega
theorem zcM{v:List Tok}(hS:zlo v)(k:Nat)(hk:k≤v.length):k≤(Zd v k).2∧(Zd v k).2≤v.length∧(Zd v k).1.length+k≤(Zd v k).2:=by
 have:=zcL hS (v.length+1) k [] hk
 simp only[List.length_nil]at this
 unfold Zd;omega
theorem XV{v:List Tok}:∀(f k:Nat)(n:Int),k≤v.length→k≤(JS v f k n).2∧(JS v f k n).2≤v.length
 |0,k,n,hk=>by simp only[JS];omega
 |f+1,k,n,hk=>by
  simp only[JS]
  split
  ·rename_i hc
   have hlt:k<v.length:=by
    rcases hc with h|h
    ·exact(jE h (by decide)).1
    ·exact zfp h.2
   have:=XV (v:=v) f (k+1) (if knd v k=11 then 2 else if n<1 then 1 else n) (by omega)
   omega
  ·simp only;omega
theorem zdd{v:List Tok}(k:Nat)(hk:k≤v.length):(Yn v k).2≤v.length∧((Yn v k).1≠0→k<(Yn v k).2):=by
 unfold Yn
 refine⟨(XV _ k 0 hk).2,fun hn=> ?_⟩
 simp only[JS]at hn⊢
 split at hn
 ·rename_i hc
  rw[if_pos hc]
  have hlt:k<v.length:=by
   rcases hc with h|h
   ·exact(jE h (by decide)).1
   ·exact zfp h.2
  have:=XV (v:=v) v.length (k+1) (if knd v k=11 then 2 else if(0:Int)<1 then 1 else 0) (by omega)
  omega
 ·exact absurd rfl hn
def zfN(w:List Tok):Nat→Nat→Int→List Cmp→Option (List Cmp)
 |0,_,_,_=>none
 |f+1,k,n,L=>
  if(Zd w k).1.length=0∨L.length=64 then none
  else if(Zd w k).2=w.length then some (L++ [⟨n,(Zd w k).1⟩])
  else if(Yn w (Zd w k).2).1=0 then none
  else zfN w f (Yn w (Zd w k).2).2 (Yn w (Zd w k).2).1 (L++ [⟨n,(Zd w k).1⟩])
def zmU(w:List Tok):Option Sel:=if yS w=true then none else zfN w (w.length+1) 0 0 []
def JX(v:List Tok):Option Sel:=zmU (zai v)
theorem X7{w:List Tok}(hS:zlo w)(hl:w.length≤1000000):∀(f k:Nat)(n:Int)(L:List Cmp)(s:Sel),k≤w.length→L.length≤64→(∀c∈L,c.l.length≤1000000)→zfN w f k n L=some s→s.length≤64∧∀c∈s,c.l.length≤1000000
 |0,_,_,_,_,_,_,_,h=>by cases h
 |f+1,k,n,L,s,hk,hL,hc,h=>by
  have h1:=zcM hS k hk
  simp only[zfN]at h
  split at h
  ·cases h
  rename_i hn
  have hc':∀c∈L++ [⟨n,(Zd w k).1⟩],c.l.length≤1000000:=fun c hcm=>by
   rcases List.mem_append.1 hcm with hcm|hcm
   ·exact hc c hcm
   ·obtain rfl:=List.mem_singleton.1 hcm;dsimp only;omega
  have hL':(L++ [(⟨n,(Zd w k).1⟩:Cmp)]).length≤64:=by simp;omega
  split at h
  ·obtain rfl:=Option.some.inj h;exact⟨hL',hc'⟩
  split at h
  ·cases h
  ·exact X7 hS hl f _ _ _ s (zdd _ h1.2.1).1 hL' hc' h
theorem zvO{s:Sel}(h:s.length≤64∧∀c∈s,c.l.length≤1000000):okC s:=⟨by omega,fun i hi=>h.2 _ (by rw[List.getD_eq_getElem?_getD,List.getElem?_eq_getElem hi];exact List.getElem_mem _)⟩
def JY(l:List Tok):List (Int×Int)→Option (List Sel)
 | []=>some []
 |p::ps=>match JX ((l.take p.2.toNat).drop p.1.toNat)with|none=>none|some s=>(JY l ps).map (s:: ·)
def psC(l:List Tok):Option (List Sel):=if yS l=true then none else JY l (zdQ l)
theorem zlQ{v:List Tok}{k:Int}(h0:0≤k)(h1:k≤v.length)(h:Xm v):zf Tryz.prog 128 [zi v,zO (zy v),vi k] (crV (Zd v k.toNat)):=by
 have:=zcP v h k.toNat (by omega);rwa [Int.toNat_of_nonneg h0]at this
def YY:Sum Tryz.prog:=⟨128,fun args=>args= [zi (zh (args.getD 0 .any)),zO (zy (zh (args.getD 0 .any))),vi ((args.getD 2 .any).int)]∧0≤((args.getD 2 .any).int)∧((args.getD 2 .any).int)≤((zh (args.getD 0 .any))).length∧Xm (zh (args.getD 0 .any)),fun args=>crV (Zd (zh (args.getD 0 .any)) (((args.getD 2 .any).int)).toNat),fun args h=>by
 have:=zlQ h.2.1 h.2.2.1 h.2.2.2;rwa [←h.1]at this,false⟩
theorem zjH:YY.f=128:=rfl
theorem zjG(args:List V):YY.D args=(args= [zi (zh (args.getD 0 .any)),zO (zy (zh (args.getD 0 .any))),vi ((args.getD 2 .any).int)]∧0≤((args.getD 2 .any).int)∧((args.getD 2 .any).int)≤((zh (args.getD 0 .any))).length∧Xm (zh (args.getD 0 .any))):=rfl
theorem zbR:YY.flat=false:=rfl
theorem zjI(args:List V):YY.r args=crV (Zd (zh (args.getD 0 .any)) (((args.getD 2 .any).int)).toNat):=rfl
attribute [go_sem] zjH zjG zbR zjI
theorem zmz{v:List Tok}{k:Int}(h0:0≤k)(h1:k≤v.length)(hl:v.length≤1000000):zf Tryz.prog 129 [zi v,vi k] (.tup [vi (Yn v k.toNat).1,vi (Yn v k.toNat).2]):=by
 have:=zr6 v hl k.toNat (by omega);rwa [Int.toNat_of_nonneg h0]at this
def Y1:Sum Tryz.prog:=⟨129,fun args=>args= [zi (zh (args.getD 0 .any)),vi ((args.getD 1 .any).int)]∧0≤((args.getD 1 .any).int)∧((args.getD 1 .any).int)≤((zh (args.getD 0 .any))).length∧((zh (args.getD 0 .any))).length≤1000000,fun args=>.tup [vi (Yn (zh (args.getD 0 .any)) (((args.getD 1 .any).int)).toNat).1,vi (Yn (zh (args.getD 0 .any)) (((args.getD 1 .any).int)).toNat).2],fun args h=>by
 have:=zmz h.2.1 h.2.2.1 h.2.2.2;rwa [←h.1]at this,false⟩
theorem zkh:Y1.f=129:=rfl
theorem zkg(args:List V):Y1.D args=(args= [zi (zh (args.getD 0 .any)),vi ((args.getD 1 .any).int)]∧0≤((args.getD 1 .any).int)∧((args.getD 1 .any).int)≤((zh (args.getD 0 .any))).length∧((zh (args.getD 0 .any))).length≤1000000):=rfl
theorem zb3:Y1.flat=false:=rfl
theorem zki(args:List V):Y1.r args= .tup [vi (Yn (zh (args.getD 0 .any)) (((args.getD 1 .any).int)).toNat).1,vi (Yn (zh (args.getD 0 .any)) (((args.getD 1 .any).int)).toNat).2]:=rfl
attribute [go_sem] zkh zkg zb3 zki
theorem jv(S:Nat→Bool)(h:Heap):∀l:List Cmp,zx (zx (res S h 9)) (l.map Cmp.enc)=some (l.map Cmp.enc)
 | []=>rfl
 |s::l=>by simp only[List.map_cons,zx,jv S h l,Cmp.enc];rfl
def X8:Option Sel→V
 |none=>.tup [.agg [zD],vb false]
 |some s=>.tup [.agg (yv s),vb true]
def JD(o:Option Sel):V:=.tup [.agg (yv (o.getD [])),vb o.isSome]
theorem ziM(o:Option Sel){f:FuncId}{args:List V}(h:zf Tryz.prog f args (X8 o)):zf Tryz.prog f args (JD o):=by
 cases o with
 |some l=>exact h
 |none=>
  refine zf.rsub h fun F w v hp=> ?_
  cases hp with
  |tup cs _ hl hx=>
   refine .tup cs _ hl fun i hi=> ?_
   have:=hx i hi
   match i,hi with
   |0,_=>
    have this:PRep F w (cs.getD 0 undef) (.agg [zD]):=this
    show PRep F w (cs.getD 0 undef) (.agg [.slc 2 []])
    generalize cs.getD 0 undef=u at this
    cases this with
    |agg cs _ hl h1 hx=>
     refine .agg cs [.slc 2 []] hl h1 fun i hi=> ?_
     have:=hx i hi
     match i,hi with
     |0,_=>exact PRep.nilS 2 this
   |1,_=>exact this
structure OnS8 where
 k:Nat
 n:Int
 L:List Cmp
 f:Nat
 ver:Nat
 clk:Nat
theorem zsg(v:List Tok)(hv:v.length≤1000000)(hS:yS (zai v)=false→Xm (zai v)):zf Tryz.prog 99 [zi v] (JD (JX v)):=by
 refine ziM _ ?_
 unfold JX zmU
 have htr:=zpq v
 have htv:trV v= .tup [vi (trA v),vi (trB v)]:=rfl
 have hcut:List.take (trB v - trA v) (List.drop (trA v) (v.map Tok.enc))=(zai v).map Tok.enc:=by unfold zai;rw[List.map_drop,List.map_take,List.drop_take]
 have hwl:=WL v
 have b1:=eq_true (show((trA v:Nat):Int)≤((trB v:Nat):Int)by omega)
 have b2:=eq_true (show((trB v:Nat):Int)≤(v.length:Int)by omega)
 have b0:=eq_true (show(0:Int)≤((trA v:Nat):Int)by omega)
 have hwl:(zai v).length≤1000000:=by omega
 generalize zai v=w at*
 generalize trA v=ta at*
 generalize trB v=tb at*
 cases hd:yS w with
 |true=>
  rw[if_pos rfl]
  have he:Y9 w=3:=by unfold Y9;rw[if_pos hd]
  refine zf.of (Orc.cons Qg (Orc.cons Y4 (Orc.cons YY (Orc.cons Y1 (Orc.nil _))))) zlK (by simp[c99]) fun w0 own0=> ?_
  simp only[c99,zi,zO,Jy,Jz,zg,z8,hv,hwl,htv,hcut,b0,b1,b2,he,Int.toNat_natCast,ze,zc,za,yd,yc,zM,ye,go_sem,seval,reduceIte,reduceCtorEq]
  refine zQ.lp (α:=Nat) (fun x=>[(2,.ptr 0 0 0 0),(7,vi 3)]) (fun x=>⟨[⟨0,1,[[zD]],false,[]⟩,⟨1,1,[[zD]],false,[]⟩],2⟩) (fun _=>True) (fun x=>x) 0 trivial (St.cut ?_ ?_ ?_) fun x hx=> ?_
  ·simp[zu,zr,zv]
  ·simp[Heap.alloc]
  ·rfl
  simp only[X8,yv,zz,ze,zc,za,yd,yc,zM,ye,go_sem,seval,reduceIte,reduceCtorEq]
 |false=>
  rw[if_neg (by simp)]
  have he:Y9 w=0:=by unfold Y9;rw[hd];rfl
  have hS:=hS hd
  generalize hR:zfN w (w.length+1) 0 0 []=R
  refine zf.of (Orc.cons Qg (Orc.cons Y4 (Orc.cons YY (Orc.cons Y1 (Orc.nil _))))) zlK (by simp[c99]) fun w0 own0=> ?_
  simp only[c99,zi,zO,Jy,Jz,zg,z8,hv,hwl,htv,hcut,b0,b1,b2,he,Int.toNat_natCast,ze,zc,za,yd,yc,zM,ye,go_sem,seval,reduceIte,reduceCtorEq]
  refine zQ.lp (α:=OnS8) (fun x=>[(0,.slc 3 (w.map Tok.enc)),(2,.ptr 0 0 0 0),(6,.slc 1 ((zy w).map fun n=>[vi n])),(7,vi 0),(8,.ptr 1 1 0 0),(9,vi x.n),(10,vi x.k)])
   (fun x=>⟨[⟨0,1,[[zD]],false,[]⟩,⟨1,1,[[.ref 2 x.ver 0 x.L.length]],false,[]⟩,⟨x.ver,2,x.L.map Cmp.enc,false,[vi 0,zD]⟩],x.clk⟩)
   (fun x=>x.k≤w.length∧x.L.length≤64∧w.length+1≤x.f+x.k∧zfN w x.f x.k x.n x.L=R) (fun x=>w.length+1 - x.k) ⟨0,0,[],w.length+1,2,3⟩
   ⟨Nat.zero_le _,by simp,by dsimp only;omega,hR⟩ (St.cell 1 0 0 2 [vi 0,zD] rfl rfl (St.cut ?_ ?_ ?_)) fun x hx=> ?_
  ·simp[zu,zr,zv]
  ·simp[Heap.alloc]
  ·rfl
  obtain⟨k,n,L,f,ver,clk⟩:=x
  obtain⟨h1,h2,h3,h4⟩:=hx
  simp only at h1 h2 h3 h4
  obtain⟨f,rfl⟩:∃g,f=g+1:=⟨f - 1,by omega⟩
  have e0:(0:Int)≤(k:Int):=by omega
  have e1:(k:Int)≤(w.length:Int):=by omega
  have htl:L.take L.length=L:=List.take_length
  have hc:=zcM hS.b k h1
  have hje:∀cl:List Smp,L.map Cmp.enc++ [[.c (.int .i64 n),.slc 3 (cl.map Smp.enc)]]=(L++ [(⟨n,cl⟩:Cmp)]).map Cmp.enc:=fun cl=>by simp[Cmp.enc]
  have hT:∀cl:List Smp,List.take (L.length+1) (L++ [(⟨n,cl⟩:Cmp)])=L++ [⟨n,cl⟩]:=fun cl=>List.take_of_length_le (by simp)
  simp only[zfN]at h4
  generalize hcr:Zd w k=r at*
  obtain⟨cl,to⟩:=r
  simp only at hc h4
  have e2:(0:Int)≤(to:Int):=by omega
  have e3:(to:Int)≤(w.length:Int):=by omega
  have hlk:=zdd (v:=w) to hc.2.1
  generalize hlr:Yn w to=q at*
  obtain⟨m,k2⟩:=q
  simp only at hlk h4
  by_cases c1:cl.length=0
  ·rw[if_pos (.inl c1)]at h4
   subst h4
   have c1':=eq_false (show ¬(0:Int)<(cl.length:Int)by omega)
   simp only[e0,e1,c1',hcr,hS,htl,crV,X8,yv,zz,y0,jv,hje,hT,zi,zO,zg,z8,Int.toNat_natCast,ze,zc,za,yd,yc,zM,ye,go_sem,seval,reduceIte,reduceCtorEq]
  have c1':=eq_true (show(0:Int)<(cl.length:Int)by omega)
  by_cases c2:L.length=64
  ·rw[if_pos (.inr c2)]at h4
   subst h4
   have c2':=eq_true (show(L.length:Int)=64 by omega)
   simp only[e0,e1,c1',c2',hcr,hS,htl,crV,X8,yv,zz,y0,jv,hje,hT,zi,zO,zg,z8,Int.toNat_natCast,ze,zc,za,yd,yc,zM,ye,go_sem,seval,reduceIte,reduceCtorEq]
  rw[if_neg (by omega)]at h4
  have c2':=eq_false (show ¬(L.length:Int)=64 by omega)
  by_cases c3:to=w.length
  ·rw[if_pos c3]at h4
   subst h4
   have c3':=eq_true (show(to:Int)=(w.length:Int)by omega)
   simp only[e0,e1,c1',c2',c3',hcr,hS,htl,crV,X8,yv,zz,y0,jv,hje,hT,zi,zO,zg,z8,Int.toNat_natCast,ze,zc,za,yd,yc,zM,ye,go_sem,seval,reduceIte,reduceCtorEq]
   rw[if_pos (by simp)]
   exact⟨⟨Nat.le_refl _,by omega,by omega⟩,rfl⟩
  rw[if_neg c3]at h4
  have c3':=eq_false (show ¬(to:Int)=(w.length:Int)by omega)
  by_cases c4:m=0
  ·rw[if_pos c4]at h4
   subst h4
   have c4':=eq_true c4
   simp only[e0,e1,e2,e3,hwl,hlr,c1',c2',c3',c4',hcr,hS,htl,crV,X8,yv,zz,y0,jv,hje,hT,zi,zO,zg,z8,Int.toNat_natCast,ze,zc,za,yd,yc,zM,ye,go_sem,seval,reduceIte,reduceCtorEq]
   exact⟨Nat.le_refl _,by omega,by omega⟩
  rw[if_neg c4]at h4
  have c4':=eq_false c4
  simp only[e0,e1,e2,e3,hwl,hlr,c1',c2',c3',c4',hcr,hS,htl,crV,X8,yv,zz,y0,jv,hje,hT,zi,zO,zg,z8,Int.toNat_natCast,ze,zc,za,yd,yc,zM,ye,go_sem,seval,reduceIte,reduceCtorEq]
  have hm:=hlk.2 c4
  exact⟨⟨Nat.le_refl _,by omega,by omega⟩,⟨k2,m,L++ [⟨n,cl⟩],f,_,_⟩,⟨hlk.1,by simp;omega,by dsimp only;omega,h4⟩,by dsimp only;omega,⟨rfl,rfl⟩,⟨⟨rfl,by simp⟩,rfl,rfl⟩,rfl⟩
def zln(v:List Tok):Prop:=zf Tryz.prog 99 [zi v] (JD (JX v))
theorem zsh{v:List Tok}(h:zln v):zf Tryz.prog 99 [zi v] (JD (JX v)):=h
def Y3:Sum Tryz.prog:=⟨99,fun args=>args= [zi (zh (args.getD 0 .any))]∧zln (zh (args.getD 0 .any)),fun args=>JD (JX (zh (args.getD 0 .any))),fun args h=>by
 have:=zsh h.2;rwa [←h.1]at this,false⟩
theorem zkq:Y3.f=99:=rfl
theorem zkp(args:List V):Y3.D args=(args= [zi (zh (args.getD 0 .any))]∧zln (zh (args.getD 0 .any))):=rfl
theorem zb6:Y3.flat=false:=rfl
theorem zkr(args:List V):Y3.r args=JD (JX (zh (args.getD 0 .any))):=rfl
attribute [go_sem] zkq zkp zb6 zkr
def zhF:Option (List Sel)→V
 |none=>.tup [zD,vb false]
 |some xs=>.tup [Zz xs,vb true]
def zfQ(o:Option (List Sel)):V:=.tup [Zz (o.getD []),vb o.isSome]
theorem ziQ(o:Option (List Sel)){f:FuncId}{args:List V}(h:zf Tryz.prog f args (zhF o)):zf Tryz.prog f args (zfQ o):=by
 cases o with
 |some l=>exact h
 |none=>
  refine zf.rsub h fun F w v hp=> ?_
  cases hp with
  |tup cs _ hl hx=>
   refine .tup cs _ hl fun i hi=> ?_
   have:=hx i hi
   match i,hi with
   |0,_=>exact PRep.nilS 1 this
   |1,_=>exact this
theorem zbz(l:List Tok):∀(ps:List Int)(b:Int),0≤b→b≤l.length→ps.Pairwise (· < ·)→(∀p∈ps,b≤p∧p<l.length)→∀q∈rsK l 16 l.length b ps,0≤q.1∧q.1≤q.2∧q.2≤l.length
 | [],b,h0,h1,_,_,q,hq=>by simp only[rsK,List.mem_singleton]at hq;subst hq;exact⟨h0,h1,Int.le_refl _⟩
 |p::ps,b,h0,h1,hw,hm,q,hq=>by
  obtain⟨hw1,hw2⟩:=List.pairwise_cons.1 hw
  have hp:=hm p (by simp)
  simp only[rsK]at hq
  split at hq
  ·rcases List.mem_cons.1 hq with rfl|hq
   ·exact⟨h0,hp.1,by dsimp only;omega⟩
   ·exact zbz l ps (p+1) (by omega) (by omega) hw2 (fun x hx=>⟨by have:=hw1 x hx;omega,(hm x (by simp[hx])).2⟩) q hq
  ·exact zbz l ps b h0 h1 hw2 (fun x hx=>hm x (by simp[hx])) q hq
theorem zby(l:List Tok)(to:Int):∀(ps:List Int)(b:Int),(rsK l 16 to b ps).length≤ps.length+1
 | [],b=>by simp[rsK]
 |p::ps,b=>by
  simp only[rsK]
  split
  ·have:=zby l to ps (p+1);simp;omega
  ·have:=zby l to ps b;simp;omega
theorem zdR{l:List Tok}(hd:yS l=false):(zdQ l).length≤l.length+1∧∀q∈zdQ l,0≤q.1∧q.1≤q.2∧q.2≤l.length:=by
 have hmem:=zhE hd (l.length+1) 0
 have hpw:=zmZ hd (l.length+1) 0
 have hln:=zhD hd (l.length+1) 0 (Nat.zero_le _)
 rw[show((0:Nat):Int)=0 from rfl]at hmem hpw hln
 rw[zsE hd]
 exact⟨by have:=zby l l.length (plR (zy l) l.length (l.length+1) 0) 0;omega,zbz l _ 0 (Int.le_refl _) (by omega) hpw hmem⟩
theorem ziP(l:List Tok)(P:List (Int×Int))(k:Nat)(h:k<P.length):JY l (P.drop k)=match JX ((l.take (P.getD k (0,0)).2.toNat).drop (P.getD k (0,0)).1.toNat)with|none=>none|some s=>(JY l (P.drop (k+1))).map (s:: ·):=by
 rw[List.drop_eq_getElem_cons h,List.getD_eq_getElem?_getD,List.getElem?_eq_getElem h];rfl
theorem zfx(l:List (Int×Int))(i:Nat):(l.map fun p=>[vi p.1,vi p.2]).getD i [vi 0,vi 0]= [vi (l.getD i (0,0)).1,vi (l.getD i (0,0)).2]:=by
 have:[vi 0,vi 0]=(fun p:Int×Int=>[vi p.1,vi p.2]) (0,0):=rfl
 rw[this]
 simp only[List.getD_eq_getElem?_getD,List.getElem?_map]
 cases l[i]? <;>rfl
theorem X0(S:Nat→Bool)(h:Heap):∀l:List Sel,zx (zx (res S h 10)) (l.map yv)=some (l.map yv)
 | []=>rfl
 |s::l=>by simp only[List.map_cons,zx,X0 S h l,yv];rfl
structure QrS8 where
 k:Nat
 out:List Sel
 ver:Nat
 clk:Nat
theorem ziO(l:List Tok)(h1:l.length≤1000000)(hO:yS l=false→∀q∈zdQ l,zln ((l.take q.2.toNat).drop q.1.toNat)):zf Tryz.prog 63 [zi l] (zfQ (psC l)):=by
 refine ziQ _ ?_
 unfold psC
 cases hd:yS l with
 |true=>
  rw[if_pos rfl]
  have he:Y9 l=3:=by unfold Y9;rw[if_pos hd]
  refine zf.of (Orc.cons Qg (Orc.cons ZC (Orc.cons Y3 (Orc.nil _)))) zlI (by simp[c63]) fun w0 own0=> ?_
  simp only[c63,zi,zO,Jy,Jz,zg,z8,h1,he,zhF,ze,zc,za,yd,yc,zM,ye,jL,jK,qH,jM,go_sem,seval,reduceIte,reduceCtorEq]
 |false=>
  rw[if_neg (by simp)]
  have hO:=hO hd
  have he:Y9 l=0:=by unfold Y9;rw[hd];rfl
  have hsp:=ziK hd
  obtain⟨hPl,hPr⟩:=zdR hd
  have hfd:zc4 l (zy l):=⟨h1,fun i=>by have:=zcW l i;omega⟩
  generalize hP:zdQ l=P at*
  generalize hR:JY l P=R
  refine zf.of (Orc.cons Qg (Orc.cons ZC (Orc.cons Y3 (Orc.nil _)))) zlI (by simp[c63]) fun w0 own0=> ?_
  simp only[c63,zi,zO,Jy,Jz,zg,z8,h1,he,hfd,hsp,prs,ze,zc,za,yd,yc,zM,ye,jL,jK,qH,jM,go_sem,seval,reduceIte,reduceCtorEq]
  refine zQ.lp (α:=QrS8) (fun a=>[(0,.slc 3 (l.map Tok.enc)),(6,.ref 0 a.ver 0 a.out.length),(22,.slc 2 (P.map fun p=>[vi p.1,vi p.2])),(23,vi P.length),(24,vi a.k)])
   (fun a=>⟨[⟨a.ver,1,a.out.map yv,false,[zD]⟩],a.clk⟩) (fun a=>a.k≤P.length∧a.out.length=a.k∧(JY l (P.drop a.k)).map (a.out++ ·)=R) (fun a=>P.length - a.k) ⟨0,[],0,1⟩
   ⟨Nat.zero_le _,rfl,by rw[←hR];simp only[List.drop_zero,List.nil_append];cases JY l P<;>rfl⟩ (St.nil 6 1 [zD] (by simp[zr]) (St.cut ?_ ?_ ?_)) fun a ha=> ?_
  ·simp[zu,zr,zv]
  ·simp[Heap.alloc]
  ·rfl
  obtain⟨k,out,ver,clk⟩:=a
  obtain⟨h2,h3,h4⟩:=ha
  simp only at h2 h3 h4
  have hot:out.take out.length=out:=List.take_length
  by_cases hk:k=P.length
  ·subst hk
   rw[List.drop_length]at h4
   simp only[JY,Option.map_some,List.append_nil]at h4
   subst h4
   simp only[Int.lt_irrefl,hot,zhF,Zz,X0,Nat.le_refl,ze,zc,za,yd,yc,zM,ye,jL,jK,qH,jM,go_sem,seval,reduceIte,reduceCtorEq]
  ·have e1:(k:Int)<(P.length:Int):=by omega
   have e0:(0:Int)≤(k:Int):=by omega
   have hlt:k<P.length:=by omega
   rw[ziP l P k hlt]at h4
   have hg:=zfx P k
   have hmem:P.getD k (0,0)∈P:=by rw[List.getD_eq_getElem?_getD,List.getElem?_eq_getElem hlt];exact List.getElem_mem _
   have hr:=hPr _ hmem
   have hok:=hO _ hmem
   clear hmem
   generalize P.getD k (0,0)=p at*
   obtain⟨a,b⟩:=p
   simp only at hr h4 hg hok
   obtain⟨a,rfl⟩:∃n:Nat,a=n:=⟨a.toNat,by omega⟩
   obtain⟨b,rfl⟩:∃n:Nat,b=n:=⟨b.toNat,by omega⟩
   obtain⟨r1,r2,r3⟩:=hr
   have hcut:List.take (b - a) (List.drop a (l.map Tok.enc))=((l.take b).drop a).map Tok.enc:=by rw[List.map_drop,List.map_take,List.drop_take]
   simp only[Int.toNat_natCast]at h4 hok
   generalize(l.take b).drop a=v at*
   cases ho:JX v with
   |none=>
    rw[ho]at h4
    simp only[Option.map_none]at h4
    subst h4
    simp only[e0,e1,hg,r1,r2,r3,hcut,hok,ho,JD,yv,Option.getD_none,Option.isSome_none,zhF,zi,zg,ze,zc,za,yd,yc,zM,ye,jL,jK,qH,jM,go_sem,seval,reduceIte,reduceCtorEq]
   |some s=>
    rw[ho]at h4
    simp only at h4
    simp only[e0,e1,hg,r1,r2,r3,hcut,hok,ho,hot,JD,yv,Option.getD_some,Option.isSome_some,zi,zg,ze,zc,za,yd,yc,zM,ye,jL,jK,qH,jM,go_sem,seval,reduceIte,reduceCtorEq]
    refine⟨⟨Nat.le_refl _,by omega,by omega⟩,by omega,⟨k+1,out++ [s],_,_⟩,⟨by dsimp only;omega,by simp;omega,?_⟩,by dsimp only;omega,⟨⟨rfl,by simp⟩,by dsimp only;omega⟩,⟨rfl,by simp[yv]⟩,rfl⟩
    rw[←h4];cases JY l (P.drop (k+1))<;>simp
end Go.Proofs.YtjcmoedalneldaaGreat
section
section
namespace Go.Proofs.YtjcmoedalneldaaGreat
open Go.Sx
set_option linter.unusedSimpArgs false
set_option linter.unusedVariables false
set_option maxHeartbeats 8000000
set_option maxRecDepth 100000
def Kp:Sum Tryz.prog:=⟨172,fun args=>args= [zi (zh (args.getD 0 .any))]∧((zh (args.getD 0 .any))).length≤1000000,fun args=>jy (Xs (zh (args.getD 0 .any))),fun args h=>by
 have:=zqE (zh (args.getD 0 .any)) h.2;rwa [←h.1]at this,false⟩
theorem zji:Kp.f=172:=rfl
theorem zjh(args:List V):Kp.D args=(args= [zi (zh (args.getD 0 .any))]∧((zh (args.getD 0 .any))).length≤1000000):=rfl
theorem zbK:Kp.flat=false:=rfl
theorem zjj(args:List V):Kp.r args=jy (Xs (zh (args.getD 0 .any))):=rfl
attribute [go_sem] zji zjh zbK zjj
theorem zcU{v:List Tok}{k:Nat}{w:ByteArray}(h:(v.getD k .zero).kind≠11):dlm v k w=false:=decide_eq_false fun hh=>h hh.2.1
theorem zlM{t:Tok}(h:t.kind=12)(h2:t.text=⟨#[91]⟩):¬zC t=⟨#[]⟩:=by
 unfold zC;rw[h,h2];decide
theorem zcV{v:List Tok}(hd:yS v=false){k:Nat}(hk:knd v k=12)(ht:txt v k=⟨#[91]⟩):(k:Int)<(zy v).getD k 0∧(zy v).getD k 0≤v.length:=by
 obtain⟨h1,h2⟩:=jE hk (by decide)
 rw[YL v hd k h1]
 rcases XD v k h1 with h|h
 ·unfold Y8 at h
  rw[if_neg (zlM h2 ht)]at h
  have:=(zfu v k (v.length - (k+1)) (k+1) (by omega)).1
  omega
 ·exact h
theorem zi5(v:List Tok)(hl:v.length≤1000000)(hd:yS v=false)(k:Nat)(hk:k≤v.length):zf Tryz.prog 154 [zi v,zO (zy v),vi k] (srV (yU v k)):=by
 by_cases hn:knd v k=12
 case neg=>exact zfZ v hl k hk hn
 obtain⟨hkl,hk12⟩:=jE hn (by decide)
 have h1:dlm v k ⟨#[42]⟩=false:=zcU (by omega)
 have h4:dlm v k ⟨#[46]⟩=false:=zcU (by omega)
 have h2:=eq_false (show ¬knd v k=2 by omega)
 have h3:=eq_false (show ¬knd v k=5 by omega)
 have e0:(0:Int)≤(k:Int):=by omega
 have e2:(k:Int)<(v.length:Int):=by omega
 have hg:=qz v k
 have hel:=XG hd
 have e3:=eq_true (show(k:Int)<((zy v).length:Int)by omega)
 have hgi:=qS (zy v) k
 by_cases ht:txt v k=⟨#[91]⟩
 ·have hE:=zcV hd hn ht
  obtain⟨e,he⟩:∃e:Nat,(zy v).getD k 0=e:=⟨((zy v).getD k 0).toNat,by omega⟩
  have ht':(v.getD k .zero).text=⟨#[91]⟩:=ht
  by_cases h5:e<v.length
  ·have hr:yU v k=match Xs ((v.take e).drop (k+1))with
    |some s=>⟨s,e+1,true⟩
    |none=>⟨⟨0,⟨#[]⟩,⟨#[]⟩⟩,e+1,false⟩:=by
    unfold yU;rw[h1,h4,if_neg (by simp),if_neg (by omega),if_neg (by omega),if_neg (by simp),if_pos ⟨hn,ht,by omega⟩,he];rfl
   rw[hr]
   rw[he]at hgi
   have hcut:List.take (e - (k+1)) (List.drop (k+1) (v.map Tok.enc))=((v.take e).drop (k+1)).map Tok.enc:=by rw[List.map_drop,List.map_take,List.drop_take]
   have hln:((v.take e).drop (k+1)).length≤1000000:=by simp;omega
   generalize(v.take e).drop (k+1)=u at*
   refine zf.of (Orc.cons ZZ (Orc.cons Za (Orc.cons Kp (Orc.nil _)))) J9 (by simp[Qk]) fun w0 own0=> ?_
   have hn:=eq_true hn;have ht':=eq_true ht'
   have e5:=eq_true (show(e:Int)<(v.length:Int)by omega)
   have t1:((k:Int)+1).toNat=k+1:=by omega
   have b1:=eq_true (show(k:Int)+1≤(e:Int)by omega)
   have b2:=eq_true (show(e:Int)≤(v.length:Int)by omega)
   have b0:=eq_true (show(0:Int)≤(k:Int)+1 by omega)
   have o1:=eq_true (show(k:Int)+1≤9223372036854775807 by omega)
   have o2:=eq_true (show -9223372036854775808≤(k:Int)+1 by omega)
   cases ha:Xs u with
   |none=>
    simp -implicitDefEqProofs only[Qk,srV,zi,zO,txt,zg,e0,e2,e3,e5,t1,b0,b1,b2,o1,o2,hgi,he,hcut,hln,ha,jy,Option.getD_none,Option.isSome_none,h1,h2,h3,h4,hn,ht',hg,Int.toNat_natCast,Smp.enc,Tok.enc,zz,List.length_map,ze,zc,za,go_sem,seval,reduceIte,reduceCtorEq]
    exact⟨by omega,rfl⟩
   |some s=>
    obtain⟨sk,st,sv⟩:=s
    simp -implicitDefEqProofs only[Qk,srV,zi,zO,txt,zg,e0,e2,e3,e5,t1,b0,b1,b2,o1,o2,hgi,he,hcut,hln,ha,jy,Option.getD_some,Option.isSome_some,h1,h2,h3,h4,hn,ht',hg,Int.toNat_natCast,Smp.enc,Tok.enc,zz,List.length_map,ze,zc,za,go_sem,seval,reduceIte,reduceCtorEq]
    exact⟨by omega,rfl⟩
  ·have hr:yU v k=⟨⟨0,⟨#[]⟩,⟨#[]⟩⟩,k,false⟩:=by unfold yU;rw[h1,h4,if_neg (by simp),if_neg (by omega),if_neg (by omega),if_neg (by simp),if_neg (fun hh=>h5 (by omega))]
   rw[hr]
   rw[he]at hgi
   refine zf.of (Orc.cons ZZ (Orc.cons Za (Orc.nil _))) J9 (by simp[Qk]) fun w0 own0=> ?_
   have hn:=eq_true hn;have ht':=eq_true ht'
   have e5:=eq_false (show ¬(e:Int)<(v.length:Int)by omega)
   simp -implicitDefEqProofs only[Qk,srV,zi,zO,txt,zg,e0,e2,e3,e5,hgi,he,h1,h2,h3,h4,hn,ht',hg,Int.toNat_natCast,Smp.enc,Tok.enc,zz,List.length_map,ze,zc,za,go_sem,seval,reduceIte,reduceCtorEq]
 ·have hr:yU v k=⟨⟨0,⟨#[]⟩,⟨#[]⟩⟩,k,false⟩:=by unfold yU;rw[h1,h4,if_neg (by simp),if_neg (by omega),if_neg (by omega),if_neg (by simp),if_neg (fun hh=>ht hh.2.1)]
  rw[hr]
  refine zf.of (Orc.cons ZZ (Orc.cons Za (Orc.nil _))) J9 (by simp[Qk]) fun w0 own0=> ?_
  have ht':¬(v.getD k .zero).text=⟨#[91]⟩:=ht
  have hn:=eq_true hn;have ht':=eq_false ht'
  simp -implicitDefEqProofs only[Qk,srV,zi,zO,txt,zg,e0,e2,e3,h1,h2,h3,h4,hn,ht',hg,Int.toNat_natCast,Smp.enc,Tok.enc,zz,ze,zc,za,go_sem,seval,reduceIte,reduceCtorEq]
theorem zdP{v:List Tok}(hd:yS v=false):zlo v:=fun k hk=>by
 unfold yU
 split
 ·rename_i h1;intro _;have:=zfp h1;dsimp only;omega
 split
 ·rename_i h1;intro _;have:=(jE h1 (by decide)).1;dsimp only;omega
 split
 ·rename_i h1;intro _;have:=(jE h1 (by decide)).1;dsimp only;omega
 split
 ·rename_i h1;intro _;have:=(jE h1.2 (by decide)).1;dsimp only;omega
 split
 ·rename_i h1
  have:=zcV hd h1.1 h1.2.1
  have:=h1.2.2
  split
  ·intro _;dsimp only;omega
  ·intro hh;cases hh
 ·intro hh;cases hh
theorem zno{v:List Tok}(hl:v.length≤1000000)(hd:yS v=false):Xm v:=⟨hl,fun k hk=>⟨zi5 v hl hd k hk,zdP hd k hk⟩⟩
theorem zmS{v:List Tok}(hv:v.length≤1000000):zln v:=zsg v hv fun hd=>zno (by have:=WL v;omega) hd
theorem zfP(l:List Tok)(h:l.length≤1000000):zf Tryz.prog 63 [zi l] (zfQ (psC l)):=
 ziO l h fun _ q hq=>zmS (by simp;omega)
def KI:Sum Tryz.prog:=⟨63,fun args=>args= [zi (zh (args.getD 0 .any))]∧((zh (args.getD 0 .any))).length≤1000000,fun args=>zfQ (psC (zh (args.getD 0 .any))),fun args h=>by
 have:=zfP (zh (args.getD 0 .any)) h.2;rwa [←h.1]at this,false⟩
theorem zkt:KI.f=63:=rfl
theorem zks(args:List V):KI.D args=(args= [zi (zh (args.getD 0 .any))]∧((zh (args.getD 0 .any))).length≤1000000):=rfl
theorem zb7:KI.flat=false:=rfl
theorem zku(args:List V):KI.r args=zfQ (psC (zh (args.getD 0 .any))):=rfl
attribute [go_sem] zkt zks zb7 zku
end Go.Proofs.YtjcmoedalneldaaGreat
end
section
namespace Go.Proofs.YtjcmoedalneldaaGreat
open Go.Sx
set_option linter.unusedSimpArgs false
set_option linter.unusedVariables false
set_option maxHeartbeats 8000000
set_option maxRecDepth 100000
structure PrS8 where
 n:Nat
 out:List Tok
 ver:Nat
 clk:Nat
end Go.Proofs.YtjcmoedalneldaaGreat
end
end
namespace Go.Proofs.YtjcmoedalneldaaGreat
open Go.Sx
set_option linter.unusedSimpArgs false
set_option linter.unusedVariables false
set_option maxHeartbeats 8000000
set_option maxRecDepth 100000
theorem zvF(L:List ByteArray)(u:ByteArray)(h:L.length≤1000000):∃S:Sum Tryz.prog,S.f=57∧S.flat=true∧S.D [.slc 1 (L.map fun s=>[vs s]),.c (.string u)]∧S.r [.slc 1 (L.map fun s=>[vs s]),.c (.string u)]=vi (ixS L u):=
 ⟨⟨57,fun args=>args= [QG L,vs u],fun _=>vi (ixS L u),fun args h'=>by rw[h'];exact zmq L u h,true⟩,rfl,rfl,rfl,rfl⟩
theorem zps(s:ByteArray)(h:s.size≤1000000):zf Tryz.prog 160 [vs s] (vi (whN s)):=by
 unfold whN
 generalize hs:XW s=u
 obtain⟨S,s1,s2,s3,s4⟩:=zvF (⟨#[]⟩::whs) u (by decide)
 refine zf.of (Orc.cons S (Orc.cons Yy (Orc.nil _))) zrb (by simp[zui]) fun w0 own0=> ?_
 generalize ixS (⟨#[]⟩::whs) u=r at*
 simp only[whs,List.map_cons,List.map_nil]at s3 s4
 simp only[zui,h,hs,s1,s2,s3,s4,go_sem,zb,seval,reduceIte,reduceCtorEq]
def zeH:Sum Tryz.prog:=⟨160,fun args=>args= [vs ((args.getD 0 .any).str)]∧(((args.getD 0 .any).str)).size≤1000000,fun args=>vi (whN ((args.getD 0 .any).str)),fun args h=>by
 have:=zps ((args.getD 0 .any).str) h.2;rwa [←h.1]at this,true⟩
theorem zs0:zeH.f=160:=rfl
theorem zsZ(args:List V):zeH.D args=(args= [vs ((args.getD 0 .any).str)]∧(((args.getD 0 .any).str)).size≤1000000):=rfl
theorem zgC:zeH.flat=true:=rfl
theorem zs1(args:List V):zeH.r args=vi (whN ((args.getD 0 .any).str)):=rfl
attribute [go_sem] zs0 zsZ zgC zs1
def itR(x:Itm×Bool):V:=.tup [.agg x.1.enc,vb x.2]
def okL(l:List Pa):Prop:=l.length≤1000001∧∀q∈l,kY q
theorem zE(S:Nat→Bool)(h:Heap)(cs:List V):res S h 11 (.agg cs)=(zx (res S h 10) cs).map .agg:=rfl
theorem zja(x:Itm)(l:List Pa)(h:okL l):zf Tryz.prog 133 [.agg x.enc,pas l] (itR (stV x l)):=by
 refine zf.of (Orc.cons WF (Orc.nil _)) zq0 (by simp[zlF]) fun w0 own0=> ?_
 match l,h with
 | [],h=>
   simp only[zlF,Itm.enc,pas,stV,itR,zE,go_sem,zb,seval,reduceIte,reduceCtorEq]
 |q:: [],h=>
  have hq:q.t.text.size≤1000000:=h.2 q (by simp)
  simp only[zlF,Itm.enc,pas,Pa.enc,stV,itR,hq,zE,go_sem,zb,seval,reduceIte,reduceCtorEq]
 |q::q2::r,h=>
  have hq:q.t.text.size≤1000000:=h.2 q (by simp)
  have hne':¬(((r.length+1+1:Nat):Int)=1):=by omega
  have hn0:¬(((r.length+1+1:Nat):Int)=0):=by omega
  have hnp:(0:Int)<((r.length+1+1:Nat):Int):=by omega
  simp only[zlF,Itm.enc,pas,Pa.enc,stV,itR,hq,hne',hn0,hnp,zE,go_sem,zb,seval,reduceIte,reduceCtorEq]
theorem zh8(x:Itm)(l:List Pa)(h:okL l):zf Tryz.prog 134 [.agg x.enc,pas l] (itR (chV x l)):=by
 refine zf.of (Orc.cons zeH (Orc.nil _)) zq1 (by simp[zlG]) fun w0 own0=> ?_
 match l,h with
 | [],h=>
   simp only[zlG,Itm.enc,pas,chV,itR,zE,go_sem,zb,seval,reduceIte,reduceCtorEq]
 |q:: [],h=>
  have hq:q.t.text.size≤1000000:=h.2 q (by simp)
  simp only[zlG,Itm.enc,pas,Pa.enc,chV,itR,hq,zE,go_sem,zb,seval,reduceIte,reduceCtorEq]
 |q::q2::r,h=>
  have hq:q.t.text.size≤1000000:=h.2 q (by simp)
  have hne':¬(((r.length+1+1:Nat):Int)=1):=by omega
  have hn0:¬(((r.length+1+1:Nat):Int)=0):=by omega
  have hnp:(0:Int)<((r.length+1+1:Nat):Int):=by omega
  simp only[zlG,Itm.enc,pas,Pa.enc,chV,itR,hq,hne',hn0,hnp,zE,go_sem,zb,seval,reduceIte,reduceCtorEq]
def WE:Sum Tryz.prog:=⟨133,fun args=>args= [.agg (Itm.enc (Xx (args.getD 0 .any))),pas (y8 (args.getD 1 .any))]∧okL (y8 (args.getD 1 .any)),fun args=>itR (stV (Xx (args.getD 0 .any)) (y8 (args.getD 1 .any))),fun args h=>by
 have:=zja (Xx (args.getD 0 .any)) (y8 (args.getD 1 .any)) h.2;rwa [←h.1]at this,false⟩
theorem zoT:WE.f=133:=rfl
theorem zoS(args:List V):WE.D args=(args= [.agg (Itm.enc (Xx (args.getD 0 .any))),pas (y8 (args.getD 1 .any))]∧okL (y8 (args.getD 1 .any))):=rfl
theorem zew:WE.flat=false:=rfl
theorem zoU(args:List V):WE.r args=itR (stV (Xx (args.getD 0 .any)) (y8 (args.getD 1 .any))):=rfl
attribute [go_sem] zoT zoS zew zoU
def Wq:Sum Tryz.prog:=⟨134,fun args=>args= [.agg (Itm.enc (Xx (args.getD 0 .any))),pas (y8 (args.getD 1 .any))]∧okL (y8 (args.getD 1 .any)),fun args=>itR (chV (Xx (args.getD 0 .any)) (y8 (args.getD 1 .any))),fun args h=>by
 have:=zh8 (Xx (args.getD 0 .any)) (y8 (args.getD 1 .any)) h.2;rwa [←h.1]at this,false⟩
theorem znJ:Wq.f=134:=rfl
theorem znI(args:List V):Wq.D args=(args= [.agg (Itm.enc (Xx (args.getD 0 .any))),pas (y8 (args.getD 1 .any))]∧okL (y8 (args.getD 1 .any))):=rfl
theorem zd2:Wq.flat=false:=rfl
theorem znK(args:List V):Wq.r args=itR (chV (Xx (args.getD 0 .any)) (y8 (args.getD 1 .any))):=rfl
attribute [go_sem] znJ znI zd2 znK
def XP(p:Pa):Itm×Bool:=
 if p.t.kind=6 then(⟨1,p.t.text,⟨#[]⟩,0,0⟩,true)
 else if p.t.kind=3∧Z3 p=true then
  match Xq p with
  | []=>(.zero,false)
  |a::l=>
   if ya a=true then
    if kF p=JL then stV ⟨2,⟨#[]⟩,a.t.text,0,0⟩ l
    else if kF p=KN then
     (match l with
     | []=>(.zero,false)
     |q::r=>if q.t.kind=6 then stV ⟨3,q.t.text,a.t.text,0,0⟩ r else(.zero,false))
    else if kF p=WN then chV ⟨4,⟨#[]⟩,a.t.text,0,0⟩ l
    else if kF p=JM then chV ⟨5,⟨#[]⟩,a.t.text,0,0⟩ l
    else if kF p=zeM then(⟨6,⟨#[]⟩,a.t.text,0,0⟩,decide (l= []))
    else(.zero,false)
   else(.zero,false)
 else(.zero,false)
theorem zcC{p:Pa}(h:Z3 p=true):∃a l,Xq p=a::l:=by
 unfold Z3 at h
 unfold Xq
 simp only[Bool.and_eq_true,decide_eq_true_eq]at h
 match hL:pl p.al with
 | []=>rw[hL]at h;simp at h
 |a::l=>exact⟨a,evn 1 l,rfl⟩
theorem Xr{p:Pa}(h:Z3 p=true):QK p= .tup [pas (Xq p),vb true]:=by
 have:Xo 0 (pl p.al)=true:=by unfold Z3 at h;simp only[Bool.and_eq_true]at h;exact h.2
 unfold QK Xq
 rw[if_pos this,h]
theorem zmQ{p:Pa}(h:okT p.al):okL (Xq p):=by
 refine⟨?_,fun q hq=>(Wf h q (zbf _ _ q hq)).1⟩
 have h1:=zhp (pl p.al) 0
 have h2:=zbv p.al
 have h3:=h.1
 unfold Xq;omega
theorem zds{a:Pa}{l:List Pa}(h:okL (a::l)):kY a∧okL l:=⟨h.2 a (by simp),by have:=h.1;simp at this;exact⟨by omega,fun q hq=>h.2 q (by simp[hq])⟩⟩
theorem zr1(p:Pa)(h:kY p)(h':okT p.al):zf Tryz.prog 105 [.agg p.enc] (itR (XP p)):=by
 refine zf.of (Orc.cons Ko (Orc.cons jX (Orc.cons Zc (Orc.cons WE (Orc.cons Wq (Orc.nil _)))))) zqO (by simp[QO]) fun w0 own0=> ?_
 have h1:=h'.1
 unfold XP
 by_cases k6:p.t.kind=6
 ·simp only[QO,Pa.enc,k6,itR,Itm.enc,zE,go_sem,zb,reduceCtorEq,reduceIte,Nat.reduceEqDiff,Nat.reduceAdd,Nat.reduceSub,Nat.reduceMul,Nat.reduceLT,Nat.reduceLeDiff,Nat.reduceBEq,Int.reduceEq,Int.reduceLT,Int.reduceLE,Int.reduceAdd,Int.reduceSub,Int.reduceNeg,Int.reduceToNat]
 rw[if_neg k6]
 cases hb:Z3 p with
 |false=>
  rw[if_neg (by simp)]
  obtain⟨L,hL⟩:∃L,QK p= .tup [.slc 4 L,vb false]:=⟨_,by unfold QK;rw[hb];rfl⟩
  simp only[QO,Pa.enc,k6,hL,h,h',zt,Pa.eta',itR,Itm.enc,Itm.zero,zE,ze,zc,za,go_sem,reduceCtorEq,reduceIte,Nat.reduceEqDiff,Nat.reduceAdd,Nat.reduceSub,Nat.reduceMul,Nat.reduceLT,Nat.reduceLeDiff,Nat.reduceBEq,Int.reduceEq,Int.reduceLT,Int.reduceLE,Int.reduceAdd,Int.reduceSub,Int.reduceNeg,Int.reduceToNat]
  omega
 |true=>
  by_cases k3:p.t.kind=3
  ·rw[if_pos ⟨k3,rfl⟩]
   have hV:=Xr hb
   have hK:=zmQ h'
   obtain⟨a,l,hal⟩:=zcC hb
   rw[hal]at hV hK
   obtain⟨ka,kl⟩:=zds hK
   rw[hal]
   dsimp only
   have h3:kY ⟨⟨3,p.t.text,p.t.n⟩,p.al⟩:=h
   have e3:(⟨⟨3,p.t.text,p.t.n⟩,p.al⟩:Pa)=p:=by rw[←k3]
   have hV':QK ⟨⟨3,p.t.text,p.t.n⟩,p.al⟩= .tup [.slc 4 (a.enc::l.map Pa.enc),vb true]:=by rw[e3];exact hV
   have h'3:okT p.al:=h'
   have h6:¬((3:Int)=6):=by omega
   have hla:decide (((l.length+1:Nat):Int)=1)=decide (l= []):=by
    cases l with
    |nil=>rfl
    |cons q r=>simp;omega
   have h1l:(1:Int)≤((l.length+1:Nat):Int):=by omega
   have htk:l.take (l.length+1 - 1)=l:=List.take_of_length_le (by omega)
   have h0l:(0:Int)<((l.length+1:Nat):Int):=by omega
   obtain⟨w,hw0⟩:∃w,kF p=w:=⟨_,rfl⟩
   have hw:kF ⟨⟨3,p.t.text,p.t.n⟩,p.al⟩=w:=by rw[e3];exact hw0
   rw[hw0]
   cases hn:ya a with
   |false=>
    simp only[Bool.false_eq_true,if_false]
    simp only[QO,Pa.enc,k3,h6,hV',h3,h'3,hw,h0l,h1l,htk,Int.le_refl,ka,zt,jl,zB,Pa.eta',Itm.eta',itR,Itm.enc,Itm.zero,pas,zE,List.map_cons,hn,ze,zc,za,go_sem,reduceCtorEq,reduceIte,Nat.reduceEqDiff,Nat.reduceAdd,Nat.reduceSub,Nat.reduceMul,Nat.reduceLT,Nat.reduceLeDiff,Nat.reduceBEq,Int.reduceEq,Int.reduceLT,Int.reduceLE,Int.reduceAdd,Int.reduceSub,Int.reduceNeg,Int.reduceToNat]
   |true=>
    simp only[if_true]
    unfold JL KN WN JM zeM
    by_cases c0:w=⟨#[99,111,117,110,116,101,114]⟩
    ·have d0:=eq_true c0
     rw[if_pos c0]
     simp only[QO,Pa.enc,k3,h6,hV',h3,h'3,hw,h0l,h1l,htk,Int.le_refl,ka,zt,jl,zB,Pa.eta',Itm.eta',itR,Itm.enc,Itm.zero,pas,zE,List.map_cons,d0,hn,kl,ze,zc,za,go_sem,reduceCtorEq,reduceIte,Nat.reduceEqDiff,Nat.reduceAdd,Nat.reduceSub,Nat.reduceMul,Nat.reduceLT,Nat.reduceLeDiff,Nat.reduceBEq,Int.reduceEq,Int.reduceLT,Int.reduceLE,Int.reduceAdd,Int.reduceSub,Int.reduceNeg,Int.reduceToNat]
    by_cases c1:w=⟨#[99,111,117,110,116,101,114,115]⟩
    ·have d1:=eq_true c1
     rw[if_neg c0,if_pos c1]
     cases l with
     |nil=>
      simp only[QO,Pa.enc,k3,h6,hV',h3,h'3,hw,h0l,h1l,htk,Int.le_refl,ka,zt,jl,zB,Pa.eta',Itm.eta',itR,Itm.enc,Itm.zero,pas,zE,List.map_cons,c0,d1,hn,ze,zc,za,go_sem,reduceCtorEq,reduceIte,Nat.reduceEqDiff,Nat.reduceAdd,Nat.reduceSub,Nat.reduceMul,Nat.reduceLT,Nat.reduceLeDiff,Nat.reduceBEq,Int.reduceEq,Int.reduceLT,Int.reduceLE,Int.reduceAdd,Int.reduceSub,Int.reduceNeg,Int.reduceToNat]
     |cons q r=>
      dsimp only
      obtain⟨kq,kr⟩:=zds kl
      have htk2:r.take (r.length+1+1 - 2)=r:=List.take_of_length_le (by omega)
      have hl0:(0:Int)<((r.length+1+1:Nat):Int):=by omega
      have hl2:¬(((r.length+1+1:Nat):Int)<2):=by omega
      have hl3:(1:Int)<((r.length+1+1:Nat):Int):=by omega
      have hl4:(2:Int)≤((r.length+1+1:Nat):Int):=by omega
      by_cases k6q:q.t.kind=6
      ·rw[if_pos k6q]
       simp only[QO,Pa.enc,k3,h6,hV',h3,h'3,hw,h0l,h1l,htk,Int.le_refl,ka,zt,jl,zB,Pa.eta',Itm.eta',itR,Itm.enc,Itm.zero,pas,zE,List.map_cons,c0,d1,hn,k6q,kr,kq,hl0,hl2,hl3,hl4,htk2,ze,zc,za,go_sem,reduceCtorEq,reduceIte,Nat.reduceEqDiff,Nat.reduceAdd,Nat.reduceSub,Nat.reduceMul,Nat.reduceLT,Nat.reduceLeDiff,Nat.reduceBEq,Int.reduceEq,Int.reduceLT,Int.reduceLE,Int.reduceAdd,Int.reduceSub,Int.reduceNeg,Int.reduceToNat]
      ·rw[if_neg k6q]
       simp only[QO,Pa.enc,k3,h6,hV',h3,h'3,hw,h0l,h1l,htk,Int.le_refl,ka,zt,jl,zB,Pa.eta',Itm.eta',itR,Itm.enc,Itm.zero,pas,zE,List.map_cons,c0,d1,hn,k6q,kr,kq,hl0,hl2,hl3,hl4,htk2,ze,zc,za,go_sem,reduceCtorEq,reduceIte,Nat.reduceEqDiff,Nat.reduceAdd,Nat.reduceSub,Nat.reduceMul,Nat.reduceLT,Nat.reduceLeDiff,Nat.reduceBEq,Int.reduceEq,Int.reduceLT,Int.reduceLE,Int.reduceAdd,Int.reduceSub,Int.reduceNeg,Int.reduceToNat]
    by_cases c2:w=⟨#[115,116,114,105,110,103]⟩
    ·have d2:=eq_true c2
     rw[if_neg c0,if_neg c1,if_pos c2]
     simp only[QO,Pa.enc,k3,h6,hV',h3,h'3,hw,h0l,h1l,htk,Int.le_refl,ka,zt,jl,zB,Pa.eta',Itm.eta',itR,Itm.enc,Itm.zero,pas,zE,List.map_cons,c0,c1,d2,hn,kl,ze,zc,za,go_sem,reduceCtorEq,reduceIte,Nat.reduceEqDiff,Nat.reduceAdd,Nat.reduceSub,Nat.reduceMul,Nat.reduceLT,Nat.reduceLeDiff,Nat.reduceBEq,Int.reduceEq,Int.reduceLT,Int.reduceLE,Int.reduceAdd,Int.reduceSub,Int.reduceNeg,Int.reduceToNat]
    by_cases c3:w=⟨#[101,108,101,109,101,110,116]⟩
    ·have d3:=eq_true c3
     rw[if_neg c0,if_neg c1,if_neg c2,if_pos c3]
     simp only[QO,Pa.enc,k3,h6,hV',h3,h'3,hw,h0l,h1l,htk,Int.le_refl,ka,zt,jl,zB,Pa.eta',Itm.eta',itR,Itm.enc,Itm.zero,pas,zE,List.map_cons,c0,c1,c2,d3,hn,kl,ze,zc,za,go_sem,reduceCtorEq,reduceIte,Nat.reduceEqDiff,Nat.reduceAdd,Nat.reduceSub,Nat.reduceMul,Nat.reduceLT,Nat.reduceLeDiff,Nat.reduceBEq,Int.reduceEq,Int.reduceLT,Int.reduceLE,Int.reduceAdd,Int.reduceSub,Int.reduceNeg,Int.reduceToNat]
    by_cases c4:w=⟨#[97,116,116,114]⟩
    ·have d4:=eq_true c4
     rw[if_neg c0,if_neg c1,if_neg c2,if_neg c3,if_pos c4]
     simp only[QO,Pa.enc,k3,h6,hV',h3,h'3,hw,h0l,h1l,htk,Int.le_refl,ka,zt,jl,zB,Pa.eta',Itm.eta',itR,Itm.enc,Itm.zero,pas,zE,List.map_cons,c0,c1,c2,c3,d4,hn,kl,hla,ze,zc,za,go_sem,reduceCtorEq,reduceIte,Nat.reduceEqDiff,Nat.reduceAdd,Nat.reduceSub,Nat.reduceMul,Nat.reduceLT,Nat.reduceLeDiff,Nat.reduceBEq,Int.reduceEq,Int.reduceLT,Int.reduceLE,Int.reduceAdd,Int.reduceSub,Int.reduceNeg,Int.reduceToNat]
    rw[if_neg c0,if_neg c1,if_neg c2,if_neg c3,if_neg c4]
    simp only[QO,Pa.enc,k3,h6,hV',h3,h'3,hw,h0l,h1l,htk,Int.le_refl,ka,zt,jl,zB,Pa.eta',Itm.eta',itR,Itm.enc,Itm.zero,pas,zE,List.map_cons,c0,c1,c2,c3,c4,hn,ze,zc,za,go_sem,reduceCtorEq,reduceIte,Nat.reduceEqDiff,Nat.reduceAdd,Nat.reduceSub,Nat.reduceMul,Nat.reduceLT,Nat.reduceLeDiff,Nat.reduceBEq,Int.reduceEq,Int.reduceLT,Int.reduceLE,Int.reduceAdd,Int.reduceSub,Int.reduceNeg,Int.reduceToNat]
  ·rw[if_neg (fun hh=>k3 hh.1)]
   obtain⟨a,l,hal⟩:=zcC hb
   have hV:=Xr hb
   rw[hal]at hV
   simp only[pas,List.map_cons]at hV
   simp only[QO,Pa.enc,k6,k3,hV,h,h',zt,Pa.eta',itR,Itm.enc,Itm.zero,zE,ze,zc,za,go_sem,reduceCtorEq,reduceIte,Nat.reduceEqDiff,Nat.reduceAdd,Nat.reduceSub,Nat.reduceMul,Nat.reduceLT,Nat.reduceLeDiff,Nat.reduceBEq,Int.reduceEq,Int.reduceLT,Int.reduceLE,Int.reduceAdd,Int.reduceSub,Int.reduceNeg,Int.reduceToNat]
structure AtS where
 S:Sum Tryz.prog
 hf:S.f=46
 hfl:S.flat=true
 hD:∀u,S.D [.slc 1 [[.c (.string ⟨#[102,105,114,115,116]⟩)],[.c (.string ⟨#[115,116,97,114,116]⟩)],[.c (.string ⟨#[108,97,115,116]⟩)],[.c (.string ⟨#[102,105,114,115,116,45,101,120,99,101,112,116]⟩)]],.c (.string u)]
 hr:∀u,S.r [.slc 1 [[.c (.string ⟨#[102,105,114,115,116]⟩)],[.c (.string ⟨#[115,116,97,114,116]⟩)],[.c (.string ⟨#[108,97,115,116]⟩)],[.c (.string ⟨#[102,105,114,115,116,45,101,120,99,101,112,116]⟩)]],.c (.string u)]=vi (ixS whs u)
structure TlE (e:Nat→V) (M:List Pa) (n:Int) (v:Nat):Prop where
 a:e 2= .ptr 1 1 0 0
 b:e 4= .ptr 2 2 0 0
 c:e 5= .slc 4 (M.map Pa.enc)
 d:e 7= .ptr 3 v 0 0
 f:e 9=vi n

def ziN(own:Bool)(p:Pa):Bool:=own&&decide (p.t.kind=3)&&decide (kF p=jY)&&decide ((pl p.al).length=0)
def zu8:Itm:=⟨6,⟨#[]⟩,⟨#[]⟩,0,0⟩
def itX(f:Pa→Itm×Bool)(own:Bool)(p:Pa):Itm×Bool:=if ziN own p=true then(zu8,true)else f p
def toO(x:Itm×Bool):Option Itm:=if x.2=true then some x.1 else none
def itO(own:Bool)(p:Pa):Option Itm:=toO (itX XP own p)
theorem zwV(own:Bool)(p:Pa):itO own p=toO (itX XP own p):=rfl
def itL(own:Bool):List Pa→Option (List Itm)
 | []=>some []
 |p::l=>match itO own p with|none=>none|some x=>(itL own l).map (x:: ·)
def zfz:Option (List Itm)→V
 |none=>.tup [zD,vb false]
 |some l=>.tup [Qx l,vb (decide (0<(l.length:Int)))]
def Qy(o:Option (List Itm)):V:=.tup [Qx (o.getD []),vb (decide (0<((o.getD []).length:Int)))]
theorem zmo(o:Option (List Itm)){f:FuncId}{args:List V}(h:zf Tryz.prog f args (zfz o)):zf Tryz.prog f args (Qy o):=by
 cases o with
 |some l=>exact h
 |none=>
  refine zf.rsub h fun F w v hp=> ?_
  cases hp with
  |tup cs _ hl hx=>
   refine .tup cs _ hl fun i hi=> ?_
   have:=hx i hi
   match i,hi with
   |0,_=>exact PRep.nilS 5 this
   |1,_=>exact this
def KG:Sum Tryz.prog:=⟨105,fun args=>args= [.agg (Pa.enc (dPa (args.getD 0 .any)))]∧kY (dPa (args.getD 0 .any))∧okT ((dPa (args.getD 0 .any))).al,fun args=>itR (XP (dPa (args.getD 0 .any))),fun args h=>by
 have:=zr1 (dPa (args.getD 0 .any)) h.2.1 h.2.2;rwa [←h.1]at this,false⟩
theorem zkb:KG.f=105:=rfl
theorem zka(args:List V):KG.D args=(args= [.agg (Pa.enc (dPa (args.getD 0 .any)))]∧kY (dPa (args.getD 0 .any))∧okT ((dPa (args.getD 0 .any))).al):=rfl
theorem zb1:KG.flat=false:=rfl
theorem zkc(args:List V):KG.r args=itR (XP (dPa (args.getD 0 .any))):=rfl
attribute [go_sem] zkb zka zb1 zkc
def JU(l:List Pa):Prop:=l.length≤1000001∧∀p∈l,kY p∧okT p.al
structure ItS where
 k:Nat
 out:List Itm
 ver:Nat
 clk:Nat
theorem zmn(own:Bool)(L:List Pa)(k:Nat)(h:k<L.length):itL own (L.drop k)=match itO own (L.getD k default)with|none=>none|some x=>(itL own (L.drop (k+1))).map (x:: ·):=by
 rw[Yr L k h];rfl
theorem Q8(L:List Pa)(own:Bool)(h:JU L):zf Tryz.prog 79 [pas L,vb own] (zfz (itL own L)):=by
 refine zf.of (Orc.cons KG (Orc.cons qx (Orc.cons Zc (Orc.nil _)))) zu0 (by simp[c79]) fun w0 own0=> ?_
 obtain⟨hl,hm⟩:=h
 generalize hR:itL own L=R
 simp only[c79,pas,go_sem,zb,seval,reduceIte,reduceCtorEq]
 refine zQ.lp (α:=ItS) (fun a=>[(1,vb own),(6,.ref 0 a.ver 0 a.out.length),(13,.slc 4 (L.map Pa.enc)),(14,vi L.length),(15,vi a.k)])
  (fun a=>⟨[⟨a.ver,5,a.out.map Itm.enc,false,[vi 0,vs ⟨#[]⟩,vs ⟨#[]⟩,vi 0,vi 0]⟩],a.clk⟩) (fun a=>a.k≤L.length∧a.out.length=a.k∧(itL own (L.drop a.k)).map (a.out++ ·)=R) (fun a=>L.length - a.k) ⟨0,[],0,1⟩
  ⟨Nat.zero_le _,rfl,by rw[←hR];simp only[List.drop_zero,List.nil_append];cases itL own L<;>rfl⟩ (St.nil 6 5 [vi 0,vs ⟨#[]⟩,vs ⟨#[]⟩,vi 0,vi 0] (by simp[zr]) (St.cut ?_ ?_ ?_)) fun a ha=> ?_
 ·simp[zu,zr,zv]
 ·simp[Heap.alloc]
 ·rfl
 obtain⟨k,out,ver,clk⟩:=a
 obtain⟨h2,h3,h4⟩:=ha
 simp only at h2 h3 h4
 by_cases hk:k=L.length
 ·subst hk
  rw[List.drop_length]at h4
  simp only[itL,Option.map_some,List.append_nil]at h4
  subst h4
  simp only[Int.lt_irrefl,zfz,Qx,List.take_length,jx,zdi,zdh,Nat.le_refl,go_sem,zb,seval,reduceIte,reduceCtorEq]
 ·have e1:(k:Int)<(L.length:Int):=by omega
  have e0:(0:Int)≤(k:Int):=by omega
  have hlt:k<L.length:=by omega
  rw[zmn own L k hlt,zwV]at h4
  have hg:=kV L k [vi 0,vs ⟨#[]⟩,vi 0,zD] hlt
  obtain⟨hx,hxa⟩:=hm (L.getD k default) (by rw[List.getD_eq_getElem?_getD,List.getElem?_eq_getElem hlt];exact List.getElem_mem _)
  generalize L.getD k default=x at*
  have hxl:=hxa.1
  have hot:out.take out.length=out:=List.take_length
  unfold itX at h4
  generalize hy:XP x=y at h4
  obtain⟨⟨yk,yt,yn,ys,yw⟩,yb⟩:=y
  have fin:∀z:Itm,toO (z,true)=some z:=fun z=>rfl
  have finN:∀z:Itm,toO (z,false)=none:=fun z=>rfl
  cases own with
  |false=>
   rw[if_neg (by simp[ziN])]at h4
   cases yb with
   |false=>
    simp only[finN]at h4
    subst h4
    simp only[zfz,e0,e1,hg,Pa.enc,Itm.enc,zt,Pa.eta',hx,hxa,hxl,hy,hot,plV,zi,zg,itR,zE,ze,zc,za,go_sem,seval,reduceIte,reduceCtorEq]
   |true=>
    simp only[fin]at h4
    simp only[e0,e1,hg,Pa.enc,Itm.enc,zt,Pa.eta',hx,hxa,hxl,hy,hot,plV,zi,zg,itR,zE,ze,zc,za,go_sem,seval,reduceIte,reduceCtorEq]
    refine⟨⟨by omega,by omega,by omega⟩,by omega,⟨k+1,out++ [⟨yk,yt,yn,ys,yw⟩],_,_⟩,⟨by dsimp only;omega,by simp;omega,?_⟩,by dsimp only;omega,⟨⟨rfl,by simp⟩,by dsimp only;omega⟩,⟨rfl,by simp[Itm.enc]⟩,rfl⟩
    rw[←h4];cases itL false (L.drop (k+1))<;>simp
  |true=>
   by_cases k3:x.t.kind=3
   ·have k3t:=eq_true k3
    by_cases kc:kF x=jY
    ·have kct:=eq_true kc
     unfold jY at kct
     by_cases kl:(pl x.al).length=0
     ·rw[if_pos (by simp[ziN,k3,kc,kl])]at h4
      have klt:(((pl x.al).length:Int)=0)=True:=eq_true (by omega)
      simp only[fin]at h4
      simp only[k3t,kct,klt,e0,e1,hg,Pa.enc,Itm.enc,zt,Pa.eta',hx,hxa,hxl,hy,hot,plV,zi,zg,itR,zE,ze,zc,za,go_sem,seval,reduceIte,reduceCtorEq]
      refine⟨⟨by omega,by omega,by omega⟩,by omega,⟨k+1,out++ [zu8],_,_⟩,⟨by dsimp only;omega,by simp;omega,?_⟩,by dsimp only;omega,⟨⟨rfl,by simp⟩,by dsimp only;omega⟩,⟨rfl,by simp[zu8,Itm.enc]⟩,rfl⟩
      rw[←h4];cases itL true (L.drop (k+1))<;>simp
     ·rw[if_neg (by simp[ziN,kl])]at h4
      have klt:(((pl x.al).length:Int)=0)=False:=eq_false (by omega)
      cases yb with
      |false=>
       simp only[finN]at h4
       subst h4
       simp only[zfz,k3t,kct,klt,e0,e1,hg,Pa.enc,Itm.enc,zt,Pa.eta',hx,hxa,hxl,hy,hot,plV,zi,zg,itR,zE,ze,zc,za,go_sem,seval,reduceIte,reduceCtorEq]
      |true=>
       simp only[fin]at h4
       simp only[k3t,kct,klt,e0,e1,hg,Pa.enc,Itm.enc,zt,Pa.eta',hx,hxa,hxl,hy,hot,plV,zi,zg,itR,zE,ze,zc,za,go_sem,seval,reduceIte,reduceCtorEq]
       refine⟨⟨by omega,by omega,by omega⟩,by omega,⟨k+1,out++ [⟨yk,yt,yn,ys,yw⟩],_,_⟩,⟨by dsimp only;omega,by simp;omega,?_⟩,by dsimp only;omega,⟨⟨rfl,by simp⟩,by dsimp only;omega⟩,⟨rfl,by simp[Itm.enc]⟩,rfl⟩
       rw[←h4];cases itL true (L.drop (k+1))<;>simp
    ·rw[if_neg (by simp[ziN,kc])]at h4
     have kct:=eq_false kc
     unfold jY at kct
     cases yb with
     |false=>
      simp only[finN]at h4
      subst h4
      simp only[zfz,k3t,kct,e0,e1,hg,Pa.enc,Itm.enc,zt,Pa.eta',hx,hxa,hxl,hy,hot,plV,zi,zg,itR,zE,ze,zc,za,go_sem,seval,reduceIte,reduceCtorEq]
     |true=>
      simp only[fin]at h4
      simp only[k3t,kct,e0,e1,hg,Pa.enc,Itm.enc,zt,Pa.eta',hx,hxa,hxl,hy,hot,plV,zi,zg,itR,zE,ze,zc,za,go_sem,seval,reduceIte,reduceCtorEq]
      refine⟨⟨by omega,by omega,by omega⟩,by omega,⟨k+1,out++ [⟨yk,yt,yn,ys,yw⟩],_,_⟩,⟨by dsimp only;omega,by simp;omega,?_⟩,by dsimp only;omega,⟨⟨rfl,by simp⟩,by dsimp only;omega⟩,⟨rfl,by simp[Itm.enc]⟩,rfl⟩
      rw[←h4];cases itL true (L.drop (k+1))<;>simp
   ·rw[if_neg (by simp[ziN,k3])]at h4
    have k3t:=eq_false k3
    cases yb with
    |false=>
     simp only[finN]at h4
     subst h4
     simp only[zfz,k3t,e0,e1,hg,Pa.enc,Itm.enc,zt,Pa.eta',hx,hxa,hxl,hy,hot,plV,zi,zg,itR,zE,ze,zc,za,go_sem,seval,reduceIte,reduceCtorEq]
    |true=>
     simp only[fin]at h4
     simp only[k3t,e0,e1,hg,Pa.enc,Itm.enc,zt,Pa.eta',hx,hxa,hxl,hy,hot,plV,zi,zg,itR,zE,ze,zc,za,go_sem,seval,reduceIte,reduceCtorEq]
     refine⟨⟨by omega,by omega,by omega⟩,by omega,⟨k+1,out++ [⟨yk,yt,yn,ys,yw⟩],_,_⟩,⟨by dsimp only;omega,by simp;omega,?_⟩,by dsimp only;omega,⟨⟨rfl,by simp⟩,by dsimp only;omega⟩,⟨rfl,by simp[Itm.enc]⟩,rfl⟩
     rw[←h4];cases itL true (L.drop (k+1))<;>simp
def QH:Sum Tryz.prog:=⟨79,fun args=>args= [pas (y8 (args.getD 0 .any)),vb (V.boo (args.getD 1 .any))]∧JU (y8 (args.getD 0 .any)),fun args=>Qy (itL (V.boo (args.getD 1 .any)) (y8 (args.getD 0 .any))),fun args h=>by
 have:=zmo _ (Q8 (y8 (args.getD 0 .any)) (V.boo (args.getD 1 .any)) h.2);rwa [←h.1]at this,false⟩
theorem zn1:QH.f=79:=rfl
theorem zn0(args:List V):QH.D args=(args= [pas (y8 (args.getD 0 .any)),vb (V.boo (args.getD 1 .any))]∧JU (y8 (args.getD 0 .any))):=rfl
theorem zed:QH.flat=false:=rfl
theorem zn2(args:List V):QH.r args=Qy (itL (V.boo (args.getD 1 .any)) (y8 (args.getD 0 .any))):=rfl
attribute [go_sem] zn1 zn0 zed zn2

structure Ct where
 l:List Itm
 none:Bool
 is:Bool
theorem zse{l:List Tok}(h:okT l):JU (pl l):=⟨by have:=zbv l;have:=h.1;omega,Wf h⟩
def JQ(p:Pa):Bool:=decide (p.t.kind=16)
theorem zwK(p:Pa):zf Tryz.prog 78 [.agg p.enc] (vb (JQ p)):=by
 refine zf.of (Orc.nil _) zuZ (by simp[c78]) fun w0 own0=> ?_
 simp only[c78,Pa.enc,JQ,go_sem,zb,reduceCtorEq,reduceIte,Nat.reduceEqDiff,Nat.reduceAdd,Nat.reduceSub,Nat.reduceMul,Nat.reduceLT,Nat.reduceLeDiff,Nat.reduceBEq,Int.reduceEq,Int.reduceLT,Int.reduceLE,Int.reduceAdd,Int.reduceSub,Int.reduceNeg,Int.reduceToNat]
def zd3:Sum Tryz.prog:=⟨78,fun args=>args= [.agg (Pa.enc (dPa (args.getD 0 .any)))],fun args=>vb (JQ (dPa (args.getD 0 .any))),fun args h=>by
 have:=zwK (dPa (args.getD 0 .any));rwa [←h]at this,true⟩
theorem zsL:zd3.f=78:=rfl
theorem zsK(args:List V):zd3.D args=(args= [.agg (Pa.enc (dPa (args.getD 0 .any)))]):=rfl
theorem zgc:zd3.flat=true:=rfl
theorem zsM(args:List V):zd3.r args=vb (JQ (dPa (args.getD 0 .any))):=rfl
attribute [go_sem] zsL zsK zgc zsM
def zfA(L:List Pa):Int:=fst (fun i=>JQ (L.getD i default)) (L.length - 0) 0
theorem zr2(L:List Pa)(hl:L.length≤1000001):zf Tryz.prog 77 [pas L,.fn 78 []] (vi (zfA L)):=by
 refine zf.of (Orc.cons zd3 (Orc.nil _)) zuY (by simp[c77]) fun w0 own0=> ?_
 simp only[c77,pas,go_sem,zb,reduceCtorEq,reduceIte,Nat.reduceEqDiff,Nat.reduceAdd,Nat.reduceSub,Nat.reduceMul,Nat.reduceLT,Nat.reduceLeDiff,Nat.reduceBEq,Int.reduceEq,Int.reduceLT,Int.reduceLE,Int.reduceAdd,Int.reduceSub,Int.reduceNeg,Int.reduceToNat]
 refine zQ.lp (α:=Nat) (fun k=>[(0,.slc 4 (L.map Pa.enc)),(1,.fn 78 []),(7,vi L.length),(8,vi k)]) (fun _=>⟨[],0⟩)
  (fun k=>k≤L.length∧fst (fun i=>JQ (L.getD i default)) (L.length - k) k=zfA L) (fun k=>L.length - k) 0 ⟨Nat.zero_le _,rfl⟩ (St.mk (by simp[zu,zr,zv])) fun k hk=> ?_
 obtain⟨h1,h2⟩:=hk
 by_cases hkl:k=L.length
 ·subst hkl
  rw[ZQ]at h2
  simp only[Int.lt_irrefl,←h2,go_sem,zb,reduceCtorEq,reduceIte,Nat.reduceEqDiff,Nat.reduceAdd,Nat.reduceSub,Nat.reduceMul,Nat.reduceLT,Nat.reduceLeDiff,Nat.reduceBEq,Int.reduceEq,Int.reduceLT,Int.reduceLE,Int.reduceAdd,Int.reduceSub,Int.reduceNeg,Int.reduceToNat]
 ·have e1:(k:Int)<(L.length:Int):=by omega
  have e0:(0:Int)≤(k:Int):=by omega
  have hlt:k<L.length:=by omega
  rw[jD _ _ _ hlt]at h2
  have hg:=kV L k [vi 0,vs ⟨#[]⟩,vi 0,zD] hlt
  generalize L.getD k default=x at*
  simp only[e0,e1,hg,Pa.enc,zt,Pa.eta',go_sem,zb,reduceCtorEq,reduceIte,Nat.reduceEqDiff,Nat.reduceAdd,Nat.reduceSub,Nat.reduceMul,Nat.reduceLT,Nat.reduceLeDiff,Nat.reduceBEq,Int.reduceEq,Int.reduceLT,Int.reduceLE,Int.reduceAdd,Int.reduceSub,Int.reduceNeg,Int.reduceToNat]
  cases hc:JQ x with
  |true=>simp only[hc,if_true]at h2;simp[h2]
  |false=>
   simp only[hc,Bool.false_eq_true,if_false]at h2
   simp
   exact⟨by omega,k+1,⟨by omega,h2⟩,by omega,by omega⟩
def ZY:Sum Tryz.prog:=⟨77,fun args=>args= [pas (y8 (args.getD 0 .any)),.fn 78 []]∧((y8 (args.getD 0 .any))).length≤1000001,fun args=>vi (zfA (y8 (args.getD 0 .any))),fun args h=>by
 have:=zr2 (y8 (args.getD 0 .any)) h.2;rwa [←h.1]at this,true⟩
theorem zke:ZY.f=77:=rfl
theorem zkd(args:List V):ZY.D args=(args= [pas (y8 (args.getD 0 .any)),.fn 78 []]∧((y8 (args.getD 0 .any))).length≤1000001):=rfl
theorem zb2:ZY.flat=true:=rfl
theorem zkf(args:List V):ZY.r args=vi (zfA (y8 (args.getD 0 .any))):=rfl
attribute [go_sem] zke zkd zb2 zkf
def Q1(cur:List Pa):Option Stp:=match cur with
 | []=>none
 |a::r=>if ya a=true then(match itL true r with|some (x::xs)=>some ⟨a.t.text,0,x::xs⟩|_=>none)else none
def ZX:List Pa→List Pa→Option (List Stp)
 |cur,[]=>(Q1 cur).map fun s=>[s]
 |cur,p::l=>if JQ p=true then(match Q1 cur with|none=>none|some s=>(ZX [] l).map (s:: ·))else ZX (cur++ [p]) l
theorem QF:∀(a cur l:List Pa),(∀p∈a,JQ p=false)→ZX cur (a++l)=ZX (cur++a) l
 | [],cur,l,_=>by simp
 |p::a,cur,l,h=>by
  rw[List.cons_append,ZX,if_neg (by rw[h p (by simp)];simp),QF a _ l (fun q hq=>h q (by simp[hq]))]
  simp
def stO(l:List Tok):Option (List Stp):=if ptB l=true then(if isNone (pl l)=true then some []else ZX [] (pl l))else none
def stR:Option (List Stp)→V
 |none=>.tup [zD,vb false]
 |some l=>.tup [Kl l,vb true]
def zi6(o:Option (List Stp)):V:=.tup [Kl (o.getD []),vb o.isSome]
theorem zsF(o:Option (List Stp)){f:FuncId}{args:List V}(h:zf Tryz.prog f args (stR o)):zf Tryz.prog f args (zi6 o):=by
 cases o with
 |none=>exact zf.rsub h (ZG false)
 |some l=>exact h
theorem QB(S:Nat→Bool)(h:Heap):∀l:List Stp,zx (zx (res S h 11)) (l.map Stp.enc)=some (l.map Stp.enc)
 | []=>rfl
 |p::l=>by
  have e:zx (res S h 11) p.enc=some p.enc:=rfl
  simp only[List.map_cons,zx,QB S h l,e]
theorem QA(S:Nat→Bool)(h:Heap):∀l:List Stp,zx (zx (res S h 10)) (l.map Stp.enc)=some (l.map Stp.enc)
 | []=>rfl
 |p::l=>by
  have e:zx (res S h 10) p.enc=some p.enc:=rfl
  simp only[List.map_cons,zx,QA S h l,e]
theorem zfy{L:List Pa}(h:isNone L=true):∃p,L= [p]∧qh p ⟨#[110,111,110,101]⟩=true:=by
 unfold isNone at h
 split at h
 ·exact⟨_,rfl,h⟩
 ·cases h
theorem XQ(L:List Pa):(zfA L= -1∧ZX [] L=(Q1 L).map fun s=>[s])∨∃m:Nat,zfA L=m∧m<L.length∧ZX [] L=(match Q1 (L.take m)with|none=>none|some s=>(ZX [] (L.drop (m+1))).map (s:: ·)):=by
 unfold zfA
 have hg:∀(a:List Pa),(∀i,i<a.length→JQ (a.getD i default)=false)→∀p∈a,JQ p=false:=fun a h p hp=>by
  obtain⟨i,hi,rfl⟩:=List.getElem_of_mem hp
  have:=h i hi
  rwa [List.getD_eq_getElem?_getD,List.getElem?_eq_getElem hi]at this
 rcases Q3 (fun i=>JQ (L.getD i default)) (L.length - 0) 0 with⟨h1,h2⟩|⟨m,h1,h2,h3,h4,h5⟩
 ·refine .inl ⟨h1,?_⟩
  have:=QF L [] [] (hg L fun i hi=>h2 i (by omega) (by omega))
  rw[List.append_nil,List.nil_append]at this
  rw[this];rfl
 ·have hm:m<L.length:=by omega
  refine .inr ⟨m,h1,hm,?_⟩
  have e:L=L.take m++L.getD m default::L.drop (m+1):=by
   rw[←Yr L m hm,List.take_append_drop]
  have h6:=QF (L.take m) [] (L.getD m default::L.drop (m+1)) (hg _ fun i hi=>by
   rw[List.length_take]at hi
   have:=h5 i (by omega) (by omega)
   rw[List.getD_eq_getElem?_getD,List.getElem?_take,if_pos (by omega),←List.getD_eq_getElem?_getD];exact this)
  rw[←e,List.nil_append]at h6
  rw[h6,ZX,if_pos h4]
structure SrS where
 L:List Pa
 out:List Stp
 ver:Nat
 clk:Nat
theorem YN{a:Pa}{r:List Pa}{x:Itm}{xs:List Itm}(h:ya a=true)(hI:itL true r=some (x::xs)):Q1 (a::r)=some ⟨a.t.text,0,x::xs⟩:=by unfold Q1;simp only[h,if_true,hI]
theorem Xc{a:Pa}{r:List Pa}(h:ya a=false):Q1 (a::r)=none:=by unfold Q1;simp only[h,Bool.false_eq_true,if_false]
theorem jV{a:Pa}{r:List Pa}(hI:itL true r=none∨itL true r=some []):Q1 (a::r)=none:=by
 unfold Q1
 rcases hI with hI|hI<;>simp only[hI,ite_self]
theorem zf6(l:List Tok)(h:okT l):zf Tryz.prog 43 [zi l] (zi6 (stO l)):=by
 have h1:=h.1
 have hP:=zse h
 have hfb:=@zdw l
 unfold stO
 generalize hL:pl l=L0 at*
 cases hb:ptB l with
 |false=>
  have hz:=hfb hb
  subst hz
  rw[if_neg (by simp)]
  refine zf.rsub ?_ (ZG false)
  refine zf.of (Orc.cons qx (Orc.cons kL (Orc.cons ZY (Orc.cons jX (Orc.cons QH (Orc.nil _)))))) zfj (by simp[c43]) fun w0 own0=> ?_
  simp only[c43,zi,zg,h1,plV,hL,hb,List.map_nil,ze,zc,za,go_sem,reduceCtorEq,reduceIte,Nat.reduceEqDiff,Nat.reduceAdd,Nat.reduceSub,Nat.reduceMul,Nat.reduceLT,Nat.reduceLeDiff,Nat.reduceBEq,Int.reduceEq,Int.reduceLT,Int.reduceLE,Int.reduceAdd,Int.reduceSub,Int.reduceNeg,Int.reduceToNat]
  refine zQ.lp (α:=Nat) (fun k=>[(5,vb false)]) (fun _=>⟨[],0⟩) (fun k=>True) (fun k=>0) 0 trivial (St.mk (by simp[zu,zr])) fun k hk=> ?_
  simp only[ze,zc,za,go_sem,reduceCtorEq,reduceIte,Nat.reduceEqDiff,Nat.reduceAdd,Nat.reduceSub,Nat.reduceMul,Nat.reduceLT,Nat.reduceLeDiff,Nat.reduceBEq,Int.reduceEq,Int.reduceLT,Int.reduceLE,Int.reduceAdd,Int.reduceSub,Int.reduceNeg,Int.reduceToNat]
 |true=>
 rw[if_pos rfl]
 by_cases hn:isNone L0=true
 ·rw[if_pos hn]
  obtain⟨p,rfl,hi⟩:=zfy hn
  have hp:=(hP.2 p (by simp)).1
  refine zf.rsub ?_ (ZG true)
  refine zf.of (Orc.cons qx (Orc.cons kL (Orc.cons ZY (Orc.cons jX (Orc.cons QH (Orc.nil _)))))) zfj (by simp[c43]) fun w0 own0=> ?_
  simp only[c43,zi,zg,h1,plV,hL,hb,hi,hp,Pa.enc,zt,Pa.eta',List.map_cons,List.map_nil,ze,zc,za,go_sem,reduceCtorEq,reduceIte,Nat.reduceEqDiff,Nat.reduceAdd,Nat.reduceSub,Nat.reduceMul,Nat.reduceLT,Nat.reduceLeDiff,Nat.reduceBEq,Int.reduceEq,Int.reduceLT,Int.reduceLE,Int.reduceAdd,Int.reduceSub,Int.reduceNeg,Int.reduceToNat]
 rw[if_neg hn]
 refine zsF _ ?_
 generalize hR:ZX [] L0=R
 refine zf.of (Orc.cons qx (Orc.cons kL (Orc.cons ZY (Orc.cons jX (Orc.cons QH (Orc.nil _)))))) zfj (by simp[c43]) fun w0 own0=> ?_
 have lp:∀(e:Nat→V)(Q:z6),e 4= .slc 4 (L0.map Pa.enc)→e 5=vb true→e 6=zD→(∀e' h',(e' 2=zD∧e' 3=vb false∧R=none)→Q .ret e' h')→True:=fun _ _ _ _ _ _=>trivial
 clear lp
 by_cases hl1:∃p,L0= [p]
 ·obtain⟨p,rfl⟩:=hl1
  have hp:=(hP.2 p (by simp)).1
  have hi:qh p ⟨#[110,111,110,101]⟩=false:=by
   cases hh:qh p ⟨#[110,111,110,101]⟩with
   |false=>rfl
   |true=>exact absurd hh (by simpa[isNone,zmN]using hn)
  simp only[c43,zi,zg,h1,plV,hL,hb,hi,hp,Pa.enc,zt,Pa.eta',List.map_cons,List.map_nil,ze,zc,za,go_sem,reduceCtorEq,reduceIte,Nat.reduceEqDiff,Nat.reduceAdd,Nat.reduceSub,Nat.reduceMul,Nat.reduceLT,Nat.reduceLeDiff,Nat.reduceBEq,Int.reduceEq,Int.reduceLT,Int.reduceLE,Int.reduceAdd,Int.reduceSub,Int.reduceNeg,Int.reduceToNat]
  refine zQ.lp (α:=SrS) (fun a=>[(4,.slc 4 (a.L.map Pa.enc)),(5,vb true),(6,.ref 0 a.ver 0 a.out.length)])
   (fun a=>⟨[⟨a.ver,3,a.out.map Stp.enc,false,[vs ⟨#[]⟩,vi 0,zD]⟩],a.clk⟩) (fun a=>JU a.L∧a.out.length+a.L.length≤1000001∧(ZX [] a.L).map (a.out++ ·)=R) (fun a=>a.L.length) ⟨[p],[],0,1⟩
   ⟨hP,by simp,by rw[←hR];cases ZX [] [p]<;>rfl⟩ (St.nil 6 3 [vs ⟨#[]⟩,vi 0,zD] (by simp[zr]) (St.cut ?_ ?_ ?_)) fun a ha=> ?_
  ·simp[zu,zr,zv,Pa.enc]
  ·simp[Heap.alloc]
  ·rfl
  obtain⟨L,out,ver,clk⟩:=a
  obtain⟨hPL,hlen,h4⟩:=ha
  simp only at hPL hlen h4
  have hot:out.take out.length=out:=List.take_length
  have hL1:=hPL.1
  have key:∀(one:List Pa)(e:Int),(one= []→ZX [] L=none)→True:=fun _ _ _=>trivial
  clear key
  rcases XQ L with⟨hix,hst⟩|⟨m,hix,hm,hst⟩
  ·rw[hst]at h4
   have hone:=hPL
   obtain⟨one,hO⟩:∃one,L=one:=⟨_,rfl⟩
   subst hO
   match L,hone,h4,hix,hL1,hlen,hst,hPL with
   | [],hone,h4,hix,hL1,hlen,hst,hPL=>
     simp only[Q1,Option.map_none]at h4
     subst h4
     have hd0:y8 (.slc 4 [])= []:=rfl
     simp only[hix,hL1,pas,zB,V.boo_c,hd0,stR,List.map_nil,List.length_nil,Nat.zero_le,Int.lt_irrefl,ze,zc,za,go_sem,reduceCtorEq,reduceIte,Nat.reduceEqDiff,Nat.reduceAdd,Nat.reduceSub,Nat.reduceMul,Nat.reduceLT,Nat.reduceLeDiff,Nat.reduceBEq,Int.reduceEq,Int.reduceLT,Int.reduceLE,Int.reduceAdd,Int.reduceSub,Int.reduceNeg,Int.reduceToNat]
   |x::r,hone,h4,hix,hL1,hlen,hst,hPL=>
    obtain⟨kx,kr⟩:(kY x∧okT x.al)∧JU r:=⟨hone.2 x (by simp),by have:=hone.1;simp at this;omega,fun p hp=>hone.2 p (by simp[hp])⟩
    have hx0:=kx.1
    have hrl:r.length≤1000001:=kr.1
    have hl0:(((r.length+1:Nat):Int)=0)=False:=eq_false (by omega)
    have hlp:(0:Int)<((r.length+1:Nat):Int):=by omega
    have hl1:(1:Int)≤((r.length+1:Nat):Int):=by omega
    have htr:r.take (r.length+1 - 1)=r:=List.take_of_length_le (by omega)
    have hpe:y8 (.slc 4 ([vi x.t.kind,vs x.t.text,vi x.t.n,.slc 3 (x.al.map Tok.enc)]::r.map Pa.enc))=x::r:=zB 4 (x::r)
    have hrl1:r.length+1≤1000001:=hone.1
    cases hn2:ya x with
    |false=>
     rw[Xc hn2]at h4
     simp only[Option.map_none]at h4
     subst h4
     simp only[hix,hL1,pas,zB,V.boo_c,hpe,hrl1,hl0,hlp,hl1,htr,Int.le_refl,hx0,kr,List.map_cons,List.length_cons,Pa.enc,zt,Pa.eta',hn2,stR,ze,zc,za,go_sem,reduceCtorEq,reduceIte,Nat.reduceEqDiff,Nat.reduceAdd,Nat.reduceSub,Nat.reduceMul,Nat.reduceLT,Nat.reduceLeDiff,Nat.reduceBEq,Int.reduceEq,Int.reduceLT,Int.reduceLE,Int.reduceAdd,Int.reduceSub,Int.reduceNeg,Int.reduceToNat]
    |true=>
     match hI:itL true r with
     |none=>
      rw[jV (.inl hI)]at h4
      simp only[Option.map_none]at h4
      subst h4
      simp only[hix,hL1,pas,zB,V.boo_c,hpe,hrl1,hl0,hlp,hl1,htr,Int.le_refl,hx0,kr,List.map_cons,List.length_cons,Pa.enc,zt,Pa.eta',hn2,hI,Qy,Qx,stR,Option.getD_none,Option.getD_some,List.length_nil,List.map_nil,Int.lt_irrefl,ze,zc,za,go_sem,reduceCtorEq,reduceIte,Nat.reduceEqDiff,Nat.reduceAdd,Nat.reduceSub,Nat.reduceMul,Nat.reduceLT,Nat.reduceLeDiff,Nat.reduceBEq,Int.reduceEq,Int.reduceLT,Int.reduceLE,Int.reduceAdd,Int.reduceSub,Int.reduceNeg,Int.reduceToNat]
     |some []=>
      rw[jV (.inr hI)]at h4
      simp only[Option.map_none]at h4
      subst h4
      simp only[hix,hL1,pas,zB,V.boo_c,hpe,hrl1,hl0,hlp,hl1,htr,Int.le_refl,hx0,kr,List.map_cons,List.length_cons,Pa.enc,zt,Pa.eta',hn2,hI,Qy,Qx,stR,Option.getD_none,Option.getD_some,List.length_nil,List.map_nil,Int.lt_irrefl,ze,zc,za,go_sem,reduceCtorEq,reduceIte,Nat.reduceEqDiff,Nat.reduceAdd,Nat.reduceSub,Nat.reduceMul,Nat.reduceLT,Nat.reduceLeDiff,Nat.reduceBEq,Int.reduceEq,Int.reduceLT,Int.reduceLE,Int.reduceAdd,Int.reduceSub,Int.reduceNeg,Int.reduceToNat]
     |some (y::ys)=>
      rw[YN hn2 hI]at h4
      have hap:List.map Stp.enc out++ [[vs x.t.text,vi 0,.slc 5 (y.enc::List.map Itm.enc ys)]]=List.map Stp.enc (out++ [(⟨x.t.text,0,y::ys⟩:Stp)]):=by simp[Stp.enc]
      have htS:List.take (out.length+1) (out++ [(⟨x.t.text,0,y::ys⟩:Stp)])=out++ [(⟨x.t.text,0,y::ys⟩:Stp)]:=List.take_of_length_le (by simp)
      have hlS:(out++ [(⟨x.t.text,0,y::ys⟩:Stp)]).length=out.length+1:=by simp
      have hyp:(0:Int)<((ys.length+1:Nat):Int):=by omega
      simp only[Option.map_some]at h4
      subst h4
      simp only[hix,hL1,pas,zB,V.boo_c,hpe,hrl1,hl0,hlp,hl1,htr,Int.le_refl,hx0,kr,List.map_cons,List.length_cons,Pa.enc,zt,Pa.eta',hn2,hI,hyp,hot,hap,htS,hlS,QA,QB,Nat.le_refl,Qy,Qx,stR,Kl,Option.getD_some,ze,zc,za,go_sem,reduceCtorEq,reduceIte,Nat.reduceEqDiff,Nat.reduceAdd,Nat.reduceSub,Nat.reduceMul,Nat.reduceLT,Nat.reduceLeDiff,Nat.reduceBEq,Int.reduceEq,Int.reduceLT,Int.reduceLE,Int.reduceAdd,Int.reduceSub,Int.reduceNeg,Int.reduceToNat]
      omega
  ·rw[hst]at h4
   have em1:(0:Int)≤(m:Int):=by omega
   have em2:(m:Int)≤(L.length:Int):=by omega
   have emn:¬(m:Int)<0:=by omega
   have emt:((m:Int)+1).toNat=m+1:=by omega
   have htk:List.take m (L.map Pa.enc)=(L.take m).map Pa.enc:=by rw[List.map_take]
   have hd1:(0:Int)≤(m:Int)+1:=by omega
   have hd2:(m:Int)+1≤(L.length:Int):=by omega
   have hdr:List.take (L.length - (m+1)) (List.drop (m+1) (L.map Pa.enc))=(L.drop (m+1)).map Pa.enc:=by rw[←List.map_drop,List.take_of_length_le (by simp)]
   have hone:JU (L.take m):=⟨by rw[List.length_take];omega,fun p hp=>hPL.2 p (List.mem_of_mem_take hp)⟩
   have hlm:(L.take m).length=m:=by rw[List.length_take];omega
   generalize hO:L.take m=one at*
   match one,hone,h4,htk,hlm with
   | [],hone,h4,htk,hlm=>
     simp only[Q1,Option.map_none]at h4
     subst h4
     have hlm0:(0:Int)≤(L.length:Int):=by omega
     have hm0:m=0:=by simpa using hlm.symm
     subst hm0
     have hd0:y8 (.slc 4 [])= []:=rfl
     simp only[hix,hL1,em1,em2,emn,emt,hd1,hd2,htk,hdr,Nat.sub_zero,hO,pas,zB,V.boo_c,hd0,stR,List.map_nil,List.length_nil,Nat.zero_le,Int.lt_irrefl,hlm0,ze,zc,za,go_sem,reduceCtorEq,reduceIte,Nat.reduceEqDiff,Nat.reduceAdd,Nat.reduceSub,Nat.reduceMul,Nat.reduceLT,Nat.reduceLeDiff,Nat.reduceBEq,Int.reduceEq,Int.reduceLT,Int.reduceLE,Int.reduceAdd,Int.reduceSub,Int.reduceNeg,Int.reduceToNat]
   |x::r,hone,h4,htk,hlm=>
    obtain⟨kx,kr⟩:(kY x∧okT x.al)∧JU r:=⟨hone.2 x (by simp),by have:=hone.1;simp at this;omega,fun p hp=>hone.2 p (by simp[hp])⟩
    have hx0:=kx.1
    have hrl:r.length≤1000001:=kr.1
    have hl0:(((r.length+1:Nat):Int)=0)=False:=eq_false (by omega)
    have hlp:(0:Int)<((r.length+1:Nat):Int):=by omega
    have hl1:(1:Int)≤((r.length+1:Nat):Int):=by omega
    have htr:r.take (r.length+1 - 1)=r:=List.take_of_length_le (by omega)
    have hpe:y8 (.slc 4 ([vi x.t.kind,vs x.t.text,vi x.t.n,.slc 3 (x.al.map Tok.enc)]::r.map Pa.enc))=x::r:=zB 4 (x::r)
    have hrl1:r.length+1≤1000001:=hone.1
    have hml:m=r.length+1:=by simpa using hlm.symm
    have hzm:((m:Int)=0)=False:=eq_false (by omega)
    cases hn2:ya x with
    |false=>
     rw[Xc hn2]at h4
     simp only[Option.map_none]at h4
     subst h4
     simp only[hix,hL1,em1,em2,emn,emt,hd1,hd2,htk,hdr,Nat.sub_zero,hO,pas,zB,V.boo_c,hpe,hrl1,hl0,hlp,hl1,htr,Int.le_refl,hx0,kr,List.map_cons,List.length_cons,Pa.enc,zt,Pa.eta',hn2,stR,ze,zc,za,go_sem,reduceCtorEq,reduceIte,Nat.reduceEqDiff,Nat.reduceAdd,Nat.reduceSub,Nat.reduceMul,Nat.reduceLT,Nat.reduceLeDiff,Nat.reduceBEq,Int.reduceEq,Int.reduceLT,Int.reduceLE,Int.reduceAdd,Int.reduceSub,Int.reduceNeg,Int.reduceToNat]
    |true=>
     match hI:itL true r with
     |none=>
      rw[jV (.inl hI)]at h4
      simp only[Option.map_none]at h4
      subst h4
      simp only[hix,hL1,em1,em2,emn,emt,hd1,hd2,htk,hdr,Nat.sub_zero,hO,pas,zB,V.boo_c,hpe,hrl1,hl0,hlp,hl1,htr,Int.le_refl,hx0,kr,List.map_cons,List.length_cons,Pa.enc,zt,Pa.eta',hn2,hI,Qy,Qx,stR,Option.getD_none,Option.getD_some,List.length_nil,List.map_nil,Int.lt_irrefl,ze,zc,za,go_sem,reduceCtorEq,reduceIte,Nat.reduceEqDiff,Nat.reduceAdd,Nat.reduceSub,Nat.reduceMul,Nat.reduceLT,Nat.reduceLeDiff,Nat.reduceBEq,Int.reduceEq,Int.reduceLT,Int.reduceLE,Int.reduceAdd,Int.reduceSub,Int.reduceNeg,Int.reduceToNat]
     |some []=>
      rw[jV (.inr hI)]at h4
      simp only[Option.map_none]at h4
      subst h4
      simp only[hix,hL1,em1,em2,emn,emt,hd1,hd2,htk,hdr,Nat.sub_zero,hO,pas,zB,V.boo_c,hpe,hrl1,hl0,hlp,hl1,htr,Int.le_refl,hx0,kr,List.map_cons,List.length_cons,Pa.enc,zt,Pa.eta',hn2,hI,Qy,Qx,stR,Option.getD_none,Option.getD_some,List.length_nil,List.map_nil,Int.lt_irrefl,ze,zc,za,go_sem,reduceCtorEq,reduceIte,Nat.reduceEqDiff,Nat.reduceAdd,Nat.reduceSub,Nat.reduceMul,Nat.reduceLT,Nat.reduceLeDiff,Nat.reduceBEq,Int.reduceEq,Int.reduceLT,Int.reduceLE,Int.reduceAdd,Int.reduceSub,Int.reduceNeg,Int.reduceToNat]
     |some (y::ys)=>
      rw[YN hn2 hI]at h4
      have hap:List.map Stp.enc out++ [[vs x.t.text,vi 0,.slc 5 (y.enc::List.map Itm.enc ys)]]=List.map Stp.enc (out++ [(⟨x.t.text,0,y::ys⟩:Stp)]):=by simp[Stp.enc]
      have htS:List.take (out.length+1) (out++ [(⟨x.t.text,0,y::ys⟩:Stp)])=out++ [(⟨x.t.text,0,y::ys⟩:Stp)]:=List.take_of_length_le (by simp)
      have hlS:(out++ [(⟨x.t.text,0,y::ys⟩:Stp)]).length=out.length+1:=by simp
      have hyp:(0:Int)<((ys.length+1:Nat):Int):=by omega
      simp only at h4
      simp only[hix,hL1,em1,em2,emn,emt,hd1,hd2,htk,hdr,Nat.sub_zero,hO,pas,zB,V.boo_c,hpe,hrl1,hl0,hlp,hl1,htr,Int.le_refl,hx0,kr,List.map_cons,List.length_cons,Pa.enc,zt,Pa.eta',hn2,hI,hyp,hot,hap,htS,hlS,Qy,Qx,Option.getD_some,ze,zc,za,go_sem,reduceCtorEq,reduceIte,Nat.reduceEqDiff,Nat.reduceAdd,Nat.reduceSub,Nat.reduceMul,Nat.reduceLT,Nat.reduceLeDiff,Nat.reduceBEq,Int.reduceEq,Int.reduceLT,Int.reduceLE,Int.reduceAdd,Int.reduceSub,Int.reduceNeg,Int.reduceToNat]
      refine⟨⟨by omega,by omega,by omega⟩,by omega,⟨L.drop (m+1),out++ [⟨x.t.text,0,y::ys⟩],clk+1,clk+1+1⟩,⟨⟨by simp;omega,fun p hp=>hPL.2 p (List.mem_of_mem_drop hp)⟩,by simp;omega,?_⟩,by simp;omega,⟨rfl,rfl,by simp⟩,⟨rfl,rfl⟩,rfl⟩
      rw[←h4];cases ZX [] (L.drop (m+1))<;>simp
 ·have hl2:((L0.length:Int)=1)=False:=eq_false (fun hh=>hl1 (List.length_eq_one_iff.1 (by omega)))
  simp only[c43,zi,zg,h1,plV,hL,hb,hl2,ze,zc,za,go_sem,reduceCtorEq,reduceIte,Nat.reduceEqDiff,Nat.reduceAdd,Nat.reduceSub,Nat.reduceMul,Nat.reduceLT,Nat.reduceLeDiff,Nat.reduceBEq,Int.reduceEq,Int.reduceLT,Int.reduceLE,Int.reduceAdd,Int.reduceSub,Int.reduceNeg,Int.reduceToNat]
  refine zQ.lp (α:=SrS) (fun a=>[(4,.slc 4 (a.L.map Pa.enc)),(5,vb true),(6,.ref 0 a.ver 0 a.out.length)])
   (fun a=>⟨[⟨a.ver,3,a.out.map Stp.enc,false,[vs ⟨#[]⟩,vi 0,zD]⟩],a.clk⟩) (fun a=>JU a.L∧a.out.length+a.L.length≤1000001∧(ZX [] a.L).map (a.out++ ·)=R) (fun a=>a.L.length) ⟨L0,[],0,1⟩
   ⟨hP,by simpa using hP.1,by rw[←hR];cases ZX [] L0<;>rfl⟩ (St.nil 6 3 [vs ⟨#[]⟩,vi 0,zD] (by simp[zr]) (St.cut ?_ ?_ ?_)) fun a ha=> ?_
  ·simp[zu,zr,zv,Pa.enc]
  ·simp[Heap.alloc]
  ·rfl
  obtain⟨L,out,ver,clk⟩:=a
  obtain⟨hPL,hlen,h4⟩:=ha
  simp only at hPL hlen h4
  have hot:out.take out.length=out:=List.take_length
  have hL1:=hPL.1
  have key:∀(one:List Pa)(e:Int),(one= []→ZX [] L=none)→True:=fun _ _ _=>trivial
  clear key
  rcases XQ L with⟨hix,hst⟩|⟨m,hix,hm,hst⟩
  ·rw[hst]at h4
   have hone:=hPL
   obtain⟨one,hO⟩:∃one,L=one:=⟨_,rfl⟩
   subst hO
   match L,hone,h4,hix,hL1,hlen,hst,hPL with
   | [],hone,h4,hix,hL1,hlen,hst,hPL=>
     simp only[Q1,Option.map_none]at h4
     subst h4
     have hd0:y8 (.slc 4 [])= []:=rfl
     simp only[hix,hL1,pas,zB,V.boo_c,hd0,stR,List.map_nil,List.length_nil,Nat.zero_le,Int.lt_irrefl,ze,zc,za,go_sem,reduceCtorEq,reduceIte,Nat.reduceEqDiff,Nat.reduceAdd,Nat.reduceSub,Nat.reduceMul,Nat.reduceLT,Nat.reduceLeDiff,Nat.reduceBEq,Int.reduceEq,Int.reduceLT,Int.reduceLE,Int.reduceAdd,Int.reduceSub,Int.reduceNeg,Int.reduceToNat]
   |x::r,hone,h4,hix,hL1,hlen,hst,hPL=>
    obtain⟨kx,kr⟩:(kY x∧okT x.al)∧JU r:=⟨hone.2 x (by simp),by have:=hone.1;simp at this;omega,fun p hp=>hone.2 p (by simp[hp])⟩
    have hx0:=kx.1
    have hrl:r.length≤1000001:=kr.1
    have hl0:(((r.length+1:Nat):Int)=0)=False:=eq_false (by omega)
    have hlp:(0:Int)<((r.length+1:Nat):Int):=by omega
    have hl1:(1:Int)≤((r.length+1:Nat):Int):=by omega
    have htr:r.take (r.length+1 - 1)=r:=List.take_of_length_le (by omega)
    have hpe:y8 (.slc 4 ([vi x.t.kind,vs x.t.text,vi x.t.n,.slc 3 (x.al.map Tok.enc)]::r.map Pa.enc))=x::r:=zB 4 (x::r)
    have hrl1:r.length+1≤1000001:=hone.1
    cases hn2:ya x with
    |false=>
     rw[Xc hn2]at h4
     simp only[Option.map_none]at h4
     subst h4
     simp only[hix,hL1,pas,zB,V.boo_c,hpe,hrl1,hl0,hlp,hl1,htr,Int.le_refl,hx0,kr,List.map_cons,List.length_cons,Pa.enc,zt,Pa.eta',hn2,stR,ze,zc,za,go_sem,reduceCtorEq,reduceIte,Nat.reduceEqDiff,Nat.reduceAdd,Nat.reduceSub,Nat.reduceMul,Nat.reduceLT,Nat.reduceLeDiff,Nat.reduceBEq,Int.reduceEq,Int.reduceLT,Int.reduceLE,Int.reduceAdd,Int.reduceSub,Int.reduceNeg,Int.reduceToNat]
    |true=>
     match hI:itL true r with
     |none=>
      rw[jV (.inl hI)]at h4
      simp only[Option.map_none]at h4
      subst h4
      simp only[hix,hL1,pas,zB,V.boo_c,hpe,hrl1,hl0,hlp,hl1,htr,Int.le_refl,hx0,kr,List.map_cons,List.length_cons,Pa.enc,zt,Pa.eta',hn2,hI,Qy,Qx,stR,Option.getD_none,Option.getD_some,List.length_nil,List.map_nil,Int.lt_irrefl,ze,zc,za,go_sem,reduceCtorEq,reduceIte,Nat.reduceEqDiff,Nat.reduceAdd,Nat.reduceSub,Nat.reduceMul,Nat.reduceLT,Nat.reduceLeDiff,Nat.reduceBEq,Int.reduceEq,Int.reduceLT,Int.reduceLE,Int.reduceAdd,Int.reduceSub,Int.reduceNeg,Int.reduceToNat]
     |some []=>
      rw[jV (.inr hI)]at h4
      simp only[Option.map_none]at h4
      subst h4
      simp only[hix,hL1,pas,zB,V.boo_c,hpe,hrl1,hl0,hlp,hl1,htr,Int.le_refl,hx0,kr,List.map_cons,List.length_cons,Pa.enc,zt,Pa.eta',hn2,hI,Qy,Qx,stR,Option.getD_none,Option.getD_some,List.length_nil,List.map_nil,Int.lt_irrefl,ze,zc,za,go_sem,reduceCtorEq,reduceIte,Nat.reduceEqDiff,Nat.reduceAdd,Nat.reduceSub,Nat.reduceMul,Nat.reduceLT,Nat.reduceLeDiff,Nat.reduceBEq,Int.reduceEq,Int.reduceLT,Int.reduceLE,Int.reduceAdd,Int.reduceSub,Int.reduceNeg,Int.reduceToNat]
     |some (y::ys)=>
      rw[YN hn2 hI]at h4
      have hap:List.map Stp.enc out++ [[vs x.t.text,vi 0,.slc 5 (y.enc::List.map Itm.enc ys)]]=List.map Stp.enc (out++ [(⟨x.t.text,0,y::ys⟩:Stp)]):=by simp[Stp.enc]
      have htS:List.take (out.length+1) (out++ [(⟨x.t.text,0,y::ys⟩:Stp)])=out++ [(⟨x.t.text,0,y::ys⟩:Stp)]:=List.take_of_length_le (by simp)
      have hlS:(out++ [(⟨x.t.text,0,y::ys⟩:Stp)]).length=out.length+1:=by simp
      have hyp:(0:Int)<((ys.length+1:Nat):Int):=by omega
      simp only[Option.map_some]at h4
      subst h4
      simp only[hix,hL1,pas,zB,V.boo_c,hpe,hrl1,hl0,hlp,hl1,htr,Int.le_refl,hx0,kr,List.map_cons,List.length_cons,Pa.enc,zt,Pa.eta',hn2,hI,hyp,hot,hap,htS,hlS,QA,QB,Nat.le_refl,Qy,Qx,stR,Kl,Option.getD_some,ze,zc,za,go_sem,reduceCtorEq,reduceIte,Nat.reduceEqDiff,Nat.reduceAdd,Nat.reduceSub,Nat.reduceMul,Nat.reduceLT,Nat.reduceLeDiff,Nat.reduceBEq,Int.reduceEq,Int.reduceLT,Int.reduceLE,Int.reduceAdd,Int.reduceSub,Int.reduceNeg,Int.reduceToNat]
      omega
  ·rw[hst]at h4
   have em1:(0:Int)≤(m:Int):=by omega
   have em2:(m:Int)≤(L.length:Int):=by omega
   have emn:¬(m:Int)<0:=by omega
   have emt:((m:Int)+1).toNat=m+1:=by omega
   have htk:List.take m (L.map Pa.enc)=(L.take m).map Pa.enc:=by rw[List.map_take]
   have hd1:(0:Int)≤(m:Int)+1:=by omega
   have hd2:(m:Int)+1≤(L.length:Int):=by omega
   have hdr:List.take (L.length - (m+1)) (List.drop (m+1) (L.map Pa.enc))=(L.drop (m+1)).map Pa.enc:=by rw[←List.map_drop,List.take_of_length_le (by simp)]
   have hone:JU (L.take m):=⟨by rw[List.length_take];omega,fun p hp=>hPL.2 p (List.mem_of_mem_take hp)⟩
   have hlm:(L.take m).length=m:=by rw[List.length_take];omega
   generalize hO:L.take m=one at*
   match one,hone,h4,htk,hlm with
   | [],hone,h4,htk,hlm=>
     simp only[Q1,Option.map_none]at h4
     subst h4
     have hlm0:(0:Int)≤(L.length:Int):=by omega
     have hm0:m=0:=by simpa using hlm.symm
     subst hm0
     have hd0:y8 (.slc 4 [])= []:=rfl
     simp only[hix,hL1,em1,em2,emn,emt,hd1,hd2,htk,hdr,Nat.sub_zero,hO,pas,zB,V.boo_c,hd0,stR,List.map_nil,List.length_nil,Nat.zero_le,Int.lt_irrefl,hlm0,ze,zc,za,go_sem,reduceCtorEq,reduceIte,Nat.reduceEqDiff,Nat.reduceAdd,Nat.reduceSub,Nat.reduceMul,Nat.reduceLT,Nat.reduceLeDiff,Nat.reduceBEq,Int.reduceEq,Int.reduceLT,Int.reduceLE,Int.reduceAdd,Int.reduceSub,Int.reduceNeg,Int.reduceToNat]
   |x::r,hone,h4,htk,hlm=>
    obtain⟨kx,kr⟩:(kY x∧okT x.al)∧JU r:=⟨hone.2 x (by simp),by have:=hone.1;simp at this;omega,fun p hp=>hone.2 p (by simp[hp])⟩
    have hx0:=kx.1
    have hrl:r.length≤1000001:=kr.1
    have hl0:(((r.length+1:Nat):Int)=0)=False:=eq_false (by omega)
    have hlp:(0:Int)<((r.length+1:Nat):Int):=by omega
    have hl1:(1:Int)≤((r.length+1:Nat):Int):=by omega
    have htr:r.take (r.length+1 - 1)=r:=List.take_of_length_le (by omega)
    have hpe:y8 (.slc 4 ([vi x.t.kind,vs x.t.text,vi x.t.n,.slc 3 (x.al.map Tok.enc)]::r.map Pa.enc))=x::r:=zB 4 (x::r)
    have hrl1:r.length+1≤1000001:=hone.1
    have hml:m=r.length+1:=by simpa using hlm.symm
    have hzm:((m:Int)=0)=False:=eq_false (by omega)
    cases hn2:ya x with
    |false=>
     rw[Xc hn2]at h4
     simp only[Option.map_none]at h4
     subst h4
     simp only[hix,hL1,em1,em2,emn,emt,hd1,hd2,htk,hdr,Nat.sub_zero,hO,pas,zB,V.boo_c,hpe,hrl1,hl0,hlp,hl1,htr,Int.le_refl,hx0,kr,List.map_cons,List.length_cons,Pa.enc,zt,Pa.eta',hn2,stR,ze,zc,za,go_sem,reduceCtorEq,reduceIte,Nat.reduceEqDiff,Nat.reduceAdd,Nat.reduceSub,Nat.reduceMul,Nat.reduceLT,Nat.reduceLeDiff,Nat.reduceBEq,Int.reduceEq,Int.reduceLT,Int.reduceLE,Int.reduceAdd,Int.reduceSub,Int.reduceNeg,Int.reduceToNat]
    |true=>
     match hI:itL true r with
     |none=>
      rw[jV (.inl hI)]at h4
      simp only[Option.map_none]at h4
      subst h4
      simp only[hix,hL1,em1,em2,emn,emt,hd1,hd2,htk,hdr,Nat.sub_zero,hO,pas,zB,V.boo_c,hpe,hrl1,hl0,hlp,hl1,htr,Int.le_refl,hx0,kr,List.map_cons,List.length_cons,Pa.enc,zt,Pa.eta',hn2,hI,Qy,Qx,stR,Option.getD_none,Option.getD_some,List.length_nil,List.map_nil,Int.lt_irrefl,ze,zc,za,go_sem,reduceCtorEq,reduceIte,Nat.reduceEqDiff,Nat.reduceAdd,Nat.reduceSub,Nat.reduceMul,Nat.reduceLT,Nat.reduceLeDiff,Nat.reduceBEq,Int.reduceEq,Int.reduceLT,Int.reduceLE,Int.reduceAdd,Int.reduceSub,Int.reduceNeg,Int.reduceToNat]
     |some []=>
      rw[jV (.inr hI)]at h4
      simp only[Option.map_none]at h4
      subst h4
      simp only[hix,hL1,em1,em2,emn,emt,hd1,hd2,htk,hdr,Nat.sub_zero,hO,pas,zB,V.boo_c,hpe,hrl1,hl0,hlp,hl1,htr,Int.le_refl,hx0,kr,List.map_cons,List.length_cons,Pa.enc,zt,Pa.eta',hn2,hI,Qy,Qx,stR,Option.getD_none,Option.getD_some,List.length_nil,List.map_nil,Int.lt_irrefl,ze,zc,za,go_sem,reduceCtorEq,reduceIte,Nat.reduceEqDiff,Nat.reduceAdd,Nat.reduceSub,Nat.reduceMul,Nat.reduceLT,Nat.reduceLeDiff,Nat.reduceBEq,Int.reduceEq,Int.reduceLT,Int.reduceLE,Int.reduceAdd,Int.reduceSub,Int.reduceNeg,Int.reduceToNat]
     |some (y::ys)=>
      rw[YN hn2 hI]at h4
      have hap:List.map Stp.enc out++ [[vs x.t.text,vi 0,.slc 5 (y.enc::List.map Itm.enc ys)]]=List.map Stp.enc (out++ [(⟨x.t.text,0,y::ys⟩:Stp)]):=by simp[Stp.enc]
      have htS:List.take (out.length+1) (out++ [(⟨x.t.text,0,y::ys⟩:Stp)])=out++ [(⟨x.t.text,0,y::ys⟩:Stp)]:=List.take_of_length_le (by simp)
      have hlS:(out++ [(⟨x.t.text,0,y::ys⟩:Stp)]).length=out.length+1:=by simp
      have hyp:(0:Int)<((ys.length+1:Nat):Int):=by omega
      simp only at h4
      simp only[hix,hL1,em1,em2,emn,emt,hd1,hd2,htk,hdr,Nat.sub_zero,hO,pas,zB,V.boo_c,hpe,hrl1,hl0,hlp,hl1,htr,Int.le_refl,hx0,kr,List.map_cons,List.length_cons,Pa.enc,zt,Pa.eta',hn2,hI,hyp,hot,hap,htS,hlS,Qy,Qx,Option.getD_some,ze,zc,za,go_sem,reduceCtorEq,reduceIte,Nat.reduceEqDiff,Nat.reduceAdd,Nat.reduceSub,Nat.reduceMul,Nat.reduceLT,Nat.reduceLeDiff,Nat.reduceBEq,Int.reduceEq,Int.reduceLT,Int.reduceLE,Int.reduceAdd,Int.reduceSub,Int.reduceNeg,Int.reduceToNat]
      refine⟨⟨by omega,by omega,by omega⟩,by omega,⟨L.drop (m+1),out++ [⟨x.t.text,0,y::ys⟩],clk+1,clk+1+1⟩,⟨⟨by simp;omega,fun p hp=>hPL.2 p (List.mem_of_mem_drop hp)⟩,by simp;omega,?_⟩,by simp;omega,⟨rfl,rfl,by simp⟩,⟨rfl,rfl⟩,rfl⟩
      rw[←h4];cases ZX [] (L.drop (m+1))<;>simp
def Jl:Sum Tryz.prog:=⟨43,fun args=>args= [zi (zh (args.getD 0 .any))]∧okT (zh (args.getD 0 .any)),fun args=>zi6 (stO (zh (args.getD 0 .any))),fun args h=>by
 have:=zf6 (zh (args.getD 0 .any)) h.2;rwa [←h.1]at this,false⟩
theorem zoZ:Jl.f=43:=rfl
theorem zoY(args:List V):Jl.D args=(args= [zi (zh (args.getD 0 .any))]∧okT (zh (args.getD 0 .any))):=rfl
theorem zey:Jl.flat=false:=rfl
theorem zo0(args:List V):Jl.r args=zi6 (stO (zh (args.getD 0 .any))):=rfl
attribute [go_sem] zoZ zoY zey zo0
end Go.Proofs.YtjcmoedalneldaaGreat
