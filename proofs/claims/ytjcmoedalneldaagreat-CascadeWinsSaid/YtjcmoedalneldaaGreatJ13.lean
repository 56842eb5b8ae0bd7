/- Part of the proof of CascadeWins. No condition. -/
import Derived.Test.YtjcmoedalneldaaGreatE4
import Derived.Test.YtjcmoedalneldaaGreatJ11
import Derived.Test.YtjcmoedalneldaaGreatJ10
import Derived.Test.YtjcmoedalneldaaGreatV7v
namespace Go.Proofs.YtjcmoedalneldaaGreat
open Go.Sx
set_option linter.unusedSimpArgs false
set_option linter.unusedVariables false
set_option maxHeartbeats 8000000
set_option maxRecDepth 100000
attribute [go_sem] zeZ zuC zu2 zu3 zu1 zpI xe kw QD Orc.ppre_cons Orc.pr_cons Orc.ppre_econs Orc.pr_econs Orc.ppre_fcons Orc.pr_fcons Orc.ppre_gcons Orc.pr_gcons List.head?_cons List.headD_cons XE.val XE.heap efO y4 yP jQ V.tops V.top1 js JN Orc.flat_fcons Orc.pre_fcons Orc.v_fcons Orc.hp_fcons Orc.qpre_fcons Orc.qv_fcons Orc.fpre_fcons Orc.fes_fcons Orc.flat_gcons Orc.pre_gcons Orc.v_gcons Orc.hp_gcons Orc.qpre_gcons Orc.qv_gcons Orc.fpre_gcons Orc.fes_gcons GSum.pre GSum.v GSum.hp Orc.fpre_cons Orc.fes_cons Orc.fpre_econs Orc.fes_econs FSum.pre FSum.v FSum.hp zqT O.calls List.flatMap_cons List.flatMap_nil List.contains_cons List.contains_nil Bool.not_true Bool.not_false Heap.freeze List.mapIdx_cons List.mapIdx_nil List.elem_cons List.elem_nil yR zV evF bne_iff_ne ne_eq Option.some.injEq Orc.flat_econs Orc.pre_econs Orc.v_econs Orc.hp_econs Orc.qpre_econs Orc.qv_econs
def zar(v:List Tok):Prop:=v.length≤1000000∧∀k,k≤v.length→zf Tryz.prog 154 [zh v,zD (zy v),vi k] (srV (yG v k))∧((yG v k).ok=true→k<(yG v k).to∧(yG v k).to≤v.length)
theorem zxt{v:List Tok}{k:Int}(h0:0≤k)(h1:k≤v.length)(h:zar v):zf Tryz.prog 154 [zh v,zD (zy v),vi k] (srV (yG v k.toNat)):=by
 have:=(h.2 k.toNat (by omega)).1;rwa [Int.toNat_of_nonneg h0]at this
def zbT:Sum Tryz.prog:=⟨154,fun args=>args= [zh (zg (args.getD 0 .any)),zD (zy (zg (args.getD 0 .any))),vi ((args.getD 2 .any).int)]∧0≤((args.getD 2 .any).int)∧((args.getD 2 .any).int)≤((zg (args.getD 0 .any))).length∧zar (zg (args.getD 0 .any)),fun args=>srV (yG (zg (args.getD 0 .any)) (((args.getD 2 .any).int)).toNat),fun args h=>by
 have:=zxt h.2.1 h.2.2.1 h.2.2.2;rwa [←h.1]at this,false⟩
theorem ztN:zbT.f=154:=rfl
theorem ztM(args:List V):zbT.D args=(args= [zh (zg (args.getD 0 .any)),zD (zy (zg (args.getD 0 .any))),vi ((args.getD 2 .any).int)]∧0≤((args.getD 2 .any).int)∧((args.getD 2 .any).int)≤((zg (args.getD 0 .any))).length∧zar (zg (args.getD 0 .any))):=rfl
theorem zhi:zbT.flat=false:=rfl
theorem ztO(args:List V):zbT.r args=srV (yG (zg (args.getD 0 .any)) (((args.getD 2 .any).int)).toNat):=rfl
attribute [go_sem] ztN ztM zhi ztO
theorem yN(S:Nat→Bool)(h:Heap)(j ver off len:Nat):res S h 10 (.ref j ver off len)=
 if S j&&h.cur j ver&&decide (off+len≤(h.blk j).es.length)then(zA (zA (res S h 9)) (((h.blk j).es.drop off).take len)).map (.slc (h.blk j).sz)else none:=rfl
theorem Kh(S:Nat→Bool)(h:Heap)(l:List Smp):zA (zA (res S h 9)) (l.map Smp.enc)=some (l.map Smp.enc):=qz S h 8 _ (fun _=>rfl) l
def Jq(v:List Tok):Nat→Nat→List Smp→List Smp×Nat
 |0,k,L=>(L,k)
 |f+1,k,L=>if(yG v k).ok=false∨(0<L.length∧(yG v k).s.kind≤2)then(L,k)else Jq v f (yG v k).to (L++ [(yG v k).s])
def jT(v:List Tok)(k:Nat):List Smp×Nat:=Jq v (v.length+1) k []
def crV(r:List Smp×Nat):V:=.tup [.agg [vi 0,.slc 3 (r.1.map Smp.enc)],vi r.2,vb (decide ((0:Int)<(r.1.length:Int)))]
structure CdS8 where
 k:Nat
 L:List Smp
 f:Nat
 ver:Nat
 clk:Nat
theorem zfm(v:List Tok)(hS:zar v)(k:Nat)(hk:k≤v.length):zf Tryz.prog 128 [zh v,zD (zy v),vi k] (crV (jT v k)):=by
 refine zf.of (Orc.cons zbT (Orc.nil _)) zvD (by simp[zy0]) fun w0 own0=> ?_
 have hl:=hS.1
 unfold jT
 generalize hR:Jq v (v.length+1) k []=R
 simp only[zy0,zh,zD,go_sem,zc,seval,reduceIte,reduceCtorEq]
 refine zC.lp (α:=CdS8) (fun x=>[(0,.slc 3 (v.map Tok.enc)),(1,.slc 1 ((zy v).map fun n=>[vi n])),(2,vi x.k),(6,.ptr 0 0 0 0),(9,.ptr 1 1 0 0)])
  (fun x=>⟨[⟨0,2,[[vi 0,zz]],false,[]⟩,⟨1,2,[[vi 0,.ref 2 x.ver 0 x.L.length]],false,[]⟩,⟨x.ver,3,x.L.map Smp.enc,false,[vi 0,vs ⟨#[]⟩,vs ⟨#[]⟩]⟩],x.clk⟩)
  (fun x=>x.k≤v.length∧x.L.length≤x.k∧v.length+1≤x.f+x.k∧Jq v x.f x.k x.L=R) (fun x=>v.length - x.k) ⟨k,[],v.length+1,2,3⟩
  ⟨hk,by simp,by dsimp only;omega,hR⟩ (St.cell 1 0 1 3 [vi 0,vs ⟨#[]⟩,vs ⟨#[]⟩] rfl rfl (St.cut ?_ ?_ ?_)) fun x hx=> ?_
 ·simp[zu,zj,zq]
 ·simp[Heap.alloc]
 ·rfl
 obtain⟨k,L,f,ver,clk⟩:=x
 obtain⟨h1,h2,h3,h4⟩:=hx
 simp only at h1 h2 h3 h4
 obtain⟨f,rfl⟩:∃g,f=g+1:=⟨f - 1,by omega⟩
 have e0:(0:Int)≤(k:Int):=by omega
 have e1:(k:Int)≤(v.length:Int):=by omega
 have hr:=(hS.2 k h1).2
 have htl:L.take L.length=L:=List.take_length
 simp only[Jq]at h4
 generalize hrr:yG v k=r at*
 obtain⟨⟨kd,tx,vl⟩,to,ok⟩:=r
 simp only at hr h4
 cases ok with
 |false=>
  rw[if_pos (.inl rfl)]at h4
  subst h4
  simp only[e0,e1,hrr,hS,hl,htl,Kh,yN,Nat.le_refl,←List.map_take,srV,crV,Smp.enc,ze,zh,zD,Int.toNat_natCast,zm,zd,zb,za,go_sem,seval,reduceIte,reduceCtorEq]
 |true=>
  by_cases hL:0<L.length∧kd≤2
  ·rw[if_pos (.inr hL)]at h4
   subst h4
   have q1:(0:Int)<(L.length:Int):=by omega
   have q2:=eq_true hL.2
   simp only[e0,e1,q1,q2,hrr,hS,hl,htl,Kh,yN,Nat.le_refl,←List.map_take,srV,crV,Smp.enc,ze,zh,zD,Int.toNat_natCast,zm,zd,zb,za,go_sem,seval,reduceIte,reduceCtorEq]
  ·rw[if_neg (fun hh=>by rcases hh with h|h; ·cases h
                         ·exact hL h)]at h4
   obtain⟨g1,g2⟩:=hr rfl
   by_cases q1:0<L.length
   ·have q2:=eq_false (fun h=>hL ⟨q1,h⟩)
    have q1:(0:Int)<(L.length:Int):=by omega
    simp only[e0,e1,q1,q2,hrr,hS,hl,htl,Kh,yN,Nat.le_refl,←List.map_take,srV,crV,Smp.enc,ze,zh,zD,Int.toNat_natCast,zm,zd,zb,za,go_sem,seval,reduceIte,reduceCtorEq]
    exact⟨⟨by omega,by omega⟩,⟨to,L++ [⟨kd,tx,vl⟩],f,clk+1+1,clk+1+1+1⟩,⟨g2,by simp;omega,by dsimp only;omega,h4⟩,by dsimp only;omega,by simp[Smp.enc]⟩
   ·have q1:=eq_false (show ¬(0:Int)<(L.length:Int)by omega)
    simp only[e0,e1,q1,hrr,hS,hl,htl,Kh,yN,Nat.le_refl,←List.map_take,srV,crV,Smp.enc,ze,zh,zD,Int.toNat_natCast,zm,zd,zb,za,go_sem,seval,reduceIte,reduceCtorEq]
    exact⟨⟨by omega,by omega⟩,⟨to,L++ [⟨kd,tx,vl⟩],f,clk+1+1,clk+1+1+1⟩,⟨g2,by simp;omega,by dsimp only;omega,h4⟩,by dsimp only;omega,by simp[Smp.enc]⟩
def Qy(v:List Tok):Nat→Nat→Int→Int×Nat
 |0,k,n=>(n,k)
 |f+1,k,n=>if knd v k=1∨(n≠2∧dlm v k ⟨#[62]⟩=true)then Qy v f (k+1) (if knd v k=11 then 2 else if n<1 then 1 else n)else(n,k)
def jz(v:List Tok)(k:Nat):Int×Nat:=Qy v (v.length+1) k 0
structure LkS8 where
 k:Nat
 n:Int
 f:Nat
theorem zwU(v:List Tok)(hl:v.length≤1000000)(k:Nat)(hk:k≤v.length):zf Tryz.prog 129 [zh v,vi k] (.tup [vi (jz v k).1,vi (jz v k).2]):=by
 refine zf.of (Orc.cons Y0 (Orc.cons Ya (Orc.nil _))) zvE (by simp[zy1]) fun w0 own0=> ?_
 unfold jz
 generalize hR:Qy v (v.length+1) k 0=R
 simp only[zy1,zh,zd,zb,za,go_sem,seval,reduceIte,reduceCtorEq]
 refine zC.lp (α:=LkS8) (fun x=>[(0,.slc 3 (v.map Tok.enc)),(1,vi x.k),(6,vi x.n)]) (fun _=>⟨[],0⟩)
  (fun x=>x.k≤v.length∧(x.n=0∨x.n=1∨x.n=2)∧v.length+1≤x.f+x.k∧Qy v x.f x.k x.n=R) (fun x=>v.length - x.k) ⟨k,0,v.length+1⟩
  ⟨hk,.inl rfl,by dsimp only;omega,hR⟩ (St.cut ?_ ?_ ?_) fun x hx=> ?_
 ·simp[zu,zj,zq]
 ·simp[Heap.alloc]
 ·rfl
 obtain⟨k,n,f⟩:=x
 obtain⟨h1,h2,h3,h4⟩:=hx
 simp only at h1 h2 h3 h4
 obtain⟨f,rfl⟩:∃g,f=g+1:=⟨f - 1,by omega⟩
 have e0:(0:Int)≤(k:Int):=by omega
 have hg:=yf v k
 simp only[Qy]at h4
 have key:∀m:Int,(m=0∨m=1∨m=2)→k<v.length→Qy v f (k+1) m=R→∃x:LkS8,(x.k≤v.length∧(x.n=0∨x.n=1∨x.n=2)∧v.length+1≤x.f+x.k∧Qy v x.f x.k x.n=R)∧v.length - x.k<v.length - k∧(k:Int)+1=x.k∧m=x.n:=
  fun m hm hkl hR=>⟨⟨k+1,m,f⟩,⟨by dsimp only;omega,hm,by dsimp only;omega,hR⟩,by dsimp only;omega,by dsimp only;omega,rfl⟩
 by_cases c1:knd v k=1
 ·obtain⟨hkl,hk1⟩:=yu c1 (by decide)
  have e2:(k:Int)<(v.length:Int):=by omega
  rw[if_pos (.inl c1),if_neg (by omega)]at h4
  have c1:=eq_true c1;have hk11:=eq_true hk1
  rcases h2 with rfl|rfl|rfl
  ·simp only[e0,e2,c1,hk1,hg,zh,ze,Int.toNat_natCast,Tok.enc,zd,zb,za,go_sem,seval,reduceIte,reduceCtorEq]
   exact⟨by omega,key 1 (by omega) hkl h4⟩
  ·simp only[e0,e2,c1,hk1,hg,zh,ze,Int.toNat_natCast,Tok.enc,zd,zb,za,go_sem,seval,reduceIte,reduceCtorEq]
   exact⟨by omega,key 1 (by omega) hkl h4⟩
  ·simp only[e0,e2,c1,hk1,hg,zh,ze,Int.toNat_natCast,Tok.enc,zd,zb,za,go_sem,seval,reduceIte,reduceCtorEq]
   exact⟨by omega,key 2 (by omega) hkl h4⟩
 ·by_cases c2:n≠2∧dlm v k ⟨#[62]⟩=true
  ·obtain⟨c2,c3⟩:=c2
   have hd:=of_decide_eq_true c3
   have e2:(k:Int)<(v.length:Int):=by omega
   have hk11:knd v k=11:=by unfold knd;rw[if_pos hd.1];exact hd.2.1
   have hk1:=hd.2.1
   rw[if_pos (.inr ⟨c2,c3⟩),if_pos hk11]at h4
   have c1:=eq_false c1
   rcases h2 with rfl|rfl|rfl
   ·simp only[e0,e2,c1,c3,hk1,hg,zh,ze,Int.toNat_natCast,Tok.enc,zd,zb,za,go_sem,seval,reduceIte,reduceCtorEq]
    exact⟨by omega,key 2 (by omega) hd.1 h4⟩
   ·simp only[e0,e2,c1,c3,hk1,hg,zh,ze,Int.toNat_natCast,Tok.enc,zd,zb,za,go_sem,seval,reduceIte,reduceCtorEq]
    exact⟨by omega,key 2 (by omega) hd.1 h4⟩
   ·exact absurd rfl c2
  ·rw[if_neg (by rintro(h|h); ·exact c1 h
                 ·exact c2 h)]at h4
   subst h4
   have c1:=eq_false c1
   by_cases c3:n=2
   ·subst c3
    simp only[e0,c1,zh,ze,Int.toNat_natCast,Tok.enc,zd,zb,za,go_sem,seval,reduceIte,reduceCtorEq]
   ·have c4:dlm v k ⟨#[62]⟩=false:=by
     cases hh:dlm v k ⟨#[62]⟩with
     |false=>rfl
     |true=>exact absurd ⟨c3,hh⟩ c2
    have c3:=eq_false c3
    simp only[e0,c1,c3,c4,zh,ze,Int.toNat_natCast,Tok.enc,zd,zb,za,go_sem,seval,reduceIte,reduceCtorEq]
end Go.Proofs.YtjcmoedalneldaaGreat
section
section
namespace Go.Proofs.YtjcmoedalneldaaGreat
open Go.Sx
set_option linter.unusedSimpArgs false
set_option linter.unusedVariables false
set_option maxHeartbeats 8000000
set_option maxRecDepth 100000
def spB(t:Tok):Bool:=decide (t.kind=1)
def kpT(l:List Tok):List Tok:=l.filter fun t=>decide (t.kind≠1)
theorem zyG(t:Tok):zf Tryz.prog 186 [.agg t.enc] (vb (spB t)):=by
 refine zf.of (Orc.nil _) zv9 (by simp[zzj]) fun w0 own0=> ?_
 simp only[zzj,Tok.enc,spB,go_sem,zc,seval,reduceIte,reduceCtorEq]
theorem Kc(t:Tok):(⟨t.kind,t.text,t.n⟩:Tok)=t:=rfl
def Wh:Sum Tryz.prog:=⟨186,fun args=>args= [.agg (Tok.enc (ZI (args.getD 0 .any)))],fun args=>vb (spB (ZI (args.getD 0 .any))),fun args h=>by
 have:=zyG (ZI (args.getD 0 .any));rwa [←h]at this,true⟩
theorem zsi:Wh.f=186:=rfl
theorem zsh(args:List V):Wh.D args=(args= [.agg (Tok.enc (ZI (args.getD 0 .any)))]):=rfl
theorem zgE:Wh.flat=true:=rfl
theorem zsj(args:List V):Wh.r args=vb (spB (ZI (args.getD 0 .any))):=rfl
attribute [go_sem] zsi zsh zgE zsj
def ixT(l:List Tok):Nat→Nat→Int
 |0,_=> -1
 |f+1,j=>if spB (l.getD j .zero)=true then(j:Int)else ixT l f (j+1)
theorem JI(l:List Tok)(j:Nat)(hj:j<l.length):kpT (l.take (j+1))=if spB (l.getD j .zero)=true then kpT (l.take j)else kpT (l.take j)++ [l.getD j .zero]:=by
 have ht:l.take (j+1)=l.take j++ [l.getD j .zero]:=by
  rw[List.take_add_one,List.getD_eq_getElem?_getD,List.getElem?_eq_getElem hj];rfl
 rw[ht]
 unfold kpT spB
 rw[List.filter_append]
 by_cases h:(l.getD j .zero).kind=1
 ·rw[if_pos (by simpa using h),List.filter_cons_of_neg (by simpa using h)];simp
 ·rw[if_neg (by simpa using h),List.filter_cons_of_pos (by simpa using h)];rfl
theorem zfP(l:List Tok):∀(f j:Nat),j+f=l.length→kpT (l.take j)=l.take j→
  (ixT l f j= -1∧kpT l=l)∨∃i:Nat,ixT l f j=i∧i<l.length∧spB (l.getD i .zero)=true∧kpT (l.take i)=l.take i
 |0,j,hf,hk=>by
  have:j=l.length:=by omega
  subst this
  rw[List.take_length]at hk
  exact .inl ⟨rfl,hk⟩
 |f+1,j,hf,hk=>by
  simp only[ixT]
  have hkt:=JI l j (by omega)
  by_cases h:spB (l.getD j .zero)=true
  ·rw[if_pos h];exact .inr ⟨j,rfl,by omega,h,hk⟩
  ·rw[if_neg h]
   rw[if_neg h,hk]at hkt
   refine zfP l f (j+1) (by omega) ?_
   rw[hkt,List.take_add_one,List.getD_eq_getElem?_getD,List.getElem?_eq_getElem (by omega)];rfl
def zis(l:List Tok):Int:=ixT l l.length 0
theorem zAM(l:List Tok)(hl:l.length≤1000000):zf Tryz.prog 188 [zh l,.fn 186 []] (vi (zis l)):=by
 refine zf.of (Orc.cons Wh (Orc.nil _)) zkj (by simp[zqc]) fun w0 own0=> ?_
 unfold zis
 generalize hR:ixT l l.length 0=R
 simp only[zqc,zh,go_sem,zc,seval,reduceIte,reduceCtorEq]
 refine zC.lp (α:=Nat×Nat) (fun j=>[(0,.slc 3 (l.map Tok.enc)),(1,.fn 186 []),(7,vi l.length),(8,vi j.1)]) (fun j=>⟨[],j.2⟩)
  (fun j=>j.1≤l.length∧ixT l (l.length - j.1) j.1=R) (fun j=>l.length - j.1) (0,0) ⟨Nat.zero_le _,hR⟩ (St.cut ?_ ?_ ?_) fun j hj=> ?_
 ·simp[zu,zj,zq]
 ·simp
 ·rfl
 obtain⟨j,clk⟩:=j
 obtain⟨h1,h2⟩:=hj
 simp only at h1 h2
 by_cases hkl:j=l.length
 ·subst hkl
  rw[Nat.sub_self]at h2
  simp only[ixT]at h2
  simp only[Int.lt_irrefl,←h2,go_sem,zc,seval,reduceIte,reduceCtorEq]
 ·have e1:(j:Int)<(l.length:Int):=by omega
  have e0:(0:Int)≤(j:Int):=by omega
  obtain⟨f,hf⟩:∃f,l.length - j=f+1:=⟨l.length - j - 1,by omega⟩
  rw[hf]at h2
  simp only[ixT]at h2
  have hg:=yf l j
  generalize l.getD j .zero=c at*
  cases hs:spB c with
  |true=>
   rw[hs]at h2
   simp only[e0,e1,hg,hs,Tok.enc,Jv,Kc,go_sem,zc,seval,reduceIte,reduceCtorEq]
   simpa using h2
  |false=>
   rw[hs]at h2
   simp only[e0,e1,hg,hs,Tok.enc,Jv,Kc,go_sem,zc,seval,reduceIte,reduceCtorEq]
   exact⟨by omega,(j+1,_),⟨by dsimp only;omega,by dsimp only;rw[show l.length - (j+1)=f by omega];simpa using h2⟩,by dsimp only;omega,by dsimp only;omega,rfl⟩
def zbL:Sum Tryz.prog:=⟨188,fun args=>args= [zh (zg (args.getD 0 .any)),.fn 186 []]∧((zg (args.getD 0 .any))).length≤1000000,fun args=>vi (zis (zg (args.getD 0 .any))),fun args h=>by
 have:=zAM (zg (args.getD 0 .any)) h.2;rwa [←h.1]at this,true⟩
theorem zs1:zbL.f=188:=rfl
theorem zs0(args:List V):zbL.D args=(args= [zh (zg (args.getD 0 .any)),.fn 186 []]∧((zg (args.getD 0 .any))).length≤1000000):=rfl
theorem zg1:zbL.flat=true:=rfl
theorem zs2(args:List V):zbL.r args=vi (zis (zg (args.getD 0 .any))):=rfl
attribute [go_sem] zs1 zs0 zg1 zs2
def hT8(l:List Tok)(ver clk:Nat):Heap:=⟨[⟨ver,3,l.map Tok.enc,false,[vi 0,vs ⟨#[]⟩,vi 0]⟩],clk⟩
def ckT(l:List Tok):Nat:=if zis l= -1 then 0 else l.length - ((zis l).toNat+1)
structure DeT where
 es:List Tok
 i:Nat
 j:Nat
theorem zpm(l:List Tok)(j:Nat)(hj:j<l.length):l.take (j+1)=l.take j++ [l.getD j .zero]:=by
 rw[List.take_add_one,List.getD_eq_getElem?_getD,List.getElem?_eq_getElem hj];rfl
theorem zlG(l:List Tok)(ver clk:Nat)(hl:l.length≤1000000):
  zQ Tryz.prog 185 [.ref 0 ver 0 l.length,.fn 186 []] (hT8 l ver clk) (.ref 0 ver 0 (kpT l).length) (hT8 (kpT l) ver (clk+ckT l)):=by
 refine zQ.walk (Orc.cons zbL (Orc.cons Wh (Orc.nil _))) zki (by simp[zlu]) fun w0 own0=> ?_
 have hsp:=zfP l l.length 0 (by omega) rfl
 have hV:zis l=ixT l l.length 0:=rfl
 rw[←hV]at hsp
 rcases hsp with⟨h,e⟩|⟨i0,hi,hil,hri,hk⟩
 ·have hck:ckT l=0:=by unfold ckT;rw[if_pos h]
  rw[e,hck]
  simp only[zlu,hT8,h,hl,zh,ze,List.length_map,List.take_length,Nat.le_refl,ql,go_sem,zc,seval,reduceIte,reduceCtorEq]
  rw[Nat.add_zero]
 have hck:ckT l=l.length - (i0+1):=by unfold ckT;rw[if_neg (by omega),hi,Int.toNat_natCast]
 rw[hck]
 have hne:=eq_false (show ¬(i0:Int)= -1 by omega)
 simp only[zlu,hT8,hi,hne,hl,zh,ze,List.length_map,List.take_length,Nat.le_refl,ql,go_sem,zc,seval,reduceIte,reduceCtorEq]
 refine⟨by omega,?_⟩
 refine zC.lp (α:=DeT) (fun a=>[(0,.ref 0 ver 0 l.length),(1,.fn 186 []),(5,vi a.i),(6,vi a.j)])
  (fun a=>hT8 a.es ver (clk+(a.j - (i0+1))))
  (fun a=>i0<a.j∧a.i<a.j∧a.j≤l.length∧a.es.length=l.length∧a.i=(kpT (l.take a.j)).length∧a.es.take a.i=kpT (l.take a.j)∧a.es.drop a.j=l.drop a.j) (fun a=>l.length - a.j) ⟨l,i0,i0+1⟩ ?_
  (St.cut ?_ ?_ ?_) fun a ha=> ?_
 ·refine⟨by dsimp only;omega,by dsimp only;omega,by dsimp only;omega,rfl,?_,?_,rfl⟩
  ·rw[JI l i0 hil,if_pos hri,hk];simp;omega
  ·rw[JI l i0 hil,if_pos hri,hk]
 ·simp[zu,zj,zq]
 ·simp[hT8]
 ·simp[hT8]
 obtain⟨es,i,j⟩:=a
 simp only at ha
 obtain⟨h0,h1,h2,h3,h4,h5,h6⟩:=ha
 by_cases hj:j=l.length
 ·subst hj
  rw[List.take_length]at h4 h5
  simp only[hT8,Int.lt_irrefl,h3,h5,go_sem,zc,seval,reduceIte,reduceCtorEq]
  exact⟨⟨by omega,by omega,by omega⟩,⟨by omega,by omega⟩,⟨by omega,by omega⟩,by omega⟩
 ·have e1:(j:Int)<(l.length:Int):=by omega
  have e0:(0:Int)≤(j:Int):=by omega
  have e0i:(0:Int)≤(i:Int):=by omega
  have e2:es.getD j .zero=l.getD j .zero:=by
   rw[List.getD_eq_getElem?_getD,List.getD_eq_getElem?_getD]
   have:es[j]? =l[j]? :=by
    have:=congrArg (fun l=>l[0]?) h6
    simpa using this
   rw[this]
  have hkt:=JI l j (by omega)
  have hg:=yf es j
  have h7:es.drop (j+1)=l.drop (j+1):=by
   have:=congrArg (fun l=>l.drop 1) h6
   simpa[List.drop_drop]using this
  rw[e2]at hg
  generalize l.getD j .zero=c at*
  cases hs:spB c with
  |false=>
   rw[hs]at hkt
   simp only[hT8,Tok.enc,Jv,Kc,e0,e0i,e1,hg,hs,h3,ql,go_sem,zc,seval,reduceIte,reduceCtorEq]
   refine⟨by omega,by omega,by omega,by omega,by omega,⟨es.set i c,i+1,j+1⟩,⟨by dsimp only;omega,by dsimp only;omega,by dsimp only;omega,by simp[h3],?_,?_,?_⟩,by dsimp only;omega,⟨by dsimp only;omega,by dsimp only;omega⟩,?_,by dsimp only;omega⟩
   ·dsimp only;rw[hkt,if_neg (by simp),List.length_append,←h4];rfl
   ·dsimp only
    rw[hkt,if_neg (by simp),zpm _ i (by simp;omega),List.take_set_of_le (by omega),h5]
    congr 2
    rw[List.getD_eq_getElem?_getD,List.getElem?_set_self (by omega)];rfl
   ·dsimp only;rw[List.drop_set_of_lt (by omega),h7]
   ·dsimp only;rw[List.map_set];rfl
  |true=>
   rw[hs]at hkt
   simp only[hT8,Tok.enc,Jv,Kc,e0,e0i,e1,hg,hs,h3,ql,go_sem,zc,seval,reduceIte,reduceCtorEq]
   exact⟨by omega,by omega,⟨es,i,j+1⟩,⟨by dsimp only;omega,by dsimp only;omega,by dsimp only;omega,h3,by dsimp only;rw[hkt,if_pos rfl];exact h4,by dsimp only;rw[hkt,if_pos rfl];exact h5,h7⟩,by dsimp only;omega,⟨rfl,by dsimp only;omega⟩,rfl,by dsimp only;omega⟩
end Go.Proofs.YtjcmoedalneldaaGreat
end
section
namespace Go.Proofs.YtjcmoedalneldaaGreat
open Go.Sx
set_option linter.unusedSimpArgs false
set_option linter.unusedVariables false
set_option maxHeartbeats 8000000
set_option maxRecDepth 100000
theorem zk6(l:List Tok):(l.map Tok.enc).all (fun e=>e.all V.isC)=true:=by
 rw[List.all_eq_true];intro e he;obtain⟨n,_,rfl⟩:=List.mem_map.1 he;rfl
theorem zlw(l:List Tok)(h0:l≠[])(hl:l.length≤1000000):ZL Tryz.prog 37 [zh l] 3 [vi 0,vs ⟨#[]⟩,vi 0] (l.map Tok.enc):=by
 cases l with
 |nil=>exact absurd rfl h0
 |cons c l=>
  refine ZL.of (Orc.nil _) XO [vi 0,vs ⟨#[]⟩,vi 0] (by simp[c37]) fun w0 own0=> ?_
  have h1:=eq_true (show(c::l).length≤1099511627776 by omega)
  have h2:=eq_true (show(c::l).length*32≤140737488355328 by omega)
  have hm:=fun S h=>ql S h (c::l)
  simp only[List.length_cons]at h1 h2
  simp only[List.map_cons]at hm
  simp -implicitDefEqProofs only[c37,zh,Heap.nilV,h1,h2,hm,List.map_cons,List.length_cons,List.length_map,Nat.le_refl,List.take_length,go_sem,zc,seval,reduceIte,reduceCtorEq]
def Ks:GSum Tryz.prog:=⟨37,fun args=>args= [zh (zg (args.getD 0 .any))]∧zg (args.getD 0 .any)≠[]∧(zg (args.getD 0 .any)).length≤1000000,3,[vi 0,vs ⟨#[]⟩,vi 0],
 fun args=>(zg (args.getD 0 .any)).map Tok.enc,fun args h=>(by
  have:=zlw (zg (args.getD 0 .any)) h.2.1 h.2.2
  rwa [←h.1]at this),fun args=>zk6 _⟩
theorem znk:Ks.f=37:=rfl
theorem zni(args:List V):Ks.D args=(args= [zh (zg (args.getD 0 .any))]∧zg (args.getD 0 .any)≠[]∧(zg (args.getD 0 .any)).length≤1000000):=rfl
theorem zjf:Ks.sz=3:=rfl
theorem znj:Ks.d= [vi 0,vs ⟨#[]⟩,vi 0]:=rfl
theorem znl(args:List V):Ks.r args=(zg (args.getD 0 .any)).map Tok.enc:=rfl
attribute [go_sem] znk zni zjf znj znl
def rsT(h:Heap):List Tok:=zg (.slc 3 (h.blk 0).es)
def dtP(args:List V)(h:Heap):Prop:=∃(l:List Tok)(ver clk:Nat),args= [.ref 0 ver 0 l.length,.fn 186 []]∧h=hT8 l ver clk∧l.length≤1000000
def dtV(h:Heap):V:=.ref 0 (h.blk 0).ver 0 (kpT (rsT h)).length
def dtH(h:Heap):Heap:=hT8 (kpT (rsT h)) (h.blk 0).ver (h.clk+ckT (rsT h))
theorem zrW(l:List Tok)(ver clk:Nat):rsT (hT8 l ver clk)=l:=by
 simp only[rsT,hT8,Heap.blk,List.getElem?_cons_zero,Option.getD_some,ze]
theorem zii(l:List Tok)(ver clk:Nat):dtV (hT8 l ver clk)= .ref 0 ver 0 (kpT l).length:=by unfold dtV;rw[zrW];rfl
theorem zih(l:List Tok)(ver clk:Nat):dtH (hT8 l ver clk)=hT8 (kpT l) ver (clk+ckT l):=by unfold dtH;rw[zrW];rfl
def Yb:ESum Tryz.prog:=⟨185,dtP,fun _ h=>dtV h,fun _ h=>dtH h,fun args h hp=>by
 obtain⟨l,ver,clk,rfl,rfl,h1⟩:=hp
 rw[zii,zih];exact zlG l ver clk h1⟩
theorem zp0(l:List Tok)(h0:l≠[])(hl:l.length≤1000000):zf Tryz.prog 179 [zh l] (zh (kpT l)):=by
 refine zf.of (Orc.gcons Ks (Orc.econs Yb (Orc.nil _))) zac (by simp[zh5]) fun w0 own0=> ?_
 have e1:Yb.f=185:=rfl
 have e2:∀args h,Yb.pre args h=dtP args h:=fun _ _=>rfl
 have e3:∀args h,Yb.v args h=dtV h:=fun _ _=>rfl
 have e4:∀args h,Yb.hp args h=dtH h:=fun _ _=>rfl
 have hP:dtP [.ref 0 0 0 l.length,.fn 186 []] (hT8 l 0 1):=⟨l,0,1,rfl,rfl,hl⟩
 have hV:=zii l 0 1
 have hH:=zih l 0 1
 simp only[hT8]at hP hV hH
 have htl:((kpT l).map Tok.enc).take (kpT l).length=(kpT l).map Tok.enc:=List.take_of_length_le (by simp)
 simp -implicitDefEqProofs only[zh5,zh,ze,h0,hl,hP,hV,hH,htl,ql,List.length_map,List.take_length,Nat.le_refl,e1,e2,e3,e4,GSum.pre,GSum.v,GSum.hp,Heap.alloc,List.nil_append,Nat.zero_add,zd,zb,za,go_sem,seval,reduceIte,reduceCtorEq]
theorem zq4:zf Tryz.prog 188 [zz,.fn 186 []] (vi (-1)):=by
 refine zf.of (Orc.nil _) zkj (by simp[zqc]) fun w0 own0=> ?_
 simp only[zqc,go_sem,zc,seval,reduceIte,reduceCtorEq]
 refine zC.lp (α:=Nat) (fun _=>[(7,vi 0),(8,vi 0)]) (fun _=>⟨[],0⟩) (fun _=>True) (fun j=>j) 0 trivial (St.cut ?_ ?_ ?_) fun j hj=> ?_
 ·simp[zu,zj,zq]
 ·simp
 ·rfl
 simp only[Int.lt_irrefl,go_sem,zc,seval,reduceIte,reduceCtorEq]
def zbK:Sum Tryz.prog:=⟨188,fun args=>args= [zz,.fn 186 []],fun _=>vi (-1),fun args h=>(by rw[h];exact zq4),true⟩
theorem zlF:zf Tryz.prog 185 [zz,.fn 186 []] zz:=by
 refine zf.of (Orc.cons zbK (Orc.nil _)) zki (by simp[zlu]) fun w0 own0=> ?_
 have e1:zbK.f=188:=rfl
 have e2:∀args,zbK.D args=(args= [zz,.fn 186 []]):=fun _=>rfl
 have e3:∀args,zbK.r args=vi (-1):=fun _=>rfl
 have e4:zbK.flat=true:=rfl
 simp only[zlu,e1,e2,e3,e4,go_sem,zc,seval,reduceIte,reduceCtorEq]
def Xe:Sum Tryz.prog:=⟨185,fun args=>args= [zz,.fn 186 []],fun _=>zz,fun args h=>(by rw[h];exact zlF),true⟩
theorem XP(cap:Nat):zf Tryz.prog 37 [.c (.slice none 0 cap)] zz:=by
 refine zf.of (Orc.nil _) XO (by simp[c37]) fun w0 own0=> ?_
 simp only[c37,Heap.nilV,Option.isNone_none,go_sem,zc,seval,reduceIte,reduceCtorEq]
def J9:Sum Tryz.prog:=⟨37,fun args=>∃cap,args= [.c (.slice none 0 cap)],fun _=>zz,fun args h=>(by obtain⟨cap,rfl⟩:=h;exact XP cap),true⟩
theorem zia(a:Addr)(cap:Nat):ZL Tryz.prog 37 [.c (.slice (some a) 0 cap)] 3 [vi 0,vs ⟨#[]⟩,vi 0] []:=by
 refine ZL.of (Orc.nil _) XO [vi 0,vs ⟨#[]⟩,vi 0] (by simp[c37]) fun w0 own0=> ?_
 simp only[c37,Heap.nilV,Option.isNone_some,go_sem,zc,seval,reduceIte,reduceCtorEq]
def Kr:GSum Tryz.prog:=⟨37,fun args=>∃a cap,args= [.c (.slice (some a) 0 cap)],3,[vi 0,vs ⟨#[]⟩,vi 0],fun _=>[],fun args h=>(by obtain⟨a,cap,rfl⟩:=h;exact zia a cap),fun _=>rfl⟩
theorem zvb(a:Option Addr)(cap:Nat):zf Tryz.prog 179 [.c (.slice a 0 cap)] (.slc 3 []):=by
 cases a with
 |none=>
  refine zf.rsub (r:=zz) ?_ fun F w v h=>PRep.nilS 3 h
  refine zf.of (Orc.cons J9 (Orc.cons Xe (Orc.nil _))) zac (by simp[zh5]) fun w0 own0=> ?_
  have a1:J9.f=37:=rfl
  have a2:∀cap,J9.D [.c (.slice none 0 cap)]=True:=fun cap=>eq_true ⟨cap,rfl⟩
  have a3:∀args,J9.r args=zz:=fun _=>rfl
  have a4:J9.flat=true:=rfl
  have e1:Xe.f=185:=rfl
  have e2:∀args,Xe.D args=(args= [zz,.fn 186 []]):=fun _=>rfl
  have e3:∀args,Xe.r args=zz:=fun _=>rfl
  have e4:Xe.flat=true:=rfl
  simp only[zh5,a1,a2,a3,a4,e1,e2,e3,e4,go_sem,zc,seval,reduceIte,reduceCtorEq]
 |some a=>
  refine zf.of (Orc.gcons Kr (Orc.econs Yb (Orc.nil _))) zac (by simp[zh5]) fun w0 own0=> ?_
  have a1:Kr.f=37:=rfl
  have a2:∀a cap,Kr.D [.c (.slice (some a) 0 cap)]=True:=fun a cap=>eq_true ⟨a,cap,rfl⟩
  have a3:∀args,Kr.r args= []:=fun _=>rfl
  have a4:Kr.sz=3:=rfl
  have a5:Kr.d= [vi 0,vs ⟨#[]⟩,vi 0]:=rfl
  have e1:Yb.f=185:=rfl
  have e2:∀args h,Yb.pre args h=dtP args h:=fun _ _=>rfl
  have e3:∀args h,Yb.v args h=dtV h:=fun _ _=>rfl
  have e4:∀args h,Yb.hp args h=dtH h:=fun _ _=>rfl
  have hP:dtP [.ref 0 0 0 0,.fn 186 []] (hT8 [] 0 1):=⟨[],0,1,rfl,rfl,Nat.zero_le _⟩
  have hV:dtV (hT8 [] 0 1)= .ref 0 0 0 0:=zii [] 0 1
  have hH:dtH (hT8 [] 0 1)=hT8 [] 0 1:=zih [] 0 1
  simp only[hT8,List.map_nil]at hP hV hH
  simp -implicitDefEqProofs only[zh5,hP,hV,hH,a1,a2,a3,a4,a5,List.length_nil,Nat.le_refl,e1,e2,e3,e4,GSum.pre,GSum.v,GSum.hp,Heap.alloc,List.nil_append,Nat.zero_add,zd,zb,za,go_sem,seval,reduceIte,reduceCtorEq]
theorem zvc(l:List Tok)(hl:l.length≤1000000):zf Tryz.prog 179 [zh l] (zh (kpT l)):=by
 cases l with
 |nil=>
  refine⟨(Yf zac).1,fun F w cargs hF hs hp=> ?_⟩
  have hv:=hp 0 (by simp)
  simp only[List.getD_cons_zero,zh,List.map_nil]at hv
  generalize hcv:cargs.getD 0 undef=cv at hv
  cases hv with
  |slc a n cap sz es b' o' ys hn' hc hsz ha hy hry=>
  simp only[List.length_nil]at hn'
  subst hn'
  refine(zvb a cap).2 F w cargs hF hs fun i hi=> ?_
  match i,hi with
  |0,_=>rw[hcv];exact .c _
  |i+1,hi=>exact absurd hi (by simp)
 |cons c l=>exact zp0 (c::l) (by simp) hl
def J4:Sum Tryz.prog:=⟨179,fun args=>args= [zh (zg (args.getD 0 .any))]∧((zg (args.getD 0 .any))).length≤1000000,fun args=>zh (kpT (zg (args.getD 0 .any))),fun args h=>by
 have:=zvc (zg (args.getD 0 .any)) h.2;rwa [←h.1]at this,false⟩
theorem zm1:J4.f=179:=rfl
theorem zm0(args:List V):J4.D args=(args= [zh (zg (args.getD 0 .any))]∧((zg (args.getD 0 .any))).length≤1000000):=rfl
theorem zd2:J4.flat=false:=rfl
theorem zm2(args:List V):J4.r args=zh (kpT (zg (args.getD 0 .any))):=rfl
attribute [go_sem] zm1 zm0 zd2 zm2
def Zk(o:Option Smp):V:=.tup [.agg (o.getD ⟨0,⟨#[]⟩,⟨#[]⟩⟩).enc,vb o.isSome]
def Qg(r:List Tok):Option Smp:=
 match r with
 | [a]=>if a.kind=2 then some ⟨5,a.text,⟨#[]⟩⟩else none
 | [a,b,c]=>if a.kind=2∧b.kind=11∧b.text=⟨#[61]⟩∧(c.kind=2∨c.kind=6)then some ⟨6,a.text,c.text⟩else none
 |_=>none
theorem zva(l:List Tok)(hl:l.length≤1000000):zf Tryz.prog 172 [zh l] (Zk (Jk l)):=by
 refine zf.of (Orc.cons J4 (Orc.cons Ya (Orc.nil _))) zv0 (by simp[zza]) fun w0 own0=> ?_
 have hk:Jk l=Qg (kpT l):=rfl
 rw[hk]
 clear hk
 simp -implicitDefEqProofs only[zza,zh,ze,hl,zd,zb,za,go_sem,seval,reduceIte,reduceCtorEq]
 have hz:Tok.zero.enc= [vi 0,vs ⟨#[]⟩,vi 0]:=rfl
 generalize kpT l=r
 match r with
 | []=>
   have hR:Qg []=none:=rfl
   rw[hR]
   simp -implicitDefEqProofs only[List.map_nil,List.map_cons,List.length_cons,List.length_nil,Zk,Tok.enc,hz,Option.getD_none,Option.isSome_none,Smp.enc,zm,zd,zb,za,go_sem,seval,reduceIte,reduceCtorEq]
 | [a]=>
   obtain⟨ak,at',an⟩:=a
   have hR:Qg [⟨ak,at',an⟩]=if ak=2 then some ⟨5,at',⟨#[]⟩⟩else none:=rfl
   rw[hR]
   by_cases h:ak=2
   ·subst h
    simp -implicitDefEqProofs only[List.map_nil,List.map_cons,List.length_cons,List.length_nil,Zk,Tok.enc,hz,if_true,Option.getD_some,Option.isSome_some,Smp.enc,zm,zd,zb,za,go_sem,seval,reduceIte,reduceCtorEq]
   ·have h:=eq_false h
    simp -implicitDefEqProofs only[List.map_nil,List.map_cons,List.length_cons,List.length_nil,Zk,Tok.enc,hz,h,if_false,Option.getD_none,Option.isSome_none,Smp.enc,zm,zd,zb,za,go_sem,seval,reduceIte,reduceCtorEq]
 | [a,b]=>
   have hR:Qg [a,b]=none:=rfl
   rw[hR]
   simp -implicitDefEqProofs only[List.map_nil,List.map_cons,List.length_cons,List.length_nil,Zk,Tok.enc,hz,Option.getD_none,Option.isSome_none,Smp.enc,zm,zd,zb,za,go_sem,seval,reduceIte,reduceCtorEq]
 | [a,b,c]=>
   obtain⟨ak,at',an⟩:=a
   obtain⟨bk,bt,bn⟩:=b
   obtain⟨ck,ct,cn⟩:=c
   have hd:∀w,dlm [⟨ak,at',an⟩,⟨bk,bt,bn⟩,⟨ck,ct,cn⟩] 1 w=decide (bk=11∧bt=w):=fun w=>by simp[dlm]
   have hdt:zg (.slc 3 [[vi ak,vs at',vi an],[vi bk,vs bt,vi bn],[vi ck,vs ct,vi cn]])= [⟨ak,at',an⟩,⟨bk,bt,bn⟩,⟨ck,ct,cn⟩]:=rfl
   have htk:zh [⟨ak,at',an⟩,⟨bk,bt,bn⟩,⟨ck,ct,cn⟩]= .slc 3 [[vi ak,vs at',vi an],[vi bk,vs bt,vi bn],[vi ck,vs ct,vi cn]]:=rfl
   have hd1:dlm [⟨ak,at',an⟩,⟨bk,bt,bn⟩,⟨ck,ct,cn⟩] 1 ⟨#[61]⟩=decide (bk=11∧bt=⟨#[61]⟩):=hd _
   have hR:Qg [⟨ak,at',an⟩,⟨bk,bt,bn⟩,⟨ck,ct,cn⟩]=if ak=2∧bk=11∧bt=⟨#[61]⟩∧(ck=2∨ck=6)then some ⟨6,at',ct⟩else none:=rfl
   rw[hR]
   have hf:∀ {P:Prop}[Decidable P]{x y:Option Smp},¬P→(if P then x else y)=y:=fun h=>if_neg h
   by_cases h:ak=2
   ·subst h
    cases hb:decide (bk=11∧bt=(⟨#[61]⟩:ByteArray))with
    |false=>
     have hb':=of_decide_eq_false hb
     rw[hb]at hd1
     rw[hf (fun hh=>hb' ⟨hh.2.1,hh.2.2.1⟩)]
     simp -implicitDefEqProofs only[List.map_nil,List.map_cons,List.length_cons,List.length_nil,Zk,Tok.enc,hz,hdt,htk,hd1,Option.getD_none,Option.isSome_none,Smp.enc,zm,zd,zb,za,go_sem,seval,reduceIte,reduceCtorEq]
    |true=>
     have hb':=of_decide_eq_true hb
     rw[hb]at hd1
     by_cases hc:ck=2
     ·subst hc
      rw[if_pos ⟨rfl,hb'.1,hb'.2,.inl rfl⟩]
      simp -implicitDefEqProofs only[List.map_nil,List.map_cons,List.length_cons,List.length_nil,Zk,Tok.enc,hz,hdt,htk,hd1,Option.getD_some,Option.isSome_some,Smp.enc,zm,zd,zb,za,go_sem,seval,reduceIte,reduceCtorEq]
     ·by_cases hc6:ck=6
      ·subst hc6
       rw[if_pos ⟨rfl,hb'.1,hb'.2,.inr rfl⟩]
       simp -implicitDefEqProofs only[List.map_nil,List.map_cons,List.length_cons,List.length_nil,Zk,Tok.enc,hz,hdt,htk,hd1,Option.getD_some,Option.isSome_some,Smp.enc,zm,zd,zb,za,go_sem,seval,reduceIte,reduceCtorEq]
      ·rw[hf (fun hh=>hh.2.2.2.elim hc hc6)]
       have hc:=eq_false hc;have hc6:=eq_false hc6
       simp -implicitDefEqProofs only[List.map_nil,List.map_cons,List.length_cons,List.length_nil,Zk,Tok.enc,hz,hdt,htk,hd1,hc,hc6,Option.getD_none,Option.isSome_none,Smp.enc,zm,zd,zb,za,go_sem,seval,reduceIte,reduceCtorEq]
   ·rw[hf (fun hh=>h hh.1)]
    have h:=eq_false h
    simp -implicitDefEqProofs only[List.map_nil,List.map_cons,List.length_cons,List.length_nil,Zk,Tok.enc,hz,hdt,htk,hd1,h,Option.getD_none,Option.isSome_none,Smp.enc,zm,zd,zb,za,go_sem,seval,reduceIte,reduceCtorEq]
 |a::b::c::e::r=>
  have hR:Qg (a::b::c::e::r)=none:=rfl
  rw[hR]
  have q1:=eq_false (show ¬((r.length+1+1+1+1:Nat):Int)=1 by omega)
  have q3:=eq_false (show ¬((r.length+1+1+1+1:Nat):Int)=3 by omega)
  simp -implicitDefEqProofs only[List.map_nil,List.map_cons,List.length_cons,List.length_nil,Zk,Tok.enc,hz,List.length_map,q1,q3,Option.getD_none,Option.isSome_none,Smp.enc,zm,zd,zb,za,go_sem,seval,reduceIte,reduceCtorEq]
end Go.Proofs.YtjcmoedalneldaaGreat
end
end
namespace Go.Proofs.YtjcmoedalneldaaGreat
open Go.Sx
set_option linter.unusedSimpArgs false
set_option linter.unusedVariables false
set_option maxHeartbeats 8000000
set_option maxRecDepth 100000
structure SaS where
 n:Nat
 clk:Nat
def zpK(v:List Tok):Prop:=∀k,k≤v.length→(yG v k).ok=true→k<(yG v k).to∧(yG v k).to≤v.length
theorem zdy{v:List Tok}{k:Nat}{w:ByteArray}(h:dlm v k w=true):k<v.length:=(of_decide_eq_true h).1
theorem zar.b{v:List Tok}(h:zar v):zpK v:=fun k hk=>(h.2 k hk).2
theorem zfi{v:List Tok}(hS:zpK v):∀(f k:Nat)(L:List Smp),k≤v.length→k≤(Jq v f k L).2∧(Jq v f k L).2≤v.length∧L.length≤(Jq v f k L).1.length∧(Jq v f k L).1.length+k≤L.length+(Jq v f k L).2
 |0,k,L,hk=>by simp only[Jq];omega
 |f+1,k,L,hk=>by
  simp only[Jq]
  split
  ·simp only;omega
  ·rename_i hc
   have hok:(yG v k).ok=true:=by
    cases h:(yG v k).ok with
    |true=>rfl
    |false=>exact absurd (.inl h) hc
   have h1:=hS k hk hok
   have h2:=zfi hS f (yG v k).to (L++ [(yG v k).s]) h1.2
   simp only[List.length_append,List.length_cons,List.length_nil]at h2
   omega
theorem zaw{v:List Tok}(hS:zpK v)(k:Nat)(hk:k≤v.length):k≤(jT v k).2∧(jT v k).2≤v.length∧(jT v k).1.length+k≤(jT v k).2:=by
 have:=zfi hS (v.length+1) k [] hk
 simp only[List.length_nil]at this
 unfold jT;omega
theorem za1{v:List Tok}:∀(f k:Nat)(n:Int),k≤v.length→k≤(Qy v f k n).2∧(Qy v f k n).2≤v.length
 |0,k,n,hk=>by simp only[Qy];omega
 |f+1,k,n,hk=>by
  simp only[Qy]
  split
  ·rename_i hc
   have hlt:k<v.length:=by
    rcases hc with h|h
    ·exact(yu h (by decide)).1
    ·exact zdy h.2
   have:=za1 (v:=v) f (k+1) (if knd v k=11 then 2 else if n<1 then 1 else n) (by omega)
   omega
  ·simp only;omega
theorem Qz{v:List Tok}(k:Nat)(hk:k≤v.length):(jz v k).2≤v.length∧((jz v k).1≠0→k<(jz v k).2):=by
 unfold jz
 refine⟨(za1 _ k 0 hk).2,fun hn=> ?_⟩
 simp only[Qy]at hn⊢
 split at hn
 ·rename_i hc
  rw[if_pos hc]
  have hlt:k<v.length:=by
   rcases hc with h|h
   ·exact(yu h (by decide)).1
   ·exact zdy h.2
  have:=za1 (v:=v) v.length (k+1) (if knd v k=11 then 2 else if(0:Int)<1 then 1 else 0) (by omega)
  omega
 ·exact absurd rfl hn
def zdM(w:List Tok):Nat→Nat→Int→List Cmp→Option (List Cmp)
 |0,_,_,_=>none
 |f+1,k,n,L=>
  if(jT w k).1.length=0∨L.length=64 then none
  else if(jT w k).2=w.length then some (L++ [⟨n,(jT w k).1⟩])
  else if(jz w (jT w k).2).1=0 then none
  else zdM w f (jz w (jT w k).2).2 (jz w (jT w k).2).1 (L++ [⟨n,(jT w k).1⟩])
def zkM(w:List Tok):Option Sel:=if ym w=true then none else zdM w (w.length+1) 0 0 []
def JO(v:List Tok):Option Sel:=zkM (Q0 v)
theorem zba{w:List Tok}(hS:zpK w)(hl:w.length≤1000000):∀(f k:Nat)(n:Int)(L:List Cmp)(s:Sel),k≤w.length→L.length≤64→(∀c∈L,c.l.length≤1000000)→zdM w f k n L=some s→s.length≤64∧∀c∈s,c.l.length≤1000000
 |0,_,_,_,_,_,_,_,h=>by cases h
 |f+1,k,n,L,s,hk,hL,hc,h=>by
  have h1:=zaw hS k hk
  simp only[zdM]at h
  split at h
  ·cases h
  rename_i hn
  have hc':∀c∈L++ [⟨n,(jT w k).1⟩],c.l.length≤1000000:=fun c hcm=>by
   rcases List.mem_append.1 hcm with hcm|hcm
   ·exact hc c hcm
   ·obtain rfl:=List.mem_singleton.1 hcm;dsimp only;omega
  have hL':(L++ [(⟨n,(jT w k).1⟩:Cmp)]).length≤64:=by simp;omega
  split at h
  ·obtain rfl:=Option.some.inj h;exact⟨hL',hc'⟩
  split at h
  ·cases h
  ·exact zba hS hl f _ _ _ s (Qz _ h1.2.1).1 hL' hc' h
theorem zAU{s:Sel}(h:s.length≤64∧∀c∈s,c.l.length≤1000000):okC s:=⟨by omega,fun i hi=>h.2 _ (by rw[List.getD_eq_getElem?_getD,List.getElem?_eq_getElem hi];exact List.getElem_mem _)⟩
def JR(l:List Tok):List (Int×Int)→Option (List Sel)
 | []=>some []
 |p::ps=>match JO ((l.take p.2.toNat).drop p.1.toNat)with|none=>none|some s=>(JR l ps).map (s:: ·)
def psC(l:List Tok):Option (List Sel):=if ym l=true then none else JR l (We l)
theorem zqv{v:List Tok}{k:Int}(h0:0≤k)(h1:k≤v.length)(h:zar v):zf Tryz.prog 128 [zh v,zD (zy v),vi k] (crV (jT v k.toNat)):=by
 have:=zfm v h k.toNat (by omega);rwa [Int.toNat_of_nonneg h0]at this
def Kt:Sum Tryz.prog:=⟨128,fun args=>args= [zh (zg (args.getD 0 .any)),zD (zy (zg (args.getD 0 .any))),vi ((args.getD 2 .any).int)]∧0≤((args.getD 2 .any).int)∧((args.getD 2 .any).int)≤((zg (args.getD 0 .any))).length∧zar (zg (args.getD 0 .any)),fun args=>crV (jT (zg (args.getD 0 .any)) (((args.getD 2 .any).int)).toNat),fun args h=>by
 have:=zqv h.2.1 h.2.2.1 h.2.2.2;rwa [←h.1]at this,false⟩
theorem znq:Kt.f=128:=rfl
theorem znp(args:List V):Kt.D args=(args= [zh (zg (args.getD 0 .any)),zD (zy (zg (args.getD 0 .any))),vi ((args.getD 2 .any).int)]∧0≤((args.getD 2 .any).int)∧((args.getD 2 .any).int)≤((zg (args.getD 0 .any))).length∧zar (zg (args.getD 0 .any))):=rfl
theorem zd9:Kt.flat=false:=rfl
theorem znr(args:List V):Kt.r args=crV (jT (zg (args.getD 0 .any)) (((args.getD 2 .any).int)).toNat):=rfl
attribute [go_sem] znq znp zd9 znr
theorem zrf{v:List Tok}{k:Int}(h0:0≤k)(h1:k≤v.length)(hl:v.length≤1000000):zf Tryz.prog 129 [zh v,vi k] (.tup [vi (jz v k.toNat).1,vi (jz v k.toNat).2]):=by
 have:=zwU v hl k.toNat (by omega);rwa [Int.toNat_of_nonneg h0]at this
def Kw:Sum Tryz.prog:=⟨129,fun args=>args= [zh (zg (args.getD 0 .any)),vi ((args.getD 1 .any).int)]∧0≤((args.getD 1 .any).int)∧((args.getD 1 .any).int)≤((zg (args.getD 0 .any))).length∧((zg (args.getD 0 .any))).length≤1000000,fun args=>.tup [vi (jz (zg (args.getD 0 .any)) (((args.getD 1 .any).int)).toNat).1,vi (jz (zg (args.getD 0 .any)) (((args.getD 1 .any).int)).toNat).2],fun args h=>by
 have:=zrf h.2.1 h.2.2.1 h.2.2.2;rwa [←h.1]at this,false⟩
theorem zn9:Kw.f=129:=rfl
theorem zn8(args:List V):Kw.D args=(args= [zh (zg (args.getD 0 .any)),vi ((args.getD 1 .any).int)]∧0≤((args.getD 1 .any).int)∧((args.getD 1 .any).int)≤((zg (args.getD 0 .any))).length∧((zg (args.getD 0 .any))).length≤1000000):=rfl
theorem zeo:Kw.flat=false:=rfl
theorem zoa(args:List V):Kw.r args= .tup [vi (jz (zg (args.getD 0 .any)) (((args.getD 1 .any).int)).toNat).1,vi (jz (zg (args.getD 0 .any)) (((args.getD 1 .any).int)).toNat).2]:=rfl
attribute [go_sem] zn9 zn8 zeo zoa
theorem Zh(S:Nat→Bool)(h:Heap):∀l:List Cmp,zA (zA (res S h 9)) (l.map Cmp.enc)=some (l.map Cmp.enc)
 | []=>rfl
 |s::l=>by simp only[List.map_cons,zA,Zh S h l,Cmp.enc];rfl
def zbb:Option Sel→V
 |none=>.tup [.agg [zz],vb false]
 |some s=>.tup [.agg (zU s),vb true]
def WI(o:Option Sel):V:=.tup [.agg (zU (o.getD [])),vb o.isSome]
theorem zc6(o:Option Sel){f:FuncId}{args:List V}(h:zf Tryz.prog f args (zbb o)):zf Tryz.prog f args (WI o):=by
 cases o with
 |some l=>exact h
 |none=>
  refine zf.rsub h fun F w v hp=> ?_
  cases hp with
  |tup cs _ hl hx=>
   refine .tup cs _ hl fun i hi=> ?_
   have:=hx i hi
   match i,hi with
   |0,_=>
    have this:PRep F w (cs.getD 0 undef) (.agg [zz]):=this
    show PRep F w (cs.getD 0 undef) (.agg [.slc 2 []])
    generalize cs.getD 0 undef=u at this
    cases this with
    |agg cs _ hl h1 hx=>
     refine .agg cs [.slc 2 []] hl h1 fun i hi=> ?_
     have:=hx i hi
     match i,hi with
     |0,_=>exact PRep.nilS 2 this
   |1,_=>exact this
structure OnS8 where
 k:Nat
 n:Int
 L:List Cmp
 f:Nat
 ver:Nat
 clk:Nat
theorem zw3(v:List Tok)(hv:v.length≤1000000)(hS:ym (Q0 v)=false→zar (Q0 v)):zf Tryz.prog 99 [zh v] (WI (JO v)):=by
 refine zc6 _ ?_
 unfold JO zkM
 have htr:=zeN v
 have htv:trV v= .tup [vi (trA v),vi (trB v)]:=rfl
 have hcut:List.take (trB v - trA v) (List.drop (trA v) (v.map Tok.enc))=(Q0 v).map Tok.enc:=by unfold Q0;rw[List.map_drop,List.map_take,List.drop_take]
 have hwl:=Q1 v
 have b1:=eq_true (show((trA v:Nat):Int)≤((trB v:Nat):Int)by omega)
 have b2:=eq_true (show((trB v:Nat):Int)≤(v.length:Int)by omega)
 have b0:=eq_true (show(0:Int)≤((trA v:Nat):Int)by omega)
 have hwl:(Q0 v).length≤1000000:=by omega
 generalize Q0 v=w at*
 generalize trA v=ta at*
 generalize trB v=tb at*
 cases hd:ym w with
 |true=>
  rw[if_pos rfl]
  have he:jI w=3:=by unfold jI;rw[if_pos hd]
  refine zf.of (Orc.cons KM (Orc.cons KB (Orc.cons Kt (Orc.cons Kw (Orc.nil _))))) zqh (by simp[c99]) fun w0 own0=> ?_
  simp only[c99,zh,zD,ZO,ZP,ze,zT,hv,hwl,htv,hcut,b0,b1,b2,he,Int.toNat_natCast,zd,zb,za,yy,yx,zP,yz,go_sem,seval,reduceIte,reduceCtorEq]
  refine zC.lp (α:=Nat) (fun x=>[(2,.ptr 0 0 0 0),(7,vi 3)]) (fun x=>⟨[⟨0,1,[[zz]],false,[]⟩,⟨1,1,[[zz]],false,[]⟩],2⟩) (fun _=>True) (fun x=>x) 0 trivial (St.cut ?_ ?_ ?_) fun x hx=> ?_
  ·simp[zu,zj,zq]
  ·simp[Heap.alloc]
  ·rfl
  simp only[zbb,zU,zm,zd,zb,za,yy,yx,zP,yz,go_sem,seval,reduceIte,reduceCtorEq]
 |false=>
  rw[if_neg (by simp)]
  have he:jI w=0:=by unfold jI;rw[hd];rfl
  have hS:=hS hd
  generalize hR:zdM w (w.length+1) 0 0 []=R
  refine zf.of (Orc.cons KM (Orc.cons KB (Orc.cons Kt (Orc.cons Kw (Orc.nil _))))) zqh (by simp[c99]) fun w0 own0=> ?_
  simp only[c99,zh,zD,ZO,ZP,ze,zT,hv,hwl,htv,hcut,b0,b1,b2,he,Int.toNat_natCast,zd,zb,za,yy,yx,zP,yz,go_sem,seval,reduceIte,reduceCtorEq]
  refine zC.lp (α:=OnS8) (fun x=>[(0,.slc 3 (w.map Tok.enc)),(2,.ptr 0 0 0 0),(6,.slc 1 ((zy w).map fun n=>[vi n])),(7,vi 0),(8,.ptr 1 1 0 0),(9,vi x.n),(10,vi x.k)])
   (fun x=>⟨[⟨0,1,[[zz]],false,[]⟩,⟨1,1,[[.ref 2 x.ver 0 x.L.length]],false,[]⟩,⟨x.ver,2,x.L.map Cmp.enc,false,[vi 0,zz]⟩],x.clk⟩)
   (fun x=>x.k≤w.length∧x.L.length≤64∧w.length+1≤x.f+x.k∧zdM w x.f x.k x.n x.L=R) (fun x=>w.length+1 - x.k) ⟨0,0,[],w.length+1,2,3⟩
   ⟨Nat.zero_le _,by simp,by dsimp only;omega,hR⟩ (St.cell 1 0 0 2 [vi 0,zz] rfl rfl (St.cut ?_ ?_ ?_)) fun x hx=> ?_
  ·simp[zu,zj,zq]
  ·simp[Heap.alloc]
  ·rfl
  obtain⟨k,n,L,f,ver,clk⟩:=x
  obtain⟨h1,h2,h3,h4⟩:=hx
  simp only at h1 h2 h3 h4
  obtain⟨f,rfl⟩:∃g,f=g+1:=⟨f - 1,by omega⟩
  have e0:(0:Int)≤(k:Int):=by omega
  have e1:(k:Int)≤(w.length:Int):=by omega
  have htl:L.take L.length=L:=List.take_length
  have hc:=zaw hS.b k h1
  have hje:∀cl:List Smp,L.map Cmp.enc++ [[.c (.int .i64 n),.slc 3 (cl.map Smp.enc)]]=(L++ [(⟨n,cl⟩:Cmp)]).map Cmp.enc:=fun cl=>by simp[Cmp.enc]
  have hT:∀cl:List Smp,List.take (L.length+1) (L++ [(⟨n,cl⟩:Cmp)])=L++ [⟨n,cl⟩]:=fun cl=>List.take_of_length_le (by simp)
  simp only[zdM]at h4
  generalize hcr:jT w k=r at*
  obtain⟨cl,to⟩:=r
  simp only at hc h4
  have e2:(0:Int)≤(to:Int):=by omega
  have e3:(to:Int)≤(w.length:Int):=by omega
  have hlk:=Qz (v:=w) to hc.2.1
  generalize hlr:jz w to=q at*
  obtain⟨m,k2⟩:=q
  simp only at hlk h4
  by_cases c1:cl.length=0
  ·rw[if_pos (.inl c1)]at h4
   subst h4
   have c1':=eq_false (show ¬(0:Int)<(cl.length:Int)by omega)
   simp only[e0,e1,c1',hcr,hS,htl,crV,zbb,zU,zm,yN,Zh,hje,hT,zh,zD,ze,zT,Int.toNat_natCast,zd,zb,za,yy,yx,zP,yz,go_sem,seval,reduceIte,reduceCtorEq]
  have c1':=eq_true (show(0:Int)<(cl.length:Int)by omega)
  by_cases c2:L.length=64
  ·rw[if_pos (.inr c2)]at h4
   subst h4
   have c2':=eq_true (show(L.length:Int)=64 by omega)
   simp only[e0,e1,c1',c2',hcr,hS,htl,crV,zbb,zU,zm,yN,Zh,hje,hT,zh,zD,ze,zT,Int.toNat_natCast,zd,zb,za,yy,yx,zP,yz,go_sem,seval,reduceIte,reduceCtorEq]
  rw[if_neg (by omega)]at h4
  have c2':=eq_false (show ¬(L.length:Int)=64 by omega)
  by_cases c3:to=w.length
  ·rw[if_pos c3]at h4
   subst h4
   have c3':=eq_true (show(to:Int)=(w.length:Int)by omega)
   simp only[e0,e1,c1',c2',c3',hcr,hS,htl,crV,zbb,zU,zm,yN,Zh,hje,hT,zh,zD,ze,zT,Int.toNat_natCast,zd,zb,za,yy,yx,zP,yz,go_sem,seval,reduceIte,reduceCtorEq]
   rw[if_pos (by simp)]
   exact⟨⟨Nat.le_refl _,by omega,by omega⟩,rfl⟩
  rw[if_neg c3]at h4
  have c3':=eq_false (show ¬(to:Int)=(w.length:Int)by omega)
  by_cases c4:m=0
  ·rw[if_pos c4]at h4
   subst h4
   have c4':=eq_true c4
   simp only[e0,e1,e2,e3,hwl,hlr,c1',c2',c3',c4',hcr,hS,htl,crV,zbb,zU,zm,yN,Zh,hje,hT,zh,zD,ze,zT,Int.toNat_natCast,zd,zb,za,yy,yx,zP,yz,go_sem,seval,reduceIte,reduceCtorEq]
   exact⟨Nat.le_refl _,by omega,by omega⟩
  rw[if_neg c4]at h4
  have c4':=eq_false c4
  simp only[e0,e1,e2,e3,hwl,hlr,c1',c2',c3',c4',hcr,hS,htl,crV,zbb,zU,zm,yN,Zh,hje,hT,zh,zD,ze,zT,Int.toNat_natCast,zd,zb,za,yy,yx,zP,yz,go_sem,seval,reduceIte,reduceCtorEq]
  have hm:=hlk.2 c4
  exact⟨⟨Nat.le_refl _,by omega,by omega⟩,⟨k2,m,L++ [⟨n,cl⟩],f,_,_⟩,⟨hlk.1,by simp;omega,by dsimp only;omega,h4⟩,by dsimp only;omega,⟨rfl,rfl⟩,⟨⟨rfl,by simp⟩,rfl,rfl⟩,rfl⟩
def zpJ(v:List Tok):Prop:=zf Tryz.prog 99 [zh v] (WI (JO v))
theorem zw5{v:List Tok}(h:zpJ v):zf Tryz.prog 99 [zh v] (WI (JO v)):=h
def Kx:Sum Tryz.prog:=⟨99,fun args=>args= [zh (zg (args.getD 0 .any))]∧zpJ (zg (args.getD 0 .any)),fun args=>WI (JO (zg (args.getD 0 .any))),fun args h=>by
 have:=zw5 h.2;rwa [←h.1]at this,false⟩
theorem zoo:Kx.f=99:=rfl
theorem zon(args:List V):Kx.D args=(args= [zh (zg (args.getD 0 .any))]∧zpJ (zg (args.getD 0 .any))):=rfl
theorem zet:Kx.flat=false:=rfl
theorem zop(args:List V):Kx.r args=WI (JO (zg (args.getD 0 .any))):=rfl
attribute [go_sem] zoo zon zet zop
def WJ:Option (List Sel)→V
 |none=>.tup [zz,vb false]
 |some xs=>.tup [kU xs,vb true]
def zbj(o:Option (List Sel)):V:=.tup [kU (o.getD []),vb o.isSome]
theorem zc8(o:Option (List Sel)){f:FuncId}{args:List V}(h:zf Tryz.prog f args (WJ o)):zf Tryz.prog f args (zbj o):=by
 cases o with
 |some l=>exact h
 |none=>
  refine zf.rsub h fun F w v hp=> ?_
  cases hp with
  |tup cs _ hl hx=>
   refine .tup cs _ hl fun i hi=> ?_
   have:=hx i hi
   match i,hi with
   |0,_=>exact PRep.nilS 1 this
   |1,_=>exact this
theorem zdO(l:List Tok):∀(ps:List Int)(b:Int),0≤b→b≤l.length→ps.Pairwise (· < ·)→(∀p∈ps,b≤p∧p<l.length)→∀q∈rsK l 16 l.length b ps,0≤q.1∧q.1≤q.2∧q.2≤l.length
 | [],b,h0,h1,_,_,q,hq=>by simp only[rsK,List.mem_singleton]at hq;subst hq;exact⟨h0,h1,Int.le_refl _⟩
 |p::ps,b,h0,h1,hw,hm,q,hq=>by
  obtain⟨hw1,hw2⟩:=List.pairwise_cons.1 hw
  have hp:=hm p (by simp)
  simp only[rsK]at hq
  split at hq
  ·rcases List.mem_cons.1 hq with rfl|hq
   ·exact⟨h0,hp.1,by dsimp only;omega⟩
   ·exact zdO l ps (p+1) (by omega) (by omega) hw2 (fun x hx=>⟨by have:=hw1 x hx;omega,(hm x (by simp[hx])).2⟩) q hq
  ·exact zdO l ps b h0 h1 hw2 (fun x hx=>hm x (by simp[hx])) q hq
theorem zdN(l:List Tok)(to:Int):∀(ps:List Int)(b:Int),(rsK l 16 to b ps).length≤ps.length+1
 | [],b=>by simp[rsK]
 |p::ps,b=>by
  simp only[rsK]
  split
  ·have:=zdN l to ps (p+1);simp;omega
  ·have:=zdN l to ps b;simp;omega
theorem zbt{l:List Tok}(hd:ym l=false):(We l).length≤l.length+1∧∀q∈We l,0≤q.1∧q.1≤q.2∧q.2≤l.length:=by
 have hmem:=zan hd (l.length+1) 0
 have hpw:=ziK hd (l.length+1) 0
 have hln:=zam hd (l.length+1) 0 (Nat.zero_le _)
 rw[show((0:Nat):Int)=0 from rfl]at hmem hpw hln
 rw[zkX hd]
 exact⟨by have:=zdN l l.length (plR (zy l) l.length (l.length+1) 0) 0;omega,zdO l _ 0 (Int.le_refl _) (by omega) hpw hmem⟩
theorem zmk(l:List Tok)(P:List (Int×Int))(k:Nat)(h:k<P.length):JR l (P.drop k)=match JO ((l.take (P.getD k (0,0)).2.toNat).drop (P.getD k (0,0)).1.toNat)with|none=>none|some s=>(JR l (P.drop (k+1))).map (s:: ·):=by
 rw[List.drop_eq_getElem_cons h,List.getD_eq_getElem?_getD,List.getElem?_eq_getElem h];rfl
theorem zaO(l:List (Int×Int))(i:Nat):(l.map fun p=>[vi p.1,vi p.2]).getD i [vi 0,vi 0]= [vi (l.getD i (0,0)).1,vi (l.getD i (0,0)).2]:=by
 have:[vi 0,vi 0]=(fun p:Int×Int=>[vi p.1,vi p.2]) (0,0):=rfl
 rw[this]
 simp only[List.getD_eq_getElem?_getD,List.getElem?_map]
 cases l[i]? <;>rfl
theorem K8(S:Nat→Bool)(h:Heap):∀l:List Sel,zA (zA (res S h 10)) (l.map zU)=some (l.map zU)
 | []=>rfl
 |s::l=>by simp only[List.map_cons,zA,K8 S h l,zU];rfl
structure QrS8 where
 k:Nat
 out:List Sel
 ver:Nat
 clk:Nat
theorem zmf(l:List Tok)(h1:l.length≤1000000)(hO:ym l=false→∀q∈We l,zpJ ((l.take q.2.toNat).drop q.1.toNat)):zf Tryz.prog 63 [zh l] (zbj (psC l)):=by
 refine zc8 _ ?_
 unfold psC
 cases hd:ym l with
 |true=>
  rw[if_pos rfl]
  have he:jI l=3:=by unfold jI;rw[if_pos hd]
  refine zf.of (Orc.cons KM (Orc.cons YA (Orc.cons Kx (Orc.nil _)))) zqe (by simp[c63]) fun w0 own0=> ?_
  simp only[c63,zh,zD,ZO,ZP,ze,zT,h1,he,WJ,zd,zb,za,yy,yx,zP,yz,ZD,ZC,kp,ZE,go_sem,seval,reduceIte,reduceCtorEq]
 |false=>
  rw[if_neg (by simp)]
  have hO:=hO hd
  have he:jI l=0:=by unfold jI;rw[hd];rfl
  have hsp:=zmd hd
  obtain⟨hPl,hPr⟩:=zbt hd
  have hfd:zfB l (zy l):=⟨h1,fun i=>by have:=Jz l i;omega⟩
  generalize hP:We l=P at*
  generalize hR:JR l P=R
  refine zf.of (Orc.cons KM (Orc.cons YA (Orc.cons Kx (Orc.nil _)))) zqe (by simp[c63]) fun w0 own0=> ?_
  simp only[c63,zh,zD,ZO,ZP,ze,zT,h1,he,hfd,hsp,prs,zd,zb,za,yy,yx,zP,yz,ZD,ZC,kp,ZE,go_sem,seval,reduceIte,reduceCtorEq]
  refine zC.lp (α:=QrS8) (fun a=>[(0,.slc 3 (l.map Tok.enc)),(6,.ref 0 a.ver 0 a.out.length),(22,.slc 2 (P.map fun p=>[vi p.1,vi p.2])),(23,vi P.length),(24,vi a.k)])
   (fun a=>⟨[⟨a.ver,1,a.out.map zU,false,[zz]⟩],a.clk⟩) (fun a=>a.k≤P.length∧a.out.length=a.k∧(JR l (P.drop a.k)).map (a.out++ ·)=R) (fun a=>P.length - a.k) ⟨0,[],0,1⟩
   ⟨Nat.zero_le _,rfl,by rw[←hR];simp only[List.drop_zero,List.nil_append];cases JR l P<;>rfl⟩ (St.nil 6 1 [zz] (by simp[zj]) (St.cut ?_ ?_ ?_)) fun a ha=> ?_
  ·simp[zu,zj,zq]
  ·simp[Heap.alloc]
  ·rfl
  obtain⟨k,out,ver,clk⟩:=a
  obtain⟨h2,h3,h4⟩:=ha
  simp only at h2 h3 h4
  have hot:out.take out.length=out:=List.take_length
  by_cases hk:k=P.length
  ·subst hk
   rw[List.drop_length]at h4
   simp only[JR,Option.map_some,List.append_nil]at h4
   subst h4
   simp only[Int.lt_irrefl,hot,WJ,kU,K8,Nat.le_refl,zd,zb,za,yy,yx,zP,yz,ZD,ZC,kp,ZE,go_sem,seval,reduceIte,reduceCtorEq]
  ·have e1:(k:Int)<(P.length:Int):=by omega
   have e0:(0:Int)≤(k:Int):=by omega
   have hlt:k<P.length:=by omega
   rw[zmk l P k hlt]at h4
   have hg:=zaO P k
   have hmem:P.getD k (0,0)∈P:=by rw[List.getD_eq_getElem?_getD,List.getElem?_eq_getElem hlt];exact List.getElem_mem _
   have hr:=hPr _ hmem
   have hok:=hO _ hmem
   clear hmem
   generalize P.getD k (0,0)=p at*
   obtain⟨a,b⟩:=p
   simp only at hr h4 hg hok
   obtain⟨a,rfl⟩:∃n:Nat,a=n:=⟨a.toNat,by omega⟩
   obtain⟨b,rfl⟩:∃n:Nat,b=n:=⟨b.toNat,by omega⟩
   obtain⟨r1,r2,r3⟩:=hr
   have hcut:List.take (b - a) (List.drop a (l.map Tok.enc))=((l.take b).drop a).map Tok.enc:=by rw[List.map_drop,List.map_take,List.drop_take]
   simp only[Int.toNat_natCast]at h4 hok
   generalize(l.take b).drop a=v at*
   cases ho:JO v with
   |none=>
    rw[ho]at h4
    simp only[Option.map_none]at h4
    subst h4
    simp only[e0,e1,hg,r1,r2,r3,hcut,hok,ho,WI,zU,Option.getD_none,Option.isSome_none,WJ,zh,ze,zd,zb,za,yy,yx,zP,yz,ZD,ZC,kp,ZE,go_sem,seval,reduceIte,reduceCtorEq]
   |some s=>
    rw[ho]at h4
    simp only at h4
    simp only[e0,e1,hg,r1,r2,r3,hcut,hok,ho,hot,WI,zU,Option.getD_some,Option.isSome_some,zh,ze,zd,zb,za,yy,yx,zP,yz,ZD,ZC,kp,ZE,go_sem,seval,reduceIte,reduceCtorEq]
    refine⟨⟨Nat.le_refl _,by omega,by omega⟩,by omega,⟨k+1,out++ [s],_,_⟩,⟨by dsimp only;omega,by simp;omega,?_⟩,by dsimp only;omega,⟨⟨rfl,by simp⟩,by dsimp only;omega⟩,⟨rfl,by simp[zU]⟩,rfl⟩
    rw[←h4];cases JR l (P.drop (k+1))<;>simp
end Go.Proofs.YtjcmoedalneldaaGreat
section
section
namespace Go.Proofs.YtjcmoedalneldaaGreat
open Go.Sx
set_option linter.unusedSimpArgs false
set_option linter.unusedVariables false
set_option maxHeartbeats 8000000
set_option maxRecDepth 100000
def J2:Sum Tryz.prog:=⟨172,fun args=>args= [zh (zg (args.getD 0 .any))]∧((zg (args.getD 0 .any))).length≤1000000,fun args=>Zk (Jk (zg (args.getD 0 .any))),fun args h=>by
 have:=zva (zg (args.getD 0 .any)) h.2;rwa [←h.1]at this,false⟩
theorem zmV:J2.f=172:=rfl
theorem zmU(args:List V):J2.D args=(args= [zh (zg (args.getD 0 .any))]∧((zg (args.getD 0 .any))).length≤1000000):=rfl
theorem zd0:J2.flat=false:=rfl
theorem zmW(args:List V):J2.r args=Zk (Jk (zg (args.getD 0 .any))):=rfl
attribute [go_sem] zmV zmU zd0 zmW
theorem Jw{v:List Tok}{k:Nat}{w:ByteArray}(h:(v.getD k .zero).kind≠11):dlm v k w=false:=decide_eq_false fun hh=>h hh.2.1
theorem zqo{t:Tok}(h:t.kind=12)(h2:t.text=⟨#[91]⟩):¬zF t=⟨#[]⟩:=by
 unfold zF;rw[h,h2];decide
theorem zaF{v:List Tok}(hd:ym v=false){k:Nat}(hk:knd v k=12)(ht:txt v k=⟨#[91]⟩):(k:Int)<(zy v).getD k 0∧(zy v).getD k 0≤v.length:=by
 obtain⟨h1,h2⟩:=yu hk (by decide)
 rw[Ze v hd k h1]
 rcases Jy v k h1 with h|h
 ·unfold Qh at h
  rw[if_neg (zqo h2 ht)]at h
  have:=(zim v k (v.length - (k+1)) (k+1) (by omega)).1
  omega
 ·exact h
theorem zmC(v:List Tok)(hl:v.length≤1000000)(hd:ym v=false)(k:Nat)(hk:k≤v.length):zf Tryz.prog 154 [zh v,zD (zy v),vi k] (srV (yG v k)):=by
 by_cases hn:knd v k=12
 case neg=>exact ziW v hl k hk hn
 obtain⟨hkl,hk12⟩:=yu hn (by decide)
 have h1:dlm v k ⟨#[42]⟩=false:=Jw (by omega)
 have h4:dlm v k ⟨#[46]⟩=false:=Jw (by omega)
 have h2:=eq_false (show ¬knd v k=2 by omega)
 have h3:=eq_false (show ¬knd v k=5 by omega)
 have e0:(0:Int)≤(k:Int):=by omega
 have e2:(k:Int)<(v.length:Int):=by omega
 have hg:=yf v k
 have hel:=zaH hd
 have e3:=eq_true (show(k:Int)<((zy v).length:Int)by omega)
 have hgi:=qg (zy v) k
 by_cases ht:txt v k=⟨#[91]⟩
 ·have hE:=zaF hd hn ht
  obtain⟨e,he⟩:∃e:Nat,(zy v).getD k 0=e:=⟨((zy v).getD k 0).toNat,by omega⟩
  have ht':(v.getD k .zero).text=⟨#[91]⟩:=ht
  by_cases h5:e<v.length
  ·have hr:yG v k=match Jk ((v.take e).drop (k+1))with
    |some s=>⟨s,e+1,true⟩
    |none=>⟨⟨0,⟨#[]⟩,⟨#[]⟩⟩,e+1,false⟩:=by
    unfold yG;rw[h1,h4,if_neg (by simp),if_neg (by omega),if_neg (by omega),if_neg (by simp),if_pos ⟨hn,ht,by omega⟩,he];rfl
   rw[hr]
   rw[he]at hgi
   have hcut:List.take (e - (k+1)) (List.drop (k+1) (v.map Tok.enc))=((v.take e).drop (k+1)).map Tok.enc:=by rw[List.map_drop,List.map_take,List.drop_take]
   have hln:((v.take e).drop (k+1)).length≤1000000:=by simp;omega
   generalize(v.take e).drop (k+1)=u at*
   refine zf.of (Orc.cons Y0 (Orc.cons Ya (Orc.cons J2 (Orc.nil _)))) zab (by simp[KU]) fun w0 own0=> ?_
   have hn:=eq_true hn;have ht':=eq_true ht'
   have e5:=eq_true (show(e:Int)<(v.length:Int)by omega)
   have t1:((k:Int)+1).toNat=k+1:=by omega
   have b1:=eq_true (show(k:Int)+1≤(e:Int)by omega)
   have b2:=eq_true (show(e:Int)≤(v.length:Int)by omega)
   have b0:=eq_true (show(0:Int)≤(k:Int)+1 by omega)
   have o1:=eq_true (show(k:Int)+1≤9223372036854775807 by omega)
   have o2:=eq_true (show -9223372036854775808≤(k:Int)+1 by omega)
   cases ha:Jk u with
   |none=>
    simp -implicitDefEqProofs only[KU,srV,zh,zD,txt,ze,e0,e2,e3,e5,t1,b0,b1,b2,o1,o2,hgi,he,hcut,hln,ha,Zk,Option.getD_none,Option.isSome_none,h1,h2,h3,h4,hn,ht',hg,Int.toNat_natCast,Smp.enc,Tok.enc,zm,List.length_map,zd,zb,za,go_sem,seval,reduceIte,reduceCtorEq]
    exact⟨by omega,rfl⟩
   |some s=>
    obtain⟨sk,st,sv⟩:=s
    simp -implicitDefEqProofs only[KU,srV,zh,zD,txt,ze,e0,e2,e3,e5,t1,b0,b1,b2,o1,o2,hgi,he,hcut,hln,ha,Zk,Option.getD_some,Option.isSome_some,h1,h2,h3,h4,hn,ht',hg,Int.toNat_natCast,Smp.enc,Tok.enc,zm,List.length_map,zd,zb,za,go_sem,seval,reduceIte,reduceCtorEq]
    exact⟨by omega,rfl⟩
  ·have hr:yG v k=⟨⟨0,⟨#[]⟩,⟨#[]⟩⟩,k,false⟩:=by unfold yG;rw[h1,h4,if_neg (by simp),if_neg (by omega),if_neg (by omega),if_neg (by simp),if_neg (fun hh=>h5 (by omega))]
   rw[hr]
   rw[he]at hgi
   refine zf.of (Orc.cons Y0 (Orc.cons Ya (Orc.nil _))) zab (by simp[KU]) fun w0 own0=> ?_
   have hn:=eq_true hn;have ht':=eq_true ht'
   have e5:=eq_false (show ¬(e:Int)<(v.length:Int)by omega)
   simp -implicitDefEqProofs only[KU,srV,zh,zD,txt,ze,e0,e2,e3,e5,hgi,he,h1,h2,h3,h4,hn,ht',hg,Int.toNat_natCast,Smp.enc,Tok.enc,zm,List.length_map,zd,zb,za,go_sem,seval,reduceIte,reduceCtorEq]
 ·have hr:yG v k=⟨⟨0,⟨#[]⟩,⟨#[]⟩⟩,k,false⟩:=by unfold yG;rw[h1,h4,if_neg (by simp),if_neg (by omega),if_neg (by omega),if_neg (by simp),if_neg (fun hh=>ht hh.2.1)]
  rw[hr]
  refine zf.of (Orc.cons Y0 (Orc.cons Ya (Orc.nil _))) zab (by simp[KU]) fun w0 own0=> ?_
  have ht':¬(v.getD k .zero).text=⟨#[91]⟩:=ht
  have hn:=eq_true hn;have ht':=eq_false ht'
  simp -implicitDefEqProofs only[KU,srV,zh,zD,txt,ze,e0,e2,e3,h1,h2,h3,h4,hn,ht',hg,Int.toNat_natCast,Smp.enc,Tok.enc,zm,zd,zb,za,go_sem,seval,reduceIte,reduceCtorEq]
theorem JY{v:List Tok}(hd:ym v=false):zpK v:=fun k hk=>by
 unfold yG
 split
 ·rename_i h1;intro _;have:=zdy h1;dsimp only;omega
 split
 ·rename_i h1;intro _;have:=(yu h1 (by decide)).1;dsimp only;omega
 split
 ·rename_i h1;intro _;have:=(yu h1 (by decide)).1;dsimp only;omega
 split
 ·rename_i h1;intro _;have:=(yu h1.2 (by decide)).1;dsimp only;omega
 split
 ·rename_i h1
  have:=zaF hd h1.1 h1.2.1
  have:=h1.2.2
  split
  ·intro _;dsimp only;omega
  ·intro hh;cases hh
 ·intro hh;cases hh
theorem zr4{v:List Tok}(hl:v.length≤1000000)(hd:ym v=false):zar v:=⟨hl,fun k hk=>⟨zmC v hl hd k hk,JY hd k hk⟩⟩
theorem zrC{v:List Tok}(hv:v.length≤1000000):zpJ v:=zw3 v hv fun hd=>zr4 (by have:=Q1 v;omega) hd
theorem ziJ(l:List Tok)(h:l.length≤1000000):zf Tryz.prog 63 [zh l] (zbj (psC l)):=
 zmf l h fun _ q hq=>zrC (by simp;omega)
def Xq:Sum Tryz.prog:=⟨63,fun args=>args= [zh (zg (args.getD 0 .any))]∧((zg (args.getD 0 .any))).length≤1000000,fun args=>zbj (psC (zg (args.getD 0 .any))),fun args h=>by
 have:=ziJ (zg (args.getD 0 .any)) h.2;rwa [←h.1]at this,false⟩
theorem zou:Xq.f=63:=rfl
theorem zot(args:List V):Xq.D args=(args= [zh (zg (args.getD 0 .any))]∧((zg (args.getD 0 .any))).length≤1000000):=rfl
theorem zev:Xq.flat=false:=rfl
theorem zov(args:List V):Xq.r args=zbj (psC (zg (args.getD 0 .any))):=rfl
attribute [go_sem] zou zot zev zov
end Go.Proofs.YtjcmoedalneldaaGreat
end
section
namespace Go.Proofs.YtjcmoedalneldaaGreat
open Go.Sx
set_option linter.unusedSimpArgs false
set_option linter.unusedVariables false
set_option maxHeartbeats 8000000
set_option maxRecDepth 100000
structure PrS8 where
 n:Nat
 out:List Tok
 ver:Nat
 clk:Nat
end Go.Proofs.YtjcmoedalneldaaGreat
end
end
namespace Go.Proofs.YtjcmoedalneldaaGreat
open Go.Sx
set_option linter.unusedSimpArgs false
set_option linter.unusedVariables false
set_option maxHeartbeats 8000000
set_option maxRecDepth 100000
theorem zAN(L:List ByteArray)(u:ByteArray)(h:L.length≤1000000):∃S:Sum Tryz.prog,S.f=57∧S.flat=true∧S.D [.slc 1 (L.map fun s=>[vs s]),.c (.string u)]∧S.r [.slc 1 (L.map fun s=>[vs s]),.c (.string u)]=vi (ixS L u):=
 ⟨⟨57,fun args=>args= [YX L,vs u],fun _=>vi (ixS L u),fun args h'=>by rw[h'];exact zq5 L u h,true⟩,rfl,rfl,rfl,rfl⟩
theorem zut(s:ByteArray)(h:s.size≤1000000):zf Tryz.prog 160 [vs s] (vi (whN s)):=by
 unfold whN
 generalize hs:jA s=u
 obtain⟨S,s1,s2,s3,s4⟩:=zAN (⟨#[]⟩::whs) u (by decide)
 refine zf.of (Orc.cons S (Orc.cons QP (Orc.nil _))) zvY (by simp[zy7]) fun w0 own0=> ?_
 generalize ixS (⟨#[]⟩::whs) u=r at*
 simp only[whs,List.map_cons,List.map_nil]at s3 s4
 simp only[zy7,h,hs,s1,s2,s3,s4,go_sem,zc,seval,reduceIte,reduceCtorEq]
def zhu:Sum Tryz.prog:=⟨160,fun args=>args= [vs ((args.getD 0 .any).str)]∧(((args.getD 0 .any).str)).size≤1000000,fun args=>vi (whN ((args.getD 0 .any).str)),fun args h=>by
 have:=zut ((args.getD 0 .any).str) h.2;rwa [←h.1]at this,true⟩
theorem zxQ:zhu.f=160:=rfl
theorem zxP(args:List V):zhu.D args=(args= [vs ((args.getD 0 .any).str)]∧(((args.getD 0 .any).str)).size≤1000000):=rfl
theorem zjP:zhu.flat=true:=rfl
theorem zxR(args:List V):zhu.r args=vi (whN ((args.getD 0 .any).str)):=rfl
attribute [go_sem] zxQ zxP zjP zxR
def itR(x:Itm×Bool):V:=.tup [.agg x.1.enc,vb x.2]
def okL(l:List Pa):Prop:=l.length≤1000001∧∀q∈l,yT q
theorem zt(S:Nat→Bool)(h:Heap)(cs:List V):res S h 11 (.agg cs)=(zA (res S h 10) cs).map .agg:=rfl
theorem zmK(x:Itm)(l:List Pa)(h:okL l):zf Tryz.prog 133 [.agg x.enc,pas l] (itR (stV x l)):=by
 refine zf.of (Orc.cons zbX (Orc.nil _)) zvH (by simp[zp9]) fun w0 own0=> ?_
 match l,h with
 | [],h=>
   simp only[zp9,Itm.enc,pas,stV,itR,zt,go_sem,zc,seval,reduceIte,reduceCtorEq]
 |q:: [],h=>
  have hq:q.t.text.size≤1000000:=h.2 q (by simp)
  simp only[zp9,Itm.enc,pas,Pa.enc,stV,itR,hq,zt,go_sem,zc,seval,reduceIte,reduceCtorEq]
 |q::q2::r,h=>
  have hq:q.t.text.size≤1000000:=h.2 q (by simp)
  have hne':¬(((r.length+1+1:Nat):Int)=1):=by omega
  have hn0:¬(((r.length+1+1:Nat):Int)=0):=by omega
  have hnp:(0:Int)<((r.length+1+1:Nat):Int):=by omega
  simp only[zp9,Itm.enc,pas,Pa.enc,stV,itR,hq,hne',hn0,hnp,zt,go_sem,zc,seval,reduceIte,reduceCtorEq]
theorem zlv(x:Itm)(l:List Pa)(h:okL l):zf Tryz.prog 134 [.agg x.enc,pas l] (itR (chV x l)):=by
 refine zf.of (Orc.cons zhu (Orc.nil _)) zvI (by simp[zqa]) fun w0 own0=> ?_
 match l,h with
 | [],h=>
   simp only[zqa,Itm.enc,pas,chV,itR,zt,go_sem,zc,seval,reduceIte,reduceCtorEq]
 |q:: [],h=>
  have hq:q.t.text.size≤1000000:=h.2 q (by simp)
  simp only[zqa,Itm.enc,pas,Pa.enc,chV,itR,hq,zt,go_sem,zc,seval,reduceIte,reduceCtorEq]
 |q::q2::r,h=>
  have hq:q.t.text.size≤1000000:=h.2 q (by simp)
  have hne':¬(((r.length+1+1:Nat):Int)=1):=by omega
  have hn0:¬(((r.length+1+1:Nat):Int)=0):=by omega
  have hnp:(0:Int)<((r.length+1+1:Nat):Int):=by omega
  simp only[zqa,Itm.enc,pas,Pa.enc,chV,itR,hq,hne',hn0,hnp,zt,go_sem,zc,seval,reduceIte,reduceCtorEq]
def zbU:Sum Tryz.prog:=⟨133,fun args=>args= [.agg (Itm.enc (zay (args.getD 0 .any))),pas (yV (args.getD 1 .any))]∧okL (yV (args.getD 1 .any)),fun args=>itR (stV (zay (args.getD 0 .any)) (yV (args.getD 1 .any))),fun args h=>by
 have:=zmK (zay (args.getD 0 .any)) (yV (args.getD 1 .any)) h.2;rwa [←h.1]at this,false⟩
theorem ztQ:zbU.f=133:=rfl
theorem ztP(args:List V):zbU.D args=(args= [.agg (Itm.enc (zay (args.getD 0 .any))),pas (yV (args.getD 1 .any))]∧okL (yV (args.getD 1 .any))):=rfl
theorem zhj:zbU.flat=false:=rfl
theorem ztR(args:List V):zbU.r args=itR (stV (zay (args.getD 0 .any)) (yV (args.getD 1 .any))):=rfl
attribute [go_sem] ztQ ztP zhj ztR
def zbA:Sum Tryz.prog:=⟨134,fun args=>args= [.agg (Itm.enc (zay (args.getD 0 .any))),pas (yV (args.getD 1 .any))]∧okL (yV (args.getD 1 .any)),fun args=>itR (chV (zay (args.getD 0 .any)) (yV (args.getD 1 .any))),fun args h=>by
 have:=zlv (zay (args.getD 0 .any)) (yV (args.getD 1 .any)) h.2;rwa [←h.1]at this,false⟩
theorem zsr:zbA.f=134:=rfl
theorem zsq(args:List V):zbA.D args=(args= [.agg (Itm.enc (zay (args.getD 0 .any))),pas (yV (args.getD 1 .any))]∧okL (yV (args.getD 1 .any))):=rfl
theorem zgH:zbA.flat=false:=rfl
theorem zss(args:List V):zbA.r args=itR (chV (zay (args.getD 0 .any)) (yV (args.getD 1 .any))):=rfl
attribute [go_sem] zsr zsq zgH zss
def KJ(p:Pa):Itm×Bool:=
 if p.t.kind=6 then(⟨1,p.t.text,⟨#[]⟩,0,0⟩,true)
 else if p.t.kind=3∧qP p=true then
  match Qm p with
  | []=>(.zero,false)
  |a::l=>
   if zI a=true then
    if yg p=jD then stV ⟨2,⟨#[]⟩,a.t.text,0,0⟩ l
    else if yg p=kW then
     (match l with
     | []=>(.zero,false)
     |q::r=>if q.t.kind=6 then stV ⟨3,q.t.text,a.t.text,0,0⟩ r else(.zero,false))
    else if yg p=ZG then chV ⟨4,⟨#[]⟩,a.t.text,0,0⟩ l
    else if yg p=jE then chV ⟨5,⟨#[]⟩,a.t.text,0,0⟩ l
    else if yg p=Q3 then(⟨6,⟨#[]⟩,a.t.text,0,0⟩,decide (l= []))
    else(.zero,false)
   else(.zero,false)
 else(.zero,false)
theorem zas{p:Pa}(h:qP p=true):∃a l,Qm p=a::l:=by
 unfold qP at h
 unfold Qm
 simp only[Bool.and_eq_true,decide_eq_true_eq]at h
 match hL:pl p.al with
 | []=>rw[hL]at h;simp at h
 |a::l=>exact⟨a,evn 1 l,rfl⟩
theorem zat{p:Pa}(h:qP p=true):Ji p= .tup [pas (Qm p),vb true]:=by
 have:KD 0 (pl p.al)=true:=by unfold qP at h;simp only[Bool.and_eq_true]at h;exact h.2
 unfold Ji Qm
 rw[if_pos this,h]
theorem zf0{p:Pa}(h:okT p.al):okL (Qm p):=by
 refine⟨?_,fun q hq=>(Z4 h q (zdA _ _ q hq)).1⟩
 have h1:=zkv (pl p.al) 0
 have h2:=X8 p.al
 have h3:=h.1
 unfold Qm;omega
theorem Zu{a:Pa}{l:List Pa}(h:okL (a::l)):yT a∧okL l:=⟨h.2 a (by simp),by have:=h.1;simp at this;exact⟨by omega,fun q hq=>h.2 q (by simp[hq])⟩⟩
theorem zwN(p:Pa)(h:yT p)(h':okT p.al):zf Tryz.prog 105 [.agg p.enc] (itR (KJ p)):=by
 refine zf.of (Orc.cons J1 (Orc.cons ZX (Orc.cons Yc (Orc.cons zbU (Orc.cons zbA (Orc.nil _)))))) zvn (by simp[Jm]) fun w0 own0=> ?_
 have h1:=h'.1
 unfold KJ
 by_cases k6:p.t.kind=6
 ·simp only[Jm,Pa.enc,k6,itR,Itm.enc,zt,go_sem,zc,reduceCtorEq,reduceIte,Nat.reduceEqDiff,Nat.reduceAdd,Nat.reduceSub,Nat.reduceMul,Nat.reduceLT,Nat.reduceLeDiff,Nat.reduceBEq,Int.reduceEq,Int.reduceLT,Int.reduceLE,Int.reduceAdd,Int.reduceSub,Int.reduceNeg,Int.reduceToNat]
 rw[if_neg k6]
 cases hb:qP p with
 |false=>
  rw[if_neg (by simp)]
  obtain⟨L,hL⟩:∃L,Ji p= .tup [.slc 4 L,vb false]:=⟨_,by unfold Ji;rw[hb];rfl⟩
  simp only[Jm,Pa.enc,k6,hL,h,h',zl,Pa.eta',itR,Itm.enc,Itm.zero,zt,zd,zb,za,go_sem,reduceCtorEq,reduceIte,Nat.reduceEqDiff,Nat.reduceAdd,Nat.reduceSub,Nat.reduceMul,Nat.reduceLT,Nat.reduceLeDiff,Nat.reduceBEq,Int.reduceEq,Int.reduceLT,Int.reduceLE,Int.reduceAdd,Int.reduceSub,Int.reduceNeg,Int.reduceToNat]
  omega
 |true=>
  by_cases k3:p.t.kind=3
  ·rw[if_pos ⟨k3,rfl⟩]
   have hV:=zat hb
   have hK:=zf0 h'
   obtain⟨a,l,hal⟩:=zas hb
   rw[hal]at hV hK
   obtain⟨ka,kl⟩:=Zu hK
   rw[hal]
   dsimp only
   have h3:yT ⟨⟨3,p.t.text,p.t.n⟩,p.al⟩:=h
   have e3:(⟨⟨3,p.t.text,p.t.n⟩,p.al⟩:Pa)=p:=by rw[←k3]
   have hV':Ji ⟨⟨3,p.t.text,p.t.n⟩,p.al⟩= .tup [.slc 4 (a.enc::l.map Pa.enc),vb true]:=by rw[e3];exact hV
   have h'3:okT p.al:=h'
   have h6:¬((3:Int)=6):=by omega
   have hla:decide (((l.length+1:Nat):Int)=1)=decide (l= []):=by
    cases l with
    |nil=>rfl
    |cons q r=>simp;omega
   have h1l:(1:Int)≤((l.length+1:Nat):Int):=by omega
   have htk:l.take (l.length+1 - 1)=l:=List.take_of_length_le (by omega)
   have h0l:(0:Int)<((l.length+1:Nat):Int):=by omega
   obtain⟨w,hw0⟩:∃w,yg p=w:=⟨_,rfl⟩
   have hw:yg ⟨⟨3,p.t.text,p.t.n⟩,p.al⟩=w:=by rw[e3];exact hw0
   rw[hw0]
   cases hn:zI a with
   |false=>
    simp only[Bool.false_eq_true,if_false]
    simp only[Jm,Pa.enc,k3,h6,hV',h3,h'3,hw,h0l,h1l,htk,Int.le_refl,ka,zl,yE,zB,Pa.eta',Itm.eta',itR,Itm.enc,Itm.zero,pas,zt,List.map_cons,hn,zd,zb,za,go_sem,reduceCtorEq,reduceIte,Nat.reduceEqDiff,Nat.reduceAdd,Nat.reduceSub,Nat.reduceMul,Nat.reduceLT,Nat.reduceLeDiff,Nat.reduceBEq,Int.reduceEq,Int.reduceLT,Int.reduceLE,Int.reduceAdd,Int.reduceSub,Int.reduceNeg,Int.reduceToNat]
   |true=>
    simp only[if_true]
    unfold jD kW ZG jE Q3
    by_cases c0:w=⟨#[99,111,117,110,116,101,114]⟩
    ·have d0:=eq_true c0
     rw[if_pos c0]
     simp only[Jm,Pa.enc,k3,h6,hV',h3,h'3,hw,h0l,h1l,htk,Int.le_refl,ka,zl,yE,zB,Pa.eta',Itm.eta',itR,Itm.enc,Itm.zero,pas,zt,List.map_cons,d0,hn,kl,zd,zb,za,go_sem,reduceCtorEq,reduceIte,Nat.reduceEqDiff,Nat.reduceAdd,Nat.reduceSub,Nat.reduceMul,Nat.reduceLT,Nat.reduceLeDiff,Nat.reduceBEq,Int.reduceEq,Int.reduceLT,Int.reduceLE,Int.reduceAdd,Int.reduceSub,Int.reduceNeg,Int.reduceToNat]
    by_cases c1:w=⟨#[99,111,117,110,116,101,114,115]⟩
    ·have d1:=eq_true c1
     rw[if_neg c0,if_pos c1]
     cases l with
     |nil=>
      simp only[Jm,Pa.enc,k3,h6,hV',h3,h'3,hw,h0l,h1l,htk,Int.le_refl,ka,zl,yE,zB,Pa.eta',Itm.eta',itR,Itm.enc,Itm.zero,pas,zt,List.map_cons,c0,d1,hn,zd,zb,za,go_sem,reduceCtorEq,reduceIte,Nat.reduceEqDiff,Nat.reduceAdd,Nat.reduceSub,Nat.reduceMul,Nat.reduceLT,Nat.reduceLeDiff,Nat.reduceBEq,Int.reduceEq,Int.reduceLT,Int.reduceLE,Int.reduceAdd,Int.reduceSub,Int.reduceNeg,Int.reduceToNat]
     |cons q r=>
      dsimp only
      obtain⟨kq,kr⟩:=Zu kl
      have htk2:r.take (r.length+1+1 - 2)=r:=List.take_of_length_le (by omega)
      have hl0:(0:Int)<((r.length+1+1:Nat):Int):=by omega
      have hl2:¬(((r.length+1+1:Nat):Int)<2):=by omega
      have hl3:(1:Int)<((r.length+1+1:Nat):Int):=by omega
      have hl4:(2:Int)≤((r.length+1+1:Nat):Int):=by omega
      by_cases k6q:q.t.kind=6
      ·rw[if_pos k6q]
       simp only[Jm,Pa.enc,k3,h6,hV',h3,h'3,hw,h0l,h1l,htk,Int.le_refl,ka,zl,yE,zB,Pa.eta',Itm.eta',itR,Itm.enc,Itm.zero,pas,zt,List.map_cons,c0,d1,hn,k6q,kr,kq,hl0,hl2,hl3,hl4,htk2,zd,zb,za,go_sem,reduceCtorEq,reduceIte,Nat.reduceEqDiff,Nat.reduceAdd,Nat.reduceSub,Nat.reduceMul,Nat.reduceLT,Nat.reduceLeDiff,Nat.reduceBEq,Int.reduceEq,Int.reduceLT,Int.reduceLE,Int.reduceAdd,Int.reduceSub,Int.reduceNeg,Int.reduceToNat]
      ·rw[if_neg k6q]
       simp only[Jm,Pa.enc,k3,h6,hV',h3,h'3,hw,h0l,h1l,htk,Int.le_refl,ka,zl,yE,zB,Pa.eta',Itm.eta',itR,Itm.enc,Itm.zero,pas,zt,List.map_cons,c0,d1,hn,k6q,kr,kq,hl0,hl2,hl3,hl4,htk2,zd,zb,za,go_sem,reduceCtorEq,reduceIte,Nat.reduceEqDiff,Nat.reduceAdd,Nat.reduceSub,Nat.reduceMul,Nat.reduceLT,Nat.reduceLeDiff,Nat.reduceBEq,Int.reduceEq,Int.reduceLT,Int.reduceLE,Int.reduceAdd,Int.reduceSub,Int.reduceNeg,Int.reduceToNat]
    by_cases c2:w=⟨#[115,116,114,105,110,103]⟩
    ·have d2:=eq_true c2
     rw[if_neg c0,if_neg c1,if_pos c2]
     simp only[Jm,Pa.enc,k3,h6,hV',h3,h'3,hw,h0l,h1l,htk,Int.le_refl,ka,zl,yE,zB,Pa.eta',Itm.eta',itR,Itm.enc,Itm.zero,pas,zt,List.map_cons,c0,c1,d2,hn,kl,zd,zb,za,go_sem,reduceCtorEq,reduceIte,Nat.reduceEqDiff,Nat.reduceAdd,Nat.reduceSub,Nat.reduceMul,Nat.reduceLT,Nat.reduceLeDiff,Nat.reduceBEq,Int.reduceEq,Int.reduceLT,Int.reduceLE,Int.reduceAdd,Int.reduceSub,Int.reduceNeg,Int.reduceToNat]
    by_cases c3:w=⟨#[101,108,101,109,101,110,116]⟩
    ·have d3:=eq_true c3
     rw[if_neg c0,if_neg c1,if_neg c2,if_pos c3]
     simp only[Jm,Pa.enc,k3,h6,hV',h3,h'3,hw,h0l,h1l,htk,Int.le_refl,ka,zl,yE,zB,Pa.eta',Itm.eta',itR,Itm.enc,Itm.zero,pas,zt,List.map_cons,c0,c1,c2,d3,hn,kl,zd,zb,za,go_sem,reduceCtorEq,reduceIte,Nat.reduceEqDiff,Nat.reduceAdd,Nat.reduceSub,Nat.reduceMul,Nat.reduceLT,Nat.reduceLeDiff,Nat.reduceBEq,Int.reduceEq,Int.reduceLT,Int.reduceLE,Int.reduceAdd,Int.reduceSub,Int.reduceNeg,Int.reduceToNat]
    by_cases c4:w=⟨#[97,116,116,114]⟩
    ·have d4:=eq_true c4
     rw[if_neg c0,if_neg c1,if_neg c2,if_neg c3,if_pos c4]
     simp only[Jm,Pa.enc,k3,h6,hV',h3,h'3,hw,h0l,h1l,htk,Int.le_refl,ka,zl,yE,zB,Pa.eta',Itm.eta',itR,Itm.enc,Itm.zero,pas,zt,List.map_cons,c0,c1,c2,c3,d4,hn,kl,hla,zd,zb,za,go_sem,reduceCtorEq,reduceIte,Nat.reduceEqDiff,Nat.reduceAdd,Nat.reduceSub,Nat.reduceMul,Nat.reduceLT,Nat.reduceLeDiff,Nat.reduceBEq,Int.reduceEq,Int.reduceLT,Int.reduceLE,Int.reduceAdd,Int.reduceSub,Int.reduceNeg,Int.reduceToNat]
    rw[if_neg c0,if_neg c1,if_neg c2,if_neg c3,if_neg c4]
    simp only[Jm,Pa.enc,k3,h6,hV',h3,h'3,hw,h0l,h1l,htk,Int.le_refl,ka,zl,yE,zB,Pa.eta',Itm.eta',itR,Itm.enc,Itm.zero,pas,zt,List.map_cons,c0,c1,c2,c3,c4,hn,zd,zb,za,go_sem,reduceCtorEq,reduceIte,Nat.reduceEqDiff,Nat.reduceAdd,Nat.reduceSub,Nat.reduceMul,Nat.reduceLT,Nat.reduceLeDiff,Nat.reduceBEq,Int.reduceEq,Int.reduceLT,Int.reduceLE,Int.reduceAdd,Int.reduceSub,Int.reduceNeg,Int.reduceToNat]
  ·rw[if_neg (fun hh=>k3 hh.1)]
   obtain⟨a,l,hal⟩:=zas hb
   have hV:=zat hb
   rw[hal]at hV
   simp only[pas,List.map_cons]at hV
   simp only[Jm,Pa.enc,k6,k3,hV,h,h',zl,Pa.eta',itR,Itm.enc,Itm.zero,zt,zd,zb,za,go_sem,reduceCtorEq,reduceIte,Nat.reduceEqDiff,Nat.reduceAdd,Nat.reduceSub,Nat.reduceMul,Nat.reduceLT,Nat.reduceLeDiff,Nat.reduceBEq,Int.reduceEq,Int.reduceLT,Int.reduceLE,Int.reduceAdd,Int.reduceSub,Int.reduceNeg,Int.reduceToNat]
def stW(x:Itm):List Pa→Itm×Bool
 | []=>(x,decide (0≤x.style))
 | [q]=>if q.t.kind=2 then(⟨x.kind,x.text,x.name,W5 q.t.text,x.which⟩,decide (0≤W5 q.t.text))else(.zero,false)
 |_::_::_=>(.zero,false)
def chW(x:Itm):List Pa→Itm×Bool
 | []=>(⟨x.kind,x.text,x.name,x.style,1⟩,true)
 | [q]=>if q.t.kind=2 then(⟨x.kind,x.text,x.name,x.style,whR q.t.text⟩,decide (0<whR q.t.text))else(.zero,false)
 |_::_::_=>(.zero,false)
def WC(p:Pa):Itm×Bool:=
 if p.t.kind=6 then(⟨1,p.t.text,⟨#[]⟩,0,0⟩,true)
 else if p.t.kind=3∧qP p=true then
  match Qm p with
  | []=>(.zero,false)
  |a::l=>
   if zI a=true then
    if yg p=Q3 then(if l= []then(⟨6,⟨#[]⟩,a.t.text,0,0⟩,true)else(.zero,false))
    else if yg p=kW then
     (match l with
     | []=>(.zero,false)
     |q::r=>if q.t.kind=6 then stW ⟨3,q.t.text,a.t.text,0,0⟩ r else(.zero,false))
    else if yg p=jD then stW ⟨2,⟨#[]⟩,a.t.text,0,0⟩ l
    else if yg p=ZG then chW ⟨4,⟨#[]⟩,a.t.text,0,0⟩ l
    else if yg p=jE then chW ⟨5,⟨#[]⟩,a.t.text,0,0⟩ l
    else(.zero,false)
   else(.zero,false)
 else(.zero,false)
theorem zhZ{p:Pa}(h:qP p=true):Wt p= .tup [pas (Qm p),vb true]:=by
 unfold Wt Qm
 rw[if_pos h,h]
theorem ze9{p:Pa}(h:qP p=false):Wt p= .tup [.slc 4 [],vb false]:=by
 unfold Wt
 rw[if_neg (by simp[h]),h];rfl
structure AtS where
 S:Sum Tryz.prog
 hf:S.f=46
 hfl:S.flat=true
 hD:∀u,S.D [.slc 1 [[.c (.string ⟨#[102,105,114,115,116]⟩)],[.c (.string ⟨#[115,116,97,114,116]⟩)],[.c (.string ⟨#[108,97,115,116]⟩)],[.c (.string ⟨#[102,105,114,115,116,45,101,120,99,101,112,116]⟩)]],.c (.string u)]
 hr:∀u,S.r [.slc 1 [[.c (.string ⟨#[102,105,114,115,116]⟩)],[.c (.string ⟨#[115,116,97,114,116]⟩)],[.c (.string ⟨#[108,97,115,116]⟩)],[.c (.string ⟨#[102,105,114,115,116,45,101,120,99,101,112,116]⟩)]],.c (.string u)]=vi (ixS whs u)
theorem zyF:Nonempty AtS:=⟨⟨⟨46,fun args=>∃u,args= [YX whs,vs u],fun args=>vi (ixS whs (args.getD 1 .any).str),fun args h'=>by
 obtain⟨u,rfl⟩:=h'
 exact zpR whs u (by decide),true⟩,rfl,rfl,fun u=>⟨u,rfl⟩,fun u=>rfl⟩⟩
theorem zdE(l:List ByteArray)(x:ByteArray): -1≤ixS l x∧ixS l x≤l.length:=by
 unfold ixS
 rcases kO (fun i=>decide (x=l.getD i ⟨#[]⟩)) (l.length - 0) 0 with⟨h1,_⟩|⟨m,h1,_,h3,_⟩<;>omega
def tlI:C:=c84.body.tl.tl.tl.tl.tl.tl.tl.tl.tl.tl
structure TlE (e:Nat→V) (M:List Pa) (n:Int) (v:Nat):Prop where
 a:e 2= .ptr 1 1 0 0
 b:e 4= .ptr 2 2 0 0
 c:e 5= .slc 4 (M.map Pa.enc)
 d:e 7= .ptr 3 v 0 0
 f:e 9=vi n
def hpI(p:Pa)(x:Itm)(v clk:Nat):Heap:=⟨[⟨0,4,[p.enc],false,[]⟩,⟨1,5,[Itm.zero.enc],false,[]⟩,⟨2,5,[Itm.zero.enc],false,[]⟩,⟨v,5,[x.enc],false,[]⟩],clk⟩
def QI(R:Itm×Bool):yv:=zci c84.rs fun v h=>res (fun _=>true) h 12 v=some (itR R)
theorem zuk(S:AtS)(p:Pa)(q1:Pa)(l:List Pa)(kl:okL l)(kd:Int)(tx nx:ByteArray)(hk4:(4≤kd)=False)(v clk:Nat)(w0:World)(own0:Sx.Own)(e:Nat→V)(he:TlE e (q1::l) 1 v):
  wpC ⟨Tryz.prog,Orc.cons S.S (Orc.cons jC (Orc.cons qW (Orc.cons kV (Orc.cons ZY (Orc.nil _))))),c84.n,w0,own0⟩ tlI (QI (stW ⟨kd,tx,nx,0,0⟩ l)) e (hpI p ⟨kd,tx,nx,0,0⟩ v clk):=by
 obtain⟨a,b,c,d,f⟩:=he
 obtain⟨S,s1,s2,sD,sr⟩:=S
 match l,kl with
 | [],kl=>
   simp only[stW]
   simp only[c84,tlI,QI,hpI,C.tl,a,b,c,d,f,Pa.enc,zl,Pa.eta',Itm.eta',itR,Itm.enc,Itm.zero,zt,List.map_cons,List.map_nil,hk4,zd,zb,za,s1,s2,go_sem,seval,reduceIte,reduceCtorEq]
 | [y],kl=>
   have kb:yT y:=(Zu kl).1
   have kb':y.t.text.size≤1000000:=kb
   simp only[stW]
   by_cases kb2:y.t.kind=2
   ·rw[if_pos kb2]
    have kb2t:=eq_true kb2
    have kb4:yg y=jA y.t.text:=rfl
    simp only[c84,tlI,QI,hpI,C.tl,a,b,c,d,f,Pa.enc,zl,Pa.eta',Itm.eta',itR,Itm.enc,Itm.zero,zt,List.map_cons,List.map_nil,hk4,kb2t,kb,kb',kb4,sD,sr,whR,zd,zb,za,s1,s2,go_sem,seval,reduceIte,reduceCtorEq]
    all_goals (have hix:=zdE whs (jA y.t.text);have hwl:whs.length=4:=rfl;exact⟨by omega,rfl⟩)
   ·rw[if_neg kb2]
    have kb2t:=eq_false kb2
    simp only[c84,tlI,QI,hpI,C.tl,a,b,c,d,f,Pa.enc,zl,Pa.eta',Itm.eta',itR,Itm.enc,Itm.zero,zt,List.map_cons,List.map_nil,hk4,kb2t,kb,kb',zd,zb,za,s1,s2,go_sem,seval,reduceIte,reduceCtorEq]
 |y::y2::r,kl=>
  have hgt:(2:Int)<((r.length+1+1+1:Nat):Int):=by omega
  simp only[stW]
  simp only[c84,tlI,QI,hpI,C.tl,a,b,c,d,f,Pa.enc,zl,Pa.eta',Itm.eta',itR,Itm.enc,Itm.zero,zt,List.map_cons,List.map_nil,hk4,hgt,zd,zb,za,s1,s2,go_sem,seval,reduceIte,reduceCtorEq]
theorem zul(S:AtS)(p:Pa)(q1 q2:Pa)(l:List Pa)(kl:okL l)(kd:Int)(tx nx:ByteArray)(hk4:(4≤kd)=False)(v clk:Nat)(w0:World)(own0:Sx.Own)(e:Nat→V)(he:TlE e (q1::q2::l) 2 v):
  wpC ⟨Tryz.prog,Orc.cons S.S (Orc.cons jC (Orc.cons qW (Orc.cons kV (Orc.cons ZY (Orc.nil _))))),c84.n,w0,own0⟩ tlI (QI (stW ⟨kd,tx,nx,0,0⟩ l)) e (hpI p ⟨kd,tx,nx,0,0⟩ v clk):=by
 obtain⟨a,b,c,d,f⟩:=he
 obtain⟨S,s1,s2,sD,sr⟩:=S
 match l,kl with
 | [],kl=>
   simp only[stW]
   simp only[c84,tlI,QI,hpI,C.tl,a,b,c,d,f,Pa.enc,zl,Pa.eta',Itm.eta',itR,Itm.enc,Itm.zero,zt,List.map_cons,List.map_nil,hk4,zd,zb,za,s1,s2,go_sem,seval,reduceIte,reduceCtorEq]
 | [y],kl=>
   have kb:yT y:=(Zu kl).1
   have kb':y.t.text.size≤1000000:=kb
   simp only[stW]
   by_cases kb2:y.t.kind=2
   ·rw[if_pos kb2]
    have kb2t:=eq_true kb2
    have kb4:yg y=jA y.t.text:=rfl
    simp only[c84,tlI,QI,hpI,C.tl,a,b,c,d,f,Pa.enc,zl,Pa.eta',Itm.eta',itR,Itm.enc,Itm.zero,zt,List.map_cons,List.map_nil,hk4,kb2t,kb,kb',kb4,sD,sr,whR,zd,zb,za,s1,s2,go_sem,seval,reduceIte,reduceCtorEq]
    all_goals (have hix:=zdE whs (jA y.t.text);have hwl:whs.length=4:=rfl;exact⟨by omega,rfl⟩)
   ·rw[if_neg kb2]
    have kb2t:=eq_false kb2
    simp only[c84,tlI,QI,hpI,C.tl,a,b,c,d,f,Pa.enc,zl,Pa.eta',Itm.eta',itR,Itm.enc,Itm.zero,zt,List.map_cons,List.map_nil,hk4,kb2t,kb,kb',zd,zb,za,s1,s2,go_sem,seval,reduceIte,reduceCtorEq]
 |y::y2::r,kl=>
  have hgt:(3:Int)<((r.length+1+1+1+1:Nat):Int):=by omega
  simp only[stW]
  simp only[c84,tlI,QI,hpI,C.tl,a,b,c,d,f,Pa.enc,zl,Pa.eta',Itm.eta',itR,Itm.enc,Itm.zero,zt,List.map_cons,List.map_nil,hk4,hgt,zd,zb,za,s1,s2,go_sem,seval,reduceIte,reduceCtorEq]
theorem zuj(S:AtS)(p:Pa)(q1:Pa)(l:List Pa)(kl:okL l)(kd:Int)(tx nx:ByteArray)(hk4:(4≤kd)=True)(v clk:Nat)(w0:World)(own0:Sx.Own)(e:Nat→V)(he:TlE e (q1::l) 1 v):
  wpC ⟨Tryz.prog,Orc.cons S.S (Orc.cons jC (Orc.cons qW (Orc.cons kV (Orc.cons ZY (Orc.nil _))))),c84.n,w0,own0⟩ tlI (QI (chW ⟨kd,tx,nx,0,0⟩ l)) e (hpI p ⟨kd,tx,nx,0,0⟩ v clk):=by
 obtain⟨a,b,c,d,f⟩:=he
 obtain⟨S,s1,s2,sD,sr⟩:=S
 match l,kl with
 | [],kl=>
   simp only[chW]
   simp only[c84,tlI,QI,hpI,C.tl,a,b,c,d,f,Pa.enc,zl,Pa.eta',Itm.eta',itR,Itm.enc,Itm.zero,zt,List.map_cons,List.map_nil,hk4,zd,zb,za,s1,s2,go_sem,seval,reduceIte,reduceCtorEq]
 | [y],kl=>
   have kb:yT y:=(Zu kl).1
   have kb':y.t.text.size≤1000000:=kb
   simp only[chW]
   by_cases kb2:y.t.kind=2
   ·rw[if_pos kb2]
    have kb2t:=eq_true kb2
    have kb4:yg y=jA y.t.text:=rfl
    simp only[c84,tlI,QI,hpI,C.tl,a,b,c,d,f,Pa.enc,zl,Pa.eta',Itm.eta',itR,Itm.enc,Itm.zero,zt,List.map_cons,List.map_nil,hk4,kb2t,kb,kb',kb4,sD,sr,whR,zd,zb,za,s1,s2,go_sem,seval,reduceIte,reduceCtorEq]
    all_goals (have hix:=zdE whs (jA y.t.text);have hwl:whs.length=4:=rfl;exact⟨by omega,rfl⟩)
   ·rw[if_neg kb2]
    have kb2t:=eq_false kb2
    simp only[c84,tlI,QI,hpI,C.tl,a,b,c,d,f,Pa.enc,zl,Pa.eta',Itm.eta',itR,Itm.enc,Itm.zero,zt,List.map_cons,List.map_nil,hk4,kb2t,kb,kb',zd,zb,za,s1,s2,go_sem,seval,reduceIte,reduceCtorEq]
 |y::y2::r,kl=>
  have hgt:(2:Int)<((r.length+1+1+1:Nat):Int):=by omega
  simp only[chW]
  simp only[c84,tlI,QI,hpI,C.tl,a,b,c,d,f,Pa.enc,zl,Pa.eta',Itm.eta',itR,Itm.enc,Itm.zero,zt,List.map_cons,List.map_nil,hk4,hgt,zd,zb,za,s1,s2,go_sem,seval,reduceIte,reduceCtorEq]
theorem zq3(p:Pa)(h:yT p)(h':okT p.al):zf Tryz.prog 84 [.agg p.enc] (itR (WC p)):=by
 obtain⟨S⟩:=zyF
 refine zf.of (Orc.cons S.S (Orc.cons jC (Orc.cons qW (Orc.cons kV (Orc.cons ZY (Orc.nil _)))))) zz7 (by simp[c84]) fun w0 own0=> ?_
 have h1:=h'.1
 have hb:c84.body= .seq c84.body.hd (.seq c84.body.tl.hd (.seq c84.body.tl.tl.hd (.seq c84.body.tl.tl.tl.hd (.seq c84.body.tl.tl.tl.tl.hd (.seq c84.body.tl.tl.tl.tl.tl.hd (.seq c84.body.tl.tl.tl.tl.tl.tl.hd (.seq c84.body.tl.tl.tl.tl.tl.tl.tl.hd (.seq c84.body.tl.tl.tl.tl.tl.tl.tl.tl.hd (.seq c84.body.tl.tl.tl.tl.tl.tl.tl.tl.tl.hd (tlI)))))))))):=rfl
 rw[hb]
 have T1:=@zuk S p
 have T2:=@zul S p
 have T3:=@zuj S p
 obtain⟨S,s1,s2,sD,sr⟩:=S
 have hQ:∀R,(zci c84.rs fun v h=>res (fun _=>true) h 12 v=some (itR R))=QI R:=fun R=>rfl
 generalize tlI=rest at*
 unfold WC
 by_cases k6:p.t.kind=6
 ·have k6t:=eq_true k6
  rw[if_pos k6]
  simp only[c84,C.hd,C.tl,Pa.enc,k6t,itR,Itm.enc,zt,zd,zb,za,s1,s2,go_sem,seval,reduceIte,reduceCtorEq]
 rw[if_neg k6]
 have k6f:=eq_false k6
 cases hb:qP p with
 |false=>
  rw[if_neg (by simp)]
  have hL:=ze9 hb
  simp only[c84,C.hd,C.tl,Pa.enc,k6f,hL,h,h',zl,Pa.eta',itR,Itm.enc,Itm.zero,zt,zd,zb,za,s1,s2,go_sem,seval,reduceIte,reduceCtorEq]
  omega
 |true=>
  have hV:=zhZ hb
  have hK:=zf0 h'
  obtain⟨a,l,hal⟩:=zas hb
  rw[hal]at hV hK
  simp only[pas,List.map_cons]at hV
  obtain⟨ka,kl⟩:=Zu hK
  have h0l:(0:Int)<((l.length+1:Nat):Int):=by omega
  by_cases k3:p.t.kind=3
  ·rw[if_pos ⟨k3,rfl⟩,hal]
   have k3t:=eq_true k3
   dsimp only
   obtain⟨w,hw0⟩:∃w,yg p=w:=⟨_,rfl⟩
   rw[hw0]
   cases hn:zI a with
   |false=>
    simp only[Bool.false_eq_true,if_false]
    simp only[c84,C.hd,C.tl,Pa.enc,k3t,k6f,hV,h,h',hw0,ka,zl,yE,Pa.eta',Itm.eta',itR,Itm.enc,Itm.zero,pas,zt,List.map_cons,List.map_nil,hn,h0l,zd,zb,za,s1,s2,go_sem,seval,reduceIte,reduceCtorEq]
   |true=>
    simp only[if_true]
    unfold jD kW ZG jE Q3
    by_cases c0:w=⟨#[97,116,116,114]⟩
    ·have d0:=eq_true c0
     rw[if_pos c0]
     cases l with
     |nil=>
      rw[if_pos rfl]
      simp only[c84,C.hd,C.tl,Pa.enc,k3t,k6f,hV,h,h',hw0,ka,zl,yE,Pa.eta',Itm.eta',itR,Itm.enc,Itm.zero,pas,zt,List.map_cons,List.map_nil,d0,hn,h0l,zd,zb,za,s1,s2,go_sem,seval,reduceIte,reduceCtorEq]
     |cons q r=>
      rw[if_neg (by simp)]
      have hg0:(0:Int)<((r.length+1+1:Nat):Int):=by omega
      have hg1:(1:Int)<((r.length+1+1:Nat):Int):=by omega
      simp only[c84,C.hd,C.tl,Pa.enc,k3t,k6f,hV,h,h',hw0,ka,zl,yE,Pa.eta',Itm.eta',itR,Itm.enc,Itm.zero,pas,zt,List.map_cons,List.map_nil,d0,hn,h0l,hg0,hg1,zd,zb,za,s1,s2,go_sem,seval,reduceIte,reduceCtorEq]
    by_cases c1:w=⟨#[99,111,117,110,116,101,114,115]⟩
    ·have d1:=eq_true c1
     rw[if_neg c0,if_pos c1]
     cases l with
     |nil=>
      simp only[c84,C.hd,C.tl,Pa.enc,k3t,k6f,hV,h,h',hw0,ka,zl,yE,Pa.eta',Itm.eta',itR,Itm.enc,Itm.zero,pas,zt,List.map_cons,List.map_nil,c0,d1,hn,h0l,zd,zb,za,s1,s2,go_sem,seval,reduceIte,reduceCtorEq]
     |cons q r=>
      dsimp only
      obtain⟨kq,kr⟩:=Zu kl
      have hl0:(0:Int)<((r.length+1+1:Nat):Int):=by omega
      have hl2:¬(((r.length+1+1:Nat):Int)<2):=by omega
      have hl3:(1:Int)<((r.length+1+1:Nat):Int):=by omega
      by_cases k6q:q.t.kind=6
      ·have k6qt:=eq_true k6q
       rw[if_pos k6q]
       have T:=T2 a q r kr 3 q.t.text a.t.text (by simp)
       unfold hpI at T
       simp only[Pa.enc,Itm.enc,Itm.zero]at T
       rw[hQ]
       simp only[c84,C.hd,C.tl,Pa.enc,k3t,k6f,hV,h,h',hw0,ka,zl,yE,Pa.eta',Itm.eta',itR,Itm.enc,Itm.zero,pas,zt,List.map_cons,List.map_nil,c0,d1,hn,h0l,k6qt,hl0,hl2,hl3,zd,zb,za,s1,s2,go_sem,seval,reduceIte,reduceCtorEq]
       exact T _ _ _ _ _ ⟨by simp[zj,zn],by simp[zj,zn],by simp[zj,zn,Pa.enc],by simp[zj,zn],by simp[zj,zn]⟩
      ·have k6qt:=eq_false k6q
       rw[if_neg k6q]
       simp only[c84,C.hd,C.tl,Pa.enc,k3t,k6f,hV,h,h',hw0,ka,zl,yE,Pa.eta',Itm.eta',itR,Itm.enc,Itm.zero,pas,zt,List.map_cons,List.map_nil,c0,d1,hn,h0l,k6qt,hl0,hl2,hl3,zd,zb,za,s1,s2,go_sem,seval,reduceIte,reduceCtorEq]
    by_cases c2:w=⟨#[99,111,117,110,116,101,114]⟩
    ·have d2:=eq_true c2
     rw[if_neg c0,if_neg c1,if_pos c2]
     have T:=T1 a l kl 2 ⟨#[]⟩ a.t.text (by simp)
     unfold hpI at T
     simp only[Pa.enc,Itm.enc,Itm.zero]at T
     rw[hQ]
     simp only[c84,C.hd,C.tl,Pa.enc,k3t,k6f,hV,h,h',hw0,ka,zl,yE,Pa.eta',Itm.eta',itR,Itm.enc,Itm.zero,pas,zt,List.map_cons,List.map_nil,c0,c1,d2,hn,h0l,zd,zb,za,s1,s2,go_sem,seval,reduceIte,reduceCtorEq]
     exact T _ _ _ _ _ ⟨by simp[zj,zn],by simp[zj,zn],by simp[zj,zn,Pa.enc],by simp[zj,zn],by simp[zj,zn]⟩
    by_cases c3:w=⟨#[115,116,114,105,110,103]⟩
    ·have d3:=eq_true c3
     rw[if_neg c0,if_neg c1,if_neg c2,if_pos c3]
     have T:=T3 a l kl 4 ⟨#[]⟩ a.t.text (by simp)
     unfold hpI at T
     simp only[Pa.enc,Itm.enc,Itm.zero]at T
     rw[hQ]
     simp only[c84,C.hd,C.tl,Pa.enc,k3t,k6f,hV,h,h',hw0,ka,zl,yE,Pa.eta',Itm.eta',itR,Itm.enc,Itm.zero,pas,zt,List.map_cons,List.map_nil,c0,c1,c2,d3,hn,h0l,zd,zb,za,s1,s2,go_sem,seval,reduceIte,reduceCtorEq]
     exact T _ _ _ _ _ ⟨by simp[zj,zn],by simp[zj,zn],by simp[zj,zn,Pa.enc],by simp[zj,zn],by simp[zj,zn]⟩
    by_cases c4:w=⟨#[101,108,101,109,101,110,116]⟩
    ·have d4:=eq_true c4
     rw[if_neg c0,if_neg c1,if_neg c2,if_neg c3,if_pos c4]
     have T:=T3 a l kl 5 ⟨#[]⟩ a.t.text (by simp)
     unfold hpI at T
     simp only[Pa.enc,Itm.enc,Itm.zero]at T
     rw[hQ]
     simp only[c84,C.hd,C.tl,Pa.enc,k3t,k6f,hV,h,h',hw0,ka,zl,yE,Pa.eta',Itm.eta',itR,Itm.enc,Itm.zero,pas,zt,List.map_cons,List.map_nil,c0,c1,c2,c3,d4,hn,h0l,zd,zb,za,s1,s2,go_sem,seval,reduceIte,reduceCtorEq]
     exact T _ _ _ _ _ ⟨by simp[zj,zn],by simp[zj,zn],by simp[zj,zn,Pa.enc],by simp[zj,zn],by simp[zj,zn]⟩
    rw[if_neg c0,if_neg c1,if_neg c2,if_neg c3,if_neg c4]
    simp only[c84,C.hd,C.tl,Pa.enc,k3t,k6f,hV,h,h',hw0,ka,zl,yE,Pa.eta',Itm.eta',itR,Itm.enc,Itm.zero,pas,zt,List.map_cons,List.map_nil,c0,c1,c2,c3,c4,hn,h0l,zd,zb,za,s1,s2,go_sem,seval,reduceIte,reduceCtorEq]
  ·rw[if_neg (fun hh=>k3 hh.1)]
   have k3t:=eq_false k3
   simp only[c84,C.hd,C.tl,Pa.enc,k6f,k3t,hV,h,h',zl,Pa.eta',itR,Itm.enc,Itm.zero,zt,zd,zb,za,s1,s2,go_sem,seval,reduceIte,reduceCtorEq]
theorem zCs(s:ByteArray):(0<whN s↔0<whR s)∧(0<whN s→whN s=whR s):=by
 unfold whN whR
 have h5:∀u:ByteArray,(0<ixS (⟨#[]⟩::whs) u↔0<ixS whs u+1)∧(0<ixS (⟨#[]⟩::whs) u→ixS (⟨#[]⟩::whs) u=ixS whs u+1):=fun u=>by
  by_cases c0:u=⟨#[]⟩
  ·subst c0;decide
  by_cases c1:u=⟨#[102,105,114,115,116]⟩
  ·subst c1;decide
  by_cases c2:u=⟨#[115,116,97,114,116]⟩
  ·subst c2;decide
  by_cases c3:u=⟨#[108,97,115,116]⟩
  ·subst c3;decide
  by_cases c4:u=⟨#[102,105,114,115,116,45,101,120,99,101,112,116]⟩
  ·subst c4;decide
  have e1:ixS (⟨#[]⟩::whs) u= -1:=by simp[ixS,fst,whs,c0,c1,c2,c3,c4]
  have e2:ixS whs u= -1:=by simp[ixS,fst,whs,c1,c2,c3,c4]
  rw[e1,e2];omega
 exact h5 _
def JU(a b:Itm×Bool):Prop:=a.2=b.2∧(a.2=true→a.1=b.1)
theorem kH(a:Itm×Bool):JU a a:=⟨rfl,fun _=>rfl⟩
theorem JV{a b:Itm×Bool}(h1:a.2=false)(h2:b.2=false):JU a b:=⟨by rw[h1,h2],fun h=>by rw[h1]at h;cases h⟩
theorem zkZ(x:Itm)(hx:x.style=0):∀l:List Pa,JU (stV x l) (stW x l)
 | []=>by simp[JU,stV,stW,hx]
 | [q]=>by
   by_cases h:q.t.kind=2
   ·simp[JU,stV,stW,h]
   ·exact JV (by simp[stV,h]) (by simp[stW,h])
 |q::b::r=>JV (by simp[stV]) rfl
theorem zkl(x:Itm):∀l:List Pa,JU (chV x l) (chW x l)
 | []=>by simp[JU,chV,chW]
 | [q]=>by
   by_cases h:q.t.kind=2
   ·obtain⟨h1,h2⟩:=zCs q.t.text
    simp only[JU,chV,chW,h,if_true,decide_true,Bool.true_and,decide_eq_true_eq,Itm.mk.injEq,true_and]
    exact⟨decide_eq_decide.2 h1,h2⟩
   ·exact JV (by simp[chV,h]) (by simp[chW,h])
 |q::b::r=>JV (by simp[chV]) rfl
theorem zl0(p:Pa):JU (KJ p) (WC p):=by
 unfold KJ WC
 by_cases k6:p.t.kind=6
 ·rw[if_pos k6,if_pos k6];exact kH _
 rw[if_neg k6,if_neg k6]
 by_cases k3:p.t.kind=3∧qP p=true
 ·rw[if_pos k3,if_pos k3]
  cases Qm p with
  |nil=>exact kH _
  |cons a l=>
   dsimp only
   by_cases hn:zI a=true
   ·rw[if_pos hn,if_pos hn]
    by_cases c1:yg p=jD
    ·rw[c1,if_pos rfl,if_neg (by decide),if_neg (by decide),if_pos rfl];exact zkZ _ rfl l
    by_cases c2:yg p=kW
    ·rw[c2,if_neg (by decide),if_pos rfl,if_neg (by decide),if_pos rfl]
     cases l with
     |nil=>exact kH _
     |cons q r=>
      dsimp only
      by_cases h6:q.t.kind=6
      ·rw[if_pos h6,if_pos h6];exact zkZ _ rfl r
      ·rw[if_neg h6,if_neg h6];exact kH _
    by_cases c3:yg p=ZG
    ·rw[c3,if_neg (by decide),if_neg (by decide),if_pos rfl,if_neg (by decide),if_neg (by decide),if_neg (by decide),if_pos rfl];exact zkl _ l
    by_cases c4:yg p=jE
    ·rw[c4,if_neg (by decide),if_neg (by decide),if_neg (by decide),if_pos rfl,if_neg (by decide),if_neg (by decide),if_neg (by decide),if_neg (by decide),if_pos rfl];exact zkl _ l
    by_cases c5:yg p=Q3
    ·rw[c5,if_neg (by decide),if_neg (by decide),if_neg (by decide),if_neg (by decide),if_pos rfl,if_pos rfl]
     by_cases hl:l= []
     ·rw[if_pos hl,decide_eq_true hl];exact kH _
     ·rw[if_neg hl,decide_eq_false hl];exact JV rfl rfl
    rw[if_neg c1,if_neg c2,if_neg c3,if_neg c4,if_neg c5,if_neg c5,if_neg c2,if_neg c1,if_neg c3,if_neg c4];exact kH _
   ·rw[if_neg hn,if_neg hn];exact kH _
 ·rw[if_neg k3,if_neg k3];exact kH _
def WY(own:Bool)(p:Pa):Bool:=own&&decide (p.t.kind=3)&&decide (yg p=q6)&&decide ((pl p.al).length=0)
def zqt:Itm:=⟨6,⟨#[]⟩,⟨#[]⟩,0,0⟩
def itX(f:Pa→Itm×Bool)(own:Bool)(p:Pa):Itm×Bool:=if WY own p=true then(zqt,true)else f p
def toO(x:Itm×Bool):Option Itm:=if x.2=true then some x.1 else none
def itO(own:Bool)(p:Pa):Option Itm:=toO (itX KJ own p)
theorem zBY(own:Bool)(p:Pa):itO own p=toO (itX KJ own p):=rfl
theorem zBZ(own:Bool)(p:Pa):itO own p=toO (itX WC own p):=by
 unfold itO itX
 by_cases h:WY own p=true
 ·rw[if_pos h,if_pos h]
 ·rw[if_neg h,if_neg h]
  obtain⟨h1,h2⟩:=zl0 p
  unfold toO
  rw[←h1]
  by_cases hb:(KJ p).2=true
  ·rw[if_pos hb,if_pos hb,h2 hb]
  ·rw[if_neg hb,if_neg hb]
def itL(own:Bool):List Pa→Option (List Itm)
 | []=>some []
 |p::l=>match itO own p with|none=>none|some x=>(itL own l).map (x:: ·)
def X3:Option (List Itm)→V
 |none=>.tup [zz,vb false]
 |some l=>.tup [kZ l,vb (decide (0<(l.length:Int)))]
def kR(o:Option (List Itm)):V:=.tup [kZ (o.getD []),vb (decide (0<((o.getD []).length:Int)))]
theorem zfO(o:Option (List Itm)){f:FuncId}{args:List V}(h:zf Tryz.prog f args (X3 o)):zf Tryz.prog f args (kR o):=by
 cases o with
 |some l=>exact h
 |none=>
  refine zf.rsub h fun F w v hp=> ?_
  cases hp with
  |tup cs _ hl hx=>
   refine .tup cs _ hl fun i hi=> ?_
   have:=hx i hi
   match i,hi with
   |0,_=>exact PRep.nilS 5 this
   |1,_=>exact this
def Xk:Sum Tryz.prog:=⟨105,fun args=>args= [.agg (Pa.enc (dPa (args.getD 0 .any)))]∧yT (dPa (args.getD 0 .any))∧okT ((dPa (args.getD 0 .any))).al,fun args=>itR (KJ (dPa (args.getD 0 .any))),fun args h=>by
 have:=zwN (dPa (args.getD 0 .any)) h.2.1 h.2.2;rwa [←h.1]at this,false⟩
theorem znX:Xk.f=105:=rfl
theorem znW(args:List V):Xk.D args=(args= [.agg (Pa.enc (dPa (args.getD 0 .any)))]∧yT (dPa (args.getD 0 .any))∧okT ((dPa (args.getD 0 .any))).al):=rfl
theorem zek:Xk.flat=false:=rfl
theorem znY(args:List V):Xk.r args=itR (KJ (dPa (args.getD 0 .any))):=rfl
attribute [go_sem] znX znW zek znY
def QO:Sum Tryz.prog:=⟨84,fun args=>args= [.agg (Pa.enc (dPa (args.getD 0 .any)))]∧yT (dPa (args.getD 0 .any))∧okT ((dPa (args.getD 0 .any))).al,fun args=>itR (WC (dPa (args.getD 0 .any))),fun args h=>by
 have:=zq3 (dPa (args.getD 0 .any)) h.2.1 h.2.2;rwa [←h.1]at this,false⟩
theorem zjp:QO.f=84:=rfl
theorem zjo(args:List V):QO.D args=(args= [.agg (Pa.enc (dPa (args.getD 0 .any)))]∧yT (dPa (args.getD 0 .any))∧okT ((dPa (args.getD 0 .any))).al):=rfl
theorem zcq:QO.flat=false:=rfl
theorem zjq(args:List V):QO.r args=itR (WC (dPa (args.getD 0 .any))):=rfl
attribute [go_sem] zjp zjo zcq zjq
def YT(l:List Pa):Prop:=l.length≤1000001∧∀p∈l,yT p∧okT p.al
structure ItS where
 k:Nat
 out:List Itm
 ver:Nat
 clk:Nat
theorem zfN(own:Bool)(L:List Pa)(k:Nat)(h:k<L.length):itL own (L.drop k)=match itO own (L.getD k default)with|none=>none|some x=>(itL own (L.drop (k+1))).map (x:: ·):=by
 rw[qy L k h];rfl
theorem JH(L:List Pa)(own:Bool)(h:YT L):zf Tryz.prog 79 [pas L,vb own] (X3 (itL own L)):=by
 refine zf.of (Orc.cons Xk (Orc.cons qX (Orc.cons Yc (Orc.nil _)))) zz2 (by simp[c79]) fun w0 own0=> ?_
 obtain⟨hl,hm⟩:=h
 generalize hR:itL own L=R
 simp only[c79,pas,go_sem,zc,seval,reduceIte,reduceCtorEq]
 refine zC.lp (α:=ItS) (fun a=>[(1,vb own),(6,.ref 0 a.ver 0 a.out.length),(13,.slc 4 (L.map Pa.enc)),(14,vi L.length),(15,vi a.k)])
  (fun a=>⟨[⟨a.ver,5,a.out.map Itm.enc,false,[vi 0,vs ⟨#[]⟩,vs ⟨#[]⟩,vi 0,vi 0]⟩],a.clk⟩) (fun a=>a.k≤L.length∧a.out.length=a.k∧(itL own (L.drop a.k)).map (a.out++ ·)=R) (fun a=>L.length - a.k) ⟨0,[],0,1⟩
  ⟨Nat.zero_le _,rfl,by rw[←hR];simp only[List.drop_zero,List.nil_append];cases itL own L<;>rfl⟩ (St.nil 6 5 [vi 0,vs ⟨#[]⟩,vs ⟨#[]⟩,vi 0,vi 0] (by simp[zj]) (St.cut ?_ ?_ ?_)) fun a ha=> ?_
 ·simp[zu,zj,zq]
 ·simp[Heap.alloc]
 ·rfl
 obtain⟨k,out,ver,clk⟩:=a
 obtain⟨h2,h3,h4⟩:=ha
 simp only at h2 h3 h4
 by_cases hk:k=L.length
 ·subst hk
  rw[List.drop_length]at h4
  simp only[itL,Option.map_some,List.append_nil]at h4
  subst h4
  simp only[Int.lt_irrefl,X3,kZ,List.take_length,yX,WG,WF,Nat.le_refl,go_sem,zc,seval,reduceIte,reduceCtorEq]
 ·have e1:(k:Int)<(L.length:Int):=by omega
  have e0:(0:Int)≤(k:Int):=by omega
  have hlt:k<L.length:=by omega
  rw[zfN own L k hlt,zBY]at h4
  have hg:=zY L k [vi 0,vs ⟨#[]⟩,vi 0,zz] hlt
  obtain⟨hx,hxa⟩:=hm (L.getD k default) (by rw[List.getD_eq_getElem?_getD,List.getElem?_eq_getElem hlt];exact List.getElem_mem _)
  generalize L.getD k default=x at*
  have hxl:=hxa.1
  have hot:out.take out.length=out:=List.take_length
  unfold itX at h4
  generalize hy:KJ x=y at h4
  obtain⟨⟨yk,yt,yn,ys,yw⟩,yb⟩:=y
  have fin:∀z:Itm,toO (z,true)=some z:=fun z=>rfl
  have finN:∀z:Itm,toO (z,false)=none:=fun z=>rfl
  cases own with
  |false=>
   rw[if_neg (by simp[WY])]at h4
   cases yb with
   |false=>
    simp only[finN]at h4
    subst h4
    simp only[X3,e0,e1,hg,Pa.enc,Itm.enc,zl,Pa.eta',hx,hxa,hxl,hy,hot,plV,zh,ze,itR,zt,zd,zb,za,go_sem,seval,reduceIte,reduceCtorEq]
   |true=>
    simp only[fin]at h4
    simp only[e0,e1,hg,Pa.enc,Itm.enc,zl,Pa.eta',hx,hxa,hxl,hy,hot,plV,zh,ze,itR,zt,zd,zb,za,go_sem,seval,reduceIte,reduceCtorEq]
    refine⟨⟨by omega,by omega,by omega⟩,by omega,⟨k+1,out++ [⟨yk,yt,yn,ys,yw⟩],_,_⟩,⟨by dsimp only;omega,by simp;omega,?_⟩,by dsimp only;omega,⟨⟨rfl,by simp⟩,by dsimp only;omega⟩,⟨rfl,by simp[Itm.enc]⟩,rfl⟩
    rw[←h4];cases itL false (L.drop (k+1))<;>simp
  |true=>
   by_cases k3:x.t.kind=3
   ·have k3t:=eq_true k3
    by_cases kc:yg x=q6
    ·have kct:=eq_true kc
     unfold q6 at kct
     by_cases kl:(pl x.al).length=0
     ·rw[if_pos (by simp[WY,k3,kc,kl])]at h4
      have klt:(((pl x.al).length:Int)=0)=True:=eq_true (by omega)
      simp only[fin]at h4
      simp only[k3t,kct,klt,e0,e1,hg,Pa.enc,Itm.enc,zl,Pa.eta',hx,hxa,hxl,hy,hot,plV,zh,ze,itR,zt,zd,zb,za,go_sem,seval,reduceIte,reduceCtorEq]
      refine⟨⟨by omega,by omega,by omega⟩,by omega,⟨k+1,out++ [zqt],_,_⟩,⟨by dsimp only;omega,by simp;omega,?_⟩,by dsimp only;omega,⟨⟨rfl,by simp⟩,by dsimp only;omega⟩,⟨rfl,by simp[zqt,Itm.enc]⟩,rfl⟩
      rw[←h4];cases itL true (L.drop (k+1))<;>simp
     ·rw[if_neg (by simp[WY,kl])]at h4
      have klt:(((pl x.al).length:Int)=0)=False:=eq_false (by omega)
      cases yb with
      |false=>
       simp only[finN]at h4
       subst h4
       simp only[X3,k3t,kct,klt,e0,e1,hg,Pa.enc,Itm.enc,zl,Pa.eta',hx,hxa,hxl,hy,hot,plV,zh,ze,itR,zt,zd,zb,za,go_sem,seval,reduceIte,reduceCtorEq]
      |true=>
       simp only[fin]at h4
       simp only[k3t,kct,klt,e0,e1,hg,Pa.enc,Itm.enc,zl,Pa.eta',hx,hxa,hxl,hy,hot,plV,zh,ze,itR,zt,zd,zb,za,go_sem,seval,reduceIte,reduceCtorEq]
       refine⟨⟨by omega,by omega,by omega⟩,by omega,⟨k+1,out++ [⟨yk,yt,yn,ys,yw⟩],_,_⟩,⟨by dsimp only;omega,by simp;omega,?_⟩,by dsimp only;omega,⟨⟨rfl,by simp⟩,by dsimp only;omega⟩,⟨rfl,by simp[Itm.enc]⟩,rfl⟩
       rw[←h4];cases itL true (L.drop (k+1))<;>simp
    ·rw[if_neg (by simp[WY,kc])]at h4
     have kct:=eq_false kc
     unfold q6 at kct
     cases yb with
     |false=>
      simp only[finN]at h4
      subst h4
      simp only[X3,k3t,kct,e0,e1,hg,Pa.enc,Itm.enc,zl,Pa.eta',hx,hxa,hxl,hy,hot,plV,zh,ze,itR,zt,zd,zb,za,go_sem,seval,reduceIte,reduceCtorEq]
     |true=>
      simp only[fin]at h4
      simp only[k3t,kct,e0,e1,hg,Pa.enc,Itm.enc,zl,Pa.eta',hx,hxa,hxl,hy,hot,plV,zh,ze,itR,zt,zd,zb,za,go_sem,seval,reduceIte,reduceCtorEq]
      refine⟨⟨by omega,by omega,by omega⟩,by omega,⟨k+1,out++ [⟨yk,yt,yn,ys,yw⟩],_,_⟩,⟨by dsimp only;omega,by simp;omega,?_⟩,by dsimp only;omega,⟨⟨rfl,by simp⟩,by dsimp only;omega⟩,⟨rfl,by simp[Itm.enc]⟩,rfl⟩
      rw[←h4];cases itL true (L.drop (k+1))<;>simp
   ·rw[if_neg (by simp[WY,k3])]at h4
    have k3t:=eq_false k3
    cases yb with
    |false=>
     simp only[finN]at h4
     subst h4
     simp only[X3,k3t,e0,e1,hg,Pa.enc,Itm.enc,zl,Pa.eta',hx,hxa,hxl,hy,hot,plV,zh,ze,itR,zt,zd,zb,za,go_sem,seval,reduceIte,reduceCtorEq]
    |true=>
     simp only[fin]at h4
     simp only[k3t,e0,e1,hg,Pa.enc,Itm.enc,zl,Pa.eta',hx,hxa,hxl,hy,hot,plV,zh,ze,itR,zt,zd,zb,za,go_sem,seval,reduceIte,reduceCtorEq]
     refine⟨⟨by omega,by omega,by omega⟩,by omega,⟨k+1,out++ [⟨yk,yt,yn,ys,yw⟩],_,_⟩,⟨by dsimp only;omega,by simp;omega,?_⟩,by dsimp only;omega,⟨⟨rfl,by simp⟩,by dsimp only;omega⟩,⟨rfl,by simp[Itm.enc]⟩,rfl⟩
     rw[←h4];cases itL true (L.drop (k+1))<;>simp
def Jd:Sum Tryz.prog:=⟨79,fun args=>args= [pas (yV (args.getD 0 .any)),vb (V.boo (args.getD 1 .any))]∧YT (yV (args.getD 0 .any)),fun args=>kR (itL (V.boo (args.getD 1 .any)) (yV (args.getD 0 .any))),fun args h=>by
 have:=zfO _ (JH (yV (args.getD 0 .any)) (V.boo (args.getD 1 .any)) h.2);rwa [←h.1]at this,false⟩
theorem zsM:Jd.f=79:=rfl
theorem zsL(args:List V):Jd.D args=(args= [pas (yV (args.getD 0 .any)),vb (V.boo (args.getD 1 .any))]∧YT (yV (args.getD 0 .any))):=rfl
theorem zgW:Jd.flat=false:=rfl
theorem zsN(args:List V):Jd.r args=kR (itL (V.boo (args.getD 1 .any)) (yV (args.getD 0 .any))):=rfl
attribute [go_sem] zsM zsL zgW zsN
theorem zl1(L:List Pa)(own:Bool)(h:YT L):zf Tryz.prog 50 [pas L,vb own] (X3 (itL own L)):=by
 refine zf.of (Orc.cons QO (Orc.cons yQ (Orc.cons kV (Orc.nil _)))) zzE (by simp[c50]) fun w0 own0=> ?_
 obtain⟨hl,hm⟩:=h
 generalize hR:itL own L=R
 simp only[c50,pas,go_sem,zc,seval,reduceIte,reduceCtorEq]
 refine zC.lp (α:=ItS) (fun a=>[(0,.slc 4 (L.map Pa.enc)),(1,vb own),(6,.ref 0 a.ver 0 a.out.length),(7,vi a.k)])
  (fun a=>⟨[⟨a.ver,5,a.out.map Itm.enc,false,[vi 0,vs ⟨#[]⟩,vs ⟨#[]⟩,vi 0,vi 0]⟩],a.clk⟩) (fun a=>a.k≤L.length∧a.out.length=a.k∧(itL own (L.drop a.k)).map (a.out++ ·)=R) (fun a=>L.length - a.k) ⟨0,[],0,1⟩
  ⟨Nat.zero_le _,rfl,by rw[←hR];simp only[List.drop_zero,List.nil_append];cases itL own L<;>rfl⟩ (St.nil 6 5 [vi 0,vs ⟨#[]⟩,vs ⟨#[]⟩,vi 0,vi 0] (by simp[zj]) (St.cut ?_ ?_ ?_)) fun a ha=> ?_
 ·simp[zu,zj,zq]
 ·simp[Heap.alloc]
 ·rfl
 obtain⟨k,out,ver,clk⟩:=a
 obtain⟨h2,h3,h4⟩:=ha
 simp only at h2 h3 h4
 by_cases hk:k=L.length
 ·subst hk
  rw[List.drop_length]at h4
  simp only[itL,Option.map_some,List.append_nil]at h4
  subst h4
  simp only[Int.lt_irrefl,X3,kZ,List.take_length,yX,WG,WF,Nat.le_refl,go_sem,zc,seval,reduceIte,reduceCtorEq]
 ·have e1:(k:Int)<(L.length:Int):=by omega
  have e0:(0:Int)≤(k:Int):=by omega
  have hlt:k<L.length:=by omega
  rw[zfN own L k hlt,zBZ]at h4
  have hg:=zY L k [vi 0,vs ⟨#[]⟩,vi 0,zz] hlt
  obtain⟨hx,hxa⟩:=hm (L.getD k default) (by rw[List.getD_eq_getElem?_getD,List.getElem?_eq_getElem hlt];exact List.getElem_mem _)
  generalize L.getD k default=x at*
  have hxl:=hxa.1
  have hot:out.take out.length=out:=List.take_length
  unfold itX at h4
  generalize hy:WC x=y at h4
  obtain⟨⟨yk,yt,yn,ys,yw⟩,yb⟩:=y
  have fin:∀z:Itm,toO (z,true)=some z:=fun z=>rfl
  have finN:∀z:Itm,toO (z,false)=none:=fun z=>rfl
  cases own with
  |false=>
   rw[if_neg (by simp[WY])]at h4
   cases yb with
   |false=>
    simp only[finN]at h4
    subst h4
    simp only[X3,e0,e1,hg,Pa.enc,Itm.enc,zl,Pa.eta',hx,hxa,hxl,hy,hot,plV,zh,ze,itR,zt,zd,zb,za,go_sem,seval,reduceIte,reduceCtorEq]
   |true=>
    simp only[fin]at h4
    simp only[e0,e1,hg,Pa.enc,Itm.enc,zl,Pa.eta',hx,hxa,hxl,hy,hot,plV,zh,ze,itR,zt,zd,zb,za,go_sem,seval,reduceIte,reduceCtorEq]
    refine⟨⟨by omega,by omega,by omega⟩,by omega,⟨k+1,out++ [⟨yk,yt,yn,ys,yw⟩],_,_⟩,⟨by dsimp only;omega,by simp;omega,?_⟩,by dsimp only;omega,⟨⟨rfl,by simp⟩,by dsimp only;omega⟩,⟨rfl,by simp[Itm.enc]⟩,rfl⟩
    rw[←h4];cases itL false (L.drop (k+1))<;>simp
  |true=>
   by_cases k3:x.t.kind=3
   ·have k3t:=eq_true k3
    by_cases kc:yg x=q6
    ·have kct:=eq_true kc
     unfold q6 at kct
     by_cases kl:(pl x.al).length=0
     ·rw[if_pos (by simp[WY,k3,kc,kl])]at h4
      have klt:(((pl x.al).length:Int)=0)=True:=eq_true (by omega)
      simp only[fin]at h4
      simp only[k3t,kct,klt,e0,e1,hg,Pa.enc,Itm.enc,zl,Pa.eta',hx,hxa,hxl,hy,hot,plV,zh,ze,itR,zt,zd,zb,za,go_sem,seval,reduceIte,reduceCtorEq]
      refine⟨⟨by omega,by omega,by omega⟩,by omega,⟨k+1,out++ [zqt],_,_⟩,⟨by dsimp only;omega,by simp;omega,?_⟩,by dsimp only;omega,⟨⟨rfl,by simp⟩,by dsimp only;omega⟩,⟨rfl,by simp[zqt,Itm.enc]⟩,rfl⟩
      rw[←h4];cases itL true (L.drop (k+1))<;>simp
     ·rw[if_neg (by simp[WY,kl])]at h4
      have klt:(((pl x.al).length:Int)=0)=False:=eq_false (by omega)
      cases yb with
      |false=>
       simp only[finN]at h4
       subst h4
       simp only[X3,k3t,kct,klt,e0,e1,hg,Pa.enc,Itm.enc,zl,Pa.eta',hx,hxa,hxl,hy,hot,plV,zh,ze,itR,zt,zd,zb,za,go_sem,seval,reduceIte,reduceCtorEq]
      |true=>
       simp only[fin]at h4
       simp only[k3t,kct,klt,e0,e1,hg,Pa.enc,Itm.enc,zl,Pa.eta',hx,hxa,hxl,hy,hot,plV,zh,ze,itR,zt,zd,zb,za,go_sem,seval,reduceIte,reduceCtorEq]
       refine⟨⟨by omega,by omega,by omega⟩,by omega,⟨k+1,out++ [⟨yk,yt,yn,ys,yw⟩],_,_⟩,⟨by dsimp only;omega,by simp;omega,?_⟩,by dsimp only;omega,⟨⟨rfl,by simp⟩,by dsimp only;omega⟩,⟨rfl,by simp[Itm.enc]⟩,rfl⟩
       rw[←h4];cases itL true (L.drop (k+1))<;>simp
    ·rw[if_neg (by simp[WY,kc])]at h4
     have kct:=eq_false kc
     unfold q6 at kct
     cases yb with
     |false=>
      simp only[finN]at h4
      subst h4
      simp only[X3,k3t,kct,e0,e1,hg,Pa.enc,Itm.enc,zl,Pa.eta',hx,hxa,hxl,hy,hot,plV,zh,ze,itR,zt,zd,zb,za,go_sem,seval,reduceIte,reduceCtorEq]
     |true=>
      simp only[fin]at h4
      simp only[k3t,kct,e0,e1,hg,Pa.enc,Itm.enc,zl,Pa.eta',hx,hxa,hxl,hy,hot,plV,zh,ze,itR,zt,zd,zb,za,go_sem,seval,reduceIte,reduceCtorEq]
      refine⟨⟨by omega,by omega,by omega⟩,by omega,⟨k+1,out++ [⟨yk,yt,yn,ys,yw⟩],_,_⟩,⟨by dsimp only;omega,by simp;omega,?_⟩,by dsimp only;omega,⟨⟨rfl,by simp⟩,by dsimp only;omega⟩,⟨rfl,by simp[Itm.enc]⟩,rfl⟩
      rw[←h4];cases itL true (L.drop (k+1))<;>simp
   ·rw[if_neg (by simp[WY,k3])]at h4
    have k3t:=eq_false k3
    cases yb with
    |false=>
     simp only[finN]at h4
     subst h4
     simp only[X3,k3t,e0,e1,hg,Pa.enc,Itm.enc,zl,Pa.eta',hx,hxa,hxl,hy,hot,plV,zh,ze,itR,zt,zd,zb,za,go_sem,seval,reduceIte,reduceCtorEq]
    |true=>
     simp only[fin]at h4
     simp only[k3t,e0,e1,hg,Pa.enc,Itm.enc,zl,Pa.eta',hx,hxa,hxl,hy,hot,plV,zh,ze,itR,zt,zd,zb,za,go_sem,seval,reduceIte,reduceCtorEq]
     refine⟨⟨by omega,by omega,by omega⟩,by omega,⟨k+1,out++ [⟨yk,yt,yn,ys,yw⟩],_,_⟩,⟨by dsimp only;omega,by simp;omega,?_⟩,by dsimp only;omega,⟨⟨rfl,by simp⟩,by dsimp only;omega⟩,⟨rfl,by simp[Itm.enc]⟩,rfl⟩
     rw[←h4];cases itL true (L.drop (k+1))<;>simp
def YY:Sum Tryz.prog:=⟨50,fun args=>args= [pas (yV (args.getD 0 .any)),vb (V.boo (args.getD 1 .any))]∧YT (yV (args.getD 0 .any)),fun args=>kR (itL (V.boo (args.getD 1 .any)) (yV (args.getD 0 .any))),fun args h=>by
 have:=zfO _ (zl1 (yV (args.getD 0 .any)) (V.boo (args.getD 1 .any)) h.2);rwa [←h.1]at this,false⟩
theorem zn0:YY.f=50:=rfl
theorem znZ(args:List V):YY.D args=(args= [pas (yV (args.getD 0 .any)),vb (V.boo (args.getD 1 .any))]∧YT (yV (args.getD 0 .any))):=rfl
theorem zel:YY.flat=false:=rfl
theorem zn1(args:List V):YY.r args=kR (itL (V.boo (args.getD 1 .any)) (yV (args.getD 0 .any))):=rfl
attribute [go_sem] zn0 znZ zel zn1
structure Ct where
 l:List Itm
 none:Bool
 is:Bool
theorem zkK{l:List Tok}(h:okT l):YT (pl l):=⟨by have:=X8 l;have:=h.1;omega,Z4 h⟩
end Go.Proofs.YtjcmoedalneldaaGreat
