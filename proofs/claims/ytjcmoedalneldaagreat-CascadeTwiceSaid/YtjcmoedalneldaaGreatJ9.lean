/- Part of the proof of CascadeTwice. No condition. -/
import Derived.Test.YtjcmoedalneldaaGreatCd
import Derived.Test.YtjcmoedalneldaaGreatE4
import Derived.Test.YtjcmoedalneldaaGreatCe
namespace Go.Sx
def C.hd:C→C
 | .seq a _=>a
 |c=>c
end Go.Sx
namespace Go.Proofs.YtjcmoedalneldaaGreat
open Go.Sx
set_option linter.unusedSimpArgs false
set_option linter.unusedVariables false
set_option maxHeartbeats 8000000
set_option maxRecDepth 100000
def ztO:List V:=[vi 0,vs ⟨#[]⟩,vs ⟨#[]⟩,zD,zD,vs ⟨#[]⟩]
def zlO(l:List Node)(i:Nat):V:=((l.map Node.enc).getD i ztO).getD 3 .any
def zlu(l:List Node)(i:Nat):V:=((l.map Node.enc).getD i ztO).getD 4 .any
theorem zbt(l:List Node)(i:Nat):(l.map Node.enc).getD i [.c (.int .i64 0),.c (.string ⟨#[]⟩),.c (.string ⟨#[]⟩),.c (.slice none 0 0),.c (.slice none 0 0),.c (.string ⟨#[]⟩)]=
  [vi (l.getD i .zero).parent,vs (l.getD i .zero).type,vs (l.getD i .zero).id,zlO l i,zlu l i,vs (l.getD i .zero).text]:=by
 by_cases h:i<l.length
 ·unfold zlO zlu
  rw[yo l i _ h,yo l i _ h]
  rfl
 ·have h1:(l.map Node.enc)[i]? =none:=List.getElem?_eq_none (by simpa using h)
  have h2:l[i]? =none:=List.getElem?_eq_none (by omega)
  simp only[zlO,zlu,List.getD_eq_getElem?_getD,h1,h2]
  rfl
theorem zrs(l:List Node)(i:Nat)(h:i<l.length):zlO l i= .slc 1 ((l.getD i .zero).cls.map fun s=>[vs s]):=by
 unfold zlO;rw[yo l i _ h];rfl
theorem zqD(l:List Node)(i:Nat)(h:i<l.length):zlu l i= .slc 2 ((l.getD i .zero).attrs.map fun p=>[vs p.1,vs p.2]):=by
 unfold zlu;rw[yo l i _ h];rfl
def fst(p:Nat→Bool):Nat→Nat→Int
 |0,_=> -1
 |f+1,k=>if p k=true then k else fst p f (k+1)
theorem Q3(p:Nat→Bool):∀(f k:Nat),(fst p f k= -1∧∀i,k≤i→i<k+f→p i=false)∨∃m:Nat,fst p f k=m∧k≤m∧m<k+f∧p m=true∧∀i,k≤i→i<m→p i=false
 |0,k=>.inl ⟨rfl,fun i h1 h2=>by omega⟩
 |f+1,k=>by
  simp only[fst]
  by_cases h:p k=true
  ·rw[if_pos h];exact .inr ⟨k,rfl,Nat.le_refl _,by omega,h,fun i h1 h2=>by omega⟩
  ·rw[if_neg h]
   have h':p k=false:=by simpa using h
   rcases Q3 p f (k+1)with⟨h1,h2⟩|⟨m,h1,h2,h3,h4,h5⟩
   ·refine .inl ⟨h1,fun i hi1 hi2=> ?_⟩
    by_cases e:i=k
    ·subst e;exact h'
    ·exact h2 i (by omega) (by omega)
   ·refine .inr ⟨m,h1,by omega,by omega,h4,fun i hi1 hi2=> ?_⟩
    by_cases e:i=k
    ·subst e;exact h'
    ·exact h5 i (by omega) hi2
theorem jD(p:Nat→Bool)(n k:Nat)(h:k<n):fst p (n - k) k=if p k=true then(k:Int)else fst p (n - (k+1)) (k+1):=by
 obtain⟨f,hf⟩:∃f,n - k=f+1:=⟨n - k - 1,by omega⟩
 rw[hf,show n - (k+1)=f by omega];rfl
theorem ZQ(p:Nat→Bool)(n:Nat):fst p (n - n) n= -1:=by rw[Nat.sub_self];rfl
def ixI(l:List Int)(x:Int):Int:=fst (fun i=>decide (x=l.getD i 0)) (l.length - 0) 0
theorem zr3(l:List Int)(x:Int):0≤ixI l x↔x∈l:=by
 unfold ixI
 rcases Q3 (fun i=>decide (x=l.getD i 0)) (l.length - 0) 0 with⟨h1,h2⟩|⟨m,h1,h2,h3,h4,h5⟩
 ·rw[h1]
  refine⟨fun h=>by omega,fun h=> ?_⟩
  obtain⟨i,hi,rfl⟩:=List.getElem_of_mem h
  have:=h2 i (by omega) (by omega)
  simp[List.getD_eq_getElem?_getD,hi]at this
 ·rw[h1]
  refine⟨fun _=> ?_,fun _=>by omega⟩
  simp only[decide_eq_true_eq]at h4
  rw[h4,List.getD_eq_getElem?_getD,List.getElem?_eq_getElem (by omega)]
  exact List.getElem_mem _
theorem zvD(l:List Int)(x:Int)(hl:l.length≤1000000):zf Tryz.prog 153 [zO l,vi x] (vi (ixI l x)):=by
 refine zf.of (Orc.nil _) zq2 (by simp[zug]) fun w0 own0=> ?_
 simp only[zug,zO,go_sem,zb,seval,reduceIte,reduceCtorEq]
 refine zQ.lp (α:=Nat) (fun k=>[(0,.slc 1 (l.map fun n=>[vi n])),(1,vi x),(7,vi l.length),(8,vi k)]) (fun _=>⟨[],0⟩)
  (fun k=>k≤l.length∧fst (fun i=>decide (x=l.getD i 0)) (l.length - k) k=ixI l x) (fun k=>l.length - k) 0 ⟨Nat.zero_le _,rfl⟩ (St.mk (by simp[zu,zr,zv])) fun k hk=> ?_
 obtain⟨h1,h2⟩:=hk
 by_cases hkl:k=l.length
 ·subst hkl
  rw[ZQ]at h2
  simp only[Int.lt_irrefl,←h2,go_sem,zb,seval,reduceIte,reduceCtorEq]
 ·have e1:(k:Int)<(l.length:Int):=by omega
  rw[jD _ _ _ (by omega)]at h2
  simp only[decide_eq_true_eq]at h2
  simp only[e1,go_sem,zb,seval,reduceIte,reduceCtorEq]
  refine⟨by omega,fun h=>by rw[if_pos h]at h2;exact h2,fun h=>⟨by omega,k+1,⟨by omega,by rw[if_neg h]at h2;exact h2⟩,by omega,by omega⟩⟩
def Wv:Sum Tryz.prog:=⟨153,fun args=>args= [zO (zK (args.getD 0 .any)),vi ((args.getD 1 .any).int)]∧((zK (args.getD 0 .any))).length≤1000000,fun args=>vi (ixI (zK (args.getD 0 .any)) ((args.getD 1 .any).int)),fun args h=>by
 have:=zvD (zK (args.getD 0 .any)) ((args.getD 1 .any).int) h.2;rwa [←h.1]at this,true⟩
theorem zoa:Wv.f=153:=rfl
theorem zn9(args:List V):Wv.D args=(args= [zO (zK (args.getD 0 .any)),vi ((args.getD 1 .any).int)]∧((zK (args.getD 0 .any))).length≤1000000):=rfl
theorem zeg:Wv.flat=true:=rfl
theorem zob(args:List V):Wv.r args=vi (ixI (zK (args.getD 0 .any)) ((args.getD 1 .any).int)):=rfl
attribute [go_sem] zoa zn9 zeg zob
theorem zrv(l:List Int)(x:Int)(hl:l.length≤1000000):zf Tryz.prog 122 [zO l,vi x] (vb (decide (x∈l))):=by
 refine zf.of (Orc.cons Wv (Orc.nil _)) zqQ (by simp[zt4]) fun w0 own0=> ?_
 simp only[zt4,zO,zr3,go_sem,zb,seval,reduceIte,reduceCtorEq]
 exact hl
def Kx:Sum Tryz.prog:=⟨122,fun args=>args= [zO (zK (args.getD 0 .any)),vi ((args.getD 1 .any).int)]∧((zK (args.getD 0 .any))).length≤1000000,fun args=>vb (decide (((args.getD 1 .any).int)∈(zK (args.getD 0 .any)))),fun args h=>by
 have:=zrv (zK (args.getD 0 .any)) ((args.getD 1 .any).int) h.2;rwa [←h.1]at this,true⟩
theorem zjQ:Kx.f=122:=rfl
theorem zjP(args:List V):Kx.D args=(args= [zO (zK (args.getD 0 .any)),vi ((args.getD 1 .any).int)]∧((zK (args.getD 0 .any))).length≤1000000):=rfl
theorem zbU:Kx.flat=true:=rfl
theorem zjR(args:List V):Kx.r args=vb (decide (((args.getD 1 .any).int)∈(zK (args.getD 0 .any)))):=rfl
attribute [go_sem] zjQ zjP zbU zjR
def par(l:List Node)(k:Nat):Int:=(l.getD k .zero).parent
def clb(l:List Node)(of:Int):Nat→Int→Int
 |0,k=>k
 |f+1,k=>if of<k∧(l.getD k.toNat .zero).parent<k then clb l of f (l.getD k.toNat .zero).parent else k
def inN(l:List Node)(k:Int)(of:Int):Bool:=decide (clb l of k.toNat k=of)
structure InS where
 k:Int
 f:Nat
theorem zwU(l:List Node)(k of:Int)(h0:0≤of)(hk:k<l.length)(hl:l.length≤1000000):zf Tryz.prog 102 [zo l,vi k,vi of] (vb (inN l k of)):=by
 refine zf.of (Orc.nil _) zqL (by simp[ztZ]) fun w0 own0=> ?_
 simp only[ztZ,zo,go_sem,zb,seval,reduceIte,reduceCtorEq]
 unfold inN
 generalize hR:clb l of k.toNat k=R
 refine zQ.lp (α:=InS) (fun a=>[(0,.slc 6 (l.map Node.enc)),(1,vi a.k),(2,vi of)]) (fun _=>⟨[],0⟩)
  (fun a=>a.k<l.length∧a.k.toNat≤a.f∧clb l of a.f a.k=R) (fun a=>a.k.toNat) ⟨k,k.toNat⟩ ⟨hk,Nat.le_refl _,hR⟩ (St.mk (by simp[zu,zr,zv])) fun a ha=> ?_
 obtain⟨k,f⟩:=a
 simp only at ha
 obtain⟨h1,h2,h3⟩:=ha
 simp only[zbt,go_sem,zb,seval,reduceIte,reduceCtorEq]
 generalize hP:(l.getD k.toNat .zero).parent=p at*
 cases f with
 |zero=>
  simp only[clb]at h3
  subst h3
  exact⟨fun h=>by omega,fun h=>by omega,fun _=>rfl⟩
 |succ f=>
  simp only[clb,hP]at h3
  refine⟨fun h=>by omega,fun h=>⟨by omega,⟨p,f⟩,⟨by dsimp only;omega,by dsimp only;omega,by rw[if_pos h]at h3;exact h3⟩,by dsimp only;omega,rfl⟩,fun h=> ?_⟩
  rw[if_neg (by omega)]at h3
  rw[h3]
def zdl(n:Node):Bool:=decide (n.type=⟨#[]⟩∧(n.id≠⟨#[]⟩∨0<n.cls.length∨0<n.attrs.length))
def X3(n:Node)(o:List Int)(l:List Node):Bool:=if o= []then decide (n.parent= -1∧n.type≠⟨#[]⟩)else if zdl n=true then false else decide (n.parent∈o∧(l.getD n.parent.toNat .zero).type≠⟨#[]⟩)
theorem X2(n:Node):(n.type=⟨#[]⟩∧((¬n.id=⟨#[]⟩∨0<(n.cls.length:Int))∨0<(n.attrs.length:Int)))↔zdl n=true:=by
 simp only[zdl,decide_eq_true_eq,ne_eq]
 constructor
 ·rintro⟨h,(h1|h1)|h1⟩
  ·exact⟨h,.inl h1⟩
  ·exact⟨h,.inr (.inl (by omega))⟩
  ·exact⟨h,.inr (.inr (by omega))⟩
 ·rintro⟨h,h1|h1|h1⟩
  ·exact⟨h,.inl (.inl h1)⟩
  ·exact⟨h,.inl (.inr (by omega))⟩
  ·exact⟨h,.inr (by omega)⟩
theorem zdm(n:Node)(h:¬n.type=⟨#[]⟩∨(n.id=⟨#[]⟩∧¬0<(n.cls.length:Int))∧¬0<(n.attrs.length:Int)):¬zdl n=true:=by
 rw[←X2]
 rintro⟨a,(b|b)|b⟩
 ·rcases h with h|h
  ·exact h a
  ·exact b h.1.1
 ·rcases h with h|h
  ·exact h a
  ·exact h.1.2 b
 ·rcases h with h|h
  ·exact h a
  ·exact h.2 b
theorem zvJ(n:Node)(o:List Int)(l:List Node)(hl:o.length≤1000000)(ho:∀x∈o,0≤x∧x<l.length):zf Tryz.prog 96 [.agg n.enc,zO o,zo l] (vb (X3 n o l)):=by
 refine zf.of (Orc.cons Kx (Orc.nil _)) zu3 (by simp[c96]) fun w0 own0=> ?_
 simp only[c96,zo,zO,Node.enc,zbt,go_sem,zb,seval,reduceIte,reduceCtorEq]
 have ho0:(o.length:Int)=0↔o= []:=by rw[←List.length_eq_zero_iff];omega
 by_cases h0:o= []
 ·subst h0
  refine⟨fun _=> ?_,fun h=>absurd rfl h⟩
  simp[X3]
 ·rw[ho0]
  simp only[X3,if_neg h0]
  refine⟨fun h=>absurd h h0,fun _=>⟨fun h=>by grind,fun h=>by grind,fun h=> ?_,fun h=>⟨hl,fun hp=>⟨hp,ho _ hp⟩,?_⟩⟩⟩
  ·rw[if_pos ((X2 n).1 h)]
  ·rw[if_neg (zdm n h)]
   simp
def zd6:Sum Tryz.prog:=⟨102,fun args=>args= [zo (zk (args.getD 0 .any)),vi ((args.getD 1 .any).int),vi ((args.getD 2 .any).int)]∧0≤((args.getD 2 .any).int)∧((args.getD 1 .any).int)<((zk (args.getD 0 .any))).length∧((zk (args.getD 0 .any))).length≤1000000,fun args=>vb (inN (zk (args.getD 0 .any)) ((args.getD 1 .any).int) ((args.getD 2 .any).int)),fun args h=>by
 have:=zwU (zk (args.getD 0 .any)) ((args.getD 1 .any).int) ((args.getD 2 .any).int) h.2.1 h.2.2.1 h.2.2.2;rwa [←h.1]at this,true⟩
theorem zsO:zd6.f=102:=rfl
theorem zsN(args:List V):zd6.D args=(args= [zo (zk (args.getD 0 .any)),vi ((args.getD 1 .any).int),vi ((args.getD 2 .any).int)]∧0≤((args.getD 2 .any).int)∧((args.getD 1 .any).int)<((zk (args.getD 0 .any))).length∧((zk (args.getD 0 .any))).length≤1000000):=rfl
theorem zgj:zd6.flat=true:=rfl
theorem zsP(args:List V):zd6.r args=vb (inN (zk (args.getD 0 .any)) ((args.getD 1 .any).int) ((args.getD 2 .any).int)):=rfl
attribute [go_sem] zsO zsN zgj zsP
def zwO(l:List Node)(k:Int):Prop:=0≤k∧k<l.length∧l.length≤1000000
def zw7(o:List Int)(l:List Node):Prop:=o.length≤1000000∧∀x∈o,0≤x∧x<l.length
def Wz:Sum Tryz.prog:=⟨96,fun args=>args= [.agg (Node.enc (zN (args.getD 0 .any))),zO (zK (args.getD 1 .any)),zo (zk (args.getD 2 .any))]∧zw7 (zK (args.getD 1 .any)) (zk (args.getD 2 .any)),fun args=>vb (X3 (zN (args.getD 0 .any)) (zK (args.getD 1 .any)) (zk (args.getD 2 .any))),fun args h=>by
 have:=zvJ (zN (args.getD 0 .any)) (zK (args.getD 1 .any)) (zk (args.getD 2 .any)) h.2.1 h.2.2;rwa [←h.1]at this,true⟩
theorem zov:Wz.f=96:=rfl
theorem zou(args:List V):Wz.D args=(args= [.agg (Node.enc (zN (args.getD 0 .any))),zO (zK (args.getD 1 .any)),zo (zk (args.getD 2 .any))]∧zw7 (zK (args.getD 1 .any)) (zk (args.getD 2 .any))):=rfl
theorem zen:Wz.flat=true:=rfl
theorem zow(args:List V):Wz.r args=vb (X3 (zN (args.getD 0 .any)) (zK (args.getD 1 .any)) (zk (args.getD 2 .any))):=rfl
attribute [go_sem] zov zou zen zow
def qk(l:List Node)(k:Nat):Bool:=if k=0 then decide ((l.getD k .zero).parent= -1∧(l.getD k .zero).type≠⟨#[]⟩)else if zdl (l.getD k .zero)=true then false
 else decide (0≤par l k∧par l k<k∧inN l (k - 1) (par l k)=true∧(l.getD (par l k).toNat .zero).type≠⟨#[]⟩)
theorem znq(l:List Node)(k:Nat)(hk:k<l.length)(hl:l.length≤1000000):zf Tryz.prog 70 [zo l,vi k] (vb (qk l k)):=by
 refine zf.of (Orc.cons zd6 (Orc.nil _)) zuT (by simp[c70]) fun w0 own0=> ?_
 have hc:=zrs l k hk
 have ha:=zqD l k hk
 simp only[c70,zo,zl,Node.enc,zbt,hc,ha,go_sem,zb,seval,reduceIte,reduceCtorEq]
 by_cases h0:k=0
 ·subst h0
  refine⟨by omega,fun _=>by simp[qk],fun h=>absurd rfl h⟩
 ·simp only[qk,if_neg h0]
  refine⟨by omega,fun h=>by omega,fun _=>⟨fun h=>by grind,fun h=>by grind,fun h=> ?_,fun h=>⟨fun hp=>⟨hp,by omega,by omega⟩,fun hp=>⟨hp,hp.1,by omega,hl⟩,fun hp=>⟨hp,hp.1.1,by omega⟩,?_⟩⟩⟩
  ·rw[if_pos ((X2 _).1 h)]
  ·rw[if_neg (zdm _ h)]
   simp[par,Bool.and_assoc]
def YC:Sum Tryz.prog:=⟨70,fun args=>args= [zo (zk (args.getD 0 .any)),vi ((args.getD 1 .any).int)]∧zwO (zk (args.getD 0 .any)) ((args.getD 1 .any).int),fun args=>vb (qk (zk (args.getD 0 .any)) (((args.getD 1 .any).int)).toNat),fun args h=>by
 have:=(by have h1:=h.2;have h2:=znq (zk (args.getD 0 .any)) (((args.getD 1 .any).int)).toNat (by have:=h1.1;have:=h1.2.1;omega) h1.2.2;rw[Int.toNat_of_nonneg h1.1]at h2;exact h2:zf Tryz.prog 70 [zo (zk (args.getD 0 .any)),vi ((args.getD 1 .any).int)] (vb (qk (zk (args.getD 0 .any)) (((args.getD 1 .any).int)).toNat)));rwa [←h.1]at this,true⟩
theorem zgw:YC.f=70:=rfl
theorem zgv(args:List V):YC.D args=(args= [zo (zk (args.getD 0 .any)),vi ((args.getD 1 .any).int)]∧zwO (zk (args.getD 0 .any)) ((args.getD 1 .any).int)):=rfl
theorem zaf:YC.flat=true:=rfl
theorem zgx(args:List V):YC.r args=vb (qk (zk (args.getD 0 .any)) (((args.getD 1 .any).int)).toNat):=rfl
attribute [go_sem] zgw zgv zaf zgx
def Qj(l:List Node):Int:=fst (fun k=> !qk l k) (l.length - 0) 0
def yO(l:List Node)(b:Int):V:=.tup [vi (if 0≤b then b else 0),vi (if 0≤b∨l.length=0 then 5 else 0)]
theorem zcI(l:List Node)(h:¬l.length=0):V.tup [V.c (Value.int IntKind.i64 0),V.c (Value.int IntKind.i64 0)]=yO l (-1):=by
 simp only[yO];rw[if_neg (by omega),if_neg (by omega)]
theorem zaw(l:List Node)(h:l.length=0):V.tup [V.c (Value.int IntKind.i64 0),V.c (Value.int IntKind.i64 5)]=yO l (-1):=by
 simp only[yO];rw[if_neg (by omega),if_pos (by omega)]
theorem zav(l:List Node)(k:Nat):V.tup [V.c (Value.int IntKind.i64 k),V.c (Value.int IntKind.i64 5)]=yO l k:=by
 simp only[yO];rw[if_pos (by omega),if_pos (by omega)]
theorem zro(l:List Node)(hl:l.length≤1000):zf Tryz.prog 38 [zo l] (yO l (Qj l)):=by
 refine zf.of (Orc.cons YC (Orc.nil _)) zuB (by simp[c38]) fun w0 own0=> ?_
 have e0:¬(4096:Int)<(l.length:Int):=by omega
 simp only[c38,zo,e0,go_sem,zb,seval,reduceIte,reduceCtorEq]
 unfold Qj
 generalize hR:fst (fun k=> !qk l k) (l.length - 0) 0=R
 refine zQ.lp (α:=Nat) (fun a=>[(0,.slc 6 (l.map Node.enc)),(4,vi a)]) (fun _=>⟨[],0⟩)
  (fun a=>a≤l.length∧fst (fun k=> !qk l k) (l.length - a) a=R) (fun a=>l.length - a) 0 ⟨by omega,hR⟩ (St.mk (by simp[zu,zr,zv])) fun a ha=> ?_
 obtain⟨h1,h2⟩:=ha
 by_cases hal:a=l.length
 ·subst hal
  rw[ZQ]at h2
  subst h2
  simp only[Int.lt_irrefl,go_sem,zb,seval,reduceIte,reduceCtorEq]
  exact⟨fun h=>zaw l (by omega),fun h=>zcI l (by omega)⟩
 ·have e1:(a:Int)<(l.length:Int):=by omega
  rw[jD _ _ _ (by omega)]at h2
  simp only[Bool.not_eq_true']at h2
  simp only[e1,zbt,zo,zl,go_sem,zb,seval,reduceIte,reduceCtorEq]
  refine⟨⟨by omega,by omega,by omega⟩,fun h=> ?_,fun h=>⟨by omega,a+1,⟨by omega,by rw[if_neg (by simp[h])]at h2;exact h2⟩,by omega,by omega⟩⟩
  rw[if_pos h]at h2
  subst h2
  exact zav l a
def Wg(p:Int)(s:List Int):Nat→Nat
 |0=>0
 |m+1=>if s.getD m 0=p then m+1 else Wg p s m
def stk(l:List Node):Nat→List Int
 |0=>[]
 |k+1=>(stk l k).take (Wg (par l k) (stk l k) (stk l k).length)++ [(k:Int)]
theorem Xj(l:List Node):∀k,∀x∈stk l k,0≤x∧x<k
 |0,x,h=>by simp[stk]at h
 |k+1,x,h=>by
  simp only[stk,List.mem_append,List.mem_singleton]at h
  rcases h with h|h
  ·have:=Xj l k x (List.mem_of_mem_take h);omega
  ·omega
theorem zhK(l:List Node):∀k,(stk l k).length≤k
 |0=>Nat.le_refl _
 |k+1=>by
  have:=zhK l k
  simp only[stk,List.length_append,List.length_take,List.length_singleton]
  omega
def zcD(l:List Node):Int:=fst (fun k=> !X3 (l.getD k .zero) (stk l k) l) (l.length - 0) 0
structure CkS where
 k:Nat
 es:List Int
 ver:Nat
 clk:Nat
theorem zrp(l:List Node)(hl:l.length≤1000):zf Tryz.prog 62 [zo l] (yO l (zcD l)):=by
 refine zf.of (Orc.cons Wz (Orc.nil _)) zuM (by simp[c62]) fun w0 own0=> ?_
 have e0:¬(4096:Int)<(l.length:Int):=by omega
 simp only[c62,zo,e0,go_sem,zb,seval,reduceIte,reduceCtorEq]
 refine⟨fun h0=> ?_,fun h0=> ?_⟩
 ·have e:zcD l= -1:=by
   unfold zcD
   rw[show l.length - 0=0 by omega];rfl
  rw[e];exact zaw l (by omega)
 unfold zcD
 generalize hR:fst (fun k=> !X3 (l.getD k .zero) (stk l k) l) (l.length - 0) 0=R
 refine zQ.lp (α:=CkS) (fun a=>[(0,.slc 6 (l.map Node.enc)),(4,.ref 0 a.ver 0 (stk l a.k).length),(15,.slc 6 (l.map Node.enc)),(16,vi l.length),(17,vi a.k)])
  (fun a=>⟨[⟨a.ver,1,a.es.map fun n=>[vi n],false,[vi 0]⟩],a.clk⟩)
  (fun a=>a.k≤l.length∧a.es.take (stk l a.k).length=stk l a.k∧(stk l a.k).length≤a.es.length∧fst (fun k=> !X3 (l.getD k .zero) (stk l k) l) (l.length - a.k) a.k=R) (fun a=>l.length - a.k) ⟨0,[],0,1⟩ ⟨by simp,rfl,by simp[stk],hR⟩
  (St.nil 4 1 [vi 0] (by simp[zr]) (St.cut ?_ ?_ ?_)) fun a ha=> ?_
 ·simp[zu,zr,zv,stk]
 ·simp[Heap.alloc]
 ·rfl
 obtain⟨k,es,ver,clk⟩:=a
 simp only at ha
 obtain⟨h1,h2,h3,h4⟩:=ha
 by_cases hal:k=l.length
 ·subst hal
  rw[ZQ]at h4
  subst h4
  simp only[Int.lt_irrefl,go_sem,zb,seval,reduceIte,reduceCtorEq]
  exact zcI l (by omega)
 ·have e1:(k:Int)<(l.length:Int):=by omega
  rw[jD _ _ _ (by omega)]at h4
  simp only[Bool.not_eq_true']at h4
  have hs:=Xj l k
  have hsl:=zhK l k
  have hst:stk l (k+1)=(stk l k).take (Wg (par l k) (stk l k) (stk l k).length)++ [(k:Int)]:=rfl
  generalize stk l k=s at*
  have hn:=yo l k [.c (.int .i64 0),.c (.string ⟨#[]⟩),.c (.string ⟨#[]⟩),.c (.slice none 0 0),.c (.slice none 0 0),.c (.string ⟨#[]⟩)] (by omega)
  generalize hN:l.getD k .zero=n at*
  simp only[e1,hn,Node.enc,zo,zO,h2,h3,qt,Node.eta,zl,go_sem,zb,seval,reduceIte,reduceCtorEq]
  refine⟨by omega,⟨by omega,fun x hx=>by have:=hs x hx;omega⟩,fun hm=> ?_,fun hm=> ?_⟩
  ·rw[if_pos hm]at h4
   subst h4
   exact zav l k
  ·rw[if_neg (by simp[hm])]at h4
   have hpar:n.parent=par l k:=by rw[←hN];rfl
   refine zQ.lp (α:=Nat) (fun m=>[(0,.slc 6 (l.map Node.enc)),(4,.ref 0 ver 0 m),(5,vi k),(6,.ptr 1 clk 0 0),(15,.slc 6 (l.map Node.enc)),(16,vi l.length),(17,vi k)])
    (fun m=>⟨[⟨ver,1,es.map fun n=>[vi n],false,[vi 0]⟩,⟨clk,6,[n.enc],false,[]⟩],clk+1⟩)
    (fun m=>m≤s.length∧Wg (par l k) s m=Wg (par l k) s s.length) (fun m=>m) s.length ⟨Nat.le_refl _,rfl⟩ (St.cut ?_ ?_ ?_) fun m hm=> ?_
   ·simp[zu,zr,ev]
   ·simp[Node.enc]
   ·rfl
   obtain⟨m1,m2⟩:=hm
   simp only[Node.enc,hpar,go_sem,zb,seval,reduceIte,reduceCtorEq]
   have hget:∀i,i<s.length→es.getD i 0=s.getD i 0:=fun i hi=>by
    have e:s.getD i 0=(es.take s.length).getD i 0:=by rw[h2]
    rw[e,List.getD_eq_getElem?_getD,List.getD_eq_getElem?_getD,List.getElem?_take,if_pos hi]
   have htk:∀i,i≤s.length→es.take i=s.take i:=fun i hi=>by
    have e:(es.take s.length).take i=es.take i:=by rw[List.take_take];congr 1;omega
    rw[←e,h2]
   refine⟨fun h=>⟨h,by omega,by omega⟩,fun h=>⟨h,by omega,by omega⟩,fun h=>⟨h,by omega⟩,fun h=> ?_,fun h=> ?_⟩
   ·obtain⟨m',rfl⟩:∃m',m=m'+1:=⟨m - 1,by omega⟩
    have e2:((((m'+1:Nat):Int) - 1)).toNat=m':=by omega
    rw[e2]at h⊢
    rw[hget m' (by omega)]at h
    simp only[Wg,if_neg h.2]at m2
    exact⟨by omega,by omega,m',⟨by omega,m2⟩,by omega,by omega⟩
   ·have hpm:Wg (par l k) s m=m:=by
     cases m with
     |zero=>rfl
     |succ m'=>
      have e2:((((m'+1:Nat):Int) - 1)).toNat=m':=by omega
      rw[e2,hget m' (by omega)]at h
      simp only[Wg]
      rw[if_pos (by rcases h with h|h;exact absurd (by omega) h;exact h)]
    rw[←m2,hpm]at hst
    have hlen:(s.take m).length=m:=by rw[List.length_take];omega
    refine⟨by omega,by omega,⟨k+1,es.take m++ [(k:Int)],clk+1+1,clk+1+1+1⟩,⟨by dsimp only;omega,?_,?_,h4⟩,by dsimp only;omega,⟨⟨rfl,?_⟩,by dsimp only;omega⟩,⟨rfl,by simp⟩,rfl⟩
    ·dsimp only;rw[hst,htk m m1,List.take_of_length_le (Nat.le_refl _)]
    ·dsimp only;rw[hst,htk m m1];exact Nat.le_refl _
    ·dsimp only;rw[hst,List.length_append,hlen];rfl
theorem QR(l:List Node)(of k:Int)(f:Nat)(h:¬of<k):clb l of f k=k:=by
 cases f with
 |zero=>rfl
 |succ f=>simp only[clb];rw[if_neg (fun hh=>h hh.1)]
theorem zcK(l:List Node)(of:Int)(h0:0≤of):∀(f:Nat)(k:Int),k.toNat≤f→clb l of (f+1) k=clb l of f k
 |0,k,h=>by rw[QR _ _ _ _ (by omega),QR _ _ _ _ (by omega)]
 |f+1,k,h=>by
  rw[clb]
  conv=>rhs;rw[clb]
  by_cases hc:of<k∧(l.getD k.toNat .zero).parent<k
  ·rw[if_pos hc,if_pos hc,zcK l of h0 f _ (by omega)]
  ·rw[if_neg hc,if_neg hc]
theorem zcJ(l:List Node)(of:Int)(h0:0≤of)(k:Int):∀(d:Nat),clb l of (k.toNat+d) k=clb l of k.toNat k
 |0=>rfl
 |d+1=>by rw[←zcJ l of h0 k d,←Nat.add_assoc,zcK l of h0 _ _ (by omega)]
theorem zc8(l:List Node)(k:Int):inN l k k=true:=by
 unfold inN;rw[QR _ _ _ _ (by omega)];simp
theorem zrX(l:List Node)(k p:Int)(h:k<p):inN l k p=false:=by
 unfold inN;rw[QR _ _ _ _ (by omega)];simp;omega
theorem Q6(l:List Node)(k:Nat)(p:Int)(h0:0≤p)(h1:p<k)(h2:par l k<k):inN l k p=inN l (par l k) p:=by
 unfold inN
 have e:((k:Int)).toNat=(k - 1)+1:=by omega
 have e2:l.getD ((k:Int)).toNat .zero=l.getD k .zero:=by rw[Int.toNat_natCast]
 conv=>lhs;rw[e,clb,e2]
 rw[if_pos ⟨h1,h2⟩]
 show decide (clb l p (k - 1) (par l k)=p)=_
 obtain⟨d,hd⟩:∃d,k - 1=(par l k).toNat+d:=⟨k - 1 - (par l k).toNat,by omega⟩
 rw[hd,zcJ l p h0]
theorem K3(l:List Node)(k p:Int)(h:inN l k p=true):p≤k:=by
 refine Decidable.byContradiction fun hn=> ?_
 rw[zrX l k p (by omega)]at h;cases h
theorem ziz(l:List Node)(n:Nat)(hd:∀j,j<n→par l j<j):∀(m:Nat),m<n→∀(q p:Int),0≤p→p≤q→inN l m q=true→inN l m p=inN l q p:=by
 intro m
 induction m using Nat.strongRecOn with
 |_ m ih=>
  intro hm q p h0 h1 h2
  have hq:=K3 _ _ _ h2
  by_cases e:q=m
  ·subst e;rfl
  ·have hp:=hd m hm
   rw[Q6 l m q (by omega) (by omega) hp]at h2
   have hq2:=K3 _ _ _ h2
   rw[Q6 l m p h0 (by omega) hp]
   have hn:((par l m).toNat:Int)=par l m:=Int.toNat_of_nonneg (by omega)
   rw[←hn]at h2⊢
   exact ih (par l m).toNat (by omega) (by omega) q p h0 h1 h2
def zaZ(l:List Node)(n:Nat):Prop:=∀j,j<n→qk l j=true
theorem JH{l:List Node}:qk l 0=true↔(par l 0= -1∧(l.getD 0 .zero).type≠⟨#[]⟩):=by
 simp[qk,par]
theorem QE{l:List Node}{k:Nat}(h:0<k):qk l k=true↔(zdl (l.getD k .zero)=false∧0≤par l k∧par l k<k∧inN l (k - 1) (par l k)=true∧(l.getD (par l k).toNat .zero).type≠⟨#[]⟩):=by
 unfold qk
 rw[if_neg (by omega)]
 cases hb:zdl (l.getD k .zero)<;>simp
theorem Jc{l:List Node}{n:Nat}(h:zaZ l n):∀j,j<n→par l j<j:=by
 intro j hj
 have:=h j hj
 by_cases e:j=0
 ·subst e;rw[(JH.1 this).1];omega
 ·exact((QE (by omega)).1 this).2.2.1
theorem znu{l:List Node}{n:Nat}(h:zaZ l n)(j:Nat)(h0:0<j)(hj:j<n):0≤par l j:=((QE h0).1 (h j hj)).2.1
theorem Wo(l:List Node):∀k,(stk l k).Pairwise (· < ·)
 |0=>List.Pairwise.nil
 |k+1=>by
  simp only[stk]
  rw[List.pairwise_append]
  refine⟨(Wo l k).sublist (List.take_sublist _ _),by simp,fun a ha b hb=> ?_⟩
  have:=Xj l k a (List.mem_of_mem_take ha)
  simp at hb
  omega
theorem Jn(s:List Int)(m:Nat)(h:m<s.length):s.take (m+1)=s.take m++ [s.getD m 0]:=by
 rw[List.take_add_one,List.getElem?_eq_getElem h,List.getD_eq_getElem?_getD,List.getElem?_eq_getElem h];rfl
theorem zdx(p:Int)(s:List Int)(hs:s.Pairwise (· < ·)):∀(m:Nat),m≤s.length→p∈s.take m→∀x,x∈s.take (Wg p s m)↔x∈s.take m∧x≤p
 |0,_,hp,x=>by simp at hp
 |m+1,hm,hp,x=>by
  have hsub:(s.take (m+1)).Pairwise (· < ·):=hs.sublist (List.take_sublist _ _)
  rw[Jn s m (by omega),List.pairwise_append]at hsub
  have hlt:∀a∈s.take m,a<s.getD m 0:=fun a ha=>hsub.2.2 a ha _ (by simp)
  simp only[Wg]
  by_cases e:s.getD m 0=p
  ·rw[if_pos e,Jn s m (by omega),e]
   simp only[List.mem_append,List.mem_singleton]
   constructor
   ·rintro(h|h)
    ·exact⟨.inl h,by have:=hlt x h;omega⟩
    ·exact⟨.inr h,by omega⟩
   ·exact fun h=>h.1
  ·rw[if_neg e]
   rw[Jn s m (by omega)]at hp⊢
   simp only[List.mem_append,List.mem_singleton]at hp⊢
   have hp':p∈s.take m:=by
    rcases hp with hp|hp
    ·exact hp
    ·exact absurd hp.symm e
   rw[zdx p s hs m (by omega) hp' x]
   constructor
   ·exact fun h=>⟨.inl h.1,h.2⟩
   ·rintro⟨h|h,h2⟩
    ·exact⟨h,h2⟩
    ·have:=hlt p hp';omega
theorem znt(l:List Node):∀k,zaZ l (k+1)→∀p:Int,p∈stk l (k+1)↔(0≤p∧inN l k p=true)
 |0,h,p=>by
  simp only[stk,List.take_nil,List.nil_append,List.mem_singleton]
  constructor
  ·rintro rfl;exact⟨by omega,zc8 l 0⟩
  ·rintro⟨h1,h2⟩
   have:=K3 _ _ _ h2;omega
 |k+1,h,p=>by
  have ih:=znt l k (fun j hj=>h j (by omega))
  have hk:=(QE (by omega)).1 (h (k+1) (by omega))
  have hpar:=Jc h (k+1) (by omega)
  have e1:(((k+1:Nat):Int) - 1)=k:=by omega
  rw[e1]at hk
  have hmem:par l (k+1)∈(stk l (k+1)).take (stk l (k+1)).length:=by
   rw[List.take_length];exact(ih _).2 ⟨hk.2.1,hk.2.2.2.1⟩
  have e2:stk l (k+1+1)=(stk l (k+1)).take (Wg (par l (k+1)) (stk l (k+1)) (stk l (k+1)).length)++ [((k+1:Nat):Int)]:=rfl
  rw[e2]
  simp only[List.mem_append,List.mem_singleton]
  rw[zdx _ _ (Wo l (k+1)) _ (Nat.le_refl _) hmem p,List.take_length,ih]
  have ht:p≤par l (k+1)→0≤p→inN l k p=inN l (par l (k+1)) p:=fun h1 h0=>ziz l (k+1) (Jc (fun j hj=>h j (by omega))) k (by omega) _ _ h0 h1 hk.2.2.2.1
  constructor
  ·rintro(⟨⟨h1,h2⟩,h3⟩|h1)
   ·refine⟨h1,?_⟩
    rw[Q6 l (k+1) p h1 (by omega) hpar,←ht h3 h1];exact h2
   ·subst h1;exact⟨by omega,zc8 _ _⟩
  ·rintro⟨h1,h2⟩
   by_cases e:p=((k+1:Nat):Int)
   ·exact .inr e
   ·have hle:=K3 _ _ _ h2
    rw[Q6 l (k+1) p h1 (by omega) hpar]at h2
    have hle2:=K3 _ _ _ h2
    exact .inl ⟨⟨h1,by rw[ht hle2 h1];exact h2⟩,hle2⟩
theorem ziI(l:List Node)(k:Nat)(h:zaZ l k):X3 (l.getD k .zero) (stk l k) l=qk l k:=by
 cases k with
 |zero=>simp[X3,stk,qk]
 |succ k=>
  unfold X3 qk
  rw[if_neg (show ¬stk l (k+1)= []by simp[stk]),if_neg (show ¬k+1=0 by omega)]
  by_cases hb:zdl (l.getD (k+1) .zero)=true
  ·rw[if_pos hb,if_pos hb]
  ·rw[if_neg hb,if_neg hb]
   have hm:=Xj l (k+1) (par l (k+1))
   have e1:(((k+1:Nat):Int) - 1)=k:=by omega
   rw[e1,decide_eq_decide]
   show(par l (k+1)∈stk l (k+1)∧_)↔_
   rw[znt l k h]
   constructor
   ·rintro⟨⟨h1,h2⟩,h3⟩
    have:=K3 _ _ _ h2
    exact⟨h1,by omega,h2,h3⟩
   ·rintro⟨h1,h2,h3,h4⟩
    exact⟨⟨h1,h3⟩,h4⟩
theorem zaH(p q:Nat→Bool):∀(f k:Nat),(∀m,k≤m→(∀j,k≤j→j<m→q j=false)→p m=q m)→fst p f k=fst q f k
 |0,_,_=>rfl
 |f+1,k,h=>by
  simp only[fst]
  rw[h k (Nat.le_refl _) (fun j h1 h2=>by omega)]
  by_cases hq:q k=true
  ·rw[if_pos hq,if_pos hq]
  ·rw[if_neg hq,if_neg hq]
   refine zaH p q f (k+1) fun m hm hj=>h m (by omega) fun j h1 h2=> ?_
   by_cases e:j=k
   ·subst e;simpa using hq
   ·exact hj j (by omega) h2
theorem j5(l:List Node):zcD l=Qj l:=by
 unfold zcD Qj
 refine zaH _ _ _ _ fun m _ hj=> ?_
 rw[ziI l m (fun j h=>by have:=hj j (by omega) h;simpa using this)]
def zmk(l:List Node):Prop:=l.length≠0∧zaZ l l.length
theorem zlx(l:List Node):Qj l<0↔zaZ l l.length:=by
 unfold Qj
 rcases Q3 (fun k=> !qk l k) (l.length - 0) 0 with⟨h1,h2⟩|⟨m,h1,h2,h3,h4,h5⟩
 ·rw[h1]
  refine⟨fun _ j hj=> ?_,fun _=>by omega⟩
  have:=h2 j (by omega) (by omega)
  simpa using this
 ·rw[h1]
  refine⟨fun h=>by omega,fun h=> ?_⟩
  have:=h m (by omega)
  simp[this]at h4
def K0(l:List Node):Bool:=decide (Qj l<0∧l.length≠0)
theorem zl0(l:List Node):K0 l=true↔zmk l:=by
 unfold K0 zmk;rw[decide_eq_true_eq,zlx];exact And.comm
section
def YV:Sum Tryz.prog:=⟨62,fun args=>args= [zo (zk (args.getD 0 .any))]∧((zk (args.getD 0 .any))).length≤1000,fun args=>yO (zk (args.getD 0 .any)) (zcD (zk (args.getD 0 .any))),fun args h=>by
 have:=zrp (zk (args.getD 0 .any)) h.2;rwa [←h.1]at this,false⟩
theorem zjx:YV.f=62:=rfl
theorem zjw(args:List V):YV.D args=(args= [zo (zk (args.getD 0 .any))]∧((zk (args.getD 0 .any))).length≤1000):=rfl
theorem zbP:YV.flat=false:=rfl
theorem zjy(args:List V):YV.r args=yO (zk (args.getD 0 .any)) (zcD (zk (args.getD 0 .any))):=rfl
attribute [go_sem] zjx zjw zbP zjy
def Ks:Sum Tryz.prog:=⟨38,fun args=>args= [zo (zk (args.getD 0 .any))]∧((zk (args.getD 0 .any))).length≤1000,fun args=>yO (zk (args.getD 0 .any)) (Qj (zk (args.getD 0 .any))),fun args h=>by
 have:=zro (zk (args.getD 0 .any)) h.2;rwa [←h.1]at this,false⟩
theorem zju:Ks.f=38:=rfl
theorem zjt(args:List V):Ks.D args=(args= [zo (zk (args.getD 0 .any))]∧((zk (args.getD 0 .any))).length≤1000):=rfl
theorem zbO:Ks.flat=false:=rfl
theorem zjv(args:List V):Ks.r args=yO (zk (args.getD 0 .any)) (Qj (zk (args.getD 0 .any))):=rfl
attribute [go_sem] zju zjt zbO zjv
structure KiS where
 n:Nat
 ver:Nat
 clk:Nat
def zbh(n:Node):Bool:=decide (n.type.size≤50∧n.id.size≤50∧n.text.size≤50∧n.cls.length≤5∧n.attrs.length≤5∧(∀j,j<n.cls.length→(n.cls.getD j ⟨#[]⟩).size≤50)∧∀j,j<n.attrs.length→(n.attrs.getD j (⟨#[]⟩,⟨#[]⟩)).1.size≤50∧(n.attrs.getD j (⟨#[]⟩,⟨#[]⟩)).2.size≤50)
def Zo(l:List Node):Bool:=decide (l.length≤60∧∀i,i<l.length→zbh (l.getD i .zero)=true)
theorem XJ{l:List Node}{i:Nat}(hi:i<l.length)(h:¬zbh (l.getD i .zero)=true):false=Zo l:=by
 unfold Zo
 symm
 rw[decide_eq_false_iff_not]
 exact fun hh=>h (hh.2 i hi)
structure FwS where
 i:Nat
 clk:Nat
theorem zrM(l:List Node):zf Tryz.prog 33 [zo l] (vb (Zo l)):=by
 refine zf.of (Orc.nil _) zux (by simp[c33]) fun w0 own0=> ?_
 simp only[c33,zo,go_sem,zb,seval,reduceIte,reduceCtorEq]
 refine zQ.lp (α:=FwS) (fun a=>[(0,.slc 6 (l.map Node.enc)),(3,vi a.i)]) (fun a=>⟨[],a.clk⟩)
  (fun a=>a.i≤l.length∧a.i≤61∧∀i,i<a.i→zbh (l.getD i .zero)=true) (fun a=>l.length - a.i) ⟨0,0⟩ ⟨by simp,by simp,fun i hi=>by simp at hi⟩ (St.mk (by simp[zu,zr,zv])) fun a ha=> ?_
 obtain⟨i,clk⟩:=a
 simp only at ha
 obtain⟨h1,h2,h3⟩:=ha
 by_cases hil:i<l.length∧i≤60
 ·have e1:(i:Int)<(l.length:Int):=by omega
  have e2:(i:Int)≤60:=by omega
  have hg:=yo l i [.c (.int .i64 0),.c (.string ⟨#[]⟩),.c (.string ⟨#[]⟩),.c (.slice none 0 0),.c (.slice none 0 0),.c (.string ⟨#[]⟩)] hil.1
  generalize hN:l.getD i .zero=n at*
  simp only[e1,e2,hg,Node.enc,go_sem,zb,seval,reduceIte,reduceCtorEq]
  have hi:=hil.1
  refine⟨by omega,by omega,by omega,by omega,by omega,fun h=> ?_,fun h=> ?_⟩
  ·refine XJ hi ?_
   rw[hN];unfold zbh;rw[decide_eq_true_eq]
   rintro⟨a1,a2,a3,a4,a5,_⟩
   omega
  have hc:(¬ ∀j,j<n.cls.length→(n.cls.getD j ⟨#[]⟩).size≤50)→false=Zo l:=fun hh=>by
   refine XJ hi ?_
   rw[hN];unfold zbh;rw[decide_eq_true_eq]
   exact fun a=>hh a.2.2.2.2.2.1
  have hat:(¬ ∀j,j<n.attrs.length→(n.attrs.getD j (⟨#[]⟩,⟨#[]⟩)).1.size≤50∧(n.attrs.getD j (⟨#[]⟩,⟨#[]⟩)).2.size≤50)→false=Zo l:=fun hh=>by
   refine XJ hi ?_
   rw[hN];unfold zbh;rw[decide_eq_true_eq]
   exact fun a=>hh a.2.2.2.2.2.2
  refine zQ.lp (α:=Nat) (fun j=>[(0,.slc 6 (l.map Node.enc)),(3,vi i),(4,.ptr 0 clk 0 0),(52,.slc 1 (n.cls.map fun s=>[vs s])),(53,vi n.cls.length),(54,vi j)])
   (fun _=>⟨[⟨clk,6,[n.enc],false,[]⟩],clk+1⟩)
   (fun j=>j≤n.cls.length∧∀i,i<j→(n.cls.getD i ⟨#[]⟩).size≤50) (fun j=>n.cls.length - j) 0 ⟨Nat.zero_le _,fun i hi=>by omega⟩ (St.cut ?_ ?_ ?_) fun j hj=> ?_
  ·simp[zu,zr,ev]
  ·simp[Node.enc]
  ·rfl
  obtain⟨j1,j2⟩:=hj
  by_cases hjl:j=n.cls.length
  ·subst hjl
   simp only[Int.lt_irrefl,Node.enc,go_sem,zb,seval,reduceIte,reduceCtorEq]
   refine zQ.lp (α:=FwS) (fun a=>[(0,.slc 6 (l.map Node.enc)),(3,vi i),(63,.slc 2 (n.attrs.map fun p=>[vs p.1,vs p.2])),(64,vi n.attrs.length),(65,vi a.i)])
    (fun a=>⟨[],a.clk⟩)
    (fun a=>a.i≤n.attrs.length∧∀i,i<a.i→(n.attrs.getD i (⟨#[]⟩,⟨#[]⟩)).1.size≤50∧(n.attrs.getD i (⟨#[]⟩,⟨#[]⟩)).2.size≤50) (fun a=>n.attrs.length - a.i) ⟨0,clk+1⟩ ⟨Nat.zero_le _,fun i hi=>by simp at hi⟩ (St.cut ?_ ?_ ?_) fun a ha=> ?_
   ·simp[zu,zr,ev]
   ·simp
   ·rfl
   obtain⟨j,clk⟩:=a
   simp only at ha
   obtain⟨a1,a2⟩:=ha
   by_cases hja:j=n.attrs.length
   ·subst hja
    have hfn:zbh n=true:=by
     unfold zbh;rw[decide_eq_true_eq]
     exact⟨by omega,by omega,by omega,by omega,by omega,j2,a2⟩
    simp only[Int.lt_irrefl,go_sem,zb,seval,reduceIte,reduceCtorEq]
    refine⟨by omega,⟨i+1,clk⟩,⟨by dsimp only;omega,by dsimp only;omega,fun j hj=> ?_⟩,by dsimp only;omega,by dsimp only;omega,rfl⟩
    dsimp only at hj
    by_cases e:j=i
    ·subst e;rw[hN];exact hfn
    ·exact h3 j (by omega)
   ·have e3:(j:Int)<(n.attrs.length:Int):=by omega
    simp only[e3,K1,go_sem,zb,seval,reduceIte,reduceCtorEq]
    refine⟨by omega,by omega,fun hh=>hat fun h2=> ?_,fun hh=>⟨by omega,⟨j+1,clk+1⟩,⟨by dsimp only;omega,fun m hm=> ?_⟩,by dsimp only;omega,by dsimp only;omega,rfl⟩⟩
    ·have:=h2 j (by omega);omega
    ·dsimp only at hm
     by_cases e:m=j
     ·subst e;omega
     ·exact a2 m (by omega)
  ·have e3:(j:Int)<(n.cls.length:Int):=by omega
   simp only[e3,zaM,go_sem,zb,seval,reduceIte,reduceCtorEq]
   refine⟨by omega,fun hh=>hc fun h2=> ?_,fun hh=>⟨by omega,j+1,⟨by omega,fun m hm=> ?_⟩,by omega,by omega⟩⟩
   ·have:=h2 j (by omega);omega
   ·by_cases e:m=j
    ·subst e;omega
    ·exact j2 m (by omega)
 ·by_cases hlt:i<l.length
  ·have e1:(i:Int)<(l.length:Int):=by omega
   have e2:¬(i:Int)≤60:=by omega
   have e3:¬(l.length:Int)≤60:=by omega
   have e4:Zo l=false:=by
    unfold Zo;rw[decide_eq_false_iff_not];intro hh;have:=hh.1;omega
   simp only[e1,e2,e3,e4,go_sem,zb,seval,reduceIte,reduceCtorEq]
  ·have e1:¬(i:Int)<(l.length:Int):=by omega
   by_cases e3:(l.length:Int)≤60
   ·have e4:Zo l=true:=by
     unfold Zo;rw[decide_eq_true_eq];exact⟨by omega,fun j hj=>h3 j (by omega)⟩
    simp only[e1,e3,e4,go_sem,zb,seval,reduceIte,reduceCtorEq]
   ·have e4:Zo l=false:=by
     unfold Zo;rw[decide_eq_false_iff_not];intro hh;have:=hh.1;omega
    simp only[e1,e3,e4,go_sem,zb,seval,reduceIte,reduceCtorEq]
def KC:Sum Tryz.prog:=⟨33,fun args=>args= [zo (zk (args.getD 0 .any))],fun args=>vb (Zo (zk (args.getD 0 .any))),fun args h=>by
 have:=zrM (zk (args.getD 0 .any));rwa [←h]at this,true⟩
theorem zjZ:KC.f=33:=rfl
theorem zjY(args:List V):KC.D args=(args= [zo (zk (args.getD 0 .any))]):=rfl
theorem zbX:KC.flat=true:=rfl
theorem zj0(args:List V):KC.r args=vb (Zo (zk (args.getD 0 .any))):=rfl
attribute [go_sem] zjZ zjY zbX zj0
section
variable {cx:Cx} {rest:C} {Q:z6} {e:Nat→V} {h:Heap}
theorem ze(d:Option Nat)(t:Nat)(want:Bool)(f:FuncId)(xs:List X)(r:List AOp)(h1:enB (e t) want=true)(h2:(asB (e t).un).2=true)(h3:cx.T.flat f=false):
  wpR cx (⟨d,some (t,want),none,.call f xs⟩::r) rest Q e h=(z9 e xs=true∧cx.T.pre f (xs.map (zd e)) h∧wpR cx r rest Q (zj e d (cx.T.v f (xs.map (zd e)) h)) (cx.T.hp f (xs.map (zd e)) h)):=by
 rw[zb]
 simp only[h1,h2,h3,Bool.false_eq_true,if_false,forall_const,implies_true,true_and,reduceCtorEq,false_implies,and_true,Bool.true_eq_false]
theorem zc(d:Option Nat)(t:Nat)(want:Bool)(f:FuncId)(xs:List X)(r:List AOp)(h1:enB (e t) want=false)(h2:(e t).gok=true→(asB (e t).un).2=true)(h3:cx.T.flat f=false):
  wpR cx (⟨d,some (t,want),none,.call f xs⟩::r) rest Q e h=wpR cx r rest Q (zj e d (.c undef)) h:=by
 rw[zb]
 simp only[h1,h3,Bool.false_eq_true,if_false,false_implies,true_and,forall_const]
 exact propext ⟨fun k=>k.2,fun k=>⟨h2,k⟩⟩
theorem za(d:Option Nat)(t:Nat)(want:Bool)(f:FuncId)(xs:List X)(r:List AOp)(h3:cx.T.flat f=true):
  wpR cx (⟨d,some (t,want),none,.call f xs⟩::r) rest Q e h=(((e t).gok=true→(asB (e t).un).2=true)∧(enB (e t) want=true→z9 e xs=true∧cx.T.qpre f (xs.map (zd e)) h)∧wpR cx r rest Q (zj e d (.gd (enB (e t) want) (.c (cx.T.qv f (xs.map (zd e)) h)))) h):=by
 rw[zb]
 simp only[h3,if_true]
end
end
structure Smp where
 kind:Int
 text:ByteArray
 val:ByteArray
instance:Inhabited Smp:=⟨⟨0,⟨#[]⟩,⟨#[]⟩⟩⟩
def Smp.enc(s:Smp):List V:=[vi s.kind,vs s.text,vs s.val]
structure Cmp where
 link:Int
 l:List Smp
instance:Inhabited Cmp:=⟨⟨0,[]⟩⟩
def Cmp.enc(c:Cmp):List V:=[vi c.link,.slc 3 (c.l.map Smp.enc)]
abbrev Sel:=List Cmp
def yv(s:Sel):List V:=[.slc 2 (s.map Cmp.enc)]
def Zz(l:List Sel):V:=.slc 1 (l.map yv)
def zlU(e:List V):Smp:=⟨(e.getD 0 .any).int,(e.getD 1 .any).str,(e.getD 2 .any).str⟩
def yP(v:V):Smp:=zlU v.cs
def zcS(e:List V):Cmp:=⟨(e.getD 0 .any).int,(e.getD 1 .any).es.map zlU⟩
def Qq(v:V):Cmp:=zcS v.cs
def zhh(e:List V):Sel:=(e.getD 0 .any).es.map zcS
def Qs(v:V):Sel:=zhh v.cs
def kg(v:V):List Sel:=v.es.map zhh
theorem zlV(s:Smp):zlU s.enc=s:=rfl
theorem ztI(sz:Nat)(l:List Smp):(V.slc sz (l.map Smp.enc)).es.map zlU=l:=by
 simp[V.es,Function.comp_def,zlV]
theorem KY(c:Cmp):zcS c.enc=c:=by
 unfold zcS Cmp.enc
 rw[show([vi c.link,V.slc 3 (c.l.map Smp.enc)]:List V).getD 1 .any=V.slc 3 (c.l.map Smp.enc)from rfl,ztI]
 rfl
theorem YI(n:Int)(l:List Smp):Qq (.agg [.c (.int .i64 n),.slc 3 (l.map Smp.enc)])=⟨n,l⟩:=KY ⟨n,l⟩
theorem zaB(s:Sel):zhh (yv s)=s:=by
 unfold zhh yv
 simp[V.es,Function.comp_def,KY]
theorem Xb(s:Sel):Qs (.agg [.slc 2 (s.map Cmp.enc)])=s:=zaB s
theorem zaC(l:List Sel):kg (.slc 1 (l.map yv))=l:=by
 simp[kg,V.es,Function.comp_def,zaB]
theorem YP(l:List Smp)(i:Nat):(l.map Smp.enc).getD i [.c (.int .i64 0),.c (.string ⟨#[]⟩),.c (.string ⟨#[]⟩)]=(l.getD i default).enc:=by
 simp only[List.getD_eq_getElem?_getD,List.getElem?_map]
 cases l[i]? <;>rfl
theorem YO(l:List Cmp)(i:Nat)(d:List V)(h:i<l.length):(l.map Cmp.enc).getD i d=(l.getD i default).enc:=by
 simp[List.getD_eq_getElem?_getD,h]
theorem zaK(l:List Sel)(i:Nat)(d:List V)(h:i<l.length):(l.map yv).getD i d=yv (l.getD i []):=by
 simp[List.getD_eq_getElem?_getD,h]
theorem Cmp.eta(c:Cmp):(⟨c.link,c.l⟩:Cmp)=c:=rfl
theorem Smp.eta(c:Smp):(⟨c.kind,c.text,c.val⟩:Smp)=c:=rfl
structure LpS where
 n:Nat
 clk:Nat
def WU(i:Nat)(x:Smp):Prop:=x.kind<1∨6<x.kind∨(0<i∧x.kind≤2)∨¬(x.text=⟨#[]⟩↔x.kind=1)∨(¬x.val=⟨#[]⟩∧¬x.kind=6)
instance (i:Nat) (x:Smp):Decidable (WU i x):=by unfold WU;infer_instance
def ZV(c:Cmp)(first:Bool):Bool:=decide ((first=true↔c.link=0)∧0≤c.link∧c.link≤2∧0<c.l.length∧∀i,i<c.l.length→¬WU i (c.l.getD i default))
theorem zne(c:Cmp)(first:Bool)(hlen:c.l.length≤1000000):zf Tryz.prog 157 [.agg c.enc,vb first] (vb (ZV c first)):=by
 refine zf.of (Orc.nil _) zq6 (by simp[zfh]) fun w0 own0=> ?_
 have hf:(first==decide (c.link=0))=true↔(first=true↔c.link=0):=by
  cases first<;>by_cases h:c.link=0<;>simp[h]
 cases h1:(first==decide (c.link=0))with
 |true=>
  by_cases h2:c.link<0
  ·have e:ZV c first=false:=by unfold ZV;rw[decide_eq_false_iff_not];omega
   simp only[zfh,Cmp.enc,h1,h2,e,go_sem,zb,seval,reduceIte,reduceCtorEq]
  by_cases h3:2<c.link
  ·have e:ZV c first=false:=by unfold ZV;rw[decide_eq_false_iff_not];omega
   simp only[zfh,Cmp.enc,h1,h2,h3,e,go_sem,zb,seval,reduceIte,reduceCtorEq]
  by_cases h4:(c.l.length:Int)=0
  ·have e:ZV c first=false:=by unfold ZV;rw[decide_eq_false_iff_not];omega
   simp only[zfh,Cmp.enc,h1,h2,h3,h4,e,go_sem,zb,seval,reduceIte,reduceCtorEq]
  simp only[zfh,Cmp.enc,h1,h2,h3,h4,go_sem,zb,seval,reduceIte,reduceCtorEq]
  refine zQ.lp (α:=LpS) (fun a=>[(29,.slc 3 (c.l.map Smp.enc)),(30,vi c.l.length),(31,vi a.n)]) (fun a=>⟨[],a.clk⟩)
   (fun a=>a.n≤c.l.length∧∀i,i<a.n→¬WU i (c.l.getD i default)) (fun a=>c.l.length - a.n) ⟨0,1⟩ ⟨Nat.zero_le _,fun i hi=>absurd hi (Nat.not_lt_zero _)⟩ (St.cut (by simp[zu,zr,zv]) rfl rfl) fun a ha=> ?_
  obtain⟨k,clk⟩:=a
  simp only at ha
  obtain⟨k1,k2⟩:=ha
  by_cases he:k=c.l.length
  ·subst he
   have e:ZV c first=true:=by unfold ZV;rw[decide_eq_true_eq];exact⟨hf.1 h1,by omega,by omega,by omega,k2⟩
   simp only[Int.lt_irrefl,e,go_sem,zb,seval,reduceIte,reduceCtorEq]
  ·have e1:(k:Int)<(c.l.length:Int):=by omega
   have e0:(0:Int)≤(k:Int):=by omega
   have hlt:k<c.l.length:=by omega
   have hg:=YP c.l k
   generalize hx:c.l.getD k default=x at*
   by_cases hb:WU k x
   ·have e:ZV c first=false:=by
     unfold ZV;rw[decide_eq_false_iff_not];exact fun h=>h.2.2.2.2 k hlt (by rw[hx];exact hb)
    unfold WU at hb
    have hk:((0:Int)<(k:Int))=(0<k):=by rw[eq_iff_iff];omega
    simp only[e0,e1,hg,e,Smp.enc,hk,go_sem,zb,seval,reduceIte,reduceCtorEq]
    by_cases x1:x.kind<1<;>by_cases x2:6<x.kind<;>by_cases x3:0<k<;>by_cases x4:x.kind≤2<;>by_cases x5:x.text=⟨#[]⟩<;>by_cases x6:x.kind=1<;>by_cases x7:x.val=⟨#[]⟩<;>by_cases x8:x.kind=6<;>first|(exfalso;omega)|(exfalso;simp[x1,x2,x3,x4,x5,x6,x7,x8]at hb;done)|(simp[x1,x2,x3,x4,x5,x6,x7,x8];done)
   ·have hn:∀i,i<k+1→¬WU i (c.l.getD i default):=fun i hi=>by
     by_cases h:i=k
     ·subst h;rw[hx];exact hb
     ·exact k2 i (by omega)
    unfold WU at hb
    have hk:((0:Int)<(k:Int))=(0<k):=by rw[eq_iff_iff];omega
    simp only[e0,e1,hg,Smp.enc,hk,go_sem,zb,seval,reduceIte,reduceCtorEq]
    have fin:(-9223372036854775808≤(k:Int)+1∧(k:Int)+1≤9223372036854775807)∧∃b:LpS,(b.n≤c.l.length∧∀(i:Nat),i<b.n→¬WU i (c.l.getD i default))∧c.l.length - b.n<c.l.length - k∧(k:Int)+1=(b.n:Int)∧clk+1=b.clk:=
     ⟨by omega,⟨k+1,clk+1⟩,⟨by dsimp only;omega,hn⟩,by dsimp only;omega,by dsimp only;omega,rfl⟩
    generalize hF:((-9223372036854775808≤(k:Int)+1∧(k:Int)+1≤9223372036854775807)∧∃b:LpS,(b.n≤c.l.length∧∀(i:Nat),i<b.n→¬WU i (c.l.getD i default))∧c.l.length - b.n<c.l.length - k∧(k:Int)+1=(b.n:Int)∧clk+1=b.clk)=F at*
    by_cases x1:x.kind<1<;>by_cases x2:6<x.kind<;>by_cases x3:0<k<;>by_cases x4:x.kind≤2<;>by_cases x5:x.text=⟨#[]⟩<;>by_cases x6:x.kind=1<;>by_cases x7:x.val=⟨#[]⟩<;>by_cases x8:x.kind=6<;>first|(exfalso;omega)|(exfalso;simp[x1,x2,x3,x4,x5,x6,x7,x8]at hb;done)|(simp[x1,x2,x3,x4,x5,x6,x7,x8,fin];done)
 |false=>
  have e:ZV c first=false:=by unfold ZV;rw[decide_eq_false_iff_not];exact fun h=>by rw[hf.2 h.1]at h1;cases h1
  simp only[zfh,Cmp.enc,h1,e,go_sem,zb,seval,reduceIte,reduceCtorEq]
def WB:Sum Tryz.prog:=⟨157,fun args=>args= [.agg (Cmp.enc (Qq (args.getD 0 .any))),vb (V.boo (args.getD 1 .any))]∧((Qq (args.getD 0 .any))).l.length≤1000000,fun args=>vb (ZV (Qq (args.getD 0 .any)) (V.boo (args.getD 1 .any))),fun args h=>by
 have:=zne (Qq (args.getD 0 .any)) (V.boo (args.getD 1 .any)) h.2;rwa [←h.1]at this,true⟩
theorem zoH:WB.f=157:=rfl
theorem zoG(args:List V):WB.D args=(args= [.agg (Cmp.enc (Qq (args.getD 0 .any))),vb (V.boo (args.getD 1 .any))]∧((Qq (args.getD 0 .any))).l.length≤1000000):=rfl
theorem zer:WB.flat=true:=rfl
theorem zoI(args:List V):WB.r args=vb (ZV (Qq (args.getD 0 .any)) (V.boo (args.getD 1 .any))):=rfl
attribute [go_sem] zoH zoG zer zoI
def okC(s:Sel):Prop:=s.length≤1000000∧∀i,i<s.length→(s.getD i default).l.length≤1000000
def okM(l:List Sel):Prop:=l.length≤1000000∧∀i,i<l.length→okC (l.getD i [])
def W6(s:Sel):Bool:=decide (1≤s.length∧s.length≤64∧∀i,i<s.length→ZV (s.getD i default) (decide ((i:Int)=0))=true)
def J0(l:List Sel):Bool:=decide (0<l.length∧∀i,i<l.length→W6 (l.getD i [])=true)
theorem ziZ(l:List Sel)(hl:okM l):zf Tryz.prog 130 [Zz l] (vb (J0 l)):=by
 refine zf.of (Orc.cons WB (Orc.nil _)) zqY (by simp[zuc]) fun w0 own0=> ?_
 obtain⟨hl1,hl2⟩:=hl
 simp only[zuc,Zz,go_sem,zb,seval,reduceIte,reduceCtorEq]
 refine zQ.lp (α:=LpS) (fun a=>[(0,.slc 1 (l.map yv)),(7,.slc 1 (l.map yv)),(8,vi l.length),(9,vi a.n)]) (fun a=>⟨[],a.clk⟩)
  (fun a=>a.n≤l.length∧∀i,i<a.n→W6 (l.getD i [])=true) (fun a=>l.length - a.n) ⟨0,0⟩ ⟨Nat.zero_le _,fun i hi=>absurd hi (Nat.not_lt_zero _)⟩ (St.mk (by simp[zu,zr,zv])) fun a ha=> ?_
 obtain⟨k,clk⟩:=a
 simp only at ha
 obtain⟨k1,k2⟩:=ha
 by_cases he:k=l.length
 ·subst he
  have e:J0 l=decide ((0:Int)<(l.length:Int)):=by
   unfold J0;rw[decide_eq_decide];exact⟨fun h=>by omega,fun h=>⟨by omega,k2⟩⟩
  simp only[Int.lt_irrefl,e,go_sem,zb,seval,reduceIte,reduceCtorEq]
 ·have e1:(k:Int)<(l.length:Int):=by omega
  have e0:(0:Int)≤(k:Int):=by omega
  have hlt:k<l.length:=by omega
  have hg:=zaK l k [.c (.slice none 0 0)] hlt
  obtain⟨o1,o2⟩:=hl2 k hlt
  have hno:W6 (l.getD k [])=false→J0 l=false:=fun h=>by
   unfold J0;rw[decide_eq_false_iff_not];exact fun hh=>by rw[hh.2 k hlt]at h;cases h
  generalize hx:l.getD k []=s at*
  by_cases h1:(s.length:Int)<1
  ·have e:=hno (by unfold W6;rw[decide_eq_false_iff_not];omega)
   simp only[e0,e1,hg,yv,h1,e,go_sem,zb,seval,reduceIte,reduceCtorEq]
  by_cases h2:(64:Int)<(s.length:Int)
  ·have e:=hno (by unfold W6;rw[decide_eq_false_iff_not];omega)
   simp only[e0,e1,hg,yv,h1,h2,e,go_sem,zb,seval,reduceIte,reduceCtorEq]
  simp only[e0,e1,hg,yv,h1,h2,go_sem,zb,seval,reduceIte,reduceCtorEq]
  refine zQ.lp (α:=LpS) (fun a=>[(0,.slc 1 (l.map yv)),(7,.slc 1 (l.map yv)),(8,vi l.length),(9,vi k),(24,.slc 2 (s.map Cmp.enc)),(25,vi s.length),(26,vi a.n)]) (fun a=>⟨[],a.clk⟩)
   (fun a=>a.n≤s.length∧∀i,i<a.n→ZV (s.getD i default) (decide ((i:Int)=0))=true) (fun a=>s.length - a.n) ⟨0,clk+1⟩ ⟨Nat.zero_le _,fun i hi=>absurd hi (Nat.not_lt_zero _)⟩ (St.cut (by simp[zu,zr,ev,yv]) rfl rfl) fun a ha=> ?_
  obtain⟨j,clk2⟩:=a
  simp only at ha
  obtain⟨j1,j2⟩:=ha
  by_cases hj:j=s.length
  ·subst hj
   have e:W6 s=true:=by unfold W6;rw[decide_eq_true_eq];exact⟨by omega,by omega,j2⟩
   simp only[Int.lt_irrefl,go_sem,zb,seval,reduceIte,reduceCtorEq]
   have hn:∀i,i<k+1→W6 (l.getD i [])=true:=fun i hi=>by
    by_cases h:i=k
    ·subst h;rw[hx];exact e
    ·exact k2 i (by omega)
   exact⟨by omega,⟨k+1,clk2⟩,⟨by dsimp only;omega,hn⟩,by dsimp only;omega,by dsimp only;omega,rfl⟩
  ·have f1:(j:Int)<(s.length:Int):=by omega
   have f0:(0:Int)≤(j:Int):=by omega
   have hjl:j<s.length:=by omega
   have hgj:=YO s j [.c (.int .i64 0),.c (.slice none 0 0)] hjl
   have ho:=o2 j hjl
   cases hr:ZV (s.getD j default) (decide ((j:Int)=0))with
   |true=>
    have hn:∀i,i<j+1→ZV (s.getD i default) (decide ((i:Int)=0))=true:=fun i hi=>by
     by_cases h:i=j
     ·subst h;exact hr
     ·exact j2 i (by omega)
    simp only[f0,f1,hgj,Cmp.enc,YI,Cmp.eta,V.boo_c,ho,hr,go_sem,zb,seval,reduceIte,reduceCtorEq]
    exact⟨by omega,⟨j+1,clk2+1⟩,⟨by dsimp only;omega,hn⟩,by dsimp only;omega,by dsimp only;omega,rfl⟩
   |false=>
    have e:=hno (by unfold W6;rw[decide_eq_false_iff_not];exact fun h=>by rw[h.2.2 j hjl]at hr;cases hr)
    simp only[f0,f1,hgj,Cmp.enc,YI,Cmp.eta,V.boo_c,ho,hr,e,go_sem,zb,seval,reduceIte,reduceCtorEq]
def ixS(l:List ByteArray)(x:ByteArray):Int:=fst (fun i=>decide (x=l.getD i ⟨#[]⟩)) (l.length - 0) 0
theorem zmq(l:List ByteArray)(x:ByteArray)(hl:l.length≤1000000):zf Tryz.prog 57 [QG l,vs x] (vi (ixS l x)):=by
 refine zf.of (Orc.nil _) zuH (by simp[c57]) fun w0 own0=> ?_
 simp only[c57,QG,go_sem,zb,seval,reduceIte,reduceCtorEq]
 refine zQ.lp (α:=Nat) (fun k=>[(0,.slc 1 (l.map fun n=>[vs n])),(1,vs x),(7,vi l.length),(8,vi k)]) (fun _=>⟨[],0⟩)
  (fun k=>k≤l.length∧fst (fun i=>decide (x=l.getD i ⟨#[]⟩)) (l.length - k) k=ixS l x) (fun k=>l.length - k) 0 ⟨Nat.zero_le _,rfl⟩ (St.mk (by simp[zu,zr,zv])) fun k hk=> ?_
 obtain⟨h1,h2⟩:=hk
 by_cases hkl:k=l.length
 ·subst hkl
  rw[ZQ]at h2
  simp only[Int.lt_irrefl,←h2,go_sem,zb,seval,reduceIte,reduceCtorEq]
 ·have e1:(k:Int)<(l.length:Int):=by omega
  rw[jD _ _ _ (by omega)]at h2
  simp only[decide_eq_true_eq]at h2
  simp only[e1,zaM,go_sem,zb,seval,reduceIte,reduceCtorEq]
  refine⟨by omega,fun h=>by rw[if_pos h]at h2;exact h2,fun h=>⟨by omega,k+1,⟨by omega,by rw[if_neg h]at h2;exact h2⟩,by omega,by omega⟩⟩
def Jh:Sum Tryz.prog:=⟨57,fun args=>args= [QG (kw (args.getD 0 .any)),vs ((args.getD 1 .any).str)]∧((kw (args.getD 0 .any))).length≤1000000,fun args=>vi (ixS (kw (args.getD 0 .any)) ((args.getD 1 .any).str)),fun args h=>by
 have:=zmq (kw (args.getD 0 .any)) ((args.getD 1 .any).str) h.2;rwa [←h.1]at this,true⟩
theorem zod:Jh.f=57:=rfl
theorem zoc(args:List V):Jh.D args=(args= [QG (kw (args.getD 0 .any)),vs ((args.getD 1 .any).str)]∧((kw (args.getD 0 .any))).length≤1000000):=rfl
theorem zeh:Jh.flat=true:=rfl
theorem zoe(args:List V):Jh.r args=vi (ixS (kw (args.getD 0 .any)) ((args.getD 1 .any).str)):=rfl
attribute [go_sem] zod zoc zeh zoe
def zbk(l:List ByteArray)(x:ByteArray):Bool:=decide (0≤ixS l x)
theorem zrw(l:List ByteArray)(x:ByteArray)(hl:l.length≤1000000):zf Tryz.prog 103 [QG l,vs x] (vb (zbk l x)):=by
 refine zf.of (Orc.cons Jh (Orc.nil _)) zqM (by simp[zt0]) fun w0 own0=> ?_
 simp only[zt0,QG,Zm,zbk,go_sem,zb,seval,reduceIte,reduceCtorEq]
 exact hl
def YZ:Sum Tryz.prog:=⟨103,fun args=>args= [QG (kw (args.getD 0 .any)),vs ((args.getD 1 .any).str)]∧((kw (args.getD 0 .any))).length≤1000000,fun args=>vb (zbk (kw (args.getD 0 .any)) ((args.getD 1 .any).str)),fun args h=>by
 have:=zrw (kw (args.getD 0 .any)) ((args.getD 1 .any).str) h.2;rwa [←h.1]at this,true⟩
theorem zjT:YZ.f=103:=rfl
theorem zjS(args:List V):YZ.D args=(args= [QG (kw (args.getD 0 .any)),vs ((args.getD 1 .any).str)]∧((kw (args.getD 0 .any))).length≤1000000):=rfl
theorem zbV:YZ.flat=true:=rfl
theorem zjU(args:List V):YZ.r args=vb (zbk (kw (args.getD 0 .any)) ((args.getD 1 .any).str)):=rfl
attribute [go_sem] zjT zjS zbV zjU
def Qb(name:ByteArray):List (ByteArray×ByteArray)→ByteArray
 | []=>⟨#[]⟩
 |p::r=>if p.1=name then p.2 else Qb name r
theorem zfe(name:ByteArray)(l:List (ByteArray×ByteArray))(k:Nat)(h:k<l.length):Qb name (l.drop k)=if(l.getD k (⟨#[]⟩,⟨#[]⟩)).1=name then(l.getD k (⟨#[]⟩,⟨#[]⟩)).2 else Qb name (l.drop (k+1)):=by
 rw[List.drop_eq_getElem_cons h]
 have e:l.getD k (⟨#[]⟩,⟨#[]⟩)=l[k]:=by rw[List.getD_eq_getElem?_getD,List.getElem?_eq_getElem h];rfl
 rw[e];rfl
theorem zlv(n:Node)(name:ByteArray)(hl:n.attrs.length≤1000000):zf Tryz.prog 184 [.agg n.enc,vs name] (vs (Qb name n.attrs)):=by
 refine zf.of (Orc.nil _) zrk (by simp[zuq]) fun w0 own0=> ?_
 simp only[zuq,Node.enc,go_sem,zb,seval,reduceIte,reduceCtorEq]
 refine zQ.lp (α:=Nat) (fun k=>[(1,vs name),(2,.ptr 0 0 0 0),(8,vi n.attrs.length),(9,vi k)]) (fun _=>⟨[⟨0,6,[n.enc],false,[]⟩],1⟩)
  (fun k=>k≤n.attrs.length∧Qb name (n.attrs.drop k)=Qb name n.attrs) (fun k=>n.attrs.length - k) 0 ⟨Nat.zero_le _,rfl⟩ (St.mk (by simp[zu,zr,zv,Node.enc])) fun k hk=> ?_
 obtain⟨h1,h2⟩:=hk
 by_cases hkl:k=n.attrs.length
 ·subst hkl
  rw[List.drop_length]at h2
  simp only[Node.enc,Int.lt_irrefl,←h2,Qb,go_sem,zb,seval,reduceIte,reduceCtorEq]
 ·have e1:(k:Int)<(n.attrs.length:Int):=by omega
  rw[zfe _ _ _ (by omega)]at h2
  simp only[Node.enc,e1,K1,go_sem,zb,seval,reduceIte,reduceCtorEq]
  refine⟨by omega,fun h=>⟨by omega,by rw[if_pos h]at h2;exact h2⟩,fun h=>⟨by omega,k+1,⟨by omega,by rw[if_neg h]at h2;exact h2⟩,by omega,by omega⟩⟩
theorem zrr(n:Node)(name:ByteArray)(hl:n.cls.length≤1000000):zf Tryz.prog 181 [.agg n.enc,vs name] (vb (zbk n.cls name)):=by
 refine zf.of (Orc.cons YZ (Orc.nil _)) zrh (by simp[zun]) fun w0 own0=> ?_
 simp only[zun,Node.enc,QG,Zm,go_sem,zb,seval,reduceIte,reduceCtorEq]
 exact hl
def Yu:Sum Tryz.prog:=⟨184,fun args=>args= [.agg (Node.enc (zN (args.getD 0 .any))),vs ((args.getD 1 .any).str)]∧((zN (args.getD 0 .any))).attrs.length≤1000000,fun args=>vs (Qb ((args.getD 1 .any).str) ((zN (args.getD 0 .any))).attrs),fun args h=>by
 have:=zlv (zN (args.getD 0 .any)) ((args.getD 1 .any).str) h.2;rwa [←h.1]at this,true⟩
theorem zf9:Yu.f=184:=rfl
theorem zf8(args:List V):Yu.D args=(args= [.agg (Node.enc (zN (args.getD 0 .any))),vs ((args.getD 1 .any).str)]∧((zN (args.getD 0 .any))).attrs.length≤1000000):=rfl
theorem W9:Yu.flat=true:=rfl
theorem zga(args:List V):Yu.r args=vs (Qb ((args.getD 1 .any).str) ((zN (args.getD 0 .any))).attrs):=rfl
attribute [go_sem] zf9 zf8 W9 zga
def Ku:Sum Tryz.prog:=⟨181,fun args=>args= [.agg (Node.enc (zN (args.getD 0 .any))),vs ((args.getD 1 .any).str)]∧((zN (args.getD 0 .any))).cls.length≤1000000,fun args=>vb (zbk ((zN (args.getD 0 .any))).cls ((args.getD 1 .any).str)),fun args h=>by
 have:=zrr (zN (args.getD 0 .any)) ((args.getD 1 .any).str) h.2;rwa [←h.1]at this,true⟩
theorem zjE:Ku.f=181:=rfl
theorem zjD(args:List V):Ku.D args=(args= [.agg (Node.enc (zN (args.getD 0 .any))),vs ((args.getD 1 .any).str)]∧((zN (args.getD 0 .any))).cls.length≤1000000):=rfl
theorem zbQ:Ku.flat=true:=rfl
theorem zjF(args:List V):Ku.r args=vb (zbk ((zN (args.getD 0 .any))).cls ((args.getD 1 .any).str)):=rfl
attribute [go_sem] zjE zjD zbQ zjF
theorem zbd(k:Int)(a b:ByteArray):yP (.agg [.c (.int .i64 k),.c (.string a),.c (.string b)])=⟨k,a,b⟩:=rfl
theorem Zl(k:Int)(a b:ByteArray):yP (.pp [.c (.int .i64 k),.c (.string a),.c (.string b)])=⟨k,a,b⟩:=rfl
def dPr(v:V):ByteArray×ByteArray:=((v.cs.getD 0 .any).str,(v.cs.getD 1 .any).str)
def Qt(v:V):List Smp:=v.es.map zlU
theorem zcT(sz:Nat)(l:List Smp):Qt (.slc sz (l.map Smp.enc))=l:=ztI sz l
theorem zvd(a b:ByteArray):dPr (.agg [.c (.string a),.c (.string b)])=(a,b):=rfl
theorem zxd(p:ByteArray×ByteArray)(s:Smp):zf Tryz.prog 183 [.agg [vs p.1,vs p.2],.pp s.enc] (vb (decide (p.1=s.text))):=by
 refine zf.of (Orc.nil _) zrj (by simp[zup]) fun w0 own0=> ?_
 simp only[zup,Smp.enc,go_sem,zb,seval,reduceIte,reduceCtorEq]
def zet:Sum Tryz.prog:=⟨183,fun args=>args= [.agg [vs (dPr (args.getD 0 .any)).1,vs (dPr (args.getD 0 .any)).2],.pp (Smp.enc (yP (args.getD 1 .any)))],fun args=>vb (decide (((dPr (args.getD 0 .any))).1=((yP (args.getD 1 .any))).text)),fun args h=>by
 have:=zxd (dPr (args.getD 0 .any)) (yP (args.getD 1 .any));rwa [←h]at this,true⟩
theorem zsU:zet.f=183:=rfl
theorem zsT(args:List V):zet.D args=(args= [.agg [vs (dPr (args.getD 0 .any)).1,vs (dPr (args.getD 0 .any)).2],.pp (Smp.enc (yP (args.getD 1 .any)))]):=rfl
theorem zgu:zet.flat=true:=rfl
theorem zsV(args:List V):zet.r args=vb (decide (((dPr (args.getD 0 .any))).1=((yP (args.getD 1 .any))).text)):=rfl
attribute [go_sem] zsU zsT zgu zsV
def ixA(s:Smp)(l:List (ByteArray×ByteArray)):Int:=fst (fun i=>decide ((l.getD i (⟨#[]⟩,⟨#[]⟩)).1=s.text)) (l.length - 0) 0
theorem zvB(s:Smp)(l:List (ByteArray×ByteArray))(hl:l.length≤1000000):zf Tryz.prog 187 [.slc 2 (l.map fun p=>[vs p.1,vs p.2]),.fn 183 [.pp s.enc]] (vi (ixA s l)):=by
 refine zf.of (Orc.cons zet (Orc.nil _)) zrm (by simp[zus]) fun w0 own0=> ?_
 simp only[zus,go_sem,zb,seval,reduceIte,reduceCtorEq]
 refine zQ.lp (α:=Nat) (fun k=>[(0,.slc 2 (l.map fun p=>[vs p.1,vs p.2])),(1,.fn 183 [.pp s.enc]),(7,vi l.length),(8,vi k)]) (fun _=>⟨[],0⟩)
  (fun k=>k≤l.length∧fst (fun i=>decide ((l.getD i (⟨#[]⟩,⟨#[]⟩)).1=s.text)) (l.length - k) k=ixA s l) (fun k=>l.length - k) 0 ⟨Nat.zero_le _,rfl⟩ (St.mk (by simp[zu,zr,zv])) fun k hk=> ?_
 obtain⟨h1,h2⟩:=hk
 by_cases hkl:k=l.length
 ·subst hkl
  rw[ZQ]at h2
  simp only[Int.lt_irrefl,←h2,go_sem,zb,seval,reduceIte,reduceCtorEq]
 ·have e1:(k:Int)<(l.length:Int):=by omega
  rw[jD _ _ _ (by omega)]at h2
  simp only[decide_eq_true_eq]at h2
  simp only[Smp.enc,Zl,zvd,e1,K1,go_sem,zb,seval,reduceIte,reduceCtorEq]
  refine⟨by omega,fun h=>by rw[if_pos h]at h2;exact h2,fun h=>⟨by omega,k+1,⟨by omega,by rw[if_neg h]at h2;exact h2⟩,by omega,by omega⟩⟩
def Wt:Sum Tryz.prog:=⟨187,fun args=>args= [.slc 2 ((kU (args.getD 0 .any)).map fun p=>[vs p.1,vs p.2]),.fn 183 [.pp (Smp.enc (yP (((args.getD 1 .any).caps).getD 0 .any)))]]∧((kU (args.getD 0 .any))).length≤1000000,fun args=>vi (ixA (yP (((args.getD 1 .any).caps).getD 0 .any)) (kU (args.getD 0 .any))),fun args h=>by
 have:=zvB (yP (((args.getD 1 .any).caps).getD 0 .any)) (kU (args.getD 0 .any)) h.2;rwa [←h.1]at this,true⟩
theorem zn4:Wt.f=187:=rfl
theorem zn3(args:List V):Wt.D args=(args= [.slc 2 ((kU (args.getD 0 .any)).map fun p=>[vs p.1,vs p.2]),.fn 183 [.pp (Smp.enc (yP (((args.getD 1 .any).caps).getD 0 .any)))]]∧((kU (args.getD 0 .any))).length≤1000000):=rfl
theorem zee:Wt.flat=true:=rfl
theorem zn5(args:List V):Wt.r args=vi (ixA (yP (((args.getD 1 .any).caps).getD 0 .any)) (kU (args.getD 0 .any))):=rfl
attribute [go_sem] zn4 zn3 zee zn5
def zbj(s:Smp)(l:List (ByteArray×ByteArray)):Bool:=decide (0≤ixA s l)
theorem zrV(s:Smp)(l:List (ByteArray×ByteArray))(hl:l.length≤1000000):zf Tryz.prog 182 [.slc 2 (l.map fun p=>[vs p.1,vs p.2]),.fn 183 [.pp s.enc]] (vb (zbj s l)):=by
 refine zf.of (Orc.cons Wt (Orc.nil _)) zri (by simp[zuo]) fun w0 own0=> ?_
 simp only[zuo,Smp.enc,Zl,js,Smp.eta,hl,zbj,go_sem,zb,seval,reduceIte,reduceCtorEq]
def KE:Sum Tryz.prog:=⟨182,fun args=>args= [.slc 2 ((kU (args.getD 0 .any)).map fun p=>[vs p.1,vs p.2]),.fn 183 [.pp (Smp.enc (yP (((args.getD 1 .any).caps).getD 0 .any)))]]∧((kU (args.getD 0 .any))).length≤1000000,fun args=>vb (zbj (yP (((args.getD 1 .any).caps).getD 0 .any)) (kU (args.getD 0 .any))),fun args h=>by
 have:=zrV (yP (((args.getD 1 .any).caps).getD 0 .any)) (kU (args.getD 0 .any)) h.2;rwa [←h.1]at this,true⟩
theorem zj5:KE.f=182:=rfl
theorem zj4(args:List V):KE.D args=(args= [.slc 2 ((kU (args.getD 0 .any)).map fun p=>[vs p.1,vs p.2]),.fn 183 [.pp (Smp.enc (yP (((args.getD 1 .any).caps).getD 0 .any)))]]∧((kU (args.getD 0 .any))).length≤1000000):=rfl
theorem zbZ:KE.flat=true:=rfl
theorem zj6(args:List V):KE.r args=vb (zbj (yP (((args.getD 1 .any).caps).getD 0 .any)) (kU (args.getD 0 .any))):=rfl
attribute [go_sem] zj5 zj4 zbZ zj6
def W7(n:Node)(s:Smp):Bool:=if s.kind=1 then true else if s.kind=2 then decide (n.type=s.text)else if s.kind=3 then decide (n.id=s.text)else if s.kind=4 then zbk n.cls s.text else zbj s n.attrs&&(decide (s.kind=5)||decide (Qb s.text n.attrs=s.val))
def okN(n:Node):Prop:=n.cls.length≤1000000∧n.attrs.length≤1000000
theorem zv7(n:Node)(s:Smp)(h:okN n):zf Tryz.prog 175 [.agg n.enc,.agg s.enc] (vb (W7 n s)):=by
 refine zf.of (Orc.cons Ku (Orc.cons KE (Orc.cons Yu (Orc.nil _)))) zrf (by simp[WW]) fun w0 own0=> ?_
 obtain⟨hc,ha⟩:=h
 unfold W7
 by_cases h1:s.kind=1
 ·simp only[WW,Node.enc,Smp.enc,h1,go_sem,zb,seval,reduceIte,reduceCtorEq]
 by_cases h2:s.kind=2
 ·simp only[WW,Node.enc,Smp.enc,h1,h2,go_sem,zb,seval,reduceIte,reduceCtorEq]
 by_cases h3:s.kind=3
 ·simp only[WW,Node.enc,Smp.enc,h1,h2,h3,go_sem,zb,seval,reduceIte,reduceCtorEq]
 by_cases h4:s.kind=4
 ·simp only[WW,Node.enc,Smp.enc,h1,h2,h3,h4,hc,qt,go_sem,zb,seval,reduceIte,reduceCtorEq]
 by_cases h5:s.kind=5
 ·cases hh:zbj s n.attrs with
  |true=>
   have hh5:zbj ⟨5,s.text,s.val⟩ n.attrs=true:=hh
   simp only[WW,Node.enc,Smp.enc,h1,h2,h3,h4,h5,hh,hh5,ha,qt,Zl,Smp.eta,js,go_sem,zb,seval,reduceIte,reduceCtorEq]
  |false=>
   have hh5:zbj ⟨5,s.text,s.val⟩ n.attrs=false:=hh
   simp only[WW,Node.enc,Smp.enc,h1,h2,h3,h4,h5,hh,hh5,ha,qt,Zl,Smp.eta,js,go_sem,zb,seval,reduceIte,reduceCtorEq]
 ·cases hh:zbj s n.attrs with
  |true=>simp only[WW,Node.enc,Smp.enc,h1,h2,h3,h4,h5,hh,ha,qt,Zl,Smp.eta,js,go_sem,zb,seval,reduceIte,reduceCtorEq]
  |false=>simp only[WW,Node.enc,Smp.enc,h1,h2,h3,h4,h5,hh,ha,qt,Zl,Smp.eta,js,go_sem,zb,seval,reduceIte,reduceCtorEq]
def WC:Sum Tryz.prog:=⟨175,fun args=>args= [.agg (Node.enc (zN (args.getD 0 .any))),.agg (Smp.enc (yP (args.getD 1 .any)))]∧okN (zN (args.getD 0 .any)),fun args=>vb (W7 (zN (args.getD 0 .any)) (yP (args.getD 1 .any))),fun args h=>by
 have:=zv7 (zN (args.getD 0 .any)) (yP (args.getD 1 .any)) h.2;rwa [←h.1]at this,true⟩
theorem zoN:WC.f=175:=rfl
theorem zoM(args:List V):WC.D args=(args= [.agg (Node.enc (zN (args.getD 0 .any))),.agg (Smp.enc (yP (args.getD 1 .any)))]∧okN (zN (args.getD 0 .any))):=rfl
theorem zeu:WC.flat=true:=rfl
theorem zoO(args:List V):WC.r args=vb (W7 (zN (args.getD 0 .any)) (yP (args.getD 1 .any))):=rfl
attribute [go_sem] zoN zoM zeu zoO
theorem YJ(a:Int)(b c:ByteArray)(d:List ByteArray)(e:List (ByteArray×ByteArray))(f:ByteArray):
 zN (.pp [.c (.int .i64 a),.c (.string b),.c (.string c),.slc 1 (d.map fun s=>[vs s]),.slc 2 (e.map fun p=>[vs p.1,vs p.2]),.c (.string f)])=⟨a,b,c,d,e,f⟩:=Qr ⟨a,b,c,d,e,f⟩
theorem ziY(S:Nat→Bool)(h:Heap)(sz:Nat)(es:List (List V)):res S h 10 (.slc sz es)=some (.slc sz es):=rfl
theorem zsf(s:Smp)(n:Node)(h:okN n):zf Tryz.prog 174 [.agg s.enc,.pp n.enc] (vb (!W7 n s)):=by
 refine zf.of (Orc.cons WC (Orc.nil _)) zre (by simp[zul]) fun w0 own0=> ?_
 simp only[zul,Node.enc,Smp.enc,h,qt,zbd,Smp.eta,Node.eta,go_sem,zb,seval,reduceIte,reduceCtorEq]
def KH:Sum Tryz.prog:=⟨174,fun args=>args= [.agg (Smp.enc (yP (args.getD 0 .any))),.pp (Node.enc (zN (args.getD 1 .any)))]∧okN (zN (args.getD 1 .any)),fun args=>vb (!W7 (zN (args.getD 1 .any)) (yP (args.getD 0 .any))),fun args h=>by
 have:=zsf (yP (args.getD 0 .any)) (zN (args.getD 1 .any)) h.2;rwa [←h.1]at this,true⟩
theorem zkn:KH.f=174:=rfl
theorem zkm(args:List V):KH.D args=(args= [.agg (Smp.enc (yP (args.getD 0 .any))),.pp (Node.enc (zN (args.getD 1 .any)))]∧okN (zN (args.getD 1 .any))):=rfl
theorem zb5:KH.flat=true:=rfl
theorem zko(args:List V):KH.r args=vb (!W7 (zN (args.getD 1 .any)) (yP (args.getD 0 .any))):=rfl
attribute [go_sem] zkn zkm zb5 zko
def ixC(n:Node)(l:List Smp):Int:=fst (fun i=> !W7 n (l.getD i default)) (l.length - 0) 0
theorem zvC(n:Node)(l:List Smp)(hn:okN n)(hl:l.length≤1000000):zf Tryz.prog 180 [.slc 3 (l.map Smp.enc),.fn 174 [.pp n.enc]] (vi (ixC n l)):=by
 refine zf.of (Orc.cons KH (Orc.nil _)) zrg (by simp[zum]) fun w0 own0=> ?_
 simp only[zum,go_sem,zb,seval,reduceIte,reduceCtorEq]
 refine zQ.lp (α:=Nat) (fun k=>[(0,.slc 3 (l.map Smp.enc)),(1,.fn 174 [.pp n.enc]),(7,vi l.length),(8,vi k)]) (fun _=>⟨[],0⟩)
  (fun k=>k≤l.length∧fst (fun i=> !W7 n (l.getD i default)) (l.length - k) k=ixC n l) (fun k=>l.length - k) 0 ⟨Nat.zero_le _,rfl⟩ (St.mk (by simp[zu,zr,zv])) fun k hk=> ?_
 obtain⟨h1,h2⟩:=hk
 by_cases hkl:k=l.length
 ·subst hkl
  rw[ZQ]at h2
  simp only[Int.lt_irrefl,←h2,go_sem,zb,seval,reduceIte,reduceCtorEq]
 ·have e1:(k:Int)<(l.length:Int):=by omega
  have e0:(0:Int)≤(k:Int):=by omega
  rw[jD _ _ _ (by omega)]at h2
  cases hs:W7 n (l.getD k default)with
  |true=>
   rw[hs]at h2
   simp only[Node.enc,Smp.enc,YJ,zbd,Smp.eta,Node.eta,hn,hs,e0,e1,YP,go_sem,zb,seval,reduceIte,reduceCtorEq]
   exact⟨by omega,k+1,⟨by omega,h2⟩,by omega,by omega⟩
  |false=>
   rw[hs]at h2
   simp only[Node.enc,Smp.enc,YJ,zbd,Smp.eta,Node.eta,hn,hs,e0,e1,YP,go_sem,zb,seval,reduceIte,reduceCtorEq]
   exact h2
def Wu:Sum Tryz.prog:=⟨180,fun args=>args= [.slc 3 ((Qt (args.getD 0 .any)).map Smp.enc),.fn 174 [.pp (Node.enc (zN (((args.getD 1 .any).caps).getD 0 .any)))]]∧okN (zN (((args.getD 1 .any).caps).getD 0 .any))∧((Qt (args.getD 0 .any))).length≤1000000,fun args=>vi (ixC (zN (((args.getD 1 .any).caps).getD 0 .any)) (Qt (args.getD 0 .any))),fun args h=>by
 have:=zvC (zN (((args.getD 1 .any).caps).getD 0 .any)) (Qt (args.getD 0 .any)) h.2.1 h.2.2;rwa [←h.1]at this,true⟩
theorem zn7:Wu.f=180:=rfl
theorem zn6(args:List V):Wu.D args=(args= [.slc 3 ((Qt (args.getD 0 .any)).map Smp.enc),.fn 174 [.pp (Node.enc (zN (((args.getD 1 .any).caps).getD 0 .any)))]]∧okN (zN (((args.getD 1 .any).caps).getD 0 .any))∧((Qt (args.getD 0 .any))).length≤1000000):=rfl
theorem zef:Wu.flat=true:=rfl
theorem zn8(args:List V):Wu.r args=vi (ixC (zN (((args.getD 1 .any).caps).getD 0 .any)) (Qt (args.getD 0 .any))):=rfl
attribute [go_sem] zn7 zn6 zef zn8
theorem zrW(n:Node)(l:List Smp)(hn:okN n)(hl:l.length≤1000000):zf Tryz.prog 173 [.slc 3 (l.map Smp.enc),.fn 174 [.pp n.enc]] (vb (decide (0≤ixC n l))):=by
 refine zf.of (Orc.cons Wu (Orc.nil _)) zrd (by simp[zuk]) fun w0 own0=> ?_
 simp only[zuk,Node.enc,YJ,Node.eta,zcT,hn,hl,go_sem,zb,seval,reduceIte,reduceCtorEq]
def KF:Sum Tryz.prog:=⟨173,fun args=>args= [.slc 3 ((Qt (args.getD 0 .any)).map Smp.enc),.fn 174 [.pp (Node.enc (zN (((args.getD 1 .any).caps).getD 0 .any)))]]∧okN (zN (((args.getD 1 .any).caps).getD 0 .any))∧((Qt (args.getD 0 .any))).length≤1000000,fun args=>vb (decide (0≤ixC (zN (((args.getD 1 .any).caps).getD 0 .any)) (Qt (args.getD 0 .any)))),fun args h=>by
 have:=zrW (zN (((args.getD 1 .any).caps).getD 0 .any)) (Qt (args.getD 0 .any)) h.2.1 h.2.2;rwa [←h.1]at this,true⟩
theorem zj8:KF.f=173:=rfl
theorem zj7(args:List V):KF.D args=(args= [.slc 3 ((Qt (args.getD 0 .any)).map Smp.enc),.fn 174 [.pp (Node.enc (zN (((args.getD 1 .any).caps).getD 0 .any)))]]∧okN (zN (((args.getD 1 .any).caps).getD 0 .any))∧((Qt (args.getD 0 .any))).length≤1000000):=rfl
theorem zb0:KF.flat=true:=rfl
theorem zj9(args:List V):KF.r args=vb (decide (0≤ixC (zN (((args.getD 1 .any).caps).getD 0 .any)) (Qt (args.getD 0 .any)))):=rfl
attribute [go_sem] zj8 zj7 zb0 zj9
def JW(n:Node)(c:Cmp):Bool:= !decide (n.type=⟨#[]⟩)&& !decide (0≤ixC n c.l)
theorem zvT(n:Node)(c:Cmp)(hn:okN n)(hl:c.l.length≤1000000):zf Tryz.prog 158 [.agg n.enc,.agg c.enc] (vb (JW n c)):=by
 refine zf.of (Orc.cons KF (Orc.nil _)) zq8 (by simp[zq7]) fun w0 own0=> ?_
 unfold JW
 by_cases h1:n.type=⟨#[]⟩
 ·simp only[zq7,Node.enc,Cmp.enc,h1,go_sem,zb,seval,reduceIte,reduceCtorEq]
 ·simp only[zq7,Node.enc,Cmp.enc,ziY,YJ,Node.eta,zcT,h1,hn,hl,go_sem,zb,seval,reduceIte,reduceCtorEq]
def Ji:Sum Tryz.prog:=⟨158,fun args=>args= [.agg (Node.enc (zN (args.getD 0 .any))),.agg (Cmp.enc (Qq (args.getD 1 .any)))]∧okN (zN (args.getD 0 .any))∧((Qq (args.getD 1 .any))).l.length≤1000000,fun args=>vb (JW (zN (args.getD 0 .any)) (Qq (args.getD 1 .any))),fun args h=>by
 have:=zvT (zN (args.getD 0 .any)) (Qq (args.getD 1 .any)) h.2.1 h.2.2;rwa [←h.1]at this,true⟩
theorem zoB:Ji.f=158:=rfl
theorem zoA(args:List V):Ji.D args=(args= [.agg (Node.enc (zN (args.getD 0 .any))),.agg (Cmp.enc (Qq (args.getD 1 .any)))]∧okN (zN (args.getD 0 .any))∧((Qq (args.getD 1 .any))).l.length≤1000000):=rfl
theorem zep:Ji.flat=true:=rfl
theorem zoC(args:List V):Ji.r args=vb (JW (zN (args.getD 0 .any)) (Qq (args.getD 1 .any))):=rfl
attribute [go_sem] zoB zoA zep zoC
def zl1(l:List Node):Prop:=l.length≤1000∧∀k,k<l.length→okN (l.getD k .zero)∧ -1≤par l k∧par l k<k
def goU(l:List Node)(p:Nat→Bool)(child:Bool):Nat→Int→Bool
 |0,_=>false
 |f+1,a=>if a<0 then false else if p a.toNat=true then true else if child=true then false else goU l p child f (par l a.toNat)
def upN(l:List Node)(s:Sel):Nat→Nat→Bool
 |0,k=>JW (l.getD k .zero) (s.getD 0 default)
 |m+1,k=>JW (l.getD k .zero) (s.getD (m+1) default)&&goU l (upN l s m) (decide ((s.getD (m+1) default).link=2)) (k+1) (par l k)
theorem zeI(s:Sel){m:Nat}(h:m<s.length):(s.take (m+1)).length=m+1:=by rw[List.length_take];omega
theorem za1(s:Sel){m:Nat}:(s.take (m+1)).getD m default=s.getD m default:=by
 rw[List.getD_eq_getElem?_getD,List.getElem?_take,if_pos (by omega),←List.getD_eq_getElem?_getD]
theorem zxl(l:List Node)(hd:zl1 l)(s:Sel)(hs:okC s):∀(m k:Nat),m<s.length→k<l.length→zf Tryz.prog 131 [zo l,vi k,.slc 2 ((s.take (m+1)).map Cmp.enc)] (vb (upN l s m k)):=by
 intro m
 induction m with
 |zero=>
  intro k hm hk
  refine zf.of (Orc.cons Ji (Orc.nil _)) zhc (by simp[zlE]) fun w0 own0=> ?_
  have hlen:=zeI s hm
  have hg:=YO (s.take (0+1)) 0 [.c (.int .i64 0),.c (.slice none 0 0)] (by omega)
  rw[za1]at hg
  have hgn:=yo l k [.c (.int .i64 0),.c (.string ⟨#[]⟩),.c (.string ⟨#[]⟩),.c (.slice none 0 0),.c (.slice none 0 0),.c (.string ⟨#[]⟩)] hk
  obtain⟨hn,_⟩:=hd.2 k hk
  have ho:=hs.2 0 hm
  have e1:(k:Int)<(l.length:Int):=by omega
  have e0:(0:Int)≤(k:Int):=by omega
  generalize hS:s.take (0+1)=S at*
  have e2:((0+1:Nat):Int) - 1=0:=by omega
  simp only[zlE,zo,go_sem,zb,reduceCtorEq,reduceIte,Nat.reduceEqDiff,Nat.reduceAdd,Nat.reduceSub,Nat.reduceMul,Nat.reduceLT,Nat.reduceLeDiff,Nat.reduceBEq,Int.reduceEq,Int.reduceLT,Int.reduceLE,Int.reduceAdd,Int.reduceSub,Int.reduceNeg,Int.reduceToNat]
  refine zQ.lab (α:=Unit) 0 (fun _=>[]) (fun _=>⟨[],0⟩) (fun _=>False) (fun _=>0) rfl ?_ fun x hx=>hx.elim
  cases h1:JW (l.getD k .zero) (s.getD 0 default)with
  |true=>simp only[upN,hlen,e2,hg,hgn,hn,ho,e0,e1,h1,Node.enc,Cmp.enc,qt,Node.eta,YI,Cmp.eta,go_sem,zb,reduceCtorEq,reduceIte,Nat.reduceEqDiff,Nat.reduceAdd,Nat.reduceSub,Nat.reduceMul,Nat.reduceLT,Nat.reduceLeDiff,Nat.reduceBEq,Int.reduceEq,Int.reduceLT,Int.reduceLE,Int.reduceAdd,Int.reduceSub,Int.reduceNeg,Int.reduceToNat]
  |false=>simp only[upN,hlen,e2,hg,hgn,hn,ho,e0,e1,h1,Node.enc,Cmp.enc,qt,Node.eta,YI,Cmp.eta,go_sem,zb,reduceCtorEq,reduceIte,Nat.reduceEqDiff,Nat.reduceAdd,Nat.reduceSub,Nat.reduceMul,Nat.reduceLT,Nat.reduceLeDiff,Nat.reduceBEq,Int.reduceEq,Int.reduceLT,Int.reduceLE,Int.reduceAdd,Int.reduceSub,Int.reduceNeg,Int.reduceToNat]
 |succ m ih=>
  intro k hm hk
  let q:Sum Tryz.prog:=⟨131,fun args=>∃j:Nat,args= [zo l,vi j,.slc 2 ((s.take (m+1)).map Cmp.enc)]∧j<l.length,fun args=>vb (upN l s m ((args.getD 1 .any).int.toNat)),fun args h=>by
   obtain⟨j,rfl,h1⟩:=h
   exact ih j (by omega) h1,true⟩
  have q1:q.f=131:=rfl
  have q2:∀args,q.D args= ∃j:Nat,args= [zo l,vi j,.slc 2 ((s.take (m+1)).map Cmp.enc)]∧j<l.length:=fun _=>rfl
  have q3:q.flat=true:=rfl
  have q4:∀args,q.r args=vb (upN l s m ((args.getD 1 .any).int.toNat)):=fun _=>rfl
  clear_value q
  refine zf.of (Orc.cons q (Orc.cons Ji (Orc.nil _))) zhc (by simp[zlE]) fun w0 own0=> ?_
  have hlen:=zeI s hm
  have hg:=YO (s.take (m+1+1)) (m+1) [.c (.int .i64 0),.c (.slice none 0 0)] (by omega)
  rw[za1]at hg
  have hgn:=yo l k [.c (.int .i64 0),.c (.string ⟨#[]⟩),.c (.string ⟨#[]⟩),.c (.slice none 0 0),.c (.slice none 0 0),.c (.string ⟨#[]⟩)] hk
  obtain⟨hn,hp1,hp2⟩:=hd.2 k hk
  have hl:=hd.1
  have ho:=hs.2 (m+1) hm
  have hsl:=hs.1
  have e1:(k:Int)<(l.length:Int):=by omega
  have e0:(0:Int)≤(k:Int):=by omega
  have e2:((m+1+1:Nat):Int) - 1=((m+1:Nat):Int):=by omega
  have e3:¬((m+1:Nat):Int)=0:=by omega
  have e4:(0:Int)≤((m+1:Nat):Int):=by omega
  have e5:((m+1:Nat):Int)<((m+1+1:Nat):Int):=by omega
  have hS2:(s.take (m+1+1)).take (m+1)=s.take (m+1):=by rw[List.take_take,Nat.min_eq_left (by omega)]
  generalize hS:s.take (m+1+1)=S at*
  simp only[zlE,zo,go_sem,zb,reduceCtorEq,reduceIte,Nat.reduceEqDiff,Nat.reduceAdd,Nat.reduceSub,Nat.reduceMul,Nat.reduceLT,Nat.reduceLeDiff,Nat.reduceBEq,Int.reduceEq,Int.reduceLT,Int.reduceLE,Int.reduceAdd,Int.reduceSub,Int.reduceNeg,Int.reduceToNat]
  refine zQ.lab (α:=Int) 0 (fun a=>[(0,.slc 6 (l.map Node.enc)),(2,.slc 2 (S.map Cmp.enc)),(7,vi ((m+1:Nat):Int)),(8,vi a)]) (fun _=>⟨[],0⟩)
   (fun a=> -1≤a∧a<l.length∧∃f:Nat,a<f∧upN l s (m+1) k=goU l (upN l s m) (decide ((s.getD (m+1) default).link=2)) f a) (fun a=>(a+1).toNat) rfl ?_ fun a ha=> ?_
  ·cases h1:JW (l.getD k .zero) (s.getD (m+1) default)with
   |true=>
    have hu:upN l s (m+1) k=goU l (upN l s m) (decide ((s.getD (m+1) default).link=2)) (k+1) (par l k):=by
     show(JW _ _&&_)=_
     rw[h1];rfl
    simp only[hlen,e2,e3,e4,e5,hg,hgn,hn,ho,e0,e1,h1,Int.toNat_natCast,Node.enc,Cmp.enc,qt,Node.eta,YI,Cmp.eta,q1,q2,q3,q4,go_sem,zb,reduceCtorEq,reduceIte,Nat.reduceEqDiff,Nat.reduceAdd,Nat.reduceSub,Nat.reduceMul,Nat.reduceLT,Nat.reduceLeDiff,Nat.reduceBEq,Int.reduceEq,Int.reduceLT,Int.reduceLE,Int.reduceAdd,Int.reduceSub,Int.reduceNeg,Int.reduceToNat]
    exact⟨⟨by omega,by omega⟩,par l k,⟨hp1,by omega,k+1,by omega,hu⟩,St.mk (by simp[zu,zr,zv,par])⟩
   |false=>
    have hu:upN l s (m+1) k=false:=by
     show(JW _ _&&_)=_
     rw[h1];rfl
    simp only[hu,hlen,e2,e3,e4,e5,hg,hgn,hn,ho,e0,e1,h1,Int.toNat_natCast,Node.enc,Cmp.enc,qt,Node.eta,YI,Cmp.eta,q1,q2,q3,q4,go_sem,zb,reduceCtorEq,reduceIte,Nat.reduceEqDiff,Nat.reduceAdd,Nat.reduceSub,Nat.reduceMul,Nat.reduceLT,Nat.reduceLeDiff,Nat.reduceBEq,Int.reduceEq,Int.reduceLT,Int.reduceLE,Int.reduceAdd,Int.reduceSub,Int.reduceNeg,Int.reduceToNat]
    exact⟨by omega,by omega⟩
  ·obtain⟨a1,a2,f,a3,a4⟩:=ha
   by_cases h0:a<0
   ·have hu:upN l s (m+1) k=false:=by
     rw[a4];cases f with
     |zero=>rfl
     |succ f=>unfold goU;rw[if_pos h0]
    simp only[h0,hu,q1,q2,q3,q4,go_sem,zb,reduceCtorEq,reduceIte,Nat.reduceEqDiff,Nat.reduceAdd,Nat.reduceSub,Nat.reduceMul,Nat.reduceLT,Nat.reduceLeDiff,Nat.reduceBEq,Int.reduceEq,Int.reduceLT,Int.reduceLE,Int.reduceAdd,Int.reduceSub,Int.reduceNeg,Int.reduceToNat]
   ·obtain⟨j,rfl⟩:∃j:Nat,a=j:=⟨a.toNat,by omega⟩
    have hj:j<l.length:=by omega
    obtain⟨f,rfl⟩:∃g,f=g+1:=⟨f - 1,by omega⟩
    have hu:upN l s (m+1) k=if upN l s m j=true then true else if(decide ((s.getD (m+1) default).link=2))=true then false else goU l (upN l s m) (decide ((s.getD (m+1) default).link=2)) f (par l j):=by
     rw[a4];conv=>lhs;unfold goU
     rw[if_neg h0,Int.toNat_natCast]
    obtain⟨_,b1,b2⟩:=hd.2 j hj
    have f1:(j:Int)<(l.length:Int):=by omega
    have f0:(0:Int)≤(j:Int):=by omega
    have hgj:=yo l j [.c (.int .i64 0),.c (.string ⟨#[]⟩),.c (.string ⟨#[]⟩),.c (.slice none 0 0),.c (.slice none 0 0),.c (.string ⟨#[]⟩)] hj
    have g3:∃i:Nat,(j:Int)=i∧i<l.length:=⟨j,rfl,hj⟩
    cases hq:upN l s m j with
    |true=>
     rw[hq,if_pos rfl]at hu
     simp only[h0,f0,f1,hu,hq,hlen,hS2,g3,zo,Int.toNat_natCast,q1,q2,q3,q4,go_sem,zb,reduceCtorEq,reduceIte,Nat.reduceEqDiff,Nat.reduceAdd,Nat.reduceSub,Nat.reduceMul,Nat.reduceLT,Nat.reduceLeDiff,Nat.reduceBEq,Int.reduceEq,Int.reduceLT,Int.reduceLE,Int.reduceAdd,Int.reduceSub,Int.reduceNeg,Int.reduceToNat]
     exact⟨⟨by omega,by omega⟩,j,⟨rfl,by rw[Nat.sub_zero,hS2]⟩,hj⟩
    |false=>
     rw[hq,if_neg (by decide)]at hu
     by_cases hc:(s.getD (m+1) default).link=2
     ·rw[decide_eq_true hc,if_pos rfl]at hu
      simp only[h0,f0,f1,hu,hq,hlen,hS2,hg,hc,e4,e5,g3,zo,Cmp.enc,Int.toNat_natCast,q1,q2,q3,q4,go_sem,zb,reduceCtorEq,reduceIte,Nat.reduceEqDiff,Nat.reduceAdd,Nat.reduceSub,Nat.reduceMul,Nat.reduceLT,Nat.reduceLeDiff,Nat.reduceBEq,Int.reduceEq,Int.reduceLT,Int.reduceLE,Int.reduceAdd,Int.reduceSub,Int.reduceNeg,Int.reduceToNat]
      exact⟨by omega,j,⟨rfl,by rw[Nat.sub_zero,hS2]⟩,hj⟩
     ·rw[decide_eq_false hc,if_neg (by decide)]at hu
      simp only[h0,f0,f1,hq,hlen,hS2,hg,hc,hgj,e4,e5,g3,zo,Cmp.enc,Node.enc,Int.toNat_natCast,q1,q2,q3,q4,go_sem,zb,reduceCtorEq,reduceIte,Nat.reduceEqDiff,Nat.reduceAdd,Nat.reduceSub,Nat.reduceMul,Nat.reduceLT,Nat.reduceLeDiff,Nat.reduceBEq,Int.reduceEq,Int.reduceLT,Int.reduceLE,Int.reduceAdd,Int.reduceSub,Int.reduceNeg,Int.reduceToNat]
      exact⟨by omega,⟨j,⟨rfl,by rw[Nat.sub_zero,hS2]⟩,hj⟩,par l j,⟨b1,by omega,f,by omega,hu⟩,by omega,rfl⟩
def Zh(v:V):List Cmp:=v.es.map zcS
theorem Zi(sz:Nat)(l:List Cmp):Zh (.slc sz (l.map Cmp.enc))=l:=by
 simp[Zh,V.es,Function.comp_def,KY]
theorem Zk(s:Sel):kg (.slc 1 [[.slc 2 (s.map Cmp.enc)]])= [s]:=zaC [s]
def Kg(l:List Node):Prop:=∀k,k<l.length→okN (l.getD k .zero)
theorem zl2{l:List Node}(hl:l.length≤1000)(hn:Kg l)(h:zmk l):zl1 l:=by
 refine⟨hl,fun k hk=>⟨hn k hk,?_,Jc h.2 k hk⟩⟩
 by_cases h0:k=0
 ·subst h0
  have:=(JH.1 (h.2 0 hk)).1
  omega
 ·have:=znu h.2 k (by omega) hk
  omega
theorem zwh(l:List Node)(hd:zl1 l)(s:Sel)(hs:okC s)(h0:0<s.length)(k:Int)(hk:0≤k)(hk2:k<l.length):zf Tryz.prog 131 [zo l,vi k,.slc 2 (s.map Cmp.enc)] (vb (upN l s (s.length - 1) k.toNat)):=by
 have:=zxl l hd s hs (s.length - 1) k.toNat (by omega) (by omega)
 rw[show s.length - 1+1=s.length by omega,List.take_length,Int.toNat_of_nonneg hk]at this
 exact this
def zeB:Sum Tryz.prog:=⟨131,fun args=>args= [zo (zk (args.getD 0 .any)),vi ((args.getD 1 .any).int),.slc 2 ((Zh (args.getD 2 .any)).map Cmp.enc)]∧zl1 (zk (args.getD 0 .any))∧okC (Zh (args.getD 2 .any))∧0<((Zh (args.getD 2 .any))).length∧0≤((args.getD 1 .any).int)∧((args.getD 1 .any).int)<((zk (args.getD 0 .any))).length,fun args=>vb (upN (zk (args.getD 0 .any)) (Zh (args.getD 2 .any)) (((Zh (args.getD 2 .any))).length - 1) (((args.getD 1 .any).int)).toNat),fun args h=>by
 have:=zwh (zk (args.getD 0 .any)) h.2.1 (Zh (args.getD 2 .any)) h.2.2.1 h.2.2.2.1 ((args.getD 1 .any).int) h.2.2.2.2.1 h.2.2.2.2.2;rwa [←h.1]at this,true⟩
theorem zsX:zeB.f=131:=rfl
theorem zsW(args:List V):zeB.D args=(args= [zo (zk (args.getD 0 .any)),vi ((args.getD 1 .any).int),.slc 2 ((Zh (args.getD 2 .any)).map Cmp.enc)]∧zl1 (zk (args.getD 0 .any))∧okC (Zh (args.getD 2 .any))∧0<((Zh (args.getD 2 .any))).length∧0≤((args.getD 1 .any).int)∧((args.getD 1 .any).int)<((zk (args.getD 0 .any))).length):=rfl
theorem zgy:zeB.flat=true:=rfl
theorem zsY(args:List V):zeB.r args=vb (upN (zk (args.getD 0 .any)) (Zh (args.getD 2 .any)) (((Zh (args.getD 2 .any))).length - 1) (((args.getD 1 .any).int)).toNat):=rfl
attribute [go_sem] zsX zsW zgy zsY
def KJ:Sum Tryz.prog:=⟨130,fun args=>args= [Zz (kg (args.getD 0 .any))]∧okM (kg (args.getD 0 .any)),fun args=>vb (J0 (kg (args.getD 0 .any))),fun args h=>by
 have:=ziZ (kg (args.getD 0 .any)) h.2;rwa [←h.1]at this,true⟩
theorem zkw:KJ.f=130:=rfl
theorem zkv(args:List V):KJ.D args=(args= [Zz (kg (args.getD 0 .any))]∧okM (kg (args.getD 0 .any))):=rfl
theorem zb8:KJ.flat=true:=rfl
theorem zkx(args:List V):KJ.r args=vb (J0 (kg (args.getD 0 .any))):=rfl
attribute [go_sem] zkw zkv zb8 zkx
def isM(l:List Node)(k:Int)(s:Sel):Bool:=K0 l&&decide (0≤k∧k<l.length)&&J0 [s]&&upN l s (s.length - 1) k.toNat
theorem znc{s:Sel}(h:J0 [s]=true):0<s.length∧s.length≤64:=by
 unfold J0 at h
 rw[decide_eq_true_eq]at h
 have:=h.2 0 (by simp)
 unfold W6 at this
 rw[decide_eq_true_eq]at this
 obtain⟨h1,h2,_⟩:=this
 simp only[List.getD_cons_zero]at h1 h2
 omega
theorem zsc{s:Sel}(hs:okC s):okM [s]:=⟨by simp,fun i hi=>by
 have:i=0:=by simp at hi;omega
 subst this;exact hs⟩
theorem zvA(l:List Node)(k:Int)(s:Sel)(hl:l.length≤1000)(hn:Kg l)(hs:okC s):zf Tryz.prog 100 [zo l,vi k,.agg (yv s)] (vb (isM l k s)):=by
 refine zf.of (Orc.cons YV (Orc.cons KJ (Orc.cons zeB (Orc.nil _)))) zqJ (by simp[zfg]) fun w0 own0=> ?_
 have ho:=zsc hs
 unfold isM
 by_cases hD:K0 l=true
 ·have hI:=(zl0 l).1 hD
  have hP:=zl2 hl hn hI
  have c0:(if 0≤Qj l∨l.length=0 then(5:Int)else 0)=0:=by
   unfold K0 at hD;rw[decide_eq_true_eq]at hD;rw[if_neg];omega
  by_cases h1:0≤k
  ·by_cases h2:k<(l.length:Int)
   ·cases hr:J0 [s]with
    |true=>
     obtain⟨r1,_⟩:=znc hr
     simp only[zfg,zo,yv,Zz,zl,Zk,Zi,yO,j5,c0,hl,hD,hP,hs,h1,h2,ho,hr,r1,List.map_cons,List.map_nil,ze,zc,za,go_sem,seval,reduceIte,reduceCtorEq]
    |false=>
     simp only[zfg,zo,yv,Zz,zl,Zk,Zi,yO,j5,c0,hl,hD,hP,hs,h1,h2,ho,hr,List.map_cons,List.map_nil,ze,zc,za,go_sem,seval,reduceIte,reduceCtorEq]
   ·simp only[zfg,zo,yv,Zz,zl,Zk,Zi,yO,j5,c0,hl,hD,hP,hs,h1,h2,ho,List.map_cons,List.map_nil,ze,zc,za,go_sem,seval,reduceIte,reduceCtorEq]
  ·simp only[zfg,zo,yv,Zz,zl,Zk,Zi,yO,j5,c0,hl,hD,hP,hs,h1,ho,List.map_cons,List.map_nil,ze,zc,za,go_sem,seval,reduceIte,reduceCtorEq]
 ·have c0:(if 0≤Qj l∨l.length=0 then(5:Int)else 0)=5:=by
   unfold K0 at hD;rw[decide_eq_true_eq]at hD;rw[if_pos];omega
  simp only[zfg,zo,yv,Zz,zl,Zk,Zi,yO,j5,c0,hl,hD,hs,ho,List.map_cons,List.map_nil,ze,zc,za,go_sem,seval,reduceIte,reduceCtorEq]
def Ws:Sum Tryz.prog:=⟨100,fun args=>args= [zo (zk (args.getD 0 .any)),vi ((args.getD 1 .any).int),.agg (yv (Qs (args.getD 2 .any)))]∧((zk (args.getD 0 .any))).length≤1000∧Kg (zk (args.getD 0 .any))∧okC (Qs (args.getD 2 .any)),fun args=>vb (isM (zk (args.getD 0 .any)) ((args.getD 1 .any).int) (Qs (args.getD 2 .any))),fun args h=>by
 have:=zvA (zk (args.getD 0 .any)) ((args.getD 1 .any).int) (Qs (args.getD 2 .any)) h.2.1 h.2.2.1 h.2.2.2;rwa [←h.1]at this,true⟩
theorem znY:Ws.f=100:=rfl
theorem znX(args:List V):Ws.D args=(args= [zo (zk (args.getD 0 .any)),vi ((args.getD 1 .any).int),.agg (yv (Qs (args.getD 2 .any)))]∧((zk (args.getD 0 .any))).length≤1000∧Kg (zk (args.getD 0 .any))∧okC (Qs (args.getD 2 .any))):=rfl
theorem zec:Ws.flat=true:=rfl
theorem znZ(args:List V):Ws.r args=vb (isM (zk (args.getD 0 .any)) ((args.getD 1 .any).int) (Qs (args.getD 2 .any))):=rfl
attribute [go_sem] znY znX zec znZ
theorem zvL(a:Int):zf Tryz.prog 113 [vi a] (vb false):=by
 refine zf.of (Orc.nil _) zqP (by simp[zt3]) fun w0 own0=> ?_
 simp only[zt3,go_sem,zb,seval,reduceIte,reduceCtorEq]
def WA:Sum Tryz.prog:=⟨113,fun args=>args= [vi ((args.getD 0 .any).int)],fun args=>vb false,fun args h=>by
 have:=zvL ((args.getD 0 .any).int);rwa [←h]at this,true⟩
theorem zoy:WA.f=113:=rfl
theorem zox(args:List V):WA.D args=(args= [vi ((args.getD 0 .any).int)]):=rfl
theorem zeo:WA.flat=true:=rfl
theorem zoz(args:List V):WA.r args=vb false:=rfl
attribute [go_sem] zoy zox zeo zoz
def Y7(a b:Int):Int:=if a<b then -1 else if b<a then 1 else 0
theorem zrt(a b:Int):zf Tryz.prog 89 [vi a,vi b] (vi (Y7 a b)):=by
 refine zf.of (Orc.cons WA (Orc.nil _)) zu2 (by simp[c89]) fun w0 own0=> ?_
 unfold Y7
 by_cases h1:a<b
 ·simp only[c89,h1,go_sem,zb,seval,reduceIte,reduceCtorEq]
 ·by_cases h2:b<a
  ·simp only[c89,h1,h2,go_sem,zb,seval,reduceIte,reduceCtorEq]
  ·simp only[c89,h1,h2,go_sem,zb,seval,reduceIte,reduceCtorEq]
def Kv:Sum Tryz.prog:=⟨89,fun args=>args= [vi ((args.getD 0 .any).int),vi ((args.getD 1 .any).int)],fun args=>vi (Y7 ((args.getD 0 .any).int) ((args.getD 1 .any).int)),fun args h=>by
 have:=zrt ((args.getD 0 .any).int) ((args.getD 1 .any).int);rwa [←h]at this,true⟩
theorem zjK:Kv.f=89:=rfl
theorem zjJ(args:List V):Kv.D args=(args= [vi ((args.getD 0 .any).int),vi ((args.getD 1 .any).int)]):=rfl
theorem zbS:Kv.flat=true:=rfl
theorem zjL(args:List V):Kv.r args=vi (Y7 ((args.getD 0 .any).int) ((args.getD 1 .any).int)):=rfl
attribute [go_sem] zjK zjJ zbS zjL
def JO:List Int→List Int→Int
 | [],[]=>0
 | [],_::_=> -1
 |_::_,[]=>1
 |x::a,y::b=>if Y7 x y=0 then JO a b else Y7 x y
theorem YE(x y:Int)(a b:List Int):JO (x::a) (y::b)=if Y7 x y=0 then JO a b else Y7 x y:=rfl
theorem Yh(l:List Int)(n:Nat)(h:n<l.length):l.drop n=l.getD n 0::l.drop (n+1):=by
 rw[List.drop_eq_getElem_cons h,List.getD_eq_getElem?_getD,List.getElem?_eq_getElem h];rfl
theorem zru(a b:List Int)(ha:a.length≤1000000)(hb:b.length≤1000000):zf Tryz.prog 55 [zO a,zO b] (vi (JO a b)):=by
 refine zf.of (Orc.cons Kv (Orc.nil _)) zuG (by simp[c55]) fun w0 own0=> ?_
 simp only[c55,zO,go_sem,zb,seval,reduceIte,reduceCtorEq]
 refine zQ.lp (α:=Nat) (fun k=>[(0,.slc 1 (a.map fun n=>[vi n])),(1,.slc 1 (b.map fun n=>[vi n])),(9,.slc 1 (a.map fun n=>[vi n])),(10,vi a.length),(11,vi k)]) (fun _=>⟨[],0⟩)
  (fun k=>k≤a.length∧k≤b.length∧JO a b=JO (a.drop k) (b.drop k)) (fun k=>a.length - k) 0 ⟨Nat.zero_le _,Nat.zero_le _,rfl⟩ (St.mk (by simp[zu,zr,zv])) fun k hk=> ?_
 obtain⟨h1,h2,h3⟩:=hk
 by_cases hkl:k=a.length
 ·subst hkl
  rw[List.drop_length]at h3
  by_cases hb2:a.length<b.length
  ·rw[Yh b _ hb2]at h3
   have e1:(a.length:Int)<(b.length:Int):=by omega
   simp only[Int.lt_irrefl,e1,h3,JO,go_sem,zb,seval,reduceIte,reduceCtorEq]
  ·have e0:a.length=b.length:=by omega
   rw[List.drop_eq_nil_of_le (by omega)]at h3
   have e1:¬(a.length:Int)<(b.length:Int):=by omega
   simp only[Int.lt_irrefl,e1,h3,JO,go_sem,zb,seval,reduceIte,reduceCtorEq]
 ·have e1:(k:Int)<(a.length:Int):=by omega
  have e0:(0:Int)≤(k:Int):=by omega
  rw[Yh a k (by omega)]at h3
  by_cases hb2:k<b.length
  ·rw[Yh b k hb2]at h3
   have e2:¬(b.length:Int)≤(k:Int):=by omega
   have e3:(k:Int)<(b.length:Int):=by omega
   rw[YE]at h3
   by_cases hc:Y7 (a.getD k 0) (b.getD k 0)=0
   ·rw[if_pos hc]at h3
    simp only[e0,e1,e2,e3,hc,qS,go_sem,zb,seval,reduceIte,reduceCtorEq]
    exact⟨by omega,k+1,⟨by omega,by omega,h3⟩,by omega,by omega⟩
   ·rw[if_neg hc]at h3
    simp only[e0,e1,e2,e3,hc,h3,qS,go_sem,zb,seval,reduceIte,reduceCtorEq]
  ·rw[List.drop_eq_nil_of_le (show b.length≤k by omega)]at h3
   have e2:(b.length:Int)≤(k:Int):=by omega
   simp only[e0,e1,e2,h3,JO,qS,go_sem,zb,seval,reduceIte,reduceCtorEq]
def Kw:Sum Tryz.prog:=⟨55,fun args=>args= [zO (zK (args.getD 0 .any)),zO (zK (args.getD 1 .any))]∧((zK (args.getD 0 .any))).length≤1000000∧((zK (args.getD 1 .any))).length≤1000000,fun args=>vi (JO (zK (args.getD 0 .any)) (zK (args.getD 1 .any))),fun args h=>by
 have:=zru (zK (args.getD 0 .any)) (zK (args.getD 1 .any)) h.2.1 h.2.2;rwa [←h.1]at this,true⟩
theorem zjN:Kw.f=55:=rfl
theorem zjM(args:List V):Kw.D args=(args= [zO (zK (args.getD 0 .any)),zO (zK (args.getD 1 .any))]∧((zK (args.getD 0 .any))).length≤1000000∧((zK (args.getD 1 .any))).length≤1000000):=rfl
theorem zbT:Kw.flat=true:=rfl
theorem zjO(args:List V):Kw.r args=vi (JO (zK (args.getD 0 .any)) (zK (args.getD 1 .any))):=rfl
attribute [go_sem] zjN zjM zbT zjO
structure W3 where
 a:Int
 b:Int
 c:Int
def W3.enc(w:W3):List V:=[vi w.a,vi w.b,vi w.c]
def abv(x y:W3):Bool:=decide (0<JO [x.a,x.b,x.c] [y.a,y.b,y.c])
theorem zvb(a b c:Int):zK (.slc 1 [[.c (.int .i64 a)],[.c (.int .i64 b)],[.c (.int .i64 c)]])= [a,b,c]:=z8 1 [a,b,c]
theorem zlp(x y:W3):zf Tryz.prog 28 [.agg x.enc,.agg y.enc] (vb (abv x y)):=by
 refine zf.of (Orc.cons Kw (Orc.nil _)) zuu (by simp[c28]) fun w0 own0=> ?_
 simp only[c28,W3.enc,abv,zO,zvb,go_sem,zb,seval,reduceIte,reduceCtorEq]
def dW3(v:V):W3:=⟨(v.cs.getD 0 .any).int,(v.cs.getD 1 .any).int,(v.cs.getD 2 .any).int⟩
theorem KZ(a b c:Int):dW3 (.agg [.c (.int .i64 a),.c (.int .i64 b),.c (.int .i64 c)])=⟨a,b,c⟩:=rfl
def Jd:Sum Tryz.prog:=⟨28,fun args=>args= [.agg (W3.enc (dW3 (args.getD 0 .any))),.agg (W3.enc (dW3 (args.getD 1 .any)))],fun args=>vb (abv (dW3 (args.getD 0 .any)) (dW3 (args.getD 1 .any))),fun args h=>by
 have:=zlp (dW3 (args.getD 0 .any)) (dW3 (args.getD 1 .any));rwa [←h]at this,true⟩
theorem znx:Jd.f=28:=rfl
theorem znw(args:List V):Jd.D args=(args= [.agg (W3.enc (dW3 (args.getD 0 .any))),.agg (W3.enc (dW3 (args.getD 1 .any)))]):=rfl
theorem zdY:Jd.flat=true:=rfl
theorem zny(args:List V):Jd.r args=vb (abv (dW3 (args.getD 0 .any)) (dW3 (args.getD 1 .any))):=rfl
attribute [go_sem] znx znw zdY zny
theorem zqx(x y:W3):abv x y=true↔(y.a<x.a∨(x.a=y.a∧(y.b<x.b∨(x.b=y.b∧y.c<x.c)))):=by
 unfold abv
 rw[decide_eq_true_eq,YE,YE,YE]
 show 0<(if Y7 x.a y.a=0 then if Y7 x.b y.b=0 then if Y7 x.c y.c=0 then 0 else Y7 x.c y.c else Y7 x.b y.b else Y7 x.a y.a)↔_
 unfold Y7
 split<;>split<;>(try split)<;>(try split)<;>(try split)<;>(try split)<;>(try split)<;>(try split)<;>(try split)<;>omega


def Xn(w:W3)(k:Int):W3:=if k=3 then⟨w.a+1,w.b,w.c⟩else if k=4∨k=5∨k=6 then⟨w.a,w.b+1,w.c⟩else if k=2 then⟨w.a,w.b,w.c+1⟩else w
def wtC(w:W3)(l:List Smp):W3:=l.foldl (fun w x=>Xn w x.kind) w
def wtF(w:W3)(s:Sel):W3:=s.foldl (fun w c=>wtC w c.l) w
def wtS(s:Sel):W3:=wtF ⟨0,0,0⟩ s
def W3.le(w:W3)(n:Int):Prop:=0≤w.a∧w.a≤n∧0≤w.b∧w.b≤n∧0≤w.c∧w.c≤n
theorem zqy{w:W3}{n:Int}(k:Int)(h:w.le n):(Xn w k).le (n+1):=by
 obtain⟨h1,h2,h3,h4,h5,h6⟩:=h
 unfold Xn
 split
 ·refine⟨?_,?_,?_,?_,?_,?_⟩<;>dsimp only<;>omega
 split
 ·refine⟨?_,?_,?_,?_,?_,?_⟩<;>dsimp only<;>omega
 split
 ·refine⟨?_,?_,?_,?_,?_,?_⟩<;>dsimp only<;>omega
 ·refine⟨?_,?_,?_,?_,?_,?_⟩<;>omega
theorem W3.le_mono{w:W3}{n m:Int}(h:w.le n)(hm:n≤m):w.le m:=by
 obtain⟨h1,h2,h3,h4,h5,h6⟩:=h
 exact⟨h1,by omega,h3,by omega,h5,by omega⟩
theorem zqs(w:W3)(l:List Smp)(k:Nat)(h:k<l.length):wtC w (l.drop k)=wtC (Xn w (l.getD k default).kind) (l.drop (k+1)):=by
 rw[List.drop_eq_getElem_cons h,List.getD_eq_getElem?_getD,List.getElem?_eq_getElem h];rfl
theorem zqu(w:W3)(s:Sel)(k:Nat)(h:k<s.length):wtF w (s.drop k)=wtF (wtC w (s.getD k default).l) (s.drop (k+1)):=by
 rw[List.drop_eq_getElem_cons h,List.getD_eq_getElem?_getD,List.getElem?_eq_getElem h];rfl
structure WtS where
 n:Nat
 w:W3
 clk:Nat
theorem W3.eta(w:W3):(⟨w.a,w.b,w.c⟩:W3)=w:=rfl
theorem zgK(s:Sel)(hs:okC s):zf Tryz.prog 101 [.agg (yv s)] (.agg (wtS s).enc):=by
 refine zf.of (Orc.nil _) zqK (by simp[ztY]) fun w0 own0=> ?_
 obtain⟨hs1,hs2⟩:=hs
 simp only[ztY,yv,go_sem,zb,seval,reduceIte,reduceCtorEq]
 refine zQ.lp (α:=WtS) (fun a=>[(2,.ptr 1 1 0 0),(3,.ptr 2 2 0 0),(9,.slc 2 (s.map Cmp.enc)),(10,vi s.length),(11,vi a.n)])
  (fun a=>⟨[⟨0,1,[[.slc 2 (s.map Cmp.enc)]],false,[]⟩,⟨1,3,[[vi 0,vi 0,vi 0]],false,[]⟩,⟨2,3,[a.w.enc],false,[]⟩],a.clk⟩)
  (fun a=>a.n≤s.length∧a.w.le (a.n*1000000)∧wtS s=wtF a.w (s.drop a.n)) (fun a=>s.length - a.n) ⟨0,⟨0,0,0⟩,3⟩ ⟨Nat.zero_le _,⟨by simp,by simp,by simp,by simp,by simp,by simp⟩,rfl⟩ (St.cut (by simp[zu,zr,zv]) rfl rfl) fun a ha=> ?_
 obtain⟨k,w,clk⟩:=a
 simp only at ha
 obtain⟨k1,k2,k3⟩:=ha
 by_cases he:k=s.length
 ·subst he
  rw[List.drop_length]at k3
  have e:wtS s=w:=k3
  simp only[W3.enc,Int.lt_irrefl,e,go_sem,zb,seval,reduceIte,reduceCtorEq]
 ·have e1:(k:Int)<(s.length:Int):=by omega
  have e0:(0:Int)≤(k:Int):=by omega
  have hlt:k<s.length:=by omega
  have hg:=YO s k [.c (.int .i64 0),.c (.slice none 0 0)] hlt
  have hcl:=hs2 k hlt
  rw[zqu w s k hlt]at k3
  generalize hx:s.getD k default=c at*
  simp only[W3.enc,e0,e1,hg,Cmp.enc,go_sem,zb,seval,reduceIte,reduceCtorEq]
  refine zQ.lp (α:=WtS) (fun a=>[(2,.ptr 1 1 0 0),(3,.ptr 2 2 0 0),(9,.slc 2 (s.map Cmp.enc)),(10,vi s.length),(11,vi k),(16,.slc 3 (c.l.map Smp.enc)),(17,vi c.l.length),(18,vi a.n)])
   (fun a=>⟨[⟨0,1,[[.slc 2 (s.map Cmp.enc)]],false,[]⟩,⟨1,3,[[vi 0,vi 0,vi 0]],false,[]⟩,⟨2,3,[a.w.enc],false,[]⟩],a.clk⟩)
   (fun a=>a.n≤c.l.length∧a.w.le (k*1000000+a.n)∧wtC w c.l=wtC a.w (c.l.drop a.n)) (fun a=>c.l.length - a.n) ⟨0,w,clk+1⟩ ⟨Nat.zero_le _,by simpa using k2,rfl⟩ (St.cut (by simp[zu,zr,ev,W3.enc]) rfl rfl) fun a ha=> ?_
  obtain⟨j,u,clk2⟩:=a
  simp only at ha
  obtain⟨j1,j2,j3⟩:=ha
  by_cases hj:j=c.l.length
  ·subst hj
   rw[List.drop_length]at j3
   have j3:wtC w c.l=u:=j3
   rw[j3]at k3
   simp only[W3.enc,Int.lt_irrefl,go_sem,zb,seval,reduceIte,reduceCtorEq]
   exact⟨by omega,⟨k+1,u,clk2⟩,⟨by dsimp only;omega,W3.le_mono j2 (by dsimp only;omega),k3⟩,by dsimp only;omega,by dsimp only;omega,⟨rfl,rfl,rfl⟩,rfl⟩
  ·have f1:(j:Int)<(c.l.length:Int):=by omega
   have f0:(0:Int)≤(j:Int):=by omega
   have hjl:j<c.l.length:=by omega
   have hgj:=YP c.l j
   rw[zqs u c.l j hjl]at j3
   generalize hy:c.l.getD j default=y at*
   obtain⟨b1,b2,b3,b4,b5,b6⟩:=id j2
   have le:=zqy y.kind j2
   have fin:(-9223372036854775808≤(j:Int)+1∧(j:Int)+1≤9223372036854775807)∧
    ∃b:WtS,(b.n≤c.l.length∧b.w.le (k*1000000+b.n)∧wtC w c.l=wtC b.w (c.l.drop b.n))∧c.l.length - b.n<c.l.length - j∧(j:Int)+1=(b.n:Int)∧((Xn u y.kind).a=b.w.a∧(Xn u y.kind).b=b.w.b∧(Xn u y.kind).c=b.w.c)∧clk2+1=b.clk:=
    ⟨by omega,⟨j+1,Xn u y.kind,clk2+1⟩,⟨by dsimp only;omega,W3.le_mono le (by dsimp only;omega),j3⟩,by dsimp only;omega,by dsimp only;omega,⟨rfl,rfl,rfl⟩,rfl⟩
   unfold Xn at fin
   by_cases x3:y.kind=3
   ·rw[if_pos x3]at fin
    simp only[W3.enc,f0,f1,hgj,Smp.enc,x3,go_sem,zb,seval,reduceIte,reduceCtorEq]
    exact⟨by omega,fin⟩
   rw[if_neg x3]at fin
   by_cases x4:y.kind=4
   ·rw[if_pos (.inl x4)]at fin
    simp only[W3.enc,f0,f1,hgj,Smp.enc,x4,go_sem,zb,seval,reduceIte,reduceCtorEq]
    exact⟨by omega,fin⟩
   by_cases x5:y.kind=5
   ·rw[if_pos (.inr (.inl x5))]at fin
    simp only[W3.enc,f0,f1,hgj,Smp.enc,x5,go_sem,zb,seval,reduceIte,reduceCtorEq]
    exact⟨by omega,fin⟩
   by_cases x6:y.kind=6
   ·rw[if_pos (.inr (.inr x6))]at fin
    simp only[W3.enc,f0,f1,hgj,Smp.enc,x6,go_sem,zb,seval,reduceIte,reduceCtorEq]
    exact⟨by omega,fin⟩
   rw[if_neg (by omega)]at fin
   by_cases x2:y.kind=2
   ·rw[if_pos x2]at fin
    simp only[W3.enc,f0,f1,hgj,Smp.enc,x2,go_sem,zb,seval,reduceIte,reduceCtorEq]
    exact⟨by omega,fin⟩
   ·rw[if_neg x2]at fin
    simp only[W3.enc,f0,f1,hgj,Smp.enc,x2,x3,x4,x5,x6,go_sem,zb,seval,reduceIte,reduceCtorEq]
    exact fin
def KL:Sum Tryz.prog:=⟨101,fun args=>args= [.agg (yv (Qs (args.getD 0 .any)))]∧okC (Qs (args.getD 0 .any)),fun args=>.agg (wtS (Qs (args.getD 0 .any))).enc,fun args h=>by
 have:=zgK (Qs (args.getD 0 .any)) h.2;rwa [←h.1]at this,false⟩
theorem zkF:KL.f=101:=rfl
theorem zkE(args:List V):KL.D args=(args= [.agg (yv (Qs (args.getD 0 .any)))]∧okC (Qs (args.getD 0 .any))):=rfl
theorem zcb:KL.flat=false:=rfl
theorem zkG(args:List V):KL.r args= .agg (wtS (Qs (args.getD 0 .any))).enc:=rfl
attribute [go_sem] zkF zkE zcb zkG
structure GvS where
 n:Nat
 ver:Nat
 clk:Nat

structure UpS where
 b:Bool
 a:Int
def WV(l:List Node)(k:Int)(p:W3×Bool)(x:Sel):W3×Bool:=if isM l k x=true then(if p.2=false∨abv (wtS x) p.1=true then(wtS x,true)else p)else p
def QN(l:List Node)(k:Int)(p:W3×Bool)(s:List Sel):W3×Bool:=s.foldl (WV l k) p
theorem zh4(l:List Node)(k:Int)(p:W3×Bool)(s:List Sel)(n:Nat)(h:n<s.length):QN l k p (s.drop n)=QN l k (WV l k p (s.getD n [])) (s.drop (n+1)):=by
 rw[List.drop_eq_getElem_cons h,List.getD_eq_getElem?_getD,List.getElem?_eq_getElem h];rfl
structure BsS where
 n:Nat
 w:W3
 b:Bool
 clk:Nat
theorem zqH(l:List Node)(k:Int)(s:List Sel)(hl:l.length≤1000)(hn:Kg l)(hs:okM s):zf Tryz.prog 64 [zo l,vi k,Zz s] (.tup [.agg (QN l k (⟨0,0,0⟩,false) s).1.enc,vb (QN l k (⟨0,0,0⟩,false) s).2]):=by
 refine zf.of (Orc.cons Ws (Orc.cons KL (Orc.cons Jd (Orc.nil _)))) zuN (by simp[c64]) fun w0 own0=> ?_
 obtain⟨hs1,hs2⟩:=hs
 simp only[c64,zo,Zz,go_sem,zb,seval,reduceIte,reduceCtorEq]
 refine zQ.lp (α:=BsS) (fun a=>[(0,.slc 6 (l.map Node.enc)),(1,vi k),(6,.ptr 0 0 0 0),(8,.ptr 1 1 0 0),(9,vb a.b),(13,.slc 1 (s.map yv)),(14,vi s.length),(15,vi a.n)])
  (fun a=>⟨[⟨0,3,[[vi 0,vi 0,vi 0]],false,[]⟩,⟨1,3,[a.w.enc],false,[]⟩],a.clk⟩)
  (fun a=>a.n≤s.length∧QN l k (⟨0,0,0⟩,false) s=QN l k (a.w,a.b) (s.drop a.n)) (fun a=>s.length - a.n) ⟨0,⟨0,0,0⟩,false,2⟩ ⟨Nat.zero_le _,rfl⟩ (St.cut (by simp[zu,zr,zv]) rfl rfl) fun a ha=> ?_
 obtain⟨n,w,b,clk⟩:=a
 simp only at ha
 obtain⟨k1,k2⟩:=ha
 by_cases he:n=s.length
 ·subst he
  rw[List.drop_length]at k2
  have e:QN l k (⟨0,0,0⟩,false) s=(w,b):=k2
  simp only[W3.enc,Int.lt_irrefl,e,go_sem,zb,seval,reduceIte,reduceCtorEq]
  rfl
 ·have e1:(n:Int)<(s.length:Int):=by omega
  have e0:(0:Int)≤(n:Int):=by omega
  have hlt:n<s.length:=by omega
  have hg:=zaK s n [.c (.slice none 0 0)] hlt
  have ho:=hs2 n hlt
  rw[zh4 l k _ s n hlt]at k2
  generalize hx:s.getD n []=x at*
  cases hi:isM l k x with
  |false=>
   have hp:WV l k (w,b) x=(w,b):=by unfold WV;rw[hi,if_neg (by simp)]
   rw[hp]at k2
   simp only[W3.enc,e0,e1,hg,yv,zo,zl,Xb,hl,hn,ho,hi,go_sem,zb,seval,reduceIte,reduceCtorEq]
   exact⟨by omega,⟨n+1,w,b,clk+1⟩,⟨by dsimp only;omega,k2⟩,by dsimp only;omega,⟨rfl,by dsimp only;omega⟩,⟨rfl,rfl,rfl⟩,rfl⟩
  |true=>
   have hp:WV l k (w,b) x=if b=false∨abv (wtS x) w=true then(wtS x,true)else(w,b):=by unfold WV;rw[hi,if_pos rfl]
   rw[hp]at k2
   generalize hu:wtS x=u at*
   cases b with
   |false=>
    rw[if_pos (.inl rfl)]at k2
    simp only[W3.enc,e0,e1,hg,yv,zo,zl,Xb,hl,hn,ho,hi,hu,KZ,W3.eta,ze,zc,za,go_sem,seval,reduceIte,reduceCtorEq]
    exact⟨by omega,⟨n+1,u,true,clk+2⟩,⟨by dsimp only;omega,k2⟩,by dsimp only;omega,⟨rfl,by dsimp only;omega⟩,⟨rfl,rfl,rfl⟩,rfl⟩
   |true=>
    cases hab:abv u w with
    |true=>
     rw[if_pos (.inr hab)]at k2
     simp only[W3.enc,e0,e1,hg,yv,zo,zl,Xb,hl,hn,ho,hi,hu,hab,KZ,W3.eta,ze,zc,za,go_sem,seval,reduceIte,reduceCtorEq]
     exact⟨by omega,⟨n+1,u,true,clk+2⟩,⟨by dsimp only;omega,k2⟩,by dsimp only;omega,⟨rfl,by dsimp only;omega⟩,⟨rfl,rfl,rfl⟩,rfl⟩
    |false=>
     rw[if_neg (by rw[hab];simp)]at k2
     simp only[W3.enc,e0,e1,hg,yv,zo,zl,Xb,hl,hn,ho,hi,hu,hab,KZ,W3.eta,ze,zc,za,go_sem,seval,reduceIte,reduceCtorEq]
     exact⟨by omega,⟨n+1,w,true,clk+2⟩,⟨by dsimp only;omega,k2⟩,by dsimp only;omega,⟨rfl,by dsimp only;omega⟩,⟨rfl,rfl,rfl⟩,rfl⟩
def Kr:Sum Tryz.prog:=⟨64,fun args=>args= [zo (zk (args.getD 0 .any)),vi ((args.getD 1 .any).int),Zz (kg (args.getD 2 .any))]∧((zk (args.getD 0 .any))).length≤1000∧Kg (zk (args.getD 0 .any))∧okM (kg (args.getD 2 .any)),fun args=>.tup [.agg (QN (zk (args.getD 0 .any)) ((args.getD 1 .any).int) (⟨0,0,0⟩,false) (kg (args.getD 2 .any))).1.enc,vb (QN (zk (args.getD 0 .any)) ((args.getD 1 .any).int) (⟨0,0,0⟩,false) (kg (args.getD 2 .any))).2],fun args h=>by
 have:=zqH (zk (args.getD 0 .any)) ((args.getD 1 .any).int) (kg (args.getD 2 .any)) h.2.1 h.2.2.1 h.2.2.2;rwa [←h.1]at this,false⟩
theorem zjr:Kr.f=64:=rfl
theorem zjq(args:List V):Kr.D args=(args= [zo (zk (args.getD 0 .any)),vi ((args.getD 1 .any).int),Zz (kg (args.getD 2 .any))]∧((zk (args.getD 0 .any))).length≤1000∧Kg (zk (args.getD 0 .any))∧okM (kg (args.getD 2 .any))):=rfl
theorem zbN:Kr.flat=false:=rfl
theorem zjs(args:List V):Kr.r args= .tup [.agg (QN (zk (args.getD 0 .any)) ((args.getD 1 .any).int) (⟨0,0,0⟩,false) (kg (args.getD 2 .any))).1.enc,vb (QN (zk (args.getD 0 .any)) ((args.getD 1 .any).int) (⟨0,0,0⟩,false) (kg (args.getD 2 .any))).2]:=rfl
attribute [go_sem] zjr zjq zbN zjs
def zvq(x:Smp):Prop:=x.text.size≤100∧x.val.size≤100
def zvo(c:Cmp):Prop:=c.l.length≤20∧∀i,i<c.l.length→zvq (c.l.getD i default)
def zvp(s:Sel):Prop:=s.length≤70∧∀i,i<s.length→zvo (s.getD i default)
def ztM(l:List Sel):Prop:=l.length≤10∧∀i,i<l.length→zvp (l.getD i [])
instance (x:Smp):Decidable (zvq x):=by unfold zvq;infer_instance
instance (x:Cmp):Decidable (zvo x):=by unfold zvo;infer_instance
instance (x:Sel):Decidable (zvp x):=by unfold zvp;infer_instance
instance (x:List Sel):Decidable (ztM x):=by unfold ztM;infer_instance
def W3.v(w:W3):Value:=.agg #[.int .i64 w.a,.int .i64 w.b,.int .i64 w.c]
deriving instance DecidableEq for Smp
deriving instance DecidableEq for Cmp
structure EqS where
 n:Nat
 clk:Nat
def zC(t:Tok):ByteArray:=
 if t.kind=3∨t.kind=12∧t.text=⟨#[40]⟩then⟨#[41]⟩else if t.kind=12∧t.text=⟨#[91]⟩then⟨#[93]⟩else if t.kind=12∧t.text=⟨#[123]⟩then⟨#[125]⟩else⟨#[]⟩
def skip(ends:List Int)(k:Int):Int:=if k<0∨(ends.length:Int)≤k∨ends.getD k.toNat 0<k then k+1 else min (ends.getD k.toNat 0+1) ends.length
theorem zsA(l:List Int)(k:Int)(hk: -9223372036854775808≤k)(hk':k<9223372036854775807)(hl:l.getD k.toNat 0<9223372036854775807):zf Tryz.prog 104 [zO l,vi k] (vi (skip l k)):=by
 refine zf.of (Orc.nil _) zqN (by simp[zt1]) fun w0 own0=> ?_
 simp only[zt1,zO,qS,zdD,Q7,Option.some.injEq,go_sem,zb,seval,reduceIte,reduceCtorEq]
 unfold skip
 grind
theorem zmV(t:Tok):zf Tryz.prog 123 [.agg t.enc] (vs (zC t)):=by
 refine zf.of (Orc.nil _) zqR (by simp[zt5]) fun w0 own0=> ?_
 simp only[zt5,Tok.enc,zdD,Q7,Option.some.injEq,go_sem,zb,seval,reduceIte,reduceCtorEq]
 unfold zC
 grind
theorem zkJ(n a b:Int):zf Tryz.prog 124 [vi n,vi a,vi b] (vb (decide (0≤a∧a≤b∧b≤n))):=by
 refine zf.of (Orc.nil _) zqS (by simp[zt6]) fun w0 own0=> ?_
 simp only[zt6,zO,qS,zdD,Q7,Option.some.injEq,go_sem,zb,seval,reduceIte,reduceCtorEq]
 grind
theorem ziA(t:Tok)(k:Int):zf Tryz.prog 125 [.agg t.enc,.pp [vi k]] (vb (decide (t.kind=k))):=by
 refine zf.of (Orc.nil _) zqT (by simp[zt7]) fun w0 own0=> ?_
 simp only[zt7,Tok.enc,zdD,Q7,Option.some.injEq,go_sem,zb,seval,reduceIte,reduceCtorEq]
def few(l:List Tok):Bool:=decide (l.length≤100∧∀i,i<l.length→(l.getD i .zero).text.size≤100)
theorem zvr(l:List Tok):zf Tryz.prog 61 [zi l] (vb (few l)):=by
 refine zf.of (Orc.nil _) zuL (by simp[c61]) fun w0 own0=> ?_
 simp only[c61,zi,go_sem,zb,seval,reduceIte,reduceCtorEq]
 refine zQ.lp (α:=Nat) (fun k=>[(0,.slc 3 (l.map Tok.enc)),(3,vi k)]) (fun _=>⟨[],0⟩) (fun k=>k≤l.length∧k≤101∧∀i,i<k→(l.getD i .zero).text.size≤100) (fun k=>l.length - k) 0 (by simp) (St.mk (by simp[zu,zr,zv])) fun k hk=> ?_
 simp only[Tok.enc,go_sem,zb,seval,reduceIte,reduceCtorEq]
 refine⟨fun h=>⟨by grind,fun h2=> ?_,fun h2=>⟨by grind,k+1,by grind⟩⟩,fun h=> ?_⟩
 ·have h5:¬ ∀i,i<l.length→(l.getD i .zero).text.size≤100:=fun hh=>by have:=hh k (by grind);omega
  simp only[few,h5,and_false,decide_false]
 ·unfold few
  grind
def Z7(l:List Tok)(st:List Int)(k:Nat):List Int:=
 if ¬zC (l.getD k .zero)=⟨#[]⟩then st++ [(k:Int)]
 else if(l.getD k .zero).kind=13∧0<st.length∧zC (l.getD (st.getD (st.length - 1) 0).toNat .zero)=(l.getD k .zero).text then st.take (st.length - 1)else st
def opn(l:List Tok):Nat→List Int
 |0=>[]
 |k+1=>Z7 l (opn l k) k
theorem qN(l:List Tok):∀k,∀x∈opn l k,0≤x∧x<k
 |0,x,hx=>by simp[opn]at hx
 |k+1,x,hx=>by
  have ih:=qN l k x
  simp only[opn,Z7]at hx
  split at hx
  ·simp only[List.mem_append,List.mem_singleton]at hx;grind
  ·split at hx
   ·have:=ih (List.mem_of_mem_take hx);omega
   ·have:=ih hx;omega
theorem zhB(l:List Tok):∀k,(opn l k).length≤k
 |0=>Nat.le_refl _
 |k+1=>by
  have ih:=zhB l k
  simp only[opn,Z7]
  split
  ·simp;omega
  ·split
   ·simp;omega
   ·omega
structure OpS where
 k:Nat
 es:List Int
 ver:Nat
 clk:Nat
def Z4(l:List Tok)(k j:Nat):Prop:=(opn l (j+1)).length<(opn l (k+1)).length∨¬(opn l (j+1)).getD ((opn l (k+1)).length - 1) 0=k
instance (l:List Tok) (k j:Nat):Decidable (Z4 l k j):=by unfold Z4;infer_instance
def fe(l:List Tok)(k:Nat):Nat→Nat→Int
 |0,_=>l.length
 |f+1,j=>if Z4 l k j then j else fe l k f (j+1)
def Y8(l:List Tok)(k:Nat):Int:=if zC (l.getD k .zero)=⟨#[]⟩then -1 else fe l k (l.length - (k+1)) (k+1)
def Qv(l:List Tok)(m:Nat):List Int:=(List.range m).map (Y8 l)
theorem jB(l:List Tok)(m:Nat):(Qv l m).length=m:=by simp[Qv]
def yS(l:List Tok):Bool:=decide (∃i,i<l.length∧64<(opn l (i+1)).length)
def zhm(l:List Tok):V:=bif yS l then .tup [zD,vi 3]else .tup [zO (Qv l l.length),vi 0]
theorem zhr(l:List Tok)(k j:Nat)(h:j<l.length):fe l k (l.length - j) j=if Z4 l k j then(j:Int)else fe l k (l.length - (j+1)) (j+1):=by
 have:l.length - j=(l.length - (j+1))+1:=by omega
 rw[this]
 rfl
theorem zgG(k:Nat):((k:Int)+1).toNat=k+1:=by omega
structure KVC where
 k:Nat
 ver:Nat
 clk:Nat
def Kh(l:List Tok)(st:List Int)(k:Nat):Prop:=zC (l.getD k .zero)=⟨#[]⟩∧(l.getD k .zero).kind=13∧0<st.length∧zC (l.getD (st.getD (st.length - 1) 0).toNat .zero)=(l.getD k .zero).text
instance (l:List Tok) (st:List Int) (k:Nat):Decidable (Kh l st k):=by unfold Kh;infer_instance
def Zv(l:List Tok):Nat→List Int
 |0=>List.replicate l.length 0
 |m+1=>if Kh l (opn l m) m then((Zv l m).set m (-1)).set ((opn l m).getD ((opn l m).length - 1) 0).toNat m else(Zv l m).set m (-1)
def JT(l:List Tok)(i:Nat):List Int:=((opn l l.length).take i).foldl (fun o x=>o.set x.toNat l.length) (Zv l l.length)
def zdo(l:List Tok):V:=bif yS l then .tup [zD,vi 3]else .tup [zO (JT l (opn l l.length).length),vi 0]
def YA:Sum Tryz.prog:=⟨123,fun args=>args= [.agg (Yg (args.getD 0 .any)).enc],fun args=>vs (zC (Yg (args.getD 0 .any))),fun args h=>by
 have:=zmV (Yg (args.getD 0 .any));rwa [←h]at this,true⟩
theorem zgp:YA.f=123:=rfl
theorem zgo(args:List V):YA.D args=(args= [.agg (Yg (args.getD 0 .any)).enc]):=rfl
theorem zad:YA.flat=true:=rfl
theorem zgq(args:List V):YA.r args=vs (zC (Yg (args.getD 0 .any))):=rfl
structure EnS where
 m:Nat
 es:List Int
 vo:Nat
 ve:Nat
 clk:Nat
theorem Yo(l:List Tok):∀m,(Zv l m).length=l.length
 |0=>by simp[Zv]
 |m+1=>by
  have:=Yo l m
  simp only[Zv]
  split<;>simp[this]
theorem za6{t:Tok}(h:¬zC t=⟨#[]⟩):¬t.kind=13:=by
 intro hk
 apply h
 simp[zC,hk]
theorem Yt(l:List Int)(i:Nat)(v:Int):(l.map fun n=>[vi n]).set i [V.c (Value.int IntKind.i64 v)]=(l.set i v).map fun n=>[vi n]:=by
 rw[List.map_set]
theorem zdr(l:List Tok)(hl:l.length≤1000000):zf Tryz.prog 97 [zi l] (zdo l):=by
 refine zf.of (Orc.cons YA (Orc.nil _)) zu4 (by simp[c97]) fun w0 own0=> ?_
 simp only[c97,zO,zi,go_sem,zb,seval,reduceIte,reduceCtorEq]
 refine zQ.lab (α:=EnS) 0 (fun a=>[(0,.slc 3 (l.map Tok.enc)),(4,.ref 0 a.vo 0 l.length),(5,.ref 1 a.ve 0 (opn l a.m).length),(6,vi a.m)])
  (fun a=>⟨[⟨a.vo,1,(Zv l a.m).map fun n=>[vi n],false,[vi 0]⟩,⟨a.ve,1,a.es.map fun n=>[vi n],false,[vi 0]⟩],a.clk⟩)
  (fun a=>a.m≤l.length∧a.es.take (opn l a.m).length=opn l a.m∧(opn l a.m).length≤a.es.length∧∀i,i<a.m→(opn l (i+1)).length≤64) (fun a=>l.length - a.m) rfl ?_ fun a ha=> ?_
 ·simp only[go_sem,zb,seval,reduceIte,reduceCtorEq]
  refine⟨⟨by omega,by omega,by first|omega|(simp;omega)⟩,⟨0,[],0,1,2⟩,by simp[opn],St.nil 5 1 [vi 0] (by simp[zr]) (St.cut ?_ ?_ ?_)⟩
  ·simp[zu,zr,zv,opn]
  ·simp[Heap.alloc,Zv]
  ·simp[Heap.alloc]
 ·obtain⟨m,es,vo,ve,clk⟩:=a
  simp only[Tok.enc,zgp,zgo,zad,zgq,zi,zO,zgG,go_sem,zb,seval,reduceIte,reduceCtorEq]
  simp only at ha
  obtain⟨h1,h2,h3,h4⟩:=ha
  have hol:=Yo l m
  have hm:=qN l m
  have hlen:=zhB l m
  have hnext:opn l (m+1)=Z7 l (opn l m) m:=rfl
  have hN:((((opn l m).length:Nat):Int) - 1).toNat=(opn l m).length - 1:=by omega
  unfold Z7 at hnext
  refine⟨fun h=> ?_,fun h=>⟨by omega,by omega,by omega,fun hc=> ?_,fun hc=> ?_⟩⟩
  ·have e:m=l.length:=by omega
   subst e
   refine zQ.lp (α:=Nat) (fun i=>[(0,.slc 3 (l.map Tok.enc)),(4,.ref 0 vo 0 l.length),(18,.ref 1 ve 0 (opn l l.length).length),(19,vi (opn l l.length).length),(20,vi i)])
    (fun i=>⟨[⟨vo,1,(JT l i).map fun n=>[vi n],false,[vi 0]⟩,⟨ve,1,es.map fun n=>[vi n],false,[vi 0]⟩],clk⟩)
    (fun i=>i≤(opn l l.length).length) (fun i=>(opn l l.length).length - i) 0 (by simp) (St.cut ?_ ?_ ?_) fun i hi=> ?_
   ·simp only[go_sem,zb,seval,reduceIte,reduceCtorEq]
   ·simp[JT]
   ·rfl
   ·simp only[go_sem,zb,seval,reduceIte,reduceCtorEq]
    have hfl:∀i,(JT l i).length=l.length:=by
     intro i
     have key:∀(t:List Int)(o:List Int),(t.foldl (fun o x=>o.set x.toNat l.length) o).length=o.length:=by
      intro t
      induction t with
      |nil=>intro o;rfl
      |cons x t ih=>intro o;simp only[List.foldl_cons];rw[ih];simp
     simp only[JT]
     rw[key,hol]
    have hget:∀i,i<(opn l l.length).length→es.getD i 0=(opn l l.length).getD i 0:=fun i h=>by
     generalize opn l l.length=st at*
     have e1:st.getD i 0=(es.take st.length).getD i 0:=by rw[h2]
     rw[e1,List.getD_eq_getElem?_getD,List.getD_eq_getElem?_getD,List.getElem?_take,if_pos (by omega)]
    have hin:∀i,i<(opn l l.length).length→0≤es.getD i 0∧es.getD i 0<l.length:=fun i h=>by
     rw[hget i h,List.getD_eq_getElem?_getD,List.getElem?_eq_getElem h]
     exact hm _ (List.getElem_mem _)
    refine⟨fun hlt=> ?_,fun hge=> ?_⟩
    ·have hi':i<(opn l l.length).length:=by omega
     have:=hin i hi'
     refine⟨by omega,by omega,this,by rw[hfl];omega,by omega,i+1,by omega,by omega,by omega,?_⟩
     rw[Yt]
     congr 1
     simp only[JT]
     rw[List.take_add_one,List.foldl_append,List.getElem?_eq_getElem hi',hget i hi',List.getD_eq_getElem?_getD,List.getElem?_eq_getElem hi']
     rfl
    ·have e:i=(opn l l.length).length:=by omega
     subst e
     have hd:yS l=false:=by
      simp only[yS,decide_eq_false_iff_not]
      rintro⟨i,h1,h2⟩
      have:=h4 i h1
      omega
     rw[hfl,if_pos (Nat.le_refl _),List.take_of_length_le (by rw[hfl];exact Nat.le_refl _)]
     simp only[zdo,hd,Option.map_some]
     rfl
  ·have hk:=za6 hc
   simp only[hk,false_and,and_false,false_implies,true_and,not_false_eq_true,or_true,true_or,forall_const]
   rw[if_pos hc]at hnext
   have hnp:¬Kh l (opn l m) m:=fun hp=>hc hp.1
   have hno:Zv l (m+1)=(Zv l m).set m (-1):=by simp only[Zv,if_neg hnp]
   refine⟨by omega,fun h64=> ?_,fun h64=>⟨by omega,⟨m+1,es.take (opn l m).length++ [(m:Int)],vo,clk+1+1,clk+1+1+1⟩,?_⟩⟩
   ·have:yS l=true:=by
     simp only[yS,decide_eq_true_eq]
     exact⟨m,by omega,by rw[hnext];simp;omega⟩
    simp only[zdo,this];rfl
   ·simp only[hnext,hno,Yt,h2,List.map_append,List.map_cons,List.map_nil,List.length_append,List.length_cons,List.length_nil]
    refine⟨⟨by omega,List.take_of_length_le (by simp),by omega,fun i hi=> ?_⟩,by omega,⟨trivial,⟨trivial,by first|trivial|omega⟩,by first|trivial|omega⟩,by simp⟩
    by_cases e:i<m
    ·exact h4 i e
    ·have:i=m:=by omega
     subst this
     rw[hnext];simp;omega
  ·rw[hN]
   rw[if_neg (by simpa using hc)]at hnext
   have h0:(opn l m).length≤64:=by
    by_cases e:m=0
    ·subst e;simp[opn]
    ·have:=h4 (m - 1) (by omega)
     rwa [show m - 1+1=m by omega]at this
   have hget:0<(opn l m).length→es.getD ((opn l m).length - 1) 0=(opn l m).getD ((opn l m).length - 1) 0:=fun h=>by
    generalize opn l m=st at*
    have e1:st.getD (st.length - 1) 0=(es.take st.length).getD (st.length - 1) 0:=by rw[h2]
    rw[e1,List.getD_eq_getElem?_getD,List.getD_eq_getElem?_getD,List.getElem?_take,if_pos (by omega)]
   have hlast:0<(opn l m).length→0≤es.getD ((opn l m).length - 1) 0∧es.getD ((opn l m).length - 1) 0<m:=fun h=>by
    rw[hget h,List.getD_eq_getElem?_getD,List.getElem?_eq_getElem (by omega)]
    exact hm _ (List.getElem_mem _)
   refine⟨by omega,by omega,by omega,by grind,fun hp=> ?_,fun hp=>⟨by omega,⟨m+1,es,vo,ve,clk+1⟩,?_⟩⟩
   ·have hp0:0<(opn l m).length:=by have:=hp.1.2;omega
    have hpp:Kh l (opn l m) m:=⟨hc,hp.1.1,hp0,by rw[←hget hp0];exact hp.2⟩
    have hno:Zv l (m+1)=((Zv l m).set m (-1)).set (es.getD ((opn l m).length - 1) 0).toNat m:=by simp only[Zv,if_pos hpp,hget hp0]
    rw[if_pos ⟨hpp.2.1,hpp.2.2.1,hpp.2.2.2⟩]at hnext
    refine⟨by omega,by omega,by omega,by have:=hlast hp0;omega,?_,by omega,by omega,by omega,⟨m+1,es,vo,ve,clk+1⟩,?_⟩
    ·simp only[Yt,decide_eq_true_eq,List.length_map,List.length_set,hol];have:=hlast hp0;omega
    ·have e4:List.take ((opn l m).length - 1) es=List.take ((opn l m).length - 1) (opn l m):=by
      generalize opn l m=st at*
      have e3:(es.take st.length).take (st.length - 1)=es.take (st.length - 1):=by rw[List.take_take];congr 1;omega
      rw[←e3,h2]
     have e5:(List.take ((opn l m).length - 1) (opn l m)).length=(opn l m).length - 1:=by simp
     simp only[hnext,hno,Yt,qS,List.drop_succ_cons,List.drop_nil,List.drop_zero,e5,e4]
     refine⟨⟨by omega,trivial,by omega,fun i hi=> ?_⟩,by omega,⟨trivial,⟨trivial,by omega⟩,by omega⟩,by simp⟩
     by_cases e:i<m
     ·exact h4 i e
     ·have:i=m:=by omega
      subst this
      rw[hnext,e5];omega
   ·have hnp:¬Kh l (opn l m) m:=by
     rintro⟨_,q1,q2,q3⟩
     rcases hp with(hp|hp)|hp
     ·exact hp q1
     ·omega
     ·rw[hget q2]at hp;exact hp q3
    have hno:Zv l (m+1)=(Zv l m).set m (-1):=by simp only[Zv,if_neg hnp]
    rw[if_neg (fun hh=>hnp ⟨hc,hh⟩)]at hnext
    simp only[hnext,hno,Yt]
    refine⟨⟨by omega,h2,h3,fun i hi=> ?_⟩,by omega,⟨trivial,⟨trivial,trivial⟩,by omega⟩,by simp⟩
    by_cases e:i<m
    ·exact h4 i e
    ·have:i=m:=by omega
     subst this
     rw[hnext];omega
end Go.Proofs.YtjcmoedalneldaaGreat
