/- Part of the proof of CascadeWins. No condition. -/
import Derived.Test.YtjcmoedalneldaaGreatCd
import Derived.Test.YtjcmoedalneldaaGreatE4
namespace Go.Sx
def C.hd:C→C
 | .seq a _=>a
 |c=>c
def C.tl:C→C
 | .seq _ b=>b
 |c=>c
def C.inn:C→C
 | .block _ c=>c
 | .loop c=>c
 |c=>c
end Go.Sx
namespace Go.Proofs.YtjcmoedalneldaaGreat
open Go.Sx
set_option linter.unusedSimpArgs false
set_option linter.unusedVariables false
set_option maxHeartbeats 8000000
set_option maxRecDepth 100000
def zyx:List V:=[vi 0,vs ⟨#[]⟩,vs ⟨#[]⟩,zz,zz,vs ⟨#[]⟩]
def zqr(l:List Node)(i:Nat):V:=((l.map Node.enc).getD i zyx).getD 3 .any
def zpV(l:List Node)(i:Nat):V:=((l.map Node.enc).getD i zyx).getD 4 .any
theorem zdK(l:List Node)(i:Nat):(l.map Node.enc).getD i [.c (.int .i64 0),.c (.string ⟨#[]⟩),.c (.string ⟨#[]⟩),.c (.slice none 0 0),.c (.slice none 0 0),.c (.string ⟨#[]⟩)]=
  [vi (l.getD i .zero).parent,vs (l.getD i .zero).type,vs (l.getD i .zero).id,zqr l i,zpV l i,vs (l.getD i .zero).text]:=by
 by_cases h:i<l.length
 ·unfold zqr zpV
  rw[yr l i _ h,yr l i _ h]
  rfl
 ·have h1:(l.map Node.enc)[i]? =none:=List.getElem?_eq_none (by simpa using h)
  have h2:l[i]? =none:=List.getElem?_eq_none (by omega)
  simp only[zqr,zpV,List.getD_eq_getElem?_getD,h1,h2]
  rfl
theorem zwg(l:List Node)(i:Nat)(h:i<l.length):zqr l i= .slc 1 ((l.getD i .zero).cls.map fun s=>[vs s]):=by
 unfold zqr;rw[yr l i _ h];rfl
theorem zu9(l:List Node)(i:Nat)(h:i<l.length):zpV l i= .slc 2 ((l.getD i .zero).attrs.map fun p=>[vs p.1,vs p.2]):=by
 unfold zpV;rw[yr l i _ h];rfl
def fst(p:Nat→Bool):Nat→Nat→Int
 |0,_=> -1
 |f+1,k=>if p k=true then k else fst p f (k+1)
theorem kO(p:Nat→Bool):∀(f k:Nat),(fst p f k= -1∧∀i,k≤i→i<k+f→p i=false)∨∃m:Nat,fst p f k=m∧k≤m∧m<k+f∧p m=true∧∀i,k≤i→i<m→p i=false
 |0,k=>.inl ⟨rfl,fun i h1 h2=>by omega⟩
 |f+1,k=>by
  simp only[fst]
  by_cases h:p k=true
  ·rw[if_pos h];exact .inr ⟨k,rfl,Nat.le_refl _,by omega,h,fun i h1 h2=>by omega⟩
  ·rw[if_neg h]
   have h':p k=false:=by simpa using h
   rcases kO p f (k+1)with⟨h1,h2⟩|⟨m,h1,h2,h3,h4,h5⟩
   ·refine .inl ⟨h1,fun i hi1 hi2=> ?_⟩
    by_cases e:i=k
    ·subst e;exact h'
    ·exact h2 i (by omega) (by omega)
   ·refine .inr ⟨m,h1,by omega,by omega,h4,fun i hi1 hi2=> ?_⟩
    by_cases e:i=k
    ·subst e;exact h'
    ·exact h5 i (by omega) hi2
theorem kP(p:Nat→Bool)(n k:Nat)(h:k<n):fst p (n - k) k=if p k=true then(k:Int)else fst p (n - (k+1)) (k+1):=by
 obtain⟨f,hf⟩:∃f,n - k=f+1:=⟨n - k - 1,by omega⟩
 rw[hf,show n - (k+1)=f by omega];rfl
theorem ZT(p:Nat→Bool)(n:Nat):fst p (n - n) n= -1:=by rw[Nat.sub_self];rfl
def ixI(l:List Int)(x:Int):Int:=fst (fun i=>decide (x=l.getD i 0)) (l.length - 0) 0
theorem zwQ(l:List Int)(x:Int):0≤ixI l x↔x∈l:=by
 unfold ixI
 rcases kO (fun i=>decide (x=l.getD i 0)) (l.length - 0) 0 with⟨h1,h2⟩|⟨m,h1,h2,h3,h4,h5⟩
 ·rw[h1]
  refine⟨fun h=>by omega,fun h=> ?_⟩
  obtain⟨i,hi,rfl⟩:=List.getElem_of_mem h
  have:=h2 i (by omega) (by omega)
  simp[List.getD_eq_getElem?_getD,hi]at this
 ·rw[h1]
  refine⟨fun _=> ?_,fun _=>by omega⟩
  simp only[decide_eq_true_eq]at h4
  rw[h4,List.getD_eq_getElem?_getD,List.getElem?_eq_getElem (by omega)]
  exact List.getElem_mem _
theorem zAL(l:List Int)(x:Int)(hl:l.length≤1000000):zf Tryz.prog 153 [zD l,vi x] (vi (ixI l x)):=by
 refine zf.of (Orc.nil _) zvP (by simp[zy5]) fun w0 own0=> ?_
 simp only[zy5,zD,go_sem,zc,seval,reduceIte,reduceCtorEq]
 refine zC.lp (α:=Nat) (fun k=>[(0,.slc 1 (l.map fun n=>[vi n])),(1,vi x),(7,vi l.length),(8,vi k)]) (fun _=>⟨[],0⟩)
  (fun k=>k≤l.length∧fst (fun i=>decide (x=l.getD i 0)) (l.length - k) k=ixI l x) (fun k=>l.length - k) 0 ⟨Nat.zero_le _,rfl⟩ (St.mk (by simp[zu,zj,zq])) fun k hk=> ?_
 obtain⟨h1,h2⟩:=hk
 by_cases hkl:k=l.length
 ·subst hkl
  rw[ZT]at h2
  simp only[Int.lt_irrefl,←h2,go_sem,zc,seval,reduceIte,reduceCtorEq]
 ·have e1:(k:Int)<(l.length:Int):=by omega
  rw[kP _ _ _ (by omega)]at h2
  simp only[decide_eq_true_eq]at h2
  simp only[e1,go_sem,zc,seval,reduceIte,reduceCtorEq]
  refine⟨by omega,fun h=>by rw[if_pos h]at h2;exact h2,fun h=>⟨by omega,k+1,⟨by omega,by rw[if_neg h]at h2;exact h2⟩,by omega,by omega⟩⟩
def zbJ:Sum Tryz.prog:=⟨153,fun args=>args= [zD (zJ (args.getD 0 .any)),vi ((args.getD 1 .any).int)]∧((zJ (args.getD 0 .any))).length≤1000000,fun args=>vi (ixI (zJ (args.getD 0 .any)) ((args.getD 1 .any).int)),fun args h=>by
 have:=zAL (zJ (args.getD 0 .any)) ((args.getD 1 .any).int) h.2;rwa [←h.1]at this,true⟩
theorem zsV:zbJ.f=153:=rfl
theorem zsU(args:List V):zbJ.D args=(args= [zD (zJ (args.getD 0 .any)),vi ((args.getD 1 .any).int)]∧((zJ (args.getD 0 .any))).length≤1000000):=rfl
theorem zgZ:zbJ.flat=true:=rfl
theorem zsW(args:List V):zbJ.r args=vi (ixI (zJ (args.getD 0 .any)) ((args.getD 1 .any).int)):=rfl
attribute [go_sem] zsV zsU zgZ zsW
theorem zwj(l:List Int)(x:Int)(hl:l.length≤1000000):zf Tryz.prog 122 [zD l,vi x] (vb (decide (x∈l))):=by
 refine zf.of (Orc.cons zbJ (Orc.nil _)) zvx (by simp[zyU]) fun w0 own0=> ?_
 simp only[zyU,zD,zwQ,go_sem,zc,seval,reduceIte,reduceCtorEq]
 exact hl
def Xd:Sum Tryz.prog:=⟨122,fun args=>args= [zD (zJ (args.getD 0 .any)),vi ((args.getD 1 .any).int)]∧((zJ (args.getD 0 .any))).length≤1000000,fun args=>vb (decide (((args.getD 1 .any).int)∈(zJ (args.getD 0 .any)))),fun args h=>by
 have:=zwj (zJ (args.getD 0 .any)) ((args.getD 1 .any).int) h.2;rwa [←h.1]at this,true⟩
theorem znz:Xd.f=122:=rfl
theorem zny(args:List V):Xd.D args=(args= [zD (zJ (args.getD 0 .any)),vi ((args.getD 1 .any).int)]∧((zJ (args.getD 0 .any))).length≤1000000):=rfl
theorem zec:Xd.flat=true:=rfl
theorem znA(args:List V):Xd.r args=vb (decide (((args.getD 1 .any).int)∈(zJ (args.getD 0 .any)))):=rfl
attribute [go_sem] znz zny zec znA
def par(l:List Node)(k:Nat):Int:=(l.getD k .zero).parent
def clb(l:List Node)(of:Int):Nat→Int→Int
 |0,k=>k
 |f+1,k=>if of<k∧(l.getD k.toNat .zero).parent<k then clb l of f (l.getD k.toNat .zero).parent else k
def inN(l:List Node)(k:Int)(of:Int):Bool:=decide (clb l of k.toNat k=of)
structure InS where
 k:Int
 f:Nat
theorem zBX(l:List Node)(k of:Int)(h0:0≤of)(hk:k<l.length)(hl:l.length≤1000000):zf Tryz.prog 102 [zp l,vi k,vi of] (vb (inN l k of)):=by
 refine zf.of (Orc.nil _) zvk (by simp[zyJ]) fun w0 own0=> ?_
 simp only[zyJ,zp,go_sem,zc,seval,reduceIte,reduceCtorEq]
 unfold inN
 generalize hR:clb l of k.toNat k=R
 refine zC.lp (α:=InS) (fun a=>[(0,.slc 6 (l.map Node.enc)),(1,vi a.k),(2,vi of)]) (fun _=>⟨[],0⟩)
  (fun a=>a.k<l.length∧a.k.toNat≤a.f∧clb l of a.f a.k=R) (fun a=>a.k.toNat) ⟨k,k.toNat⟩ ⟨hk,Nat.le_refl _,hR⟩ (St.mk (by simp[zu,zj,zq])) fun a ha=> ?_
 obtain⟨k,f⟩:=a
 simp only at ha
 obtain⟨h1,h2,h3⟩:=ha
 simp only[zdK,go_sem,zc,seval,reduceIte,reduceCtorEq]
 generalize hP:(l.getD k.toNat .zero).parent=p at*
 cases f with
 |zero=>
  simp only[clb]at h3
  subst h3
  exact⟨fun h=>by omega,fun h=>by omega,fun _=>rfl⟩
 |succ f=>
  simp only[clb,hP]at h3
  refine⟨fun h=>by omega,fun h=>⟨by omega,⟨p,f⟩,⟨by dsimp only;omega,by dsimp only;omega,by rw[if_pos h]at h3;exact h3⟩,by dsimp only;omega,rfl⟩,fun h=> ?_⟩
  rw[if_neg (by omega)]at h3
  rw[h3]
def zfU(n:Node):Bool:=decide (n.type=⟨#[]⟩∧(n.id≠⟨#[]⟩∨0<n.cls.length∨0<n.attrs.length))
def za5(n:Node)(o:List Int)(l:List Node):Bool:=if o= []then decide (n.parent= -1∧n.type≠⟨#[]⟩)else if zfU n=true then false else decide (n.parent∈o∧(l.getD n.parent.toNat .zero).type≠⟨#[]⟩)
theorem za4(n:Node):(n.type=⟨#[]⟩∧((¬n.id=⟨#[]⟩∨0<(n.cls.length:Int))∨0<(n.attrs.length:Int)))↔zfU n=true:=by
 simp only[zfU,decide_eq_true_eq,ne_eq]
 constructor
 ·rintro⟨h,(h1|h1)|h1⟩
  ·exact⟨h,.inl h1⟩
  ·exact⟨h,.inr (.inl (by omega))⟩
  ·exact⟨h,.inr (.inr (by omega))⟩
 ·rintro⟨h,h1|h1|h1⟩
  ·exact⟨h,.inl (.inl h1)⟩
  ·exact⟨h,.inl (.inr (by omega))⟩
  ·exact⟨h,.inr (by omega)⟩
theorem zfV(n:Node)(h:¬n.type=⟨#[]⟩∨(n.id=⟨#[]⟩∧¬0<(n.cls.length:Int))∧¬0<(n.attrs.length:Int)):¬zfU n=true:=by
 rw[←za4]
 rintro⟨a,(b|b)|b⟩
 ·rcases h with h|h
  ·exact h a
  ·exact b h.1.1
 ·rcases h with h|h
  ·exact h a
  ·exact h.1.2 b
 ·rcases h with h|h
  ·exact h a
  ·exact h.2 b
theorem zAR(n:Node)(o:List Int)(l:List Node)(hl:o.length≤1000000)(ho:∀x∈o,0≤x∧x<l.length):zf Tryz.prog 96 [.agg n.enc,zD o,zp l] (vb (za5 n o l)):=by
 refine zf.of (Orc.cons Xd (Orc.nil _)) zAd (by simp[c96]) fun w0 own0=> ?_
 simp only[c96,zp,zD,Node.enc,zdK,go_sem,zc,seval,reduceIte,reduceCtorEq]
 have ho0:(o.length:Int)=0↔o= []:=by rw[←List.length_eq_zero_iff];omega
 by_cases h0:o= []
 ·subst h0
  refine⟨fun _=> ?_,fun h=>absurd rfl h⟩
  simp[za5]
 ·rw[ho0]
  simp only[za5,if_neg h0]
  refine⟨fun h=>absurd h h0,fun _=>⟨fun h=>by grind,fun h=>by grind,fun h=> ?_,fun h=>⟨hl,fun hp=>⟨hp,ho _ hp⟩,?_⟩⟩⟩
  ·rw[if_pos ((za4 n).1 h)]
  ·rw[if_neg (zfV n h)]
   simp
def zgP:Sum Tryz.prog:=⟨102,fun args=>args= [zp (zk (args.getD 0 .any)),vi ((args.getD 1 .any).int),vi ((args.getD 2 .any).int)]∧0≤((args.getD 2 .any).int)∧((args.getD 1 .any).int)<((zk (args.getD 0 .any))).length∧((zk (args.getD 0 .any))).length≤1000000,fun args=>vb (inN (zk (args.getD 0 .any)) ((args.getD 1 .any).int) ((args.getD 2 .any).int)),fun args h=>by
 have:=zBX (zk (args.getD 0 .any)) ((args.getD 1 .any).int) ((args.getD 2 .any).int) h.2.1 h.2.2.1 h.2.2.2;rwa [←h.1]at this,true⟩
theorem zxE:zgP.f=102:=rfl
theorem zxD(args:List V):zgP.D args=(args= [zp (zk (args.getD 0 .any)),vi ((args.getD 1 .any).int),vi ((args.getD 2 .any).int)]∧0≤((args.getD 2 .any).int)∧((args.getD 1 .any).int)<((zk (args.getD 0 .any))).length∧((zk (args.getD 0 .any))).length≤1000000):=rfl
theorem zjn:zgP.flat=true:=rfl
theorem zxF(args:List V):zgP.r args=vb (inN (zk (args.getD 0 .any)) ((args.getD 1 .any).int) ((args.getD 2 .any).int)):=rfl
attribute [go_sem] zxE zxD zjn zxF
def zBR(l:List Node)(k:Int):Prop:=0≤k∧k<l.length∧l.length≤1000000
def zCb(o:List Int)(l:List Node):Prop:=o.length≤1000000∧∀x∈o,0≤x∧x<l.length
def zbN:Sum Tryz.prog:=⟨96,fun args=>args= [.agg (Node.enc (zE (args.getD 0 .any))),zD (zJ (args.getD 1 .any)),zp (zk (args.getD 2 .any))]∧zCb (zJ (args.getD 1 .any)) (zk (args.getD 2 .any)),fun args=>vb (za5 (zE (args.getD 0 .any)) (zJ (args.getD 1 .any)) (zk (args.getD 2 .any))),fun args h=>by
 have:=zAR (zE (args.getD 0 .any)) (zJ (args.getD 1 .any)) (zk (args.getD 2 .any)) h.2.1 h.2.2;rwa [←h.1]at this,true⟩
theorem ztj:zbN.f=96:=rfl
theorem zti(args:List V):zbN.D args=(args= [.agg (Node.enc (zE (args.getD 0 .any))),zD (zJ (args.getD 1 .any)),zp (zk (args.getD 2 .any))]∧zCb (zJ (args.getD 1 .any)) (zk (args.getD 2 .any))):=rfl
theorem zg7:zbN.flat=true:=rfl
theorem ztk(args:List V):zbN.r args=vb (za5 (zE (args.getD 0 .any)) (zJ (args.getD 1 .any)) (zk (args.getD 2 .any))):=rfl
attribute [go_sem] ztj zti zg7 ztk
def qH(l:List Node)(k:Nat):Bool:=if k=0 then decide ((l.getD k .zero).parent= -1∧(l.getD k .zero).type≠⟨#[]⟩)else if zfU (l.getD k .zero)=true then false
 else decide (0≤par l k∧par l k<k∧inN l (k - 1) (par l k)=true∧(l.getD (par l k).toNat .zero).type≠⟨#[]⟩)
theorem zr7(l:List Node)(k:Nat)(hk:k<l.length)(hl:l.length≤1000000):zf Tryz.prog 70 [zp l,vi k] (vb (qH l k)):=by
 refine zf.of (Orc.cons zgP (Orc.nil _)) zzV (by simp[c70]) fun w0 own0=> ?_
 have hc:=zwg l k hk
 have ha:=zu9 l k hk
 simp only[c70,zp,zo,Node.enc,zdK,hc,ha,go_sem,zc,seval,reduceIte,reduceCtorEq]
 by_cases h0:k=0
 ·subst h0
  refine⟨by omega,fun _=>by simp[qH],fun h=>absurd rfl h⟩
 ·simp only[qH,if_neg h0]
  refine⟨by omega,fun h=>by omega,fun _=>⟨fun h=>by grind,fun h=>by grind,fun h=> ?_,fun h=>⟨fun hp=>⟨hp,by omega,by omega⟩,fun hp=>⟨hp,hp.1,by omega,hl⟩,fun hp=>⟨hp,hp.1.1,by omega⟩,?_⟩⟩⟩
  ·rw[if_pos ((za4 _).1 h)]
  ·rw[if_neg (zfV _ h)]
   simp[par,Bool.and_assoc]
def QV:Sum Tryz.prog:=⟨70,fun args=>args= [zp (zk (args.getD 0 .any)),vi ((args.getD 1 .any).int)]∧zBR (zk (args.getD 0 .any)) ((args.getD 1 .any).int),fun args=>vb (qH (zk (args.getD 0 .any)) (((args.getD 1 .any).int)).toNat),fun args h=>by
 have:=(by have h1:=h.2;have h2:=zr7 (zk (args.getD 0 .any)) (((args.getD 1 .any).int)).toNat (by have:=h1.1;have:=h1.2.1;omega) h1.2.2;rw[Int.toNat_of_nonneg h1.1]at h2;exact h2:zf Tryz.prog 70 [zp (zk (args.getD 0 .any)),vi ((args.getD 1 .any).int)] (vb (qH (zk (args.getD 0 .any)) (((args.getD 1 .any).int)).toNat)));rwa [←h.1]at this,true⟩
theorem zjG:QV.f=70:=rfl
theorem zjF(args:List V):QV.D args=(args= [zp (zk (args.getD 0 .any)),vi ((args.getD 1 .any).int)]∧zBR (zk (args.getD 0 .any)) ((args.getD 1 .any).int)):=rfl
theorem zcv:QV.flat=true:=rfl
theorem zjH(args:List V):QV.r args=vb (qH (zk (args.getD 0 .any)) (((args.getD 1 .any).int)).toNat):=rfl
attribute [go_sem] zjG zjF zcv zjH
def KR(l:List Node):Int:=fst (fun k=> !qH l k) (l.length - 0) 0
def qe(l:List Node)(b:Int):V:=.tup [vi (if 0≤b then b else 0),vi (if 0≤b∨l.length=0 then 5 else 0)]
theorem zfe(l:List Node)(h:¬l.length=0):V.tup [V.c (Value.int IntKind.i64 0),V.c (Value.int IntKind.i64 0)]=qe l (-1):=by
 simp only[qe];rw[if_neg (by omega),if_neg (by omega)]
theorem zcM(l:List Node)(h:l.length=0):V.tup [V.c (Value.int IntKind.i64 0),V.c (Value.int IntKind.i64 5)]=qe l (-1):=by
 simp only[qe];rw[if_neg (by omega),if_pos (by omega)]
theorem zcL(l:List Node)(k:Nat):V.tup [V.c (Value.int IntKind.i64 k),V.c (Value.int IntKind.i64 5)]=qe l k:=by
 simp only[qe];rw[if_pos (by omega),if_pos (by omega)]
theorem zwb(l:List Node)(hl:l.length≤1000):zf Tryz.prog 38 [zp l] (qe l (KR l)):=by
 refine zf.of (Orc.cons QV (Orc.nil _)) zzw (by simp[c38]) fun w0 own0=> ?_
 have e0:¬(4096:Int)<(l.length:Int):=by omega
 simp only[c38,zp,e0,go_sem,zc,seval,reduceIte,reduceCtorEq]
 unfold KR
 generalize hR:fst (fun k=> !qH l k) (l.length - 0) 0=R
 refine zC.lp (α:=Nat) (fun a=>[(0,.slc 6 (l.map Node.enc)),(4,vi a)]) (fun _=>⟨[],0⟩)
  (fun a=>a≤l.length∧fst (fun k=> !qH l k) (l.length - a) a=R) (fun a=>l.length - a) 0 ⟨by omega,hR⟩ (St.mk (by simp[zu,zj,zq])) fun a ha=> ?_
 obtain⟨h1,h2⟩:=ha
 by_cases hal:a=l.length
 ·subst hal
  rw[ZT]at h2
  subst h2
  simp only[Int.lt_irrefl,go_sem,zc,seval,reduceIte,reduceCtorEq]
  exact⟨fun h=>zcM l (by omega),fun h=>zfe l (by omega)⟩
 ·have e1:(a:Int)<(l.length:Int):=by omega
  rw[kP _ _ _ (by omega)]at h2
  simp only[Bool.not_eq_true']at h2
  simp only[e1,zdK,zp,zo,go_sem,zc,seval,reduceIte,reduceCtorEq]
  refine⟨⟨by omega,by omega,by omega⟩,fun h=> ?_,fun h=>⟨by omega,a+1,⟨by omega,by rw[if_neg (by simp[h])]at h2;exact h2⟩,by omega,by omega⟩⟩
  rw[if_pos h]at h2
  subst h2
  exact zcL l a
def zbh(p:Int)(s:List Int):Nat→Nat
 |0=>0
 |m+1=>if s.getD m 0=p then m+1 else zbh p s m
def stk(l:List Node):Nat→List Int
 |0=>[]
 |k+1=>(stk l k).take (zbh (par l k) (stk l k) (stk l k).length)++ [(k:Int)]
theorem zap(l:List Node):∀k,∀x∈stk l k,0≤x∧x<k
 |0,x,h=>by simp[stk]at h
 |k+1,x,h=>by
  simp only[stk,List.mem_append,List.mem_singleton]at h
  rcases h with h|h
  ·have:=zap l k x (List.mem_of_mem_take h);omega
  ·omega
theorem zk0(l:List Node):∀k,(stk l k).length≤k
 |0=>Nat.le_refl _
 |k+1=>by
  have:=zk0 l k
  simp only[stk,List.length_append,List.length_take,List.length_singleton]
  omega
def zfa(l:List Node):Int:=fst (fun k=> !za5 (l.getD k .zero) (stk l k) l) (l.length - 0) 0
structure CkS where
 k:Nat
 es:List Int
 ver:Nat
 clk:Nat
theorem zwc(l:List Node)(hl:l.length≤1000):zf Tryz.prog 62 [zp l] (qe l (zfa l)):=by
 refine zf.of (Orc.cons zbN (Orc.nil _)) zzO (by simp[c62]) fun w0 own0=> ?_
 have e0:¬(4096:Int)<(l.length:Int):=by omega
 simp only[c62,zp,e0,go_sem,zc,seval,reduceIte,reduceCtorEq]
 refine⟨fun h0=> ?_,fun h0=> ?_⟩
 ·have e:zfa l= -1:=by
   unfold zfa
   rw[show l.length - 0=0 by omega];rfl
  rw[e];exact zcM l (by omega)
 unfold zfa
 generalize hR:fst (fun k=> !za5 (l.getD k .zero) (stk l k) l) (l.length - 0) 0=R
 refine zC.lp (α:=CkS) (fun a=>[(0,.slc 6 (l.map Node.enc)),(4,.ref 0 a.ver 0 (stk l a.k).length),(15,.slc 6 (l.map Node.enc)),(16,vi l.length),(17,vi a.k)])
  (fun a=>⟨[⟨a.ver,1,a.es.map fun n=>[vi n],false,[vi 0]⟩],a.clk⟩)
  (fun a=>a.k≤l.length∧a.es.take (stk l a.k).length=stk l a.k∧(stk l a.k).length≤a.es.length∧fst (fun k=> !za5 (l.getD k .zero) (stk l k) l) (l.length - a.k) a.k=R) (fun a=>l.length - a.k) ⟨0,[],0,1⟩ ⟨by simp,rfl,by simp[stk],hR⟩
  (St.nil 4 1 [vi 0] (by simp[zj]) (St.cut ?_ ?_ ?_)) fun a ha=> ?_
 ·simp[zu,zj,zq,stk]
 ·simp[Heap.alloc]
 ·rfl
 obtain⟨k,es,ver,clk⟩:=a
 simp only at ha
 obtain⟨h1,h2,h3,h4⟩:=ha
 by_cases hal:k=l.length
 ·subst hal
  rw[ZT]at h4
  subst h4
  simp only[Int.lt_irrefl,go_sem,zc,seval,reduceIte,reduceCtorEq]
  exact zfe l (by omega)
 ·have e1:(k:Int)<(l.length:Int):=by omega
  rw[kP _ _ _ (by omega)]at h4
  simp only[Bool.not_eq_true']at h4
  have hs:=zap l k
  have hsl:=zk0 l k
  have hst:stk l (k+1)=(stk l k).take (zbh (par l k) (stk l k) (stk l k).length)++ [(k:Int)]:=rfl
  generalize stk l k=s at*
  have hn:=yr l k [.c (.int .i64 0),.c (.string ⟨#[]⟩),.c (.string ⟨#[]⟩),.c (.slice none 0 0),.c (.slice none 0 0),.c (.string ⟨#[]⟩)] (by omega)
  generalize hN:l.getD k .zero=n at*
  simp only[e1,hn,Node.enc,zp,zD,h2,h3,yp,Node.eta,zo,go_sem,zc,seval,reduceIte,reduceCtorEq]
  refine⟨by omega,⟨by omega,fun x hx=>by have:=hs x hx;omega⟩,fun hm=> ?_,fun hm=> ?_⟩
  ·rw[if_pos hm]at h4
   subst h4
   exact zcL l k
  ·rw[if_neg (by simp[hm])]at h4
   have hpar:n.parent=par l k:=by rw[←hN];rfl
   refine zC.lp (α:=Nat) (fun m=>[(0,.slc 6 (l.map Node.enc)),(4,.ref 0 ver 0 m),(5,vi k),(6,.ptr 1 clk 0 0),(15,.slc 6 (l.map Node.enc)),(16,vi l.length),(17,vi k)])
    (fun m=>⟨[⟨ver,1,es.map fun n=>[vi n],false,[vi 0]⟩,⟨clk,6,[n.enc],false,[]⟩],clk+1⟩)
    (fun m=>m≤s.length∧zbh (par l k) s m=zbh (par l k) s s.length) (fun m=>m) s.length ⟨Nat.le_refl _,rfl⟩ (St.cut ?_ ?_ ?_) fun m hm=> ?_
   ·simp[zu,zj,ev]
   ·simp[Node.enc]
   ·rfl
   obtain⟨m1,m2⟩:=hm
   simp only[Node.enc,hpar,go_sem,zc,seval,reduceIte,reduceCtorEq]
   have hget:∀i,i<s.length→es.getD i 0=s.getD i 0:=fun i hi=>by
    have e:s.getD i 0=(es.take s.length).getD i 0:=by rw[h2]
    rw[e,List.getD_eq_getElem?_getD,List.getD_eq_getElem?_getD,List.getElem?_take,if_pos hi]
   have htk:∀i,i≤s.length→es.take i=s.take i:=fun i hi=>by
    have e:(es.take s.length).take i=es.take i:=by rw[List.take_take];congr 1;omega
    rw[←e,h2]
   refine⟨fun h=>⟨h,by omega,by omega⟩,fun h=>⟨h,by omega,by omega⟩,fun h=>⟨h,by omega⟩,fun h=> ?_,fun h=> ?_⟩
   ·obtain⟨m',rfl⟩:∃m',m=m'+1:=⟨m - 1,by omega⟩
    have e2:((((m'+1:Nat):Int) - 1)).toNat=m':=by omega
    rw[e2]at h⊢
    rw[hget m' (by omega)]at h
    simp only[zbh,if_neg h.2]at m2
    exact⟨by omega,by omega,m',⟨by omega,m2⟩,by omega,by omega⟩
   ·have hpm:zbh (par l k) s m=m:=by
     cases m with
     |zero=>rfl
     |succ m'=>
      have e2:((((m'+1:Nat):Int) - 1)).toNat=m':=by omega
      rw[e2,hget m' (by omega)]at h
      simp only[zbh]
      rw[if_pos (by rcases h with h|h;exact absurd (by omega) h;exact h)]
    rw[←m2,hpm]at hst
    have hlen:(s.take m).length=m:=by rw[List.length_take];omega
    refine⟨by omega,by omega,⟨k+1,es.take m++ [(k:Int)],clk+1+1,clk+1+1+1⟩,⟨by dsimp only;omega,?_,?_,h4⟩,by dsimp only;omega,⟨⟨rfl,?_⟩,by dsimp only;omega⟩,⟨rfl,by simp⟩,rfl⟩
    ·dsimp only;rw[hst,htk m m1,List.take_of_length_le (Nat.le_refl _)]
    ·dsimp only;rw[hst,htk m m1];exact Nat.le_refl _
    ·dsimp only;rw[hst,List.length_append,hlen];rfl
theorem Jo(l:List Node)(of k:Int)(f:Nat)(h:¬of<k):clb l of f k=k:=by
 cases f with
 |zero=>rfl
 |succ f=>simp only[clb];rw[if_neg (fun hh=>h hh.1)]
theorem zfg(l:List Node)(of:Int)(h0:0≤of):∀(f:Nat)(k:Int),k.toNat≤f→clb l of (f+1) k=clb l of f k
 |0,k,h=>by rw[Jo _ _ _ _ (by omega),Jo _ _ _ _ (by omega)]
 |f+1,k,h=>by
  rw[clb]
  conv=>rhs;rw[clb]
  by_cases hc:of<k∧(l.getD k.toNat .zero).parent<k
  ·rw[if_pos hc,if_pos hc,zfg l of h0 f _ (by omega)]
  ·rw[if_neg hc,if_neg hc]
theorem zff(l:List Node)(of:Int)(h0:0≤of)(k:Int):∀(d:Nat),clb l of (k.toNat+d) k=clb l of k.toNat k
 |0=>rfl
 |d+1=>by rw[←zff l of h0 k d,←Nat.add_assoc,zfg l of h0 _ _ (by omega)]
theorem zfK(l:List Node)(k:Int):inN l k k=true:=by
 unfold inN;rw[Jo _ _ _ _ (by omega)];simp
theorem zwJ(l:List Node)(k p:Int)(h:k<p):inN l k p=false:=by
 unfold inN;rw[Jo _ _ _ _ (by omega)];simp;omega
theorem JG(l:List Node)(k:Nat)(p:Int)(h0:0≤p)(h1:p<k)(h2:par l k<k):inN l k p=inN l (par l k) p:=by
 unfold inN
 have e:((k:Int)).toNat=(k - 1)+1:=by omega
 have e2:l.getD ((k:Int)).toNat .zero=l.getD k .zero:=by rw[Int.toNat_natCast]
 conv=>lhs;rw[e,clb,e2]
 rw[if_pos ⟨h1,h2⟩]
 show decide (clb l p (k - 1) (par l k)=p)=_
 obtain⟨d,hd⟩:∃d,k - 1=(par l k).toNat+d:=⟨k - 1 - (par l k).toNat,by omega⟩
 rw[hd,zff l p h0]
theorem X1(l:List Node)(k p:Int)(h:inN l k p=true):p≤k:=by
 refine Decidable.byContradiction fun hn=> ?_
 rw[zwJ l k p (by omega)]at h;cases h
theorem zlW(l:List Node)(n:Nat)(hd:∀j,j<n→par l j<j):∀(m:Nat),m<n→∀(q p:Int),0≤p→p≤q→inN l m q=true→inN l m p=inN l q p:=by
 intro m
 induction m using Nat.strongRecOn with
 |_ m ih=>
  intro hm q p h0 h1 h2
  have hq:=X1 _ _ _ h2
  by_cases e:q=m
  ·subst e;rfl
  ·have hp:=hd m hm
   rw[JG l m q (by omega) (by omega) hp]at h2
   have hq2:=X1 _ _ _ h2
   rw[JG l m p h0 (by omega) hp]
   have hn:((par l m).toNat:Int)=par l m:=Int.toNat_of_nonneg (by omega)
   rw[←hn]at h2⊢
   exact ih (par l m).toNat (by omega) (by omega) q p h0 h1 h2
def zdd(l:List Node)(n:Nat):Prop:=∀j,j<n→qH l j=true
theorem WN{l:List Node}:qH l 0=true↔(par l 0= -1∧(l.getD 0 .zero).type≠⟨#[]⟩):=by
 simp[qH,par]
theorem Jb{l:List Node}{k:Nat}(h:0<k):qH l k=true↔(zfU (l.getD k .zero)=false∧0≤par l k∧par l k<k∧inN l (k - 1) (par l k)=true∧(l.getD (par l k).toNat .zero).type≠⟨#[]⟩):=by
 unfold qH
 rw[if_neg (by omega)]
 cases hb:zfU (l.getD k .zero)<;>simp
theorem Wf{l:List Node}{n:Nat}(h:zdd l n):∀j,j<n→par l j<j:=by
 intro j hj
 have:=h j hj
 by_cases e:j=0
 ·subst e;rw[(WN.1 this).1];omega
 ·exact((Jb (by omega)).1 this).2.2.1
theorem zsb{l:List Node}{n:Nat}(h:zdd l n)(j:Nat)(h0:0<j)(hj:j<n):0≤par l j:=((Jb h0).1 (h j hj)).2.1
theorem zbw(l:List Node):∀k,(stk l k).Pairwise (· < ·)
 |0=>List.Pairwise.nil
 |k+1=>by
  simp only[stk]
  rw[List.pairwise_append]
  refine⟨(zbw l k).sublist (List.take_sublist _ _),by simp,fun a ha b hb=> ?_⟩
  have:=zap l k a (List.mem_of_mem_take ha)
  simp at hb
  omega
theorem Wn(s:List Int)(m:Nat)(h:m<s.length):s.take (m+1)=s.take m++ [s.getD m 0]:=by
 rw[List.take_add_one,List.getElem?_eq_getElem h,List.getD_eq_getElem?_getD,List.getElem?_eq_getElem h];rfl
theorem zf5(p:Int)(s:List Int)(hs:s.Pairwise (· < ·)):∀(m:Nat),m≤s.length→p∈s.take m→∀x,x∈s.take (zbh p s m)↔x∈s.take m∧x≤p
 |0,_,hp,x=>by simp at hp
 |m+1,hm,hp,x=>by
  have hsub:(s.take (m+1)).Pairwise (· < ·):=hs.sublist (List.take_sublist _ _)
  rw[Wn s m (by omega),List.pairwise_append]at hsub
  have hlt:∀a∈s.take m,a<s.getD m 0:=fun a ha=>hsub.2.2 a ha _ (by simp)
  simp only[zbh]
  by_cases e:s.getD m 0=p
  ·rw[if_pos e,Wn s m (by omega),e]
   simp only[List.mem_append,List.mem_singleton]
   constructor
   ·rintro(h|h)
    ·exact⟨.inl h,by have:=hlt x h;omega⟩
    ·exact⟨.inr h,by omega⟩
   ·exact fun h=>h.1
  ·rw[if_neg e]
   rw[Wn s m (by omega)]at hp⊢
   simp only[List.mem_append,List.mem_singleton]at hp⊢
   have hp':p∈s.take m:=by
    rcases hp with hp|hp
    ·exact hp
    ·exact absurd hp.symm e
   rw[zf5 p s hs m (by omega) hp' x]
   constructor
   ·exact fun h=>⟨.inl h.1,h.2⟩
   ·rintro⟨h|h,h2⟩
    ·exact⟨h,h2⟩
    ·have:=hlt p hp';omega
theorem zsa(l:List Node):∀k,zdd l (k+1)→∀p:Int,p∈stk l (k+1)↔(0≤p∧inN l k p=true)
 |0,h,p=>by
  simp only[stk,List.take_nil,List.nil_append,List.mem_singleton]
  constructor
  ·rintro rfl;exact⟨by omega,zfK l 0⟩
  ·rintro⟨h1,h2⟩
   have:=X1 _ _ _ h2;omega
 |k+1,h,p=>by
  have ih:=zsa l k (fun j hj=>h j (by omega))
  have hk:=(Jb (by omega)).1 (h (k+1) (by omega))
  have hpar:=Wf h (k+1) (by omega)
  have e1:(((k+1:Nat):Int) - 1)=k:=by omega
  rw[e1]at hk
  have hmem:par l (k+1)∈(stk l (k+1)).take (stk l (k+1)).length:=by
   rw[List.take_length];exact(ih _).2 ⟨hk.2.1,hk.2.2.2.1⟩
  have e2:stk l (k+1+1)=(stk l (k+1)).take (zbh (par l (k+1)) (stk l (k+1)) (stk l (k+1)).length)++ [((k+1:Nat):Int)]:=rfl
  rw[e2]
  simp only[List.mem_append,List.mem_singleton]
  rw[zf5 _ _ (zbw l (k+1)) _ (Nat.le_refl _) hmem p,List.take_length,ih]
  have ht:p≤par l (k+1)→0≤p→inN l k p=inN l (par l (k+1)) p:=fun h1 h0=>zlW l (k+1) (Wf (fun j hj=>h j (by omega))) k (by omega) _ _ h0 h1 hk.2.2.2.1
  constructor
  ·rintro(⟨⟨h1,h2⟩,h3⟩|h1)
   ·refine⟨h1,?_⟩
    rw[JG l (k+1) p h1 (by omega) hpar,←ht h3 h1];exact h2
   ·subst h1;exact⟨by omega,zfK _ _⟩
  ·rintro⟨h1,h2⟩
   by_cases e:p=((k+1:Nat):Int)
   ·exact .inr e
   ·have hle:=X1 _ _ _ h2
    rw[JG l (k+1) p h1 (by omega) hpar]at h2
    have hle2:=X1 _ _ _ h2
    exact .inl ⟨⟨h1,by rw[ht hle2 h1];exact h2⟩,hle2⟩
theorem zma(l:List Node)(k:Nat)(h:zdd l k):za5 (l.getD k .zero) (stk l k) l=qH l k:=by
 cases k with
 |zero=>simp[za5,stk,qH]
 |succ k=>
  unfold za5 qH
  rw[if_neg (show ¬stk l (k+1)= []by simp[stk]),if_neg (show ¬k+1=0 by omega)]
  by_cases hb:zfU (l.getD (k+1) .zero)=true
  ·rw[if_pos hb,if_pos hb]
  ·rw[if_neg hb,if_neg hb]
   have hm:=zap l (k+1) (par l (k+1))
   have e1:(((k+1:Nat):Int) - 1)=k:=by omega
   rw[e1,decide_eq_decide]
   show(par l (k+1)∈stk l (k+1)∧_)↔_
   rw[zsa l k h]
   constructor
   ·rintro⟨⟨h1,h2⟩,h3⟩
    have:=X1 _ _ _ h2
    exact⟨h1,by omega,h2,h3⟩
   ·rintro⟨h1,h2,h3,h4⟩
    exact⟨⟨h1,h3⟩,h4⟩
theorem zcV(p q:Nat→Bool):∀(f k:Nat),(∀m,k≤m→(∀j,k≤j→j<m→q j=false)→p m=q m)→fst p f k=fst q f k
 |0,_,_=>rfl
 |f+1,k,h=>by
  simp only[fst]
  rw[h k (Nat.le_refl _) (fun j h1 h2=>by omega)]
  by_cases hq:q k=true
  ·rw[if_pos hq,if_pos hq]
  ·rw[if_neg hq,if_neg hq]
   refine zcV p q f (k+1) fun m hm hj=>h m (by omega) fun j h1 h2=> ?_
   by_cases e:j=k
   ·subst e;simpa using hq
   ·exact hj j (by omega) h2
theorem Z1(l:List Node):zfa l=KR l:=by
 unfold zfa KR
 refine zcV _ _ _ _ fun m _ hj=> ?_
 rw[zma l m (fun j h=>by have:=hj j (by omega) h;simpa using this)]
def zq0(l:List Node):Prop:=l.length≠0∧zdd l l.length
theorem zpY(l:List Node):KR l<0↔zdd l l.length:=by
 unfold KR
 rcases kO (fun k=> !qH l k) (l.length - 0) 0 with⟨h1,h2⟩|⟨m,h1,h2,h3,h4,h5⟩
 ·rw[h1]
  refine⟨fun _ j hj=> ?_,fun _=>by omega⟩
  have:=h2 j (by omega) (by omega)
  simpa using this
 ·rw[h1]
  refine⟨fun h=>by omega,fun h=> ?_⟩
  have:=h m (by omega)
  simp[this]at h4
def XW(l:List Node):Bool:=decide (KR l<0∧l.length≠0)
theorem zfs(l:List Node):XW l=true↔zq0 l:=by
 unfold XW zq0;rw[decide_eq_true_eq,zpY];exact And.comm
section
def Kq:Sum Tryz.prog:=⟨62,fun args=>args= [zp (zk (args.getD 0 .any))]∧((zk (args.getD 0 .any))).length≤1000,fun args=>qe (zk (args.getD 0 .any)) (zfa (zk (args.getD 0 .any))),fun args h=>by
 have:=zwc (zk (args.getD 0 .any)) h.2;rwa [←h.1]at this,false⟩
theorem zng:Kq.f=62:=rfl
theorem znf(args:List V):Kq.D args=(args= [zp (zk (args.getD 0 .any))]∧((zk (args.getD 0 .any))).length≤1000):=rfl
theorem zd7:Kq.flat=false:=rfl
theorem znh(args:List V):Kq.r args=qe (zk (args.getD 0 .any)) (zfa (zk (args.getD 0 .any))):=rfl
attribute [go_sem] zng znf zd7 znh
def J8:Sum Tryz.prog:=⟨38,fun args=>args= [zp (zk (args.getD 0 .any))]∧((zk (args.getD 0 .any))).length≤1000,fun args=>qe (zk (args.getD 0 .any)) (KR (zk (args.getD 0 .any))),fun args h=>by
 have:=zwb (zk (args.getD 0 .any)) h.2;rwa [←h.1]at this,false⟩
theorem znd:J8.f=38:=rfl
theorem znc(args:List V):J8.D args=(args= [zp (zk (args.getD 0 .any))]∧((zk (args.getD 0 .any))).length≤1000):=rfl
theorem zd6:J8.flat=false:=rfl
theorem zne(args:List V):J8.r args=qe (zk (args.getD 0 .any)) (KR (zk (args.getD 0 .any))):=rfl
attribute [go_sem] znd znc zd6 zne
structure KiS where
 n:Nat
 ver:Nat
 clk:Nat
def zdB(n:Node):Bool:=decide (n.type.size≤50∧n.id.size≤50∧n.text.size≤50∧n.cls.length≤5∧n.attrs.length≤5∧(∀j,j<n.cls.length→(n.cls.getD j ⟨#[]⟩).size≤50)∧∀j,j<n.attrs.length→(n.attrs.getD j (⟨#[]⟩,⟨#[]⟩)).1.size≤50∧(n.attrs.getD j (⟨#[]⟩,⟨#[]⟩)).2.size≤50)
def Yo(l:List Node):Bool:=decide (l.length≤60∧∀i,i<l.length→zdB (l.getD i .zero)=true)
theorem zaK{l:List Node}{i:Nat}(hi:i<l.length)(h:¬zdB (l.getD i .zero)=true):false=Yo l:=by
 unfold Yo
 symm
 rw[decide_eq_false_iff_not]
 exact fun hh=>h (hh.2 i hi)
structure FwS where
 i:Nat
 clk:Nat
theorem zwy(l:List Node):zf Tryz.prog 33 [zp l] (vb (Yo l)):=by
 refine zf.of (Orc.nil _) zzs (by simp[c33]) fun w0 own0=> ?_
 simp only[c33,zp,go_sem,zc,seval,reduceIte,reduceCtorEq]
 refine zC.lp (α:=FwS) (fun a=>[(0,.slc 6 (l.map Node.enc)),(3,vi a.i)]) (fun a=>⟨[],a.clk⟩)
  (fun a=>a.i≤l.length∧a.i≤61∧∀i,i<a.i→zdB (l.getD i .zero)=true) (fun a=>l.length - a.i) ⟨0,0⟩ ⟨by simp,by simp,fun i hi=>by simp at hi⟩ (St.mk (by simp[zu,zj,zq])) fun a ha=> ?_
 obtain⟨i,clk⟩:=a
 simp only at ha
 obtain⟨h1,h2,h3⟩:=ha
 by_cases hil:i<l.length∧i≤60
 ·have e1:(i:Int)<(l.length:Int):=by omega
  have e2:(i:Int)≤60:=by omega
  have hg:=yr l i [.c (.int .i64 0),.c (.string ⟨#[]⟩),.c (.string ⟨#[]⟩),.c (.slice none 0 0),.c (.slice none 0 0),.c (.string ⟨#[]⟩)] hil.1
  generalize hN:l.getD i .zero=n at*
  simp only[e1,e2,hg,Node.enc,go_sem,zc,seval,reduceIte,reduceCtorEq]
  have hi:=hil.1
  refine⟨by omega,by omega,by omega,by omega,by omega,fun h=> ?_,fun h=> ?_⟩
  ·refine zaK hi ?_
   rw[hN];unfold zdB;rw[decide_eq_true_eq]
   rintro⟨a1,a2,a3,a4,a5,_⟩
   omega
  have hc:(¬ ∀j,j<n.cls.length→(n.cls.getD j ⟨#[]⟩).size≤50)→false=Yo l:=fun hh=>by
   refine zaK hi ?_
   rw[hN];unfold zdB;rw[decide_eq_true_eq]
   exact fun a=>hh a.2.2.2.2.2.1
  have hat:(¬ ∀j,j<n.attrs.length→(n.attrs.getD j (⟨#[]⟩,⟨#[]⟩)).1.size≤50∧(n.attrs.getD j (⟨#[]⟩,⟨#[]⟩)).2.size≤50)→false=Yo l:=fun hh=>by
   refine zaK hi ?_
   rw[hN];unfold zdB;rw[decide_eq_true_eq]
   exact fun a=>hh a.2.2.2.2.2.2
  refine zC.lp (α:=Nat) (fun j=>[(0,.slc 6 (l.map Node.enc)),(3,vi i),(4,.ptr 0 clk 0 0),(52,.slc 1 (n.cls.map fun s=>[vs s])),(53,vi n.cls.length),(54,vi j)])
   (fun _=>⟨[⟨clk,6,[n.enc],false,[]⟩],clk+1⟩)
   (fun j=>j≤n.cls.length∧∀i,i<j→(n.cls.getD i ⟨#[]⟩).size≤50) (fun j=>n.cls.length - j) 0 ⟨Nat.zero_le _,fun i hi=>by omega⟩ (St.cut ?_ ?_ ?_) fun j hj=> ?_
  ·simp[zu,zj,ev]
  ·simp[Node.enc]
  ·rfl
  obtain⟨j1,j2⟩:=hj
  by_cases hjl:j=n.cls.length
  ·subst hjl
   simp only[Int.lt_irrefl,Node.enc,go_sem,zc,seval,reduceIte,reduceCtorEq]
   refine zC.lp (α:=FwS) (fun a=>[(0,.slc 6 (l.map Node.enc)),(3,vi i),(63,.slc 2 (n.attrs.map fun p=>[vs p.1,vs p.2])),(64,vi n.attrs.length),(65,vi a.i)])
    (fun a=>⟨[],a.clk⟩)
    (fun a=>a.i≤n.attrs.length∧∀i,i<a.i→(n.attrs.getD i (⟨#[]⟩,⟨#[]⟩)).1.size≤50∧(n.attrs.getD i (⟨#[]⟩,⟨#[]⟩)).2.size≤50) (fun a=>n.attrs.length - a.i) ⟨0,clk+1⟩ ⟨Nat.zero_le _,fun i hi=>by simp at hi⟩ (St.cut ?_ ?_ ?_) fun a ha=> ?_
   ·simp[zu,zj,ev]
   ·simp
   ·rfl
   obtain⟨j,clk⟩:=a
   simp only at ha
   obtain⟨a1,a2⟩:=ha
   by_cases hja:j=n.attrs.length
   ·subst hja
    have hfn:zdB n=true:=by
     unfold zdB;rw[decide_eq_true_eq]
     exact⟨by omega,by omega,by omega,by omega,by omega,j2,a2⟩
    simp only[Int.lt_irrefl,go_sem,zc,seval,reduceIte,reduceCtorEq]
    refine⟨by omega,⟨i+1,clk⟩,⟨by dsimp only;omega,by dsimp only;omega,fun j hj=> ?_⟩,by dsimp only;omega,by dsimp only;omega,rfl⟩
    dsimp only at hj
    by_cases e:j=i
    ·subst e;rw[hN];exact hfn
    ·exact h3 j (by omega)
   ·have e3:(j:Int)<(n.attrs.length:Int):=by omega
    simp only[e3,Zg,go_sem,zc,seval,reduceIte,reduceCtorEq]
    refine⟨by omega,by omega,fun hh=>hat fun h2=> ?_,fun hh=>⟨by omega,⟨j+1,clk+1⟩,⟨by dsimp only;omega,fun m hm=> ?_⟩,by dsimp only;omega,by dsimp only;omega,rfl⟩⟩
    ·have:=h2 j (by omega);omega
    ·dsimp only at hm
     by_cases e:m=j
     ·subst e;omega
     ·exact a2 m (by omega)
  ·have e3:(j:Int)<(n.cls.length:Int):=by omega
   simp only[e3,Kf,go_sem,zc,seval,reduceIte,reduceCtorEq]
   refine⟨by omega,fun hh=>hc fun h2=> ?_,fun hh=>⟨by omega,j+1,⟨by omega,fun m hm=> ?_⟩,by omega,by omega⟩⟩
   ·have:=h2 j (by omega);omega
   ·by_cases e:m=j
    ·subst e;omega
    ·exact j2 m (by omega)
 ·by_cases hlt:i<l.length
  ·have e1:(i:Int)<(l.length:Int):=by omega
   have e2:¬(i:Int)≤60:=by omega
   have e3:¬(l.length:Int)≤60:=by omega
   have e4:Yo l=false:=by
    unfold Yo;rw[decide_eq_false_iff_not];intro hh;have:=hh.1;omega
   simp only[e1,e2,e3,e4,go_sem,zc,seval,reduceIte,reduceCtorEq]
  ·have e1:¬(i:Int)<(l.length:Int):=by omega
   by_cases e3:(l.length:Int)≤60
   ·have e4:Yo l=true:=by
     unfold Yo;rw[decide_eq_true_eq];exact⟨by omega,fun j hj=>h3 j (by omega)⟩
    simp only[e1,e3,e4,go_sem,zc,seval,reduceIte,reduceCtorEq]
   ·have e4:Yo l=false:=by
     unfold Yo;rw[decide_eq_false_iff_not];intro hh;have:=hh.1;omega
    simp only[e1,e3,e4,go_sem,zc,seval,reduceIte,reduceCtorEq]
def Xg:Sum Tryz.prog:=⟨33,fun args=>args= [zp (zk (args.getD 0 .any))],fun args=>vb (Yo (zk (args.getD 0 .any))),fun args h=>by
 have:=zwy (zk (args.getD 0 .any));rwa [←h]at this,true⟩
theorem znL:Xg.f=33:=rfl
theorem znK(args:List V):Xg.D args=(args= [zp (zk (args.getD 0 .any))]):=rfl
theorem zeg:Xg.flat=true:=rfl
theorem znM(args:List V):Xg.r args=vb (Yo (zk (args.getD 0 .any))):=rfl
attribute [go_sem] znL znK zeg znM
section
variable {cx:Cx} {rest:C} {Q:yv} {e:Nat→V} {h:Heap}
theorem zd(d:Option Nat)(t:Nat)(want:Bool)(f:FuncId)(xs:List X)(r:List AOp)(h1:enB (e t) want=true)(h2:(asB (e t).un).2=true)(h3:cx.T.flat f=false):
  wpR cx (⟨d,some (t,want),none,.call f xs⟩::r) rest Q e h=(yB e xs=true∧cx.T.pre f (xs.map (zi e)) h∧wpR cx r rest Q (zx e d (cx.T.v f (xs.map (zi e)) h)) (cx.T.hp f (xs.map (zi e)) h)):=by
 rw[zc]
 simp only[h1,h2,h3,Bool.false_eq_true,if_false,forall_const,implies_true,true_and,reduceCtorEq,false_implies,and_true,Bool.true_eq_false]
theorem zb(d:Option Nat)(t:Nat)(want:Bool)(f:FuncId)(xs:List X)(r:List AOp)(h1:enB (e t) want=false)(h2:(e t).gok=true→(asB (e t).un).2=true)(h3:cx.T.flat f=false):
  wpR cx (⟨d,some (t,want),none,.call f xs⟩::r) rest Q e h=wpR cx r rest Q (zx e d (.c undef)) h:=by
 rw[zc]
 simp only[h1,h3,Bool.false_eq_true,if_false,false_implies,true_and,forall_const]
 exact propext ⟨fun k=>k.2,fun k=>⟨h2,k⟩⟩
theorem za(d:Option Nat)(t:Nat)(want:Bool)(f:FuncId)(xs:List X)(r:List AOp)(h3:cx.T.flat f=true):
  wpR cx (⟨d,some (t,want),none,.call f xs⟩::r) rest Q e h=(((e t).gok=true→(asB (e t).un).2=true)∧(enB (e t) want=true→yB e xs=true∧cx.T.qpre f (xs.map (zi e)) h)∧wpR cx r rest Q (zx e d (.gd (enB (e t) want) (.c (cx.T.qv f (xs.map (zi e)) h)))) h):=by
 rw[zc]
 simp only[h3,if_true]
end
end
structure Smp where
 kind:Int
 text:ByteArray
 val:ByteArray
instance:Inhabited Smp:=⟨⟨0,⟨#[]⟩,⟨#[]⟩⟩⟩
def Smp.enc(s:Smp):List V:=[vi s.kind,vs s.text,vs s.val]
structure Cmp where
 link:Int
 l:List Smp
instance:Inhabited Cmp:=⟨⟨0,[]⟩⟩
def Cmp.enc(c:Cmp):List V:=[vi c.link,.slc 3 (c.l.map Smp.enc)]
abbrev Sel:=List Cmp
def zU(s:Sel):List V:=[.slc 2 (s.map Cmp.enc)]
def kU(l:List Sel):V:=.slc 1 (l.map zU)
def zqz(e:List V):Smp:=⟨(e.getD 0 .any).int,(e.getD 1 .any).str,(e.getD 2 .any).str⟩
def yI(v:V):Smp:=zqz v.cs
def zfp(e:List V):Cmp:=⟨(e.getD 0 .any).int,(e.getD 1 .any).es.map zqz⟩
def ZH(v:V):Cmp:=zfp v.cs
def zko(e:List V):Sel:=(e.getD 0 .any).es.map zfp
def q7(v:V):Sel:=zko v.cs
def qf(v:V):List Sel:=v.es.map zko
theorem zqA(s:Smp):zqz s.enc=s:=rfl
theorem zyq(sz:Nat)(l:List Smp):(V.slc sz (l.map Smp.enc)).es.map zqz=l:=by
 simp[V.es,Function.comp_def,zqA]
theorem XS(c:Cmp):zfp c.enc=c:=by
 unfold zfp Cmp.enc
 rw[show([vi c.link,V.slc 3 (c.l.map Smp.enc)]:List V).getD 1 .any=V.slc 3 (c.l.map Smp.enc)from rfl,zyq]
 rfl
theorem jp(n:Int)(l:List Smp):ZH (.agg [.c (.int .i64 n),.slc 3 (l.map Smp.enc)])=⟨n,l⟩:=XS ⟨n,l⟩
theorem XU(s:Sel):zko (zU s)=s:=by
 unfold zko zU
 simp[V.es,Function.comp_def,XS]
theorem zad(s:Sel):q7 (.agg [.slc 2 (s.map Cmp.enc)])=s:=XU s
theorem XV(l:List Sel):qf (.slc 1 (l.map zU))=l:=by
 simp[qf,V.es,Function.comp_def,XU]
theorem je(l:List Smp)(i:Nat):(l.map Smp.enc).getD i [.c (.int .i64 0),.c (.string ⟨#[]⟩),.c (.string ⟨#[]⟩)]=(l.getD i default).enc:=by
 simp only[List.getD_eq_getElem?_getD,List.getElem?_map]
 cases l[i]? <;>rfl
theorem kD(l:List Cmp)(i:Nat)(d:List V)(h:i<l.length):(l.map Cmp.enc).getD i d=(l.getD i default).enc:=by
 simp[List.getD_eq_getElem?_getD,h]
theorem Ke(l:List Sel)(i:Nat)(d:List V)(h:i<l.length):(l.map zU).getD i d=zU (l.getD i []):=by
 simp[List.getD_eq_getElem?_getD,h]
theorem Cmp.eta(c:Cmp):(⟨c.link,c.l⟩:Cmp)=c:=rfl
theorem Smp.eta(c:Smp):(⟨c.kind,c.text,c.val⟩:Smp)=c:=rfl
structure LpS where
 n:Nat
 clk:Nat
def Ye(i:Nat)(x:Smp):Prop:=x.kind<1∨6<x.kind∨(0<i∧x.kind≤2)∨¬(x.text=⟨#[]⟩↔x.kind=1)∨(¬x.val=⟨#[]⟩∧¬x.kind=6)
instance (i:Nat) (x:Smp):Decidable (Ye i x):=by unfold Ye;infer_instance
def jM(c:Cmp)(first:Bool):Bool:=decide ((first=true↔c.link=0)∧0≤c.link∧c.link≤2∧0<c.l.length∧∀i,i<c.l.length→¬Ye i (c.l.getD i default))
theorem zrU(c:Cmp)(first:Bool)(hlen:c.l.length≤1000000):zf Tryz.prog 157 [.agg c.enc,vb first] (vb (jM c first)):=by
 refine zf.of (Orc.nil _) zvT (by simp[zh4]) fun w0 own0=> ?_
 have hf:(first==decide (c.link=0))=true↔(first=true↔c.link=0):=by
  cases first<;>by_cases h:c.link=0<;>simp[h]
 cases h1:(first==decide (c.link=0))with
 |true=>
  by_cases h2:c.link<0
  ·have e:jM c first=false:=by unfold jM;rw[decide_eq_false_iff_not];omega
   simp only[zh4,Cmp.enc,h1,h2,e,go_sem,zc,seval,reduceIte,reduceCtorEq]
  by_cases h3:2<c.link
  ·have e:jM c first=false:=by unfold jM;rw[decide_eq_false_iff_not];omega
   simp only[zh4,Cmp.enc,h1,h2,h3,e,go_sem,zc,seval,reduceIte,reduceCtorEq]
  by_cases h4:(c.l.length:Int)=0
  ·have e:jM c first=false:=by unfold jM;rw[decide_eq_false_iff_not];omega
   simp only[zh4,Cmp.enc,h1,h2,h3,h4,e,go_sem,zc,seval,reduceIte,reduceCtorEq]
  simp only[zh4,Cmp.enc,h1,h2,h3,h4,go_sem,zc,seval,reduceIte,reduceCtorEq]
  refine zC.lp (α:=LpS) (fun a=>[(29,.slc 3 (c.l.map Smp.enc)),(30,vi c.l.length),(31,vi a.n)]) (fun a=>⟨[],a.clk⟩)
   (fun a=>a.n≤c.l.length∧∀i,i<a.n→¬Ye i (c.l.getD i default)) (fun a=>c.l.length - a.n) ⟨0,1⟩ ⟨Nat.zero_le _,fun i hi=>absurd hi (Nat.not_lt_zero _)⟩ (St.cut (by simp[zu,zj,zq]) rfl rfl) fun a ha=> ?_
  obtain⟨k,clk⟩:=a
  simp only at ha
  obtain⟨k1,k2⟩:=ha
  by_cases he:k=c.l.length
  ·subst he
   have e:jM c first=true:=by unfold jM;rw[decide_eq_true_eq];exact⟨hf.1 h1,by omega,by omega,by omega,k2⟩
   simp only[Int.lt_irrefl,e,go_sem,zc,seval,reduceIte,reduceCtorEq]
  ·have e1:(k:Int)<(c.l.length:Int):=by omega
   have e0:(0:Int)≤(k:Int):=by omega
   have hlt:k<c.l.length:=by omega
   have hg:=je c.l k
   generalize hx:c.l.getD k default=x at*
   by_cases hb:Ye k x
   ·have e:jM c first=false:=by
     unfold jM;rw[decide_eq_false_iff_not];exact fun h=>h.2.2.2.2 k hlt (by rw[hx];exact hb)
    unfold Ye at hb
    have hk:((0:Int)<(k:Int))=(0<k):=by rw[eq_iff_iff];omega
    simp only[e0,e1,hg,e,Smp.enc,hk,go_sem,zc,seval,reduceIte,reduceCtorEq]
    by_cases x1:x.kind<1<;>by_cases x2:6<x.kind<;>by_cases x3:0<k<;>by_cases x4:x.kind≤2<;>by_cases x5:x.text=⟨#[]⟩<;>by_cases x6:x.kind=1<;>by_cases x7:x.val=⟨#[]⟩<;>by_cases x8:x.kind=6<;>first|(exfalso;omega)|(exfalso;simp[x1,x2,x3,x4,x5,x6,x7,x8]at hb;done)|(simp[x1,x2,x3,x4,x5,x6,x7,x8];done)
   ·have hn:∀i,i<k+1→¬Ye i (c.l.getD i default):=fun i hi=>by
     by_cases h:i=k
     ·subst h;rw[hx];exact hb
     ·exact k2 i (by omega)
    unfold Ye at hb
    have hk:((0:Int)<(k:Int))=(0<k):=by rw[eq_iff_iff];omega
    simp only[e0,e1,hg,Smp.enc,hk,go_sem,zc,seval,reduceIte,reduceCtorEq]
    have fin:(-9223372036854775808≤(k:Int)+1∧(k:Int)+1≤9223372036854775807)∧∃b:LpS,(b.n≤c.l.length∧∀(i:Nat),i<b.n→¬Ye i (c.l.getD i default))∧c.l.length - b.n<c.l.length - k∧(k:Int)+1=(b.n:Int)∧clk+1=b.clk:=
     ⟨by omega,⟨k+1,clk+1⟩,⟨by dsimp only;omega,hn⟩,by dsimp only;omega,by dsimp only;omega,rfl⟩
    generalize hF:((-9223372036854775808≤(k:Int)+1∧(k:Int)+1≤9223372036854775807)∧∃b:LpS,(b.n≤c.l.length∧∀(i:Nat),i<b.n→¬Ye i (c.l.getD i default))∧c.l.length - b.n<c.l.length - k∧(k:Int)+1=(b.n:Int)∧clk+1=b.clk)=F at*
    by_cases x1:x.kind<1<;>by_cases x2:6<x.kind<;>by_cases x3:0<k<;>by_cases x4:x.kind≤2<;>by_cases x5:x.text=⟨#[]⟩<;>by_cases x6:x.kind=1<;>by_cases x7:x.val=⟨#[]⟩<;>by_cases x8:x.kind=6<;>first|(exfalso;omega)|(exfalso;simp[x1,x2,x3,x4,x5,x6,x7,x8]at hb;done)|(simp[x1,x2,x3,x4,x5,x6,x7,x8,fin];done)
 |false=>
  have e:jM c first=false:=by unfold jM;rw[decide_eq_false_iff_not];exact fun h=>by rw[hf.2 h.1]at h1;cases h1
  simp only[zh4,Cmp.enc,h1,e,go_sem,zc,seval,reduceIte,reduceCtorEq]
def zbQ:Sum Tryz.prog:=⟨157,fun args=>args= [.agg (Cmp.enc (ZH (args.getD 0 .any))),vb (V.boo (args.getD 1 .any))]∧((ZH (args.getD 0 .any))).l.length≤1000000,fun args=>vb (jM (ZH (args.getD 0 .any)) (V.boo (args.getD 1 .any))),fun args h=>by
 have:=zrU (ZH (args.getD 0 .any)) (V.boo (args.getD 1 .any)) h.2;rwa [←h.1]at this,true⟩
theorem ztE:zbQ.f=157:=rfl
theorem ztD(args:List V):zbQ.D args=(args= [.agg (Cmp.enc (ZH (args.getD 0 .any))),vb (V.boo (args.getD 1 .any))]∧((ZH (args.getD 0 .any))).l.length≤1000000):=rfl
theorem zhe:zbQ.flat=true:=rfl
theorem ztF(args:List V):zbQ.r args=vb (jM (ZH (args.getD 0 .any)) (V.boo (args.getD 1 .any))):=rfl
attribute [go_sem] ztE ztD zhe ztF
def okC(s:Sel):Prop:=s.length≤1000000∧∀i,i<s.length→(s.getD i default).l.length≤1000000
def okM(l:List Sel):Prop:=l.length≤1000000∧∀i,i<l.length→okC (l.getD i [])
def Qj(s:Sel):Bool:=decide (1≤s.length∧s.length≤64∧∀i,i<s.length→jM (s.getD i default) (decide ((i:Int)=0))=true)
def Z6(l:List Sel):Bool:=decide (0<l.length∧∀i,i<l.length→Qj (l.getD i [])=true)
theorem zms(l:List Sel)(hl:okM l):zf Tryz.prog 130 [kU l] (vb (Z6 l)):=by
 refine zf.of (Orc.cons zbQ (Orc.nil _)) zvF (by simp[zy2]) fun w0 own0=> ?_
 obtain⟨hl1,hl2⟩:=hl
 simp only[zy2,kU,go_sem,zc,seval,reduceIte,reduceCtorEq]
 refine zC.lp (α:=LpS) (fun a=>[(0,.slc 1 (l.map zU)),(7,.slc 1 (l.map zU)),(8,vi l.length),(9,vi a.n)]) (fun a=>⟨[],a.clk⟩)
  (fun a=>a.n≤l.length∧∀i,i<a.n→Qj (l.getD i [])=true) (fun a=>l.length - a.n) ⟨0,0⟩ ⟨Nat.zero_le _,fun i hi=>absurd hi (Nat.not_lt_zero _)⟩ (St.mk (by simp[zu,zj,zq])) fun a ha=> ?_
 obtain⟨k,clk⟩:=a
 simp only at ha
 obtain⟨k1,k2⟩:=ha
 by_cases he:k=l.length
 ·subst he
  have e:Z6 l=decide ((0:Int)<(l.length:Int)):=by
   unfold Z6;rw[decide_eq_decide];exact⟨fun h=>by omega,fun h=>⟨by omega,k2⟩⟩
  simp only[Int.lt_irrefl,e,go_sem,zc,seval,reduceIte,reduceCtorEq]
 ·have e1:(k:Int)<(l.length:Int):=by omega
  have e0:(0:Int)≤(k:Int):=by omega
  have hlt:k<l.length:=by omega
  have hg:=Ke l k [.c (.slice none 0 0)] hlt
  obtain⟨o1,o2⟩:=hl2 k hlt
  have hno:Qj (l.getD k [])=false→Z6 l=false:=fun h=>by
   unfold Z6;rw[decide_eq_false_iff_not];exact fun hh=>by rw[hh.2 k hlt]at h;cases h
  generalize hx:l.getD k []=s at*
  by_cases h1:(s.length:Int)<1
  ·have e:=hno (by unfold Qj;rw[decide_eq_false_iff_not];omega)
   simp only[e0,e1,hg,zU,h1,e,go_sem,zc,seval,reduceIte,reduceCtorEq]
  by_cases h2:(64:Int)<(s.length:Int)
  ·have e:=hno (by unfold Qj;rw[decide_eq_false_iff_not];omega)
   simp only[e0,e1,hg,zU,h1,h2,e,go_sem,zc,seval,reduceIte,reduceCtorEq]
  simp only[e0,e1,hg,zU,h1,h2,go_sem,zc,seval,reduceIte,reduceCtorEq]
  refine zC.lp (α:=LpS) (fun a=>[(0,.slc 1 (l.map zU)),(7,.slc 1 (l.map zU)),(8,vi l.length),(9,vi k),(24,.slc 2 (s.map Cmp.enc)),(25,vi s.length),(26,vi a.n)]) (fun a=>⟨[],a.clk⟩)
   (fun a=>a.n≤s.length∧∀i,i<a.n→jM (s.getD i default) (decide ((i:Int)=0))=true) (fun a=>s.length - a.n) ⟨0,clk+1⟩ ⟨Nat.zero_le _,fun i hi=>absurd hi (Nat.not_lt_zero _)⟩ (St.cut (by simp[zu,zj,ev,zU]) rfl rfl) fun a ha=> ?_
  obtain⟨j,clk2⟩:=a
  simp only at ha
  obtain⟨j1,j2⟩:=ha
  by_cases hj:j=s.length
  ·subst hj
   have e:Qj s=true:=by unfold Qj;rw[decide_eq_true_eq];exact⟨by omega,by omega,j2⟩
   simp only[Int.lt_irrefl,go_sem,zc,seval,reduceIte,reduceCtorEq]
   have hn:∀i,i<k+1→Qj (l.getD i [])=true:=fun i hi=>by
    by_cases h:i=k
    ·subst h;rw[hx];exact e
    ·exact k2 i (by omega)
   exact⟨by omega,⟨k+1,clk2⟩,⟨by dsimp only;omega,hn⟩,by dsimp only;omega,by dsimp only;omega,rfl⟩
  ·have f1:(j:Int)<(s.length:Int):=by omega
   have f0:(0:Int)≤(j:Int):=by omega
   have hjl:j<s.length:=by omega
   have hgj:=kD s j [.c (.int .i64 0),.c (.slice none 0 0)] hjl
   have ho:=o2 j hjl
   cases hr:jM (s.getD j default) (decide ((j:Int)=0))with
   |true=>
    have hn:∀i,i<j+1→jM (s.getD i default) (decide ((i:Int)=0))=true:=fun i hi=>by
     by_cases h:i=j
     ·subst h;exact hr
     ·exact j2 i (by omega)
    simp only[f0,f1,hgj,Cmp.enc,jp,Cmp.eta,V.boo_c,ho,hr,go_sem,zc,seval,reduceIte,reduceCtorEq]
    exact⟨by omega,⟨j+1,clk2+1⟩,⟨by dsimp only;omega,hn⟩,by dsimp only;omega,by dsimp only;omega,rfl⟩
   |false=>
    have e:=hno (by unfold Qj;rw[decide_eq_false_iff_not];exact fun h=>by rw[h.2.2 j hjl]at hr;cases hr)
    simp only[f0,f1,hgj,Cmp.enc,jp,Cmp.eta,V.boo_c,ho,hr,e,go_sem,zc,seval,reduceIte,reduceCtorEq]
def ixS(l:List ByteArray)(x:ByteArray):Int:=fst (fun i=>decide (x=l.getD i ⟨#[]⟩)) (l.length - 0) 0
theorem zwR(l:List ByteArray)(x:ByteArray):0≤ixS l x↔x∈l:=by
 unfold ixS
 rcases kO (fun i=>decide (x=l.getD i ⟨#[]⟩)) (l.length - 0) 0 with⟨h1,h2⟩|⟨m,h1,h2,h3,h4,h5⟩
 ·rw[h1]
  refine⟨fun h=>by omega,fun h=> ?_⟩
  obtain⟨i,hi,rfl⟩:=List.getElem_of_mem h
  have:=h2 i (by omega) (by omega)
  simp[List.getD_eq_getElem?_getD,hi]at this
 ·rw[h1]
  refine⟨fun _=> ?_,fun _=>by omega⟩
  simp only[decide_eq_true_eq]at h4
  rw[h4,List.getD_eq_getElem?_getD,List.getElem?_eq_getElem (by omega)]
  exact List.getElem_mem _
theorem zq5(l:List ByteArray)(x:ByteArray)(hl:l.length≤1000000):zf Tryz.prog 57 [YX l,vs x] (vi (ixS l x)):=by
 refine zf.of (Orc.nil _) zzJ (by simp[c57]) fun w0 own0=> ?_
 simp only[c57,YX,go_sem,zc,seval,reduceIte,reduceCtorEq]
 refine zC.lp (α:=Nat) (fun k=>[(0,.slc 1 (l.map fun n=>[vs n])),(1,vs x),(7,vi l.length),(8,vi k)]) (fun _=>⟨[],0⟩)
  (fun k=>k≤l.length∧fst (fun i=>decide (x=l.getD i ⟨#[]⟩)) (l.length - k) k=ixS l x) (fun k=>l.length - k) 0 ⟨Nat.zero_le _,rfl⟩ (St.mk (by simp[zu,zj,zq])) fun k hk=> ?_
 obtain⟨h1,h2⟩:=hk
 by_cases hkl:k=l.length
 ·subst hkl
  rw[ZT]at h2
  simp only[Int.lt_irrefl,←h2,go_sem,zc,seval,reduceIte,reduceCtorEq]
 ·have e1:(k:Int)<(l.length:Int):=by omega
  rw[kP _ _ _ (by omega)]at h2
  simp only[decide_eq_true_eq]at h2
  simp only[e1,Kf,go_sem,zc,seval,reduceIte,reduceCtorEq]
  refine⟨by omega,fun h=>by rw[if_pos h]at h2;exact h2,fun h=>⟨by omega,k+1,⟨by omega,by rw[if_neg h]at h2;exact h2⟩,by omega,by omega⟩⟩
def Wj:Sum Tryz.prog:=⟨57,fun args=>args= [YX (jb (args.getD 0 .any)),vs ((args.getD 1 .any).str)]∧((jb (args.getD 0 .any))).length≤1000000,fun args=>vi (ixS (jb (args.getD 0 .any)) ((args.getD 1 .any).str)),fun args h=>by
 have:=zq5 (jb (args.getD 0 .any)) ((args.getD 1 .any).str) h.2;rwa [←h.1]at this,true⟩
theorem zsY:Wj.f=57:=rfl
theorem zsX(args:List V):Wj.D args=(args= [YX (jb (args.getD 0 .any)),vs ((args.getD 1 .any).str)]∧((jb (args.getD 0 .any))).length≤1000000):=rfl
theorem zg0:Wj.flat=true:=rfl
theorem zsZ(args:List V):Wj.r args=vi (ixS (jb (args.getD 0 .any)) ((args.getD 1 .any).str)):=rfl
attribute [go_sem] zsY zsX zg0 zsZ
def j4(l:List ByteArray)(x:ByteArray):Bool:=decide (0≤ixS l x)
theorem zaS(l:List ByteArray)(x:ByteArray):j4 l x=true↔x∈l:=by
 unfold j4;rw[decide_eq_true_eq];exact zwR l x
theorem zwk(l:List ByteArray)(x:ByteArray)(hl:l.length≤1000000):zf Tryz.prog 103 [YX l,vs x] (vb (j4 l x)):=by
 refine zf.of (Orc.cons Wj (Orc.nil _)) zvl (by simp[zyK]) fun w0 own0=> ?_
 simp only[zyK,YX,Ym,j4,go_sem,zc,seval,reduceIte,reduceCtorEq]
 exact hl
def Ku:Sum Tryz.prog:=⟨103,fun args=>args= [YX (jb (args.getD 0 .any)),vs ((args.getD 1 .any).str)]∧((jb (args.getD 0 .any))).length≤1000000,fun args=>vb (j4 (jb (args.getD 0 .any)) ((args.getD 1 .any).str)),fun args h=>by
 have:=zwk (jb (args.getD 0 .any)) ((args.getD 1 .any).str) h.2;rwa [←h.1]at this,true⟩
theorem znC:Ku.f=103:=rfl
theorem znB(args:List V):Ku.D args=(args= [YX (jb (args.getD 0 .any)),vs ((args.getD 1 .any).str)]∧((jb (args.getD 0 .any))).length≤1000000):=rfl
theorem zed:Ku.flat=true:=rfl
theorem znD(args:List V):Ku.r args=vb (j4 (jb (args.getD 0 .any)) ((args.getD 1 .any).str)):=rfl
attribute [go_sem] znC znB zed znD
def Y9(name:ByteArray):List (ByteArray×ByteArray)→ByteArray
 | []=>⟨#[]⟩
 |p::r=>if p.1=name then p.2 else Y9 name r
theorem zh0(name:ByteArray)(l:List (ByteArray×ByteArray))(k:Nat)(h:k<l.length):Y9 name (l.drop k)=if(l.getD k (⟨#[]⟩,⟨#[]⟩)).1=name then(l.getD k (⟨#[]⟩,⟨#[]⟩)).2 else Y9 name (l.drop (k+1)):=by
 rw[List.drop_eq_getElem_cons h]
 have e:l.getD k (⟨#[]⟩,⟨#[]⟩)=l[k]:=by rw[List.getD_eq_getElem?_getD,List.getElem?_eq_getElem h];rfl
 rw[e];rfl
theorem zpW(n:Node)(name:ByteArray)(hl:n.attrs.length≤1000000):zf Tryz.prog 184 [.agg n.enc,vs name] (vs (Y9 name n.attrs)):=by
 refine zf.of (Orc.nil _) zv8 (by simp[zzi]) fun w0 own0=> ?_
 simp only[zzi,Node.enc,go_sem,zc,seval,reduceIte,reduceCtorEq]
 refine zC.lp (α:=Nat) (fun k=>[(1,vs name),(2,.ptr 0 0 0 0),(8,vi n.attrs.length),(9,vi k)]) (fun _=>⟨[⟨0,6,[n.enc],false,[]⟩],1⟩)
  (fun k=>k≤n.attrs.length∧Y9 name (n.attrs.drop k)=Y9 name n.attrs) (fun k=>n.attrs.length - k) 0 ⟨Nat.zero_le _,rfl⟩ (St.mk (by simp[zu,zj,zq,Node.enc])) fun k hk=> ?_
 obtain⟨h1,h2⟩:=hk
 by_cases hkl:k=n.attrs.length
 ·subst hkl
  rw[List.drop_length]at h2
  simp only[Node.enc,Int.lt_irrefl,←h2,Y9,go_sem,zc,seval,reduceIte,reduceCtorEq]
 ·have e1:(k:Int)<(n.attrs.length:Int):=by omega
  rw[zh0 _ _ _ (by omega)]at h2
  simp only[Node.enc,e1,Zg,go_sem,zc,seval,reduceIte,reduceCtorEq]
  refine⟨by omega,fun h=>⟨by omega,by rw[if_pos h]at h2;exact h2⟩,fun h=>⟨by omega,k+1,⟨by omega,by rw[if_neg h]at h2;exact h2⟩,by omega,by omega⟩⟩
theorem zwf(n:Node)(name:ByteArray)(hl:n.cls.length≤1000000):zf Tryz.prog 181 [.agg n.enc,vs name] (vb (j4 n.cls name)):=by
 refine zf.of (Orc.cons Ku (Orc.nil _)) zv5 (by simp[zzf]) fun w0 own0=> ?_
 simp only[zzf,Node.enc,YX,Ym,go_sem,zc,seval,reduceIte,reduceCtorEq]
 exact hl
theorem zwe(n:Node)(name:ByteArray)(hl:n.cls.length≤1000000):zf Tryz.prog 161 [.agg n.enc,vs name] (vb (j4 n.cls name)):=by
 refine zf.of (Orc.nil _) zvZ (by simp[zy8]) fun w0 own0=> ?_
 simp only[zy8,Node.enc,go_sem,zc,seval,reduceIte,reduceCtorEq]
 refine zC.lp (α:=Nat) (fun k=>[(1,vs name),(2,.ptr 0 0 0 0),(5,vi k)]) (fun _=>⟨[⟨0,6,[n.enc],false,[]⟩],1⟩)
  (fun k=>k≤n.cls.length∧∀i,i<k→n.cls.getD i ⟨#[]⟩≠name) (fun k=>n.cls.length - k) 0 ⟨Nat.zero_le _,fun i hi=>by omega⟩ (St.mk (by simp[zu,zj,zq])) fun k hk=> ?_
 obtain⟨h1,h2⟩:=hk
 by_cases hkl:k=n.cls.length
 ·subst hkl
  have hh:j4 n.cls name=false:=by
   cases hb:j4 n.cls name with
   |false=>rfl
   |true=>
    rw[zaS]at hb
    obtain⟨i,hi,e⟩:=List.getElem_of_mem hb
    exact absurd (by rw[List.getD_eq_getElem?_getD,List.getElem?_eq_getElem hi];exact e) (h2 i hi)
  simp only[Node.enc,Int.lt_irrefl,hh,go_sem,zc,seval,reduceIte,reduceCtorEq]
 ·have e1:(k:Int)<(n.cls.length:Int):=by omega
  simp only[Node.enc,e1,Kf,go_sem,zc,seval,reduceIte,reduceCtorEq]
  refine⟨by omega,fun h=> ?_,fun h=>⟨by omega,k+1,⟨by omega,fun i hi=> ?_⟩,by omega,by omega⟩⟩
  ·have hh:j4 n.cls name=true:=by
    rw[zaS,←h,List.getD_eq_getElem?_getD,List.getElem?_eq_getElem (by omega)]
    exact List.getElem_mem _
   rw[hh]
  ·by_cases e:i=k
   ·subst e;exact h
   ·exact h2 i (by omega)
def QJ:Sum Tryz.prog:=⟨184,fun args=>args= [.agg (Node.enc (zE (args.getD 0 .any))),vs ((args.getD 1 .any).str)]∧((zE (args.getD 0 .any))).attrs.length≤1000000,fun args=>vs (Y9 ((args.getD 1 .any).str) ((zE (args.getD 0 .any))).attrs),fun args h=>by
 have:=zpW (zE (args.getD 0 .any)) ((args.getD 1 .any).str) h.2;rwa [←h.1]at this,true⟩
theorem zjd:QJ.f=184:=rfl
theorem zjc(args:List V):QJ.D args=(args= [.agg (Node.enc (zE (args.getD 0 .any))),vs ((args.getD 1 .any).str)]∧((zE (args.getD 0 .any))).attrs.length≤1000000):=rfl
theorem zcn:QJ.flat=true:=rfl
theorem zje(args:List V):QJ.r args=vs (Y9 ((args.getD 1 .any).str) ((zE (args.getD 0 .any))).attrs):=rfl
attribute [go_sem] zjd zjc zcn zje
def Xa:Sum Tryz.prog:=⟨181,fun args=>args= [.agg (Node.enc (zE (args.getD 0 .any))),vs ((args.getD 1 .any).str)]∧((zE (args.getD 0 .any))).cls.length≤1000000,fun args=>vb (j4 ((zE (args.getD 0 .any))).cls ((args.getD 1 .any).str)),fun args h=>by
 have:=zwf (zE (args.getD 0 .any)) ((args.getD 1 .any).str) h.2;rwa [←h.1]at this,true⟩
theorem znn:Xa.f=181:=rfl
theorem znm(args:List V):Xa.D args=(args= [.agg (Node.enc (zE (args.getD 0 .any))),vs ((args.getD 1 .any).str)]∧((zE (args.getD 0 .any))).cls.length≤1000000):=rfl
theorem zd8:Xa.flat=true:=rfl
theorem zno(args:List V):Xa.r args=vb (j4 ((zE (args.getD 0 .any))).cls ((args.getD 1 .any).str)):=rfl
attribute [go_sem] znn znm zd8 zno
theorem Ju(k:Int)(a b:ByteArray):yI (.agg [.c (.int .i64 k),.c (.string a),.c (.string b)])=⟨k,a,b⟩:=rfl
theorem Yl(k:Int)(a b:ByteArray):yI (.pp [.c (.int .i64 k),.c (.string a),.c (.string b)])=⟨k,a,b⟩:=rfl
def dPr(v:V):ByteArray×ByteArray:=((v.cs.getD 0 .any).str,(v.cs.getD 1 .any).str)
def K1(v:V):List Smp:=v.es.map zqz
theorem zfr(sz:Nat)(l:List Smp):K1 (.slc sz (l.map Smp.enc))=l:=zyq sz l
theorem zAm(a b:ByteArray):dPr (.agg [.c (.string a),.c (.string b)])=(a,b):=rfl
theorem zCi(p:ByteArray×ByteArray)(s:Smp):zf Tryz.prog 183 [.agg [vs p.1,vs p.2],.pp s.enc] (vb (decide (p.1=s.text))):=by
 refine zf.of (Orc.nil _) zv7 (by simp[zzh]) fun w0 own0=> ?_
 simp only[zzh,Smp.enc,go_sem,zc,seval,reduceIte,reduceCtorEq]
def zhg:Sum Tryz.prog:=⟨183,fun args=>args= [.agg [vs (dPr (args.getD 0 .any)).1,vs (dPr (args.getD 0 .any)).2],.pp (Smp.enc (yI (args.getD 1 .any)))],fun args=>vb (decide (((dPr (args.getD 0 .any))).1=((yI (args.getD 1 .any))).text)),fun args h=>by
 have:=zCi (dPr (args.getD 0 .any)) (yI (args.getD 1 .any));rwa [←h]at this,true⟩
theorem zxK:zhg.f=183:=rfl
theorem zxJ(args:List V):zhg.D args=(args= [.agg [vs (dPr (args.getD 0 .any)).1,vs (dPr (args.getD 0 .any)).2],.pp (Smp.enc (yI (args.getD 1 .any)))]):=rfl
theorem zjE:zhg.flat=true:=rfl
theorem zxL(args:List V):zhg.r args=vb (decide (((dPr (args.getD 0 .any))).1=((yI (args.getD 1 .any))).text)):=rfl
attribute [go_sem] zxK zxJ zjE zxL
def ixA(s:Smp)(l:List (ByteArray×ByteArray)):Int:=fst (fun i=>decide ((l.getD i (⟨#[]⟩,⟨#[]⟩)).1=s.text)) (l.length - 0) 0
theorem zAJ(s:Smp)(l:List (ByteArray×ByteArray))(hl:l.length≤1000000):zf Tryz.prog 187 [.slc 2 (l.map fun p=>[vs p.1,vs p.2]),.fn 183 [.pp s.enc]] (vi (ixA s l)):=by
 refine zf.of (Orc.cons zhg (Orc.nil _)) zwa (by simp[zzk]) fun w0 own0=> ?_
 simp only[zzk,go_sem,zc,seval,reduceIte,reduceCtorEq]
 refine zC.lp (α:=Nat) (fun k=>[(0,.slc 2 (l.map fun p=>[vs p.1,vs p.2])),(1,.fn 183 [.pp s.enc]),(7,vi l.length),(8,vi k)]) (fun _=>⟨[],0⟩)
  (fun k=>k≤l.length∧fst (fun i=>decide ((l.getD i (⟨#[]⟩,⟨#[]⟩)).1=s.text)) (l.length - k) k=ixA s l) (fun k=>l.length - k) 0 ⟨Nat.zero_le _,rfl⟩ (St.mk (by simp[zu,zj,zq])) fun k hk=> ?_
 obtain⟨h1,h2⟩:=hk
 by_cases hkl:k=l.length
 ·subst hkl
  rw[ZT]at h2
  simp only[Int.lt_irrefl,←h2,go_sem,zc,seval,reduceIte,reduceCtorEq]
 ·have e1:(k:Int)<(l.length:Int):=by omega
  rw[kP _ _ _ (by omega)]at h2
  simp only[decide_eq_true_eq]at h2
  simp only[Smp.enc,Yl,zAm,e1,Zg,go_sem,zc,seval,reduceIte,reduceCtorEq]
  refine⟨by omega,fun h=>by rw[if_pos h]at h2;exact h2,fun h=>⟨by omega,k+1,⟨by omega,by rw[if_neg h]at h2;exact h2⟩,by omega,by omega⟩⟩
def zbH:Sum Tryz.prog:=⟨187,fun args=>args= [.slc 2 ((jw (args.getD 0 .any)).map fun p=>[vs p.1,vs p.2]),.fn 183 [.pp (Smp.enc (yI (((args.getD 1 .any).caps).getD 0 .any)))]]∧((jw (args.getD 0 .any))).length≤1000000,fun args=>vi (ixA (yI (((args.getD 1 .any).caps).getD 0 .any)) (jw (args.getD 0 .any))),fun args h=>by
 have:=zAJ (yI (((args.getD 1 .any).caps).getD 0 .any)) (jw (args.getD 0 .any)) h.2;rwa [←h.1]at this,true⟩
theorem zsP:zbH.f=187:=rfl
theorem zsO(args:List V):zbH.D args=(args= [.slc 2 ((jw (args.getD 0 .any)).map fun p=>[vs p.1,vs p.2]),.fn 183 [.pp (Smp.enc (yI (((args.getD 1 .any).caps).getD 0 .any)))]]∧((jw (args.getD 0 .any))).length≤1000000):=rfl
theorem zgX:zbH.flat=true:=rfl
theorem zsQ(args:List V):zbH.r args=vi (ixA (yI (((args.getD 1 .any).caps).getD 0 .any)) (jw (args.getD 0 .any))):=rfl
attribute [go_sem] zsP zsO zgX zsQ
def zaR(s:Smp)(l:List (ByteArray×ByteArray)):Bool:=decide (0≤ixA s l)
theorem zwH(s:Smp)(l:List (ByteArray×ByteArray))(hl:l.length≤1000000):zf Tryz.prog 182 [.slc 2 (l.map fun p=>[vs p.1,vs p.2]),.fn 183 [.pp s.enc]] (vb (zaR s l)):=by
 refine zf.of (Orc.cons zbH (Orc.nil _)) zv6 (by simp[zzg]) fun w0 own0=> ?_
 simp only[zzg,Smp.enc,Yl,Zd,Smp.eta,hl,zaR,go_sem,zc,seval,reduceIte,reduceCtorEq]
def Xi:Sum Tryz.prog:=⟨182,fun args=>args= [.slc 2 ((jw (args.getD 0 .any)).map fun p=>[vs p.1,vs p.2]),.fn 183 [.pp (Smp.enc (yI (((args.getD 1 .any).caps).getD 0 .any)))]]∧((jw (args.getD 0 .any))).length≤1000000,fun args=>vb (zaR (yI (((args.getD 1 .any).caps).getD 0 .any)) (jw (args.getD 0 .any))),fun args h=>by
 have:=zwH (yI (((args.getD 1 .any).caps).getD 0 .any)) (jw (args.getD 0 .any)) h.2;rwa [←h.1]at this,true⟩
theorem znR:Xi.f=182:=rfl
theorem znQ(args:List V):Xi.D args=(args= [.slc 2 ((jw (args.getD 0 .any)).map fun p=>[vs p.1,vs p.2]),.fn 183 [.pp (Smp.enc (yI (((args.getD 1 .any).caps).getD 0 .any)))]]∧((jw (args.getD 0 .any))).length≤1000000):=rfl
theorem zei:Xi.flat=true:=rfl
theorem znS(args:List V):Xi.r args=vb (zaR (yI (((args.getD 1 .any).caps).getD 0 .any)) (jw (args.getD 0 .any))):=rfl
attribute [go_sem] znR znQ zei znS
def Yv(n:Node)(s:Smp):Bool:=if s.kind=1 then true else if s.kind=2 then decide (n.type=s.text)else if s.kind=3 then decide (n.id=s.text)else if s.kind=4 then j4 n.cls s.text else zaR s n.attrs&&(decide (s.kind=5)||decide (Y9 s.text n.attrs=s.val))
def okN(n:Node):Prop:=n.cls.length≤1000000∧n.attrs.length≤1000000
theorem zBd(n:Node)(s:Smp)(h:okN n):zf Tryz.prog 175 [.agg n.enc,.agg s.enc] (vb (Yv n s)):=by
 refine zf.of (Orc.cons Xa (Orc.cons Xi (Orc.cons QJ (Orc.nil _)))) zv3 (by simp[zcc]) fun w0 own0=> ?_
 obtain⟨hc,ha⟩:=h
 unfold Yv
 by_cases h1:s.kind=1
 ·simp only[zcc,Node.enc,Smp.enc,h1,go_sem,zc,seval,reduceIte,reduceCtorEq]
 by_cases h2:s.kind=2
 ·simp only[zcc,Node.enc,Smp.enc,h1,h2,go_sem,zc,seval,reduceIte,reduceCtorEq]
 by_cases h3:s.kind=3
 ·simp only[zcc,Node.enc,Smp.enc,h1,h2,h3,go_sem,zc,seval,reduceIte,reduceCtorEq]
 by_cases h4:s.kind=4
 ·simp only[zcc,Node.enc,Smp.enc,h1,h2,h3,h4,hc,yp,go_sem,zc,seval,reduceIte,reduceCtorEq]
 by_cases h5:s.kind=5
 ·cases hh:zaR s n.attrs with
  |true=>
   have hh5:zaR ⟨5,s.text,s.val⟩ n.attrs=true:=hh
   simp only[zcc,Node.enc,Smp.enc,h1,h2,h3,h4,h5,hh,hh5,ha,yp,Yl,Smp.eta,Zd,go_sem,zc,seval,reduceIte,reduceCtorEq]
  |false=>
   have hh5:zaR ⟨5,s.text,s.val⟩ n.attrs=false:=hh
   simp only[zcc,Node.enc,Smp.enc,h1,h2,h3,h4,h5,hh,hh5,ha,yp,Yl,Smp.eta,Zd,go_sem,zc,seval,reduceIte,reduceCtorEq]
 ·cases hh:zaR s n.attrs with
  |true=>simp only[zcc,Node.enc,Smp.enc,h1,h2,h3,h4,h5,hh,ha,yp,Yl,Smp.eta,Zd,go_sem,zc,seval,reduceIte,reduceCtorEq]
  |false=>simp only[zcc,Node.enc,Smp.enc,h1,h2,h3,h4,h5,hh,ha,yp,Yl,Smp.eta,Zd,go_sem,zc,seval,reduceIte,reduceCtorEq]
def zbS:Sum Tryz.prog:=⟨175,fun args=>args= [.agg (Node.enc (zE (args.getD 0 .any))),.agg (Smp.enc (yI (args.getD 1 .any)))]∧okN (zE (args.getD 0 .any)),fun args=>vb (Yv (zE (args.getD 0 .any)) (yI (args.getD 1 .any))),fun args h=>by
 have:=zBd (zE (args.getD 0 .any)) (yI (args.getD 1 .any)) h.2;rwa [←h.1]at this,true⟩
theorem ztK:zbS.f=175:=rfl
theorem ztJ(args:List V):zbS.D args=(args= [.agg (Node.enc (zE (args.getD 0 .any))),.agg (Smp.enc (yI (args.getD 1 .any)))]∧okN (zE (args.getD 0 .any))):=rfl
theorem zhh:zbS.flat=true:=rfl
theorem ztL(args:List V):zbS.r args=vb (Yv (zE (args.getD 0 .any)) (yI (args.getD 1 .any))):=rfl
attribute [go_sem] ztK ztJ zhh ztL
theorem Kb(a:Int)(b c:ByteArray)(d:List ByteArray)(e:List (ByteArray×ByteArray))(f:ByteArray):
 zE (.pp [.c (.int .i64 a),.c (.string b),.c (.string c),.slc 1 (d.map fun s=>[vs s]),.slc 2 (e.map fun p=>[vs p.1,vs p.2]),.c (.string f)])=⟨a,b,c,d,e,f⟩:=K0 ⟨a,b,c,d,e,f⟩
theorem zmr(S:Nat→Bool)(h:Heap)(sz:Nat)(es:List (List V)):res S h 10 (.slc sz es)=some (.slc sz es):=rfl
theorem zw2(s:Smp)(n:Node)(h:okN n):zf Tryz.prog 174 [.agg s.enc,.pp n.enc] (vb (!Yv n s)):=by
 refine zf.of (Orc.cons zbS (Orc.nil _)) zv2 (by simp[zzc]) fun w0 own0=> ?_
 simp only[zzc,Node.enc,Smp.enc,h,yp,Ju,Smp.eta,Node.eta,go_sem,zc,seval,reduceIte,reduceCtorEq]
def Xn:Sum Tryz.prog:=⟨174,fun args=>args= [.agg (Smp.enc (yI (args.getD 0 .any))),.pp (Node.enc (zE (args.getD 1 .any)))]∧okN (zE (args.getD 1 .any)),fun args=>vb (!Yv (zE (args.getD 1 .any)) (yI (args.getD 0 .any))),fun args h=>by
 have:=zw2 (yI (args.getD 0 .any)) (zE (args.getD 1 .any)) h.2;rwa [←h.1]at this,true⟩
theorem zol:Xn.f=174:=rfl
theorem zok(args:List V):Xn.D args=(args= [.agg (Smp.enc (yI (args.getD 0 .any))),.pp (Node.enc (zE (args.getD 1 .any)))]∧okN (zE (args.getD 1 .any))):=rfl
theorem zes:Xn.flat=true:=rfl
theorem zom(args:List V):Xn.r args=vb (!Yv (zE (args.getD 1 .any)) (yI (args.getD 0 .any))):=rfl
attribute [go_sem] zol zok zes zom
def ixC(n:Node)(l:List Smp):Int:=fst (fun i=> !Yv n (l.getD i default)) (l.length - 0) 0
theorem zAK(n:Node)(l:List Smp)(hn:okN n)(hl:l.length≤1000000):zf Tryz.prog 180 [.slc 3 (l.map Smp.enc),.fn 174 [.pp n.enc]] (vi (ixC n l)):=by
 refine zf.of (Orc.cons Xn (Orc.nil _)) zv4 (by simp[zze]) fun w0 own0=> ?_
 simp only[zze,go_sem,zc,seval,reduceIte,reduceCtorEq]
 refine zC.lp (α:=Nat) (fun k=>[(0,.slc 3 (l.map Smp.enc)),(1,.fn 174 [.pp n.enc]),(7,vi l.length),(8,vi k)]) (fun _=>⟨[],0⟩)
  (fun k=>k≤l.length∧fst (fun i=> !Yv n (l.getD i default)) (l.length - k) k=ixC n l) (fun k=>l.length - k) 0 ⟨Nat.zero_le _,rfl⟩ (St.mk (by simp[zu,zj,zq])) fun k hk=> ?_
 obtain⟨h1,h2⟩:=hk
 by_cases hkl:k=l.length
 ·subst hkl
  rw[ZT]at h2
  simp only[Int.lt_irrefl,←h2,go_sem,zc,seval,reduceIte,reduceCtorEq]
 ·have e1:(k:Int)<(l.length:Int):=by omega
  have e0:(0:Int)≤(k:Int):=by omega
  rw[kP _ _ _ (by omega)]at h2
  cases hs:Yv n (l.getD k default)with
  |true=>
   rw[hs]at h2
   simp only[Node.enc,Smp.enc,Kb,Ju,Smp.eta,Node.eta,hn,hs,e0,e1,je,go_sem,zc,seval,reduceIte,reduceCtorEq]
   exact⟨by omega,k+1,⟨by omega,h2⟩,by omega,by omega⟩
  |false=>
   rw[hs]at h2
   simp only[Node.enc,Smp.enc,Kb,Ju,Smp.eta,Node.eta,hn,hs,e0,e1,je,go_sem,zc,seval,reduceIte,reduceCtorEq]
   exact h2
def zbI:Sum Tryz.prog:=⟨180,fun args=>args= [.slc 3 ((K1 (args.getD 0 .any)).map Smp.enc),.fn 174 [.pp (Node.enc (zE (((args.getD 1 .any).caps).getD 0 .any)))]]∧okN (zE (((args.getD 1 .any).caps).getD 0 .any))∧((K1 (args.getD 0 .any))).length≤1000000,fun args=>vi (ixC (zE (((args.getD 1 .any).caps).getD 0 .any)) (K1 (args.getD 0 .any))),fun args h=>by
 have:=zAK (zE (((args.getD 1 .any).caps).getD 0 .any)) (K1 (args.getD 0 .any)) h.2.1 h.2.2;rwa [←h.1]at this,true⟩
theorem zsS:zbI.f=180:=rfl
theorem zsR(args:List V):zbI.D args=(args= [.slc 3 ((K1 (args.getD 0 .any)).map Smp.enc),.fn 174 [.pp (Node.enc (zE (((args.getD 1 .any).caps).getD 0 .any)))]]∧okN (zE (((args.getD 1 .any).caps).getD 0 .any))∧((K1 (args.getD 0 .any))).length≤1000000):=rfl
theorem zgY:zbI.flat=true:=rfl
theorem zsT(args:List V):zbI.r args=vi (ixC (zE (((args.getD 1 .any).caps).getD 0 .any)) (K1 (args.getD 0 .any))):=rfl
attribute [go_sem] zsS zsR zgY zsT
theorem zwI(n:Node)(l:List Smp)(hn:okN n)(hl:l.length≤1000000):zf Tryz.prog 173 [.slc 3 (l.map Smp.enc),.fn 174 [.pp n.enc]] (vb (decide (0≤ixC n l))):=by
 refine zf.of (Orc.cons zbI (Orc.nil _)) zv1 (by simp[zzb]) fun w0 own0=> ?_
 simp only[zzb,Node.enc,Kb,Node.eta,zfr,hn,hl,go_sem,zc,seval,reduceIte,reduceCtorEq]
def Xj:Sum Tryz.prog:=⟨173,fun args=>args= [.slc 3 ((K1 (args.getD 0 .any)).map Smp.enc),.fn 174 [.pp (Node.enc (zE (((args.getD 1 .any).caps).getD 0 .any)))]]∧okN (zE (((args.getD 1 .any).caps).getD 0 .any))∧((K1 (args.getD 0 .any))).length≤1000000,fun args=>vb (decide (0≤ixC (zE (((args.getD 1 .any).caps).getD 0 .any)) (K1 (args.getD 0 .any)))),fun args h=>by
 have:=zwI (zE (((args.getD 1 .any).caps).getD 0 .any)) (K1 (args.getD 0 .any)) h.2.1 h.2.2;rwa [←h.1]at this,true⟩
theorem znU:Xj.f=173:=rfl
theorem znT(args:List V):Xj.D args=(args= [.slc 3 ((K1 (args.getD 0 .any)).map Smp.enc),.fn 174 [.pp (Node.enc (zE (((args.getD 1 .any).caps).getD 0 .any)))]]∧okN (zE (((args.getD 1 .any).caps).getD 0 .any))∧((K1 (args.getD 0 .any))).length≤1000000):=rfl
theorem zej:Xj.flat=true:=rfl
theorem znV(args:List V):Xj.r args=vb (decide (0≤ixC (zE (((args.getD 1 .any).caps).getD 0 .any)) (K1 (args.getD 0 .any)))):=rfl
attribute [go_sem] znU znT zej znV
def QC(n:Node)(c:Cmp):Bool:= !decide (n.type=⟨#[]⟩)&& !decide (0≤ixC n c.l)
theorem zAX(n:Node)(c:Cmp)(hn:okN n)(hl:c.l.length≤1000000):zf Tryz.prog 158 [.agg n.enc,.agg c.enc] (vb (QC n c)):=by
 refine zf.of (Orc.cons Xj (Orc.nil _)) zvV (by simp[zvU]) fun w0 own0=> ?_
 unfold QC
 by_cases h1:n.type=⟨#[]⟩
 ·simp only[zvU,Node.enc,Cmp.enc,h1,go_sem,zc,seval,reduceIte,reduceCtorEq]
 ·simp only[zvU,Node.enc,Cmp.enc,zmr,Kb,Node.eta,zfr,h1,hn,hl,go_sem,zc,seval,reduceIte,reduceCtorEq]
def Wl:Sum Tryz.prog:=⟨158,fun args=>args= [.agg (Node.enc (zE (args.getD 0 .any))),.agg (Cmp.enc (ZH (args.getD 1 .any)))]∧okN (zE (args.getD 0 .any))∧((ZH (args.getD 1 .any))).l.length≤1000000,fun args=>vb (QC (zE (args.getD 0 .any)) (ZH (args.getD 1 .any))),fun args h=>by
 have:=zAX (zE (args.getD 0 .any)) (ZH (args.getD 1 .any)) h.2.1 h.2.2;rwa [←h.1]at this,true⟩
theorem ztv:Wl.f=158:=rfl
theorem ztu(args:List V):Wl.D args=(args= [.agg (Node.enc (zE (args.getD 0 .any))),.agg (Cmp.enc (ZH (args.getD 1 .any)))]∧okN (zE (args.getD 0 .any))∧((ZH (args.getD 1 .any))).l.length≤1000000):=rfl
theorem zhb:Wl.flat=true:=rfl
theorem ztw(args:List V):Wl.r args=vb (QC (zE (args.getD 0 .any)) (ZH (args.getD 1 .any))):=rfl
attribute [go_sem] ztv ztu zhb ztw
def zaz(l:List Node):Prop:=l.length≤1000∧∀k,k<l.length→okN (l.getD k .zero)∧ -1≤par l k∧par l k<k
def goU(l:List Node)(p:Nat→Bool)(child:Bool):Nat→Int→Bool
 |0,_=>false
 |f+1,a=>if a<0 then false else if p a.toNat=true then true else if child=true then false else goU l p child f (par l a.toNat)
def upN(l:List Node)(s:Sel):Nat→Nat→Bool
 |0,k=>QC (l.getD k .zero) (s.getD 0 default)
 |m+1,k=>QC (l.getD k .zero) (s.getD (m+1) default)&&goU l (upN l s m) (decide ((s.getD (m+1) default).link=2)) (k+1) (par l k)
theorem zhv(s:Sel){m:Nat}(h:m<s.length):(s.take (m+1)).length=m+1:=by rw[List.length_take];omega
theorem zdi(s:Sel){m:Nat}:(s.take (m+1)).getD m default=s.getD m default:=by
 rw[List.getD_eq_getElem?_getD,List.getElem?_take,if_pos (by omega),←List.getD_eq_getElem?_getD]
theorem zCo(l:List Node)(hd:zaz l)(s:Sel)(hs:okC s):∀(m k:Nat),m<s.length→k<l.length→zf Tryz.prog 131 [zp l,vi k,.slc 2 ((s.take (m+1)).map Cmp.enc)] (vb (upN l s m k)):=by
 intro m
 induction m with
 |zero=>
  intro k hm hk
  refine zf.of (Orc.cons Wl (Orc.nil _)) zkh (by simp[zp8]) fun w0 own0=> ?_
  have hlen:=zhv s hm
  have hg:=kD (s.take (0+1)) 0 [.c (.int .i64 0),.c (.slice none 0 0)] (by omega)
  rw[zdi]at hg
  have hgn:=yr l k [.c (.int .i64 0),.c (.string ⟨#[]⟩),.c (.string ⟨#[]⟩),.c (.slice none 0 0),.c (.slice none 0 0),.c (.string ⟨#[]⟩)] hk
  obtain⟨hn,_⟩:=hd.2 k hk
  have ho:=hs.2 0 hm
  have e1:(k:Int)<(l.length:Int):=by omega
  have e0:(0:Int)≤(k:Int):=by omega
  generalize hS:s.take (0+1)=S at*
  have e2:((0+1:Nat):Int) - 1=0:=by omega
  simp only[zp8,zp,go_sem,zc,reduceCtorEq,reduceIte,Nat.reduceEqDiff,Nat.reduceAdd,Nat.reduceSub,Nat.reduceMul,Nat.reduceLT,Nat.reduceLeDiff,Nat.reduceBEq,Int.reduceEq,Int.reduceLT,Int.reduceLE,Int.reduceAdd,Int.reduceSub,Int.reduceNeg,Int.reduceToNat]
  refine zC.lab (α:=Unit) 0 (fun _=>[]) (fun _=>⟨[],0⟩) (fun _=>False) (fun _=>0) rfl ?_ fun x hx=>hx.elim
  cases h1:QC (l.getD k .zero) (s.getD 0 default)with
  |true=>simp only[upN,hlen,e2,hg,hgn,hn,ho,e0,e1,h1,Node.enc,Cmp.enc,yp,Node.eta,jp,Cmp.eta,go_sem,zc,reduceCtorEq,reduceIte,Nat.reduceEqDiff,Nat.reduceAdd,Nat.reduceSub,Nat.reduceMul,Nat.reduceLT,Nat.reduceLeDiff,Nat.reduceBEq,Int.reduceEq,Int.reduceLT,Int.reduceLE,Int.reduceAdd,Int.reduceSub,Int.reduceNeg,Int.reduceToNat]
  |false=>simp only[upN,hlen,e2,hg,hgn,hn,ho,e0,e1,h1,Node.enc,Cmp.enc,yp,Node.eta,jp,Cmp.eta,go_sem,zc,reduceCtorEq,reduceIte,Nat.reduceEqDiff,Nat.reduceAdd,Nat.reduceSub,Nat.reduceMul,Nat.reduceLT,Nat.reduceLeDiff,Nat.reduceBEq,Int.reduceEq,Int.reduceLT,Int.reduceLE,Int.reduceAdd,Int.reduceSub,Int.reduceNeg,Int.reduceToNat]
 |succ m ih=>
  intro k hm hk
  let q:Sum Tryz.prog:=⟨131,fun args=>∃j:Nat,args= [zp l,vi j,.slc 2 ((s.take (m+1)).map Cmp.enc)]∧j<l.length,fun args=>vb (upN l s m ((args.getD 1 .any).int.toNat)),fun args h=>by
   obtain⟨j,rfl,h1⟩:=h
   exact ih j (by omega) h1,true⟩
  have q1:q.f=131:=rfl
  have q2:∀args,q.D args= ∃j:Nat,args= [zp l,vi j,.slc 2 ((s.take (m+1)).map Cmp.enc)]∧j<l.length:=fun _=>rfl
  have q3:q.flat=true:=rfl
  have q4:∀args,q.r args=vb (upN l s m ((args.getD 1 .any).int.toNat)):=fun _=>rfl
  clear_value q
  refine zf.of (Orc.cons q (Orc.cons Wl (Orc.nil _))) zkh (by simp[zp8]) fun w0 own0=> ?_
  have hlen:=zhv s hm
  have hg:=kD (s.take (m+1+1)) (m+1) [.c (.int .i64 0),.c (.slice none 0 0)] (by omega)
  rw[zdi]at hg
  have hgn:=yr l k [.c (.int .i64 0),.c (.string ⟨#[]⟩),.c (.string ⟨#[]⟩),.c (.slice none 0 0),.c (.slice none 0 0),.c (.string ⟨#[]⟩)] hk
  obtain⟨hn,hp1,hp2⟩:=hd.2 k hk
  have hl:=hd.1
  have ho:=hs.2 (m+1) hm
  have hsl:=hs.1
  have e1:(k:Int)<(l.length:Int):=by omega
  have e0:(0:Int)≤(k:Int):=by omega
  have e2:((m+1+1:Nat):Int) - 1=((m+1:Nat):Int):=by omega
  have e3:¬((m+1:Nat):Int)=0:=by omega
  have e4:(0:Int)≤((m+1:Nat):Int):=by omega
  have e5:((m+1:Nat):Int)<((m+1+1:Nat):Int):=by omega
  have hS2:(s.take (m+1+1)).take (m+1)=s.take (m+1):=by rw[List.take_take,Nat.min_eq_left (by omega)]
  generalize hS:s.take (m+1+1)=S at*
  simp only[zp8,zp,go_sem,zc,reduceCtorEq,reduceIte,Nat.reduceEqDiff,Nat.reduceAdd,Nat.reduceSub,Nat.reduceMul,Nat.reduceLT,Nat.reduceLeDiff,Nat.reduceBEq,Int.reduceEq,Int.reduceLT,Int.reduceLE,Int.reduceAdd,Int.reduceSub,Int.reduceNeg,Int.reduceToNat]
  refine zC.lab (α:=Int) 0 (fun a=>[(0,.slc 6 (l.map Node.enc)),(2,.slc 2 (S.map Cmp.enc)),(7,vi ((m+1:Nat):Int)),(8,vi a)]) (fun _=>⟨[],0⟩)
   (fun a=> -1≤a∧a<l.length∧∃f:Nat,a<f∧upN l s (m+1) k=goU l (upN l s m) (decide ((s.getD (m+1) default).link=2)) f a) (fun a=>(a+1).toNat) rfl ?_ fun a ha=> ?_
  ·cases h1:QC (l.getD k .zero) (s.getD (m+1) default)with
   |true=>
    have hu:upN l s (m+1) k=goU l (upN l s m) (decide ((s.getD (m+1) default).link=2)) (k+1) (par l k):=by
     show(QC _ _&&_)=_
     rw[h1];rfl
    simp only[hlen,e2,e3,e4,e5,hg,hgn,hn,ho,e0,e1,h1,Int.toNat_natCast,Node.enc,Cmp.enc,yp,Node.eta,jp,Cmp.eta,q1,q2,q3,q4,go_sem,zc,reduceCtorEq,reduceIte,Nat.reduceEqDiff,Nat.reduceAdd,Nat.reduceSub,Nat.reduceMul,Nat.reduceLT,Nat.reduceLeDiff,Nat.reduceBEq,Int.reduceEq,Int.reduceLT,Int.reduceLE,Int.reduceAdd,Int.reduceSub,Int.reduceNeg,Int.reduceToNat]
    exact⟨⟨by omega,by omega⟩,par l k,⟨hp1,by omega,k+1,by omega,hu⟩,St.mk (by simp[zu,zj,zq,par])⟩
   |false=>
    have hu:upN l s (m+1) k=false:=by
     show(QC _ _&&_)=_
     rw[h1];rfl
    simp only[hu,hlen,e2,e3,e4,e5,hg,hgn,hn,ho,e0,e1,h1,Int.toNat_natCast,Node.enc,Cmp.enc,yp,Node.eta,jp,Cmp.eta,q1,q2,q3,q4,go_sem,zc,reduceCtorEq,reduceIte,Nat.reduceEqDiff,Nat.reduceAdd,Nat.reduceSub,Nat.reduceMul,Nat.reduceLT,Nat.reduceLeDiff,Nat.reduceBEq,Int.reduceEq,Int.reduceLT,Int.reduceLE,Int.reduceAdd,Int.reduceSub,Int.reduceNeg,Int.reduceToNat]
    exact⟨by omega,by omega⟩
  ·obtain⟨a1,a2,f,a3,a4⟩:=ha
   by_cases h0:a<0
   ·have hu:upN l s (m+1) k=false:=by
     rw[a4];cases f with
     |zero=>rfl
     |succ f=>unfold goU;rw[if_pos h0]
    simp only[h0,hu,q1,q2,q3,q4,go_sem,zc,reduceCtorEq,reduceIte,Nat.reduceEqDiff,Nat.reduceAdd,Nat.reduceSub,Nat.reduceMul,Nat.reduceLT,Nat.reduceLeDiff,Nat.reduceBEq,Int.reduceEq,Int.reduceLT,Int.reduceLE,Int.reduceAdd,Int.reduceSub,Int.reduceNeg,Int.reduceToNat]
   ·obtain⟨j,rfl⟩:∃j:Nat,a=j:=⟨a.toNat,by omega⟩
    have hj:j<l.length:=by omega
    obtain⟨f,rfl⟩:∃g,f=g+1:=⟨f - 1,by omega⟩
    have hu:upN l s (m+1) k=if upN l s m j=true then true else if(decide ((s.getD (m+1) default).link=2))=true then false else goU l (upN l s m) (decide ((s.getD (m+1) default).link=2)) f (par l j):=by
     rw[a4];conv=>lhs;unfold goU
     rw[if_neg h0,Int.toNat_natCast]
    obtain⟨_,b1,b2⟩:=hd.2 j hj
    have f1:(j:Int)<(l.length:Int):=by omega
    have f0:(0:Int)≤(j:Int):=by omega
    have hgj:=yr l j [.c (.int .i64 0),.c (.string ⟨#[]⟩),.c (.string ⟨#[]⟩),.c (.slice none 0 0),.c (.slice none 0 0),.c (.string ⟨#[]⟩)] hj
    have g3:∃i:Nat,(j:Int)=i∧i<l.length:=⟨j,rfl,hj⟩
    cases hq:upN l s m j with
    |true=>
     rw[hq,if_pos rfl]at hu
     simp only[h0,f0,f1,hu,hq,hlen,hS2,g3,zp,Int.toNat_natCast,q1,q2,q3,q4,go_sem,zc,reduceCtorEq,reduceIte,Nat.reduceEqDiff,Nat.reduceAdd,Nat.reduceSub,Nat.reduceMul,Nat.reduceLT,Nat.reduceLeDiff,Nat.reduceBEq,Int.reduceEq,Int.reduceLT,Int.reduceLE,Int.reduceAdd,Int.reduceSub,Int.reduceNeg,Int.reduceToNat]
     exact⟨⟨by omega,by omega⟩,j,⟨rfl,by rw[Nat.sub_zero,hS2]⟩,hj⟩
    |false=>
     rw[hq,if_neg (by decide)]at hu
     by_cases hc:(s.getD (m+1) default).link=2
     ·rw[decide_eq_true hc,if_pos rfl]at hu
      simp only[h0,f0,f1,hu,hq,hlen,hS2,hg,hc,e4,e5,g3,zp,Cmp.enc,Int.toNat_natCast,q1,q2,q3,q4,go_sem,zc,reduceCtorEq,reduceIte,Nat.reduceEqDiff,Nat.reduceAdd,Nat.reduceSub,Nat.reduceMul,Nat.reduceLT,Nat.reduceLeDiff,Nat.reduceBEq,Int.reduceEq,Int.reduceLT,Int.reduceLE,Int.reduceAdd,Int.reduceSub,Int.reduceNeg,Int.reduceToNat]
      exact⟨by omega,j,⟨rfl,by rw[Nat.sub_zero,hS2]⟩,hj⟩
     ·rw[decide_eq_false hc,if_neg (by decide)]at hu
      simp only[h0,f0,f1,hq,hlen,hS2,hg,hc,hgj,e4,e5,g3,zp,Cmp.enc,Node.enc,Int.toNat_natCast,q1,q2,q3,q4,go_sem,zc,reduceCtorEq,reduceIte,Nat.reduceEqDiff,Nat.reduceAdd,Nat.reduceSub,Nat.reduceMul,Nat.reduceLT,Nat.reduceLeDiff,Nat.reduceBEq,Int.reduceEq,Int.reduceLT,Int.reduceLE,Int.reduceAdd,Int.reduceSub,Int.reduceNeg,Int.reduceToNat]
      exact⟨by omega,⟨j,⟨rfl,by rw[Nat.sub_zero,hS2]⟩,hj⟩,par l j,⟨b1,by omega,f,by omega,hu⟩,by omega,rfl⟩
def Yh(v:V):List Cmp:=v.es.map zfp
theorem Yi(sz:Nat)(l:List Cmp):Yh (.slc sz (l.map Cmp.enc))=l:=by
 simp[Yh,V.es,Function.comp_def,XS]
theorem Yk(s:Sel):qf (.slc 1 [[.slc 2 (s.map Cmp.enc)]])= [s]:=XV [s]
def jK(l:List Node):Prop:=∀k,k<l.length→okN (l.getD k .zero)
theorem zft{l:List Node}(hl:l.length≤1000)(hn:jK l)(h:zq0 l):zaz l:=by
 refine⟨hl,fun k hk=>⟨hn k hk,?_,Wf h.2 k hk⟩⟩
 by_cases h0:k=0
 ·subst h0
  have:=(WN.1 (h.2 0 hk)).1
  omega
 ·have:=zsb h.2 k (by omega) hk
  omega
theorem zBm(l:List Node)(hd:zaz l)(s:Sel)(hs:okC s)(h0:0<s.length)(k:Int)(hk:0≤k)(hk2:k<l.length):zf Tryz.prog 131 [zp l,vi k,.slc 2 (s.map Cmp.enc)] (vb (upN l s (s.length - 1) k.toNat)):=by
 have:=zCo l hd s hs (s.length - 1) k.toNat (by omega) (by omega)
 rw[show s.length - 1+1=s.length by omega,List.take_length,Int.toNat_of_nonneg hk]at this
 exact this
def zho:Sum Tryz.prog:=⟨131,fun args=>args= [zp (zk (args.getD 0 .any)),vi ((args.getD 1 .any).int),.slc 2 ((Yh (args.getD 2 .any)).map Cmp.enc)]∧zaz (zk (args.getD 0 .any))∧okC (Yh (args.getD 2 .any))∧0<((Yh (args.getD 2 .any))).length∧0≤((args.getD 1 .any).int)∧((args.getD 1 .any).int)<((zk (args.getD 0 .any))).length,fun args=>vb (upN (zk (args.getD 0 .any)) (Yh (args.getD 2 .any)) (((Yh (args.getD 2 .any))).length - 1) (((args.getD 1 .any).int)).toNat),fun args h=>by
 have:=zBm (zk (args.getD 0 .any)) h.2.1 (Yh (args.getD 2 .any)) h.2.2.1 h.2.2.2.1 ((args.getD 1 .any).int) h.2.2.2.2.1 h.2.2.2.2.2;rwa [←h.1]at this,true⟩
theorem zxN:zho.f=131:=rfl
theorem zxM(args:List V):zho.D args=(args= [zp (zk (args.getD 0 .any)),vi ((args.getD 1 .any).int),.slc 2 ((Yh (args.getD 2 .any)).map Cmp.enc)]∧zaz (zk (args.getD 0 .any))∧okC (Yh (args.getD 2 .any))∧0<((Yh (args.getD 2 .any))).length∧0≤((args.getD 1 .any).int)∧((args.getD 1 .any).int)<((zk (args.getD 0 .any))).length):=rfl
theorem zjL:zho.flat=true:=rfl
theorem zxO(args:List V):zho.r args=vb (upN (zk (args.getD 0 .any)) (Yh (args.getD 2 .any)) (((Yh (args.getD 2 .any))).length - 1) (((args.getD 1 .any).int)).toNat):=rfl
attribute [go_sem] zxN zxM zjL zxO
def Xs:Sum Tryz.prog:=⟨130,fun args=>args= [kU (qf (args.getD 0 .any))]∧okM (qf (args.getD 0 .any)),fun args=>vb (Z6 (qf (args.getD 0 .any))),fun args h=>by
 have:=zms (qf (args.getD 0 .any)) h.2;rwa [←h.1]at this,true⟩
theorem zoD:Xs.f=130:=rfl
theorem zoC(args:List V):Xs.D args=(args= [kU (qf (args.getD 0 .any))]∧okM (qf (args.getD 0 .any))):=rfl
theorem zey:Xs.flat=true:=rfl
theorem zoE(args:List V):Xs.r args=vb (Z6 (qf (args.getD 0 .any))):=rfl
attribute [go_sem] zoD zoC zey zoE
def isM(l:List Node)(k:Int)(s:Sel):Bool:=XW l&&decide (0≤k∧k<l.length)&&Z6 [s]&&upN l s (s.length - 1) k.toNat
theorem zgf{s:Sel}(h:Z6 [s]=true):0<s.length∧s.length≤64:=by
 unfold Z6 at h
 rw[decide_eq_true_eq]at h
 have:=h.2 0 (by simp)
 unfold Qj at this
 rw[decide_eq_true_eq]at this
 obtain⟨h1,h2,_⟩:=this
 simp only[List.getD_cons_zero]at h1 h2
 omega
theorem zkI{s:Sel}(hs:okC s):okM [s]:=⟨by simp,fun i hi=>by
 have:i=0:=by simp at hi;omega
 subst this;exact hs⟩
theorem zAI(l:List Node)(k:Int)(s:Sel)(hl:l.length≤1000)(hn:jK l)(hs:okC s):zf Tryz.prog 100 [zp l,vi k,.agg (zU s)] (vb (isM l k s)):=by
 refine zf.of (Orc.cons Kq (Orc.cons Xs (Orc.cons zho (Orc.nil _)))) zvi (by simp[zh2]) fun w0 own0=> ?_
 have ho:=zkI hs
 unfold isM
 by_cases hD:XW l=true
 ·have hI:=(zfs l).1 hD
  have hP:=zft hl hn hI
  have c0:(if 0≤KR l∨l.length=0 then(5:Int)else 0)=0:=by
   unfold XW at hD;rw[decide_eq_true_eq]at hD;rw[if_neg];omega
  by_cases h1:0≤k
  ·by_cases h2:k<(l.length:Int)
   ·cases hr:Z6 [s]with
    |true=>
     obtain⟨r1,_⟩:=zgf hr
     simp only[zh2,zp,zU,kU,zo,Yk,Yi,qe,Z1,c0,hl,hD,hP,hs,h1,h2,ho,hr,r1,List.map_cons,List.map_nil,zd,zb,za,go_sem,seval,reduceIte,reduceCtorEq]
    |false=>
     simp only[zh2,zp,zU,kU,zo,Yk,Yi,qe,Z1,c0,hl,hD,hP,hs,h1,h2,ho,hr,List.map_cons,List.map_nil,zd,zb,za,go_sem,seval,reduceIte,reduceCtorEq]
   ·simp only[zh2,zp,zU,kU,zo,Yk,Yi,qe,Z1,c0,hl,hD,hP,hs,h1,h2,ho,List.map_cons,List.map_nil,zd,zb,za,go_sem,seval,reduceIte,reduceCtorEq]
  ·simp only[zh2,zp,zU,kU,zo,Yk,Yi,qe,Z1,c0,hl,hD,hP,hs,h1,ho,List.map_cons,List.map_nil,zd,zb,za,go_sem,seval,reduceIte,reduceCtorEq]
 ·have c0:(if 0≤KR l∨l.length=0 then(5:Int)else 0)=5:=by
   unfold XW at hD;rw[decide_eq_true_eq]at hD;rw[if_pos];omega
  simp only[zh2,zp,zU,kU,zo,Yk,Yi,qe,Z1,c0,hl,hD,hs,ho,List.map_cons,List.map_nil,zd,zb,za,go_sem,seval,reduceIte,reduceCtorEq]
def zbG:Sum Tryz.prog:=⟨100,fun args=>args= [zp (zk (args.getD 0 .any)),vi ((args.getD 1 .any).int),.agg (zU (q7 (args.getD 2 .any)))]∧((zk (args.getD 0 .any))).length≤1000∧jK (zk (args.getD 0 .any))∧okC (q7 (args.getD 2 .any)),fun args=>vb (isM (zk (args.getD 0 .any)) ((args.getD 1 .any).int) (q7 (args.getD 2 .any))),fun args h=>by
 have:=zAI (zk (args.getD 0 .any)) ((args.getD 1 .any).int) (q7 (args.getD 2 .any)) h.2.1 h.2.2.1 h.2.2.2;rwa [←h.1]at this,true⟩
theorem zsJ:zbG.f=100:=rfl
theorem zsI(args:List V):zbG.D args=(args= [zp (zk (args.getD 0 .any)),vi ((args.getD 1 .any).int),.agg (zU (q7 (args.getD 2 .any)))]∧((zk (args.getD 0 .any))).length≤1000∧jK (zk (args.getD 0 .any))∧okC (q7 (args.getD 2 .any))):=rfl
theorem zgV:zbG.flat=true:=rfl
theorem zsK(args:List V):zbG.r args=vb (isM (zk (args.getD 0 .any)) ((args.getD 1 .any).int) (q7 (args.getD 2 .any))):=rfl
attribute [go_sem] zsJ zsI zgV zsK
theorem zAT(a:Int):zf Tryz.prog 113 [vi a] (vb false):=by
 refine zf.of (Orc.nil _) zvv (by simp[zyR]) fun w0 own0=> ?_
 simp only[zyR,go_sem,zc,seval,reduceIte,reduceCtorEq]
def zbO:Sum Tryz.prog:=⟨113,fun args=>args= [vi ((args.getD 0 .any).int)],fun args=>vb false,fun args h=>by
 have:=zAT ((args.getD 0 .any).int);rwa [←h]at this,true⟩
theorem ztm:zbO.f=113:=rfl
theorem ztl(args:List V):zbO.D args=(args= [vi ((args.getD 0 .any).int)]):=rfl
theorem zg8:zbO.flat=true:=rfl
theorem ztn(args:List V):zbO.r args=vb false:=rfl
attribute [go_sem] ztm ztl zg8 ztn
def KE(a b:Int):Int:=if a<b then -1 else if b<a then 1 else 0
theorem zwh(a b:Int):zf Tryz.prog 89 [vi a,vi b] (vi (KE a b)):=by
 refine zf.of (Orc.cons zbO (Orc.nil _)) zAb (by simp[c89]) fun w0 own0=> ?_
 unfold KE
 by_cases h1:a<b
 ·simp only[c89,h1,go_sem,zc,seval,reduceIte,reduceCtorEq]
 ·by_cases h2:b<a
  ·simp only[c89,h1,h2,go_sem,zc,seval,reduceIte,reduceCtorEq]
  ·simp only[c89,h1,h2,go_sem,zc,seval,reduceIte,reduceCtorEq]
def Xb:Sum Tryz.prog:=⟨89,fun args=>args= [vi ((args.getD 0 .any).int),vi ((args.getD 1 .any).int)],fun args=>vi (KE ((args.getD 0 .any).int) ((args.getD 1 .any).int)),fun args h=>by
 have:=zwh ((args.getD 0 .any).int) ((args.getD 1 .any).int);rwa [←h]at this,true⟩
theorem znt:Xb.f=89:=rfl
theorem zns(args:List V):Xb.D args=(args= [vi ((args.getD 0 .any).int),vi ((args.getD 1 .any).int)]):=rfl
theorem zea:Xb.flat=true:=rfl
theorem znu(args:List V):Xb.r args=vi (KE ((args.getD 0 .any).int) ((args.getD 1 .any).int)):=rfl
attribute [go_sem] znt zns zea znu
def WV:List Int→List Int→Int
 | [],[]=>0
 | [],_::_=> -1
 |_::_,[]=>1
 |x::a,y::b=>if KE x y=0 then WV a b else KE x y
theorem Q7(x y:Int)(a b:List Int):WV (x::a) (y::b)=if KE x y=0 then WV a b else KE x y:=rfl
theorem Qu(l:List Int)(n:Nat)(h:n<l.length):l.drop n=l.getD n 0::l.drop (n+1):=by
 rw[List.drop_eq_getElem_cons h,List.getD_eq_getElem?_getD,List.getElem?_eq_getElem h];rfl
theorem zwi(a b:List Int)(ha:a.length≤1000000)(hb:b.length≤1000000):zf Tryz.prog 55 [zD a,zD b] (vi (WV a b)):=by
 refine zf.of (Orc.cons Xb (Orc.nil _)) zzI (by simp[c55]) fun w0 own0=> ?_
 simp only[c55,zD,go_sem,zc,seval,reduceIte,reduceCtorEq]
 refine zC.lp (α:=Nat) (fun k=>[(0,.slc 1 (a.map fun n=>[vi n])),(1,.slc 1 (b.map fun n=>[vi n])),(9,.slc 1 (a.map fun n=>[vi n])),(10,vi a.length),(11,vi k)]) (fun _=>⟨[],0⟩)
  (fun k=>k≤a.length∧k≤b.length∧WV a b=WV (a.drop k) (b.drop k)) (fun k=>a.length - k) 0 ⟨Nat.zero_le _,Nat.zero_le _,rfl⟩ (St.mk (by simp[zu,zj,zq])) fun k hk=> ?_
 obtain⟨h1,h2,h3⟩:=hk
 by_cases hkl:k=a.length
 ·subst hkl
  rw[List.drop_length]at h3
  by_cases hb2:a.length<b.length
  ·rw[Qu b _ hb2]at h3
   have e1:(a.length:Int)<(b.length:Int):=by omega
   simp only[Int.lt_irrefl,e1,h3,WV,go_sem,zc,seval,reduceIte,reduceCtorEq]
  ·have e0:a.length=b.length:=by omega
   rw[List.drop_eq_nil_of_le (by omega)]at h3
   have e1:¬(a.length:Int)<(b.length:Int):=by omega
   simp only[Int.lt_irrefl,e1,h3,WV,go_sem,zc,seval,reduceIte,reduceCtorEq]
 ·have e1:(k:Int)<(a.length:Int):=by omega
  have e0:(0:Int)≤(k:Int):=by omega
  rw[Qu a k (by omega)]at h3
  by_cases hb2:k<b.length
  ·rw[Qu b k hb2]at h3
   have e2:¬(b.length:Int)≤(k:Int):=by omega
   have e3:(k:Int)<(b.length:Int):=by omega
   rw[Q7]at h3
   by_cases hc:KE (a.getD k 0) (b.getD k 0)=0
   ·rw[if_pos hc]at h3
    simp only[e0,e1,e2,e3,hc,qg,go_sem,zc,seval,reduceIte,reduceCtorEq]
    exact⟨by omega,k+1,⟨by omega,by omega,h3⟩,by omega,by omega⟩
   ·rw[if_neg hc]at h3
    simp only[e0,e1,e2,e3,hc,h3,qg,go_sem,zc,seval,reduceIte,reduceCtorEq]
  ·rw[List.drop_eq_nil_of_le (show b.length≤k by omega)]at h3
   have e2:(b.length:Int)≤(k:Int):=by omega
   simp only[e0,e1,e2,h3,WV,qg,go_sem,zc,seval,reduceIte,reduceCtorEq]
def Xc:Sum Tryz.prog:=⟨55,fun args=>args= [zD (zJ (args.getD 0 .any)),zD (zJ (args.getD 1 .any))]∧((zJ (args.getD 0 .any))).length≤1000000∧((zJ (args.getD 1 .any))).length≤1000000,fun args=>vi (WV (zJ (args.getD 0 .any)) (zJ (args.getD 1 .any))),fun args h=>by
 have:=zwi (zJ (args.getD 0 .any)) (zJ (args.getD 1 .any)) h.2.1 h.2.2;rwa [←h.1]at this,true⟩
theorem znw:Xc.f=55:=rfl
theorem znv(args:List V):Xc.D args=(args= [zD (zJ (args.getD 0 .any)),zD (zJ (args.getD 1 .any))]∧((zJ (args.getD 0 .any))).length≤1000000∧((zJ (args.getD 1 .any))).length≤1000000):=rfl
theorem zeb:Xc.flat=true:=rfl
theorem znx(args:List V):Xc.r args=vi (WV (zJ (args.getD 0 .any)) (zJ (args.getD 1 .any))):=rfl
attribute [go_sem] znw znv zeb znx
structure W3 where
 a:Int
 b:Int
 c:Int
def W3.enc(w:W3):List V:=[vi w.a,vi w.b,vi w.c]
def abv(x y:W3):Bool:=decide (0<WV [x.a,x.b,x.c] [y.a,y.b,y.c])
theorem zAl(a b c:Int):zJ (.slc 1 [[.c (.int .i64 a)],[.c (.int .i64 b)],[.c (.int .i64 c)]])= [a,b,c]:=zT 1 [a,b,c]
theorem zpL(x y:W3):zf Tryz.prog 28 [.agg x.enc,.agg y.enc] (vb (abv x y)):=by
 refine zf.of (Orc.cons Xc (Orc.nil _)) zzo (by simp[c28]) fun w0 own0=> ?_
 simp only[c28,W3.enc,abv,zD,zAl,go_sem,zc,seval,reduceIte,reduceCtorEq]
def dW3(v:V):W3:=⟨(v.cs.getD 0 .any).int,(v.cs.getD 1 .any).int,(v.cs.getD 2 .any).int⟩
theorem Z2(a b c:Int):dW3 (.agg [.c (.int .i64 a),.c (.int .i64 b),.c (.int .i64 c)])=⟨a,b,c⟩:=rfl
def Wg:Sum Tryz.prog:=⟨28,fun args=>args= [.agg (W3.enc (dW3 (args.getD 0 .any))),.agg (W3.enc (dW3 (args.getD 1 .any)))],fun args=>vb (abv (dW3 (args.getD 0 .any)) (dW3 (args.getD 1 .any))),fun args h=>by
 have:=zpL (dW3 (args.getD 0 .any)) (dW3 (args.getD 1 .any));rwa [←h]at this,true⟩
theorem zsf:Wg.f=28:=rfl
theorem zse(args:List V):Wg.D args=(args= [.agg (W3.enc (dW3 (args.getD 0 .any))),.agg (W3.enc (dW3 (args.getD 1 .any)))]):=rfl
theorem zgA:Wg.flat=true:=rfl
theorem zsg(args:List V):Wg.r args=vb (abv (dW3 (args.getD 0 .any)) (dW3 (args.getD 1 .any))):=rfl
attribute [go_sem] zsf zse zgA zsg
theorem Q6(x y:W3):abv x y=true↔(y.a<x.a∨(x.a=y.a∧(y.b<x.b∨(x.b=y.b∧y.c<x.c)))):=by
 unfold abv
 rw[decide_eq_true_eq,Q7,Q7,Q7]
 show 0<(if KE x.a y.a=0 then if KE x.b y.b=0 then if KE x.c y.c=0 then 0 else KE x.c y.c else KE x.b y.b else KE x.a y.a)↔_
 unfold KE
 split<;>split<;>(try split)<;>(try split)<;>(try split)<;>(try split)<;>(try split)<;>(try split)<;>(try split)<;>omega
theorem zk5(x y:W3):zf Tryz.prog 29 [.agg x.enc,.agg y.enc] (vb (abv x y)):=by
 refine zf.of (Orc.nil _) zzp (by simp[c29]) fun w0 own0=> ?_
 simp only[c29,W3.enc,go_sem,zc,seval,reduceIte,reduceCtorEq]
 refine zC.lp (α:=Nat) (fun k=>[(2,.ptr 0 0 0 0),(3,.ptr 1 1 0 0),(5,vi k)]) (fun _=>⟨[⟨0,3,[x.enc],false,[]⟩,⟨1,3,[y.enc],false,[]⟩],2⟩)
  (fun k=>k≤3∧(0<k→x.a=y.a)∧(1<k→x.b=y.b)∧(2<k→x.c=y.c)) (fun k=>3 - k) 0 ⟨by omega,by omega,by omega,by omega⟩ (St.mk (by simp[zu,zj,zq])) fun k hk=> ?_
 obtain⟨h1,h2,h3,h4⟩:=hk
 have ha:=Q6 x y
 rcases(show k=0∨k=1∨k=2∨k=3 by omega)with rfl|rfl|rfl|rfl
 ·by_cases h:x.a=y.a
  ·simp only[W3.enc,h,go_sem,zc,seval,reduceIte,reduceCtorEq]
   first|exact⟨1,⟨by omega,by omega,by omega⟩,by omega,by omega⟩|exact⟨by omega,1,⟨by omega,by omega,by omega⟩,by omega,by omega⟩
  ·have e:abv x y=decide (y.a<x.a):=by rw[Bool.eq_iff_iff,ha,decide_eq_true_eq];omega
   simp only[W3.enc,h,e,go_sem,zc,seval,reduceIte,reduceCtorEq]
 ·have g:=h2 (by omega)
  by_cases h:x.b=y.b
  ·simp only[W3.enc,g,h,go_sem,zc,seval,reduceIte,reduceCtorEq]
   exact⟨2,⟨by omega,by omega⟩,by omega,by omega⟩
  ·have e:abv x y=decide (y.b<x.b):=by rw[Bool.eq_iff_iff,ha,decide_eq_true_eq];omega
   simp only[W3.enc,h,e,go_sem,zc,seval,reduceIte,reduceCtorEq]
 ·have g:=h2 (by omega)
  have g2:=h3 (by omega)
  by_cases h:x.c=y.c
  ·simp only[W3.enc,g,g2,h,go_sem,zc,seval,reduceIte,reduceCtorEq]
   exact⟨3,by omega,by omega,by omega⟩
  ·have e:abv x y=decide (y.c<x.c):=by rw[Bool.eq_iff_iff,ha,decide_eq_true_eq];omega
   simp only[W3.enc,h,e,go_sem,zc,seval,reduceIte,reduceCtorEq]
 ·have e:abv x y=false:=by
   cases hb:abv x y with
   |false=>rfl
   |true=>rw[ha]at hb;omega
  simp only[W3.enc,e,go_sem,zc,seval,reduceIte,reduceCtorEq]
def Kp:Sum Tryz.prog:=⟨29,fun args=>args= [.agg (W3.enc (dW3 (args.getD 0 .any))),.agg (W3.enc (dW3 (args.getD 1 .any)))],fun args=>vb (abv (dW3 (args.getD 0 .any)) (dW3 (args.getD 1 .any))),fun args h=>by
 have:=zk5 (dW3 (args.getD 0 .any)) (dW3 (args.getD 1 .any));rwa [←h]at this,true⟩
theorem zmP:Kp.f=29:=rfl
theorem zmO(args:List V):Kp.D args=(args= [.agg (W3.enc (dW3 (args.getD 0 .any))),.agg (W3.enc (dW3 (args.getD 1 .any)))]):=rfl
theorem zdY:Kp.flat=true:=rfl
theorem zmQ(args:List V):Kp.r args=vb (abv (dW3 (args.getD 0 .any)) (dW3 (args.getD 1 .any))):=rfl
attribute [go_sem] zmP zmO zdY zmQ
def atr(s:Smp):List (ByteArray×ByteArray)→Bool
 | []=>false
 |p::r=>if p.1=s.text then decide (s.kind=5)||decide (p.2=s.val)else atr s r
def zk9(s:Smp):List (ByteArray×ByteArray)→Bool
 | []=>false
 |p::r=>decide (p.1=s.text)||zk9 s r
theorem zpU(s:Smp):∀l,atr s l=(zk9 s l&&(decide (s.kind=5)||decide (Y9 s.text l=s.val)))
 | []=>rfl
 |p::r=>by
  unfold atr zk9 Y9
  by_cases h:p.1=s.text
  ·rw[if_pos h,if_pos h,decide_eq_true h];rfl
  ·rw[if_neg h,if_neg h,decide_eq_false h,zpU s r];rfl
theorem ze8(s:Smp):∀l,zk9 s l=true↔∃i,i<l.length∧(l.getD i (⟨#[]⟩,⟨#[]⟩)).1=s.text
 | []=>⟨fun h=>(by cases h),fun⟨i,h,_⟩=>absurd h (Nat.not_lt_zero _)⟩
 |p::r=>by
  unfold zk9
  rw[Bool.or_eq_true,decide_eq_true_eq,ze8 s r]
  constructor
  ·rintro(h|⟨i,h1,h2⟩)
   ·exact⟨0,by simp,h⟩
   ·exact⟨i+1,by simp;omega,by simpa using h2⟩
  ·rintro⟨i,h1,h2⟩
   cases i with
   |zero=>exact .inl h2
   |succ i=>exact .inr ⟨i,by simp at h1;omega,by simpa using h2⟩
theorem zqX(s:Smp)(l:List (ByteArray×ByteArray)):zaR s l=zk9 s l:=by
 rw[Bool.eq_iff_iff,ze8]
 unfold zaR ixA
 rw[decide_eq_true_eq]
 rcases kO (fun i=>decide ((l.getD i (⟨#[]⟩,⟨#[]⟩)).1=s.text)) (l.length - 0) 0 with⟨h1,h2⟩|⟨m,h1,h2,h3,h4,h5⟩
 ·rw[h1]
  refine⟨fun h=>by omega,fun⟨i,i1,i2⟩=> ?_⟩
  have:=h2 i (by omega) (by omega)
  rw[decide_eq_false_iff_not]at this
  exact absurd i2 this
 ·rw[h1]
  exact⟨fun _=>⟨m,by omega,by simpa using h4⟩,fun _=>by omega⟩
theorem zpT(s:Smp)(l:List (ByteArray×ByteArray))(k:Nat)(h:k<l.length):atr s (l.drop k)=if(l.getD k (⟨#[]⟩,⟨#[]⟩)).1=s.text then decide (s.kind=5)||decide ((l.getD k (⟨#[]⟩,⟨#[]⟩)).2=s.val)else atr s (l.drop (k+1)):=by
 rw[List.drop_eq_getElem_cons h,List.getD_eq_getElem?_getD,List.getElem?_eq_getElem h];rfl
def Yy:Sum Tryz.prog:=⟨161,fun args=>args= [.agg (Node.enc (zE (args.getD 0 .any))),vs ((args.getD 1 .any).str)]∧((zE (args.getD 0 .any))).cls.length≤1000000,fun args=>vb (j4 ((zE (args.getD 0 .any))).cls ((args.getD 1 .any).str)),fun args h=>by
 have:=zwe (zE (args.getD 0 .any)) ((args.getD 1 .any).str) h.2;rwa [←h.1]at this,true⟩
theorem zgJ:Yy.f=161:=rfl
theorem zgI(args:List V):Yy.D args=(args= [.agg (Node.enc (zE (args.getD 0 .any))),vs ((args.getD 1 .any).str)]∧((zE (args.getD 0 .any))).cls.length≤1000000):=rfl
theorem zbE:Yy.flat=true:=rfl
theorem zgK(args:List V):Yy.r args=vb (j4 ((zE (args.getD 0 .any))).cls ((args.getD 1 .any).str)):=rfl
attribute [go_sem] zgJ zgI zbE zgK
theorem zxr(n:Node)(s:Smp)(h:okN n):zf Tryz.prog 138 [.agg n.enc,.agg s.enc] (vb (Yv n s)):=by
 refine zf.of (Orc.cons Yy (Orc.nil _)) zvO (by simp[zh3]) fun w0 own0=> ?_
 obtain⟨hc,ha⟩:=h
 unfold Yv
 by_cases h1:s.kind=1
 ·simp only[zh3,Node.enc,Smp.enc,h1,go_sem,zc,seval,reduceIte,reduceCtorEq]
 by_cases h2:s.kind=2
 ·simp only[zh3,Node.enc,Smp.enc,h1,h2,go_sem,zc,seval,reduceIte,reduceCtorEq]
 by_cases h3:s.kind=3
 ·simp only[zh3,Node.enc,Smp.enc,h1,h2,h3,go_sem,zc,seval,reduceIte,reduceCtorEq]
 by_cases h4:s.kind=4
 ·simp only[zh3,Node.enc,Smp.enc,h1,h2,h3,h4,hc,yp,go_sem,zc,seval,reduceIte,reduceCtorEq]
 rw[if_neg h1,if_neg h2,if_neg h3,if_neg h4,zqX,←zpU]
 simp only[zh3,Node.enc,Smp.enc,h1,h2,h3,h4,go_sem,zc,seval,reduceIte,reduceCtorEq]
 refine zC.lp (α:=Nat) (fun k=>[(2,.ptr 0 0 0 0),(3,.ptr 1 1 0 0),(5,vi k)]) (fun _=>⟨[⟨0,6,[n.enc],false,[]⟩,⟨1,3,[s.enc],false,[]⟩],2⟩)
  (fun k=>k≤n.attrs.length∧atr s n.attrs=atr s (n.attrs.drop k)) (fun k=>n.attrs.length - k) 0 ⟨Nat.zero_le _,rfl⟩ (St.mk (by simp[zu,zj,zq])) fun k hk=> ?_
 obtain⟨k1,k2⟩:=hk
 by_cases he:k=n.attrs.length
 ·subst he
  rw[List.drop_length]at k2
  simp only[Node.enc,Smp.enc,Int.lt_irrefl,k2,atr,go_sem,zc,seval,reduceIte,reduceCtorEq]
 ·have e1:(k:Int)<(n.attrs.length:Int):=by omega
  have e0:(0:Int)≤(k:Int):=by omega
  rw[zpT s n.attrs k (by omega)]at k2
  by_cases h:(n.attrs.getD k (⟨#[]⟩,⟨#[]⟩)).1=s.text
  ·rw[if_pos h]at k2
   by_cases h5:s.kind=5
   ·simp only[Node.enc,Smp.enc,e0,e1,Zg,h,h5,k2,go_sem,zc,seval,reduceIte,reduceCtorEq]
   ·simp only[Node.enc,Smp.enc,e0,e1,Zg,h,h5,k2,go_sem,zc,seval,reduceIte,reduceCtorEq]
  ·rw[if_neg h]at k2
   simp only[Node.enc,Smp.enc,e0,e1,Zg,h,go_sem,zc,seval,reduceIte,reduceCtorEq]
   exact⟨by omega,k+1,⟨by omega,k2⟩,by omega,by omega⟩
def Xw:Sum Tryz.prog:=⟨138,fun args=>args= [.agg (Node.enc (zE (args.getD 0 .any))),.agg (Smp.enc (yI (args.getD 1 .any)))]∧okN (zE (args.getD 0 .any)),fun args=>vb (Yv (zE (args.getD 0 .any)) (yI (args.getD 1 .any))),fun args h=>by
 have:=zxr (zE (args.getD 0 .any)) (yI (args.getD 1 .any)) h.2;rwa [←h.1]at this,true⟩
theorem zoM:Xw.f=138:=rfl
theorem zoL(args:List V):Xw.D args=(args= [.agg (Node.enc (zE (args.getD 0 .any))),.agg (Smp.enc (yI (args.getD 1 .any)))]∧okN (zE (args.getD 0 .any))):=rfl
theorem zeB:Xw.flat=true:=rfl
theorem zoN(args:List V):Xw.r args=vb (Yv (zE (args.getD 0 .any)) (yI (args.getD 1 .any))):=rfl
attribute [go_sem] zoM zoL zeB zoN
def Jh(w:W3)(k:Int):W3:=if k=3 then⟨w.a+1,w.b,w.c⟩else if k=4∨k=5∨k=6 then⟨w.a,w.b+1,w.c⟩else if k=2 then⟨w.a,w.b,w.c+1⟩else w
def wtC(w:W3)(l:List Smp):W3:=l.foldl (fun w x=>Jh w x.kind) w
def wtF(w:W3)(s:Sel):W3:=s.foldl (fun w c=>wtC w c.l) w
def wtS(s:Sel):W3:=wtF ⟨0,0,0⟩ s
def W3.le(w:W3)(n:Int):Prop:=0≤w.a∧w.a≤n∧0≤w.b∧w.b≤n∧0≤w.c∧w.c≤n
theorem zke{w:W3}{n:Int}(k:Int)(h:w.le n):(Jh w k).le (n+1):=by
 obtain⟨h1,h2,h3,h4,h5,h6⟩:=h
 unfold Jh
 split
 ·refine⟨?_,?_,?_,?_,?_,?_⟩<;>dsimp only<;>omega
 split
 ·refine⟨?_,?_,?_,?_,?_,?_⟩<;>dsimp only<;>omega
 split
 ·refine⟨?_,?_,?_,?_,?_,?_⟩<;>dsimp only<;>omega
 ·refine⟨?_,?_,?_,?_,?_,?_⟩<;>omega
theorem W3.le_mono{w:W3}{n m:Int}(h:w.le n)(hm:n≤m):w.le m:=by
 obtain⟨h1,h2,h3,h4,h5,h6⟩:=h
 exact⟨h1,by omega,h3,by omega,h5,by omega⟩
theorem zhQ(w:W3)(l:List Smp)(k:Nat)(h:k<l.length):wtC w (l.drop k)=wtC (Jh w (l.getD k default).kind) (l.drop (k+1)):=by
 rw[List.drop_eq_getElem_cons h,List.getD_eq_getElem?_getD,List.getElem?_eq_getElem h];rfl
theorem zhR(w:W3)(s:Sel)(k:Nat)(h:k<s.length):wtF w (s.drop k)=wtF (wtC w (s.getD k default).l) (s.drop (k+1)):=by
 rw[List.drop_eq_getElem_cons h,List.getD_eq_getElem?_getD,List.getElem?_eq_getElem h];rfl
structure WtS where
 n:Nat
 w:W3
 clk:Nat
theorem W3.eta(w:W3):(⟨w.a,w.b,w.c⟩:W3)=w:=rfl
theorem zjZ(s:Sel)(hs:okC s):zf Tryz.prog 101 [.agg (zU s)] (.agg (wtS s).enc):=by
 refine zf.of (Orc.nil _) zvj (by simp[zyI]) fun w0 own0=> ?_
 obtain⟨hs1,hs2⟩:=hs
 simp only[zyI,zU,go_sem,zc,seval,reduceIte,reduceCtorEq]
 refine zC.lp (α:=WtS) (fun a=>[(2,.ptr 1 1 0 0),(3,.ptr 2 2 0 0),(9,.slc 2 (s.map Cmp.enc)),(10,vi s.length),(11,vi a.n)])
  (fun a=>⟨[⟨0,1,[[.slc 2 (s.map Cmp.enc)]],false,[]⟩,⟨1,3,[[vi 0,vi 0,vi 0]],false,[]⟩,⟨2,3,[a.w.enc],false,[]⟩],a.clk⟩)
  (fun a=>a.n≤s.length∧a.w.le (a.n*1000000)∧wtS s=wtF a.w (s.drop a.n)) (fun a=>s.length - a.n) ⟨0,⟨0,0,0⟩,3⟩ ⟨Nat.zero_le _,⟨by simp,by simp,by simp,by simp,by simp,by simp⟩,rfl⟩ (St.cut (by simp[zu,zj,zq]) rfl rfl) fun a ha=> ?_
 obtain⟨k,w,clk⟩:=a
 simp only at ha
 obtain⟨k1,k2,k3⟩:=ha
 by_cases he:k=s.length
 ·subst he
  rw[List.drop_length]at k3
  have e:wtS s=w:=k3
  simp only[W3.enc,Int.lt_irrefl,e,go_sem,zc,seval,reduceIte,reduceCtorEq]
 ·have e1:(k:Int)<(s.length:Int):=by omega
  have e0:(0:Int)≤(k:Int):=by omega
  have hlt:k<s.length:=by omega
  have hg:=kD s k [.c (.int .i64 0),.c (.slice none 0 0)] hlt
  have hcl:=hs2 k hlt
  rw[zhR w s k hlt]at k3
  generalize hx:s.getD k default=c at*
  simp only[W3.enc,e0,e1,hg,Cmp.enc,go_sem,zc,seval,reduceIte,reduceCtorEq]
  refine zC.lp (α:=WtS) (fun a=>[(2,.ptr 1 1 0 0),(3,.ptr 2 2 0 0),(9,.slc 2 (s.map Cmp.enc)),(10,vi s.length),(11,vi k),(16,.slc 3 (c.l.map Smp.enc)),(17,vi c.l.length),(18,vi a.n)])
   (fun a=>⟨[⟨0,1,[[.slc 2 (s.map Cmp.enc)]],false,[]⟩,⟨1,3,[[vi 0,vi 0,vi 0]],false,[]⟩,⟨2,3,[a.w.enc],false,[]⟩],a.clk⟩)
   (fun a=>a.n≤c.l.length∧a.w.le (k*1000000+a.n)∧wtC w c.l=wtC a.w (c.l.drop a.n)) (fun a=>c.l.length - a.n) ⟨0,w,clk+1⟩ ⟨Nat.zero_le _,by simpa using k2,rfl⟩ (St.cut (by simp[zu,zj,ev,W3.enc]) rfl rfl) fun a ha=> ?_
  obtain⟨j,u,clk2⟩:=a
  simp only at ha
  obtain⟨j1,j2,j3⟩:=ha
  by_cases hj:j=c.l.length
  ·subst hj
   rw[List.drop_length]at j3
   have j3:wtC w c.l=u:=j3
   rw[j3]at k3
   simp only[W3.enc,Int.lt_irrefl,go_sem,zc,seval,reduceIte,reduceCtorEq]
   exact⟨by omega,⟨k+1,u,clk2⟩,⟨by dsimp only;omega,W3.le_mono j2 (by dsimp only;omega),k3⟩,by dsimp only;omega,by dsimp only;omega,⟨rfl,rfl,rfl⟩,rfl⟩
  ·have f1:(j:Int)<(c.l.length:Int):=by omega
   have f0:(0:Int)≤(j:Int):=by omega
   have hjl:j<c.l.length:=by omega
   have hgj:=je c.l j
   rw[zhQ u c.l j hjl]at j3
   generalize hy:c.l.getD j default=y at*
   obtain⟨b1,b2,b3,b4,b5,b6⟩:=id j2
   have le:=zke y.kind j2
   have fin:(-9223372036854775808≤(j:Int)+1∧(j:Int)+1≤9223372036854775807)∧
    ∃b:WtS,(b.n≤c.l.length∧b.w.le (k*1000000+b.n)∧wtC w c.l=wtC b.w (c.l.drop b.n))∧c.l.length - b.n<c.l.length - j∧(j:Int)+1=(b.n:Int)∧((Jh u y.kind).a=b.w.a∧(Jh u y.kind).b=b.w.b∧(Jh u y.kind).c=b.w.c)∧clk2+1=b.clk:=
    ⟨by omega,⟨j+1,Jh u y.kind,clk2+1⟩,⟨by dsimp only;omega,W3.le_mono le (by dsimp only;omega),j3⟩,by dsimp only;omega,by dsimp only;omega,⟨rfl,rfl,rfl⟩,rfl⟩
   unfold Jh at fin
   by_cases x3:y.kind=3
   ·rw[if_pos x3]at fin
    simp only[W3.enc,f0,f1,hgj,Smp.enc,x3,go_sem,zc,seval,reduceIte,reduceCtorEq]
    exact⟨by omega,fin⟩
   rw[if_neg x3]at fin
   by_cases x4:y.kind=4
   ·rw[if_pos (.inl x4)]at fin
    simp only[W3.enc,f0,f1,hgj,Smp.enc,x4,go_sem,zc,seval,reduceIte,reduceCtorEq]
    exact⟨by omega,fin⟩
   by_cases x5:y.kind=5
   ·rw[if_pos (.inr (.inl x5))]at fin
    simp only[W3.enc,f0,f1,hgj,Smp.enc,x5,go_sem,zc,seval,reduceIte,reduceCtorEq]
    exact⟨by omega,fin⟩
   by_cases x6:y.kind=6
   ·rw[if_pos (.inr (.inr x6))]at fin
    simp only[W3.enc,f0,f1,hgj,Smp.enc,x6,go_sem,zc,seval,reduceIte,reduceCtorEq]
    exact⟨by omega,fin⟩
   rw[if_neg (by omega)]at fin
   by_cases x2:y.kind=2
   ·rw[if_pos x2]at fin
    simp only[W3.enc,f0,f1,hgj,Smp.enc,x2,go_sem,zc,seval,reduceIte,reduceCtorEq]
    exact⟨by omega,fin⟩
   ·rw[if_neg x2]at fin
    simp only[W3.enc,f0,f1,hgj,Smp.enc,x2,x3,x4,x5,x6,go_sem,zc,seval,reduceIte,reduceCtorEq]
    exact fin
def XC:Sum Tryz.prog:=⟨101,fun args=>args= [.agg (zU (q7 (args.getD 0 .any)))]∧okC (q7 (args.getD 0 .any)),fun args=>.agg (wtS (q7 (args.getD 0 .any))).enc,fun args h=>by
 have:=zjZ (q7 (args.getD 0 .any)) h.2;rwa [←h.1]at this,false⟩
theorem zpg:XC.f=101:=rfl
theorem zpf(args:List V):XC.D args=(args= [.agg (zU (q7 (args.getD 0 .any)))]∧okC (q7 (args.getD 0 .any))):=rfl
theorem zeL:XC.flat=false:=rfl
theorem zph(args:List V):XC.r args= .agg (wtS (q7 (args.getD 0 .any))).enc:=rfl
attribute [go_sem] zpg zpf zeL zph
theorem zjY(s:Sel)(hs:okC s):zf Tryz.prog 88 [.agg (zU s)] (.agg (wtS s).enc):=by
 refine zf.of (Orc.nil _) zAa (by simp[c88]) fun w0 own0=> ?_
 obtain⟨hs1,hs2⟩:=hs
 simp only[c88,zU,go_sem,zc,seval,reduceIte,reduceCtorEq]
 refine zC.lp (α:=WtS) (fun a=>[(1,.ptr 0 0 0 0),(2,.ptr 1 1 0 0),(3,vi a.w.a),(4,vi a.w.b),(5,vi a.w.c),(6,vi a.n)])
  (fun _=>⟨[⟨0,1,[[.slc 2 (s.map Cmp.enc)]],false,[]⟩,⟨1,3,[[vi 0,vi 0,vi 0]],false,[]⟩],2⟩)
  (fun a=>a.n≤s.length∧a.w.le (a.n*1000000)∧wtS s=wtF a.w (s.drop a.n)) (fun a=>s.length - a.n) ⟨0,⟨0,0,0⟩,3⟩ ⟨Nat.zero_le _,⟨by simp,by simp,by simp,by simp,by simp,by simp⟩,rfl⟩ (St.cut (by simp[zu,zj,zq]) rfl rfl) fun a ha=> ?_
 obtain⟨k,w,clk⟩:=a
 simp only at ha
 obtain⟨k1,k2,k3⟩:=ha
 by_cases he:k=s.length
 ·subst he
  rw[List.drop_length]at k3
  have e:wtS s=w:=k3
  simp only[W3.enc,Int.lt_irrefl,e,go_sem,zc,seval,reduceIte,reduceCtorEq]
 ·have e1:(k:Int)<(s.length:Int):=by omega
  have e0:(0:Int)≤(k:Int):=by omega
  have hlt:k<s.length:=by omega
  have hg:=kD s k [.c (.int .i64 0),.c (.slice none 0 0)] hlt
  have hcl:=hs2 k hlt
  rw[zhR w s k hlt]at k3
  generalize hx:s.getD k default=c at*
  simp only[W3.enc,e0,e1,hg,Cmp.enc,go_sem,zc,seval,reduceIte,reduceCtorEq]
  refine zC.lp (α:=WtS) (fun a=>[(1,.ptr 0 0 0 0),(2,.ptr 1 1 0 0),(3,vi a.w.a),(4,vi a.w.b),(5,vi a.w.c),(6,vi k),(7,vi a.n)])
   (fun _=>⟨[⟨0,1,[[.slc 2 (s.map Cmp.enc)]],false,[]⟩,⟨1,3,[[vi 0,vi 0,vi 0]],false,[]⟩],2⟩)
   (fun a=>a.n≤c.l.length∧a.w.le (k*1000000+a.n)∧wtC w c.l=wtC a.w (c.l.drop a.n)) (fun a=>c.l.length - a.n) ⟨0,w,clk+1⟩ ⟨Nat.zero_le _,by simpa using k2,rfl⟩ (St.cut (by simp[zu,zj,ev,W3.enc]) rfl rfl) fun a ha=> ?_
  obtain⟨j,u,clk2⟩:=a
  simp only at ha
  obtain⟨j1,j2,j3⟩:=ha
  by_cases hj:j=c.l.length
  ·subst hj
   rw[List.drop_length]at j3
   have j3:wtC w c.l=u:=j3
   rw[j3]at k3
   simp only[W3.enc,e0,e1,hg,Cmp.enc,Int.lt_irrefl,go_sem,zc,seval,reduceIte,reduceCtorEq]
   exact⟨by omega,⟨k+1,u,clk2⟩,⟨by dsimp only;omega,W3.le_mono j2 (by dsimp only;omega),k3⟩,by dsimp only;omega,rfl,rfl,rfl,by dsimp only;omega⟩
  ·have f1:(j:Int)<(c.l.length:Int):=by omega
   have f0:(0:Int)≤(j:Int):=by omega
   have hjl:j<c.l.length:=by omega
   have hgj:=je c.l j
   rw[zhQ u c.l j hjl]at j3
   generalize hy:c.l.getD j default=y at*
   obtain⟨b1,b2,b3,b4,b5,b6⟩:=id j2
   have le:=zke y.kind j2
   have fin:(-9223372036854775808≤(j:Int)+1∧(j:Int)+1≤9223372036854775807)∧
    ∃b:WtS,(b.n≤c.l.length∧b.w.le (k*1000000+b.n)∧wtC w c.l=wtC b.w (c.l.drop b.n))∧c.l.length - b.n<c.l.length - j∧(Jh u y.kind).a=b.w.a∧(Jh u y.kind).b=b.w.b∧(Jh u y.kind).c=b.w.c∧(j:Int)+1=(b.n:Int):=
    ⟨by omega,⟨j+1,Jh u y.kind,clk2+1⟩,⟨by dsimp only;omega,W3.le_mono le (by dsimp only;omega),j3⟩,by dsimp only;omega,rfl,rfl,rfl,by dsimp only;omega⟩
   unfold Jh at fin
   by_cases x3:y.kind=3
   ·rw[if_pos x3]at fin
    simp only[W3.enc,e0,e1,hg,Cmp.enc,f0,f1,hgj,Smp.enc,x3,go_sem,zc,seval,reduceIte,reduceCtorEq]
    exact⟨by omega,fin⟩
   rw[if_neg x3]at fin
   by_cases x4:4≤y.kind∧y.kind≤6
   ·have x4':=x4.1
    have x5':=x4.2
    rw[if_pos (by omega)]at fin
    simp only[W3.enc,e0,e1,hg,Cmp.enc,f0,f1,hgj,Smp.enc,x3,x4',x5',go_sem,zc,seval,reduceIte,reduceCtorEq]
    exact⟨by omega,fin⟩
   rw[if_neg (by omega)]at fin
   have hx4:∀p:Prop,(4≤y.kind→y.kind≤6→p):=fun p a b=>absurd ⟨a,b⟩ x4
   by_cases x2:y.kind=2
   ·rw[if_pos x2]at fin
    simp only[W3.enc,e0,e1,hg,Cmp.enc,f0,f1,hgj,Smp.enc,x2,go_sem,zc,seval,reduceIte,reduceCtorEq]
    exact⟨by omega,fin⟩
   ·rw[if_neg x2]at fin
    by_cases x7:4≤y.kind
    ·have x8:¬y.kind≤6:=fun h=>x4 ⟨x7,h⟩
     simp only[W3.enc,e0,e1,hg,Cmp.enc,f0,f1,hgj,Smp.enc,x2,x3,x7,x8,go_sem,zc,seval,reduceIte,reduceCtorEq]
     exact fin
    ·simp only[W3.enc,e0,e1,hg,Cmp.enc,f0,f1,hgj,Smp.enc,x2,x3,x7,go_sem,zc,seval,reduceIte,reduceCtorEq]
     exact fin
def XB:Sum Tryz.prog:=⟨88,fun args=>args= [.agg (zU (q7 (args.getD 0 .any)))]∧okC (q7 (args.getD 0 .any)),fun args=>.agg (wtS (q7 (args.getD 0 .any))).enc,fun args h=>by
 have:=zjY (q7 (args.getD 0 .any)) h.2;rwa [←h.1]at this,false⟩
theorem zpd:XB.f=88:=rfl
theorem zpc(args:List V):XB.D args=(args= [.agg (zU (q7 (args.getD 0 .any)))]∧okC (q7 (args.getD 0 .any))):=rfl
theorem zeK:XB.flat=false:=rfl
theorem zpe(args:List V):XB.r args= .agg (wtS (q7 (args.getD 0 .any))).enc:=rfl
attribute [go_sem] zpd zpc zeK zpe
theorem zrS(c:Cmp)(j:Nat):jM c (decide ((j:Int)=0))=true↔((c.l.length:Int)≠0∧¬((j:Int)=0∧¬c.link=0)∧¬((0:Int)<j∧¬c.link=1∧¬c.link=2))∧∀i,i<c.l.length→¬Ye i (c.l.getD i default):=by
 unfold jM
 rw[decide_eq_true_eq,decide_eq_true_eq]
 constructor
 ·rintro⟨h1,h2,h3,h4,h5⟩
  exact⟨by omega,h5⟩
 ·rintro⟨h1,h5⟩
  refine⟨⟨fun h=> ?_,fun h=> ?_⟩,?_,?_,?_,h5⟩<;>omega
theorem zpZ(i:Nat)(x:Smp):Ye i x↔(x.kind<1∨6<x.kind∨((0:Int)<i∧x.kind<3)∨(x.kind=1∧¬x.text=⟨#[]⟩)∨(1<x.kind∧x.text=⟨#[]⟩)∨(x.kind<6∧¬x.val=⟨#[]⟩)):=by
 unfold Ye
 by_cases h1:x.text=⟨#[]⟩<;>by_cases h2:x.val=⟨#[]⟩<;>simp only[h1,h2,true_iff,false_iff,Classical.not_not,not_true_eq_false,not_false_eq_true,and_true,and_false,true_and,false_and,or_false,false_or]<;>omega
def c8o:C:=c86.body.tl.hd.tl.inn.inn
def c8m:C:=(c8o).tl.hd.inn.tl.tl.inn.inn
def c8n:C:=(c8m).tl.hd.inn.tl.tl.tl.inn.inn
theorem zmt(l:List Sel)(k j:Nat)(c:Cmp)(clk:Nat)(ho:c.l.length≤1000000)(w0:World)(own0:Sx.Own)(Q:yv)(e:Nat→V)
  (t0:e 0= .slc 1 (l.map zU)) (t3:e 3=vi k) (t4:e 4=vi j) (t5:e 5= .ptr 0 clk 0 0) (t6:e 6=vi (0:Nat)) (h:Heap) (hb:h.bs= [⟨clk,2,[c.enc],false,[]⟩]) (ck:Nat) (hck:h.clk=ck)
  (hfound:∀m:Nat,m<c.l.length→Ye m (c.l.getD m default)→∀(e':Nat→V)(h':Heap),e' 2=vb false→Q .ret e' h')
  (hnone:(∀i,i<c.l.length→¬Ye i (c.l.getD i default))→∀(e':Nat→V)(h':Heap)(clk':Nat),e' 0= .slc 1 (l.map zU)→e' 3=vi k→e' 4=vi j→h'.bs= [⟨clk,2,[c.enc],false,[]⟩]→h'.clk=clk'→Q (.exit 4) e' h'):
  zC ⟨Tryz.prog,Orc.nil _,137,w0,own0⟩ (.loop c8n) Q e h:=by
 obtain⟨hbs,hcl⟩:=h
 simp only at hb hck
 subst hb hck
 refine zC.lp (α:=LpS) (fun a=>[(0,.slc 1 (l.map zU)),(3,vi k),(4,vi j),(5,.ptr 0 clk 0 0),(6,vi a.n)]) (fun a=>⟨[⟨clk,2,[c.enc],false,[]⟩],a.clk⟩)
  (fun a=>a.n≤c.l.length∧∀i,i<a.n→¬Ye i (c.l.getD i default)) (fun a=>c.l.length - a.n) ⟨0,hcl⟩ ⟨Nat.zero_le _,fun i hi=>absurd hi (Nat.not_lt_zero _)⟩ (St.mk ⟨t0,t3,t4,t5,t6,trivial⟩) fun a ha=> ?_
 obtain⟨m,clk3⟩:=a
 simp only at ha
 obtain⟨m1,m2⟩:=ha
 by_cases hm:m=c.l.length
 ·subst hm
  simp only[c8n,c8m,c8o,c86,C.tl,C.hd,C.inn,Int.lt_irrefl,Cmp.enc,go_sem,zc,seval,reduceIte,reduceCtorEq]
  exact hnone m2 _ _ _ (by simp[zj,zn]) (by simp[zj,zn]) (by simp[zj,zn]) (by simp[Cmp.enc]) rfl
 ·have g1:(m:Int)<(c.l.length:Int):=by omega
  have g0:(0:Int)≤(m:Int):=by omega
  have hml:m<c.l.length:=by omega
  have hgm:=je c.l m
  have hb:=zpZ m (c.l.getD m default)
  have hno3:Ye m (c.l.getD m default)→∀(e':Nat→V)(h':Heap),e' 2=vb false→Q .ret e' h':=hfound m hml
  have hgo3:¬Ye m (c.l.getD m default)→∀i,i<m+1→¬Ye i (c.l.getD i default):=fun h i hi=>by
   by_cases h2:i=m
   ·subst h2;exact h
   ·exact m2 i (by omega)
  generalize hy:c.l.getD m default=x at*
  simp only[c8n,c8m,c8o,c86,C.tl,C.hd,C.inn,Cmp.enc,g0,g1,hgm,Smp.enc,go_sem,zc,seval,reduceIte,reduceCtorEq]
  refine⟨?_,?_,?_,?_,?_,?_,?_,?_,?_,fun h=>hno3 (hb.2 ?_) _ _ (by simp[zj]),fun h=> ?_⟩
  iterate 9 (generalize(m:Int)=M;by_cases p1:x.kind<1<;>by_cases p2:6<x.kind<;>first|(simp[p1,p2];done)|(by_cases p3:(0:Int)<M<;>by_cases p4:x.kind<3<;>first|(simp[p1,p2,p3,p4];done)|(by_cases p5:x.kind=1<;>by_cases p6:x.text=⟨#[]⟩<;>first|(simp[p1,p2,p3,p4,p5,p6];done)|(by_cases p7:1<x.kind<;>by_cases p8:x.kind<6<;>by_cases p9:x.val=⟨#[]⟩<;>(simp[p1,p2,p3,p4,p5,p6,p7,p8,p9];done)))))
  ·clear hb hno3 hgo3 hgm
   by_cases p6:x.text=⟨#[]⟩<;>by_cases p9:x.val=⟨#[]⟩<;>simp only[p6,p9,true_iff,false_iff,Classical.not_not,not_true_eq_false,not_false_eq_true,and_true,and_false,true_and,false_and,or_false,false_or,or_true,true_or]at h⊢ <;>omega
  ·have hnb:¬Ye m x:=fun hh=>by
    have hh:=hb.1 hh
    clear hb hno3 hgo3 hgm
    by_cases p6:x.text=⟨#[]⟩<;>by_cases p9:x.val=⟨#[]⟩<;>simp only[p6,p9,true_iff,false_iff,Classical.not_not,not_true_eq_false,not_false_eq_true,and_true,and_false,true_and,false_and,or_false,false_or,or_true,true_or]at h hh<;>omega
   exact⟨by omega,⟨m+1,clk3+1⟩,⟨by dsimp only;omega,hgo3 hnb⟩,by dsimp only;omega,by dsimp only;omega,rfl⟩
theorem zmu(l:List Sel)(hl:okM l):zf Tryz.prog 86 [kU l] (vb (Z6 l)):=by
 refine zf.of (Orc.nil _) zz8 (by simp[c86]) fun w0 own0=> ?_
 obtain⟨hl1,hl2⟩:=hl
 simp only[c86,kU,go_sem,zc,seval,reduceIte,reduceCtorEq]
 refine zC.lp (α:=LpS) (fun a=>[(0,.slc 1 (l.map zU)),(3,vi a.n)]) (fun a=>⟨[],a.clk⟩)
  (fun a=>a.n≤l.length∧∀i,i<a.n→Qj (l.getD i [])=true) (fun a=>l.length - a.n) ⟨0,0⟩ ⟨Nat.zero_le _,fun i hi=>absurd hi (Nat.not_lt_zero _)⟩ (St.mk (by simp[zu,zj,zq])) fun a ha=> ?_
 obtain⟨k,clk⟩:=a
 simp only at ha
 obtain⟨k1,k2⟩:=ha
 by_cases he:k=l.length
 ·subst he
  have e:Z6 l=decide ((0:Int)<(l.length:Int)):=by
   unfold Z6;rw[decide_eq_decide];exact⟨fun h=>by omega,fun h=>⟨by omega,k2⟩⟩
  simp only[Int.lt_irrefl,e,go_sem,zc,seval,reduceIte,reduceCtorEq]
 ·have e1:(k:Int)<(l.length:Int):=by omega
  have e0:(0:Int)≤(k:Int):=by omega
  have hlt:k<l.length:=by omega
  have hg:=Ke l k [.c (.slice none 0 0)] hlt
  obtain⟨o1,o2⟩:=hl2 k hlt
  have hno:Qj (l.getD k [])=false→Z6 l=false:=fun h=>by
   unfold Z6;rw[decide_eq_false_iff_not];exact fun hh=>by rw[hh.2 k hlt]at h;cases h
  generalize hx:l.getD k []=s at*
  by_cases h1:(s.length:Int)=0
  ·have e:=hno (by unfold Qj;rw[decide_eq_false_iff_not];omega)
   simp only[e0,e1,hg,zU,h1,e,go_sem,zc,seval,reduceIte,reduceCtorEq]
  by_cases h2:(64:Int)<(s.length:Int)
  ·have e:=hno (by unfold Qj;rw[decide_eq_false_iff_not];omega)
   simp only[e0,e1,hg,zU,h1,h2,e,go_sem,zc,seval,reduceIte,reduceCtorEq]
  simp only[e0,e1,hg,zU,h1,h2,go_sem,zc,seval,reduceIte,reduceCtorEq]
  refine zC.lp (α:=LpS) (fun a=>[(0,.slc 1 (l.map zU)),(3,vi k),(4,vi a.n)]) (fun a=>⟨[],a.clk⟩)
   (fun a=>a.n≤s.length∧∀i,i<a.n→jM (s.getD i default) (decide ((i:Int)=0))=true) (fun a=>s.length - a.n) ⟨0,clk⟩ ⟨Nat.zero_le _,fun i hi=>absurd hi (Nat.not_lt_zero _)⟩ (St.cut (by simp[zu,zj,ev,zU]) rfl rfl) fun a ha=> ?_
  obtain⟨j,clk2⟩:=a
  simp only at ha
  obtain⟨j1,j2⟩:=ha
  by_cases hj:j=s.length
  ·subst hj
   have e:Qj s=true:=by unfold Qj;rw[decide_eq_true_eq];exact⟨by omega,by omega,j2⟩
   simp only[Int.lt_irrefl,e0,e1,hg,zU,go_sem,zc,seval,reduceIte,reduceCtorEq]
   have hn:∀i,i<k+1→Qj (l.getD i [])=true:=fun i hi=>by
    by_cases h:i=k
    ·subst h;rw[hx];exact e
    ·exact k2 i (by omega)
   exact⟨by omega,⟨k+1,clk2⟩,⟨by dsimp only;omega,hn⟩,by dsimp only;omega,by dsimp only;omega,rfl⟩
  ·have f1:(j:Int)<(s.length:Int):=by omega
   have f0:(0:Int)≤(j:Int):=by omega
   have hjl:j<s.length:=by omega
   have hgj:=kD s j [.c (.int .i64 0),.c (.slice none 0 0)] hjl
   have ho:=o2 j hjl
   have hiff:=zrS (s.getD j default) j
   have hno2:¬jM (s.getD j default) (decide ((j:Int)=0))=true→Z6 l=false:=fun hh=>hno (by unfold Qj;rw[decide_eq_false_iff_not];exact fun h=>hh (h.2.2 j hjl))
   generalize hc:s.getD j default=c at*
   by_cases g:(c.l.length:Int)≠0∧¬((j:Int)=0∧¬c.link=0)∧¬((0:Int)<j∧¬c.link=1∧¬c.link=2)
   ·have hgo:∀i,jM c (decide ((j:Int)=0))=true→i<j+1→jM (s.getD i default) (decide ((i:Int)=0))=true:=fun i ht hi=>by
     by_cases h:i=j
     ·subst h;rw[hc];exact ht
     ·exact j2 i (by omega)
    simp only[e0,e1,hg,zU,f0,f1,hgj,Cmp.enc,go_sem,zc,seval,reduceIte,reduceCtorEq]
    refine⟨?_,?_,?_,?_,?_,?_,fun _=> ?_⟩
    iterate 5 (generalize(c.l.length:Int)=L;generalize(j:Int)=J at f0 ⊢;by_cases a1:L=0<;>by_cases a2:J=0<;>by_cases a3:(0:Int)<J<;>by_cases a4:c.link=0<;>by_cases a5:c.link=1<;>by_cases a6:c.link=2<;>first|(exfalso;omega)|(simp[a1,a2,a3,a4,a5,a6];done))
    ·exact fun h=>absurd g (by omega)
    refine zmt l k j c clk2 ho w0 own0 _ _ (by simp[zj,ev]) (by simp[zj,ev]) (by simp[zj,ev]) (by simp[zj,ev]) (by simp[zj,ev]) _ (by simp[Cmp.enc]) (clk2+1) rfl (fun m hm hb e' h' t2=> ?_) (fun hb e' h' clk3 t0 t3 t4 hbs hck=> ?_)
    ·have e:=hno2 (fun h2=>(hiff.1 h2).2 m hm hb)
     simp only[t2,e,go_sem,zc,seval,reduceIte,reduceCtorEq]
    ·obtain⟨bs',ck'⟩:=h'
     simp only at hbs hck
     subst hbs hck
     simp only[t0,t3,t4,go_sem,zc,seval,reduceIte,reduceCtorEq]
     exact⟨by omega,⟨j+1,ck'⟩,⟨by dsimp only;omega,fun i hi=>hgo i (hiff.2 ⟨g,hb⟩) hi⟩,by dsimp only;omega,by dsimp only;omega,rfl⟩
   ·have e:=hno2 (fun h=>g (hiff.1 h).1)
    simp only[e0,e1,hg,zU,f0,f1,hgj,Cmp.enc,e,go_sem,zc,seval,reduceIte,reduceCtorEq]
    refine⟨?_,?_,?_,?_,?_,fun h=>absurd ?_ g⟩
    iterate 5 (generalize(c.l.length:Int)=L;generalize(j:Int)=J at f0 ⊢;by_cases a1:L=0<;>by_cases a2:J=0<;>by_cases a3:(0:Int)<J<;>by_cases a4:c.link=0<;>by_cases a5:c.link=1<;>by_cases a6:c.link=2<;>first|(exfalso;omega)|(simp[a1,a2,a3,a4,a5,a6];done))
    ·omega
def Xu:Sum Tryz.prog:=⟨86,fun args=>args= [kU (qf (args.getD 0 .any))]∧okM (qf (args.getD 0 .any)),fun args=>vb (Z6 (qf (args.getD 0 .any))),fun args h=>by
 have:=zmu (qf (args.getD 0 .any)) h.2;rwa [←h.1]at this,true⟩
theorem zoG:Xu.f=86:=rfl
theorem zoF(args:List V):Xu.D args=(args= [kU (qf (args.getD 0 .any))]∧okM (qf (args.getD 0 .any))):=rfl
theorem zez:Xu.flat=true:=rfl
theorem zoH(args:List V):Xu.r args=vb (Z6 (qf (args.getD 0 .any))):=rfl
attribute [go_sem] zoG zoF zez zoH
theorem zfG{α:Type}(l:List α)(x d:α):(l++ [x]).getD l.length d=x:=by simp[List.getD_eq_getElem?_getD]
theorem zkU{α:Type}(l:List α)(x y:α):(l++ [x]).set l.length y=l++ [y]:=by
 rw[List.set_append_right _ _ (Nat.le_refl _)];simp
theorem zr5(l:List Smp)(n:Nat)(h:n<l.length):l.take (n+1)=l.take n++ [l.getD n default]:=by
 rw[List.take_add_one,List.getD_eq_getElem?_getD,List.getElem?_eq_getElem h];rfl
theorem K9(S:Nat→Bool)(h:Heap):∀l:List Smp,zA (zA (res S h 10)) (l.map Smp.enc)=some (l.map Smp.enc)
 | []=>rfl
 |s::l=>by simp only[List.map_cons,zA,K9 S h l,Smp.enc];rfl
structure GvS where
 n:Nat
 ver:Nat
 clk:Nat
end Go.Proofs.YtjcmoedalneldaaGreat
