/- Part of the proof of layer-11. No condition. -/
import Derived.Test.YtjcmoedalneldaaGreatCd
import Derived.Test.YtjcmoedalneldaaGreatE4
namespace Go.Sx
def C.hd:C→C
 | .seq a _=>a
 |c=>c
def C.tl:C→C
 | .seq _ b=>b
 |c=>c
def C.inn:C→C
 | .block _ c=>c
 | .loop c=>c
 |c=>c
end Go.Sx
namespace Go.Proofs.YtjcmoedalneldaaGreat
open Go.Sx
set_option linter.unusedSimpArgs false
set_option linter.unusedVariables false
set_option maxHeartbeats 8000000
set_option maxRecDepth 100000
def zzg:List V:=[vi 0,vs ⟨#[]⟩,vs ⟨#[]⟩,zA,zA,vs ⟨#[]⟩]
def zqT(l:List Node)(i:Nat):V:=((l.map Node.enc).getD i zzg).getD 3 .any
def zqp(l:List Node)(i:Nat):V:=((l.map Node.enc).getD i zzg).getD 4 .any
theorem zd5(l:List Node)(i:Nat):(l.map Node.enc).getD i [.c (.int .i64 0),.c (.string ⟨#[]⟩),.c (.string ⟨#[]⟩),.c (.slice none 0 0),.c (.slice none 0 0),.c (.string ⟨#[]⟩)]=
  [vi (l.getD i .zero).parent,vs (l.getD i .zero).type,vs (l.getD i .zero).id,zqT l i,zqp l i,vs (l.getD i .zero).text]:=by
 by_cases h:i<l.length
 ·unfold zqT zqp
  rw[yv l i _ h,yv l i _ h]
  rfl
 ·have h1:(l.map Node.enc)[i]? =none:=List.getElem?_eq_none (by simpa using h)
  have h2:l[i]? =none:=List.getElem?_eq_none (by omega)
  simp only[zqT,zqp,List.getD_eq_getElem?_getD,h1,h2]
  rfl
theorem zwV(l:List Node)(i:Nat)(h:i<l.length):zqT l i= .slc 1 ((l.getD i .zero).cls.map fun s=>[vs s]):=by
 unfold zqT;rw[yv l i _ h];rfl
theorem zvO(l:List Node)(i:Nat)(h:i<l.length):zqp l i= .slc 2 ((l.getD i .zero).attrs.map fun p=>[vs p.1,vs p.2]):=by
 unfold zqp;rw[yv l i _ h];rfl
def fst(p:Nat→Bool):Nat→Nat→Int
 |0,_=> -1
 |f+1,k=>if p k=true then k else fst p f (k+1)
theorem kU(p:Nat→Bool):∀(f k:Nat),(fst p f k= -1∧∀i,k≤i→i<k+f→p i=false)∨∃m:Nat,fst p f k=m∧k≤m∧m<k+f∧p m=true∧∀i,k≤i→i<m→p i=false
 |0,k=>.inl ⟨rfl,fun i h1 h2=>by omega⟩
 |f+1,k=>by
  simp only[fst]
  by_cases h:p k=true
  ·rw[if_pos h];exact .inr ⟨k,rfl,Nat.le_refl _,by omega,h,fun i h1 h2=>by omega⟩
  ·rw[if_neg h]
   have h':p k=false:=by simpa using h
   rcases kU p f (k+1)with⟨h1,h2⟩|⟨m,h1,h2,h3,h4,h5⟩
   ·refine .inl ⟨h1,fun i hi1 hi2=> ?_⟩
    by_cases e:i=k
    ·subst e;exact h'
    ·exact h2 i (by omega) (by omega)
   ·refine .inr ⟨m,h1,by omega,by omega,h4,fun i hi1 hi2=> ?_⟩
    by_cases e:i=k
    ·subst e;exact h'
    ·exact h5 i (by omega) hi2
theorem kV(p:Nat→Bool)(n k:Nat)(h:k<n):fst p (n - k) k=if p k=true then(k:Int)else fst p (n - (k+1)) (k+1):=by
 obtain⟨f,hf⟩:∃f,n - k=f+1:=⟨n - k - 1,by omega⟩
 rw[hf,show n - (k+1)=f by omega];rfl
theorem Z1(p:Nat→Bool)(n:Nat):fst p (n - n) n= -1:=by rw[Nat.sub_self];rfl
def ixI(l:List Int)(x:Int):Int:=fst (fun i=>decide (x=l.getD i 0)) (l.length - 0) 0
theorem zxz(l:List Int)(x:Int):0≤ixI l x↔x∈l:=by
 unfold ixI
 rcases kU (fun i=>decide (x=l.getD i 0)) (l.length - 0) 0 with⟨h1,h2⟩|⟨m,h1,h2,h3,h4,h5⟩
 ·rw[h1]
  refine⟨fun h=>by omega,fun h=> ?_⟩
  obtain⟨i,hi,rfl⟩:=List.getElem_of_mem h
  have:=h2 i (by omega) (by omega)
  simp[List.getD_eq_getElem?_getD,hi]at this
 ·rw[h1]
  refine⟨fun _=> ?_,fun _=>by omega⟩
  simp only[decide_eq_true_eq]at h4
  rw[h4,List.getD_eq_getElem?_getD,List.getElem?_eq_getElem (by omega)]
  exact List.getElem_mem _
theorem zBy(l:List Int)(x:Int)(hl:l.length≤1000000):zg Tryz.prog 153 [zE l,vi x] (vi (ixI l x)):=by
 refine zg.of (Orc.nil _) zwu (by simp[zzP]) fun w0 own0=> ?_
 simp only[zzP,zE,go_sem,zc,seval,reduceIte,reduceCtorEq]
 refine zD.lp (α:=Nat) (fun k=>[(0,.slc 1 (l.map fun n=>[vi n])),(1,vi x),(7,vi l.length),(8,vi k)]) (fun _=>⟨[],0⟩)
  (fun k=>k≤l.length∧fst (fun i=>decide (x=l.getD i 0)) (l.length - k) k=ixI l x) (fun k=>l.length - k) 0 ⟨Nat.zero_le _,rfl⟩ (St.mk (by simp[zu,zk,zt])) fun k hk=> ?_
 obtain⟨h1,h2⟩:=hk
 by_cases hkl:k=l.length
 ·subst hkl
  rw[Z1]at h2
  simp only[Int.lt_irrefl,←h2,go_sem,zc,seval,reduceIte,reduceCtorEq]
 ·have e1:(k:Int)<(l.length:Int):=by omega
  rw[kV _ _ _ (by omega)]at h2
  simp only[decide_eq_true_eq]at h2
  simp only[e1,go_sem,zc,seval,reduceIte,reduceCtorEq]
  refine⟨by omega,fun h=>by rw[if_pos h]at h2;exact h2,fun h=>⟨by omega,k+1,⟨by omega,by rw[if_neg h]at h2;exact h2⟩,by omega,by omega⟩⟩
def zb6:Sum Tryz.prog:=⟨153,fun args=>args= [zE (zK (args.getD 0 .any)),vi ((args.getD 1 .any).int)]∧((zK (args.getD 0 .any))).length≤1000000,fun args=>vi (ixI (zK (args.getD 0 .any)) ((args.getD 1 .any).int)),fun args h=>by
 have:=zBy (zK (args.getD 0 .any)) ((args.getD 1 .any).int) h.2;rwa [←h.1]at this,true⟩
theorem ztw:zb6.f=153:=rfl
theorem ztv(args:List V):zb6.D args=(args= [zE (zK (args.getD 0 .any)),vi ((args.getD 1 .any).int)]∧((zK (args.getD 0 .any))).length≤1000000):=rfl
theorem zhm:zb6.flat=true:=rfl
theorem ztx(args:List V):zb6.r args=vi (ixI (zK (args.getD 0 .any)) ((args.getD 1 .any).int)):=rfl
attribute [go_sem] ztw ztv zhm ztx
theorem zwY(l:List Int)(x:Int)(hl:l.length≤1000000):zg Tryz.prog 122 [zE l,vi x] (vb (decide (x∈l))):=by
 refine zg.of (Orc.cons zb6 (Orc.nil _)) zwc (by simp[zzD]) fun w0 own0=> ?_
 simp only[zzD,zE,zxz,go_sem,zc,seval,reduceIte,reduceCtorEq]
 exact hl
def XB:Sum Tryz.prog:=⟨122,fun args=>args= [zE (zK (args.getD 0 .any)),vi ((args.getD 1 .any).int)]∧((zK (args.getD 0 .any))).length≤1000000,fun args=>vb (decide (((args.getD 1 .any).int)∈(zK (args.getD 0 .any)))),fun args h=>by
 have:=zwY (zK (args.getD 0 .any)) ((args.getD 1 .any).int) h.2;rwa [←h.1]at this,true⟩
theorem zn7:XB.f=122:=rfl
theorem zn6(args:List V):XB.D args=(args= [zE (zK (args.getD 0 .any)),vi ((args.getD 1 .any).int)]∧((zK (args.getD 0 .any))).length≤1000000):=rfl
theorem zex:XB.flat=true:=rfl
theorem zn8(args:List V):XB.r args=vb (decide (((args.getD 1 .any).int)∈(zK (args.getD 0 .any)))):=rfl
attribute [go_sem] zn7 zn6 zex zn8
def par(l:List Node)(k:Nat):Int:=(l.getD k .zero).parent
def clb(l:List Node)(of:Int):Nat→Int→Int
 |0,k=>k
 |f+1,k=>if of<k∧(l.getD k.toNat .zero).parent<k then clb l of f (l.getD k.toNat .zero).parent else k
def inN(l:List Node)(k:Int)(of:Int):Bool:=decide (clb l of k.toNat k=of)
structure InS where
 k:Int
 f:Nat
theorem zCK(l:List Node)(k of:Int)(h0:0≤of)(hk:k<l.length)(hl:l.length≤1000000):zg Tryz.prog 102 [zo l,vi k,vi of] (vb (inN l k of)):=by
 refine zg.of (Orc.nil _) zvZ (by simp[zzs]) fun w0 own0=> ?_
 simp only[zzs,zo,go_sem,zc,seval,reduceIte,reduceCtorEq]
 unfold inN
 generalize hR:clb l of k.toNat k=R
 refine zD.lp (α:=InS) (fun a=>[(0,.slc 6 (l.map Node.enc)),(1,vi a.k),(2,vi of)]) (fun _=>⟨[],0⟩)
  (fun a=>a.k<l.length∧a.k.toNat≤a.f∧clb l of a.f a.k=R) (fun a=>a.k.toNat) ⟨k,k.toNat⟩ ⟨hk,Nat.le_refl _,hR⟩ (St.mk (by simp[zu,zk,zt])) fun a ha=> ?_
 obtain⟨k,f⟩:=a
 simp only at ha
 obtain⟨h1,h2,h3⟩:=ha
 simp only[zd5,go_sem,zc,seval,reduceIte,reduceCtorEq]
 generalize hP:(l.getD k.toNat .zero).parent=p at*
 cases f with
 |zero=>
  simp only[clb]at h3
  subst h3
  exact⟨fun h=>by omega,fun h=>by omega,fun _=>rfl⟩
 |succ f=>
  simp only[clb,hP]at h3
  refine⟨fun h=>by omega,fun h=>⟨by omega,⟨p,f⟩,⟨by dsimp only;omega,by dsimp only;omega,by rw[if_pos h]at h3;exact h3⟩,by dsimp only;omega,rfl⟩,fun h=> ?_⟩
  rw[if_neg (by omega)]at h3
  rw[h3]
def zgg(n:Node):Bool:=decide (n.type=⟨#[]⟩∧(n.id≠⟨#[]⟩∨0<n.cls.length∨0<n.attrs.length))
def zbq(n:Node)(o:List Int)(l:List Node):Bool:=if o= []then decide (n.parent= -1∧n.type≠⟨#[]⟩)else if zgg n=true then false else decide (n.parent∈o∧(l.getD n.parent.toNat .zero).type≠⟨#[]⟩)
theorem zbp(n:Node):(n.type=⟨#[]⟩∧((¬n.id=⟨#[]⟩∨0<(n.cls.length:Int))∨0<(n.attrs.length:Int)))↔zgg n=true:=by
 simp only[zgg,decide_eq_true_eq,ne_eq]
 constructor
 ·rintro⟨h,(h1|h1)|h1⟩
  ·exact⟨h,.inl h1⟩
  ·exact⟨h,.inr (.inl (by omega))⟩
  ·exact⟨h,.inr (.inr (by omega))⟩
 ·rintro⟨h,h1|h1|h1⟩
  ·exact⟨h,.inl (.inl h1)⟩
  ·exact⟨h,.inl (.inr (by omega))⟩
  ·exact⟨h,.inr (by omega)⟩
theorem zgh(n:Node)(h:¬n.type=⟨#[]⟩∨(n.id=⟨#[]⟩∧¬0<(n.cls.length:Int))∧¬0<(n.attrs.length:Int)):¬zgg n=true:=by
 rw[←zbp]
 rintro⟨a,(b|b)|b⟩
 ·rcases h with h|h
  ·exact h a
  ·exact b h.1.1
 ·rcases h with h|h
  ·exact h a
  ·exact h.1.2 b
 ·rcases h with h|h
  ·exact h a
  ·exact h.2 b
theorem zBE(n:Node)(o:List Int)(l:List Node)(hl:o.length≤1000000)(ho:∀x∈o,0≤x∧x<l.length):zg Tryz.prog 96 [.agg n.enc,zE o,zo l] (vb (zbq n o l)):=by
 refine zg.of (Orc.cons XB (Orc.nil _)) zA0 (by simp[c96]) fun w0 own0=> ?_
 simp only[c96,zo,zE,Node.enc,zd5,go_sem,zc,seval,reduceIte,reduceCtorEq]
 have ho0:(o.length:Int)=0↔o= []:=by rw[←List.length_eq_zero_iff];omega
 by_cases h0:o= []
 ·subst h0
  refine⟨fun _=> ?_,fun h=>absurd rfl h⟩
  simp[zbq]
 ·rw[ho0]
  simp only[zbq,if_neg h0]
  refine⟨fun h=>absurd h h0,fun _=>⟨fun h=>by grind,fun h=>by grind,fun h=> ?_,fun h=>⟨hl,fun hp=>⟨hp,ho _ hp⟩,?_⟩⟩⟩
  ·rw[if_pos ((zbp n).1 h)]
  ·rw[if_neg (zgh n h)]
   simp
def zhc:Sum Tryz.prog:=⟨102,fun args=>args= [zo (zl (args.getD 0 .any)),vi ((args.getD 1 .any).int),vi ((args.getD 2 .any).int)]∧0≤((args.getD 2 .any).int)∧((args.getD 1 .any).int)<((zl (args.getD 0 .any))).length∧((zl (args.getD 0 .any))).length≤1000000,fun args=>vb (inN (zl (args.getD 0 .any)) ((args.getD 1 .any).int) ((args.getD 2 .any).int)),fun args h=>by
 have:=zCK (zl (args.getD 0 .any)) ((args.getD 1 .any).int) ((args.getD 2 .any).int) h.2.1 h.2.2.1 h.2.2.2;rwa [←h.1]at this,true⟩
theorem zyn:zhc.f=102:=rfl
theorem zym(args:List V):zhc.D args=(args= [zo (zl (args.getD 0 .any)),vi ((args.getD 1 .any).int),vi ((args.getD 2 .any).int)]∧0≤((args.getD 2 .any).int)∧((args.getD 1 .any).int)<((zl (args.getD 0 .any))).length∧((zl (args.getD 0 .any))).length≤1000000):=rfl
theorem zjP:zhc.flat=true:=rfl
theorem zyo(args:List V):zhc.r args=vb (inN (zl (args.getD 0 .any)) ((args.getD 1 .any).int) ((args.getD 2 .any).int)):=rfl
attribute [go_sem] zyn zym zjP zyo
def zCE(l:List Node)(k:Int):Prop:=0≤k∧k<l.length∧l.length≤1000000
def zCY(o:List Int)(l:List Node):Prop:=o.length≤1000000∧∀x∈o,0≤x∧x<l.length
def zca:Sum Tryz.prog:=⟨96,fun args=>args= [.agg (Node.enc (zF (args.getD 0 .any))),zE (zK (args.getD 1 .any)),zo (zl (args.getD 2 .any))]∧zCY (zK (args.getD 1 .any)) (zl (args.getD 2 .any)),fun args=>vb (zbq (zF (args.getD 0 .any)) (zK (args.getD 1 .any)) (zl (args.getD 2 .any))),fun args h=>by
 have:=zBE (zF (args.getD 0 .any)) (zK (args.getD 1 .any)) (zl (args.getD 2 .any)) h.2.1 h.2.2;rwa [←h.1]at this,true⟩
theorem ztU:zca.f=96:=rfl
theorem ztT(args:List V):zca.D args=(args= [.agg (Node.enc (zF (args.getD 0 .any))),zE (zK (args.getD 1 .any)),zo (zl (args.getD 2 .any))]∧zCY (zK (args.getD 1 .any)) (zl (args.getD 2 .any))):=rfl
theorem zhu:zca.flat=true:=rfl
theorem ztV(args:List V):zca.r args=vb (zbq (zF (args.getD 0 .any)) (zK (args.getD 1 .any)) (zl (args.getD 2 .any))):=rfl
attribute [go_sem] ztU ztT zhu ztV
def qO(l:List Node)(k:Nat):Bool:=if k=0 then decide ((l.getD k .zero).parent= -1∧(l.getD k .zero).type≠⟨#[]⟩)else if zgg (l.getD k .zero)=true then false
 else decide (0≤par l k∧par l k<k∧inN l (k - 1) (par l k)=true∧(l.getD (par l k).toNat .zero).type≠⟨#[]⟩)
theorem zsC(l:List Node)(k:Nat)(hk:k<l.length)(hl:l.length≤1000000):zg Tryz.prog 70 [zo l,vi k] (vb (qO l k)):=by
 refine zg.of (Orc.cons zhc (Orc.nil _)) zAI (by simp[c70]) fun w0 own0=> ?_
 have hc:=zwV l k hk
 have ha:=zvO l k hk
 simp only[c70,zo,zr,Node.enc,zd5,hc,ha,go_sem,zc,seval,reduceIte,reduceCtorEq]
 by_cases h0:k=0
 ·subst h0
  refine⟨by omega,fun _=>by simp[qO],fun h=>absurd rfl h⟩
 ·simp only[qO,if_neg h0]
  refine⟨by omega,fun h=>by omega,fun _=>⟨fun h=>by grind,fun h=>by grind,fun h=> ?_,fun h=>⟨fun hp=>⟨hp,by omega,by omega⟩,fun hp=>⟨hp,hp.1,by omega,hl⟩,fun hp=>⟨hp,hp.1.1,by omega⟩,?_⟩⟩⟩
  ·rw[if_pos ((zbp _).1 h)]
  ·rw[if_neg (zgh _ h)]
   simp[par,Bool.and_assoc]
def Q3:Sum Tryz.prog:=⟨70,fun args=>args= [zo (zl (args.getD 0 .any)),vi ((args.getD 1 .any).int)]∧zCE (zl (args.getD 0 .any)) ((args.getD 1 .any).int),fun args=>vb (qO (zl (args.getD 0 .any)) (((args.getD 1 .any).int)).toNat),fun args h=>by
 have:=(by have h1:=h.2;have h2:=zsC (zl (args.getD 0 .any)) (((args.getD 1 .any).int)).toNat (by have:=h1.1;have:=h1.2.1;omega) h1.2.2;rw[Int.toNat_of_nonneg h1.1]at h2;exact h2:zg Tryz.prog 70 [zo (zl (args.getD 0 .any)),vi ((args.getD 1 .any).int)] (vb (qO (zl (args.getD 0 .any)) (((args.getD 1 .any).int)).toNat)));rwa [←h.1]at this,true⟩
theorem zj8:Q3.f=70:=rfl
theorem zj7(args:List V):Q3.D args=(args= [zo (zl (args.getD 0 .any)),vi ((args.getD 1 .any).int)]∧zCE (zl (args.getD 0 .any)) ((args.getD 1 .any).int)):=rfl
theorem zcN:Q3.flat=true:=rfl
theorem zj9(args:List V):Q3.r args=vb (qO (zl (args.getD 0 .any)) (((args.getD 1 .any).int)).toNat):=rfl
attribute [go_sem] zj8 zj7 zcN zj9
def K7(l:List Node):Int:=fst (fun k=> !qO l k) (l.length - 0) 0
def qk(l:List Node)(b:Int):V:=.tup [vi (if 0≤b then b else 0),vi (if 0≤b∨l.length=0 then 5 else 0)]
theorem zfy(l:List Node)(h:¬l.length=0):V.tup [V.c (Value.int IntKind.i64 0),V.c (Value.int IntKind.i64 0)]=qk l (-1):=by
 simp only[qk];rw[if_neg (by omega),if_neg (by omega)]
theorem zc5(l:List Node)(h:l.length=0):V.tup [V.c (Value.int IntKind.i64 0),V.c (Value.int IntKind.i64 5)]=qk l (-1):=by
 simp only[qk];rw[if_neg (by omega),if_pos (by omega)]
theorem zc4(l:List Node)(k:Nat):V.tup [V.c (Value.int IntKind.i64 k),V.c (Value.int IntKind.i64 5)]=qk l k:=by
 simp only[qk];rw[if_pos (by omega),if_pos (by omega)]
theorem zwQ(l:List Node)(hl:l.length≤1000):zg Tryz.prog 38 [zo l] (qk l (K7 l)):=by
 refine zg.of (Orc.cons Q3 (Orc.nil _)) zAh (by simp[c38]) fun w0 own0=> ?_
 have e0:¬(4096:Int)<(l.length:Int):=by omega
 simp only[c38,zo,e0,go_sem,zc,seval,reduceIte,reduceCtorEq]
 unfold K7
 generalize hR:fst (fun k=> !qO l k) (l.length - 0) 0=R
 refine zD.lp (α:=Nat) (fun a=>[(0,.slc 6 (l.map Node.enc)),(4,vi a)]) (fun _=>⟨[],0⟩)
  (fun a=>a≤l.length∧fst (fun k=> !qO l k) (l.length - a) a=R) (fun a=>l.length - a) 0 ⟨by omega,hR⟩ (St.mk (by simp[zu,zk,zt])) fun a ha=> ?_
 obtain⟨h1,h2⟩:=ha
 by_cases hal:a=l.length
 ·subst hal
  rw[Z1]at h2
  subst h2
  simp only[Int.lt_irrefl,go_sem,zc,seval,reduceIte,reduceCtorEq]
  exact⟨fun h=>zc5 l (by omega),fun h=>zfy l (by omega)⟩
 ·have e1:(a:Int)<(l.length:Int):=by omega
  rw[kV _ _ _ (by omega)]at h2
  simp only[Bool.not_eq_true']at h2
  simp only[e1,zd5,zo,zr,go_sem,zc,seval,reduceIte,reduceCtorEq]
  refine⟨⟨by omega,by omega,by omega⟩,fun h=> ?_,fun h=>⟨by omega,a+1,⟨by omega,by rw[if_neg (by simp[h])]at h2;exact h2⟩,by omega,by omega⟩⟩
  rw[if_pos h]at h2
  subst h2
  exact zc4 l a
def zbC(p:Int)(s:List Int):Nat→Nat
 |0=>0
 |m+1=>if s.getD m 0=p then m+1 else zbC p s m
def stk(l:List Node):Nat→List Int
 |0=>[]
 |k+1=>(stk l k).take (zbC (par l k) (stk l k) (stk l k).length)++ [(k:Int)]
theorem zaK(l:List Node):∀k,∀x∈stk l k,0≤x∧x<k
 |0,x,h=>by simp[stk]at h
 |k+1,x,h=>by
  simp only[stk,List.mem_append,List.mem_singleton]at h
  rcases h with h|h
  ·have:=zaK l k x (List.mem_of_mem_take h);omega
  ·omega
theorem zls(l:List Node):∀k,(stk l k).length≤k
 |0=>Nat.le_refl _
 |k+1=>by
  have:=zls l k
  simp only[stk,List.length_append,List.length_take,List.length_singleton]
  omega
def zfu(l:List Node):Int:=fst (fun k=> !zbq (l.getD k .zero) (stk l k) l) (l.length - 0) 0
structure CkS where
 k:Nat
 es:List Int
 ver:Nat
 clk:Nat
theorem zwR(l:List Node)(hl:l.length≤1000):zg Tryz.prog 62 [zo l] (qk l (zfu l)):=by
 refine zg.of (Orc.cons zca (Orc.nil _)) zAB (by simp[c62]) fun w0 own0=> ?_
 have e0:¬(4096:Int)<(l.length:Int):=by omega
 simp only[c62,zo,e0,go_sem,zc,seval,reduceIte,reduceCtorEq]
 refine⟨fun h0=> ?_,fun h0=> ?_⟩
 ·have e:zfu l= -1:=by
   unfold zfu
   rw[show l.length - 0=0 by omega];rfl
  rw[e];exact zc5 l (by omega)
 unfold zfu
 generalize hR:fst (fun k=> !zbq (l.getD k .zero) (stk l k) l) (l.length - 0) 0=R
 refine zD.lp (α:=CkS) (fun a=>[(0,.slc 6 (l.map Node.enc)),(4,.ref 0 a.ver 0 (stk l a.k).length),(15,.slc 6 (l.map Node.enc)),(16,vi l.length),(17,vi a.k)])
  (fun a=>⟨[⟨a.ver,1,a.es.map fun n=>[vi n],false,[vi 0]⟩],a.clk⟩)
  (fun a=>a.k≤l.length∧a.es.take (stk l a.k).length=stk l a.k∧(stk l a.k).length≤a.es.length∧fst (fun k=> !zbq (l.getD k .zero) (stk l k) l) (l.length - a.k) a.k=R) (fun a=>l.length - a.k) ⟨0,[],0,1⟩ ⟨by simp,rfl,by simp[stk],hR⟩
  (St.nil 4 1 [vi 0] (by simp[zk]) (St.cut ?_ ?_ ?_)) fun a ha=> ?_
 ·simp[zu,zk,zt,stk]
 ·simp[Heap.alloc]
 ·rfl
 obtain⟨k,es,ver,clk⟩:=a
 simp only at ha
 obtain⟨h1,h2,h3,h4⟩:=ha
 by_cases hal:k=l.length
 ·subst hal
  rw[Z1]at h4
  subst h4
  simp only[Int.lt_irrefl,go_sem,zc,seval,reduceIte,reduceCtorEq]
  exact zfy l (by omega)
 ·have e1:(k:Int)<(l.length:Int):=by omega
  rw[kV _ _ _ (by omega)]at h4
  simp only[Bool.not_eq_true']at h4
  have hs:=zaK l k
  have hsl:=zls l k
  have hst:stk l (k+1)=(stk l k).take (zbC (par l k) (stk l k) (stk l k).length)++ [(k:Int)]:=rfl
  generalize stk l k=s at*
  have hn:=yv l k [.c (.int .i64 0),.c (.string ⟨#[]⟩),.c (.string ⟨#[]⟩),.c (.slice none 0 0),.c (.slice none 0 0),.c (.string ⟨#[]⟩)] (by omega)
  generalize hN:l.getD k .zero=n at*
  simp only[e1,hn,Node.enc,zo,zE,h2,h3,yr,Node.eta,zr,go_sem,zc,seval,reduceIte,reduceCtorEq]
  refine⟨by omega,⟨by omega,fun x hx=>by have:=hs x hx;omega⟩,fun hm=> ?_,fun hm=> ?_⟩
  ·rw[if_pos hm]at h4
   subst h4
   exact zc4 l k
  ·rw[if_neg (by simp[hm])]at h4
   have hpar:n.parent=par l k:=by rw[←hN];rfl
   refine zD.lp (α:=Nat) (fun m=>[(0,.slc 6 (l.map Node.enc)),(4,.ref 0 ver 0 m),(5,vi k),(6,.ptr 1 clk 0 0),(15,.slc 6 (l.map Node.enc)),(16,vi l.length),(17,vi k)])
    (fun m=>⟨[⟨ver,1,es.map fun n=>[vi n],false,[vi 0]⟩,⟨clk,6,[n.enc],false,[]⟩],clk+1⟩)
    (fun m=>m≤s.length∧zbC (par l k) s m=zbC (par l k) s s.length) (fun m=>m) s.length ⟨Nat.le_refl _,rfl⟩ (St.cut ?_ ?_ ?_) fun m hm=> ?_
   ·simp[zu,zk,ev]
   ·simp[Node.enc]
   ·rfl
   obtain⟨m1,m2⟩:=hm
   simp only[Node.enc,hpar,go_sem,zc,seval,reduceIte,reduceCtorEq]
   have hget:∀i,i<s.length→es.getD i 0=s.getD i 0:=fun i hi=>by
    have e:s.getD i 0=(es.take s.length).getD i 0:=by rw[h2]
    rw[e,List.getD_eq_getElem?_getD,List.getD_eq_getElem?_getD,List.getElem?_take,if_pos hi]
   have htk:∀i,i≤s.length→es.take i=s.take i:=fun i hi=>by
    have e:(es.take s.length).take i=es.take i:=by rw[List.take_take];congr 1;omega
    rw[←e,h2]
   refine⟨fun h=>⟨h,by omega,by omega⟩,fun h=>⟨h,by omega,by omega⟩,fun h=>⟨h,by omega⟩,fun h=> ?_,fun h=> ?_⟩
   ·obtain⟨m',rfl⟩:∃m',m=m'+1:=⟨m - 1,by omega⟩
    have e2:((((m'+1:Nat):Int) - 1)).toNat=m':=by omega
    rw[e2]at h⊢
    rw[hget m' (by omega)]at h
    simp only[zbC,if_neg h.2]at m2
    exact⟨by omega,by omega,m',⟨by omega,m2⟩,by omega,by omega⟩
   ·have hpm:zbC (par l k) s m=m:=by
     cases m with
     |zero=>rfl
     |succ m'=>
      have e2:((((m'+1:Nat):Int) - 1)).toNat=m':=by omega
      rw[e2,hget m' (by omega)]at h
      simp only[zbC]
      rw[if_pos (by rcases h with h|h;exact absurd (by omega) h;exact h)]
    rw[←m2,hpm]at hst
    have hlen:(s.take m).length=m:=by rw[List.length_take];omega
    refine⟨by omega,by omega,⟨k+1,es.take m++ [(k:Int)],clk+1+1,clk+1+1+1⟩,⟨by dsimp only;omega,?_,?_,h4⟩,by dsimp only;omega,⟨⟨rfl,?_⟩,by dsimp only;omega⟩,⟨rfl,by simp⟩,rfl⟩
    ·dsimp only;rw[hst,htk m m1,List.take_of_length_le (Nat.le_refl _)]
    ·dsimp only;rw[hst,htk m m1];exact Nat.le_refl _
    ·dsimp only;rw[hst,List.length_append,hlen];rfl
theorem JL(l:List Node)(of k:Int)(f:Nat)(h:¬of<k):clb l of f k=k:=by
 cases f with
 |zero=>rfl
 |succ f=>simp only[clb];rw[if_neg (fun hh=>h hh.1)]
theorem zfA(l:List Node)(of:Int)(h0:0≤of):∀(f:Nat)(k:Int),k.toNat≤f→clb l of (f+1) k=clb l of f k
 |0,k,h=>by rw[JL _ _ _ _ (by omega),JL _ _ _ _ (by omega)]
 |f+1,k,h=>by
  rw[clb]
  conv=>rhs;rw[clb]
  by_cases hc:of<k∧(l.getD k.toNat .zero).parent<k
  ·rw[if_pos hc,if_pos hc,zfA l of h0 f _ (by omega)]
  ·rw[if_neg hc,if_neg hc]
theorem zfz(l:List Node)(of:Int)(h0:0≤of)(k:Int):∀(d:Nat),clb l of (k.toNat+d) k=clb l of k.toNat k
 |0=>rfl
 |d+1=>by rw[←zfz l of h0 k d,←Nat.add_assoc,zfA l of h0 _ _ (by omega)]
theorem zf6(l:List Node)(k:Int):inN l k k=true:=by
 unfold inN;rw[JL _ _ _ _ (by omega)];simp
theorem zxs(l:List Node)(k p:Int)(h:k<p):inN l k p=false:=by
 unfold inN;rw[JL _ _ _ _ (by omega)];simp;omega
theorem J4(l:List Node)(k:Nat)(p:Int)(h0:0≤p)(h1:p<k)(h2:par l k<k):inN l k p=inN l (par l k) p:=by
 unfold inN
 have e:((k:Int)).toNat=(k - 1)+1:=by omega
 have e2:l.getD ((k:Int)).toNat .zero=l.getD k .zero:=by rw[Int.toNat_natCast]
 conv=>lhs;rw[e,clb,e2]
 rw[if_pos ⟨h1,h2⟩]
 show decide (clb l p (k - 1) (par l k)=p)=_
 obtain⟨d,hd⟩:∃d,k - 1=(par l k).toNat+d:=⟨k - 1 - (par l k).toNat,by omega⟩
 rw[hd,zfz l p h0]
theorem Wh(l:List Node)(k p:Int)(h:inN l k p=true):p≤k:=by
 refine Decidable.byContradiction fun hn=> ?_
 rw[zxs l k p (by omega)]at h;cases h
theorem zmu(l:List Node)(n:Nat)(hd:∀j,j<n→par l j<j):∀(m:Nat),m<n→∀(q p:Int),0≤p→p≤q→inN l m q=true→inN l m p=inN l q p:=by
 intro m
 induction m using Nat.strongRecOn with
 |_ m ih=>
  intro hm q p h0 h1 h2
  have hq:=Wh _ _ _ h2
  by_cases e:q=m
  ·subst e;rfl
  ·have hp:=hd m hm
   rw[J4 l m q (by omega) (by omega) hp]at h2
   have hq2:=Wh _ _ _ h2
   rw[J4 l m p h0 (by omega) hp]
   have hn:((par l m).toNat:Int)=par l m:=Int.toNat_of_nonneg (by omega)
   rw[←hn]at h2⊢
   exact ih (par l m).toNat (by omega) (by omega) q p h0 h1 h2
def zdw(l:List Node)(n:Nat):Prop:=∀j,j<n→qO l j=true
theorem zab{l:List Node}:qO l 0=true↔(par l 0= -1∧(l.getD 0 .zero).type≠⟨#[]⟩):=by
 simp[qO,par]
theorem Jt{l:List Node}{k:Nat}(h:0<k):qO l k=true↔(zgg (l.getD k .zero)=false∧0≤par l k∧par l k<k∧inN l (k - 1) (par l k)=true∧(l.getD (par l k).toNat .zero).type≠⟨#[]⟩):=by
 unfold qO
 rw[if_neg (by omega)]
 cases hb:zgg (l.getD k .zero)<;>simp
theorem Wv{l:List Node}{n:Nat}(h:zdw l n):∀j,j<n→par l j<j:=by
 intro j hj
 have:=h j hj
 by_cases e:j=0
 ·subst e;rw[(zab.1 this).1];omega
 ·exact((Jt (by omega)).1 this).2.2.1
theorem zsG{l:List Node}{n:Nat}(h:zdw l n)(j:Nat)(h0:0<j)(hj:j<n):0≤par l j:=((Jt h0).1 (h j hj)).2.1
theorem zbT(l:List Node):∀k,(stk l k).Pairwise (· < ·)
 |0=>List.Pairwise.nil
 |k+1=>by
  simp only[stk]
  rw[List.pairwise_append]
  refine⟨(zbT l k).sublist (List.take_sublist _ _),by simp,fun a ha b hb=> ?_⟩
  have:=zaK l k a (List.mem_of_mem_take ha)
  simp at hb
  omega
theorem WJ(s:List Int)(m:Nat)(h:m<s.length):s.take (m+1)=s.take m++ [s.getD m 0]:=by
 rw[List.take_add_one,List.getElem?_eq_getElem h,List.getD_eq_getElem?_getD,List.getElem?_eq_getElem h];rfl
theorem zgr(p:Int)(s:List Int)(hs:s.Pairwise (· < ·)):∀(m:Nat),m≤s.length→p∈s.take m→∀x,x∈s.take (zbC p s m)↔x∈s.take m∧x≤p
 |0,_,hp,x=>by simp at hp
 |m+1,hm,hp,x=>by
  have hsub:(s.take (m+1)).Pairwise (· < ·):=hs.sublist (List.take_sublist _ _)
  rw[WJ s m (by omega),List.pairwise_append]at hsub
  have hlt:∀a∈s.take m,a<s.getD m 0:=fun a ha=>hsub.2.2 a ha _ (by simp)
  simp only[zbC]
  by_cases e:s.getD m 0=p
  ·rw[if_pos e,WJ s m (by omega),e]
   simp only[List.mem_append,List.mem_singleton]
   constructor
   ·rintro(h|h)
    ·exact⟨.inl h,by have:=hlt x h;omega⟩
    ·exact⟨.inr h,by omega⟩
   ·exact fun h=>h.1
  ·rw[if_neg e]
   rw[WJ s m (by omega)]at hp⊢
   simp only[List.mem_append,List.mem_singleton]at hp⊢
   have hp':p∈s.take m:=by
    rcases hp with hp|hp
    ·exact hp
    ·exact absurd hp.symm e
   rw[zgr p s hs m (by omega) hp' x]
   constructor
   ·exact fun h=>⟨.inl h.1,h.2⟩
   ·rintro⟨h|h,h2⟩
    ·exact⟨h,h2⟩
    ·have:=hlt p hp';omega
theorem zsF(l:List Node):∀k,zdw l (k+1)→∀p:Int,p∈stk l (k+1)↔(0≤p∧inN l k p=true)
 |0,h,p=>by
  simp only[stk,List.take_nil,List.nil_append,List.mem_singleton]
  constructor
  ·rintro rfl;exact⟨by omega,zf6 l 0⟩
  ·rintro⟨h1,h2⟩
   have:=Wh _ _ _ h2;omega
 |k+1,h,p=>by
  have ih:=zsF l k (fun j hj=>h j (by omega))
  have hk:=(Jt (by omega)).1 (h (k+1) (by omega))
  have hpar:=Wv h (k+1) (by omega)
  have e1:(((k+1:Nat):Int) - 1)=k:=by omega
  rw[e1]at hk
  have hmem:par l (k+1)∈(stk l (k+1)).take (stk l (k+1)).length:=by
   rw[List.take_length];exact(ih _).2 ⟨hk.2.1,hk.2.2.2.1⟩
  have e2:stk l (k+1+1)=(stk l (k+1)).take (zbC (par l (k+1)) (stk l (k+1)) (stk l (k+1)).length)++ [((k+1:Nat):Int)]:=rfl
  rw[e2]
  simp only[List.mem_append,List.mem_singleton]
  rw[zgr _ _ (zbT l (k+1)) _ (Nat.le_refl _) hmem p,List.take_length,ih]
  have ht:p≤par l (k+1)→0≤p→inN l k p=inN l (par l (k+1)) p:=fun h1 h0=>zmu l (k+1) (Wv (fun j hj=>h j (by omega))) k (by omega) _ _ h0 h1 hk.2.2.2.1
  constructor
  ·rintro(⟨⟨h1,h2⟩,h3⟩|h1)
   ·refine⟨h1,?_⟩
    rw[J4 l (k+1) p h1 (by omega) hpar,←ht h3 h1];exact h2
   ·subst h1;exact⟨by omega,zf6 _ _⟩
  ·rintro⟨h1,h2⟩
   by_cases e:p=((k+1:Nat):Int)
   ·exact .inr e
   ·have hle:=Wh _ _ _ h2
    rw[J4 l (k+1) p h1 (by omega) hpar]at h2
    have hle2:=Wh _ _ _ h2
    exact .inl ⟨⟨h1,by rw[ht hle2 h1];exact h2⟩,hle2⟩
theorem zmJ(l:List Node)(k:Nat)(h:zdw l k):zbq (l.getD k .zero) (stk l k) l=qO l k:=by
 cases k with
 |zero=>simp[zbq,stk,qO]
 |succ k=>
  unfold zbq qO
  rw[if_neg (show ¬stk l (k+1)= []by simp[stk]),if_neg (show ¬k+1=0 by omega)]
  by_cases hb:zgg (l.getD (k+1) .zero)=true
  ·rw[if_pos hb,if_pos hb]
  ·rw[if_neg hb,if_neg hb]
   have hm:=zaK l (k+1) (par l (k+1))
   have e1:(((k+1:Nat):Int) - 1)=k:=by omega
   rw[e1,decide_eq_decide]
   show(par l (k+1)∈stk l (k+1)∧_)↔_
   rw[zsF l k h]
   constructor
   ·rintro⟨⟨h1,h2⟩,h3⟩
    have:=Wh _ _ _ h2
    exact⟨h1,by omega,h2,h3⟩
   ·rintro⟨h1,h2,h3,h4⟩
    exact⟨⟨h1,h3⟩,h4⟩
theorem zdf(p q:Nat→Bool):∀(f k:Nat),(∀m,k≤m→(∀j,k≤j→j<m→q j=false)→p m=q m)→fst p f k=fst q f k
 |0,_,_=>rfl
 |f+1,k,h=>by
  simp only[fst]
  rw[h k (Nat.le_refl _) (fun j h1 h2=>by omega)]
  by_cases hq:q k=true
  ·rw[if_pos hq,if_pos hq]
  ·rw[if_neg hq,if_neg hq]
   refine zdf p q f (k+1) fun m hm hj=>h m (by omega) fun j h1 h2=> ?_
   by_cases e:j=k
   ·subst e;simpa using hq
   ·exact hj j (by omega) h2
theorem Z9(l:List Node):zfu l=K7 l:=by
 unfold zfu K7
 refine zdf _ _ _ _ fun m _ hj=> ?_
 rw[zmJ l m (fun j h=>by have:=hj j (by omega) h;simpa using this)]
def zru(l:List Node):Prop:=l.length≠0∧zdw l l.length
theorem zqs(l:List Node):K7 l<0↔zdw l l.length:=by
 unfold K7
 rcases kU (fun k=> !qO l k) (l.length - 0) 0 with⟨h1,h2⟩|⟨m,h1,h2,h3,h4,h5⟩
 ·rw[h1]
  refine⟨fun _ j hj=> ?_,fun _=>by omega⟩
  have:=h2 j (by omega) (by omega)
  simpa using this
 ·rw[h1]
  refine⟨fun h=>by omega,fun h=> ?_⟩
  have:=h m (by omega)
  simp[this]at h4
def Wc(l:List Node):Bool:=decide (K7 l<0∧l.length≠0)
theorem zfM(l:List Node):Wc l=true↔zru l:=by
 unfold Wc zru;rw[decide_eq_true_eq,zqs];exact And.comm
section
def Kz:Sum Tryz.prog:=⟨62,fun args=>args= [zo (zl (args.getD 0 .any))]∧((zl (args.getD 0 .any))).length≤1000,fun args=>qk (zl (args.getD 0 .any)) (zfu (zl (args.getD 0 .any))),fun args h=>by
 have:=zwR (zl (args.getD 0 .any)) h.2;rwa [←h.1]at this,false⟩
theorem znO:Kz.f=62:=rfl
theorem znN(args:List V):Kz.D args=(args= [zo (zl (args.getD 0 .any))]∧((zl (args.getD 0 .any))).length≤1000):=rfl
theorem zes:Kz.flat=false:=rfl
theorem znP(args:List V):Kz.r args=qk (zl (args.getD 0 .any)) (zfu (zl (args.getD 0 .any))):=rfl
attribute [go_sem] znO znN zes znP
def Xw:Sum Tryz.prog:=⟨38,fun args=>args= [zo (zl (args.getD 0 .any))]∧((zl (args.getD 0 .any))).length≤1000,fun args=>qk (zl (args.getD 0 .any)) (K7 (zl (args.getD 0 .any))),fun args h=>by
 have:=zwQ (zl (args.getD 0 .any)) h.2;rwa [←h.1]at this,false⟩
theorem znL:Xw.f=38:=rfl
theorem znK(args:List V):Xw.D args=(args= [zo (zl (args.getD 0 .any))]∧((zl (args.getD 0 .any))).length≤1000):=rfl
theorem zer:Xw.flat=false:=rfl
theorem znM(args:List V):Xw.r args=qk (zl (args.getD 0 .any)) (K7 (zl (args.getD 0 .any))):=rfl
attribute [go_sem] znL znK zer znM
structure KiS where
 n:Nat
 ver:Nat
 clk:Nat
def zdW(n:Node):Bool:=decide (n.type.size≤50∧n.id.size≤50∧n.text.size≤50∧n.cls.length≤5∧n.attrs.length≤5∧(∀j,j<n.cls.length→(n.cls.getD j ⟨#[]⟩).size≤50)∧∀j,j<n.attrs.length→(n.attrs.getD j (⟨#[]⟩,⟨#[]⟩)).1.size≤50∧(n.attrs.getD j (⟨#[]⟩,⟨#[]⟩)).2.size≤50)
def Yv(l:List Node):Bool:=decide (l.length≤60∧∀i,i<l.length→zdW (l.getD i .zero)=true)
theorem za5{l:List Node}{i:Nat}(hi:i<l.length)(h:¬zdW (l.getD i .zero)=true):false=Yv l:=by
 unfold Yv
 symm
 rw[decide_eq_false_iff_not]
 exact fun hh=>h (hh.2 i hi)
structure FwS where
 i:Nat
 clk:Nat
theorem zxh(l:List Node):zg Tryz.prog 33 [zo l] (vb (Yv l)):=by
 refine zg.of (Orc.nil _) zAd (by simp[c33]) fun w0 own0=> ?_
 simp only[c33,zo,go_sem,zc,seval,reduceIte,reduceCtorEq]
 refine zD.lp (α:=FwS) (fun a=>[(0,.slc 6 (l.map Node.enc)),(3,vi a.i)]) (fun a=>⟨[],a.clk⟩)
  (fun a=>a.i≤l.length∧a.i≤61∧∀i,i<a.i→zdW (l.getD i .zero)=true) (fun a=>l.length - a.i) ⟨0,0⟩ ⟨by simp,by simp,fun i hi=>by simp at hi⟩ (St.mk (by simp[zu,zk,zt])) fun a ha=> ?_
 obtain⟨i,clk⟩:=a
 simp only at ha
 obtain⟨h1,h2,h3⟩:=ha
 by_cases hil:i<l.length∧i≤60
 ·have e1:(i:Int)<(l.length:Int):=by omega
  have e2:(i:Int)≤60:=by omega
  have hg:=yv l i [.c (.int .i64 0),.c (.string ⟨#[]⟩),.c (.string ⟨#[]⟩),.c (.slice none 0 0),.c (.slice none 0 0),.c (.string ⟨#[]⟩)] hil.1
  generalize hN:l.getD i .zero=n at*
  simp only[e1,e2,hg,Node.enc,go_sem,zc,seval,reduceIte,reduceCtorEq]
  have hi:=hil.1
  refine⟨by omega,by omega,by omega,by omega,by omega,fun h=> ?_,fun h=> ?_⟩
  ·refine za5 hi ?_
   rw[hN];unfold zdW;rw[decide_eq_true_eq]
   rintro⟨a1,a2,a3,a4,a5,_⟩
   omega
  have hc:(¬ ∀j,j<n.cls.length→(n.cls.getD j ⟨#[]⟩).size≤50)→false=Yv l:=fun hh=>by
   refine za5 hi ?_
   rw[hN];unfold zdW;rw[decide_eq_true_eq]
   exact fun a=>hh a.2.2.2.2.2.1
  have hat:(¬ ∀j,j<n.attrs.length→(n.attrs.getD j (⟨#[]⟩,⟨#[]⟩)).1.size≤50∧(n.attrs.getD j (⟨#[]⟩,⟨#[]⟩)).2.size≤50)→false=Yv l:=fun hh=>by
   refine za5 hi ?_
   rw[hN];unfold zdW;rw[decide_eq_true_eq]
   exact fun a=>hh a.2.2.2.2.2.2
  refine zD.lp (α:=Nat) (fun j=>[(0,.slc 6 (l.map Node.enc)),(3,vi i),(4,.ptr 0 clk 0 0),(52,.slc 1 (n.cls.map fun s=>[vs s])),(53,vi n.cls.length),(54,vi j)])
   (fun _=>⟨[⟨clk,6,[n.enc],false,[]⟩],clk+1⟩)
   (fun j=>j≤n.cls.length∧∀i,i<j→(n.cls.getD i ⟨#[]⟩).size≤50) (fun j=>n.cls.length - j) 0 ⟨Nat.zero_le _,fun i hi=>by omega⟩ (St.cut ?_ ?_ ?_) fun j hj=> ?_
  ·simp[zu,zk,ev]
  ·simp[Node.enc]
  ·rfl
  obtain⟨j1,j2⟩:=hj
  by_cases hjl:j=n.cls.length
  ·subst hjl
   simp only[Int.lt_irrefl,Node.enc,go_sem,zc,seval,reduceIte,reduceCtorEq]
   refine zD.lp (α:=FwS) (fun a=>[(0,.slc 6 (l.map Node.enc)),(3,vi i),(63,.slc 2 (n.attrs.map fun p=>[vs p.1,vs p.2])),(64,vi n.attrs.length),(65,vi a.i)])
    (fun a=>⟨[],a.clk⟩)
    (fun a=>a.i≤n.attrs.length∧∀i,i<a.i→(n.attrs.getD i (⟨#[]⟩,⟨#[]⟩)).1.size≤50∧(n.attrs.getD i (⟨#[]⟩,⟨#[]⟩)).2.size≤50) (fun a=>n.attrs.length - a.i) ⟨0,clk+1⟩ ⟨Nat.zero_le _,fun i hi=>by simp at hi⟩ (St.cut ?_ ?_ ?_) fun a ha=> ?_
   ·simp[zu,zk,ev]
   ·simp
   ·rfl
   obtain⟨j,clk⟩:=a
   simp only at ha
   obtain⟨a1,a2⟩:=ha
   by_cases hja:j=n.attrs.length
   ·subst hja
    have hfn:zdW n=true:=by
     unfold zdW;rw[decide_eq_true_eq]
     exact⟨by omega,by omega,by omega,by omega,by omega,j2,a2⟩
    simp only[Int.lt_irrefl,go_sem,zc,seval,reduceIte,reduceCtorEq]
    refine⟨by omega,⟨i+1,clk⟩,⟨by dsimp only;omega,by dsimp only;omega,fun j hj=> ?_⟩,by dsimp only;omega,by dsimp only;omega,rfl⟩
    dsimp only at hj
    by_cases e:j=i
    ·subst e;rw[hN];exact hfn
    ·exact h3 j (by omega)
   ·have e3:(j:Int)<(n.attrs.length:Int):=by omega
    simp only[e3,Zn,go_sem,zc,seval,reduceIte,reduceCtorEq]
    refine⟨by omega,by omega,fun hh=>hat fun h2=> ?_,fun hh=>⟨by omega,⟨j+1,clk+1⟩,⟨by dsimp only;omega,fun m hm=> ?_⟩,by dsimp only;omega,by dsimp only;omega,rfl⟩⟩
    ·have:=h2 j (by omega);omega
    ·dsimp only at hm
     by_cases e:m=j
     ·subst e;omega
     ·exact a2 m (by omega)
  ·have e3:(j:Int)<(n.cls.length:Int):=by omega
   simp only[e3,Km,go_sem,zc,seval,reduceIte,reduceCtorEq]
   refine⟨by omega,fun hh=>hc fun h2=> ?_,fun hh=>⟨by omega,j+1,⟨by omega,fun m hm=> ?_⟩,by omega,by omega⟩⟩
   ·have:=h2 j (by omega);omega
   ·by_cases e:m=j
    ·subst e;omega
    ·exact j2 m (by omega)
 ·by_cases hlt:i<l.length
  ·have e1:(i:Int)<(l.length:Int):=by omega
   have e2:¬(i:Int)≤60:=by omega
   have e3:¬(l.length:Int)≤60:=by omega
   have e4:Yv l=false:=by
    unfold Yv;rw[decide_eq_false_iff_not];intro hh;have:=hh.1;omega
   simp only[e1,e2,e3,e4,go_sem,zc,seval,reduceIte,reduceCtorEq]
  ·have e1:¬(i:Int)<(l.length:Int):=by omega
   by_cases e3:(l.length:Int)≤60
   ·have e4:Yv l=true:=by
     unfold Yv;rw[decide_eq_true_eq];exact⟨by omega,fun j hj=>h3 j (by omega)⟩
    simp only[e1,e3,e4,go_sem,zc,seval,reduceIte,reduceCtorEq]
   ·have e4:Yv l=false:=by
     unfold Yv;rw[decide_eq_false_iff_not];intro hh;have:=hh.1;omega
    simp only[e1,e3,e4,go_sem,zc,seval,reduceIte,reduceCtorEq]
def XF:Sum Tryz.prog:=⟨33,fun args=>args= [zo (zl (args.getD 0 .any))],fun args=>vb (Yv (zl (args.getD 0 .any))),fun args h=>by
 have:=zxh (zl (args.getD 0 .any));rwa [←h]at this,true⟩
theorem zoj:XF.f=33:=rfl
theorem zoi(args:List V):XF.D args=(args= [zo (zl (args.getD 0 .any))]):=rfl
theorem zeC:XF.flat=true:=rfl
theorem zok(args:List V):XF.r args=vb (Yv (zl (args.getD 0 .any))):=rfl
attribute [go_sem] zoj zoi zeC zok
section
variable {cx:Cx} {rest:C} {Q:yy} {e:Nat→V} {h:Heap}
theorem zd(d:Option Nat)(t:Nat)(want:Bool)(f:FuncId)(xs:List X)(r:List AOp)(h1:enB (e t) want=true)(h2:(asB (e t).un).2=true)(h3:cx.T.flat f=false):
  wpR cx (⟨d,some (t,want),none,.call f xs⟩::r) rest Q e h=(yE e xs=true∧cx.T.pre f (xs.map (zi e)) h∧wpR cx r rest Q (zy e d (cx.T.v f (xs.map (zi e)) h)) (cx.T.hp f (xs.map (zi e)) h)):=by
 rw[zc]
 simp only[h1,h2,h3,Bool.false_eq_true,if_false,forall_const,implies_true,true_and,reduceCtorEq,false_implies,and_true,Bool.true_eq_false]
theorem zb(d:Option Nat)(t:Nat)(want:Bool)(f:FuncId)(xs:List X)(r:List AOp)(h1:enB (e t) want=false)(h2:(e t).gok=true→(asB (e t).un).2=true)(h3:cx.T.flat f=false):
  wpR cx (⟨d,some (t,want),none,.call f xs⟩::r) rest Q e h=wpR cx r rest Q (zy e d (.c undef)) h:=by
 rw[zc]
 simp only[h1,h3,Bool.false_eq_true,if_false,false_implies,true_and,forall_const]
 exact propext ⟨fun k=>k.2,fun k=>⟨h2,k⟩⟩
theorem za(d:Option Nat)(t:Nat)(want:Bool)(f:FuncId)(xs:List X)(r:List AOp)(h3:cx.T.flat f=true):
  wpR cx (⟨d,some (t,want),none,.call f xs⟩::r) rest Q e h=(((e t).gok=true→(asB (e t).un).2=true)∧(enB (e t) want=true→yE e xs=true∧cx.T.qpre f (xs.map (zi e)) h)∧wpR cx r rest Q (zy e d (.gd (enB (e t) want) (.c (cx.T.qv f (xs.map (zi e)) h)))) h):=by
 rw[zc]
 simp only[h3,if_true]
end
end
structure Smp where
 kind:Int
 text:ByteArray
 val:ByteArray
instance:Inhabited Smp:=⟨⟨0,⟨#[]⟩,⟨#[]⟩⟩⟩
def Smp.enc(s:Smp):List V:=[vi s.kind,vs s.text,vs s.val]
structure Cmp where
 link:Int
 l:List Smp
instance:Inhabited Cmp:=⟨⟨0,[]⟩⟩
def Cmp.enc(c:Cmp):List V:=[vi c.link,.slc 3 (c.l.map Smp.enc)]
abbrev Sel:=List Cmp
def zX(s:Sel):List V:=[.slc 2 (s.map Cmp.enc)]
def k9(l:List Sel):V:=.slc 1 (l.map zX)
def zq1(e:List V):Smp:=⟨(e.getD 0 .any).int,(e.getD 1 .any).str,(e.getD 2 .any).str⟩
def yL(v:V):Smp:=zq1 v.cs
def zfJ(e:List V):Cmp:=⟨(e.getD 0 .any).int,(e.getD 1 .any).es.map zq1⟩
def ZP(v:V):Cmp:=zfJ v.cs
def zkP(e:List V):Sel:=(e.getD 0 .any).es.map zfJ
def ki(v:V):Sel:=zkP v.cs
def ql(v:V):List Sel:=v.es.map zkP
theorem zq2(s:Smp):zq1 s.enc=s:=rfl
theorem zy9(sz:Nat)(l:List Smp):(V.slc sz (l.map Smp.enc)).es.map zq1=l:=by
 simp[V.es,Function.comp_def,zq2]
theorem X8(c:Cmp):zfJ c.enc=c:=by
 unfold zfJ Cmp.enc
 rw[show([vi c.link,V.slc 3 (c.l.map Smp.enc)]:List V).getD 1 .any=V.slc 3 (c.l.map Smp.enc)from rfl,zy9]
 rfl
theorem ju(n:Int)(l:List Smp):ZP (.agg [.c (.int .i64 n),.slc 3 (l.map Smp.enc)])=⟨n,l⟩:=X8 ⟨n,l⟩
theorem Wa(s:Sel):zkP (zX s)=s:=by
 unfold zkP zX
 simp[V.es,Function.comp_def,X8]
theorem zaz(s:Sel):ki (.agg [.slc 2 (s.map Cmp.enc)])=s:=Wa s
theorem Wb(l:List Sel):ql (.slc 1 (l.map zX))=l:=by
 simp[ql,V.es,Function.comp_def,Wa]
theorem jj(l:List Smp)(i:Nat):(l.map Smp.enc).getD i [.c (.int .i64 0),.c (.string ⟨#[]⟩),.c (.string ⟨#[]⟩)]=(l.getD i default).enc:=by
 simp only[List.getD_eq_getElem?_getD,List.getElem?_map]
 cases l[i]? <;>rfl
theorem kJ(l:List Cmp)(i:Nat)(d:List V)(h:i<l.length):(l.map Cmp.enc).getD i d=(l.getD i default).enc:=by
 simp[List.getD_eq_getElem?_getD,h]
theorem Kl(l:List Sel)(i:Nat)(d:List V)(h:i<l.length):(l.map zX).getD i d=zX (l.getD i []):=by
 simp[List.getD_eq_getElem?_getD,h]
theorem Cmp.eta(c:Cmp):(⟨c.link,c.l⟩:Cmp)=c:=rfl
theorem Smp.eta(c:Smp):(⟨c.kind,c.text,c.val⟩:Smp)=c:=rfl
structure LpS where
 n:Nat
 clk:Nat
def Ym(i:Nat)(x:Smp):Prop:=x.kind<1∨6<x.kind∨(0<i∧x.kind≤2)∨¬(x.text=⟨#[]⟩↔x.kind=1)∨(¬x.val=⟨#[]⟩∧¬x.kind=6)
instance (i:Nat) (x:Smp):Decidable (Ym i x):=by unfold Ym;infer_instance
def jU(c:Cmp)(first:Bool):Bool:=decide ((first=true↔c.link=0)∧0≤c.link∧c.link≤2∧0<c.l.length∧∀i,i<c.l.length→¬Ym i (c.l.getD i default))
theorem zsp(c:Cmp)(first:Bool)(hlen:c.l.length≤1000000):zg Tryz.prog 157 [.agg c.enc,vb first] (vb (jU c first)):=by
 refine zg.of (Orc.nil _) zwy (by simp[ziv]) fun w0 own0=> ?_
 have hf:(first==decide (c.link=0))=true↔(first=true↔c.link=0):=by
  cases first<;>by_cases h:c.link=0<;>simp[h]
 cases h1:(first==decide (c.link=0))with
 |true=>
  by_cases h2:c.link<0
  ·have e:jU c first=false:=by unfold jU;rw[decide_eq_false_iff_not];omega
   simp only[ziv,Cmp.enc,h1,h2,e,go_sem,zc,seval,reduceIte,reduceCtorEq]
  by_cases h3:2<c.link
  ·have e:jU c first=false:=by unfold jU;rw[decide_eq_false_iff_not];omega
   simp only[ziv,Cmp.enc,h1,h2,h3,e,go_sem,zc,seval,reduceIte,reduceCtorEq]
  by_cases h4:(c.l.length:Int)=0
  ·have e:jU c first=false:=by unfold jU;rw[decide_eq_false_iff_not];omega
   simp only[ziv,Cmp.enc,h1,h2,h3,h4,e,go_sem,zc,seval,reduceIte,reduceCtorEq]
  simp only[ziv,Cmp.enc,h1,h2,h3,h4,go_sem,zc,seval,reduceIte,reduceCtorEq]
  refine zD.lp (α:=LpS) (fun a=>[(29,.slc 3 (c.l.map Smp.enc)),(30,vi c.l.length),(31,vi a.n)]) (fun a=>⟨[],a.clk⟩)
   (fun a=>a.n≤c.l.length∧∀i,i<a.n→¬Ym i (c.l.getD i default)) (fun a=>c.l.length - a.n) ⟨0,1⟩ ⟨Nat.zero_le _,fun i hi=>absurd hi (Nat.not_lt_zero _)⟩ (St.cut (by simp[zu,zk,zt]) rfl rfl) fun a ha=> ?_
  obtain⟨k,clk⟩:=a
  simp only at ha
  obtain⟨k1,k2⟩:=ha
  by_cases he:k=c.l.length
  ·subst he
   have e:jU c first=true:=by unfold jU;rw[decide_eq_true_eq];exact⟨hf.1 h1,by omega,by omega,by omega,k2⟩
   simp only[Int.lt_irrefl,e,go_sem,zc,seval,reduceIte,reduceCtorEq]
  ·have e1:(k:Int)<(c.l.length:Int):=by omega
   have e0:(0:Int)≤(k:Int):=by omega
   have hlt:k<c.l.length:=by omega
   have hg:=jj c.l k
   generalize hx:c.l.getD k default=x at*
   by_cases hb:Ym k x
   ·have e:jU c first=false:=by
     unfold jU;rw[decide_eq_false_iff_not];exact fun h=>h.2.2.2.2 k hlt (by rw[hx];exact hb)
    unfold Ym at hb
    have hk:((0:Int)<(k:Int))=(0<k):=by rw[eq_iff_iff];omega
    simp only[e0,e1,hg,e,Smp.enc,hk,go_sem,zc,seval,reduceIte,reduceCtorEq]
    by_cases x1:x.kind<1<;>by_cases x2:6<x.kind<;>by_cases x3:0<k<;>by_cases x4:x.kind≤2<;>by_cases x5:x.text=⟨#[]⟩<;>by_cases x6:x.kind=1<;>by_cases x7:x.val=⟨#[]⟩<;>by_cases x8:x.kind=6<;>first|(exfalso;omega)|(exfalso;simp[x1,x2,x3,x4,x5,x6,x7,x8]at hb;done)|(simp[x1,x2,x3,x4,x5,x6,x7,x8];done)
   ·have hn:∀i,i<k+1→¬Ym i (c.l.getD i default):=fun i hi=>by
     by_cases h:i=k
     ·subst h;rw[hx];exact hb
     ·exact k2 i (by omega)
    unfold Ym at hb
    have hk:((0:Int)<(k:Int))=(0<k):=by rw[eq_iff_iff];omega
    simp only[e0,e1,hg,Smp.enc,hk,go_sem,zc,seval,reduceIte,reduceCtorEq]
    have fin:(-9223372036854775808≤(k:Int)+1∧(k:Int)+1≤9223372036854775807)∧∃b:LpS,(b.n≤c.l.length∧∀(i:Nat),i<b.n→¬Ym i (c.l.getD i default))∧c.l.length - b.n<c.l.length - k∧(k:Int)+1=(b.n:Int)∧clk+1=b.clk:=
     ⟨by omega,⟨k+1,clk+1⟩,⟨by dsimp only;omega,hn⟩,by dsimp only;omega,by dsimp only;omega,rfl⟩
    generalize hF:((-9223372036854775808≤(k:Int)+1∧(k:Int)+1≤9223372036854775807)∧∃b:LpS,(b.n≤c.l.length∧∀(i:Nat),i<b.n→¬Ym i (c.l.getD i default))∧c.l.length - b.n<c.l.length - k∧(k:Int)+1=(b.n:Int)∧clk+1=b.clk)=F at*
    by_cases x1:x.kind<1<;>by_cases x2:6<x.kind<;>by_cases x3:0<k<;>by_cases x4:x.kind≤2<;>by_cases x5:x.text=⟨#[]⟩<;>by_cases x6:x.kind=1<;>by_cases x7:x.val=⟨#[]⟩<;>by_cases x8:x.kind=6<;>first|(exfalso;omega)|(exfalso;simp[x1,x2,x3,x4,x5,x6,x7,x8]at hb;done)|(simp[x1,x2,x3,x4,x5,x6,x7,x8,fin];done)
 |false=>
  have e:jU c first=false:=by unfold jU;rw[decide_eq_false_iff_not];exact fun h=>by rw[hf.2 h.1]at h1;cases h1
  simp only[ziv,Cmp.enc,h1,e,go_sem,zc,seval,reduceIte,reduceCtorEq]
def zcd:Sum Tryz.prog:=⟨157,fun args=>args= [.agg (Cmp.enc (ZP (args.getD 0 .any))),vb (V.boo (args.getD 1 .any))]∧((ZP (args.getD 0 .any))).l.length≤1000000,fun args=>vb (jU (ZP (args.getD 0 .any)) (V.boo (args.getD 1 .any))),fun args h=>by
 have:=zsp (ZP (args.getD 0 .any)) (V.boo (args.getD 1 .any)) h.2;rwa [←h.1]at this,true⟩
theorem zuf:zcd.f=157:=rfl
theorem zue(args:List V):zcd.D args=(args= [.agg (Cmp.enc (ZP (args.getD 0 .any))),vb (V.boo (args.getD 1 .any))]∧((ZP (args.getD 0 .any))).l.length≤1000000):=rfl
theorem zhB:zcd.flat=true:=rfl
theorem zug(args:List V):zcd.r args=vb (jU (ZP (args.getD 0 .any)) (V.boo (args.getD 1 .any))):=rfl
attribute [go_sem] zuf zue zhB zug
def okC(s:Sel):Prop:=s.length≤1000000∧∀i,i<s.length→(s.getD i default).l.length≤1000000
def okM(l:List Sel):Prop:=l.length≤1000000∧∀i,i<l.length→okC (l.getD i [])
def Qs(s:Sel):Bool:=decide (1≤s.length∧s.length≤64∧∀i,i<s.length→jU (s.getD i default) (decide ((i:Int)=0))=true)
def Ye(l:List Sel):Bool:=decide (0<l.length∧∀i,i<l.length→Qs (l.getD i [])=true)
theorem zm1(l:List Sel)(hl:okM l):zg Tryz.prog 130 [k9 l] (vb (Ye l)):=by
 refine zg.of (Orc.cons zcd (Orc.nil _)) zwk (by simp[zzL]) fun w0 own0=> ?_
 obtain⟨hl1,hl2⟩:=hl
 simp only[zzL,k9,go_sem,zc,seval,reduceIte,reduceCtorEq]
 refine zD.lp (α:=LpS) (fun a=>[(0,.slc 1 (l.map zX)),(7,.slc 1 (l.map zX)),(8,vi l.length),(9,vi a.n)]) (fun a=>⟨[],a.clk⟩)
  (fun a=>a.n≤l.length∧∀i,i<a.n→Qs (l.getD i [])=true) (fun a=>l.length - a.n) ⟨0,0⟩ ⟨Nat.zero_le _,fun i hi=>absurd hi (Nat.not_lt_zero _)⟩ (St.mk (by simp[zu,zk,zt])) fun a ha=> ?_
 obtain⟨k,clk⟩:=a
 simp only at ha
 obtain⟨k1,k2⟩:=ha
 by_cases he:k=l.length
 ·subst he
  have e:Ye l=decide ((0:Int)<(l.length:Int)):=by
   unfold Ye;rw[decide_eq_decide];exact⟨fun h=>by omega,fun h=>⟨by omega,k2⟩⟩
  simp only[Int.lt_irrefl,e,go_sem,zc,seval,reduceIte,reduceCtorEq]
 ·have e1:(k:Int)<(l.length:Int):=by omega
  have e0:(0:Int)≤(k:Int):=by omega
  have hlt:k<l.length:=by omega
  have hg:=Kl l k [.c (.slice none 0 0)] hlt
  obtain⟨o1,o2⟩:=hl2 k hlt
  have hno:Qs (l.getD k [])=false→Ye l=false:=fun h=>by
   unfold Ye;rw[decide_eq_false_iff_not];exact fun hh=>by rw[hh.2 k hlt]at h;cases h
  generalize hx:l.getD k []=s at*
  by_cases h1:(s.length:Int)<1
  ·have e:=hno (by unfold Qs;rw[decide_eq_false_iff_not];omega)
   simp only[e0,e1,hg,zX,h1,e,go_sem,zc,seval,reduceIte,reduceCtorEq]
  by_cases h2:(64:Int)<(s.length:Int)
  ·have e:=hno (by unfold Qs;rw[decide_eq_false_iff_not];omega)
   simp only[e0,e1,hg,zX,h1,h2,e,go_sem,zc,seval,reduceIte,reduceCtorEq]
  simp only[e0,e1,hg,zX,h1,h2,go_sem,zc,seval,reduceIte,reduceCtorEq]
  refine zD.lp (α:=LpS) (fun a=>[(0,.slc 1 (l.map zX)),(7,.slc 1 (l.map zX)),(8,vi l.length),(9,vi k),(24,.slc 2 (s.map Cmp.enc)),(25,vi s.length),(26,vi a.n)]) (fun a=>⟨[],a.clk⟩)
   (fun a=>a.n≤s.length∧∀i,i<a.n→jU (s.getD i default) (decide ((i:Int)=0))=true) (fun a=>s.length - a.n) ⟨0,clk+1⟩ ⟨Nat.zero_le _,fun i hi=>absurd hi (Nat.not_lt_zero _)⟩ (St.cut (by simp[zu,zk,ev,zX]) rfl rfl) fun a ha=> ?_
  obtain⟨j,clk2⟩:=a
  simp only at ha
  obtain⟨j1,j2⟩:=ha
  by_cases hj:j=s.length
  ·subst hj
   have e:Qs s=true:=by unfold Qs;rw[decide_eq_true_eq];exact⟨by omega,by omega,j2⟩
   simp only[Int.lt_irrefl,go_sem,zc,seval,reduceIte,reduceCtorEq]
   have hn:∀i,i<k+1→Qs (l.getD i [])=true:=fun i hi=>by
    by_cases h:i=k
    ·subst h;rw[hx];exact e
    ·exact k2 i (by omega)
   exact⟨by omega,⟨k+1,clk2⟩,⟨by dsimp only;omega,hn⟩,by dsimp only;omega,by dsimp only;omega,rfl⟩
  ·have f1:(j:Int)<(s.length:Int):=by omega
   have f0:(0:Int)≤(j:Int):=by omega
   have hjl:j<s.length:=by omega
   have hgj:=kJ s j [.c (.int .i64 0),.c (.slice none 0 0)] hjl
   have ho:=o2 j hjl
   cases hr:jU (s.getD j default) (decide ((j:Int)=0))with
   |true=>
    have hn:∀i,i<j+1→jU (s.getD i default) (decide ((i:Int)=0))=true:=fun i hi=>by
     by_cases h:i=j
     ·subst h;exact hr
     ·exact j2 i (by omega)
    simp only[f0,f1,hgj,Cmp.enc,ju,Cmp.eta,V.boo_c,ho,hr,go_sem,zc,seval,reduceIte,reduceCtorEq]
    exact⟨by omega,⟨j+1,clk2+1⟩,⟨by dsimp only;omega,hn⟩,by dsimp only;omega,by dsimp only;omega,rfl⟩
   |false=>
    have e:=hno (by unfold Qs;rw[decide_eq_false_iff_not];exact fun h=>by rw[h.2.2 j hjl]at hr;cases hr)
    simp only[f0,f1,hgj,Cmp.enc,ju,Cmp.eta,V.boo_c,ho,hr,e,go_sem,zc,seval,reduceIte,reduceCtorEq]
def ixS(l:List ByteArray)(x:ByteArray):Int:=fst (fun i=>decide (x=l.getD i ⟨#[]⟩)) (l.length - 0) 0
theorem zxA(l:List ByteArray)(x:ByteArray):0≤ixS l x↔x∈l:=by
 unfold ixS
 rcases kU (fun i=>decide (x=l.getD i ⟨#[]⟩)) (l.length - 0) 0 with⟨h1,h2⟩|⟨m,h1,h2,h3,h4,h5⟩
 ·rw[h1]
  refine⟨fun h=>by omega,fun h=> ?_⟩
  obtain⟨i,hi,rfl⟩:=List.getElem_of_mem h
  have:=h2 i (by omega) (by omega)
  simp[List.getD_eq_getElem?_getD,hi]at this
 ·rw[h1]
  refine⟨fun _=> ?_,fun _=>by omega⟩
  simp only[decide_eq_true_eq]at h4
  rw[h4,List.getD_eq_getElem?_getD,List.getElem?_eq_getElem (by omega)]
  exact List.getElem_mem _
theorem zrz(l:List ByteArray)(x:ByteArray)(hl:l.length≤1000000):zg Tryz.prog 57 [Y6 l,vs x] (vi (ixS l x)):=by
 refine zg.of (Orc.nil _) zAw (by simp[c57]) fun w0 own0=> ?_
 simp only[c57,Y6,go_sem,zc,seval,reduceIte,reduceCtorEq]
 refine zD.lp (α:=Nat) (fun k=>[(0,.slc 1 (l.map fun n=>[vs n])),(1,vs x),(7,vi l.length),(8,vi k)]) (fun _=>⟨[],0⟩)
  (fun k=>k≤l.length∧fst (fun i=>decide (x=l.getD i ⟨#[]⟩)) (l.length - k) k=ixS l x) (fun k=>l.length - k) 0 ⟨Nat.zero_le _,rfl⟩ (St.mk (by simp[zu,zk,zt])) fun k hk=> ?_
 obtain⟨h1,h2⟩:=hk
 by_cases hkl:k=l.length
 ·subst hkl
  rw[Z1]at h2
  simp only[Int.lt_irrefl,←h2,go_sem,zc,seval,reduceIte,reduceCtorEq]
 ·have e1:(k:Int)<(l.length:Int):=by omega
  rw[kV _ _ _ (by omega)]at h2
  simp only[decide_eq_true_eq]at h2
  simp only[e1,Km,go_sem,zc,seval,reduceIte,reduceCtorEq]
  refine⟨by omega,fun h=>by rw[if_pos h]at h2;exact h2,fun h=>⟨by omega,k+1,⟨by omega,by rw[if_neg h]at h2;exact h2⟩,by omega,by omega⟩⟩
def WC:Sum Tryz.prog:=⟨57,fun args=>args= [Y6 (jg (args.getD 0 .any)),vs ((args.getD 1 .any).str)]∧((jg (args.getD 0 .any))).length≤1000000,fun args=>vi (ixS (jg (args.getD 0 .any)) ((args.getD 1 .any).str)),fun args h=>by
 have:=zrz (jg (args.getD 0 .any)) ((args.getD 1 .any).str) h.2;rwa [←h.1]at this,true⟩
theorem ztz:WC.f=57:=rfl
theorem zty(args:List V):WC.D args=(args= [Y6 (jg (args.getD 0 .any)),vs ((args.getD 1 .any).str)]∧((jg (args.getD 0 .any))).length≤1000000):=rfl
theorem zhn:WC.flat=true:=rfl
theorem ztA(args:List V):WC.r args=vi (ixS (jg (args.getD 0 .any)) ((args.getD 1 .any).str)):=rfl
attribute [go_sem] ztz zty zhn ztA
def Zb(l:List ByteArray)(x:ByteArray):Bool:=decide (0≤ixS l x)
theorem zbd(l:List ByteArray)(x:ByteArray):Zb l x=true↔x∈l:=by
 unfold Zb;rw[decide_eq_true_eq];exact zxA l x
theorem zwZ(l:List ByteArray)(x:ByteArray)(hl:l.length≤1000000):zg Tryz.prog 103 [Y6 l,vs x] (vb (Zb l x)):=by
 refine zg.of (Orc.cons WC (Orc.nil _)) zv0 (by simp[zzt]) fun w0 own0=> ?_
 simp only[zzt,Y6,Yt,Zb,go_sem,zc,seval,reduceIte,reduceCtorEq]
 exact hl
def KD:Sum Tryz.prog:=⟨103,fun args=>args= [Y6 (jg (args.getD 0 .any)),vs ((args.getD 1 .any).str)]∧((jg (args.getD 0 .any))).length≤1000000,fun args=>vb (Zb (jg (args.getD 0 .any)) ((args.getD 1 .any).str)),fun args h=>by
 have:=zwZ (jg (args.getD 0 .any)) ((args.getD 1 .any).str) h.2;rwa [←h.1]at this,true⟩
theorem zoa:KD.f=103:=rfl
theorem zn9(args:List V):KD.D args=(args= [Y6 (jg (args.getD 0 .any)),vs ((args.getD 1 .any).str)]∧((jg (args.getD 0 .any))).length≤1000000):=rfl
theorem zey:KD.flat=true:=rfl
theorem zob(args:List V):KD.r args=vb (Zb (jg (args.getD 0 .any)) ((args.getD 1 .any).str)):=rfl
attribute [go_sem] zoa zn9 zey zob
def Qk(name:ByteArray):List (ByteArray×ByteArray)→ByteArray
 | []=>⟨#[]⟩
 |p::r=>if p.1=name then p.2 else Qk name r
theorem zir(name:ByteArray)(l:List (ByteArray×ByteArray))(k:Nat)(h:k<l.length):Qk name (l.drop k)=if(l.getD k (⟨#[]⟩,⟨#[]⟩)).1=name then(l.getD k (⟨#[]⟩,⟨#[]⟩)).2 else Qk name (l.drop (k+1)):=by
 rw[List.drop_eq_getElem_cons h]
 have e:l.getD k (⟨#[]⟩,⟨#[]⟩)=l[k]:=by rw[List.getD_eq_getElem?_getD,List.getElem?_eq_getElem h];rfl
 rw[e];rfl
theorem zqq(n:Node)(name:ByteArray)(hl:n.attrs.length≤1000000):zg Tryz.prog 184 [.agg n.enc,vs name] (vs (Qk name n.attrs)):=by
 refine zg.of (Orc.nil _) zwN (by simp[zz1]) fun w0 own0=> ?_
 simp only[zz1,Node.enc,go_sem,zc,seval,reduceIte,reduceCtorEq]
 refine zD.lp (α:=Nat) (fun k=>[(1,vs name),(2,.ptr 0 0 0 0),(8,vi n.attrs.length),(9,vi k)]) (fun _=>⟨[⟨0,6,[n.enc],false,[]⟩],1⟩)
  (fun k=>k≤n.attrs.length∧Qk name (n.attrs.drop k)=Qk name n.attrs) (fun k=>n.attrs.length - k) 0 ⟨Nat.zero_le _,rfl⟩ (St.mk (by simp[zu,zk,zt,Node.enc])) fun k hk=> ?_
 obtain⟨h1,h2⟩:=hk
 by_cases hkl:k=n.attrs.length
 ·subst hkl
  rw[List.drop_length]at h2
  simp only[Node.enc,Int.lt_irrefl,←h2,Qk,go_sem,zc,seval,reduceIte,reduceCtorEq]
 ·have e1:(k:Int)<(n.attrs.length:Int):=by omega
  rw[zir _ _ _ (by omega)]at h2
  simp only[Node.enc,e1,Zn,go_sem,zc,seval,reduceIte,reduceCtorEq]
  refine⟨by omega,fun h=>⟨by omega,by rw[if_pos h]at h2;exact h2⟩,fun h=>⟨by omega,k+1,⟨by omega,by rw[if_neg h]at h2;exact h2⟩,by omega,by omega⟩⟩
theorem zwU(n:Node)(name:ByteArray)(hl:n.cls.length≤1000000):zg Tryz.prog 181 [.agg n.enc,vs name] (vb (Zb n.cls name)):=by
 refine zg.of (Orc.cons KD (Orc.nil _)) zwK (by simp[zzY]) fun w0 own0=> ?_
 simp only[zzY,Node.enc,Y6,Yt,go_sem,zc,seval,reduceIte,reduceCtorEq]
 exact hl
theorem zwT(n:Node)(name:ByteArray)(hl:n.cls.length≤1000000):zg Tryz.prog 161 [.agg n.enc,vs name] (vb (Zb n.cls name)):=by
 refine zg.of (Orc.nil _) zwE (by simp[zzS]) fun w0 own0=> ?_
 simp only[zzS,Node.enc,go_sem,zc,seval,reduceIte,reduceCtorEq]
 refine zD.lp (α:=Nat) (fun k=>[(1,vs name),(2,.ptr 0 0 0 0),(5,vi k)]) (fun _=>⟨[⟨0,6,[n.enc],false,[]⟩],1⟩)
  (fun k=>k≤n.cls.length∧∀i,i<k→n.cls.getD i ⟨#[]⟩≠name) (fun k=>n.cls.length - k) 0 ⟨Nat.zero_le _,fun i hi=>by omega⟩ (St.mk (by simp[zu,zk,zt])) fun k hk=> ?_
 obtain⟨h1,h2⟩:=hk
 by_cases hkl:k=n.cls.length
 ·subst hkl
  have hh:Zb n.cls name=false:=by
   cases hb:Zb n.cls name with
   |false=>rfl
   |true=>
    rw[zbd]at hb
    obtain⟨i,hi,e⟩:=List.getElem_of_mem hb
    exact absurd (by rw[List.getD_eq_getElem?_getD,List.getElem?_eq_getElem hi];exact e) (h2 i hi)
  simp only[Node.enc,Int.lt_irrefl,hh,go_sem,zc,seval,reduceIte,reduceCtorEq]
 ·have e1:(k:Int)<(n.cls.length:Int):=by omega
  simp only[Node.enc,e1,Km,go_sem,zc,seval,reduceIte,reduceCtorEq]
  refine⟨by omega,fun h=> ?_,fun h=>⟨by omega,k+1,⟨by omega,fun i hi=> ?_⟩,by omega,by omega⟩⟩
  ·have hh:Zb n.cls name=true:=by
    rw[zbd,←h,List.getD_eq_getElem?_getD,List.getElem?_eq_getElem (by omega)]
    exact List.getElem_mem _
   rw[hh]
  ·by_cases e:i=k
   ·subst e;exact h
   ·exact h2 i (by omega)
def QU:Sum Tryz.prog:=⟨184,fun args=>args= [.agg (Node.enc (zF (args.getD 0 .any))),vs ((args.getD 1 .any).str)]∧((zF (args.getD 0 .any))).attrs.length≤1000000,fun args=>vs (Qk ((args.getD 1 .any).str) ((zF (args.getD 0 .any))).attrs),fun args h=>by
 have:=zqq (zF (args.getD 0 .any)) ((args.getD 1 .any).str) h.2;rwa [←h.1]at this,true⟩
theorem zjF:QU.f=184:=rfl
theorem zjE(args:List V):QU.D args=(args= [.agg (Node.enc (zF (args.getD 0 .any))),vs ((args.getD 1 .any).str)]∧((zF (args.getD 0 .any))).attrs.length≤1000000):=rfl
theorem zcF:QU.flat=true:=rfl
theorem zjG(args:List V):QU.r args=vs (Qk ((args.getD 1 .any).str) ((zF (args.getD 0 .any))).attrs):=rfl
attribute [go_sem] zjF zjE zcF zjG
def Xy:Sum Tryz.prog:=⟨181,fun args=>args= [.agg (Node.enc (zF (args.getD 0 .any))),vs ((args.getD 1 .any).str)]∧((zF (args.getD 0 .any))).cls.length≤1000000,fun args=>vb (Zb ((zF (args.getD 0 .any))).cls ((args.getD 1 .any).str)),fun args h=>by
 have:=zwU (zF (args.getD 0 .any)) ((args.getD 1 .any).str) h.2;rwa [←h.1]at this,true⟩
theorem znV:Xy.f=181:=rfl
theorem znU(args:List V):Xy.D args=(args= [.agg (Node.enc (zF (args.getD 0 .any))),vs ((args.getD 1 .any).str)]∧((zF (args.getD 0 .any))).cls.length≤1000000):=rfl
theorem zet:Xy.flat=true:=rfl
theorem znW(args:List V):Xy.r args=vb (Zb ((zF (args.getD 0 .any))).cls ((args.getD 1 .any).str)):=rfl
attribute [go_sem] znV znU zet znW
theorem JR(k:Int)(a b:ByteArray):yL (.agg [.c (.int .i64 k),.c (.string a),.c (.string b)])=⟨k,a,b⟩:=rfl
theorem Ys(k:Int)(a b:ByteArray):yL (.pp [.c (.int .i64 k),.c (.string a),.c (.string b)])=⟨k,a,b⟩:=rfl
def dPr(v:V):ByteArray×ByteArray:=((v.cs.getD 0 .any).str,(v.cs.getD 1 .any).str)
def Jj(v:V):List Smp:=v.es.map zq1
theorem zfL(sz:Nat)(l:List Smp):Jj (.slc sz (l.map Smp.enc))=l:=zy9 sz l
theorem zA9(a b:ByteArray):dPr (.agg [.c (.string a),.c (.string b)])=(a,b):=rfl
theorem zC7(p:ByteArray×ByteArray)(s:Smp):zg Tryz.prog 183 [.agg [vs p.1,vs p.2],.pp s.enc] (vb (decide (p.1=s.text))):=by
 refine zg.of (Orc.nil _) zwM (by simp[zz0]) fun w0 own0=> ?_
 simp only[zz0,Smp.enc,go_sem,zc,seval,reduceIte,reduceCtorEq]
def zhD:Sum Tryz.prog:=⟨183,fun args=>args= [.agg [vs (dPr (args.getD 0 .any)).1,vs (dPr (args.getD 0 .any)).2],.pp (Smp.enc (yL (args.getD 1 .any)))],fun args=>vb (decide (((dPr (args.getD 0 .any))).1=((yL (args.getD 1 .any))).text)),fun args h=>by
 have:=zC7 (dPr (args.getD 0 .any)) (yL (args.getD 1 .any));rwa [←h]at this,true⟩
theorem zyt:zhD.f=183:=rfl
theorem zys(args:List V):zhD.D args=(args= [.agg [vs (dPr (args.getD 0 .any)).1,vs (dPr (args.getD 0 .any)).2],.pp (Smp.enc (yL (args.getD 1 .any)))]):=rfl
theorem zj6:zhD.flat=true:=rfl
theorem zyu(args:List V):zhD.r args=vb (decide (((dPr (args.getD 0 .any))).1=((yL (args.getD 1 .any))).text)):=rfl
attribute [go_sem] zyt zys zj6 zyu
def ixA(s:Smp)(l:List (ByteArray×ByteArray)):Int:=fst (fun i=>decide ((l.getD i (⟨#[]⟩,⟨#[]⟩)).1=s.text)) (l.length - 0) 0
theorem zBw(s:Smp)(l:List (ByteArray×ByteArray))(hl:l.length≤1000000):zg Tryz.prog 187 [.slc 2 (l.map fun p=>[vs p.1,vs p.2]),.fn 183 [.pp s.enc]] (vi (ixA s l)):=by
 refine zg.of (Orc.cons zhD (Orc.nil _)) zwP (by simp[zz3]) fun w0 own0=> ?_
 simp only[zz3,go_sem,zc,seval,reduceIte,reduceCtorEq]
 refine zD.lp (α:=Nat) (fun k=>[(0,.slc 2 (l.map fun p=>[vs p.1,vs p.2])),(1,.fn 183 [.pp s.enc]),(7,vi l.length),(8,vi k)]) (fun _=>⟨[],0⟩)
  (fun k=>k≤l.length∧fst (fun i=>decide ((l.getD i (⟨#[]⟩,⟨#[]⟩)).1=s.text)) (l.length - k) k=ixA s l) (fun k=>l.length - k) 0 ⟨Nat.zero_le _,rfl⟩ (St.mk (by simp[zu,zk,zt])) fun k hk=> ?_
 obtain⟨h1,h2⟩:=hk
 by_cases hkl:k=l.length
 ·subst hkl
  rw[Z1]at h2
  simp only[Int.lt_irrefl,←h2,go_sem,zc,seval,reduceIte,reduceCtorEq]
 ·have e1:(k:Int)<(l.length:Int):=by omega
  rw[kV _ _ _ (by omega)]at h2
  simp only[decide_eq_true_eq]at h2
  simp only[Smp.enc,Ys,zA9,e1,Zn,go_sem,zc,seval,reduceIte,reduceCtorEq]
  refine⟨by omega,fun h=>by rw[if_pos h]at h2;exact h2,fun h=>⟨by omega,k+1,⟨by omega,by rw[if_neg h]at h2;exact h2⟩,by omega,by omega⟩⟩
def zb4:Sum Tryz.prog:=⟨187,fun args=>args= [.slc 2 ((jB (args.getD 0 .any)).map fun p=>[vs p.1,vs p.2]),.fn 183 [.pp (Smp.enc (yL (((args.getD 1 .any).caps).getD 0 .any)))]]∧((jB (args.getD 0 .any))).length≤1000000,fun args=>vi (ixA (yL (((args.getD 1 .any).caps).getD 0 .any)) (jB (args.getD 0 .any))),fun args h=>by
 have:=zBw (yL (((args.getD 1 .any).caps).getD 0 .any)) (jB (args.getD 0 .any)) h.2;rwa [←h.1]at this,true⟩
theorem ztq:zb4.f=187:=rfl
theorem ztp(args:List V):zb4.D args=(args= [.slc 2 ((jB (args.getD 0 .any)).map fun p=>[vs p.1,vs p.2]),.fn 183 [.pp (Smp.enc (yL (((args.getD 1 .any).caps).getD 0 .any)))]]∧((jB (args.getD 0 .any))).length≤1000000):=rfl
theorem zhk:zb4.flat=true:=rfl
theorem ztr(args:List V):zb4.r args=vi (ixA (yL (((args.getD 1 .any).caps).getD 0 .any)) (jB (args.getD 0 .any))):=rfl
attribute [go_sem] ztq ztp zhk ztr
def zbc(s:Smp)(l:List (ByteArray×ByteArray)):Bool:=decide (0≤ixA s l)
theorem zxq(s:Smp)(l:List (ByteArray×ByteArray))(hl:l.length≤1000000):zg Tryz.prog 182 [.slc 2 (l.map fun p=>[vs p.1,vs p.2]),.fn 183 [.pp s.enc]] (vb (zbc s l)):=by
 refine zg.of (Orc.cons zb4 (Orc.nil _)) zwL (by simp[zzZ]) fun w0 own0=> ?_
 simp only[zzZ,Smp.enc,Ys,Zk,Smp.eta,hl,zbc,go_sem,zc,seval,reduceIte,reduceCtorEq]
def XH:Sum Tryz.prog:=⟨182,fun args=>args= [.slc 2 ((jB (args.getD 0 .any)).map fun p=>[vs p.1,vs p.2]),.fn 183 [.pp (Smp.enc (yL (((args.getD 1 .any).caps).getD 0 .any)))]]∧((jB (args.getD 0 .any))).length≤1000000,fun args=>vb (zbc (yL (((args.getD 1 .any).caps).getD 0 .any)) (jB (args.getD 0 .any))),fun args h=>by
 have:=zxq (yL (((args.getD 1 .any).caps).getD 0 .any)) (jB (args.getD 0 .any)) h.2;rwa [←h.1]at this,true⟩
theorem zop:XH.f=182:=rfl
theorem zoo(args:List V):XH.D args=(args= [.slc 2 ((jB (args.getD 0 .any)).map fun p=>[vs p.1,vs p.2]),.fn 183 [.pp (Smp.enc (yL (((args.getD 1 .any).caps).getD 0 .any)))]]∧((jB (args.getD 0 .any))).length≤1000000):=rfl
theorem zeE:XH.flat=true:=rfl
theorem zoq(args:List V):XH.r args=vb (zbc (yL (((args.getD 1 .any).caps).getD 0 .any)) (jB (args.getD 0 .any))):=rfl
attribute [go_sem] zop zoo zeE zoq
def YD(n:Node)(s:Smp):Bool:=if s.kind=1 then true else if s.kind=2 then decide (n.type=s.text)else if s.kind=3 then decide (n.id=s.text)else if s.kind=4 then Zb n.cls s.text else zbc s n.attrs&&(decide (s.kind=5)||decide (Qk s.text n.attrs=s.val))
def okN(n:Node):Prop:=n.cls.length≤1000000∧n.attrs.length≤1000000
theorem zB0(n:Node)(s:Smp)(h:okN n):zg Tryz.prog 175 [.agg n.enc,.agg s.enc] (vb (YD n s)):=by
 refine zg.of (Orc.cons Xy (Orc.cons XH (Orc.cons QU (Orc.nil _)))) zwI (by simp[zcw]) fun w0 own0=> ?_
 obtain⟨hc,ha⟩:=h
 unfold YD
 by_cases h1:s.kind=1
 ·simp only[zcw,Node.enc,Smp.enc,h1,go_sem,zc,seval,reduceIte,reduceCtorEq]
 by_cases h2:s.kind=2
 ·simp only[zcw,Node.enc,Smp.enc,h1,h2,go_sem,zc,seval,reduceIte,reduceCtorEq]
 by_cases h3:s.kind=3
 ·simp only[zcw,Node.enc,Smp.enc,h1,h2,h3,go_sem,zc,seval,reduceIte,reduceCtorEq]
 by_cases h4:s.kind=4
 ·simp only[zcw,Node.enc,Smp.enc,h1,h2,h3,h4,hc,yr,go_sem,zc,seval,reduceIte,reduceCtorEq]
 by_cases h5:s.kind=5
 ·cases hh:zbc s n.attrs with
  |true=>
   have hh5:zbc ⟨5,s.text,s.val⟩ n.attrs=true:=hh
   simp only[zcw,Node.enc,Smp.enc,h1,h2,h3,h4,h5,hh,hh5,ha,yr,Ys,Smp.eta,Zk,go_sem,zc,seval,reduceIte,reduceCtorEq]
  |false=>
   have hh5:zbc ⟨5,s.text,s.val⟩ n.attrs=false:=hh
   simp only[zcw,Node.enc,Smp.enc,h1,h2,h3,h4,h5,hh,hh5,ha,yr,Ys,Smp.eta,Zk,go_sem,zc,seval,reduceIte,reduceCtorEq]
 ·cases hh:zbc s n.attrs with
  |true=>simp only[zcw,Node.enc,Smp.enc,h1,h2,h3,h4,h5,hh,ha,yr,Ys,Smp.eta,Zk,go_sem,zc,seval,reduceIte,reduceCtorEq]
  |false=>simp only[zcw,Node.enc,Smp.enc,h1,h2,h3,h4,h5,hh,ha,yr,Ys,Smp.eta,Zk,go_sem,zc,seval,reduceIte,reduceCtorEq]
def zcf:Sum Tryz.prog:=⟨175,fun args=>args= [.agg (Node.enc (zF (args.getD 0 .any))),.agg (Smp.enc (yL (args.getD 1 .any)))]∧okN (zF (args.getD 0 .any)),fun args=>vb (YD (zF (args.getD 0 .any)) (yL (args.getD 1 .any))),fun args h=>by
 have:=zB0 (zF (args.getD 0 .any)) (yL (args.getD 1 .any)) h.2;rwa [←h.1]at this,true⟩
theorem zuo:zcf.f=175:=rfl
theorem zun(args:List V):zcf.D args=(args= [.agg (Node.enc (zF (args.getD 0 .any))),.agg (Smp.enc (yL (args.getD 1 .any)))]∧okN (zF (args.getD 0 .any))):=rfl
theorem zhF:zcf.flat=true:=rfl
theorem zup(args:List V):zcf.r args=vb (YD (zF (args.getD 0 .any)) (yL (args.getD 1 .any))):=rfl
attribute [go_sem] zuo zun zhF zup
theorem Ki(a:Int)(b c:ByteArray)(d:List ByteArray)(e:List (ByteArray×ByteArray))(f:ByteArray):
 zF (.pp [.c (.int .i64 a),.c (.string b),.c (.string c),.slc 1 (d.map fun s=>[vs s]),.slc 2 (e.map fun p=>[vs p.1,vs p.2]),.c (.string f)])=⟨a,b,c,d,e,f⟩:=Ji ⟨a,b,c,d,e,f⟩
theorem zm0(S:Nat→Bool)(h:Heap)(sz:Nat)(es:List (List V)):res S h 10 (.slc sz es)=some (.slc sz es):=rfl
theorem zxL(s:Smp)(n:Node)(h:okN n):zg Tryz.prog 174 [.agg s.enc,.pp n.enc] (vb (!YD n s)):=by
 refine zg.of (Orc.cons zcf (Orc.nil _)) zwH (by simp[zzW]) fun w0 own0=> ?_
 simp only[zzW,Node.enc,Smp.enc,h,yr,JR,Smp.eta,Node.eta,go_sem,zc,seval,reduceIte,reduceCtorEq]
def XL:Sum Tryz.prog:=⟨174,fun args=>args= [.agg (Smp.enc (yL (args.getD 0 .any))),.pp (Node.enc (zF (args.getD 1 .any)))]∧okN (zF (args.getD 1 .any)),fun args=>vb (!YD (zF (args.getD 1 .any)) (yL (args.getD 0 .any))),fun args h=>by
 have:=zxL (yL (args.getD 0 .any)) (zF (args.getD 1 .any)) h.2;rwa [←h.1]at this,true⟩
theorem zoT:XL.f=174:=rfl
theorem zoS(args:List V):XL.D args=(args= [.agg (Smp.enc (yL (args.getD 0 .any))),.pp (Node.enc (zF (args.getD 1 .any)))]∧okN (zF (args.getD 1 .any))):=rfl
theorem zeO:XL.flat=true:=rfl
theorem zoU(args:List V):XL.r args=vb (!YD (zF (args.getD 1 .any)) (yL (args.getD 0 .any))):=rfl
attribute [go_sem] zoT zoS zeO zoU
def ixC(n:Node)(l:List Smp):Int:=fst (fun i=> !YD n (l.getD i default)) (l.length - 0) 0
theorem zBx(n:Node)(l:List Smp)(hn:okN n)(hl:l.length≤1000000):zg Tryz.prog 180 [.slc 3 (l.map Smp.enc),.fn 174 [.pp n.enc]] (vi (ixC n l)):=by
 refine zg.of (Orc.cons XL (Orc.nil _)) zwJ (by simp[zzX]) fun w0 own0=> ?_
 simp only[zzX,go_sem,zc,seval,reduceIte,reduceCtorEq]
 refine zD.lp (α:=Nat) (fun k=>[(0,.slc 3 (l.map Smp.enc)),(1,.fn 174 [.pp n.enc]),(7,vi l.length),(8,vi k)]) (fun _=>⟨[],0⟩)
  (fun k=>k≤l.length∧fst (fun i=> !YD n (l.getD i default)) (l.length - k) k=ixC n l) (fun k=>l.length - k) 0 ⟨Nat.zero_le _,rfl⟩ (St.mk (by simp[zu,zk,zt])) fun k hk=> ?_
 obtain⟨h1,h2⟩:=hk
 by_cases hkl:k=l.length
 ·subst hkl
  rw[Z1]at h2
  simp only[Int.lt_irrefl,←h2,go_sem,zc,seval,reduceIte,reduceCtorEq]
 ·have e1:(k:Int)<(l.length:Int):=by omega
  have e0:(0:Int)≤(k:Int):=by omega
  rw[kV _ _ _ (by omega)]at h2
  cases hs:YD n (l.getD k default)with
  |true=>
   rw[hs]at h2
   simp only[Node.enc,Smp.enc,Ki,JR,Smp.eta,Node.eta,hn,hs,e0,e1,jj,go_sem,zc,seval,reduceIte,reduceCtorEq]
   exact⟨by omega,k+1,⟨by omega,h2⟩,by omega,by omega⟩
  |false=>
   rw[hs]at h2
   simp only[Node.enc,Smp.enc,Ki,JR,Smp.eta,Node.eta,hn,hs,e0,e1,jj,go_sem,zc,seval,reduceIte,reduceCtorEq]
   exact h2
def zb5:Sum Tryz.prog:=⟨180,fun args=>args= [.slc 3 ((Jj (args.getD 0 .any)).map Smp.enc),.fn 174 [.pp (Node.enc (zF (((args.getD 1 .any).caps).getD 0 .any)))]]∧okN (zF (((args.getD 1 .any).caps).getD 0 .any))∧((Jj (args.getD 0 .any))).length≤1000000,fun args=>vi (ixC (zF (((args.getD 1 .any).caps).getD 0 .any)) (Jj (args.getD 0 .any))),fun args h=>by
 have:=zBx (zF (((args.getD 1 .any).caps).getD 0 .any)) (Jj (args.getD 0 .any)) h.2.1 h.2.2;rwa [←h.1]at this,true⟩
theorem ztt:zb5.f=180:=rfl
theorem zts(args:List V):zb5.D args=(args= [.slc 3 ((Jj (args.getD 0 .any)).map Smp.enc),.fn 174 [.pp (Node.enc (zF (((args.getD 1 .any).caps).getD 0 .any)))]]∧okN (zF (((args.getD 1 .any).caps).getD 0 .any))∧((Jj (args.getD 0 .any))).length≤1000000):=rfl
theorem zhl:zb5.flat=true:=rfl
theorem ztu(args:List V):zb5.r args=vi (ixC (zF (((args.getD 1 .any).caps).getD 0 .any)) (Jj (args.getD 0 .any))):=rfl
attribute [go_sem] ztt zts zhl ztu
theorem zxr(n:Node)(l:List Smp)(hn:okN n)(hl:l.length≤1000000):zg Tryz.prog 173 [.slc 3 (l.map Smp.enc),.fn 174 [.pp n.enc]] (vb (decide (0≤ixC n l))):=by
 refine zg.of (Orc.cons zb5 (Orc.nil _)) zwG (by simp[zzV]) fun w0 own0=> ?_
 simp only[zzV,Node.enc,Ki,Node.eta,zfL,hn,hl,go_sem,zc,seval,reduceIte,reduceCtorEq]
def XI:Sum Tryz.prog:=⟨173,fun args=>args= [.slc 3 ((Jj (args.getD 0 .any)).map Smp.enc),.fn 174 [.pp (Node.enc (zF (((args.getD 1 .any).caps).getD 0 .any)))]]∧okN (zF (((args.getD 1 .any).caps).getD 0 .any))∧((Jj (args.getD 0 .any))).length≤1000000,fun args=>vb (decide (0≤ixC (zF (((args.getD 1 .any).caps).getD 0 .any)) (Jj (args.getD 0 .any)))),fun args h=>by
 have:=zxr (zF (((args.getD 1 .any).caps).getD 0 .any)) (Jj (args.getD 0 .any)) h.2.1 h.2.2;rwa [←h.1]at this,true⟩
theorem zos:XI.f=173:=rfl
theorem zor(args:List V):XI.D args=(args= [.slc 3 ((Jj (args.getD 0 .any)).map Smp.enc),.fn 174 [.pp (Node.enc (zF (((args.getD 1 .any).caps).getD 0 .any)))]]∧okN (zF (((args.getD 1 .any).caps).getD 0 .any))∧((Jj (args.getD 0 .any))).length≤1000000):=rfl
theorem zeF:XI.flat=true:=rfl
theorem zot(args:List V):XI.r args=vb (decide (0≤ixC (zF (((args.getD 1 .any).caps).getD 0 .any)) (Jj (args.getD 0 .any)))):=rfl
attribute [go_sem] zos zor zeF zot
def QN(n:Node)(c:Cmp):Bool:= !decide (n.type=⟨#[]⟩)&& !decide (0≤ixC n c.l)
theorem zBK(n:Node)(c:Cmp)(hn:okN n)(hl:c.l.length≤1000000):zg Tryz.prog 158 [.agg n.enc,.agg c.enc] (vb (QN n c)):=by
 refine zg.of (Orc.cons XI (Orc.nil _)) zwA (by simp[zwz]) fun w0 own0=> ?_
 unfold QN
 by_cases h1:n.type=⟨#[]⟩
 ·simp only[zwz,Node.enc,Cmp.enc,h1,go_sem,zc,seval,reduceIte,reduceCtorEq]
 ·simp only[zwz,Node.enc,Cmp.enc,zm0,Ki,Node.eta,zfL,h1,hn,hl,go_sem,zc,seval,reduceIte,reduceCtorEq]
def WE:Sum Tryz.prog:=⟨158,fun args=>args= [.agg (Node.enc (zF (args.getD 0 .any))),.agg (Cmp.enc (ZP (args.getD 1 .any)))]∧okN (zF (args.getD 0 .any))∧((ZP (args.getD 1 .any))).l.length≤1000000,fun args=>vb (QN (zF (args.getD 0 .any)) (ZP (args.getD 1 .any))),fun args h=>by
 have:=zBK (zF (args.getD 0 .any)) (ZP (args.getD 1 .any)) h.2.1 h.2.2;rwa [←h.1]at this,true⟩
theorem zt6:WE.f=158:=rfl
theorem zt5(args:List V):WE.D args=(args= [.agg (Node.enc (zF (args.getD 0 .any))),.agg (Cmp.enc (ZP (args.getD 1 .any)))]∧okN (zF (args.getD 0 .any))∧((ZP (args.getD 1 .any))).l.length≤1000000):=rfl
theorem zhy:WE.flat=true:=rfl
theorem zt7(args:List V):WE.r args=vb (QN (zF (args.getD 0 .any)) (ZP (args.getD 1 .any))):=rfl
attribute [go_sem] zt6 zt5 zhy zt7
def zaT(l:List Node):Prop:=l.length≤1000∧∀k,k<l.length→okN (l.getD k .zero)∧ -1≤par l k∧par l k<k
def goU(l:List Node)(p:Nat→Bool)(child:Bool):Nat→Int→Bool
 |0,_=>false
 |f+1,a=>if a<0 then false else if p a.toNat=true then true else if child=true then false else goU l p child f (par l a.toNat)
def upN(l:List Node)(s:Sel):Nat→Nat→Bool
 |0,k=>QN (l.getD k .zero) (s.getD 0 default)
 |m+1,k=>QN (l.getD k .zero) (s.getD (m+1) default)&&goU l (upN l s m) (decide ((s.getD (m+1) default).link=2)) (k+1) (par l k)
theorem zhW(s:Sel){m:Nat}(h:m<s.length):(s.take (m+1)).length=m+1:=by rw[List.length_take];omega
theorem zdB(s:Sel){m:Nat}:(s.take (m+1)).getD m default=s.getD m default:=by
 rw[List.getD_eq_getElem?_getD,List.getElem?_take,if_pos (by omega),←List.getD_eq_getElem?_getD]
theorem zDd(l:List Node)(hd:zaT l)(s:Sel)(hs:okC s):∀(m k:Nat),m<s.length→k<l.length→zg Tryz.prog 131 [zo l,vi k,.slc 2 ((s.take (m+1)).map Cmp.enc)] (vb (upN l s m k)):=by
 intro m
 induction m with
 |zero=>
  intro k hm hk
  refine zg.of (Orc.cons WE (Orc.nil _)) zkI (by simp[zqC]) fun w0 own0=> ?_
  have hlen:=zhW s hm
  have hg:=kJ (s.take (0+1)) 0 [.c (.int .i64 0),.c (.slice none 0 0)] (by omega)
  rw[zdB]at hg
  have hgn:=yv l k [.c (.int .i64 0),.c (.string ⟨#[]⟩),.c (.string ⟨#[]⟩),.c (.slice none 0 0),.c (.slice none 0 0),.c (.string ⟨#[]⟩)] hk
  obtain⟨hn,_⟩:=hd.2 k hk
  have ho:=hs.2 0 hm
  have e1:(k:Int)<(l.length:Int):=by omega
  have e0:(0:Int)≤(k:Int):=by omega
  generalize hS:s.take (0+1)=S at*
  have e2:((0+1:Nat):Int) - 1=0:=by omega
  simp only[zqC,zo,go_sem,zc,reduceCtorEq,reduceIte,Nat.reduceEqDiff,Nat.reduceAdd,Nat.reduceSub,Nat.reduceMul,Nat.reduceLT,Nat.reduceLeDiff,Nat.reduceBEq,Int.reduceEq,Int.reduceLT,Int.reduceLE,Int.reduceAdd,Int.reduceSub,Int.reduceNeg,Int.reduceToNat]
  refine zD.lab (α:=Unit) 0 (fun _=>[]) (fun _=>⟨[],0⟩) (fun _=>False) (fun _=>0) rfl ?_ fun x hx=>hx.elim
  cases h1:QN (l.getD k .zero) (s.getD 0 default)with
  |true=>simp only[upN,hlen,e2,hg,hgn,hn,ho,e0,e1,h1,Node.enc,Cmp.enc,yr,Node.eta,ju,Cmp.eta,go_sem,zc,reduceCtorEq,reduceIte,Nat.reduceEqDiff,Nat.reduceAdd,Nat.reduceSub,Nat.reduceMul,Nat.reduceLT,Nat.reduceLeDiff,Nat.reduceBEq,Int.reduceEq,Int.reduceLT,Int.reduceLE,Int.reduceAdd,Int.reduceSub,Int.reduceNeg,Int.reduceToNat]
  |false=>simp only[upN,hlen,e2,hg,hgn,hn,ho,e0,e1,h1,Node.enc,Cmp.enc,yr,Node.eta,ju,Cmp.eta,go_sem,zc,reduceCtorEq,reduceIte,Nat.reduceEqDiff,Nat.reduceAdd,Nat.reduceSub,Nat.reduceMul,Nat.reduceLT,Nat.reduceLeDiff,Nat.reduceBEq,Int.reduceEq,Int.reduceLT,Int.reduceLE,Int.reduceAdd,Int.reduceSub,Int.reduceNeg,Int.reduceToNat]
 |succ m ih=>
  intro k hm hk
  let q:Sum Tryz.prog:=⟨131,fun args=>∃j:Nat,args= [zo l,vi j,.slc 2 ((s.take (m+1)).map Cmp.enc)]∧j<l.length,fun args=>vb (upN l s m ((args.getD 1 .any).int.toNat)),fun args h=>by
   obtain⟨j,rfl,h1⟩:=h
   exact ih j (by omega) h1,true⟩
  have q1:q.f=131:=rfl
  have q2:∀args,q.D args= ∃j:Nat,args= [zo l,vi j,.slc 2 ((s.take (m+1)).map Cmp.enc)]∧j<l.length:=fun _=>rfl
  have q3:q.flat=true:=rfl
  have q4:∀args,q.r args=vb (upN l s m ((args.getD 1 .any).int.toNat)):=fun _=>rfl
  clear_value q
  refine zg.of (Orc.cons q (Orc.cons WE (Orc.nil _))) zkI (by simp[zqC]) fun w0 own0=> ?_
  have hlen:=zhW s hm
  have hg:=kJ (s.take (m+1+1)) (m+1) [.c (.int .i64 0),.c (.slice none 0 0)] (by omega)
  rw[zdB]at hg
  have hgn:=yv l k [.c (.int .i64 0),.c (.string ⟨#[]⟩),.c (.string ⟨#[]⟩),.c (.slice none 0 0),.c (.slice none 0 0),.c (.string ⟨#[]⟩)] hk
  obtain⟨hn,hp1,hp2⟩:=hd.2 k hk
  have hl:=hd.1
  have ho:=hs.2 (m+1) hm
  have hsl:=hs.1
  have e1:(k:Int)<(l.length:Int):=by omega
  have e0:(0:Int)≤(k:Int):=by omega
  have e2:((m+1+1:Nat):Int) - 1=((m+1:Nat):Int):=by omega
  have e3:¬((m+1:Nat):Int)=0:=by omega
  have e4:(0:Int)≤((m+1:Nat):Int):=by omega
  have e5:((m+1:Nat):Int)<((m+1+1:Nat):Int):=by omega
  have hS2:(s.take (m+1+1)).take (m+1)=s.take (m+1):=by rw[List.take_take,Nat.min_eq_left (by omega)]
  generalize hS:s.take (m+1+1)=S at*
  simp only[zqC,zo,go_sem,zc,reduceCtorEq,reduceIte,Nat.reduceEqDiff,Nat.reduceAdd,Nat.reduceSub,Nat.reduceMul,Nat.reduceLT,Nat.reduceLeDiff,Nat.reduceBEq,Int.reduceEq,Int.reduceLT,Int.reduceLE,Int.reduceAdd,Int.reduceSub,Int.reduceNeg,Int.reduceToNat]
  refine zD.lab (α:=Int) 0 (fun a=>[(0,.slc 6 (l.map Node.enc)),(2,.slc 2 (S.map Cmp.enc)),(7,vi ((m+1:Nat):Int)),(8,vi a)]) (fun _=>⟨[],0⟩)
   (fun a=> -1≤a∧a<l.length∧∃f:Nat,a<f∧upN l s (m+1) k=goU l (upN l s m) (decide ((s.getD (m+1) default).link=2)) f a) (fun a=>(a+1).toNat) rfl ?_ fun a ha=> ?_
  ·cases h1:QN (l.getD k .zero) (s.getD (m+1) default)with
   |true=>
    have hu:upN l s (m+1) k=goU l (upN l s m) (decide ((s.getD (m+1) default).link=2)) (k+1) (par l k):=by
     show(QN _ _&&_)=_
     rw[h1];rfl
    simp only[hlen,e2,e3,e4,e5,hg,hgn,hn,ho,e0,e1,h1,Int.toNat_natCast,Node.enc,Cmp.enc,yr,Node.eta,ju,Cmp.eta,q1,q2,q3,q4,go_sem,zc,reduceCtorEq,reduceIte,Nat.reduceEqDiff,Nat.reduceAdd,Nat.reduceSub,Nat.reduceMul,Nat.reduceLT,Nat.reduceLeDiff,Nat.reduceBEq,Int.reduceEq,Int.reduceLT,Int.reduceLE,Int.reduceAdd,Int.reduceSub,Int.reduceNeg,Int.reduceToNat]
    exact⟨⟨by omega,by omega⟩,par l k,⟨hp1,by omega,k+1,by omega,hu⟩,St.mk (by simp[zu,zk,zt,par])⟩
   |false=>
    have hu:upN l s (m+1) k=false:=by
     show(QN _ _&&_)=_
     rw[h1];rfl
    simp only[hu,hlen,e2,e3,e4,e5,hg,hgn,hn,ho,e0,e1,h1,Int.toNat_natCast,Node.enc,Cmp.enc,yr,Node.eta,ju,Cmp.eta,q1,q2,q3,q4,go_sem,zc,reduceCtorEq,reduceIte,Nat.reduceEqDiff,Nat.reduceAdd,Nat.reduceSub,Nat.reduceMul,Nat.reduceLT,Nat.reduceLeDiff,Nat.reduceBEq,Int.reduceEq,Int.reduceLT,Int.reduceLE,Int.reduceAdd,Int.reduceSub,Int.reduceNeg,Int.reduceToNat]
    exact⟨by omega,by omega⟩
  ·obtain⟨a1,a2,f,a3,a4⟩:=ha
   by_cases h0:a<0
   ·have hu:upN l s (m+1) k=false:=by
     rw[a4];cases f with
     |zero=>rfl
     |succ f=>unfold goU;rw[if_pos h0]
    simp only[h0,hu,q1,q2,q3,q4,go_sem,zc,reduceCtorEq,reduceIte,Nat.reduceEqDiff,Nat.reduceAdd,Nat.reduceSub,Nat.reduceMul,Nat.reduceLT,Nat.reduceLeDiff,Nat.reduceBEq,Int.reduceEq,Int.reduceLT,Int.reduceLE,Int.reduceAdd,Int.reduceSub,Int.reduceNeg,Int.reduceToNat]
   ·obtain⟨j,rfl⟩:∃j:Nat,a=j:=⟨a.toNat,by omega⟩
    have hj:j<l.length:=by omega
    obtain⟨f,rfl⟩:∃g,f=g+1:=⟨f - 1,by omega⟩
    have hu:upN l s (m+1) k=if upN l s m j=true then true else if(decide ((s.getD (m+1) default).link=2))=true then false else goU l (upN l s m) (decide ((s.getD (m+1) default).link=2)) f (par l j):=by
     rw[a4];conv=>lhs;unfold goU
     rw[if_neg h0,Int.toNat_natCast]
    obtain⟨_,b1,b2⟩:=hd.2 j hj
    have f1:(j:Int)<(l.length:Int):=by omega
    have f0:(0:Int)≤(j:Int):=by omega
    have hgj:=yv l j [.c (.int .i64 0),.c (.string ⟨#[]⟩),.c (.string ⟨#[]⟩),.c (.slice none 0 0),.c (.slice none 0 0),.c (.string ⟨#[]⟩)] hj
    have g3:∃i:Nat,(j:Int)=i∧i<l.length:=⟨j,rfl,hj⟩
    cases hq:upN l s m j with
    |true=>
     rw[hq,if_pos rfl]at hu
     simp only[h0,f0,f1,hu,hq,hlen,hS2,g3,zo,Int.toNat_natCast,q1,q2,q3,q4,go_sem,zc,reduceCtorEq,reduceIte,Nat.reduceEqDiff,Nat.reduceAdd,Nat.reduceSub,Nat.reduceMul,Nat.reduceLT,Nat.reduceLeDiff,Nat.reduceBEq,Int.reduceEq,Int.reduceLT,Int.reduceLE,Int.reduceAdd,Int.reduceSub,Int.reduceNeg,Int.reduceToNat]
     exact⟨⟨by omega,by omega⟩,j,⟨rfl,by rw[Nat.sub_zero,hS2]⟩,hj⟩
    |false=>
     rw[hq,if_neg (by decide)]at hu
     by_cases hc:(s.getD (m+1) default).link=2
     ·rw[decide_eq_true hc,if_pos rfl]at hu
      simp only[h0,f0,f1,hu,hq,hlen,hS2,hg,hc,e4,e5,g3,zo,Cmp.enc,Int.toNat_natCast,q1,q2,q3,q4,go_sem,zc,reduceCtorEq,reduceIte,Nat.reduceEqDiff,Nat.reduceAdd,Nat.reduceSub,Nat.reduceMul,Nat.reduceLT,Nat.reduceLeDiff,Nat.reduceBEq,Int.reduceEq,Int.reduceLT,Int.reduceLE,Int.reduceAdd,Int.reduceSub,Int.reduceNeg,Int.reduceToNat]
      exact⟨by omega,j,⟨rfl,by rw[Nat.sub_zero,hS2]⟩,hj⟩
     ·rw[decide_eq_false hc,if_neg (by decide)]at hu
      simp only[h0,f0,f1,hq,hlen,hS2,hg,hc,hgj,e4,e5,g3,zo,Cmp.enc,Node.enc,Int.toNat_natCast,q1,q2,q3,q4,go_sem,zc,reduceCtorEq,reduceIte,Nat.reduceEqDiff,Nat.reduceAdd,Nat.reduceSub,Nat.reduceMul,Nat.reduceLT,Nat.reduceLeDiff,Nat.reduceBEq,Int.reduceEq,Int.reduceLT,Int.reduceLE,Int.reduceAdd,Int.reduceSub,Int.reduceNeg,Int.reduceToNat]
      exact⟨by omega,⟨j,⟨rfl,by rw[Nat.sub_zero,hS2]⟩,hj⟩,par l j,⟨b1,by omega,f,by omega,hu⟩,by omega,rfl⟩
def Yo(v:V):List Cmp:=v.es.map zfJ
theorem Yp(sz:Nat)(l:List Cmp):Yo (.slc sz (l.map Cmp.enc))=l:=by
 simp[Yo,V.es,Function.comp_def,X8]
theorem Yr(s:Sel):ql (.slc 1 [[.slc 2 (s.map Cmp.enc)]])= [s]:=Wb [s]
def jS(l:List Node):Prop:=∀k,k<l.length→okN (l.getD k .zero)
theorem zfN{l:List Node}(hl:l.length≤1000)(hn:jS l)(h:zru l):zaT l:=by
 refine⟨hl,fun k hk=>⟨hn k hk,?_,Wv h.2 k hk⟩⟩
 by_cases h0:k=0
 ·subst h0
  have:=(zab.1 (h.2 0 hk)).1
  omega
 ·have:=zsG h.2 k (by omega) hk
  omega
theorem zCa(l:List Node)(hd:zaT l)(s:Sel)(hs:okC s)(h0:0<s.length)(k:Int)(hk:0≤k)(hk2:k<l.length):zg Tryz.prog 131 [zo l,vi k,.slc 2 (s.map Cmp.enc)] (vb (upN l s (s.length - 1) k.toNat)):=by
 have:=zDd l hd s hs (s.length - 1) k.toNat (by omega) (by omega)
 rw[show s.length - 1+1=s.length by omega,List.take_length,Int.toNat_of_nonneg hk]at this
 exact this
def zhM:Sum Tryz.prog:=⟨131,fun args=>args= [zo (zl (args.getD 0 .any)),vi ((args.getD 1 .any).int),.slc 2 ((Yo (args.getD 2 .any)).map Cmp.enc)]∧zaT (zl (args.getD 0 .any))∧okC (Yo (args.getD 2 .any))∧0<((Yo (args.getD 2 .any))).length∧0≤((args.getD 1 .any).int)∧((args.getD 1 .any).int)<((zl (args.getD 0 .any))).length,fun args=>vb (upN (zl (args.getD 0 .any)) (Yo (args.getD 2 .any)) (((Yo (args.getD 2 .any))).length - 1) (((args.getD 1 .any).int)).toNat),fun args h=>by
 have:=zCa (zl (args.getD 0 .any)) h.2.1 (Yo (args.getD 2 .any)) h.2.2.1 h.2.2.2.1 ((args.getD 1 .any).int) h.2.2.2.2.1 h.2.2.2.2.2;rwa [←h.1]at this,true⟩
theorem zyw:zhM.f=131:=rfl
theorem zyv(args:List V):zhM.D args=(args= [zo (zl (args.getD 0 .any)),vi ((args.getD 1 .any).int),.slc 2 ((Yo (args.getD 2 .any)).map Cmp.enc)]∧zaT (zl (args.getD 0 .any))∧okC (Yo (args.getD 2 .any))∧0<((Yo (args.getD 2 .any))).length∧0≤((args.getD 1 .any).int)∧((args.getD 1 .any).int)<((zl (args.getD 0 .any))).length):=rfl
theorem zkd:zhM.flat=true:=rfl
theorem zyx(args:List V):zhM.r args=vb (upN (zl (args.getD 0 .any)) (Yo (args.getD 2 .any)) (((Yo (args.getD 2 .any))).length - 1) (((args.getD 1 .any).int)).toNat):=rfl
attribute [go_sem] zyw zyv zkd zyx
def XQ:Sum Tryz.prog:=⟨130,fun args=>args= [k9 (ql (args.getD 0 .any))]∧okM (ql (args.getD 0 .any)),fun args=>vb (Ye (ql (args.getD 0 .any))),fun args h=>by
 have:=zm1 (ql (args.getD 0 .any)) h.2;rwa [←h.1]at this,true⟩
theorem zpb:XQ.f=130:=rfl
theorem zpa(args:List V):XQ.D args=(args= [k9 (ql (args.getD 0 .any))]∧okM (ql (args.getD 0 .any))):=rfl
theorem zeU:XQ.flat=true:=rfl
theorem zpc(args:List V):XQ.r args=vb (Ye (ql (args.getD 0 .any))):=rfl
attribute [go_sem] zpb zpa zeU zpc
def isM(l:List Node)(k:Int)(s:Sel):Bool:=Wc l&&decide (0≤k∧k<l.length)&&Ye [s]&&upN l s (s.length - 1) k.toNat
theorem zgB{s:Sel}(h:Ye [s]=true):0<s.length∧s.length≤64:=by
 unfold Ye at h
 rw[decide_eq_true_eq]at h
 have:=h.2 0 (by simp)
 unfold Qs at this
 rw[decide_eq_true_eq]at this
 obtain⟨h1,h2,_⟩:=this
 simp only[List.getD_cons_zero]at h1 h2
 omega
theorem zla{s:Sel}(hs:okC s):okM [s]:=⟨by simp,fun i hi=>by
 have:i=0:=by simp at hi;omega
 subst this;exact hs⟩
theorem zBv(l:List Node)(k:Int)(s:Sel)(hl:l.length≤1000)(hn:jS l)(hs:okC s):zg Tryz.prog 100 [zo l,vi k,.agg (zX s)] (vb (isM l k s)):=by
 refine zg.of (Orc.cons Kz (Orc.cons XQ (Orc.cons zhM (Orc.nil _)))) zvX (by simp[zit]) fun w0 own0=> ?_
 have ho:=zla hs
 unfold isM
 by_cases hD:Wc l=true
 ·have hI:=(zfM l).1 hD
  have hP:=zfN hl hn hI
  have c0:(if 0≤K7 l∨l.length=0 then(5:Int)else 0)=0:=by
   unfold Wc at hD;rw[decide_eq_true_eq]at hD;rw[if_neg];omega
  by_cases h1:0≤k
  ·by_cases h2:k<(l.length:Int)
   ·cases hr:Ye [s]with
    |true=>
     obtain⟨r1,_⟩:=zgB hr
     simp only[zit,zo,zX,k9,zr,Yr,Yp,qk,Z9,c0,hl,hD,hP,hs,h1,h2,ho,hr,r1,List.map_cons,List.map_nil,zd,zb,za,go_sem,seval,reduceIte,reduceCtorEq]
    |false=>
     simp only[zit,zo,zX,k9,zr,Yr,Yp,qk,Z9,c0,hl,hD,hP,hs,h1,h2,ho,hr,List.map_cons,List.map_nil,zd,zb,za,go_sem,seval,reduceIte,reduceCtorEq]
   ·simp only[zit,zo,zX,k9,zr,Yr,Yp,qk,Z9,c0,hl,hD,hP,hs,h1,h2,ho,List.map_cons,List.map_nil,zd,zb,za,go_sem,seval,reduceIte,reduceCtorEq]
  ·simp only[zit,zo,zX,k9,zr,Yr,Yp,qk,Z9,c0,hl,hD,hP,hs,h1,ho,List.map_cons,List.map_nil,zd,zb,za,go_sem,seval,reduceIte,reduceCtorEq]
 ·have c0:(if 0≤K7 l∨l.length=0 then(5:Int)else 0)=5:=by
   unfold Wc at hD;rw[decide_eq_true_eq]at hD;rw[if_pos];omega
  simp only[zit,zo,zX,k9,zr,Yr,Yp,qk,Z9,c0,hl,hD,hs,ho,List.map_cons,List.map_nil,zd,zb,za,go_sem,seval,reduceIte,reduceCtorEq]
def zb3:Sum Tryz.prog:=⟨100,fun args=>args= [zo (zl (args.getD 0 .any)),vi ((args.getD 1 .any).int),.agg (zX (ki (args.getD 2 .any)))]∧((zl (args.getD 0 .any))).length≤1000∧jS (zl (args.getD 0 .any))∧okC (ki (args.getD 2 .any)),fun args=>vb (isM (zl (args.getD 0 .any)) ((args.getD 1 .any).int) (ki (args.getD 2 .any))),fun args h=>by
 have:=zBv (zl (args.getD 0 .any)) ((args.getD 1 .any).int) (ki (args.getD 2 .any)) h.2.1 h.2.2.1 h.2.2.2;rwa [←h.1]at this,true⟩
theorem ztk:zb3.f=100:=rfl
theorem ztj(args:List V):zb3.D args=(args= [zo (zl (args.getD 0 .any)),vi ((args.getD 1 .any).int),.agg (zX (ki (args.getD 2 .any)))]∧((zl (args.getD 0 .any))).length≤1000∧jS (zl (args.getD 0 .any))∧okC (ki (args.getD 2 .any))):=rfl
theorem zhi:zb3.flat=true:=rfl
theorem ztl(args:List V):zb3.r args=vb (isM (zl (args.getD 0 .any)) ((args.getD 1 .any).int) (ki (args.getD 2 .any))):=rfl
attribute [go_sem] ztk ztj zhi ztl
theorem zBG(a:Int):zg Tryz.prog 113 [vi a] (vb false):=by
 refine zg.of (Orc.nil _) zwa (by simp[zzA]) fun w0 own0=> ?_
 simp only[zzA,go_sem,zc,seval,reduceIte,reduceCtorEq]
def zcb:Sum Tryz.prog:=⟨113,fun args=>args= [vi ((args.getD 0 .any).int)],fun args=>vb false,fun args h=>by
 have:=zBG ((args.getD 0 .any).int);rwa [←h]at this,true⟩
theorem ztX:zcb.f=113:=rfl
theorem ztW(args:List V):zcb.D args=(args= [vi ((args.getD 0 .any).int)]):=rfl
theorem zhv:zcb.flat=true:=rfl
theorem ztY(args:List V):zcb.r args=vb false:=rfl
attribute [go_sem] ztX ztW zhv ztY
def KR(a b:Int):Int:=if a<b then -1 else if b<a then 1 else 0
theorem zwW(a b:Int):zg Tryz.prog 89 [vi a,vi b] (vi (KR a b)):=by
 refine zg.of (Orc.cons zcb (Orc.nil _)) zAY (by simp[c89]) fun w0 own0=> ?_
 unfold KR
 by_cases h1:a<b
 ·simp only[c89,h1,go_sem,zc,seval,reduceIte,reduceCtorEq]
 ·by_cases h2:b<a
  ·simp only[c89,h1,h2,go_sem,zc,seval,reduceIte,reduceCtorEq]
  ·simp only[c89,h1,h2,go_sem,zc,seval,reduceIte,reduceCtorEq]
def Xz:Sum Tryz.prog:=⟨89,fun args=>args= [vi ((args.getD 0 .any).int),vi ((args.getD 1 .any).int)],fun args=>vi (KR ((args.getD 0 .any).int) ((args.getD 1 .any).int)),fun args h=>by
 have:=zwW ((args.getD 0 .any).int) ((args.getD 1 .any).int);rwa [←h]at this,true⟩
theorem zn1:Xz.f=89:=rfl
theorem zn0(args:List V):Xz.D args=(args= [vi ((args.getD 0 .any).int),vi ((args.getD 1 .any).int)]):=rfl
theorem zev:Xz.flat=true:=rfl
theorem zn2(args:List V):Xz.r args=vi (KR ((args.getD 0 .any).int) ((args.getD 1 .any).int)):=rfl
attribute [go_sem] zn1 zn0 zev zn2
def zaj:List Int→List Int→Int
 | [],[]=>0
 | [],_::_=> -1
 |_::_,[]=>1
 |x::a,y::b=>if KR x y=0 then zaj a b else KR x y
theorem Ke(x y:Int)(a b:List Int):zaj (x::a) (y::b)=if KR x y=0 then zaj a b else KR x y:=rfl
theorem QD(l:List Int)(n:Nat)(h:n<l.length):l.drop n=l.getD n 0::l.drop (n+1):=by
 rw[List.drop_eq_getElem_cons h,List.getD_eq_getElem?_getD,List.getElem?_eq_getElem h];rfl
theorem zwX(a b:List Int)(ha:a.length≤1000000)(hb:b.length≤1000000):zg Tryz.prog 55 [zE a,zE b] (vi (zaj a b)):=by
 refine zg.of (Orc.cons Xz (Orc.nil _)) zAv (by simp[c55]) fun w0 own0=> ?_
 simp only[c55,zE,go_sem,zc,seval,reduceIte,reduceCtorEq]
 refine zD.lp (α:=Nat) (fun k=>[(0,.slc 1 (a.map fun n=>[vi n])),(1,.slc 1 (b.map fun n=>[vi n])),(9,.slc 1 (a.map fun n=>[vi n])),(10,vi a.length),(11,vi k)]) (fun _=>⟨[],0⟩)
  (fun k=>k≤a.length∧k≤b.length∧zaj a b=zaj (a.drop k) (b.drop k)) (fun k=>a.length - k) 0 ⟨Nat.zero_le _,Nat.zero_le _,rfl⟩ (St.mk (by simp[zu,zk,zt])) fun k hk=> ?_
 obtain⟨h1,h2,h3⟩:=hk
 by_cases hkl:k=a.length
 ·subst hkl
  rw[List.drop_length]at h3
  by_cases hb2:a.length<b.length
  ·rw[QD b _ hb2]at h3
   have e1:(a.length:Int)<(b.length:Int):=by omega
   simp only[Int.lt_irrefl,e1,h3,zaj,go_sem,zc,seval,reduceIte,reduceCtorEq]
  ·have e0:a.length=b.length:=by omega
   rw[List.drop_eq_nil_of_le (by omega)]at h3
   have e1:¬(a.length:Int)<(b.length:Int):=by omega
   simp only[Int.lt_irrefl,e1,h3,zaj,go_sem,zc,seval,reduceIte,reduceCtorEq]
 ·have e1:(k:Int)<(a.length:Int):=by omega
  have e0:(0:Int)≤(k:Int):=by omega
  rw[QD a k (by omega)]at h3
  by_cases hb2:k<b.length
  ·rw[QD b k hb2]at h3
   have e2:¬(b.length:Int)≤(k:Int):=by omega
   have e3:(k:Int)<(b.length:Int):=by omega
   rw[Ke]at h3
   by_cases hc:KR (a.getD k 0) (b.getD k 0)=0
   ·rw[if_pos hc]at h3
    simp only[e0,e1,e2,e3,hc,qm,go_sem,zc,seval,reduceIte,reduceCtorEq]
    exact⟨by omega,k+1,⟨by omega,by omega,h3⟩,by omega,by omega⟩
   ·rw[if_neg hc]at h3
    simp only[e0,e1,e2,e3,hc,h3,qm,go_sem,zc,seval,reduceIte,reduceCtorEq]
  ·rw[List.drop_eq_nil_of_le (show b.length≤k by omega)]at h3
   have e2:(b.length:Int)≤(k:Int):=by omega
   simp only[e0,e1,e2,h3,zaj,qm,go_sem,zc,seval,reduceIte,reduceCtorEq]
def XA:Sum Tryz.prog:=⟨55,fun args=>args= [zE (zK (args.getD 0 .any)),zE (zK (args.getD 1 .any))]∧((zK (args.getD 0 .any))).length≤1000000∧((zK (args.getD 1 .any))).length≤1000000,fun args=>vi (zaj (zK (args.getD 0 .any)) (zK (args.getD 1 .any))),fun args h=>by
 have:=zwX (zK (args.getD 0 .any)) (zK (args.getD 1 .any)) h.2.1 h.2.2;rwa [←h.1]at this,true⟩
theorem zn4:XA.f=55:=rfl
theorem zn3(args:List V):XA.D args=(args= [zE (zK (args.getD 0 .any)),zE (zK (args.getD 1 .any))]∧((zK (args.getD 0 .any))).length≤1000000∧((zK (args.getD 1 .any))).length≤1000000):=rfl
theorem zew:XA.flat=true:=rfl
theorem zn5(args:List V):XA.r args=vi (zaj (zK (args.getD 0 .any)) (zK (args.getD 1 .any))):=rfl
attribute [go_sem] zn4 zn3 zew zn5
structure W3 where
 a:Int
 b:Int
 c:Int
def W3.enc(w:W3):List V:=[vi w.a,vi w.b,vi w.c]
def abv(x y:W3):Bool:=decide (0<zaj [x.a,x.b,x.c] [y.a,y.b,y.c])
theorem zA8(a b c:Int):zK (.slc 1 [[.c (.int .i64 a)],[.c (.int .i64 b)],[.c (.int .i64 c)]])= [a,b,c]:=zW 1 [a,b,c]
theorem zqf(x y:W3):zg Tryz.prog 28 [.agg x.enc,.agg y.enc] (vb (abv x y)):=by
 refine zg.of (Orc.cons XA (Orc.nil _)) zz9 (by simp[c28]) fun w0 own0=> ?_
 simp only[c28,W3.enc,abv,zE,zA8,go_sem,zc,seval,reduceIte,reduceCtorEq]
def dW3(v:V):W3:=⟨(v.cs.getD 0 .any).int,(v.cs.getD 1 .any).int,(v.cs.getD 2 .any).int⟩
theorem Ya(a b c:Int):dW3 (.agg [.c (.int .i64 a),.c (.int .i64 b),.c (.int .i64 c)])=⟨a,b,c⟩:=rfl
def Ww:Sum Tryz.prog:=⟨28,fun args=>args= [.agg (W3.enc (dW3 (args.getD 0 .any))),.agg (W3.enc (dW3 (args.getD 1 .any)))],fun args=>vb (abv (dW3 (args.getD 0 .any)) (dW3 (args.getD 1 .any))),fun args h=>by
 have:=zqf (dW3 (args.getD 0 .any)) (dW3 (args.getD 1 .any));rwa [←h]at this,true⟩
theorem zsK:Ww.f=28:=rfl
theorem zsJ(args:List V):Ww.D args=(args= [.agg (W3.enc (dW3 (args.getD 0 .any))),.agg (W3.enc (dW3 (args.getD 1 .any)))]):=rfl
theorem zgV:Ww.flat=true:=rfl
theorem zsL(args:List V):Ww.r args=vb (abv (dW3 (args.getD 0 .any)) (dW3 (args.getD 1 .any))):=rfl
attribute [go_sem] zsK zsJ zgV zsL
theorem Kd(x y:W3):abv x y=true↔(y.a<x.a∨(x.a=y.a∧(y.b<x.b∨(x.b=y.b∧y.c<x.c)))):=by
 unfold abv
 rw[decide_eq_true_eq,Ke,Ke,Ke]
 show 0<(if KR x.a y.a=0 then if KR x.b y.b=0 then if KR x.c y.c=0 then 0 else KR x.c y.c else KR x.b y.b else KR x.a y.a)↔_
 unfold KR
 split<;>split<;>(try split)<;>(try split)<;>(try split)<;>(try split)<;>(try split)<;>(try split)<;>(try split)<;>omega
theorem zly(x y:W3):zg Tryz.prog 29 [.agg x.enc,.agg y.enc] (vb (abv x y)):=by
 refine zg.of (Orc.nil _) zAa (by simp[c29]) fun w0 own0=> ?_
 simp only[c29,W3.enc,go_sem,zc,seval,reduceIte,reduceCtorEq]
 refine zD.lp (α:=Nat) (fun k=>[(2,.ptr 0 0 0 0),(3,.ptr 1 1 0 0),(5,vi k)]) (fun _=>⟨[⟨0,3,[x.enc],false,[]⟩,⟨1,3,[y.enc],false,[]⟩],2⟩)
  (fun k=>k≤3∧(0<k→x.a=y.a)∧(1<k→x.b=y.b)∧(2<k→x.c=y.c)) (fun k=>3 - k) 0 ⟨by omega,by omega,by omega,by omega⟩ (St.mk (by simp[zu,zk,zt])) fun k hk=> ?_
 obtain⟨h1,h2,h3,h4⟩:=hk
 have ha:=Kd x y
 rcases(show k=0∨k=1∨k=2∨k=3 by omega)with rfl|rfl|rfl|rfl
 ·by_cases h:x.a=y.a
  ·simp only[W3.enc,h,go_sem,zc,seval,reduceIte,reduceCtorEq]
   first|exact⟨1,⟨by omega,by omega,by omega⟩,by omega,by omega⟩|exact⟨by omega,1,⟨by omega,by omega,by omega⟩,by omega,by omega⟩
  ·have e:abv x y=decide (y.a<x.a):=by rw[Bool.eq_iff_iff,ha,decide_eq_true_eq];omega
   simp only[W3.enc,h,e,go_sem,zc,seval,reduceIte,reduceCtorEq]
 ·have g:=h2 (by omega)
  by_cases h:x.b=y.b
  ·simp only[W3.enc,g,h,go_sem,zc,seval,reduceIte,reduceCtorEq]
   exact⟨2,⟨by omega,by omega⟩,by omega,by omega⟩
  ·have e:abv x y=decide (y.b<x.b):=by rw[Bool.eq_iff_iff,ha,decide_eq_true_eq];omega
   simp only[W3.enc,h,e,go_sem,zc,seval,reduceIte,reduceCtorEq]
 ·have g:=h2 (by omega)
  have g2:=h3 (by omega)
  by_cases h:x.c=y.c
  ·simp only[W3.enc,g,g2,h,go_sem,zc,seval,reduceIte,reduceCtorEq]
   exact⟨3,by omega,by omega,by omega⟩
  ·have e:abv x y=decide (y.c<x.c):=by rw[Bool.eq_iff_iff,ha,decide_eq_true_eq];omega
   simp only[W3.enc,h,e,go_sem,zc,seval,reduceIte,reduceCtorEq]
 ·have e:abv x y=false:=by
   cases hb:abv x y with
   |false=>rfl
   |true=>rw[ha]at hb;omega
  simp only[W3.enc,e,go_sem,zc,seval,reduceIte,reduceCtorEq]
def Kw:Sum Tryz.prog:=⟨29,fun args=>args= [.agg (W3.enc (dW3 (args.getD 0 .any))),.agg (W3.enc (dW3 (args.getD 1 .any)))],fun args=>vb (abv (dW3 (args.getD 0 .any)) (dW3 (args.getD 1 .any))),fun args h=>by
 have:=zly (dW3 (args.getD 0 .any)) (dW3 (args.getD 1 .any));rwa [←h]at this,true⟩
theorem znn:Kw.f=29:=rfl
theorem znm(args:List V):Kw.D args=(args= [.agg (W3.enc (dW3 (args.getD 0 .any))),.agg (W3.enc (dW3 (args.getD 1 .any)))]):=rfl
theorem zej:Kw.flat=true:=rfl
theorem zno(args:List V):Kw.r args=vb (abv (dW3 (args.getD 0 .any)) (dW3 (args.getD 1 .any))):=rfl
attribute [go_sem] znn znm zej zno
def atr(s:Smp):List (ByteArray×ByteArray)→Bool
 | []=>false
 |p::r=>if p.1=s.text then decide (s.kind=5)||decide (p.2=s.val)else atr s r
def zlC(s:Smp):List (ByteArray×ByteArray)→Bool
 | []=>false
 |p::r=>decide (p.1=s.text)||zlC s r
theorem zqo(s:Smp):∀l,atr s l=(zlC s l&&(decide (s.kind=5)||decide (Qk s.text l=s.val)))
 | []=>rfl
 |p::r=>by
  unfold atr zlC Qk
  by_cases h:p.1=s.text
  ·rw[if_pos h,if_pos h,decide_eq_true h];rfl
  ·rw[if_neg h,if_neg h,decide_eq_false h,zqo s r];rfl
theorem zfs(s:Smp):∀l,zlC s l=true↔∃i,i<l.length∧(l.getD i (⟨#[]⟩,⟨#[]⟩)).1=s.text
 | []=>⟨fun h=>(by cases h),fun⟨i,h,_⟩=>absurd h (Nat.not_lt_zero _)⟩
 |p::r=>by
  unfold zlC
  rw[Bool.or_eq_true,decide_eq_true_eq,zfs s r]
  constructor
  ·rintro(h|⟨i,h1,h2⟩)
   ·exact⟨0,by simp,h⟩
   ·exact⟨i+1,by simp;omega,by simpa using h2⟩
  ·rintro⟨i,h1,h2⟩
   cases i with
   |zero=>exact .inl h2
   |succ i=>exact .inr ⟨i,by simp at h1;omega,by simpa using h2⟩
theorem zrr(s:Smp)(l:List (ByteArray×ByteArray)):zbc s l=zlC s l:=by
 rw[Bool.eq_iff_iff,zfs]
 unfold zbc ixA
 rw[decide_eq_true_eq]
 rcases kU (fun i=>decide ((l.getD i (⟨#[]⟩,⟨#[]⟩)).1=s.text)) (l.length - 0) 0 with⟨h1,h2⟩|⟨m,h1,h2,h3,h4,h5⟩
 ·rw[h1]
  refine⟨fun h=>by omega,fun⟨i,i1,i2⟩=> ?_⟩
  have:=h2 i (by omega) (by omega)
  rw[decide_eq_false_iff_not]at this
  exact absurd i2 this
 ·rw[h1]
  exact⟨fun _=>⟨m,by omega,by simpa using h4⟩,fun _=>by omega⟩
theorem zqn(s:Smp)(l:List (ByteArray×ByteArray))(k:Nat)(h:k<l.length):atr s (l.drop k)=if(l.getD k (⟨#[]⟩,⟨#[]⟩)).1=s.text then decide (s.kind=5)||decide ((l.getD k (⟨#[]⟩,⟨#[]⟩)).2=s.val)else atr s (l.drop (k+1)):=by
 rw[List.drop_eq_getElem_cons h,List.getD_eq_getElem?_getD,List.getElem?_eq_getElem h];rfl
def YG:Sum Tryz.prog:=⟨161,fun args=>args= [.agg (Node.enc (zF (args.getD 0 .any))),vs ((args.getD 1 .any).str)]∧((zF (args.getD 0 .any))).cls.length≤1000000,fun args=>vb (Zb ((zF (args.getD 0 .any))).cls ((args.getD 1 .any).str)),fun args h=>by
 have:=zwT (zF (args.getD 0 .any)) ((args.getD 1 .any).str) h.2;rwa [←h.1]at this,true⟩
theorem zg4:YG.f=161:=rfl
theorem zg3(args:List V):YG.D args=(args= [.agg (Node.enc (zF (args.getD 0 .any))),vs ((args.getD 1 .any).str)]∧((zF (args.getD 0 .any))).cls.length≤1000000):=rfl
theorem zb0:YG.flat=true:=rfl
theorem zg5(args:List V):YG.r args=vb (Zb ((zF (args.getD 0 .any))).cls ((args.getD 1 .any).str)):=rfl
attribute [go_sem] zg4 zg3 zb0 zg5
theorem zya(n:Node)(s:Smp)(h:okN n):zg Tryz.prog 138 [.agg n.enc,.agg s.enc] (vb (YD n s)):=by
 refine zg.of (Orc.cons YG (Orc.nil _)) zwt (by simp[ziu]) fun w0 own0=> ?_
 obtain⟨hc,ha⟩:=h
 unfold YD
 by_cases h1:s.kind=1
 ·simp only[ziu,Node.enc,Smp.enc,h1,go_sem,zc,seval,reduceIte,reduceCtorEq]
 by_cases h2:s.kind=2
 ·simp only[ziu,Node.enc,Smp.enc,h1,h2,go_sem,zc,seval,reduceIte,reduceCtorEq]
 by_cases h3:s.kind=3
 ·simp only[ziu,Node.enc,Smp.enc,h1,h2,h3,go_sem,zc,seval,reduceIte,reduceCtorEq]
 by_cases h4:s.kind=4
 ·simp only[ziu,Node.enc,Smp.enc,h1,h2,h3,h4,hc,yr,go_sem,zc,seval,reduceIte,reduceCtorEq]
 rw[if_neg h1,if_neg h2,if_neg h3,if_neg h4,zrr,←zqo]
 simp only[ziu,Node.enc,Smp.enc,h1,h2,h3,h4,go_sem,zc,seval,reduceIte,reduceCtorEq]
 refine zD.lp (α:=Nat) (fun k=>[(2,.ptr 0 0 0 0),(3,.ptr 1 1 0 0),(5,vi k)]) (fun _=>⟨[⟨0,6,[n.enc],false,[]⟩,⟨1,3,[s.enc],false,[]⟩],2⟩)
  (fun k=>k≤n.attrs.length∧atr s n.attrs=atr s (n.attrs.drop k)) (fun k=>n.attrs.length - k) 0 ⟨Nat.zero_le _,rfl⟩ (St.mk (by simp[zu,zk,zt])) fun k hk=> ?_
 obtain⟨k1,k2⟩:=hk
 by_cases he:k=n.attrs.length
 ·subst he
  rw[List.drop_length]at k2
  simp only[Node.enc,Smp.enc,Int.lt_irrefl,k2,atr,go_sem,zc,seval,reduceIte,reduceCtorEq]
 ·have e1:(k:Int)<(n.attrs.length:Int):=by omega
  have e0:(0:Int)≤(k:Int):=by omega
  rw[zqn s n.attrs k (by omega)]at k2
  by_cases h:(n.attrs.getD k (⟨#[]⟩,⟨#[]⟩)).1=s.text
  ·rw[if_pos h]at k2
   by_cases h5:s.kind=5
   ·simp only[Node.enc,Smp.enc,e0,e1,Zn,h,h5,k2,go_sem,zc,seval,reduceIte,reduceCtorEq]
   ·simp only[Node.enc,Smp.enc,e0,e1,Zn,h,h5,k2,go_sem,zc,seval,reduceIte,reduceCtorEq]
  ·rw[if_neg h]at k2
   simp only[Node.enc,Smp.enc,e0,e1,Zn,h,go_sem,zc,seval,reduceIte,reduceCtorEq]
   exact⟨by omega,k+1,⟨by omega,k2⟩,by omega,by omega⟩
def XS:Sum Tryz.prog:=⟨138,fun args=>args= [.agg (Node.enc (zF (args.getD 0 .any))),.agg (Smp.enc (yL (args.getD 1 .any)))]∧okN (zF (args.getD 0 .any)),fun args=>vb (YD (zF (args.getD 0 .any)) (yL (args.getD 1 .any))),fun args h=>by
 have:=zya (zF (args.getD 0 .any)) (yL (args.getD 1 .any)) h.2;rwa [←h.1]at this,true⟩
theorem zpk:XS.f=138:=rfl
theorem zpj(args:List V):XS.D args=(args= [.agg (Node.enc (zF (args.getD 0 .any))),.agg (Smp.enc (yL (args.getD 1 .any)))]∧okN (zF (args.getD 0 .any))):=rfl
theorem zeX:XS.flat=true:=rfl
theorem zpl(args:List V):XS.r args=vb (YD (zF (args.getD 0 .any)) (yL (args.getD 1 .any))):=rfl
attribute [go_sem] zpk zpj zeX zpl
def JD(w:W3)(k:Int):W3:=if k=3 then⟨w.a+1,w.b,w.c⟩else if k=4∨k=5∨k=6 then⟨w.a,w.b+1,w.c⟩else if k=2 then⟨w.a,w.b,w.c+1⟩else w
def wtC(w:W3)(l:List Smp):W3:=l.foldl (fun w x=>JD w x.kind) w
def wtF(w:W3)(s:Sel):W3:=s.foldl (fun w c=>wtC w c.l) w
def wtS(s:Sel):W3:=wtF ⟨0,0,0⟩ s
def W3.le(w:W3)(n:Int):Prop:=0≤w.a∧w.a≤n∧0≤w.b∧w.b≤n∧0≤w.c∧w.c≤n
theorem zkG{w:W3}{n:Int}(k:Int)(h:w.le n):(JD w k).le (n+1):=by
 obtain⟨h1,h2,h3,h4,h5,h6⟩:=h
 unfold JD
 split
 ·refine⟨?_,?_,?_,?_,?_,?_⟩<;>dsimp only<;>omega
 split
 ·refine⟨?_,?_,?_,?_,?_,?_⟩<;>dsimp only<;>omega
 split
 ·refine⟨?_,?_,?_,?_,?_,?_⟩<;>dsimp only<;>omega
 ·refine⟨?_,?_,?_,?_,?_,?_⟩<;>omega
theorem W3.le_mono{w:W3}{n m:Int}(h:w.le n)(hm:n≤m):w.le m:=by
 obtain⟨h1,h2,h3,h4,h5,h6⟩:=h
 exact⟨h1,by omega,h3,by omega,h5,by omega⟩
theorem zig(w:W3)(l:List Smp)(k:Nat)(h:k<l.length):wtC w (l.drop k)=wtC (JD w (l.getD k default).kind) (l.drop (k+1)):=by
 rw[List.drop_eq_getElem_cons h,List.getD_eq_getElem?_getD,List.getElem?_eq_getElem h];rfl
theorem zih(w:W3)(s:Sel)(k:Nat)(h:k<s.length):wtF w (s.drop k)=wtF (wtC w (s.getD k default).l) (s.drop (k+1)):=by
 rw[List.drop_eq_getElem_cons h,List.getD_eq_getElem?_getD,List.getElem?_eq_getElem h];rfl
structure WtS where
 n:Nat
 w:W3
 clk:Nat
theorem W3.eta(w:W3):(⟨w.a,w.b,w.c⟩:W3)=w:=rfl
theorem zkr(s:Sel)(hs:okC s):zg Tryz.prog 101 [.agg (zX s)] (.agg (wtS s).enc):=by
 refine zg.of (Orc.nil _) zvY (by simp[zzr]) fun w0 own0=> ?_
 obtain⟨hs1,hs2⟩:=hs
 simp only[zzr,zX,go_sem,zc,seval,reduceIte,reduceCtorEq]
 refine zD.lp (α:=WtS) (fun a=>[(2,.ptr 1 1 0 0),(3,.ptr 2 2 0 0),(9,.slc 2 (s.map Cmp.enc)),(10,vi s.length),(11,vi a.n)])
  (fun a=>⟨[⟨0,1,[[.slc 2 (s.map Cmp.enc)]],false,[]⟩,⟨1,3,[[vi 0,vi 0,vi 0]],false,[]⟩,⟨2,3,[a.w.enc],false,[]⟩],a.clk⟩)
  (fun a=>a.n≤s.length∧a.w.le (a.n*1000000)∧wtS s=wtF a.w (s.drop a.n)) (fun a=>s.length - a.n) ⟨0,⟨0,0,0⟩,3⟩ ⟨Nat.zero_le _,⟨by simp,by simp,by simp,by simp,by simp,by simp⟩,rfl⟩ (St.cut (by simp[zu,zk,zt]) rfl rfl) fun a ha=> ?_
 obtain⟨k,w,clk⟩:=a
 simp only at ha
 obtain⟨k1,k2,k3⟩:=ha
 by_cases he:k=s.length
 ·subst he
  rw[List.drop_length]at k3
  have e:wtS s=w:=k3
  simp only[W3.enc,Int.lt_irrefl,e,go_sem,zc,seval,reduceIte,reduceCtorEq]
 ·have e1:(k:Int)<(s.length:Int):=by omega
  have e0:(0:Int)≤(k:Int):=by omega
  have hlt:k<s.length:=by omega
  have hg:=kJ s k [.c (.int .i64 0),.c (.slice none 0 0)] hlt
  have hcl:=hs2 k hlt
  rw[zih w s k hlt]at k3
  generalize hx:s.getD k default=c at*
  simp only[W3.enc,e0,e1,hg,Cmp.enc,go_sem,zc,seval,reduceIte,reduceCtorEq]
  refine zD.lp (α:=WtS) (fun a=>[(2,.ptr 1 1 0 0),(3,.ptr 2 2 0 0),(9,.slc 2 (s.map Cmp.enc)),(10,vi s.length),(11,vi k),(16,.slc 3 (c.l.map Smp.enc)),(17,vi c.l.length),(18,vi a.n)])
   (fun a=>⟨[⟨0,1,[[.slc 2 (s.map Cmp.enc)]],false,[]⟩,⟨1,3,[[vi 0,vi 0,vi 0]],false,[]⟩,⟨2,3,[a.w.enc],false,[]⟩],a.clk⟩)
   (fun a=>a.n≤c.l.length∧a.w.le (k*1000000+a.n)∧wtC w c.l=wtC a.w (c.l.drop a.n)) (fun a=>c.l.length - a.n) ⟨0,w,clk+1⟩ ⟨Nat.zero_le _,by simpa using k2,rfl⟩ (St.cut (by simp[zu,zk,ev,W3.enc]) rfl rfl) fun a ha=> ?_
  obtain⟨j,u,clk2⟩:=a
  simp only at ha
  obtain⟨j1,j2,j3⟩:=ha
  by_cases hj:j=c.l.length
  ·subst hj
   rw[List.drop_length]at j3
   have j3:wtC w c.l=u:=j3
   rw[j3]at k3
   simp only[W3.enc,Int.lt_irrefl,go_sem,zc,seval,reduceIte,reduceCtorEq]
   exact⟨by omega,⟨k+1,u,clk2⟩,⟨by dsimp only;omega,W3.le_mono j2 (by dsimp only;omega),k3⟩,by dsimp only;omega,by dsimp only;omega,⟨rfl,rfl,rfl⟩,rfl⟩
  ·have f1:(j:Int)<(c.l.length:Int):=by omega
   have f0:(0:Int)≤(j:Int):=by omega
   have hjl:j<c.l.length:=by omega
   have hgj:=jj c.l j
   rw[zig u c.l j hjl]at j3
   generalize hy:c.l.getD j default=y at*
   obtain⟨b1,b2,b3,b4,b5,b6⟩:=id j2
   have le:=zkG y.kind j2
   have fin:(-9223372036854775808≤(j:Int)+1∧(j:Int)+1≤9223372036854775807)∧
    ∃b:WtS,(b.n≤c.l.length∧b.w.le (k*1000000+b.n)∧wtC w c.l=wtC b.w (c.l.drop b.n))∧c.l.length - b.n<c.l.length - j∧(j:Int)+1=(b.n:Int)∧((JD u y.kind).a=b.w.a∧(JD u y.kind).b=b.w.b∧(JD u y.kind).c=b.w.c)∧clk2+1=b.clk:=
    ⟨by omega,⟨j+1,JD u y.kind,clk2+1⟩,⟨by dsimp only;omega,W3.le_mono le (by dsimp only;omega),j3⟩,by dsimp only;omega,by dsimp only;omega,⟨rfl,rfl,rfl⟩,rfl⟩
   unfold JD at fin
   by_cases x3:y.kind=3
   ·rw[if_pos x3]at fin
    simp only[W3.enc,f0,f1,hgj,Smp.enc,x3,go_sem,zc,seval,reduceIte,reduceCtorEq]
    exact⟨by omega,fin⟩
   rw[if_neg x3]at fin
   by_cases x4:y.kind=4
   ·rw[if_pos (.inl x4)]at fin
    simp only[W3.enc,f0,f1,hgj,Smp.enc,x4,go_sem,zc,seval,reduceIte,reduceCtorEq]
    exact⟨by omega,fin⟩
   by_cases x5:y.kind=5
   ·rw[if_pos (.inr (.inl x5))]at fin
    simp only[W3.enc,f0,f1,hgj,Smp.enc,x5,go_sem,zc,seval,reduceIte,reduceCtorEq]
    exact⟨by omega,fin⟩
   by_cases x6:y.kind=6
   ·rw[if_pos (.inr (.inr x6))]at fin
    simp only[W3.enc,f0,f1,hgj,Smp.enc,x6,go_sem,zc,seval,reduceIte,reduceCtorEq]
    exact⟨by omega,fin⟩
   rw[if_neg (by omega)]at fin
   by_cases x2:y.kind=2
   ·rw[if_pos x2]at fin
    simp only[W3.enc,f0,f1,hgj,Smp.enc,x2,go_sem,zc,seval,reduceIte,reduceCtorEq]
    exact⟨by omega,fin⟩
   ·rw[if_neg x2]at fin
    simp only[W3.enc,f0,f1,hgj,Smp.enc,x2,x3,x4,x5,x6,go_sem,zc,seval,reduceIte,reduceCtorEq]
    exact fin
def XW:Sum Tryz.prog:=⟨101,fun args=>args= [.agg (zX (ki (args.getD 0 .any)))]∧okC (ki (args.getD 0 .any)),fun args=>.agg (wtS (ki (args.getD 0 .any))).enc,fun args h=>by
 have:=zkr (ki (args.getD 0 .any)) h.2;rwa [←h.1]at this,false⟩
theorem zpO:XW.f=101:=rfl
theorem zpN(args:List V):XW.D args=(args= [.agg (zX (ki (args.getD 0 .any)))]∧okC (ki (args.getD 0 .any))):=rfl
theorem ze7:XW.flat=false:=rfl
theorem zpP(args:List V):XW.r args= .agg (wtS (ki (args.getD 0 .any))).enc:=rfl
attribute [go_sem] zpO zpN ze7 zpP
theorem zkq(s:Sel)(hs:okC s):zg Tryz.prog 88 [.agg (zX s)] (.agg (wtS s).enc):=by
 refine zg.of (Orc.nil _) zAX (by simp[c88]) fun w0 own0=> ?_
 obtain⟨hs1,hs2⟩:=hs
 simp only[c88,zX,go_sem,zc,seval,reduceIte,reduceCtorEq]
 refine zD.lp (α:=WtS) (fun a=>[(1,.ptr 0 0 0 0),(2,.ptr 1 1 0 0),(3,vi a.w.a),(4,vi a.w.b),(5,vi a.w.c),(6,vi a.n)])
  (fun _=>⟨[⟨0,1,[[.slc 2 (s.map Cmp.enc)]],false,[]⟩,⟨1,3,[[vi 0,vi 0,vi 0]],false,[]⟩],2⟩)
  (fun a=>a.n≤s.length∧a.w.le (a.n*1000000)∧wtS s=wtF a.w (s.drop a.n)) (fun a=>s.length - a.n) ⟨0,⟨0,0,0⟩,3⟩ ⟨Nat.zero_le _,⟨by simp,by simp,by simp,by simp,by simp,by simp⟩,rfl⟩ (St.cut (by simp[zu,zk,zt]) rfl rfl) fun a ha=> ?_
 obtain⟨k,w,clk⟩:=a
 simp only at ha
 obtain⟨k1,k2,k3⟩:=ha
 by_cases he:k=s.length
 ·subst he
  rw[List.drop_length]at k3
  have e:wtS s=w:=k3
  simp only[W3.enc,Int.lt_irrefl,e,go_sem,zc,seval,reduceIte,reduceCtorEq]
 ·have e1:(k:Int)<(s.length:Int):=by omega
  have e0:(0:Int)≤(k:Int):=by omega
  have hlt:k<s.length:=by omega
  have hg:=kJ s k [.c (.int .i64 0),.c (.slice none 0 0)] hlt
  have hcl:=hs2 k hlt
  rw[zih w s k hlt]at k3
  generalize hx:s.getD k default=c at*
  simp only[W3.enc,e0,e1,hg,Cmp.enc,go_sem,zc,seval,reduceIte,reduceCtorEq]
  refine zD.lp (α:=WtS) (fun a=>[(1,.ptr 0 0 0 0),(2,.ptr 1 1 0 0),(3,vi a.w.a),(4,vi a.w.b),(5,vi a.w.c),(6,vi k),(7,vi a.n)])
   (fun _=>⟨[⟨0,1,[[.slc 2 (s.map Cmp.enc)]],false,[]⟩,⟨1,3,[[vi 0,vi 0,vi 0]],false,[]⟩],2⟩)
   (fun a=>a.n≤c.l.length∧a.w.le (k*1000000+a.n)∧wtC w c.l=wtC a.w (c.l.drop a.n)) (fun a=>c.l.length - a.n) ⟨0,w,clk+1⟩ ⟨Nat.zero_le _,by simpa using k2,rfl⟩ (St.cut (by simp[zu,zk,ev,W3.enc]) rfl rfl) fun a ha=> ?_
  obtain⟨j,u,clk2⟩:=a
  simp only at ha
  obtain⟨j1,j2,j3⟩:=ha
  by_cases hj:j=c.l.length
  ·subst hj
   rw[List.drop_length]at j3
   have j3:wtC w c.l=u:=j3
   rw[j3]at k3
   simp only[W3.enc,e0,e1,hg,Cmp.enc,Int.lt_irrefl,go_sem,zc,seval,reduceIte,reduceCtorEq]
   exact⟨by omega,⟨k+1,u,clk2⟩,⟨by dsimp only;omega,W3.le_mono j2 (by dsimp only;omega),k3⟩,by dsimp only;omega,rfl,rfl,rfl,by dsimp only;omega⟩
  ·have f1:(j:Int)<(c.l.length:Int):=by omega
   have f0:(0:Int)≤(j:Int):=by omega
   have hjl:j<c.l.length:=by omega
   have hgj:=jj c.l j
   rw[zig u c.l j hjl]at j3
   generalize hy:c.l.getD j default=y at*
   obtain⟨b1,b2,b3,b4,b5,b6⟩:=id j2
   have le:=zkG y.kind j2
   have fin:(-9223372036854775808≤(j:Int)+1∧(j:Int)+1≤9223372036854775807)∧
    ∃b:WtS,(b.n≤c.l.length∧b.w.le (k*1000000+b.n)∧wtC w c.l=wtC b.w (c.l.drop b.n))∧c.l.length - b.n<c.l.length - j∧(JD u y.kind).a=b.w.a∧(JD u y.kind).b=b.w.b∧(JD u y.kind).c=b.w.c∧(j:Int)+1=(b.n:Int):=
    ⟨by omega,⟨j+1,JD u y.kind,clk2+1⟩,⟨by dsimp only;omega,W3.le_mono le (by dsimp only;omega),j3⟩,by dsimp only;omega,rfl,rfl,rfl,by dsimp only;omega⟩
   unfold JD at fin
   by_cases x3:y.kind=3
   ·rw[if_pos x3]at fin
    simp only[W3.enc,e0,e1,hg,Cmp.enc,f0,f1,hgj,Smp.enc,x3,go_sem,zc,seval,reduceIte,reduceCtorEq]
    exact⟨by omega,fin⟩
   rw[if_neg x3]at fin
   by_cases x4:4≤y.kind∧y.kind≤6
   ·have x4':=x4.1
    have x5':=x4.2
    rw[if_pos (by omega)]at fin
    simp only[W3.enc,e0,e1,hg,Cmp.enc,f0,f1,hgj,Smp.enc,x3,x4',x5',go_sem,zc,seval,reduceIte,reduceCtorEq]
    exact⟨by omega,fin⟩
   rw[if_neg (by omega)]at fin
   have hx4:∀p:Prop,(4≤y.kind→y.kind≤6→p):=fun p a b=>absurd ⟨a,b⟩ x4
   by_cases x2:y.kind=2
   ·rw[if_pos x2]at fin
    simp only[W3.enc,e0,e1,hg,Cmp.enc,f0,f1,hgj,Smp.enc,x2,go_sem,zc,seval,reduceIte,reduceCtorEq]
    exact⟨by omega,fin⟩
   ·rw[if_neg x2]at fin
    by_cases x7:4≤y.kind
    ·have x8:¬y.kind≤6:=fun h=>x4 ⟨x7,h⟩
     simp only[W3.enc,e0,e1,hg,Cmp.enc,f0,f1,hgj,Smp.enc,x2,x3,x7,x8,go_sem,zc,seval,reduceIte,reduceCtorEq]
     exact fin
    ·simp only[W3.enc,e0,e1,hg,Cmp.enc,f0,f1,hgj,Smp.enc,x2,x3,x7,go_sem,zc,seval,reduceIte,reduceCtorEq]
     exact fin
def XV:Sum Tryz.prog:=⟨88,fun args=>args= [.agg (zX (ki (args.getD 0 .any)))]∧okC (ki (args.getD 0 .any)),fun args=>.agg (wtS (ki (args.getD 0 .any))).enc,fun args h=>by
 have:=zkq (ki (args.getD 0 .any)) h.2;rwa [←h.1]at this,false⟩
theorem zpL:XV.f=88:=rfl
theorem zpK(args:List V):XV.D args=(args= [.agg (zX (ki (args.getD 0 .any)))]∧okC (ki (args.getD 0 .any))):=rfl
theorem ze6:XV.flat=false:=rfl
theorem zpM(args:List V):XV.r args= .agg (wtS (ki (args.getD 0 .any))).enc:=rfl
attribute [go_sem] zpL zpK ze6 zpM
theorem zsn(c:Cmp)(j:Nat):jU c (decide ((j:Int)=0))=true↔((c.l.length:Int)≠0∧¬((j:Int)=0∧¬c.link=0)∧¬((0:Int)<j∧¬c.link=1∧¬c.link=2))∧∀i,i<c.l.length→¬Ym i (c.l.getD i default):=by
 unfold jU
 rw[decide_eq_true_eq,decide_eq_true_eq]
 constructor
 ·rintro⟨h1,h2,h3,h4,h5⟩
  exact⟨by omega,h5⟩
 ·rintro⟨h1,h5⟩
  refine⟨⟨fun h=> ?_,fun h=> ?_⟩,?_,?_,?_,h5⟩<;>omega
theorem zqt(i:Nat)(x:Smp):Ym i x↔(x.kind<1∨6<x.kind∨((0:Int)<i∧x.kind<3)∨(x.kind=1∧¬x.text=⟨#[]⟩)∨(1<x.kind∧x.text=⟨#[]⟩)∨(x.kind<6∧¬x.val=⟨#[]⟩)):=by
 unfold Ym
 by_cases h1:x.text=⟨#[]⟩<;>by_cases h2:x.val=⟨#[]⟩<;>simp only[h1,h2,true_iff,false_iff,Classical.not_not,not_true_eq_false,not_false_eq_true,and_true,and_false,true_and,false_and,or_false,false_or]<;>omega
def c8o:C:=c86.body.tl.hd.tl.inn.inn
def c8m:C:=(c8o).tl.hd.inn.tl.tl.inn.inn
def c8n:C:=(c8m).tl.hd.inn.tl.tl.tl.inn.inn
theorem zm2(l:List Sel)(k j:Nat)(c:Cmp)(clk:Nat)(ho:c.l.length≤1000000)(w0:World)(own0:Sx.Own)(Q:yy)(e:Nat→V)
  (t0:e 0= .slc 1 (l.map zX)) (t3:e 3=vi k) (t4:e 4=vi j) (t5:e 5= .ptr 0 clk 0 0) (t6:e 6=vi (0:Nat)) (h:Heap) (hb:h.bs= [⟨clk,2,[c.enc],false,[]⟩]) (ck:Nat) (hck:h.clk=ck)
  (hfound:∀m:Nat,m<c.l.length→Ym m (c.l.getD m default)→∀(e':Nat→V)(h':Heap),e' 2=vb false→Q .ret e' h')
  (hnone:(∀i,i<c.l.length→¬Ym i (c.l.getD i default))→∀(e':Nat→V)(h':Heap)(clk':Nat),e' 0= .slc 1 (l.map zX)→e' 3=vi k→e' 4=vi j→h'.bs= [⟨clk,2,[c.enc],false,[]⟩]→h'.clk=clk'→Q (.exit 4) e' h'):
  zD ⟨Tryz.prog,Orc.nil _,137,w0,own0⟩ (.loop c8n) Q e h:=by
 obtain⟨hbs,hcl⟩:=h
 simp only at hb hck
 subst hb hck
 refine zD.lp (α:=LpS) (fun a=>[(0,.slc 1 (l.map zX)),(3,vi k),(4,vi j),(5,.ptr 0 clk 0 0),(6,vi a.n)]) (fun a=>⟨[⟨clk,2,[c.enc],false,[]⟩],a.clk⟩)
  (fun a=>a.n≤c.l.length∧∀i,i<a.n→¬Ym i (c.l.getD i default)) (fun a=>c.l.length - a.n) ⟨0,hcl⟩ ⟨Nat.zero_le _,fun i hi=>absurd hi (Nat.not_lt_zero _)⟩ (St.mk ⟨t0,t3,t4,t5,t6,trivial⟩) fun a ha=> ?_
 obtain⟨m,clk3⟩:=a
 simp only at ha
 obtain⟨m1,m2⟩:=ha
 by_cases hm:m=c.l.length
 ·subst hm
  simp only[c8n,c8m,c8o,c86,C.tl,C.hd,C.inn,Int.lt_irrefl,Cmp.enc,go_sem,zc,seval,reduceIte,reduceCtorEq]
  exact hnone m2 _ _ _ (by simp[zk,zp]) (by simp[zk,zp]) (by simp[zk,zp]) (by simp[Cmp.enc]) rfl
 ·have g1:(m:Int)<(c.l.length:Int):=by omega
  have g0:(0:Int)≤(m:Int):=by omega
  have hml:m<c.l.length:=by omega
  have hgm:=jj c.l m
  have hb:=zqt m (c.l.getD m default)
  have hno3:Ym m (c.l.getD m default)→∀(e':Nat→V)(h':Heap),e' 2=vb false→Q .ret e' h':=hfound m hml
  have hgo3:¬Ym m (c.l.getD m default)→∀i,i<m+1→¬Ym i (c.l.getD i default):=fun h i hi=>by
   by_cases h2:i=m
   ·subst h2;exact h
   ·exact m2 i (by omega)
  generalize hy:c.l.getD m default=x at*
  simp only[c8n,c8m,c8o,c86,C.tl,C.hd,C.inn,Cmp.enc,g0,g1,hgm,Smp.enc,go_sem,zc,seval,reduceIte,reduceCtorEq]
  refine⟨?_,?_,?_,?_,?_,?_,?_,?_,?_,fun h=>hno3 (hb.2 ?_) _ _ (by simp[zk]),fun h=> ?_⟩
  iterate 9 (generalize(m:Int)=M;by_cases p1:x.kind<1<;>by_cases p2:6<x.kind<;>first|(simp[p1,p2];done)|(by_cases p3:(0:Int)<M<;>by_cases p4:x.kind<3<;>first|(simp[p1,p2,p3,p4];done)|(by_cases p5:x.kind=1<;>by_cases p6:x.text=⟨#[]⟩<;>first|(simp[p1,p2,p3,p4,p5,p6];done)|(by_cases p7:1<x.kind<;>by_cases p8:x.kind<6<;>by_cases p9:x.val=⟨#[]⟩<;>(simp[p1,p2,p3,p4,p5,p6,p7,p8,p9];done)))))
  ·clear hb hno3 hgo3 hgm
   by_cases p6:x.text=⟨#[]⟩<;>by_cases p9:x.val=⟨#[]⟩<;>simp only[p6,p9,true_iff,false_iff,Classical.not_not,not_true_eq_false,not_false_eq_true,and_true,and_false,true_and,false_and,or_false,false_or,or_true,true_or]at h⊢ <;>omega
  ·have hnb:¬Ym m x:=fun hh=>by
    have hh:=hb.1 hh
    clear hb hno3 hgo3 hgm
    by_cases p6:x.text=⟨#[]⟩<;>by_cases p9:x.val=⟨#[]⟩<;>simp only[p6,p9,true_iff,false_iff,Classical.not_not,not_true_eq_false,not_false_eq_true,and_true,and_false,true_and,false_and,or_false,false_or,or_true,true_or]at h hh<;>omega
   exact⟨by omega,⟨m+1,clk3+1⟩,⟨by dsimp only;omega,hgo3 hnb⟩,by dsimp only;omega,by dsimp only;omega,rfl⟩
theorem zm3(l:List Sel)(hl:okM l):zg Tryz.prog 86 [k9 l] (vb (Ye l)):=by
 refine zg.of (Orc.nil _) zAV (by simp[c86]) fun w0 own0=> ?_
 obtain⟨hl1,hl2⟩:=hl
 simp only[c86,k9,go_sem,zc,seval,reduceIte,reduceCtorEq]
 refine zD.lp (α:=LpS) (fun a=>[(0,.slc 1 (l.map zX)),(3,vi a.n)]) (fun a=>⟨[],a.clk⟩)
  (fun a=>a.n≤l.length∧∀i,i<a.n→Qs (l.getD i [])=true) (fun a=>l.length - a.n) ⟨0,0⟩ ⟨Nat.zero_le _,fun i hi=>absurd hi (Nat.not_lt_zero _)⟩ (St.mk (by simp[zu,zk,zt])) fun a ha=> ?_
 obtain⟨k,clk⟩:=a
 simp only at ha
 obtain⟨k1,k2⟩:=ha
 by_cases he:k=l.length
 ·subst he
  have e:Ye l=decide ((0:Int)<(l.length:Int)):=by
   unfold Ye;rw[decide_eq_decide];exact⟨fun h=>by omega,fun h=>⟨by omega,k2⟩⟩
  simp only[Int.lt_irrefl,e,go_sem,zc,seval,reduceIte,reduceCtorEq]
 ·have e1:(k:Int)<(l.length:Int):=by omega
  have e0:(0:Int)≤(k:Int):=by omega
  have hlt:k<l.length:=by omega
  have hg:=Kl l k [.c (.slice none 0 0)] hlt
  obtain⟨o1,o2⟩:=hl2 k hlt
  have hno:Qs (l.getD k [])=false→Ye l=false:=fun h=>by
   unfold Ye;rw[decide_eq_false_iff_not];exact fun hh=>by rw[hh.2 k hlt]at h;cases h
  generalize hx:l.getD k []=s at*
  by_cases h1:(s.length:Int)=0
  ·have e:=hno (by unfold Qs;rw[decide_eq_false_iff_not];omega)
   simp only[e0,e1,hg,zX,h1,e,go_sem,zc,seval,reduceIte,reduceCtorEq]
  by_cases h2:(64:Int)<(s.length:Int)
  ·have e:=hno (by unfold Qs;rw[decide_eq_false_iff_not];omega)
   simp only[e0,e1,hg,zX,h1,h2,e,go_sem,zc,seval,reduceIte,reduceCtorEq]
  simp only[e0,e1,hg,zX,h1,h2,go_sem,zc,seval,reduceIte,reduceCtorEq]
  refine zD.lp (α:=LpS) (fun a=>[(0,.slc 1 (l.map zX)),(3,vi k),(4,vi a.n)]) (fun a=>⟨[],a.clk⟩)
   (fun a=>a.n≤s.length∧∀i,i<a.n→jU (s.getD i default) (decide ((i:Int)=0))=true) (fun a=>s.length - a.n) ⟨0,clk⟩ ⟨Nat.zero_le _,fun i hi=>absurd hi (Nat.not_lt_zero _)⟩ (St.cut (by simp[zu,zk,ev,zX]) rfl rfl) fun a ha=> ?_
  obtain⟨j,clk2⟩:=a
  simp only at ha
  obtain⟨j1,j2⟩:=ha
  by_cases hj:j=s.length
  ·subst hj
   have e:Qs s=true:=by unfold Qs;rw[decide_eq_true_eq];exact⟨by omega,by omega,j2⟩
   simp only[Int.lt_irrefl,e0,e1,hg,zX,go_sem,zc,seval,reduceIte,reduceCtorEq]
   have hn:∀i,i<k+1→Qs (l.getD i [])=true:=fun i hi=>by
    by_cases h:i=k
    ·subst h;rw[hx];exact e
    ·exact k2 i (by omega)
   exact⟨by omega,⟨k+1,clk2⟩,⟨by dsimp only;omega,hn⟩,by dsimp only;omega,by dsimp only;omega,rfl⟩
  ·have f1:(j:Int)<(s.length:Int):=by omega
   have f0:(0:Int)≤(j:Int):=by omega
   have hjl:j<s.length:=by omega
   have hgj:=kJ s j [.c (.int .i64 0),.c (.slice none 0 0)] hjl
   have ho:=o2 j hjl
   have hiff:=zsn (s.getD j default) j
   have hno2:¬jU (s.getD j default) (decide ((j:Int)=0))=true→Ye l=false:=fun hh=>hno (by unfold Qs;rw[decide_eq_false_iff_not];exact fun h=>hh (h.2.2 j hjl))
   generalize hc:s.getD j default=c at*
   by_cases g:(c.l.length:Int)≠0∧¬((j:Int)=0∧¬c.link=0)∧¬((0:Int)<j∧¬c.link=1∧¬c.link=2)
   ·have hgo:∀i,jU c (decide ((j:Int)=0))=true→i<j+1→jU (s.getD i default) (decide ((i:Int)=0))=true:=fun i ht hi=>by
     by_cases h:i=j
     ·subst h;rw[hc];exact ht
     ·exact j2 i (by omega)
    simp only[e0,e1,hg,zX,f0,f1,hgj,Cmp.enc,go_sem,zc,seval,reduceIte,reduceCtorEq]
    refine⟨?_,?_,?_,?_,?_,?_,fun _=> ?_⟩
    iterate 5 (generalize(c.l.length:Int)=L;generalize(j:Int)=J at f0 ⊢;by_cases a1:L=0<;>by_cases a2:J=0<;>by_cases a3:(0:Int)<J<;>by_cases a4:c.link=0<;>by_cases a5:c.link=1<;>by_cases a6:c.link=2<;>first|(exfalso;omega)|(simp[a1,a2,a3,a4,a5,a6];done))
    ·exact fun h=>absurd g (by omega)
    refine zm2 l k j c clk2 ho w0 own0 _ _ (by simp[zk,ev]) (by simp[zk,ev]) (by simp[zk,ev]) (by simp[zk,ev]) (by simp[zk,ev]) _ (by simp[Cmp.enc]) (clk2+1) rfl (fun m hm hb e' h' t2=> ?_) (fun hb e' h' clk3 t0 t3 t4 hbs hck=> ?_)
    ·have e:=hno2 (fun h2=>(hiff.1 h2).2 m hm hb)
     simp only[t2,e,go_sem,zc,seval,reduceIte,reduceCtorEq]
    ·obtain⟨bs',ck'⟩:=h'
     simp only at hbs hck
     subst hbs hck
     simp only[t0,t3,t4,go_sem,zc,seval,reduceIte,reduceCtorEq]
     exact⟨by omega,⟨j+1,ck'⟩,⟨by dsimp only;omega,fun i hi=>hgo i (hiff.2 ⟨g,hb⟩) hi⟩,by dsimp only;omega,by dsimp only;omega,rfl⟩
   ·have e:=hno2 (fun h=>g (hiff.1 h).1)
    simp only[e0,e1,hg,zX,f0,f1,hgj,Cmp.enc,e,go_sem,zc,seval,reduceIte,reduceCtorEq]
    refine⟨?_,?_,?_,?_,?_,fun h=>absurd ?_ g⟩
    iterate 5 (generalize(c.l.length:Int)=L;generalize(j:Int)=J at f0 ⊢;by_cases a1:L=0<;>by_cases a2:J=0<;>by_cases a3:(0:Int)<J<;>by_cases a4:c.link=0<;>by_cases a5:c.link=1<;>by_cases a6:c.link=2<;>first|(exfalso;omega)|(simp[a1,a2,a3,a4,a5,a6];done))
    ·omega
def XR:Sum Tryz.prog:=⟨86,fun args=>args= [k9 (ql (args.getD 0 .any))]∧okM (ql (args.getD 0 .any)),fun args=>vb (Ye (ql (args.getD 0 .any))),fun args h=>by
 have:=zm3 (ql (args.getD 0 .any)) h.2;rwa [←h.1]at this,true⟩
theorem zpe:XR.f=86:=rfl
theorem zpd(args:List V):XR.D args=(args= [k9 (ql (args.getD 0 .any))]∧okM (ql (args.getD 0 .any))):=rfl
theorem zeV:XR.flat=true:=rfl
theorem zpf(args:List V):XR.r args=vb (Ye (ql (args.getD 0 .any))):=rfl
attribute [go_sem] zpe zpd zeV zpf
theorem zf2{α:Type}(l:List α)(x d:α):(l++ [x]).getD l.length d=x:=by simp[List.getD_eq_getElem?_getD]
theorem zlm{α:Type}(l:List α)(x y:α):(l++ [x]).set l.length y=l++ [y]:=by
 rw[List.set_append_right _ _ (Nat.le_refl _)];simp
theorem zsA(l:List Smp)(n:Nat)(h:n<l.length):l.take (n+1)=l.take n++ [l.getD n default]:=by
 rw[List.take_add_one,List.getD_eq_getElem?_getD,List.getElem?_eq_getElem h];rfl
theorem Jr(S:Nat→Bool)(h:Heap):∀l:List Smp,zB (zB (res S h 10)) (l.map Smp.enc)=some (l.map Smp.enc)
 | []=>rfl
 |s::l=>by simp only[List.map_cons,zB,Jr S h l,Smp.enc];rfl
structure GvS where
 n:Nat
 ver:Nat
 clk:Nat
end Go.Proofs.YtjcmoedalneldaaGreat
