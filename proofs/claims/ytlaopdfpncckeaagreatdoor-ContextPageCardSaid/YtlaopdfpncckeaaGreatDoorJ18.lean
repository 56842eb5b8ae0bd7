/- Part of the proof of ContextPage. No condition. -/
import Derived.Test.YtlaopdfpncckeaaGreatDoorJ16
import Derived.Test.YtlaopdfpncckeaaGreatDoorGc
import Derived.Test.YtlaopdfpncckeaaGreatDoorCe
namespace Go.Proofs.YtlaopdfpncckeaaGreatDoor
open Go.Sx
set_option linter.unusedSimpArgs false
set_option linter.unusedVariables false
set_option maxHeartbeats 8000000
set_option maxRecDepth 100000
def kM:Sum Tryz.prog:=⟨167,fun args=>args= [vi (args.getD 0 .any).int,vi (args.getD 1 .any).int,vi (args.getD 2 .any).int],fun args=>vb (decide (0≤(args.getD 1 .any).int∧(args.getD 1 .any).int≤(args.getD 2 .any).int∧(args.getD 2 .any).int≤(args.getD 0 .any).int)),fun args h=>by
 have:=zl0 (args.getD 0 .any).int (args.getD 1 .any).int (args.getD 2 .any).int;rwa [←h]at this,true⟩
theorem z8:kM.f=167:=rfl
theorem z7(args:List V):kM.D args=(args= [vi (args.getD 0 .any).int,vi (args.getD 1 .any).int,vi (args.getD 2 .any).int]):=rfl
theorem zM:kM.flat=true:=rfl
theorem z9(args:List V):kM.r args=vb (decide (0≤(args.getD 1 .any).int∧(args.getD 1 .any).int≤(args.getD 2 .any).int∧(args.getD 2 .any).int≤(args.getD 0 .any).int)):=rfl
def ZG:Sum Tryz.prog:=⟨168,fun args=>args= [.agg (qj (args.getD 0 .any)).enc,.pp [vi ((args.getD 1 .any).cs.getD 0 .any).int]],fun args=>vb (decide ((qj (args.getD 0 .any)).kind=((args.getD 1 .any).cs.getD 0 .any).int)),fun args h=>by
 have:=zjB (qj (args.getD 0 .any)) ((args.getD 1 .any).cs.getD 0 .any).int;rwa [←h]at this,true⟩
theorem zeP:ZG.f=168:=rfl
theorem zeO(args:List V):ZG.D args=(args= [.agg (qj (args.getD 0 .any)).enc,.pp [vi ((args.getD 1 .any).cs.getD 0 .any).int]]):=rfl
theorem WA:ZG.flat=true:=rfl
theorem zeQ(args:List V):ZG.r args=vb (decide ((qj (args.getD 0 .any)).kind=((args.getD 1 .any).cs.getD 0 .any).int)):=rfl
def yC(l:List Tok)(ends:List Int)(to kind:Int):Nat→Int→Int
 |0,_=> -1
 |f+1,k=>if k<to then(if(l.getD k.toNat .zero).kind=kind then k else yC l ends to kind f (skip ends k))else -1
def bad(l:List Tok)(ends:List Int)(a b:Int):Prop:=¬ends.length=l.length∨¬(0≤a∧a≤b∧b≤l.length)
instance (l:List Tok) (ends:List Int) (a b:Int):Decidable (bad l ends a b):=by unfold bad;infer_instance
def jo(l:List Tok)(ends:List Int)(a b kind:Int):Int:=if bad l ends a b then -1 else yC l ends b kind (b - a).toNat a
structure FiS where
 k:Int
 f:Nat
theorem ztq(l:List Tok)(ends:List Int)(a b kind:Int)(hl:l.length≤1000000)(hE:∀i,ends.getD i 0≤1000000):ze Tryz.prog 169 [zj l,zH ends,vi a,vi b,.fn 168 [.pp [vi kind]]] (vi (jo l ends a b kind)):=by
 refine ze.of (Orc.cons Ye (Orc.cons kM (Orc.cons ZG (Orc.nil _)))) zs2 (by simp[zv5]) fun w0 own0=> ?_
 simp only[zv5,zH,zj,Tok.enc,y7,y6,yp,y8,z8,z7,zM,z9,go_sem,zd,seval,reduceIte,reduceCtorEq]
 refine⟨by omega,by omega,fun h=> ?_,fun h=> ?_⟩
 ·have:bad l ends a b:=by unfold bad;omega
  simp only[jo,if_pos this]
 ·have hb:¬bad l ends a b:=by unfold bad;omega
  simp only[jo,if_neg hb]
  generalize hR:yC l ends b kind (b - a).toNat a=R
  refine zG.lp (α:=FiS) (fun x=>[(0,.slc 3 (l.map Tok.enc)),(1,.slc 1 (ends.map fun n=>[vi n])),(3,vi b),(4,.fn 168 [.pp [vi kind]]),(11,vi x.k)]) (fun _=>⟨[],0⟩)
   (fun x=>0≤x.k∧x.k≤1000001∧(b - x.k).toNat≤x.f∧yC l ends b kind x.f x.k=R) (fun x=>(b - x.k).toNat) ⟨a,(b - a).toNat⟩ ⟨by dsimp only;omega,by dsimp only;omega,Nat.le_refl _,hR⟩ (St.mk ?_) fun x hx=> ?_
  ·simp only[go_sem,zd,seval,reduceIte,reduceCtorEq]
  ·obtain⟨k,f⟩:=x
   simp only at hx
   obtain⟨h1,h2,h3,h4⟩:=hx
   simp only[Tok.enc,zj,zH,y7,y6,yp,y8,z8,z7,zM,z9,zeP,zeO,WA,zeQ,go_sem,zd,seval,reduceIte,reduceCtorEq]
   refine⟨fun hk=> ?_,fun hk=> ?_⟩
   ·obtain⟨f',rfl⟩:∃f',f=f'+1:=⟨f - 1,by omega⟩
    simp only[yC,if_pos hk]at h4
    have hg:=zca ends k (by omega)
    have hle:=ziJ ends k (by omega)
    have:=hE k.toNat
    refine⟨by omega,fun hq=> ?_,fun hq=>⟨⟨by omega,by omega,by omega⟩,⟨skip ends k,f'⟩,⟨by dsimp only;omega,by dsimp only;omega,by dsimp only;omega,?_⟩,by dsimp only;omega,rfl⟩⟩
    ·rw[if_pos hq]at h4;exact h4
    ·rw[if_neg hq]at h4;exact h4
   ·cases f with
    |zero=>simpa[yC]using h4
    |succ f=>simpa only[yC,if_neg hk]using h4
def zaV(l:List Tok)(ends:List Int):Prop:=l.length≤1000000∧∀i,ends.getD i 0≤1000000
def KF:Sum Tryz.prog:=⟨169,fun args=>args= [zj (zi (args.getD 0 .any)),zH (zP (args.getD 1 .any)),vi (args.getD 2 .any).int,vi (args.getD 3 .any).int,.fn 168 [.pp [vi ((((args.getD 4 .any).caps).getD 0 .any).cs.getD 0 .any).int]]]∧zaV (zi (args.getD 0 .any)) (zP (args.getD 1 .any)),
 fun args=>vi (jo (zi (args.getD 0 .any)) (zP (args.getD 1 .any)) (args.getD 2 .any).int (args.getD 3 .any).int ((((args.getD 4 .any).caps).getD 0 .any).cs.getD 0 .any).int),fun args h=>by
 have:=ztq (zi (args.getD 0 .any)) (zP (args.getD 1 .any)) (args.getD 2 .any).int (args.getD 3 .any).int ((((args.getD 4 .any).caps).getD 0 .any).cs.getD 0 .any).int h.2.1 h.2.2;rwa [←h.1]at this,true⟩
theorem zk0:KF.f=169:=rfl
theorem zkZ(args:List V):KF.D args=(args= [zj (zi (args.getD 0 .any)),zH (zP (args.getD 1 .any)),vi (args.getD 2 .any).int,vi (args.getD 3 .any).int,.fn 168 [.pp [vi ((((args.getD 4 .any).caps).getD 0 .any).cs.getD 0 .any).int]]]∧zaV (zi (args.getD 0 .any)) (zP (args.getD 1 .any))):=rfl
theorem zcn:KF.flat=true:=rfl
theorem zk1(args:List V):KF.r args=vi (jo (zi (args.getD 0 .any)) (zP (args.getD 1 .any)) (args.getD 2 .any).int (args.getD 3 .any).int ((((args.getD 4 .any).caps).getD 0 .any).cs.getD 0 .any).int):=rfl
def prs(l:List (Int×Int)):V:=.slc 2 (l.map fun p=>[vi p.1,vi p.2])
theorem Z0(S:Nat→Bool)(h:Heap)(l:List (Int×Int)):zL (zL (res S h 11)) (l.map fun p=>[vi p.1,vi p.2])=some (l.map fun p=>[vi p.1,vi p.2]):=qt S h 10 _ (fun _=>rfl) l
theorem zjY(l:List Tok)(ends:List Int)(a b kind:Int):jo l ends a b kind= -1∨(a≤jo l ends a b kind∧jo l ends a b kind<b∧b≤l.length):=by
 unfold jo
 split
 ·exact .inl rfl
 ·rename_i hb
  have hb':ends.length=l.length∧0≤a∧a≤b∧b≤l.length:=by unfold bad at hb;omega
  have key:∀(f:Nat)(k:Int),a≤k→yC l ends b kind f k= -1∨(a≤yC l ends b kind f k∧yC l ends b kind f k<b):=by
   intro f
   induction f with
   |zero=>intro k _;exact .inl rfl
   |succ f ih=>
    intro k hk
    simp only[yC]
    split
    ·rename_i hkb
     split
     ·exact .inr ⟨hk,hkb⟩
     ·exact ih _ (by have:=zca ends k (by omega);omega)
    ·exact .inl rfl
  rcases key (b - a).toNat a (Int.le_refl _)with h|h
  ·exact .inl h
  ·exact .inr ⟨h.1,h.2,hb'.2.2.2⟩
def Zh(l:List Tok)(ends:List Int)(b kind:Int):Nat→Int→List (Int×Int)
 |0,a=>[(a,b)]
 |f+1,a=>if 0≤jo l ends a b kind then(a,jo l ends a b kind)::Zh l ends b kind f (jo l ends a b kind+1)else[(a,b)]
def Z1(l:List Tok)(ends:List Int)(a b kind:Int):V:=bif decide (bad l ends a b)then zI else prs (Zh l ends b kind ((b - a).toNat+1) a)
structure SlS where
 a:Int
 f:Nat
 out:List (Int×Int)
 ver:Nat
 clk:Nat
theorem zoT(l:List Tok)(ends:List Int)(a b kind:Int)(hl:l.length≤1000000)(hE:∀i,ends.getD i 0≤1000000):ze Tryz.prog 149 [zj l,zH ends,vi a,vi b,vi kind] (Z1 l ends a b kind):=by
 refine ze.of (Orc.cons kM (Orc.cons KF (Orc.nil _))) zsU (by simp[zv0]) fun w0 own0=> ?_
 simp only[zv0,zH,zj,Tok.enc,go_sem,zd,seval,reduceIte,reduceCtorEq]
 by_cases hb:bad l ends a b
 ·have hR:Z1 l ends a b kind=zI:=by simp only[Z1,hb,decide_true,cond_true]
  rw[hR]
  refine zG.lab (α:=Unit) 0 (fun _=>[]) (fun _=>⟨[],0⟩) (fun _=>False) (fun _=>0) rfl ?_ fun x hx=>hx.elim
  simp only[z8,z7,zM,z9,go_sem,zd,seval,reduceIte,reduceCtorEq]
  unfold bad at hb
  refine⟨by omega,fun h=> ?_⟩
  exfalso;omega
 have hb':ends.length=l.length∧0≤a∧a≤b∧b≤l.length:=by unfold bad at hb;omega
 have hR:Z1 l ends a b kind=prs (Zh l ends b kind ((b - a).toNat+1) a):=by simp only[Z1,hb,decide_false,cond_false]
 rw[hR]
 generalize hR:Zh l ends b kind ((b - a).toNat+1) a=R
 refine zG.lab (α:=SlS) 0 (fun x=>[(0,.slc 3 (l.map Tok.enc)),(1,.slc 1 (ends.map fun n=>[vi n])),(2,vi x.a),(3,vi b),(11,.ref 1 x.ver 0 x.out.length),(12,.fn 168 [.ptr 0 0 0 0])])
  (fun x=>⟨[⟨0,1,[[vi kind]],false,[]⟩,⟨x.ver,2,x.out.map fun p=>[vi p.1,vi p.2],false,[vi 0,vi 0]⟩],x.clk⟩)
  (fun x=>0≤x.a∧x.a≤b∧(b - x.a).toNat+1≤x.f∧x.out++Zh l ends b kind x.f x.a=R∧(x.out.length:Int)≤x.a) (fun x=>(b - x.a).toNat) rfl ?_ fun x hx=> ?_
 ·simp only[z8,z7,zM,z9,go_sem,zd,seval,reduceIte,reduceCtorEq]
  refine⟨by omega,fun h=> ?_,fun h=>⟨⟨a,(b - a).toNat+1,[],1,2⟩,⟨hb'.2.1,hb'.2.2.1,Nat.le_refl _,hR,hb'.2.1⟩,St.nil 11 2 [vi 0,vi 0] (by simp[zo]) (St.cut ?_ ?_ ?_)⟩⟩
  ·exfalso;omega
  ·simp[zq,zo,zt]
  ·simp[Heap.alloc]
  ·rfl
 ·obtain⟨a',f,out,ver,clk⟩:=x
  simp only at hx
  obtain⟨h1,h2,h3,h4,h5⟩:=hx
  simp only[Tok.enc,zj,zH,prs,Z0,zk0,zkZ,zcn,zk1,z8,z7,zM,z9,go_sem,zd,seval,reduceIte,reduceCtorEq]
  have hf:=zjY l ends a' b kind
  obtain⟨f',rfl⟩:∃f',f=f'+1:=⟨f - 1,by omega⟩
  simp only[Zh]at h4
  refine⟨⟨hl,hE⟩,fun hn=> ?_,fun hn=> ?_⟩
  ·rw[if_pos hn]at h4
   refine⟨by omega,by omega,⟨jo l ends a' b kind+1,f',out++ [(a',jo l ends a' b kind)],clk+1,clk+1+1⟩,⟨by dsimp only;omega,by dsimp only;omega,by dsimp only;omega,?_,by simp;omega⟩,by dsimp only;omega,⟨rfl,rfl,by simp⟩,⟨rfl,?_⟩,rfl⟩
   ·simpa using h4
   ·simp
  ·rw[if_neg hn]at h4
   refine⟨by omega,?_⟩
   have e:List.map (fun p:Int×Int=>[vi p.1,vi p.2]) (List.take out.length out)++ [[V.c (Value.int IntKind.i64 a'),V.c (Value.int IntKind.i64 b)]]=R.map fun p=>[vi p.1,vi p.2]:=by
    rw[←h4];simp
   have e2:R.length=out.length+1:=by rw[←h4];simp
   rw[e,if_pos (by simp[e2]),List.take_of_length_le (by simp[e2]),Z0]
   rfl
def jL:Sum Tryz.prog:=⟨149,fun args=>args= [zj (zi (args.getD 0 .any)),zH (zP (args.getD 1 .any)),vi (args.getD 2 .any).int,vi (args.getD 3 .any).int,vi (args.getD 4 .any).int]∧zaV (zi (args.getD 0 .any)) (zP (args.getD 1 .any)),
 fun args=>Z1 (zi (args.getD 0 .any)) (zP (args.getD 1 .any)) (args.getD 2 .any).int (args.getD 3 .any).int (args.getD 4 .any).int,fun args h=>by
 have:=zoT (zi (args.getD 0 .any)) (zP (args.getD 1 .any)) (args.getD 2 .any).int (args.getD 3 .any).int (args.getD 4 .any).int h.2.1 h.2.2;rwa [←h.1]at this,false⟩
theorem kK:jL.f=149:=rfl
theorem kJ(args:List V):jL.D args=(args= [zj (zi (args.getD 0 .any)),zH (zP (args.getD 1 .any)),vi (args.getD 2 .any).int,vi (args.getD 3 .any).int,vi (args.getD 4 .any).int]∧zaV (zi (args.getD 0 .any)) (zP (args.getD 1 .any))):=rfl
theorem y9:jL.flat=false:=rfl
theorem kL(args:List V):jL.r args=Z1 (zi (args.getD 0 .any)) (zP (args.getD 1 .any)) (args.getD 2 .any).int (args.getD 3 .any).int (args.getD 4 .any).int:=rfl
def rsK(l:List Tok)(kind to:Int):Int→List Int→List (Int×Int)
 |b,[]=>[(b,to)]
 |b,p::ps=>if(l.getD p.toNat .zero).kind=kind then(b,p)::rsK l kind to (p+1) ps else rsK l kind to b ps
def JZ(l:List Tok):List (Int×Int):=Zh l (zv l) l.length 16 (l.length+1) 0
def gS(l:List Tok)(f sf:Nat)(b:Int)(k:Nat):List (Int×Int):=if 0≤yC l (zv l) l.length 16 f k then(b,yC l (zv l) l.length 16 f k)::Zh l (zv l) l.length 16 sf (yC l (zv l) l.length 16 f k+1)else[(b,(l.length:Int))]
theorem zfZ{t:Tok}(h:t.kind=16):zC t=⟨#[]⟩:=by unfold zC;simp[h]
theorem zgP{l:List Tok}(hd:z3 l=false){k:Nat}(hk:k<l.length)(h:(l.getD k .zero).kind=16):skip (zv l) k=((k+1:Nat):Int):=by
 have hc:zC (l.getD k .zero)=⟨#[]⟩:=zfZ h
 unfold skip
 rw[Int.toNat_natCast,Zp l hd k hk]
 unfold qa
 rw[if_pos hc,if_pos (by omega)];omega
theorem zdj{l:List Tok}(hd:z3 l=false):(zv l).length=l.length:=by unfold zv;rw[hd];simp[yi]
theorem zet{l:List Tok}(hd:z3 l=false)(sf a:Nat)(ha:a≤l.length):Zh l (zv l) l.length 16 (sf+1) a=gS l (l.length - a) sf a a:=by
 have e:jo l (zv l) a l.length 16=yC l (zv l) l.length 16 (l.length - a) a:=by
  unfold jo
  rw[if_neg (by have:=zdj hd;unfold bad;omega),show((l.length:Int) - a).toNat=l.length - a by omega]
 simp only[Zh,gS,e]
theorem znK{l:List Tok}(hd:z3 l=false):∀(f' f sf:Nat)(b:Int)(k:Nat),l.length+1≤k+f'→l.length≤k+f→l.length≤sf+k→k≤l.length→gS l f sf b k=rsK l 16 l.length b (plR (zv l) l.length f' k)
 |0,f,sf,b,k,h1,_,_,h4=>by omega
 |f'+1,f,sf,b,k,h1,h2,h3,h4=>by
  by_cases hk:k<l.length
  ·obtain⟨f,rfl⟩:∃g,f=g+1:=⟨f - 1,by omega⟩
   simp only[plR]
   rw[if_pos (by omega)]
   simp only[rsK,Int.toNat_natCast]
   by_cases hc:(l.getD k .zero).kind=16
   ·rw[if_pos hc,zgP hd hk hc]
    have hf:yC l (zv l) l.length 16 (f+1) k=k:=by simp only[yC,Int.toNat_natCast];rw[if_pos (by omega),if_pos hc]
    unfold gS
    rw[hf,if_pos (by omega)]
    obtain⟨s,rfl⟩:∃s,sf=s+1:=⟨sf - 1,by omega⟩
    have e1:((k:Int)+1)=((k+1:Nat):Int):=by omega
    rw[e1,zet hd s (k+1) (by omega),znK hd f' (l.length - (k+1)) s ((k+1:Nat):Int) (k+1) (by omega) (by omega) (by omega) (by omega)]
   ·rw[if_neg hc]
    obtain⟨n,hn1,hn2,hn3⟩:=kZ hd k hk
    have hf:yC l (zv l) l.length 16 (f+1) k=yC l (zv l) l.length 16 f n:=by
     simp only[yC,Int.toNat_natCast];rw[if_pos (by omega),if_neg hc,hn1]
    have hg:gS l (f+1) sf b k=gS l f sf b n:=by unfold gS;rw[hf]
    rw[hg,hn1]
    exact znK hd f' f sf b n (by omega) (by omega) (by omega) hn3
  ·have hf:yC l (zv l) l.length 16 f k= -1:=by
    cases f with
    |zero=>rfl
    |succ f=>simp only[yC];rw[if_neg (by omega)]
   unfold gS
   rw[hf,if_neg (by omega)]
   simp only[plR]
   rw[if_neg (by omega)];rfl
theorem ziL{l:List Tok}(hd:z3 l=false):JZ l=rsK l 16 l.length 0 (plR (zv l) l.length (l.length+1) 0):=by
 have h:=zet hd l.length 0 (Nat.zero_le _)
 have h2:=znK hd (l.length+1) (l.length - 0) l.length 0 0 (by omega) (by omega) (by omega) (Nat.zero_le _)
 exact h.trans h2
theorem za9{l:List Tok}(hd:z3 l=false):Z1 l (zv l) 0 l.length 16=prs (JZ l):=by
 have:=zdj hd
 unfold Z1
 rw[decide_eq_false (by unfold bad;omega),cond_false]
 unfold JZ
 rw[show(((l.length:Int) - 0).toNat+1)=l.length+1 by omega]
def upA(l:List Tok)(b:Nat):Nat→Nat→Nat
 |0,k=>k
 |f+1,k=>if k<b∧(l.getD k .zero).kind=1 then upA l b f (k+1)else k
def dnB(l:List Tok)(a:Nat):Nat→Nat
 |0=>0
 |k+1=>if a<k+1∧(l.getD k .zero).kind=1 then dnB l a k else k+1
theorem ziP(l:List Tok)(b:Nat):∀(f k:Nat),k≤b→k≤upA l b f k∧upA l b f k≤b
 |0,k,h=>by simp only[upA];omega
 |f+1,k,h=>by
  simp only[upA]
  split
  ·have:=ziP l b f (k+1) (by omega);omega
  ·omega
theorem zh8(l:List Tok)(a:Nat):∀(k:Nat),a≤k→a≤dnB l a k∧dnB l a k≤k
 |0,h=>by simp only[dnB];omega
 |k+1,h=>by
  simp only[dnB]
  split
  ·have:=zh8 l a k (by omega);omega
  ·omega
def trA(l:List Tok):Nat:=upA l l.length l.length 0
def trB(l:List Tok):Nat:=dnB l (trA l) l.length
def zcH(l:List Tok):List Tok:=(l.take (trB l)).drop (trA l)
theorem zcG(l:List Tok):trA l≤trB l∧trB l≤l.length:=by
 have h1:=ziP l l.length l.length 0 (Nat.zero_le _)
 exact zh8 l (trA l) l.length h1.2
structure TmS where
 k:Nat
 f:Nat
def trV(l:List Tok):V:=.tup [vi (trA l),vi (trB l)]
theorem zuA(l:List Tok)(hl:l.length≤1000000):ze Tryz.prog 148 [zj l,vi 0,vi l.length] (trV l):=by
 refine ze.of (Orc.cons kM (Orc.nil _)) zsT (by simp[zvZ]) fun w0 own0=> ?_
 have hl0:(0:Int)≤(l.length:Int):=by omega
 simp only[zvZ,zj,hl0,Int.le_refl,z8,z7,zM,z9,go_sem,zd,seval,reduceIte,reduceCtorEq]
 refine zG.lp (α:=TmS) (fun a=>[(0,.slc 3 (l.map Tok.enc)),(1,vi a.k),(2,vi l.length)]) (fun _=>⟨[],0⟩)
  (fun a=>a.k≤l.length∧l.length≤a.k+a.f∧upA l l.length a.f a.k=trA l) (fun a=>l.length - a.k) ⟨0,l.length⟩ ⟨Nat.zero_le _,by dsimp only;omega,rfl⟩ (St.cut ?_ ?_ ?_) fun a ha=> ?_
 ·simp[zq,zo,zt]
 ·simp
 ·rfl
 obtain⟨k,f⟩:=a
 obtain⟨h1,h2,h3⟩:=ha
 simp only at h1 h2 h3
 have e0:(0:Int)≤(k:Int):=by omega
 by_cases hc:k<l.length∧(l.getD k .zero).kind=1
 ·obtain⟨f,rfl⟩:∃g,f=g+1:=⟨f - 1,by omega⟩
  have e1:(k:Int)<(l.length:Int):=by omega
  have hk:=eq_true hc.2
  simp only[upA]at h3
  rw[if_pos hc]at h3
  simp only[e0,e1,hk,Tok.enc,z8,z7,zM,z9,go_sem,zd,seval,reduceIte,reduceCtorEq]
  exact⟨by omega,⟨k+1,f⟩,⟨by dsimp only;omega,by dsimp only;omega,h3⟩,by dsimp only;omega,by dsimp only;omega⟩
 ·have h4:k=trA l:=by
   rw[←h3]
   cases f with
   |zero=>rfl
   |succ f=>simp only[upA];rw[if_neg hc]
  have hbr:=zcG l
  subst h4
  by_cases e1:((trA l:Nat):Int)<(l.length:Int)
  ·have hk:((l.getD (trA l) .zero).kind=1)=False:=eq_false (fun hh=>hc ⟨by omega,hh⟩)
   simp only[e0,e1,hk,Tok.enc,z8,z7,zM,z9,go_sem,zd,seval,reduceIte,reduceCtorEq]
   refine zG.lp (α:=Nat) (fun k=>[(0,.slc 3 (l.map Tok.enc)),(1,vi (trA l)),(2,vi k)]) (fun _=>⟨[],0⟩)
    (fun k=>trA l≤k∧k≤l.length∧dnB l (trA l) k=trB l) (fun k=>k) l.length ⟨by omega,Nat.le_refl _,rfl⟩ (St.cut ?_ ?_ ?_) fun k hk2=> ?_
   ·simp[zq,zo,yb]
   ·simp
   ·rfl
   obtain⟨g1,g2,g3⟩:=hk2
   by_cases hgt:trA l<k
   ·obtain⟨j,rfl⟩:∃j,k=j+1:=⟨k - 1,by omega⟩
    have d1:((trA l:Nat):Int)<((j+1:Nat):Int):=by omega
    have d2:(((j+1:Nat):Int) - 1).toNat=j:=by omega
    have d3:(0:Int)≤((j+1:Nat):Int) - 1:=by omega
    have d4:((j+1:Nat):Int) - 1<(l.length:Int):=by omega
    simp only[dnB]at g3
    by_cases hs:(l.getD j .zero).kind=1
    ·have hst:=eq_true hs
     rw[if_pos ⟨hgt,hs⟩]at g3
     simp only[d1,d2,d3,d4,hst,Tok.enc,z8,z7,zM,z9,go_sem,zd,seval,reduceIte,reduceCtorEq]
     exact⟨by omega,by omega,j,⟨by omega,by omega,g3⟩,by omega,by omega⟩
    ·have hst:=eq_false hs
     rw[if_neg (fun hh=>hs hh.2)]at g3
     simp only[d1,d2,d3,d4,hst,trV,←g3,Tok.enc,z8,z7,zM,z9,go_sem,zd,seval,reduceIte,reduceCtorEq]
     omega
   ·have d1:¬((trA l:Nat):Int)<(k:Int):=by omega
    have g4:k=trB l:=by
     rw[←g3]
     cases k with
     |zero=>rfl
     |succ j=>simp only[dnB];rw[if_neg (fun hh=>hgt hh.1)]
    simp only[d1,trV,←g4,Tok.enc,z8,z7,zM,z9,go_sem,zd,seval,reduceIte,reduceCtorEq]
  ·simp only[e0,e1,Tok.enc,z8,z7,zM,z9,go_sem,zd,seval,reduceIte,reduceCtorEq]
   refine zG.lp (α:=Nat) (fun k=>[(0,.slc 3 (l.map Tok.enc)),(1,vi (trA l)),(2,vi k)]) (fun _=>⟨[],0⟩)
    (fun k=>trA l≤k∧k≤l.length∧dnB l (trA l) k=trB l) (fun k=>k) l.length ⟨by omega,Nat.le_refl _,rfl⟩ (St.cut ?_ ?_ ?_) fun k hk2=> ?_
   ·simp[zq,zo,yb]
   ·simp
   ·rfl
   obtain⟨g1,g2,g3⟩:=hk2
   by_cases hgt:trA l<k
   ·obtain⟨j,rfl⟩:∃j,k=j+1:=⟨k - 1,by omega⟩
    have d1:((trA l:Nat):Int)<((j+1:Nat):Int):=by omega
    have d2:(((j+1:Nat):Int) - 1).toNat=j:=by omega
    have d3:(0:Int)≤((j+1:Nat):Int) - 1:=by omega
    have d4:((j+1:Nat):Int) - 1<(l.length:Int):=by omega
    simp only[dnB]at g3
    by_cases hs:(l.getD j .zero).kind=1
    ·have hst:=eq_true hs
     rw[if_pos ⟨hgt,hs⟩]at g3
     simp only[d1,d2,d3,d4,hst,Tok.enc,z8,z7,zM,z9,go_sem,zd,seval,reduceIte,reduceCtorEq]
     exact⟨by omega,by omega,j,⟨by omega,by omega,g3⟩,by omega,by omega⟩
    ·have hst:=eq_false hs
     rw[if_neg (fun hh=>hs hh.2)]at g3
     simp only[d1,d2,d3,d4,hst,trV,←g3,Tok.enc,z8,z7,zM,z9,go_sem,zd,seval,reduceIte,reduceCtorEq]
     omega
   ·have d1:¬((trA l:Nat):Int)<(k:Int):=by omega
    have g4:k=trB l:=by
     rw[←g3]
     cases k with
     |zero=>rfl
     |succ j=>simp only[dnB];rw[if_neg (fun hh=>hgt hh.1)]
    simp only[d1,trV,←g4,Tok.enc,z8,z7,zM,z9,go_sem,zd,seval,reduceIte,reduceCtorEq]
theorem zrd(l:List Tok)(hl:l.length≤1000000):ze Tryz.prog 52 [zj l,vi 0,vi l.length] (trV l):=by
 refine ze.of (Orc.nil _) zwA (by simp[c52]) fun w0 own0=> ?_
 simp only[c52,zj,go_sem,zd,seval,reduceIte,reduceCtorEq]
 refine zG.lp (α:=TmS) (fun a=>[(0,.slc 3 (l.map Tok.enc)),(1,vi a.k),(2,vi l.length)]) (fun _=>⟨[],0⟩)
  (fun a=>a.k≤l.length∧l.length≤a.k+a.f∧upA l l.length a.f a.k=trA l) (fun a=>l.length - a.k) ⟨0,l.length⟩ ⟨Nat.zero_le _,by dsimp only;omega,rfl⟩ (St.cut ?_ ?_ ?_) fun a ha=> ?_
 ·simp[zq,zo,zt]
 ·simp
 ·rfl
 obtain⟨k,f⟩:=a
 obtain⟨h1,h2,h3⟩:=ha
 simp only at h1 h2 h3
 have e0:(0:Int)≤(k:Int):=by omega
 by_cases hc:k<l.length∧(l.getD k .zero).kind=1
 ·obtain⟨f,rfl⟩:∃g,f=g+1:=⟨f - 1,by omega⟩
  have e1:(k:Int)<(l.length:Int):=by omega
  have hk:=eq_true hc.2
  simp only[upA]at h3
  rw[if_pos hc]at h3
  simp only[e0,e1,hk,Tok.enc,go_sem,zd,seval,reduceIte,reduceCtorEq]
  exact⟨by omega,⟨k+1,f⟩,⟨by dsimp only;omega,by dsimp only;omega,h3⟩,by dsimp only;omega,by dsimp only;omega⟩
 ·have h4:k=trA l:=by
   rw[←h3]
   cases f with
   |zero=>rfl
   |succ f=>simp only[upA];rw[if_neg hc]
  have hbr:=zcG l
  subst h4
  by_cases e1:((trA l:Nat):Int)<(l.length:Int)
  ·have hk:((l.getD (trA l) .zero).kind=1)=False:=eq_false (fun hh=>hc ⟨by omega,hh⟩)
   simp only[e0,e1,hk,Tok.enc,go_sem,zd,seval,reduceIte,reduceCtorEq]
   refine zG.lp (α:=Nat) (fun k=>[(0,.slc 3 (l.map Tok.enc)),(1,vi (trA l)),(2,vi k)]) (fun _=>⟨[],0⟩)
    (fun k=>trA l≤k∧k≤l.length∧dnB l (trA l) k=trB l) (fun k=>k) l.length ⟨by omega,Nat.le_refl _,rfl⟩ (St.cut ?_ ?_ ?_) fun k hk2=> ?_
   ·simp[zq,zo,yb]
   ·simp
   ·rfl
   obtain⟨g1,g2,g3⟩:=hk2
   by_cases hgt:trA l<k
   ·obtain⟨j,rfl⟩:∃j,k=j+1:=⟨k - 1,by omega⟩
    have d1:((trA l:Nat):Int)<((j+1:Nat):Int):=by omega
    have d2:(((j+1:Nat):Int) - 1).toNat=j:=by omega
    have d3:(0:Int)≤((j+1:Nat):Int) - 1:=by omega
    have d4:((j+1:Nat):Int) - 1<(l.length:Int):=by omega
    simp only[dnB]at g3
    by_cases hs:(l.getD j .zero).kind=1
    ·have hst:=eq_true hs
     rw[if_pos ⟨hgt,hs⟩]at g3
     simp only[d1,d2,d3,d4,hst,Tok.enc,go_sem,zd,seval,reduceIte,reduceCtorEq]
     exact⟨by omega,by omega,j,⟨by omega,by omega,g3⟩,by omega,by omega⟩
    ·have hst:=eq_false hs
     rw[if_neg (fun hh=>hs hh.2)]at g3
     simp only[d1,d2,d3,d4,hst,trV,←g3,Tok.enc,go_sem,zd,seval,reduceIte,reduceCtorEq]
     omega
   ·have d1:¬((trA l:Nat):Int)<(k:Int):=by omega
    have g4:k=trB l:=by
     rw[←g3]
     cases k with
     |zero=>rfl
     |succ j=>simp only[dnB];rw[if_neg (fun hh=>hgt hh.1)]
    simp only[d1,trV,←g4,Tok.enc,go_sem,zd,seval,reduceIte,reduceCtorEq]
  ·simp only[e0,e1,Tok.enc,go_sem,zd,seval,reduceIte,reduceCtorEq]
   refine zG.lp (α:=Nat) (fun k=>[(0,.slc 3 (l.map Tok.enc)),(1,vi (trA l)),(2,vi k)]) (fun _=>⟨[],0⟩)
    (fun k=>trA l≤k∧k≤l.length∧dnB l (trA l) k=trB l) (fun k=>k) l.length ⟨by omega,Nat.le_refl _,rfl⟩ (St.cut ?_ ?_ ?_) fun k hk2=> ?_
   ·simp[zq,zo,yb]
   ·simp
   ·rfl
   obtain⟨g1,g2,g3⟩:=hk2
   by_cases hgt:trA l<k
   ·obtain⟨j,rfl⟩:∃j,k=j+1:=⟨k - 1,by omega⟩
    have d1:((trA l:Nat):Int)<((j+1:Nat):Int):=by omega
    have d2:(((j+1:Nat):Int) - 1).toNat=j:=by omega
    have d3:(0:Int)≤((j+1:Nat):Int) - 1:=by omega
    have d4:((j+1:Nat):Int) - 1<(l.length:Int):=by omega
    simp only[dnB]at g3
    by_cases hs:(l.getD j .zero).kind=1
    ·have hst:=eq_true hs
     rw[if_pos ⟨hgt,hs⟩]at g3
     simp only[d1,d2,d3,d4,hst,Tok.enc,go_sem,zd,seval,reduceIte,reduceCtorEq]
     exact⟨by omega,by omega,j,⟨by omega,by omega,g3⟩,by omega,by omega⟩
    ·have hst:=eq_false hs
     rw[if_neg (fun hh=>hs hh.2)]at g3
     simp only[d1,d2,d3,d4,hst,trV,←g3,Tok.enc,go_sem,zd,seval,reduceIte,reduceCtorEq]
     omega
   ·have d1:¬((trA l:Nat):Int)<(k:Int):=by omega
    have g4:k=trB l:=by
     rw[←g3]
     cases k with
     |zero=>rfl
     |succ j=>simp only[dnB];rw[if_neg (fun hh=>hgt hh.1)]
    simp only[d1,trV,←g4,Tok.enc,go_sem,zd,seval,reduceIte,reduceCtorEq]
def jY:Sum Tryz.prog:=⟨148,fun args=>args= [zj (zi (args.getD 0 .any)),vi 0,vi (zi (args.getD 0 .any)).length]∧((zi (args.getD 0 .any))).length≤1000000,fun args=>trV (zi (args.getD 0 .any)),fun args h=>by
 have:=zuA (zi (args.getD 0 .any)) h.2;rwa [←h.1]at this,false⟩
theorem zlM:jY.f=148:=rfl
theorem zlL(args:List V):jY.D args=(args= [zj (zi (args.getD 0 .any)),vi 0,vi (zi (args.getD 0 .any)).length]∧((zi (args.getD 0 .any))).length≤1000000):=rfl
theorem zcD:jY.flat=false:=rfl
theorem zlN(args:List V):jY.r args=trV (zi (args.getD 0 .any)):=rfl
attribute [go_sem] zlM zlL zcD zlN
def ja:Sum Tryz.prog:=⟨52,fun args=>args= [zj (zi (args.getD 0 .any)),vi 0,vi (zi (args.getD 0 .any)).length]∧((zi (args.getD 0 .any))).length≤1000000,fun args=>trV (zi (args.getD 0 .any)),fun args h=>by
 have:=zrd (zi (args.getD 0 .any)) h.2;rwa [←h.1]at this,false⟩
theorem zhw:ja.f=52:=rfl
theorem zhv(args:List V):ja.D args=(args= [zj (zi (args.getD 0 .any)),vi 0,vi (zi (args.getD 0 .any)).length]∧((zi (args.getD 0 .any))).length≤1000000):=rfl
theorem zaw:ja.flat=false:=rfl
theorem zhx(args:List V):ja.r args=trV (zi (args.getD 0 .any)):=rfl
attribute [go_sem] zhw zhv zaw zhx
theorem zot{l:List Tok}(hd:z3 l=false):∀(f:Nat)(k:Nat),∀x∈plR (zv l) l.length f k,(k:Int)≤x
 |0,k,x,hx=>by simp[plR]at hx
 |f+1,k,x,hx=>by
  simp only[plR]at hx
  split at hx
  ·rename_i h
   rcases List.mem_cons.1 hx with rfl|hx
   ·exact Int.le_refl _
   ·obtain⟨n,hn1,hn2,_⟩:=kZ hd k (by omega)
    rw[hn1]at hx
    have:=zot hd f n x hx
    omega
  ·cases hx
theorem zgB{l:List Tok}(hd:z3 l=false):∀(f:Nat)(k:Nat),(plR (zv l) l.length f k).Pairwise (· < ·)
 |0,k=>by simp[plR]
 |f+1,k=>by
  simp only[plR]
  split
  ·rename_i h
   obtain⟨n,hn1,hn2,_⟩:=kZ hd k (by omega)
   rw[hn1]
   refine List.pairwise_cons.2 ⟨fun x hx=> ?_,zgB hd f n⟩
   have:=zot hd f n x hx
   omega
  ·exact List.Pairwise.nil
structure SnS where
 k:Nat
 b:Int
 out:List (Int×Int)
 ver:Nat
 clk:Nat
theorem zdw(l:List Int)(k:Nat)(h:k<l.length):l.drop k=l.getD k 0::l.drop (k+1):=Xp l k h
theorem zkm(l:List Tok)(hd:z3 l=false)(hl:l.length≤1000000):ze Tryz.prog 53 [zj l,zH (zv l),vi 0,vi l.length,vi 16] (prs (JZ l)):=by
 obtain⟨S,s1,s2,s3,s4⟩:=X8 l hd hl
 refine ze.of (Orc.cons S (Orc.nil _)) zwB (by simp[c53]) fun w0 own0=> ?_
 have hmem:=Xf hd (l.length+1) 0
 have hpw:=zgB hd (l.length+1) 0
 have hln:=Xe hd (l.length+1) 0 (Nat.zero_le _)
 rw[ziL hd]
 rw[show((0:Nat):Int)=0 from rfl]at hmem hpw hln
 generalize plR (zv l) l.length (l.length+1) 0=ps at*
 generalize hR:rsK l 16 l.length 0 ps=R
 simp only[c53,zj,zH,s1,s2,s3,s4,go_sem,zd,seval,reduceIte,reduceCtorEq]
 refine zG.lp (α:=SnS) (fun a=>[(0,.slc 3 (l.map Tok.enc)),(3,vi l.length),(4,vi 16),(11,.ref 0 a.ver 0 a.out.length),(12,vi a.b),(13,.slc 1 (ps.map fun n=>[vi n])),(14,vi a.k)])
  (fun a=>⟨[⟨a.ver,2,a.out.map fun p=>[vi p.1,vi p.2],false,[vi 0,vi 0]⟩],a.clk⟩) (fun a=>a.k≤ps.length∧a.out.length≤a.k∧a.out++rsK l 16 l.length a.b (ps.drop a.k)=R∧∀p∈ps.drop a.k,a.b≤p) (fun a=>ps.length - a.k) ⟨0,0,[],0,1⟩
  ⟨Nat.zero_le _,Nat.zero_le _,hR,fun p hp=>(hmem p hp).1⟩ (St.nil 11 2 [vi 0,vi 0] (by simp[zo]) (St.cut ?_ ?_ ?_)) fun a ha=> ?_
 ·simp[zq,zo,zt]
 ·simp[Heap.alloc]
 ·rfl
 obtain⟨k,b,out,ver,clk⟩:=a
 obtain⟨h1,h2,h3,h4⟩:=ha
 simp only at h1 h2 h3 h4
 have hot:out.take out.length=out:=List.take_length
 by_cases hk:k=ps.length
 ·subst hk
  rw[List.drop_length]at h3
  simp only[rsK]at h3
  have hap:(out.map fun p=>[vi p.1,vi p.2])++ [[vi b,vi l.length]]=R.map fun p=>[vi p.1,vi p.2]:=by rw[←h3];simp
  have hlr:R.length=out.length+1:=by rw[←h3];simp
  have hmr:zL (zL (res (fun _=>true) ⟨[],0⟩ 11)) (R.map fun p=>[vi p.1,vi p.2])=some (R.map fun p=>[vi p.1,vi p.2]):=Z0 _ _ R
  have htk:List.take (out.length+1) R=R:=List.take_of_length_le (by omega)
  simp only[Int.lt_irrefl,hot,hap,hlr,htk,Z0,Nat.le_refl,prs,go_sem,zd,seval,reduceIte,reduceCtorEq]
  omega
 ·have e1:(k:Int)<(ps.length:Int):=by omega
  have e0:(0:Int)≤(k:Int):=by omega
  have hlt:k<ps.length:=by omega
  rw[zdw ps k hlt]at h3 h4
  have hpm:ps.getD k 0∈ps:=by rw[List.getD_eq_getElem?_getD,List.getElem?_eq_getElem hlt];exact List.getElem_mem _
  have hpr:=hmem _ hpm
  have hpd:∀q∈ps.drop (k+1),ps.getD k 0<q:=by
   have h5:(ps.drop k).Pairwise (· < ·):=hpw.drop
   rw[zdw ps k hlt]at h5
   exact(List.pairwise_cons.1 h5).1
  have hg:=z4 ps k
  generalize ps.getD k 0=p at*
  obtain⟨m,rfl⟩:∃m:Nat,p=m:=⟨p.toNat,by omega⟩
  have hbm:=h4 (m:Int) (by simp)
  simp only[rsK,Int.toNat_natCast]at h3
  by_cases hc:(l.getD m .zero).kind=16
  ·have hct:=eq_true hc
   rw[if_pos hc]at h3
   simp only[e0,e1,hg,hpr.1,hpr.2,hct,hbm,hot,Tok.enc,zH,go_sem,zd,seval,reduceIte,reduceCtorEq]
   refine⟨⟨by omega,by omega,by omega⟩,by omega,by omega,⟨k+1,m+1,out++ [(b,(m:Int))],_,_⟩,⟨by dsimp only;omega,by simp;omega,by rw[←h3];simp,fun q hq=>by have:=hpd q hq;dsimp only;omega⟩,by dsimp only;omega,⟨⟨rfl,by simp⟩,rfl,by dsimp only;omega⟩,⟨rfl,by simp⟩,rfl⟩
  ·have hct:=eq_false hc
   rw[if_neg hc]at h3
   simp only[e0,e1,hg,hpr.1,hpr.2,hct,hot,Tok.enc,zH,go_sem,zd,seval,reduceIte,reduceCtorEq]
   exact⟨by omega,⟨k+1,b,out,ver,clk⟩,⟨by dsimp only;omega,by dsimp only;omega,h3,fun q hq=>h4 q (by simp[hq])⟩,by dsimp only;omega,⟨⟨rfl,rfl⟩,rfl,by dsimp only;omega⟩,⟨rfl,rfl⟩,rfl⟩
structure Dcl where
 nm:ByteArray
 v:List Tok
 imp:Bool
instance:Inhabited Dcl:=⟨⟨⟨#[]⟩,[],false⟩⟩
def Dcl.enc(d:Dcl):List V:=[vs d.nm,.slc 3 (d.v.map Tok.enc),vb d.imp]
def zh5(e:List V):Dcl:=⟨(e.getD 0 .any).str,zi (e.getD 1 .any),V.boo (e.getD 2 .any)⟩
def kw(v:V):Dcl:=zh5 v.cs
def zaf(l:List Dcl):V:=.slc 3 (l.map Dcl.enc)
def qM(v:V):List Dcl:=v.es.map zh5
theorem qL(d:Dcl):zh5 d.enc=d:=by
 show(⟨_,zi (.slc 3 (d.v.map Tok.enc)),_⟩:Dcl)=d
 rw[zf];rfl
theorem zh6(s:ByteArray)(v:List Tok)(b:Bool):kw (.agg [.c (.string s),.slc 3 (v.map Tok.enc),.c (.bool b)])=⟨s,v,b⟩:=qL ⟨s,v,b⟩
theorem qN(sz:Nat)(l:List Dcl):qM (.slc sz (l.map Dcl.enc))=l:=by
 simp[qM,V.es,Function.comp_def,qL]
theorem Dcl.eta'(d:Dcl):(⟨d.nm,d.v,d.imp⟩:Dcl)=d:=rfl
structure Mg where
 nm:ByteArray
 ds:List Dcl
instance:Inhabited Mg:=⟨⟨⟨#[]⟩,[]⟩⟩
def Mg.enc(m:Mg):List V:=[vs m.nm,.slc 3 (m.ds.map Dcl.enc)]
def ztb(e:List V):Mg:=⟨(e.getD 0 .any).str,qM (e.getD 1 .any)⟩
theorem znb(m:Mg):ztb m.enc=m:=by
 show(⟨_,qM (.slc 3 (m.ds.map Dcl.enc))⟩:Mg)=m
 rw[qN];rfl
structure Rul where
 kind:Int
 pre:List Tok
 ds:List Dcl
 ms:List Mg
instance:Inhabited Rul:=⟨⟨0,[],[],[]⟩⟩
def Rul.enc(r:Rul):List V:=[vi r.kind,.slc 3 (r.pre.map Tok.enc),.slc 3 (r.ds.map Dcl.enc),.slc 2 (r.ms.map Mg.enc)]
def znc(e:List V):Rul:=⟨(e.getD 0 .any).int,zi (e.getD 1 .any),qM (e.getD 2 .any),(e.getD 3 .any).es.map ztb⟩
def zae(v:V):Rul:=znc v.cs
theorem zaO(r:Rul):znc r.enc=r:=by
 show(⟨_,zi (.slc 3 (r.pre.map Tok.enc)),qM (.slc 3 (r.ds.map Dcl.enc)),(V.es (.slc 2 (r.ms.map Mg.enc))).map ztb⟩:Rul)=r
 rw[zf,qN]
 have:(V.es (.slc 2 (r.ms.map Mg.enc))).map ztb=r.ms:=by simp[V.es,Function.comp_def,znb]
 rw[this];rfl
theorem ztd(k:Int)(p:List Tok)(d:List Dcl)(m:List Mg):zae (.agg [.c (.int .i64 k),.slc 3 (p.map Tok.enc),.slc 3 (d.map Dcl.enc),.slc 2 (m.map Mg.enc)])=⟨k,p,d,m⟩:=zaO ⟨k,p,d,m⟩
def zgJ(l:List Rul):V:=.slc 4 (l.map Rul.enc)
def Yy(v:V):List Rul:=v.es.map znc
theorem KZ(sz:Nat)(l:List Rul):Yy (.slc sz (l.map Rul.enc))=l:=by
 simp[Yy,V.es,Function.comp_def,zaO]
theorem Rul.eta'(r:Rul):(⟨r.kind,r.pre,r.ds,r.ms⟩:Rul)=r:=rfl
def shE(l:List Rul):List V:=[.slc 4 (l.map Rul.enc)]
def zN(s:List (List Rul)):V:=.slc 1 (s.map shE)
def zD(v:V):List (List Rul):=v.es.map fun e=>Yy (e.getD 0 .any)
theorem zw(sz:Nat)(s:List (List Rul)):zD (.slc sz (s.map shE))=s:=by
 have:∀l:List Rul,Yy (.slc 4 (l.map Rul.enc))=l:=KZ 4
 simp[zD,V.es,Function.comp_def,shE,this]
theorem Y4(l:List Dcl)(i:Nat)(z:List V)(h:i<l.length):(l.map Dcl.enc).getD i z=(l.getD i default).enc:=by
 simp[List.getD_eq_getElem?_getD,h]
theorem XH(l:List Mg)(i:Nat)(z:List V)(h:i<l.length):(l.map Mg.enc).getD i z=(l.getD i default).enc:=by
 simp[List.getD_eq_getElem?_getD,h]
theorem K0(l:List Rul)(i:Nat)(z:List V)(h:i<l.length):(l.map Rul.enc).getD i z=(l.getD i default).enc:=by
 simp[List.getD_eq_getElem?_getD,h]
theorem K1(s:List (List Rul))(i:Nat)(z:List V)(h:i<s.length):(s.map shE).getD i z=shE (s.getD i []):=by
 simp[List.getD_eq_getElem?_getD,h]
abbrev zrb:List Cell:=[.int .i64,.str,.int .i64]
abbrev zw8:List Cell:=[.str,.slc zrb,.bool]
abbrev mgC:List Cell:=[.str,.slc zw8]
abbrev zAn:List Cell:=[.int .i64,.slc zrb,.slc zw8,.slc mgC]
abbrev zx1:List Cell:=[.slc zAn]
theorem Jd{α:Type}(enc:α→List V)(ok:α→Prop):∀(es:List (List V)),(∀e∈es,∃n:α,e=enc n∧ok n)→∃l:List α,es=l.map enc∧∀x∈l,ok x
 | [],_=>⟨[],rfl,by simp⟩
 |e::es,h=>by
  obtain⟨l,hl,ho⟩:=Jd enc ok es fun e' he=>h e' (by simp[he])
  obtain⟨n,hn,hok⟩:=h e (by simp)
  exact⟨n::l,by rw[hl,hn];rfl,fun x hx=>by rcases List.mem_cons.1 hx with rfl|hx;exact hok;exact ho x hx⟩
def zAj(n:Int):Prop:= -9223372036854775808≤n∧n≤9223372036854775807
def zxK(l:List Tok):Prop:=∀t∈l,zAj t.n
theorem zft{x:V}(h:CellOK (.slc zrb) x):∃l:List Tok,x=zj l∧zxK l:=by
 cases h with
 |slc cs ess hl h h2=>
  obtain⟨l,rfl,ho⟩:=Jd Tok.enc (fun t=>zAj t.n) ess fun e he=>by
   have hlen:=h e he
   have a0:=h2 e he 0 _ rfl
   have a1:=h2 e he 1 _ rfl
   have a2:=h2 e he 2 _ rfl
   match e,hlen with
   | [a,b,c],_=>
     simp only[List.getD_cons_zero,List.getD_cons_succ]at a0 a1 a2
     cases a0;cases a1
     cases a2 with
     |int k n hw=>
      refine⟨⟨_,_,n⟩,rfl,?_⟩
      simp[Lit.wf,IntKind.min,IntKind.max,IntKind.signed,IntKind.bits]at hw
      show -9223372036854775808≤n∧n≤9223372036854775807
      omega
  exact⟨l,rfl,ho⟩
def zAi(d:Dcl):Prop:=zxK d.v
def zi4:Nat:=maxLen
theorem zsy:zi4=9223372036854775807:=by decide
def ziv(l:List Dcl):Prop:=l.length≤zi4∧∀d∈l,zAi d
theorem zh7{x:V}(h:CellOK (.slc zw8) x):∃l:List Dcl,x=zaf l∧ziv l:=by
 cases h with
 |slc cs ess hl h h2=>
  obtain⟨l,rfl,ho⟩:=Jd Dcl.enc zAi ess fun e he=>by
   have hlen:=h e he
   have a0:=h2 e he 0 _ rfl
   have a1:=h2 e he 1 _ rfl
   have a2:=h2 e he 2 _ rfl
   match e,hlen with
   | [a,b,c],_=>
     simp only[List.getD_cons_zero,List.getD_cons_succ]at a0 a1 a2
     obtain⟨l,rfl,hb⟩:=zft a1
     cases a0;cases a2
     exact⟨⟨_,l,_⟩,rfl,hb⟩
  exact⟨l,rfl,by simpa using(show _≤zi4 from hl),ho⟩
def zxJ(m:Mg):Prop:=ziv m.ds
def zbU(r:Rul):Prop:=zxK r.pre∧ziv r.ds∧∀m∈r.ms,zxJ m
theorem zxH{x:V}(h:CellOK (.slc mgC) x):∃l:List Mg,x= .slc 2 (l.map Mg.enc)∧∀m∈l,zxJ m:=by
 cases h with
 |slc cs ess hl h h2=>
  obtain⟨l,rfl,ho⟩:=Jd Mg.enc zxJ ess fun e he=>by
   have hlen:=h e he
   have a0:=h2 e he 0 _ rfl
   have a1:=h2 e he 1 _ rfl
   match e,hlen with
   | [a,b],_=>
     simp only[List.getD_cons_zero,List.getD_cons_succ]at a0 a1
     obtain⟨l,rfl,hb⟩:=zh7 a1
     cases a0
     exact⟨⟨_,l⟩,rfl,hb⟩
  exact⟨l,rfl,ho⟩
theorem zt9{x:V}(h:CellOK (.slc zAn) x):∃l:List Rul,x=zgJ l∧∀r∈l,zbU r:=by
 cases h with
 |slc cs ess hl h h2=>
  obtain⟨l,rfl,ho⟩:=Jd Rul.enc zbU ess fun e he=>by
   have hlen:=h e he
   have a0:=h2 e he 0 _ rfl
   have a1:=h2 e he 1 _ rfl
   have a2:=h2 e he 2 _ rfl
   have a3:=h2 e he 3 _ rfl
   match e,hlen with
   | [a,b,c,d],_=>
     simp only[List.getD_cons_zero,List.getD_cons_succ]at a0 a1 a2 a3
     obtain⟨l1,rfl,h1⟩:=zft a1
     obtain⟨l2,rfl,h2⟩:=zh7 a2
     obtain⟨l3,rfl,h3⟩:=zxH a3
     cases a0
     exact⟨⟨_,l1,l2,l3⟩,rfl,h1,h2,h3⟩
  exact⟨l,rfl,ho⟩
theorem zue{x:V}(h:CellOK (.slc zx1) x):∃s:List (List Rul),x=zN s∧∀l∈s,∀r∈l,zbU r:=by
 cases h with
 |slc cs ess hl h h2=>
  obtain⟨l,rfl,ho⟩:=Jd shE (fun l=>∀r∈l,zbU r) ess fun e he=>by
   have hlen:=h e he
   have a0:=h2 e he 0 _ rfl
   match e,hlen with
   | [a],_=>
     simp only[List.getD_cons_zero]at a0
     obtain⟨l,rfl,h1⟩:=zt9 a0
     exact⟨l,rfl,h1⟩
  exact⟨l,rfl,ho⟩
def zag(d:Dcl):Bool:=decide (d.nm.size≤100)&&decide (d.v.length≤20)&&few d.v
def jW(l:List Dcl):Bool:=decide ((∀d∈l,zag d=true)∧l.length≤8)
def zdp(m:Mg):Bool:=decide (m.nm.size≤100)&&jW m.ds
def zdq(r:Rul):Bool:=decide (r.pre.length≤20)&&few r.pre&&decide (r.ms.length≤8)&&jW r.ds&&decide (∀m∈r.ms,zdp m=true)
def QH(l:List Rul):Bool:=decide ((∀i,i<l.length→i≤8→zdq (l.getD i default)=true)∧l.length≤8)
def Q7(s:List (List Rul)):Bool:=decide ((∀i,i<s.length→i≤4→QH (s.getD i [])=true)∧s.length≤4)
theorem yt{α:Type}{l:List α}{i:Nat}{d:α}(h:i<l.length):l.getD i d∈l:=by
 rw[List.getD_eq_getElem?_getD,List.getElem?_eq_getElem h];exact List.getElem_mem _
theorem Zz{α:Type}{l:List α}{x d:α}(h:x∈l):∃i,i<l.length∧l.getD i d=x:=by
 obtain⟨i,hi,e⟩:=List.mem_iff_getElem.1 h
 exact⟨i,hi,by rw[List.getD_eq_getElem?_getD,List.getElem?_eq_getElem hi];exact e⟩
def Qe:Sum Tryz.prog:=⟨7,fun args=>args= [zj (zi (args.getD 0 .any))],fun args=>vb (few (zi (args.getD 0 .any))),fun args h=>by have:=zxj (zi (args.getD 0 .any));rwa [←h]at this,true⟩
theorem yd:Qe.f=7:=rfl
theorem yc(args:List V):Qe.D args=(args= [zj (zi (args.getD 0 .any))]):=rfl
theorem zO:Qe.flat=true:=rfl
theorem ye(args:List V):Qe.r args=vb (few (zi (args.getD 0 .any))):=rfl
theorem znA{l:List Dcl}{k:Nat}(h:k<l.length)(hn:zag (l.getD k default)=false):jW l=false:=
 decide_eq_false fun hh=>by have:=hh.1 _ (yt (d:=default) h);rw[hn]at this;cases this
structure FdS where
 k:Nat
 clk:Nat
theorem znB(l:List Dcl)(hl:l.length≤zi4):ze Tryz.prog 99 [zaf l] (vb (jW l)):=by
 rw[zsy]at hl
 refine ze.of (Orc.cons Qe (Orc.nil _)) zw6 (by simp[c99]) fun w0 own0=> ?_
 simp -implicitDefEqProofs only[c99,zaf,zc,zb,za,yd,yc,zO,ye,go_sem,seval,reduceIte,reduceCtorEq]
 refine zG.lp (α:=FdS) (fun a=>[(0,.slc 3 (l.map Dcl.enc)),(5,.slc 3 (l.map Dcl.enc)),(6,vi l.length),(7,vi a.k)]) (fun a=>⟨[],a.clk⟩)
  (fun a=>a.k≤l.length∧∀i,i<a.k→zag (l.getD i default)=true) (fun a=>l.length - a.k) ⟨0,0⟩ ⟨Nat.zero_le _,fun i hi=>by simp at hi⟩ (St.cut ?_ ?_ ?_) fun a ha=> ?_
 ·simp[zq,zo,zt]
 ·rfl
 ·rfl
 obtain⟨k,clk⟩:=a
 obtain⟨g1,g2⟩:=ha
 simp only at g1 g2
 by_cases he:k=l.length
 ·have hR:jW l=decide ((l.length:Int)≤8):=by
   unfold jW
   rw[Bool.eq_iff_iff,decide_eq_true_eq,decide_eq_true_eq]
   constructor
   ·rintro⟨_,h⟩;omega
   ·refine fun h=>⟨fun d hd=> ?_,by omega⟩
    obtain⟨i,hi,rfl⟩:=Zz (d:=default) hd
    exact g2 i (by omega)
  have e9:=eq_false (show ¬(k:Int)<(l.length:Int)by omega)
  rw[hR]
  simp -implicitDefEqProofs only[e9,zc,zb,za,yd,yc,zO,ye,go_sem,seval,reduceIte,reduceCtorEq]
 have f1:=eq_true (show(k:Int)<(l.length:Int)by omega)
 have f0:=eq_true (show(0:Int)≤(k:Int)by omega)
 have hg:=fun z=>Y4 l k z (by omega)
 have hno:=znA (l:=l) (k:=k) (by omega)
 have hnx:zag (l.getD k default)=true→∀i,i<k+1→zag (l.getD i default)=true:=fun h i hi=>by
  by_cases e:i=k
  ·rw[e];exact h
  ·exact g2 i (by omega)
 generalize l.getD k default=d at*
 obtain⟨nm,v,imp⟩:=d
 by_cases c1:nm.size≤100
 ·have n1:=eq_false (show ¬(100:Int)<(nm.size:Int)by omega)
  by_cases c2:v.length≤20
  ·have n2:=eq_false (show ¬(20:Int)<(v.length:Int)by omega)
   cases hf:few v with
   |true=>
    simp -implicitDefEqProofs only[f0,f1,hg,n1,n2,hf,Dcl.enc,zj,zf,zc,zb,za,yd,yc,zO,ye,go_sem,seval,reduceIte,reduceCtorEq]
    exact⟨by omega,⟨k+1,clk+1⟩,⟨by dsimp only;omega,hnx (by unfold zag;rw[decide_eq_true c1,decide_eq_true c2,hf];rfl)⟩,by dsimp only;omega,by dsimp only;omega,rfl⟩
   |false=>
    have h0:=hno (by unfold zag;rw[hf,Bool.and_false])
    simp -implicitDefEqProofs only[f0,f1,hg,n1,n2,hf,h0,Dcl.enc,zj,zf,zc,zb,za,yd,yc,zO,ye,go_sem,seval,reduceIte,reduceCtorEq]
  ·have n2:=eq_true (show(20:Int)<(v.length:Int)by omega)
   have h0:=hno (by unfold zag;rw[decide_eq_false c2,Bool.and_false];rfl)
   simp -implicitDefEqProofs only[f0,f1,hg,n1,n2,h0,Dcl.enc,zj,zf,zc,zb,za,yd,yc,zO,ye,go_sem,seval,reduceIte,reduceCtorEq]
 ·have n1:=eq_true (show(100:Int)<(nm.size:Int)by omega)
  have h0:=hno (by unfold zag;rw[decide_eq_false c1];rfl)
  simp -implicitDefEqProofs only[f0,f1,hg,n1,h0,Dcl.enc,zj,zf,zc,zb,za,yd,yc,zO,ye,go_sem,seval,reduceIte,reduceCtorEq]
def YT:Sum Tryz.prog:=⟨99,fun args=>args= [zaf (qM (args.getD 0 .any))]∧((qM (args.getD 0 .any))).length≤zi4,fun args=>vb (jW (qM (args.getD 0 .any))),fun args h=>by
 have:=znB (qM (args.getD 0 .any)) h.2;rwa [←h.1]at this,true⟩
theorem zhh:YT.f=99:=rfl
theorem zhg(args:List V):YT.D args=(args= [zaf (qM (args.getD 0 .any))]∧((qM (args.getD 0 .any))).length≤zi4):=rfl
theorem zas:YT.flat=true:=rfl
theorem zhi(args:List V):YT.r args=vb (jW (qM (args.getD 0 .any))):=rfl
attribute [go_sem] zhh zhg zas zhi
theorem ztm{l:List Rul}{k:Nat}(h:k<l.length)(h8:k≤8)(hn:zdq (l.getD k default)=false):QH l=false:=
 decide_eq_false fun hh=>by have:=hh.1 k h h8;rw[hn]at this;cases this
theorem ztn(l:List Rul)(hl:∀r∈l,zbU r):ze Tryz.prog 70 [zgJ l] (vb (QH l)):=by
 refine ze.of (Orc.cons Qe (Orc.cons YT (Orc.nil _))) zwM (by simp[c70]) fun w0 own0=> ?_
 simp -implicitDefEqProofs only[c70,zgJ,zc,zb,za,yd,yc,zO,ye,go_sem,seval,reduceIte,reduceCtorEq]
 refine zG.lp (α:=FdS) (fun a=>[(0,.slc 4 (l.map Rul.enc)),(3,.fn 99 []),(4,vi a.k)]) (fun a=>⟨[],a.clk⟩)
  (fun a=>a.k≤l.length∧a.k≤9∧∀i,i<a.k→zdq (l.getD i default)=true) (fun a=>l.length - a.k) ⟨0,0⟩ ⟨Nat.zero_le _,by dsimp only;omega,fun i hi=>by simp at hi⟩ (St.cut ?_ ?_ ?_) fun a ha=> ?_
 ·simp[zq,zo,zt]
 ·rfl
 ·rfl
 obtain⟨k,clk⟩:=a
 obtain⟨g1,g9,g2⟩:=ha
 simp only at g1 g9 g2
 by_cases he:k<l.length∧k≤8
 case neg=>
  have hR:QH l=decide ((l.length:Int)≤8):=by
   unfold QH
   rw[Bool.eq_iff_iff,decide_eq_true_eq,decide_eq_true_eq]
   constructor
   ·rintro⟨_,h⟩;omega
   ·exact fun h=>⟨fun i hi h8=>g2 i (by omega),by omega⟩
  rw[hR]
  by_cases hk:k<l.length
  ·have f1:=eq_true (show(k:Int)<(l.length:Int)by omega)
   have f8:=eq_false (show ¬(k:Int)≤8 by omega)
   simp -implicitDefEqProofs only[f1,f8,zc,zb,za,yd,yc,zO,ye,go_sem,seval,reduceIte,reduceCtorEq]
  ·have f1:=eq_false (show ¬(k:Int)<(l.length:Int)by omega)
   simp -implicitDefEqProofs only[f1,zc,zb,za,yd,yc,zO,ye,go_sem,seval,reduceIte,reduceCtorEq]
 obtain⟨k1,k2⟩:=he
 have f1:=eq_true (show(k:Int)<(l.length:Int)by omega)
 have f8:=eq_true (show(k:Int)≤8 by omega)
 have f0:=eq_true (show(0:Int)≤(k:Int)by omega)
 have hg:=fun z=>K0 l k z (by omega)
 have hno:=ztm (l:=l) k1 k2
 have hnx:zdq (l.getD k default)=true→∀i,i<k+1→zdq (l.getD i default)=true:=fun h i hi=>by
  by_cases e:i=k
  ·rw[e];exact h
  ·exact g2 i (by omega)
 have hrk:=hl _ (yt (d:=default) k1)
 generalize l.getD k default=r at*
 obtain⟨kd,pre,ds,ms⟩:=r
 have hd6:=hrk.2.1.1
 have hm6:=hrk.2.2
 simp only at hd6 hm6
 clear hrk
 have eR:zdq ⟨kd,pre,ds,ms⟩=(decide (pre.length≤20)&&few pre&&decide (ms.length≤8)&&jW ds&&decide (∀m∈ms,zdp m=true)):=rfl
 rw[eR]at hno hnx
 clear eR
 by_cases c1:pre.length≤20
 case neg=>
  have n1:=eq_true (show(20:Int)<(pre.length:Int)by omega)
  have h0:=hno (by rw[decide_eq_false c1];rfl)
  simp -implicitDefEqProofs only[f0,f1,f8,hg,n1,h0,Rul.enc,zj,zf,zc,zb,za,yd,yc,zO,ye,go_sem,seval,reduceIte,reduceCtorEq]
 have n1:=eq_false (show ¬(20:Int)<(pre.length:Int)by omega)
 rw[decide_eq_true c1,Bool.true_and]at hno hnx
 cases hf:few pre with
 |false=>
  have h0:=hno (by rw[hf];rfl)
  simp -implicitDefEqProofs only[f0,f1,f8,hg,n1,hf,h0,Rul.enc,zj,zf,zc,zb,za,yd,yc,zO,ye,go_sem,seval,reduceIte,reduceCtorEq]
 |true=>
 rw[hf,Bool.true_and]at hno hnx
 by_cases c3:ms.length≤8
 case neg=>
  have n3:=eq_true (show(8:Int)<(ms.length:Int)by omega)
  have h0:=hno (by rw[decide_eq_false c3];rfl)
  simp -implicitDefEqProofs only[f0,f1,f8,hg,n1,hf,n3,h0,Rul.enc,zj,zf,zc,zb,za,yd,yc,zO,ye,go_sem,seval,reduceIte,reduceCtorEq]
 have n3:=eq_false (show ¬(8:Int)<(ms.length:Int)by omega)
 rw[decide_eq_true c3,Bool.true_and]at hno hnx
 cases hd:jW ds with
 |false=>
  have h0:=hno (by rw[hd];rfl)
  simp -implicitDefEqProofs only[f0,f1,f8,hg,n1,hf,n3,hd,hd6,h0,Rul.enc,zj,zaf,zf,qN,zc,zb,za,yd,yc,zO,ye,go_sem,seval,reduceIte,reduceCtorEq]
 |true=>
 rw[hd,Bool.true_and]at hno hnx
 simp -implicitDefEqProofs only[f0,f1,f8,hg,n1,hf,n3,hd,hd6,Rul.enc,zj,zaf,zf,qN,zc,zb,za,yd,yc,zO,ye,go_sem,seval,reduceIte,reduceCtorEq]
 refine zG.lp (α:=FdS) (fun a=>[(0,.slc 4 (l.map Rul.enc)),(3,.fn 99 []),(4,vi k),(56,.slc 2 (ms.map Mg.enc)),(57,vi ms.length),(58,vi a.k)]) (fun a=>⟨[],a.clk⟩)
  (fun a=>a.k≤ms.length∧∀i,i<a.k→zdp (ms.getD i default)=true) (fun a=>ms.length - a.k) ⟨0,clk⟩ ⟨Nat.zero_le _,fun i hi=>by simp at hi⟩ (St.cut ?_ ?_ ?_) fun a ha=> ?_
 ·simp[zq,zo,yb]
 ·rfl
 ·rfl
 obtain⟨j,clk2⟩:=a
 obtain⟨b1,b2⟩:=ha
 simp only at b1 b2
 by_cases hj:j=ms.length
 ·have e9:=eq_false (show ¬(j:Int)<(ms.length:Int)by omega)
  have hall:=hnx (decide_eq_true fun m hm=>by
   obtain⟨i,hi,rfl⟩:=Zz (d:=default) hm
   exact b2 i (by omega))
  simp -implicitDefEqProofs only[e9,zc,zb,za,yd,yc,zO,ye,go_sem,seval,reduceIte,reduceCtorEq]
  exact⟨by omega,⟨k+1,clk2⟩,⟨by dsimp only;omega,by dsimp only;omega,hall⟩,by dsimp only;omega,by dsimp only;omega,rfl⟩
 have j1:=eq_true (show(j:Int)<(ms.length:Int)by omega)
 have j0:=eq_true (show(0:Int)≤(j:Int)by omega)
 have hgm:=fun z=>XH ms j z (by omega)
 have hmem:=yt (d:=(default:Mg)) (show j<ms.length by omega)
 have hnoM:zdp (ms.getD j default)=false→QH l=false:=fun h=>hno (decide_eq_false fun hh=>by have:=hh _ hmem;rw[h]at this;cases this)
 have hmb:=(hm6 _ hmem).1
 have hnm:zdp (ms.getD j default)=true→∀i,i<j+1→zdp (ms.getD i default)=true:=fun h i hi=>by
  by_cases e:i=j
  ·rw[e];exact h
  ·exact b2 i (by omega)
 clear hm6 hmem
 generalize ms.getD j default=m at*
 obtain⟨nm,md⟩:=m
 simp only at hmb
 have eM:zdp ⟨nm,md⟩=(decide (nm.size≤100)&&jW md):=rfl
 rw[eM]at hnoM hnm
 by_cases c4:nm.size≤100
 ·have n4:=eq_false (show ¬(100:Int)<(nm.size:Int)by omega)
  cases hfm:jW md with
  |true=>
   simp -implicitDefEqProofs only[j0,j1,hgm,hmb,n4,hfm,Mg.enc,zaf,qN,zc,zb,za,yd,yc,zO,ye,go_sem,seval,reduceIte,reduceCtorEq]
   exact⟨by omega,⟨j+1,clk2+1⟩,⟨by dsimp only;omega,hnm (by rw[decide_eq_true c4,hfm];rfl)⟩,by dsimp only;omega,by dsimp only;omega,rfl⟩
  |false=>
   have h0:=hnoM (by rw[hfm,Bool.and_false])
   simp -implicitDefEqProofs only[j0,j1,hgm,hmb,n4,hfm,h0,Mg.enc,zaf,qN,zc,zb,za,yd,yc,zO,ye,go_sem,seval,reduceIte,reduceCtorEq]
 ·have n4:=eq_true (show(100:Int)<(nm.size:Int)by omega)
  have h0:=hnoM (by rw[decide_eq_false c4];rfl)
  simp -implicitDefEqProofs only[j0,j1,hgm,n4,h0,Mg.enc,zaf,qN,zc,zb,za,yd,yc,zO,ye,go_sem,seval,reduceIte,reduceCtorEq]
def KE:Sum Tryz.prog:=⟨70,fun args=>args= [zgJ (Yy (args.getD 0 .any))]∧∀r∈(Yy (args.getD 0 .any)),zbU r,fun args=>vb (QH (Yy (args.getD 0 .any))),fun args h=>by
 have:=ztn (Yy (args.getD 0 .any)) h.2;rwa [←h.1]at this,true⟩
theorem zkX:KE.f=70:=rfl
theorem zkW(args:List V):KE.D args=(args= [zgJ (Yy (args.getD 0 .any))]∧∀r∈(Yy (args.getD 0 .any)),zbU r):=rfl
theorem zcm:KE.flat=true:=rfl
theorem zkY(args:List V):KE.r args=vb (QH (Yy (args.getD 0 .any))):=rfl
attribute [go_sem] zkX zkW zcm zkY
def shD(l:List Dcl):Prop:=l.length≤8∧∀d∈l,d.nm.size≤100∧d.v.length≤20∧∀t∈d.v,t.text.size≤100
def shR(r:Rul):Prop:=(r.pre.length≤20∧∀t∈r.pre,t.text.size≤100)∧shD r.ds∧r.ms.length≤8∧∀m∈r.ms,m.nm.size≤100∧shD m.ds
theorem znC{v:List Tok}(h:few v=true):∀t∈v,t.text.size≤100:=fun t ht=>by
 unfold few at h;rw[decide_eq_true_eq]at h
 obtain⟨i,hi,rfl⟩:=Zz (d:=Tok.zero) ht
 exact h.2 i hi
theorem zdo{l:List Dcl}(h:jW l=true):shD l:=by
 unfold jW at h;rw[decide_eq_true_eq]at h
 refine⟨h.2,fun d hd=> ?_⟩
 have:=h.1 d hd
 unfold zag at this
 simp only[Bool.and_eq_true,decide_eq_true_eq]at this
 exact⟨this.1.1,this.1.2,znC this.2⟩
theorem ztp{r:Rul}(h:zdq r=true):shR r:=by
 unfold zdq at h
 simp only[Bool.and_eq_true,decide_eq_true_eq]at h
 obtain⟨⟨⟨⟨h1,h2⟩,h3⟩,h4⟩,h5⟩:=h
 refine⟨⟨h1,znC h2⟩,zdo h4,h3,fun m hm=> ?_⟩
 have:=h5 m hm
 unfold zdp at this
 simp only[Bool.and_eq_true,decide_eq_true_eq]at this
 exact⟨this.1,zdo this.2⟩
theorem zto{l:List Rul}(h:QH l=true):l.length≤8∧∀r∈l,shR r:=by
 unfold QH at h;rw[decide_eq_true_eq]at h
 refine⟨h.2,fun r hr=> ?_⟩
 obtain⟨i,hi,rfl⟩:=Zz (d:=default) hr
 exact ztp (h.1 i hi (by omega))
end Go.Proofs.YtlaopdfpncckeaaGreatDoor
